/-
  No cell of these rows narrows 'for every input' (looked for: loops, veiled, ifaces, maps, wideKeys, modest, calm, conditions, laid).
  DERIVED. THE GIVEN ROWS OF THIS SEAT. 4 by the template 'for every input the law returns true; each argument reads behind the call as it read before'; 0 by the template 'total and deterministic' (their statements: YtnoeehdccknhnaaTotals.lean).
  GIVEN WITH THE SEED: the statements are not yours to turn. If you find one false, say at which input.
  Laid BY PROGRAM, IN A SANDBOX (cutbox-rows.mjs): the forced cells as the released guide's own fill.sh prints them over the translation 8d56f3e6e881da53… (all of the seat's roots in one cut). By AI agents, Wed Nov 11 2026. No macro, syntax, notation, axiom, sorry.
-/
import Derived.Test.YtnoeehdccknhnaaChecked
import GoSem.Claim
import GoSem.ClaimJoined
import GoSem.ClaimMapViews
import Derived.JoinedTies
import Derived.KernelRfl
namespace Go.Proofs.Ytnoeehdccknhnaa
/- THE CELL 'sum', in the pinned program and in every row, IS THE sha256 OF THE DUMP (.gsa) THAT YtnoeehdccknhnaaProg.lean LOADS. Nothing in Lean hashes anything: it is a label: what it is worth is what the hold of that sum in a sandbox is worth. -/
noncomputable def Try.pinned : Pinned := { name := "ytnoeehdccknhnaa", sum := "8d56f3e6e881da53a63bfa3d2dbf419c7a6fadf0793bacbe7b6abd4cfd4417b2", checked := Try.checked }
namespace Rows
def none {H : Type} : Left H := { results := [], args := [] }

/-- 'marionettelaw13.StartBuilds': WHATEVER THE INPUT: true; the input reads as it did. -/
def startBuildsSpec : ChangeSpec := { name := "startBuilds", fn := fun _ => fun
  | [d1, d2, d3, d4] => { results := [.lit (.bool true)], args := [d1, d2, d3, d4] }
  | _ => none }
def startBuildsRow : OpenClaim := { program := "ytnoeehdccknhnaa", sum := "8d56f3e6e881da53a63bfa3d2dbf419c7a6fadf0793bacbe7b6abd4cfd4417b2", func := "marionette/marionettelaw13.StartBuilds", spec := "startBuilds", inPlace := ["internal/bytealg.IndexByteString"], apart := false }
def StartBuildsSaid : Prop := startBuildsRow.holds Try.pinned (OpenSpec.ofChange startBuildsSpec)

/-- ITS FALSE NEIGHBOUR: 'it returns false'. Refute it at one input. -/
def startBuildsWrong : ChangeSpec := { name := "startBuilds", fn := fun _ => fun
  | [d1, d2, d3, d4] => { results := [.lit (.bool false)], args := [d1, d2, d3, d4] }
  | _ => none }
def StartBuildsWrongFalsely : Prop := startBuildsRow.holds Try.pinned (OpenSpec.ofChange startBuildsWrong)

/-- 'marionettelaw13.StartReads': WHATEVER THE INPUT: true; the input reads as it did. -/
def startReadsSpec : ChangeSpec := { name := "startReads", fn := fun _ => fun
  | [d1, d2, d3, d4] => { results := [.lit (.bool true)], args := [d1, d2, d3, d4] }
  | _ => none }
def startReadsRow : OpenClaim := { program := "ytnoeehdccknhnaa", sum := "8d56f3e6e881da53a63bfa3d2dbf419c7a6fadf0793bacbe7b6abd4cfd4417b2", func := "marionette/marionettelaw13.StartReads", spec := "startReads", inPlace := ["internal/bytealg.IndexByteString"], apart := false }
def StartReadsSaid : Prop := startReadsRow.holds Try.pinned (OpenSpec.ofChange startReadsSpec)

/-- ITS FALSE NEIGHBOUR: 'it returns false'. Refute it at one input. -/
def startReadsWrong : ChangeSpec := { name := "startReads", fn := fun _ => fun
  | [d1, d2, d3, d4] => { results := [.lit (.bool false)], args := [d1, d2, d3, d4] }
  | _ => none }
def StartReadsWrongFalsely : Prop := startReadsRow.holds Try.pinned (OpenSpec.ofChange startReadsWrong)

/-- 'marionettelaw13.StartLimits': WHATEVER THE INPUT: true; the input reads as it did. -/
def startLimitsSpec : ChangeSpec := { name := "startLimits", fn := fun _ => fun
  | [d1, d2, d3] => { results := [.lit (.bool true)], args := [d1, d2, d3] }
  | _ => none }
def startLimitsRow : OpenClaim := { program := "ytnoeehdccknhnaa", sum := "8d56f3e6e881da53a63bfa3d2dbf419c7a6fadf0793bacbe7b6abd4cfd4417b2", func := "marionette/marionettelaw13.StartLimits", spec := "startLimits", inPlace := ["internal/bytealg.IndexByteString"], apart := false }
def StartLimitsSaid : Prop := startLimitsRow.holds Try.pinned (OpenSpec.ofChange startLimitsSpec)

/-- ITS FALSE NEIGHBOUR: 'it returns false'. Refute it at one input. -/
def startLimitsWrong : ChangeSpec := { name := "startLimits", fn := fun _ => fun
  | [d1, d2, d3] => { results := [.lit (.bool false)], args := [d1, d2, d3] }
  | _ => none }
def StartLimitsWrongFalsely : Prop := startLimitsRow.holds Try.pinned (OpenSpec.ofChange startLimitsWrong)

/-- 'marionettelaw13.StartApart': WHATEVER THE INPUT: true; the input reads as it did. -/
def startApartSpec : ChangeSpec := { name := "startApart", fn := fun _ => fun
  | [d1, d2, d3, d4] => { results := [.lit (.bool true)], args := [d1, d2, d3, d4] }
  | _ => none }
def startApartRow : OpenClaim := { program := "ytnoeehdccknhnaa", sum := "8d56f3e6e881da53a63bfa3d2dbf419c7a6fadf0793bacbe7b6abd4cfd4417b2", func := "marionette/marionettelaw13.StartApart", spec := "startApart", inPlace := ["internal/bytealg.IndexByteString"], apart := false }
def StartApartSaid : Prop := startApartRow.holds Try.pinned (OpenSpec.ofChange startApartSpec)

/-- ITS FALSE NEIGHBOUR: 'it returns false'. Refute it at one input. -/
def startApartWrong : ChangeSpec := { name := "startApart", fn := fun _ => fun
  | [d1, d2, d3, d4] => { results := [.lit (.bool false)], args := [d1, d2, d3, d4] }
  | _ => none }
def StartApartWrongFalsely : Prop := startApartRow.holds Try.pinned (OpenSpec.ofChange startApartWrong)

/- THE SECOND FORM. 'bulk': how many values and letters a reading holds, each counted each time it is reached (what is shared counts as often as it is met; a slice's spare places count too). A statement '..UptoSaid' is the law's where the arguments, and the package variables that the reading takes, are together of bulk at most 1048576: NARROWER than '..Said'. Prove '..Said' where nothing that the law and all that it calls make is longer than what came in: it says more and counts as full. Else prove '..UptoSaid'. A law counts once. -/
mutual
def uptoBulk {H : Type} : DataW H → Nat
  | .lit (.string bytes) => bytes.length + 1
  | .lit _ => 1
  | .nil => 1
  | .ptr d => uptoBulk d + 1
  | .slice elems spare => uptoBulkAll elems + uptoBulkAll spare + 1
  | .agg parts => uptoBulkAll parts + 1
  | .iface _ d => uptoBulk d + 1
  | .map entries => uptoBulkEntries entries + 1
  | .held _ => 1
def uptoBulkAll {H : Type} : List (DataW H) → Nat
  | [] => 0
  | d :: r => uptoBulk d + uptoBulkAll r
def uptoBulkEntries {H : Type} : List (Lit × DataW H) → Nat
  | [] => 0
  | x :: r => uptoBulkEntry x + uptoBulkEntries r
def uptoBulkEntry {H : Type} : Lit × DataW H → Nat
  | (.string bytes, d) => bytes.length + uptoBulk d + 1
  | (_, d) => uptoBulk d + 1
 end
def uptoSmall : (H : Type) → List (DataW H) → Bool := fun _ ds => decide (uptoBulkAll ds ≤ 1048576)
def OpenSpec.upto (s : _root_.Go.ChangeSpec) : _root_.Go.OpenSpec := { _root_.Go.OpenSpec.ofChange s with cond := some uptoSmall }

/-- 'marionettelaw13.StartBuilds', WHERE WHAT IT READS IS OF BULK AT MOST 1048576: true; the input reads as it did. -/
def startBuildsUptoRow : OpenClaim := { program := "ytnoeehdccknhnaa", sum := "8d56f3e6e881da53a63bfa3d2dbf419c7a6fadf0793bacbe7b6abd4cfd4417b2", func := "marionette/marionettelaw13.StartBuilds", spec := "startBuilds", inPlace := ["internal/bytealg.IndexByteString"], apart := false, narrowed := true }
def StartBuildsUptoSaid : Prop := startBuildsUptoRow.holds Try.pinned (OpenSpec.upto startBuildsSpec)

/-- 'marionettelaw13.StartReads', WHERE WHAT IT READS IS OF BULK AT MOST 1048576: true; the input reads as it did. -/
def startReadsUptoRow : OpenClaim := { program := "ytnoeehdccknhnaa", sum := "8d56f3e6e881da53a63bfa3d2dbf419c7a6fadf0793bacbe7b6abd4cfd4417b2", func := "marionette/marionettelaw13.StartReads", spec := "startReads", inPlace := ["internal/bytealg.IndexByteString"], apart := false, narrowed := true }
def StartReadsUptoSaid : Prop := startReadsUptoRow.holds Try.pinned (OpenSpec.upto startReadsSpec)

/-- 'marionettelaw13.StartLimits', WHERE WHAT IT READS IS OF BULK AT MOST 1048576: true; the input reads as it did. -/
def startLimitsUptoRow : OpenClaim := { program := "ytnoeehdccknhnaa", sum := "8d56f3e6e881da53a63bfa3d2dbf419c7a6fadf0793bacbe7b6abd4cfd4417b2", func := "marionette/marionettelaw13.StartLimits", spec := "startLimits", inPlace := ["internal/bytealg.IndexByteString"], apart := false, narrowed := true }
def StartLimitsUptoSaid : Prop := startLimitsUptoRow.holds Try.pinned (OpenSpec.upto startLimitsSpec)

/-- 'marionettelaw13.StartApart', WHERE WHAT IT READS IS OF BULK AT MOST 1048576: true; the input reads as it did. -/
def startApartUptoRow : OpenClaim := { program := "ytnoeehdccknhnaa", sum := "8d56f3e6e881da53a63bfa3d2dbf419c7a6fadf0793bacbe7b6abd4cfd4417b2", func := "marionette/marionettelaw13.StartApart", spec := "startApart", inPlace := ["internal/bytealg.IndexByteString"], apart := false, narrowed := true }
def StartApartUptoSaid : Prop := startApartUptoRow.holds Try.pinned (OpenSpec.upto startApartSpec)

end Rows
end Go.Proofs.Ytnoeehdccknhnaa
