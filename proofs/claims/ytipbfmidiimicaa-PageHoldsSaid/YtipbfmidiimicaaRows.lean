/-
  No cell of these rows narrows 'for every input' (looked for: loops, veiled, ifaces, maps, wideKeys, modest, calm, conditions, laid).
  DERIVED. THE GIVEN ROWS OF THIS SEAT. 3 by the template 'for every input the law returns true; each argument reads behind the call as it read before'; 0 by the template 'total and deterministic' (their statements: YtipbfmidiimicaaTotals.lean).
  GIVEN WITH THE SEED: the statements are not yours to turn. If you find one false, say at which input.
  Laid BY PROGRAM, IN A SANDBOX (cutbox-rows.mjs): the forced cells as the released guide's own fill.sh prints them over the translation 6cedbee755a2e07b… (all of the seat's roots in one cut). By AI agents, Wed Nov 11 2026. No macro, syntax, notation, axiom, sorry.
-/
import Derived.Test.YtipbfmidiimicaaChecked
import GoSem.Claim
import GoSem.ClaimJoined
import GoSem.ClaimMapViews
import Derived.JoinedTies
import Derived.KernelRfl
namespace Go.Proofs.Ytipbfmidiimicaa
/- THE CELL 'sum', in the pinned program and in every row, IS THE sha256 OF THE DUMP (.gsa) THAT YtipbfmidiimicaaProg.lean LOADS. Nothing in Lean hashes anything: it is a label: what it is worth is what the hold of that sum in a sandbox is worth. -/
noncomputable def Try.pinned : Pinned := { name := "ytipbfmidiimicaa", sum := "6cedbee755a2e07bc964291bf08c48562475128a0700d791e8b5b170e4410b6a", checked := Try.checked }
namespace Rows
def none {H : Type} : Left H := { results := [], args := [] }

/-- 'marionettelaw06.PageHolds': WHATEVER THE INPUT: true; the input reads as it did. -/
def pageHoldsSpec : ChangeSpec := { name := "pageHolds", fn := fun _ => fun
  | [d1, d2] => { results := [.lit (.bool true)], args := [d1, d2] }
  | _ => none }
def pageHoldsRow : OpenClaim := { program := "ytipbfmidiimicaa", sum := "6cedbee755a2e07bc964291bf08c48562475128a0700d791e8b5b170e4410b6a", func := "marionette/marionettelaw06.PageHolds", spec := "pageHolds", apart := false }
def PageHoldsSaid : Prop := pageHoldsRow.holds Try.pinned (OpenSpec.ofChange pageHoldsSpec)

/-- ITS FALSE NEIGHBOUR: 'it returns false'. Refute it at one input. -/
def pageHoldsWrong : ChangeSpec := { name := "pageHolds", fn := fun _ => fun
  | [d1, d2] => { results := [.lit (.bool false)], args := [d1, d2] }
  | _ => none }
def PageHoldsWrongFalsely : Prop := pageHoldsRow.holds Try.pinned (OpenSpec.ofChange pageHoldsWrong)

/-- 'marionettelaw06.PageFar': WHATEVER THE INPUT: true; the input reads as it did. -/
def pageFarSpec : ChangeSpec := { name := "pageFar", fn := fun _ => fun
  | [d1, d2] => { results := [.lit (.bool true)], args := [d1, d2] }
  | _ => none }
def pageFarRow : OpenClaim := { program := "ytipbfmidiimicaa", sum := "6cedbee755a2e07bc964291bf08c48562475128a0700d791e8b5b170e4410b6a", func := "marionette/marionettelaw06.PageFar", spec := "pageFar", apart := false }
def PageFarSaid : Prop := pageFarRow.holds Try.pinned (OpenSpec.ofChange pageFarSpec)

/-- ITS FALSE NEIGHBOUR: 'it returns false'. Refute it at one input. -/
def pageFarWrong : ChangeSpec := { name := "pageFar", fn := fun _ => fun
  | [d1, d2] => { results := [.lit (.bool false)], args := [d1, d2] }
  | _ => none }
def PageFarWrongFalsely : Prop := pageFarRow.holds Try.pinned (OpenSpec.ofChange pageFarWrong)

/-- 'marionettelaw06.PageApart': WHATEVER THE INPUT: true; the input reads as it did. -/
def pageApartSpec : ChangeSpec := { name := "pageApart", fn := fun _ => fun
  | [d1, d2, d3] => { results := [.lit (.bool true)], args := [d1, d2, d3] }
  | _ => none }
def pageApartRow : OpenClaim := { program := "ytipbfmidiimicaa", sum := "6cedbee755a2e07bc964291bf08c48562475128a0700d791e8b5b170e4410b6a", func := "marionette/marionettelaw06.PageApart", spec := "pageApart", apart := false }
def PageApartSaid : Prop := pageApartRow.holds Try.pinned (OpenSpec.ofChange pageApartSpec)

/-- ITS FALSE NEIGHBOUR: 'it returns false'. Refute it at one input. -/
def pageApartWrong : ChangeSpec := { name := "pageApart", fn := fun _ => fun
  | [d1, d2, d3] => { results := [.lit (.bool false)], args := [d1, d2, d3] }
  | _ => none }
def PageApartWrongFalsely : Prop := pageApartRow.holds Try.pinned (OpenSpec.ofChange pageApartWrong)

/- THE SECOND FORM. 'bulk': how many values and letters a reading holds, each counted each time it is reached (what is shared counts as often as it is met; a slice's spare places count too). A statement '..UptoSaid' is the law's where the arguments, and the package variables that the reading takes, are together of bulk at most 1048576: NARROWER than '..Said'. Prove '..Said' where nothing that the law and all that it calls make is longer than what came in: it says more and counts as full. Else prove '..UptoSaid'. A law counts once. -/
mutual
def uptoBulk {H : Type} : DataW H → Nat
  | .lit (.string bytes) => bytes.length + 1
  | .lit _ => 1
  | .nil => 1
  | .ptr d => uptoBulk d + 1
  | .slice elems spare => uptoBulkAll elems + uptoBulkAll spare + 1
  | .agg parts => uptoBulkAll parts + 1
  | .iface _ d => uptoBulk d + 1
  | .map entries => uptoBulkEntries entries + 1
  | .held _ => 1
def uptoBulkAll {H : Type} : List (DataW H) → Nat
  | [] => 0
  | d :: r => uptoBulk d + uptoBulkAll r
def uptoBulkEntries {H : Type} : List (Lit × DataW H) → Nat
  | [] => 0
  | x :: r => uptoBulkEntry x + uptoBulkEntries r
def uptoBulkEntry {H : Type} : Lit × DataW H → Nat
  | (.string bytes, d) => bytes.length + uptoBulk d + 1
  | (_, d) => uptoBulk d + 1
 end
def uptoSmall : (H : Type) → List (DataW H) → Bool := fun _ ds => decide (uptoBulkAll ds ≤ 1048576)
def OpenSpec.upto (s : _root_.Go.ChangeSpec) : _root_.Go.OpenSpec := { _root_.Go.OpenSpec.ofChange s with cond := some uptoSmall }

/-- 'marionettelaw06.PageHolds', WHERE WHAT IT READS IS OF BULK AT MOST 1048576: true; the input reads as it did. -/
def pageHoldsUptoRow : OpenClaim := { program := "ytipbfmidiimicaa", sum := "6cedbee755a2e07bc964291bf08c48562475128a0700d791e8b5b170e4410b6a", func := "marionette/marionettelaw06.PageHolds", spec := "pageHolds", apart := false, narrowed := true }
def PageHoldsUptoSaid : Prop := pageHoldsUptoRow.holds Try.pinned (OpenSpec.upto pageHoldsSpec)

/-- 'marionettelaw06.PageFar', WHERE WHAT IT READS IS OF BULK AT MOST 1048576: true; the input reads as it did. -/
def pageFarUptoRow : OpenClaim := { program := "ytipbfmidiimicaa", sum := "6cedbee755a2e07bc964291bf08c48562475128a0700d791e8b5b170e4410b6a", func := "marionette/marionettelaw06.PageFar", spec := "pageFar", apart := false, narrowed := true }
def PageFarUptoSaid : Prop := pageFarUptoRow.holds Try.pinned (OpenSpec.upto pageFarSpec)

/-- 'marionettelaw06.PageApart', WHERE WHAT IT READS IS OF BULK AT MOST 1048576: true; the input reads as it did. -/
def pageApartUptoRow : OpenClaim := { program := "ytipbfmidiimicaa", sum := "6cedbee755a2e07bc964291bf08c48562475128a0700d791e8b5b170e4410b6a", func := "marionette/marionettelaw06.PageApart", spec := "pageApart", apart := false, narrowed := true }
def PageApartUptoSaid : Prop := pageApartUptoRow.holds Try.pinned (OpenSpec.upto pageApartSpec)

end Rows
end Go.Proofs.Ytipbfmidiimicaa
