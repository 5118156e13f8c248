/-
  No cell of these rows narrows 'for every input' (looked for: loops, veiled, ifaces, maps, wideKeys, modest, calm, conditions, laid).
  DERIVED. THE GIVEN ROWS OF THIS SEAT. 4 by the template 'for every input the law returns true; each argument reads behind the call as it read before'; 0 by the template 'total and deterministic' (their statements: YtgefhoikpjiamaaTotals.lean).
  GIVEN WITH THE SEED: the statements are not yours to turn. If you find one false, say at which input.
  Laid BY PROGRAM, IN A SANDBOX (cutbox-rows.mjs): the forced cells as the released guide's own fill.sh prints them over the translation 51c747c278617184… (all of the seat's roots in one cut). By AI agents, Wed Nov 11 2026. No macro, syntax, notation, axiom, sorry.
-/
import Derived.Test.YtgefhoikpjiamaaChecked
import GoSem.Claim
import GoSem.ClaimJoined
import GoSem.ClaimMapViews
import Derived.JoinedTies
import Derived.KernelRfl
namespace Go.Proofs.Ytgefhoikpjiamaa
/- THE CELL 'sum', in the pinned program and in every row, IS THE sha256 OF THE DUMP (.gsa) THAT YtgefhoikpjiamaaProg.lean LOADS. Nothing in Lean hashes anything: it is a label: what it is worth is what the hold of that sum in a sandbox is worth. -/
noncomputable def Try.pinned : Pinned := { name := "ytgefhoikpjiamaa", sum := "51c747c278617184478348a9a9c9e70db274c1e184b3e7fcdaf638bb0d2a9852", checked := Try.checked }
namespace Rows
def none {H : Type} : Left H := { results := [], args := [] }

/-- 'marionettelaw04.CompAll': WHATEVER THE INPUT: true; the input reads as it did. -/
def compAllSpec : ChangeSpec := { name := "compAll", fn := fun _ => fun
  | [d] => { results := [.lit (.bool true)], args := [d] }
  | _ => none }
def compAllRow : OpenClaim := { program := "ytgefhoikpjiamaa", sum := "51c747c278617184478348a9a9c9e70db274c1e184b3e7fcdaf638bb0d2a9852", func := "marionette/marionettelaw04.CompAll", spec := "compAll", apart := false }
def CompAllSaid : Prop := compAllRow.holds Try.pinned (OpenSpec.ofChange compAllSpec)

/-- ITS FALSE NEIGHBOUR: 'it returns false'. Refute it at one input. -/
def compAllWrong : ChangeSpec := { name := "compAll", fn := fun _ => fun
  | [d] => { results := [.lit (.bool false)], args := [d] }
  | _ => none }
def CompAllWrongFalsely : Prop := compAllRow.holds Try.pinned (OpenSpec.ofChange compAllWrong)

/-- 'marionettelaw04.CompFar': WHATEVER THE INPUT: true; the input reads as it did. -/
def compFarSpec : ChangeSpec := { name := "compFar", fn := fun _ => fun
  | [d] => { results := [.lit (.bool true)], args := [d] }
  | _ => none }
def compFarRow : OpenClaim := { program := "ytgefhoikpjiamaa", sum := "51c747c278617184478348a9a9c9e70db274c1e184b3e7fcdaf638bb0d2a9852", func := "marionette/marionettelaw04.CompFar", spec := "compFar", apart := false }
def CompFarSaid : Prop := compFarRow.holds Try.pinned (OpenSpec.ofChange compFarSpec)

/-- ITS FALSE NEIGHBOUR: 'it returns false'. Refute it at one input. -/
def compFarWrong : ChangeSpec := { name := "compFar", fn := fun _ => fun
  | [d] => { results := [.lit (.bool false)], args := [d] }
  | _ => none }
def CompFarWrongFalsely : Prop := compFarRow.holds Try.pinned (OpenSpec.ofChange compFarWrong)

/-- 'marionettelaw04.CompExpands': WHATEVER THE INPUT: true; the input reads as it did. -/
def compExpandsSpec : ChangeSpec := { name := "compExpands", fn := fun _ => fun
  | [d] => { results := [.lit (.bool true)], args := [d] }
  | _ => none }
def compExpandsRow : OpenClaim := { program := "ytgefhoikpjiamaa", sum := "51c747c278617184478348a9a9c9e70db274c1e184b3e7fcdaf638bb0d2a9852", func := "marionette/marionettelaw04.CompExpands", spec := "compExpands", apart := false }
def CompExpandsSaid : Prop := compExpandsRow.holds Try.pinned (OpenSpec.ofChange compExpandsSpec)

/-- ITS FALSE NEIGHBOUR: 'it returns false'. Refute it at one input. -/
def compExpandsWrong : ChangeSpec := { name := "compExpands", fn := fun _ => fun
  | [d] => { results := [.lit (.bool false)], args := [d] }
  | _ => none }
def CompExpandsWrongFalsely : Prop := compExpandsRow.holds Try.pinned (OpenSpec.ofChange compExpandsWrong)

/-- 'marionettelaw04.CompSound': WHATEVER THE INPUT: true; the input reads as it did. -/
def compSoundSpec : ChangeSpec := { name := "compSound", fn := fun _ => fun
  | [d] => { results := [.lit (.bool true)], args := [d] }
  | _ => none }
def compSoundRow : OpenClaim := { program := "ytgefhoikpjiamaa", sum := "51c747c278617184478348a9a9c9e70db274c1e184b3e7fcdaf638bb0d2a9852", func := "marionette/marionettelaw04.CompSound", spec := "compSound", unfollowed := true, recurses := true, apart := false }
def CompSoundSaid : Prop := compSoundRow.holds Try.pinned (OpenSpec.ofChange compSoundSpec)

/-- ITS FALSE NEIGHBOUR: 'it returns false'. Refute it at one input. -/
def compSoundWrong : ChangeSpec := { name := "compSound", fn := fun _ => fun
  | [d] => { results := [.lit (.bool false)], args := [d] }
  | _ => none }
def CompSoundWrongFalsely : Prop := compSoundRow.holds Try.pinned (OpenSpec.ofChange compSoundWrong)

/- THE SECOND FORM. 'bulk': how many values and letters a reading holds, each counted each time it is reached (what is shared counts as often as it is met; a slice's spare places count too). A statement '..UptoSaid' is the law's where the arguments, and the package variables that the reading takes, are together of bulk at most 1048576: NARROWER than '..Said'. Prove '..Said' where nothing that the law and all that it calls make is longer than what came in: it says more and counts as full. Else prove '..UptoSaid'. A law counts once. -/
mutual
def uptoBulk {H : Type} : DataW H → Nat
  | .lit (.string bytes) => bytes.length + 1
  | .lit _ => 1
  | .nil => 1
  | .ptr d => uptoBulk d + 1
  | .slice elems spare => uptoBulkAll elems + uptoBulkAll spare + 1
  | .agg parts => uptoBulkAll parts + 1
  | .iface _ d => uptoBulk d + 1
  | .map entries => uptoBulkEntries entries + 1
  | .held _ => 1
def uptoBulkAll {H : Type} : List (DataW H) → Nat
  | [] => 0
  | d :: r => uptoBulk d + uptoBulkAll r
def uptoBulkEntries {H : Type} : List (Lit × DataW H) → Nat
  | [] => 0
  | x :: r => uptoBulkEntry x + uptoBulkEntries r
def uptoBulkEntry {H : Type} : Lit × DataW H → Nat
  | (.string bytes, d) => bytes.length + uptoBulk d + 1
  | (_, d) => uptoBulk d + 1
 end
def uptoSmall : (H : Type) → List (DataW H) → Bool := fun _ ds => decide (uptoBulkAll ds ≤ 1048576)
def OpenSpec.upto (s : _root_.Go.ChangeSpec) : _root_.Go.OpenSpec := { _root_.Go.OpenSpec.ofChange s with cond := some uptoSmall }

/-- 'marionettelaw04.CompAll', WHERE WHAT IT READS IS OF BULK AT MOST 1048576: true; the input reads as it did. -/
def compAllUptoRow : OpenClaim := { program := "ytgefhoikpjiamaa", sum := "51c747c278617184478348a9a9c9e70db274c1e184b3e7fcdaf638bb0d2a9852", func := "marionette/marionettelaw04.CompAll", spec := "compAll", apart := false, narrowed := true }
def CompAllUptoSaid : Prop := compAllUptoRow.holds Try.pinned (OpenSpec.upto compAllSpec)

/-- 'marionettelaw04.CompFar', WHERE WHAT IT READS IS OF BULK AT MOST 1048576: true; the input reads as it did. -/
def compFarUptoRow : OpenClaim := { program := "ytgefhoikpjiamaa", sum := "51c747c278617184478348a9a9c9e70db274c1e184b3e7fcdaf638bb0d2a9852", func := "marionette/marionettelaw04.CompFar", spec := "compFar", apart := false, narrowed := true }
def CompFarUptoSaid : Prop := compFarUptoRow.holds Try.pinned (OpenSpec.upto compFarSpec)

/-- 'marionettelaw04.CompExpands', WHERE WHAT IT READS IS OF BULK AT MOST 1048576: true; the input reads as it did. -/
def compExpandsUptoRow : OpenClaim := { program := "ytgefhoikpjiamaa", sum := "51c747c278617184478348a9a9c9e70db274c1e184b3e7fcdaf638bb0d2a9852", func := "marionette/marionettelaw04.CompExpands", spec := "compExpands", apart := false, narrowed := true }
def CompExpandsUptoSaid : Prop := compExpandsUptoRow.holds Try.pinned (OpenSpec.upto compExpandsSpec)

/-- 'marionettelaw04.CompSound', WHERE WHAT IT READS IS OF BULK AT MOST 1048576: true; the input reads as it did. -/
def compSoundUptoRow : OpenClaim := { program := "ytgefhoikpjiamaa", sum := "51c747c278617184478348a9a9c9e70db274c1e184b3e7fcdaf638bb0d2a9852", func := "marionette/marionettelaw04.CompSound", spec := "compSound", unfollowed := true, recurses := true, apart := false, narrowed := true }
def CompSoundUptoSaid : Prop := compSoundUptoRow.holds Try.pinned (OpenSpec.upto compSoundSpec)

end Rows
end Go.Proofs.Ytgefhoikpjiamaa
