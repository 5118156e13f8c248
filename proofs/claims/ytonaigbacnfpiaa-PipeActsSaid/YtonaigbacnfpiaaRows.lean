/-
  No cell of these rows narrows 'for every input' (looked for: loops, veiled, ifaces, maps, wideKeys, modest, calm, conditions, laid).
  DERIVED. THE GIVEN ROWS OF THIS SEAT. 3 by the template 'for every input the law returns true; each argument reads behind the call as it read before'; 0 by the template 'total and deterministic' (their statements: YtonaigbacnfpiaaTotals.lean).
  GIVEN WITH THE SEED: the statements are not yours to turn. If you find one false, say at which input.
  Laid BY PROGRAM, IN A SANDBOX (cutbox-rows.mjs): the forced cells as the released guide's own fill.sh prints them over the translation f7641acc429522c6… (all of the seat's roots in one cut). By AI agents, Wed Nov 11 2026. No macro, syntax, notation, axiom, sorry.
-/
import Derived.Test.YtonaigbacnfpiaaChecked
import GoSem.Claim
import GoSem.ClaimJoined
import GoSem.ClaimMapViews
import Derived.JoinedTies
import Derived.KernelRfl
namespace Go.Proofs.Ytonaigbacnfpiaa
/- THE CELL 'sum', in the pinned program and in every row, IS THE sha256 OF THE DUMP (.gsa) THAT YtonaigbacnfpiaaProg.lean LOADS. Nothing in Lean hashes anything: it is a label: what it is worth is what the hold of that sum in a sandbox is worth. -/
noncomputable def Try.pinned : Pinned := { name := "ytonaigbacnfpiaa", sum := "f7641acc429522c6dcd33cc46557ffee0f198d91ed4ce7d855479de95c7ab1c6", checked := Try.checked }
namespace Rows
def none {H : Type} : Left H := { results := [], args := [] }

/-- 'marionettelaw17.PipeWhole': WHATEVER THE INPUT: true; the input reads as it did. -/
def pipeWholeSpec : ChangeSpec := { name := "pipeWhole", fn := fun _ => fun
  | [d1, d2] => { results := [.lit (.bool true)], args := [d1, d2] }
  | _ => none }
def pipeWholeRow : OpenClaim := { program := "ytonaigbacnfpiaa", sum := "f7641acc429522c6dcd33cc46557ffee0f198d91ed4ce7d855479de95c7ab1c6", func := "marionette/marionettelaw17.PipeWhole", spec := "pipeWhole", apart := false }
def PipeWholeSaid : Prop := pipeWholeRow.holds Try.pinned (OpenSpec.ofChange pipeWholeSpec)

/-- ITS FALSE NEIGHBOUR: 'it returns false'. Refute it at one input. -/
def pipeWholeWrong : ChangeSpec := { name := "pipeWhole", fn := fun _ => fun
  | [d1, d2] => { results := [.lit (.bool false)], args := [d1, d2] }
  | _ => none }
def PipeWholeWrongFalsely : Prop := pipeWholeRow.holds Try.pinned (OpenSpec.ofChange pipeWholeWrong)

/-- 'marionettelaw17.PipeActs': WHATEVER THE INPUT: true; the input reads as it did. -/
def pipeActsSpec : ChangeSpec := { name := "pipeActs", fn := fun _ => fun
  | [d] => { results := [.lit (.bool true)], args := [d] }
  | _ => none }
def pipeActsRow : OpenClaim := { program := "ytonaigbacnfpiaa", sum := "f7641acc429522c6dcd33cc46557ffee0f198d91ed4ce7d855479de95c7ab1c6", func := "marionette/marionettelaw17.PipeActs", spec := "pipeActs", apart := false }
def PipeActsSaid : Prop := pipeActsRow.holds Try.pinned (OpenSpec.ofChange pipeActsSpec)

/-- ITS FALSE NEIGHBOUR: 'it returns false'. Refute it at one input. -/
def pipeActsWrong : ChangeSpec := { name := "pipeActs", fn := fun _ => fun
  | [d] => { results := [.lit (.bool false)], args := [d] }
  | _ => none }
def PipeActsWrongFalsely : Prop := pipeActsRow.holds Try.pinned (OpenSpec.ofChange pipeActsWrong)

/-- 'marionettelaw17.PipeEnds': WHATEVER THE INPUT: true; the input reads as it did. -/
def pipeEndsSpec : ChangeSpec := { name := "pipeEnds", fn := fun _ => fun
  | [d1, d2] => { results := [.lit (.bool true)], args := [d1, d2] }
  | _ => none }
def pipeEndsRow : OpenClaim := { program := "ytonaigbacnfpiaa", sum := "f7641acc429522c6dcd33cc46557ffee0f198d91ed4ce7d855479de95c7ab1c6", func := "marionette/marionettelaw17.PipeEnds", spec := "pipeEnds", apart := false }
def PipeEndsSaid : Prop := pipeEndsRow.holds Try.pinned (OpenSpec.ofChange pipeEndsSpec)

/-- ITS FALSE NEIGHBOUR: 'it returns false'. Refute it at one input. -/
def pipeEndsWrong : ChangeSpec := { name := "pipeEnds", fn := fun _ => fun
  | [d1, d2] => { results := [.lit (.bool false)], args := [d1, d2] }
  | _ => none }
def PipeEndsWrongFalsely : Prop := pipeEndsRow.holds Try.pinned (OpenSpec.ofChange pipeEndsWrong)

/- THE SECOND FORM. 'bulk': how many values and letters a reading holds, each counted each time it is reached (what is shared counts as often as it is met; a slice's spare places count too). A statement '..UptoSaid' is the law's where the arguments, and the package variables that the reading takes, are together of bulk at most 1048576: NARROWER than '..Said'. Prove '..Said' where nothing that the law and all that it calls make is longer than what came in: it says more and counts as full. Else prove '..UptoSaid'. A law counts once. -/
mutual
def uptoBulk {H : Type} : DataW H → Nat
  | .lit (.string bytes) => bytes.length + 1
  | .lit _ => 1
  | .nil => 1
  | .ptr d => uptoBulk d + 1
  | .slice elems spare => uptoBulkAll elems + uptoBulkAll spare + 1
  | .agg parts => uptoBulkAll parts + 1
  | .iface _ d => uptoBulk d + 1
  | .map entries => uptoBulkEntries entries + 1
  | .held _ => 1
def uptoBulkAll {H : Type} : List (DataW H) → Nat
  | [] => 0
  | d :: r => uptoBulk d + uptoBulkAll r
def uptoBulkEntries {H : Type} : List (Lit × DataW H) → Nat
  | [] => 0
  | x :: r => uptoBulkEntry x + uptoBulkEntries r
def uptoBulkEntry {H : Type} : Lit × DataW H → Nat
  | (.string bytes, d) => bytes.length + uptoBulk d + 1
  | (_, d) => uptoBulk d + 1
 end
def uptoSmall : (H : Type) → List (DataW H) → Bool := fun _ ds => decide (uptoBulkAll ds ≤ 1048576)
def OpenSpec.upto (s : _root_.Go.ChangeSpec) : _root_.Go.OpenSpec := { _root_.Go.OpenSpec.ofChange s with cond := some uptoSmall }

/-- 'marionettelaw17.PipeWhole', WHERE WHAT IT READS IS OF BULK AT MOST 1048576: true; the input reads as it did. -/
def pipeWholeUptoRow : OpenClaim := { program := "ytonaigbacnfpiaa", sum := "f7641acc429522c6dcd33cc46557ffee0f198d91ed4ce7d855479de95c7ab1c6", func := "marionette/marionettelaw17.PipeWhole", spec := "pipeWhole", apart := false, narrowed := true }
def PipeWholeUptoSaid : Prop := pipeWholeUptoRow.holds Try.pinned (OpenSpec.upto pipeWholeSpec)

/-- 'marionettelaw17.PipeActs', WHERE WHAT IT READS IS OF BULK AT MOST 1048576: true; the input reads as it did. -/
def pipeActsUptoRow : OpenClaim := { program := "ytonaigbacnfpiaa", sum := "f7641acc429522c6dcd33cc46557ffee0f198d91ed4ce7d855479de95c7ab1c6", func := "marionette/marionettelaw17.PipeActs", spec := "pipeActs", apart := false, narrowed := true }
def PipeActsUptoSaid : Prop := pipeActsUptoRow.holds Try.pinned (OpenSpec.upto pipeActsSpec)

/-- 'marionettelaw17.PipeEnds', WHERE WHAT IT READS IS OF BULK AT MOST 1048576: true; the input reads as it did. -/
def pipeEndsUptoRow : OpenClaim := { program := "ytonaigbacnfpiaa", sum := "f7641acc429522c6dcd33cc46557ffee0f198d91ed4ce7d855479de95c7ab1c6", func := "marionette/marionettelaw17.PipeEnds", spec := "pipeEnds", apart := false, narrowed := true }
def PipeEndsUptoSaid : Prop := pipeEndsUptoRow.holds Try.pinned (OpenSpec.upto pipeEndsSpec)

end Rows
end Go.Proofs.Ytonaigbacnfpiaa
