/-
  No cell of these rows narrows 'for every input' (looked for: loops, veiled, ifaces, maps, wideKeys, modest, calm, conditions, laid).
  DERIVED. THE GIVEN ROWS OF THIS SEAT. 11 by the template 'for every input the law returns true; each argument reads behind the call as it read before'; 0 by the template 'total and deterministic' (their statements: YtdjgjedmbgnjbaaTotals.lean).
  GIVEN WITH THE SEED: the statements are not yours to turn. If you find one false, say at which input.
  Laid BY PROGRAM, IN A SANDBOX (cutbox-rows.mjs): the forced cells as the released guide's own fill.sh prints them over the translation a7a98c5cd61cf358… (all of the seat's roots in one cut). By AI agents, Wed Nov 11 2026. No macro, syntax, notation, axiom, sorry.
-/
import Derived.Test.YtdjgjedmbgnjbaaChecked
import GoSem.Claim
import GoSem.ClaimJoined
import GoSem.ClaimMapViews
import Derived.JoinedTies
import Derived.KernelRfl
namespace Go.Proofs.Ytdjgjedmbgnjbaa
/- THE CELL 'sum', in the pinned program and in every row, IS THE sha256 OF THE DUMP (.gsa) THAT YtdjgjedmbgnjbaaProg.lean LOADS. Nothing in Lean hashes anything: it is a label: what it is worth is what the hold of that sum in a sandbox is worth. -/
noncomputable def Try.pinned : Pinned := { name := "ytdjgjedmbgnjbaa", sum := "a7a98c5cd61cf35878ccc14352fb682493dc02ed6b0f1f17ef57dda4d612b297", checked := Try.checked }
namespace Rows
def none {H : Type} : Left H := { results := [], args := [] }

/-- 'marionettelaw01.WordSteps': WHATEVER THE INPUT: true; the input reads as it did. -/
def wordStepsSpec : ChangeSpec := { name := "wordSteps", fn := fun _ => fun
  | [d1, d2, d3] => { results := [.lit (.bool true)], args := [d1, d2, d3] }
  | _ => none }
def wordStepsRow : OpenClaim := { program := "ytdjgjedmbgnjbaa", sum := "a7a98c5cd61cf35878ccc14352fb682493dc02ed6b0f1f17ef57dda4d612b297", func := "marionette/marionettelaw01.WordSteps", spec := "wordSteps", apart := false }
def WordStepsSaid : Prop := wordStepsRow.holds Try.pinned (OpenSpec.ofChange wordStepsSpec)

/-- ITS FALSE NEIGHBOUR: 'it returns false'. Refute it at one input. -/
def wordStepsWrong : ChangeSpec := { name := "wordSteps", fn := fun _ => fun
  | [d1, d2, d3] => { results := [.lit (.bool false)], args := [d1, d2, d3] }
  | _ => none }
def WordStepsWrongFalsely : Prop := wordStepsRow.holds Try.pinned (OpenSpec.ofChange wordStepsWrong)

/-- 'marionettelaw01.WordSigns': WHATEVER THE INPUT: true; the input reads as it did. -/
def wordSignsSpec : ChangeSpec := { name := "wordSigns", fn := fun _ => fun
  | [d1, d2, d3] => { results := [.lit (.bool true)], args := [d1, d2, d3] }
  | _ => none }
def wordSignsRow : OpenClaim := { program := "ytdjgjedmbgnjbaa", sum := "a7a98c5cd61cf35878ccc14352fb682493dc02ed6b0f1f17ef57dda4d612b297", func := "marionette/marionettelaw01.WordSigns", spec := "wordSigns", apart := false }
def WordSignsSaid : Prop := wordSignsRow.holds Try.pinned (OpenSpec.ofChange wordSignsSpec)

/-- ITS FALSE NEIGHBOUR: 'it returns false'. Refute it at one input. -/
def wordSignsWrong : ChangeSpec := { name := "wordSigns", fn := fun _ => fun
  | [d1, d2, d3] => { results := [.lit (.bool false)], args := [d1, d2, d3] }
  | _ => none }
def WordSignsWrongFalsely : Prop := wordSignsRow.holds Try.pinned (OpenSpec.ofChange wordSignsWrong)

/-- 'marionettelaw01.WordQuotients': WHATEVER THE INPUT: true; the input reads as it did. -/
def wordQuotientsSpec : ChangeSpec := { name := "wordQuotients", fn := fun _ => fun
  | [d1, d2] => { results := [.lit (.bool true)], args := [d1, d2] }
  | _ => none }
def wordQuotientsRow : OpenClaim := { program := "ytdjgjedmbgnjbaa", sum := "a7a98c5cd61cf35878ccc14352fb682493dc02ed6b0f1f17ef57dda4d612b297", func := "marionette/marionettelaw01.WordQuotients", spec := "wordQuotients", apart := false }
def WordQuotientsSaid : Prop := wordQuotientsRow.holds Try.pinned (OpenSpec.ofChange wordQuotientsSpec)

/-- ITS FALSE NEIGHBOUR: 'it returns false'. Refute it at one input. -/
def wordQuotientsWrong : ChangeSpec := { name := "wordQuotients", fn := fun _ => fun
  | [d1, d2] => { results := [.lit (.bool false)], args := [d1, d2] }
  | _ => none }
def WordQuotientsWrongFalsely : Prop := wordQuotientsRow.holds Try.pinned (OpenSpec.ofChange wordQuotientsWrong)

/-- 'marionettelaw01.WordProducts': WHATEVER THE INPUT: true; the input reads as it did. -/
def wordProductsSpec : ChangeSpec := { name := "wordProducts", fn := fun _ => fun
  | [d1, d2] => { results := [.lit (.bool true)], args := [d1, d2] }
  | _ => none }
def wordProductsRow : OpenClaim := { program := "ytdjgjedmbgnjbaa", sum := "a7a98c5cd61cf35878ccc14352fb682493dc02ed6b0f1f17ef57dda4d612b297", func := "marionette/marionettelaw01.WordProducts", spec := "wordProducts", apart := false }
def WordProductsSaid : Prop := wordProductsRow.holds Try.pinned (OpenSpec.ofChange wordProductsSpec)

/-- ITS FALSE NEIGHBOUR: 'it returns false'. Refute it at one input. -/
def wordProductsWrong : ChangeSpec := { name := "wordProducts", fn := fun _ => fun
  | [d1, d2] => { results := [.lit (.bool false)], args := [d1, d2] }
  | _ => none }
def WordProductsWrongFalsely : Prop := wordProductsRow.holds Try.pinned (OpenSpec.ofChange wordProductsWrong)

/-- 'marionettelaw02.AluHalves': WHATEVER THE INPUT: true; the input reads as it did. -/
def aluHalvesSpec : ChangeSpec := { name := "aluHalves", fn := fun _ => fun
  | [d1, d2, d3, d4, d5] => { results := [.lit (.bool true)], args := [d1, d2, d3, d4, d5] }
  | _ => none }
def aluHalvesRow : OpenClaim := { program := "ytdjgjedmbgnjbaa", sum := "a7a98c5cd61cf35878ccc14352fb682493dc02ed6b0f1f17ef57dda4d612b297", func := "marionette/marionettelaw02.AluHalves", spec := "aluHalves", apart := false }
def AluHalvesSaid : Prop := aluHalvesRow.holds Try.pinned (OpenSpec.ofChange aluHalvesSpec)

/-- ITS FALSE NEIGHBOUR: 'it returns false'. Refute it at one input. -/
def aluHalvesWrong : ChangeSpec := { name := "aluHalves", fn := fun _ => fun
  | [d1, d2, d3, d4, d5] => { results := [.lit (.bool false)], args := [d1, d2, d3, d4, d5] }
  | _ => none }
def AluHalvesWrongFalsely : Prop := aluHalvesRow.holds Try.pinned (OpenSpec.ofChange aluHalvesWrong)

/-- 'marionettelaw02.AluShifts': WHATEVER THE INPUT: true; the input reads as it did. -/
def aluShiftsSpec : ChangeSpec := { name := "aluShifts", fn := fun _ => fun
  | [d1, d2] => { results := [.lit (.bool true)], args := [d1, d2] }
  | _ => none }
def aluShiftsRow : OpenClaim := { program := "ytdjgjedmbgnjbaa", sum := "a7a98c5cd61cf35878ccc14352fb682493dc02ed6b0f1f17ef57dda4d612b297", func := "marionette/marionettelaw02.AluShifts", spec := "aluShifts", apart := false }
def AluShiftsSaid : Prop := aluShiftsRow.holds Try.pinned (OpenSpec.ofChange aluShiftsSpec)

/-- ITS FALSE NEIGHBOUR: 'it returns false'. Refute it at one input. -/
def aluShiftsWrong : ChangeSpec := { name := "aluShifts", fn := fun _ => fun
  | [d1, d2] => { results := [.lit (.bool false)], args := [d1, d2] }
  | _ => none }
def AluShiftsWrongFalsely : Prop := aluShiftsRow.holds Try.pinned (OpenSpec.ofChange aluShiftsWrong)

/-- 'marionettelaw02.AluSums': WHATEVER THE INPUT: true; the input reads as it did. -/
def aluSumsSpec : ChangeSpec := { name := "aluSums", fn := fun _ => fun
  | [d1, d2] => { results := [.lit (.bool true)], args := [d1, d2] }
  | _ => none }
def aluSumsRow : OpenClaim := { program := "ytdjgjedmbgnjbaa", sum := "a7a98c5cd61cf35878ccc14352fb682493dc02ed6b0f1f17ef57dda4d612b297", func := "marionette/marionettelaw02.AluSums", spec := "aluSums", apart := false }
def AluSumsSaid : Prop := aluSumsRow.holds Try.pinned (OpenSpec.ofChange aluSumsSpec)

/-- ITS FALSE NEIGHBOUR: 'it returns false'. Refute it at one input. -/
def aluSumsWrong : ChangeSpec := { name := "aluSums", fn := fun _ => fun
  | [d1, d2] => { results := [.lit (.bool false)], args := [d1, d2] }
  | _ => none }
def AluSumsWrongFalsely : Prop := aluSumsRow.holds Try.pinned (OpenSpec.ofChange aluSumsWrong)

/-- 'marionettelaw02.AluLogic': WHATEVER THE INPUT: true; the input reads as it did. -/
def aluLogicSpec : ChangeSpec := { name := "aluLogic", fn := fun _ => fun
  | [d1, d2] => { results := [.lit (.bool true)], args := [d1, d2] }
  | _ => none }
def aluLogicRow : OpenClaim := { program := "ytdjgjedmbgnjbaa", sum := "a7a98c5cd61cf35878ccc14352fb682493dc02ed6b0f1f17ef57dda4d612b297", func := "marionette/marionettelaw02.AluLogic", spec := "aluLogic", apart := false }
def AluLogicSaid : Prop := aluLogicRow.holds Try.pinned (OpenSpec.ofChange aluLogicSpec)

/-- ITS FALSE NEIGHBOUR: 'it returns false'. Refute it at one input. -/
def aluLogicWrong : ChangeSpec := { name := "aluLogic", fn := fun _ => fun
  | [d1, d2] => { results := [.lit (.bool false)], args := [d1, d2] }
  | _ => none }
def AluLogicWrongFalsely : Prop := aluLogicRow.holds Try.pinned (OpenSpec.ofChange aluLogicWrong)

/-- 'marionettelaw02.AluQuotients': WHATEVER THE INPUT: true; the input reads as it did. -/
def aluQuotientsSpec : ChangeSpec := { name := "aluQuotients", fn := fun _ => fun
  | [d1, d2] => { results := [.lit (.bool true)], args := [d1, d2] }
  | _ => none }
def aluQuotientsRow : OpenClaim := { program := "ytdjgjedmbgnjbaa", sum := "a7a98c5cd61cf35878ccc14352fb682493dc02ed6b0f1f17ef57dda4d612b297", func := "marionette/marionettelaw02.AluQuotients", spec := "aluQuotients", apart := false }
def AluQuotientsSaid : Prop := aluQuotientsRow.holds Try.pinned (OpenSpec.ofChange aluQuotientsSpec)

/-- ITS FALSE NEIGHBOUR: 'it returns false'. Refute it at one input. -/
def aluQuotientsWrong : ChangeSpec := { name := "aluQuotients", fn := fun _ => fun
  | [d1, d2] => { results := [.lit (.bool false)], args := [d1, d2] }
  | _ => none }
def AluQuotientsWrongFalsely : Prop := aluQuotientsRow.holds Try.pinned (OpenSpec.ofChange aluQuotientsWrong)

/-- 'marionettelaw02.AluDoes': WHATEVER THE INPUT: true; the input reads as it did. -/
def aluDoesSpec : ChangeSpec := { name := "aluDoes", fn := fun _ => fun
  | [d1, d2, d3] => { results := [.lit (.bool true)], args := [d1, d2, d3] }
  | _ => none }
def aluDoesRow : OpenClaim := { program := "ytdjgjedmbgnjbaa", sum := "a7a98c5cd61cf35878ccc14352fb682493dc02ed6b0f1f17ef57dda4d612b297", func := "marionette/marionettelaw02.AluDoes", spec := "aluDoes", apart := false }
def AluDoesSaid : Prop := aluDoesRow.holds Try.pinned (OpenSpec.ofChange aluDoesSpec)

/-- ITS FALSE NEIGHBOUR: 'it returns false'. Refute it at one input. -/
def aluDoesWrong : ChangeSpec := { name := "aluDoes", fn := fun _ => fun
  | [d1, d2, d3] => { results := [.lit (.bool false)], args := [d1, d2, d3] }
  | _ => none }
def AluDoesWrongFalsely : Prop := aluDoesRow.holds Try.pinned (OpenSpec.ofChange aluDoesWrong)

/-- 'marionettelaw02.AluBranches': WHATEVER THE INPUT: true; the input reads as it did. -/
def aluBranchesSpec : ChangeSpec := { name := "aluBranches", fn := fun _ => fun
  | [d1, d2, d3] => { results := [.lit (.bool true)], args := [d1, d2, d3] }
  | _ => none }
def aluBranchesRow : OpenClaim := { program := "ytdjgjedmbgnjbaa", sum := "a7a98c5cd61cf35878ccc14352fb682493dc02ed6b0f1f17ef57dda4d612b297", func := "marionette/marionettelaw02.AluBranches", spec := "aluBranches", apart := false }
def AluBranchesSaid : Prop := aluBranchesRow.holds Try.pinned (OpenSpec.ofChange aluBranchesSpec)

/-- ITS FALSE NEIGHBOUR: 'it returns false'. Refute it at one input. -/
def aluBranchesWrong : ChangeSpec := { name := "aluBranches", fn := fun _ => fun
  | [d1, d2, d3] => { results := [.lit (.bool false)], args := [d1, d2, d3] }
  | _ => none }
def AluBranchesWrongFalsely : Prop := aluBranchesRow.holds Try.pinned (OpenSpec.ofChange aluBranchesWrong)

/- THE SECOND FORM. 'bulk': how many values and letters a reading holds, each counted each time it is reached (what is shared counts as often as it is met; a slice's spare places count too). A statement '..UptoSaid' is the law's where the arguments, and the package variables that the reading takes, are together of bulk at most 1048576: NARROWER than '..Said'. Prove '..Said' where nothing that the law and all that it calls make is longer than what came in: it says more and counts as full. Else prove '..UptoSaid'. A law counts once. -/
mutual
def uptoBulk {H : Type} : DataW H → Nat
  | .lit (.string bytes) => bytes.length + 1
  | .lit _ => 1
  | .nil => 1
  | .ptr d => uptoBulk d + 1
  | .slice elems spare => uptoBulkAll elems + uptoBulkAll spare + 1
  | .agg parts => uptoBulkAll parts + 1
  | .iface _ d => uptoBulk d + 1
  | .map entries => uptoBulkEntries entries + 1
  | .held _ => 1
def uptoBulkAll {H : Type} : List (DataW H) → Nat
  | [] => 0
  | d :: r => uptoBulk d + uptoBulkAll r
def uptoBulkEntries {H : Type} : List (Lit × DataW H) → Nat
  | [] => 0
  | x :: r => uptoBulkEntry x + uptoBulkEntries r
def uptoBulkEntry {H : Type} : Lit × DataW H → Nat
  | (.string bytes, d) => bytes.length + uptoBulk d + 1
  | (_, d) => uptoBulk d + 1
 end
def uptoSmall : (H : Type) → List (DataW H) → Bool := fun _ ds => decide (uptoBulkAll ds ≤ 1048576)
def OpenSpec.upto (s : _root_.Go.ChangeSpec) : _root_.Go.OpenSpec := { _root_.Go.OpenSpec.ofChange s with cond := some uptoSmall }

/-- 'marionettelaw01.WordSteps', WHERE WHAT IT READS IS OF BULK AT MOST 1048576: true; the input reads as it did. -/
def wordStepsUptoRow : OpenClaim := { program := "ytdjgjedmbgnjbaa", sum := "a7a98c5cd61cf35878ccc14352fb682493dc02ed6b0f1f17ef57dda4d612b297", func := "marionette/marionettelaw01.WordSteps", spec := "wordSteps", apart := false, narrowed := true }
def WordStepsUptoSaid : Prop := wordStepsUptoRow.holds Try.pinned (OpenSpec.upto wordStepsSpec)

/-- 'marionettelaw01.WordSigns', WHERE WHAT IT READS IS OF BULK AT MOST 1048576: true; the input reads as it did. -/
def wordSignsUptoRow : OpenClaim := { program := "ytdjgjedmbgnjbaa", sum := "a7a98c5cd61cf35878ccc14352fb682493dc02ed6b0f1f17ef57dda4d612b297", func := "marionette/marionettelaw01.WordSigns", spec := "wordSigns", apart := false, narrowed := true }
def WordSignsUptoSaid : Prop := wordSignsUptoRow.holds Try.pinned (OpenSpec.upto wordSignsSpec)

/-- 'marionettelaw01.WordQuotients', WHERE WHAT IT READS IS OF BULK AT MOST 1048576: true; the input reads as it did. -/
def wordQuotientsUptoRow : OpenClaim := { program := "ytdjgjedmbgnjbaa", sum := "a7a98c5cd61cf35878ccc14352fb682493dc02ed6b0f1f17ef57dda4d612b297", func := "marionette/marionettelaw01.WordQuotients", spec := "wordQuotients", apart := false, narrowed := true }
def WordQuotientsUptoSaid : Prop := wordQuotientsUptoRow.holds Try.pinned (OpenSpec.upto wordQuotientsSpec)

/-- 'marionettelaw01.WordProducts', WHERE WHAT IT READS IS OF BULK AT MOST 1048576: true; the input reads as it did. -/
def wordProductsUptoRow : OpenClaim := { program := "ytdjgjedmbgnjbaa", sum := "a7a98c5cd61cf35878ccc14352fb682493dc02ed6b0f1f17ef57dda4d612b297", func := "marionette/marionettelaw01.WordProducts", spec := "wordProducts", apart := false, narrowed := true }
def WordProductsUptoSaid : Prop := wordProductsUptoRow.holds Try.pinned (OpenSpec.upto wordProductsSpec)

/-- 'marionettelaw02.AluHalves', WHERE WHAT IT READS IS OF BULK AT MOST 1048576: true; the input reads as it did. -/
def aluHalvesUptoRow : OpenClaim := { program := "ytdjgjedmbgnjbaa", sum := "a7a98c5cd61cf35878ccc14352fb682493dc02ed6b0f1f17ef57dda4d612b297", func := "marionette/marionettelaw02.AluHalves", spec := "aluHalves", apart := false, narrowed := true }
def AluHalvesUptoSaid : Prop := aluHalvesUptoRow.holds Try.pinned (OpenSpec.upto aluHalvesSpec)

/-- 'marionettelaw02.AluShifts', WHERE WHAT IT READS IS OF BULK AT MOST 1048576: true; the input reads as it did. -/
def aluShiftsUptoRow : OpenClaim := { program := "ytdjgjedmbgnjbaa", sum := "a7a98c5cd61cf35878ccc14352fb682493dc02ed6b0f1f17ef57dda4d612b297", func := "marionette/marionettelaw02.AluShifts", spec := "aluShifts", apart := false, narrowed := true }
def AluShiftsUptoSaid : Prop := aluShiftsUptoRow.holds Try.pinned (OpenSpec.upto aluShiftsSpec)

/-- 'marionettelaw02.AluSums', WHERE WHAT IT READS IS OF BULK AT MOST 1048576: true; the input reads as it did. -/
def aluSumsUptoRow : OpenClaim := { program := "ytdjgjedmbgnjbaa", sum := "a7a98c5cd61cf35878ccc14352fb682493dc02ed6b0f1f17ef57dda4d612b297", func := "marionette/marionettelaw02.AluSums", spec := "aluSums", apart := false, narrowed := true }
def AluSumsUptoSaid : Prop := aluSumsUptoRow.holds Try.pinned (OpenSpec.upto aluSumsSpec)

/-- 'marionettelaw02.AluLogic', WHERE WHAT IT READS IS OF BULK AT MOST 1048576: true; the input reads as it did. -/
def aluLogicUptoRow : OpenClaim := { program := "ytdjgjedmbgnjbaa", sum := "a7a98c5cd61cf35878ccc14352fb682493dc02ed6b0f1f17ef57dda4d612b297", func := "marionette/marionettelaw02.AluLogic", spec := "aluLogic", apart := false, narrowed := true }
def AluLogicUptoSaid : Prop := aluLogicUptoRow.holds Try.pinned (OpenSpec.upto aluLogicSpec)

/-- 'marionettelaw02.AluQuotients', WHERE WHAT IT READS IS OF BULK AT MOST 1048576: true; the input reads as it did. -/
def aluQuotientsUptoRow : OpenClaim := { program := "ytdjgjedmbgnjbaa", sum := "a7a98c5cd61cf35878ccc14352fb682493dc02ed6b0f1f17ef57dda4d612b297", func := "marionette/marionettelaw02.AluQuotients", spec := "aluQuotients", apart := false, narrowed := true }
def AluQuotientsUptoSaid : Prop := aluQuotientsUptoRow.holds Try.pinned (OpenSpec.upto aluQuotientsSpec)

/-- 'marionettelaw02.AluDoes', WHERE WHAT IT READS IS OF BULK AT MOST 1048576: true; the input reads as it did. -/
def aluDoesUptoRow : OpenClaim := { program := "ytdjgjedmbgnjbaa", sum := "a7a98c5cd61cf35878ccc14352fb682493dc02ed6b0f1f17ef57dda4d612b297", func := "marionette/marionettelaw02.AluDoes", spec := "aluDoes", apart := false, narrowed := true }
def AluDoesUptoSaid : Prop := aluDoesUptoRow.holds Try.pinned (OpenSpec.upto aluDoesSpec)

/-- 'marionettelaw02.AluBranches', WHERE WHAT IT READS IS OF BULK AT MOST 1048576: true; the input reads as it did. -/
def aluBranchesUptoRow : OpenClaim := { program := "ytdjgjedmbgnjbaa", sum := "a7a98c5cd61cf35878ccc14352fb682493dc02ed6b0f1f17ef57dda4d612b297", func := "marionette/marionettelaw02.AluBranches", spec := "aluBranches", apart := false, narrowed := true }
def AluBranchesUptoSaid : Prop := aluBranchesUptoRow.holds Try.pinned (OpenSpec.upto aluBranchesSpec)

end Rows
end Go.Proofs.Ytdjgjedmbgnjbaa
