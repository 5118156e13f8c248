/-
  No cell of these rows narrows 'for every input' (looked for: loops, veiled, ifaces, maps, wideKeys, modest, calm, conditions, laid).
  DERIVED. THE GIVEN ROWS OF THIS SEAT. 7 by the template 'for every input the law returns true; each argument reads behind the call as it read before'; 0 by the template 'total and deterministic' (their statements: YtgbohkmlefhpjaaTotals.lean).
  GIVEN WITH THE SEED: the statements are not yours to turn. If you find one false, say at which input.
  Laid BY PROGRAM, IN A SANDBOX (cutbox-rows.mjs): the forced cells as the released guide's own fill.sh prints them over the translation f2974e3b20067985… (all of the seat's roots in one cut). By AI agents, Wed Nov 11 2026. No macro, syntax, notation, axiom, sorry.
-/
import Derived.Test.YtgbohkmlefhpjaaChecked
import GoSem.Claim
import GoSem.ClaimJoined
import GoSem.ClaimMapViews
import Derived.JoinedTies
import Derived.KernelRfl
namespace Go.Proofs.Ytgbohkmlefhpjaa
/- THE CELL 'sum', in the pinned program and in every row, IS THE sha256 OF THE DUMP (.gsa) THAT YtgbohkmlefhpjaaProg.lean LOADS. Nothing in Lean hashes anything: it is a label: what it is worth is what the hold of that sum in a sandbox is worth. -/
noncomputable def Try.pinned : Pinned := { name := "ytgbohkmlefhpjaa", sum := "f2974e3b20067985474075c7a8b51e095aea2e81d0328cab393630b5f1bc45d6", checked := Try.checked }
namespace Rows
def none {H : Type} : Left H := { results := [], args := [] }

/-- 'marionettelaw01.WordSteps': WHATEVER THE INPUT: true; the input reads as it did. -/
def wordStepsSpec : ChangeSpec := { name := "wordSteps", fn := fun _ => fun
  | [d1, d2, d3] => { results := [.lit (.bool true)], args := [d1, d2, d3] }
  | _ => none }
def wordStepsRow : OpenClaim := { program := "ytgbohkmlefhpjaa", sum := "f2974e3b20067985474075c7a8b51e095aea2e81d0328cab393630b5f1bc45d6", func := "marionette/marionettelaw01.WordSteps", spec := "wordSteps", apart := false }
def WordStepsSaid : Prop := wordStepsRow.holds Try.pinned (OpenSpec.ofChange wordStepsSpec)

/-- ITS FALSE NEIGHBOUR: 'it returns false'. Refute it at one input. -/
def wordStepsWrong : ChangeSpec := { name := "wordSteps", fn := fun _ => fun
  | [d1, d2, d3] => { results := [.lit (.bool false)], args := [d1, d2, d3] }
  | _ => none }
def WordStepsWrongFalsely : Prop := wordStepsRow.holds Try.pinned (OpenSpec.ofChange wordStepsWrong)

/-- 'marionettelaw01.WordSigns': WHATEVER THE INPUT: true; the input reads as it did. -/
def wordSignsSpec : ChangeSpec := { name := "wordSigns", fn := fun _ => fun
  | [d1, d2, d3] => { results := [.lit (.bool true)], args := [d1, d2, d3] }
  | _ => none }
def wordSignsRow : OpenClaim := { program := "ytgbohkmlefhpjaa", sum := "f2974e3b20067985474075c7a8b51e095aea2e81d0328cab393630b5f1bc45d6", func := "marionette/marionettelaw01.WordSigns", spec := "wordSigns", apart := false }
def WordSignsSaid : Prop := wordSignsRow.holds Try.pinned (OpenSpec.ofChange wordSignsSpec)

/-- ITS FALSE NEIGHBOUR: 'it returns false'. Refute it at one input. -/
def wordSignsWrong : ChangeSpec := { name := "wordSigns", fn := fun _ => fun
  | [d1, d2, d3] => { results := [.lit (.bool false)], args := [d1, d2, d3] }
  | _ => none }
def WordSignsWrongFalsely : Prop := wordSignsRow.holds Try.pinned (OpenSpec.ofChange wordSignsWrong)

/-- 'marionettelaw01.WordQuotients': WHATEVER THE INPUT: true; the input reads as it did. -/
def wordQuotientsSpec : ChangeSpec := { name := "wordQuotients", fn := fun _ => fun
  | [d1, d2] => { results := [.lit (.bool true)], args := [d1, d2] }
  | _ => none }
def wordQuotientsRow : OpenClaim := { program := "ytgbohkmlefhpjaa", sum := "f2974e3b20067985474075c7a8b51e095aea2e81d0328cab393630b5f1bc45d6", func := "marionette/marionettelaw01.WordQuotients", spec := "wordQuotients", apart := false }
def WordQuotientsSaid : Prop := wordQuotientsRow.holds Try.pinned (OpenSpec.ofChange wordQuotientsSpec)

/-- ITS FALSE NEIGHBOUR: 'it returns false'. Refute it at one input. -/
def wordQuotientsWrong : ChangeSpec := { name := "wordQuotients", fn := fun _ => fun
  | [d1, d2] => { results := [.lit (.bool false)], args := [d1, d2] }
  | _ => none }
def WordQuotientsWrongFalsely : Prop := wordQuotientsRow.holds Try.pinned (OpenSpec.ofChange wordQuotientsWrong)

/-- 'marionettelaw01.WordWhole': WHATEVER THE INPUT: true; the input reads as it did. -/
def wordWholeSpec : ChangeSpec := { name := "wordWhole", fn := fun _ => fun
  | [d1, d2] => { results := [.lit (.bool true)], args := [d1, d2] }
  | _ => none }
def wordWholeRow : OpenClaim := { program := "ytgbohkmlefhpjaa", sum := "f2974e3b20067985474075c7a8b51e095aea2e81d0328cab393630b5f1bc45d6", func := "marionette/marionettelaw01.WordWhole", spec := "wordWhole", apart := false }
def WordWholeSaid : Prop := wordWholeRow.holds Try.pinned (OpenSpec.ofChange wordWholeSpec)

/-- ITS FALSE NEIGHBOUR: 'it returns false'. Refute it at one input. -/
def wordWholeWrong : ChangeSpec := { name := "wordWhole", fn := fun _ => fun
  | [d1, d2] => { results := [.lit (.bool false)], args := [d1, d2] }
  | _ => none }
def WordWholeWrongFalsely : Prop := wordWholeRow.holds Try.pinned (OpenSpec.ofChange wordWholeWrong)

/-- 'marionettelaw01.WordBytes': WHATEVER THE INPUT: true; the input reads as it did. -/
def wordBytesSpec : ChangeSpec := { name := "wordBytes", fn := fun _ => fun
  | [d1, d2, d3] => { results := [.lit (.bool true)], args := [d1, d2, d3] }
  | _ => none }
def wordBytesRow : OpenClaim := { program := "ytgbohkmlefhpjaa", sum := "f2974e3b20067985474075c7a8b51e095aea2e81d0328cab393630b5f1bc45d6", func := "marionette/marionettelaw01.WordBytes", spec := "wordBytes", apart := false }
def WordBytesSaid : Prop := wordBytesRow.holds Try.pinned (OpenSpec.ofChange wordBytesSpec)

/-- ITS FALSE NEIGHBOUR: 'it returns false'. Refute it at one input. -/
def wordBytesWrong : ChangeSpec := { name := "wordBytes", fn := fun _ => fun
  | [d1, d2, d3] => { results := [.lit (.bool false)], args := [d1, d2, d3] }
  | _ => none }
def WordBytesWrongFalsely : Prop := wordBytesRow.holds Try.pinned (OpenSpec.ofChange wordBytesWrong)

/-- 'marionettelaw01.WordProducts': WHATEVER THE INPUT: true; the input reads as it did. -/
def wordProductsSpec : ChangeSpec := { name := "wordProducts", fn := fun _ => fun
  | [d1, d2] => { results := [.lit (.bool true)], args := [d1, d2] }
  | _ => none }
def wordProductsRow : OpenClaim := { program := "ytgbohkmlefhpjaa", sum := "f2974e3b20067985474075c7a8b51e095aea2e81d0328cab393630b5f1bc45d6", func := "marionette/marionettelaw01.WordProducts", spec := "wordProducts", apart := false }
def WordProductsSaid : Prop := wordProductsRow.holds Try.pinned (OpenSpec.ofChange wordProductsSpec)

/-- ITS FALSE NEIGHBOUR: 'it returns false'. Refute it at one input. -/
def wordProductsWrong : ChangeSpec := { name := "wordProducts", fn := fun _ => fun
  | [d1, d2] => { results := [.lit (.bool false)], args := [d1, d2] }
  | _ => none }
def WordProductsWrongFalsely : Prop := wordProductsRow.holds Try.pinned (OpenSpec.ofChange wordProductsWrong)

/-- 'marionettelaw01.WordAlike': WHATEVER THE INPUT: true; the input reads as it did. -/
def wordAlikeSpec : ChangeSpec := { name := "wordAlike", fn := fun _ => fun
  | [d1, d2, d3, d4] => { results := [.lit (.bool true)], args := [d1, d2, d3, d4] }
  | _ => none }
def wordAlikeRow : OpenClaim := { program := "ytgbohkmlefhpjaa", sum := "f2974e3b20067985474075c7a8b51e095aea2e81d0328cab393630b5f1bc45d6", func := "marionette/marionettelaw01.WordAlike", spec := "wordAlike", apart := false }
def WordAlikeSaid : Prop := wordAlikeRow.holds Try.pinned (OpenSpec.ofChange wordAlikeSpec)

/-- ITS FALSE NEIGHBOUR: 'it returns false'. Refute it at one input. -/
def wordAlikeWrong : ChangeSpec := { name := "wordAlike", fn := fun _ => fun
  | [d1, d2, d3, d4] => { results := [.lit (.bool false)], args := [d1, d2, d3, d4] }
  | _ => none }
def WordAlikeWrongFalsely : Prop := wordAlikeRow.holds Try.pinned (OpenSpec.ofChange wordAlikeWrong)

/- THE SECOND FORM. 'bulk': how many values and letters a reading holds, each counted each time it is reached (what is shared counts as often as it is met; a slice's spare places count too). A statement '..UptoSaid' is the law's where the arguments, and the package variables that the reading takes, are together of bulk at most 1048576: NARROWER than '..Said'. Prove '..Said' where nothing that the law and all that it calls make is longer than what came in: it says more and counts as full. Else prove '..UptoSaid'. A law counts once. -/
mutual
def uptoBulk {H : Type} : DataW H → Nat
  | .lit (.string bytes) => bytes.length + 1
  | .lit _ => 1
  | .nil => 1
  | .ptr d => uptoBulk d + 1
  | .slice elems spare => uptoBulkAll elems + uptoBulkAll spare + 1
  | .agg parts => uptoBulkAll parts + 1
  | .iface _ d => uptoBulk d + 1
  | .map entries => uptoBulkEntries entries + 1
  | .held _ => 1
def uptoBulkAll {H : Type} : List (DataW H) → Nat
  | [] => 0
  | d :: r => uptoBulk d + uptoBulkAll r
def uptoBulkEntries {H : Type} : List (Lit × DataW H) → Nat
  | [] => 0
  | x :: r => uptoBulkEntry x + uptoBulkEntries r
def uptoBulkEntry {H : Type} : Lit × DataW H → Nat
  | (.string bytes, d) => bytes.length + uptoBulk d + 1
  | (_, d) => uptoBulk d + 1
 end
def uptoSmall : (H : Type) → List (DataW H) → Bool := fun _ ds => decide (uptoBulkAll ds ≤ 1048576)
def OpenSpec.upto (s : _root_.Go.ChangeSpec) : _root_.Go.OpenSpec := { _root_.Go.OpenSpec.ofChange s with cond := some uptoSmall }

/-- 'marionettelaw01.WordSteps', WHERE WHAT IT READS IS OF BULK AT MOST 1048576: true; the input reads as it did. -/
def wordStepsUptoRow : OpenClaim := { program := "ytgbohkmlefhpjaa", sum := "f2974e3b20067985474075c7a8b51e095aea2e81d0328cab393630b5f1bc45d6", func := "marionette/marionettelaw01.WordSteps", spec := "wordSteps", apart := false, narrowed := true }
def WordStepsUptoSaid : Prop := wordStepsUptoRow.holds Try.pinned (OpenSpec.upto wordStepsSpec)

/-- 'marionettelaw01.WordSigns', WHERE WHAT IT READS IS OF BULK AT MOST 1048576: true; the input reads as it did. -/
def wordSignsUptoRow : OpenClaim := { program := "ytgbohkmlefhpjaa", sum := "f2974e3b20067985474075c7a8b51e095aea2e81d0328cab393630b5f1bc45d6", func := "marionette/marionettelaw01.WordSigns", spec := "wordSigns", apart := false, narrowed := true }
def WordSignsUptoSaid : Prop := wordSignsUptoRow.holds Try.pinned (OpenSpec.upto wordSignsSpec)

/-- 'marionettelaw01.WordQuotients', WHERE WHAT IT READS IS OF BULK AT MOST 1048576: true; the input reads as it did. -/
def wordQuotientsUptoRow : OpenClaim := { program := "ytgbohkmlefhpjaa", sum := "f2974e3b20067985474075c7a8b51e095aea2e81d0328cab393630b5f1bc45d6", func := "marionette/marionettelaw01.WordQuotients", spec := "wordQuotients", apart := false, narrowed := true }
def WordQuotientsUptoSaid : Prop := wordQuotientsUptoRow.holds Try.pinned (OpenSpec.upto wordQuotientsSpec)

/-- 'marionettelaw01.WordWhole', WHERE WHAT IT READS IS OF BULK AT MOST 1048576: true; the input reads as it did. -/
def wordWholeUptoRow : OpenClaim := { program := "ytgbohkmlefhpjaa", sum := "f2974e3b20067985474075c7a8b51e095aea2e81d0328cab393630b5f1bc45d6", func := "marionette/marionettelaw01.WordWhole", spec := "wordWhole", apart := false, narrowed := true }
def WordWholeUptoSaid : Prop := wordWholeUptoRow.holds Try.pinned (OpenSpec.upto wordWholeSpec)

/-- 'marionettelaw01.WordBytes', WHERE WHAT IT READS IS OF BULK AT MOST 1048576: true; the input reads as it did. -/
def wordBytesUptoRow : OpenClaim := { program := "ytgbohkmlefhpjaa", sum := "f2974e3b20067985474075c7a8b51e095aea2e81d0328cab393630b5f1bc45d6", func := "marionette/marionettelaw01.WordBytes", spec := "wordBytes", apart := false, narrowed := true }
def WordBytesUptoSaid : Prop := wordBytesUptoRow.holds Try.pinned (OpenSpec.upto wordBytesSpec)

/-- 'marionettelaw01.WordProducts', WHERE WHAT IT READS IS OF BULK AT MOST 1048576: true; the input reads as it did. -/
def wordProductsUptoRow : OpenClaim := { program := "ytgbohkmlefhpjaa", sum := "f2974e3b20067985474075c7a8b51e095aea2e81d0328cab393630b5f1bc45d6", func := "marionette/marionettelaw01.WordProducts", spec := "wordProducts", apart := false, narrowed := true }
def WordProductsUptoSaid : Prop := wordProductsUptoRow.holds Try.pinned (OpenSpec.upto wordProductsSpec)

/-- 'marionettelaw01.WordAlike', WHERE WHAT IT READS IS OF BULK AT MOST 1048576: true; the input reads as it did. -/
def wordAlikeUptoRow : OpenClaim := { program := "ytgbohkmlefhpjaa", sum := "f2974e3b20067985474075c7a8b51e095aea2e81d0328cab393630b5f1bc45d6", func := "marionette/marionettelaw01.WordAlike", spec := "wordAlike", apart := false, narrowed := true }
def WordAlikeUptoSaid : Prop := wordAlikeUptoRow.holds Try.pinned (OpenSpec.upto wordAlikeSpec)

end Rows
end Go.Proofs.Ytgbohkmlefhpjaa
