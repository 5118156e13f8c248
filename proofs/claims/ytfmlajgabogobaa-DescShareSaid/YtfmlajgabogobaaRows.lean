/-
  No cell of these rows narrows 'for every input' (looked for: loops, veiled, ifaces, maps, wideKeys, modest, calm, conditions, laid).
  DERIVED. THE GIVEN ROWS OF THIS SEAT. 4 by the template 'for every input the law returns true; each argument reads behind the call as it read before'; 0 by the template 'total and deterministic' (their statements: YtfmlajgabogobaaTotals.lean).
  GIVEN WITH THE SEED: the statements are not yours to turn. If you find one false, say at which input.
  Laid BY PROGRAM, IN A SANDBOX (cutbox-rows.mjs): the forced cells as the released guide's own fill.sh prints them over the translation dcdb6a3c152b121a… (all of the seat's roots in one cut). By AI agents, Wed Nov 11 2026. No macro, syntax, notation, axiom, sorry.
-/
import Derived.Test.YtfmlajgabogobaaChecked
import GoSem.Claim
import GoSem.ClaimJoined
import GoSem.ClaimMapViews
import Derived.JoinedTies
import Derived.KernelRfl
namespace Go.Proofs.Ytfmlajgabogobaa
/- THE CELL 'sum', in the pinned program and in every row, IS THE sha256 OF THE DUMP (.gsa) THAT YtfmlajgabogobaaProg.lean LOADS. Nothing in Lean hashes anything: it is a label: what it is worth is what the hold of that sum in a sandbox is worth. -/
noncomputable def Try.pinned : Pinned := { name := "ytfmlajgabogobaa", sum := "dcdb6a3c152b121a9794bd3cd5b365b9f8f338ec6435b2f45d8fe929d00a6474", checked := Try.checked }
namespace Rows
def none {H : Type} : Left H := { results := [], args := [] }

/-- 'marionettelaw19.DescLeast': WHATEVER THE INPUT: true; the input reads as it did. -/
def descLeastSpec : ChangeSpec := { name := "descLeast", fn := fun _ => fun
  | [d1, d2] => { results := [.lit (.bool true)], args := [d1, d2] }
  | _ => none }
def descLeastRow : OpenClaim := { program := "ytfmlajgabogobaa", sum := "dcdb6a3c152b121a9794bd3cd5b365b9f8f338ec6435b2f45d8fe929d00a6474", func := "marionette/marionettelaw19.DescLeast", spec := "descLeast", apart := false }
def DescLeastSaid : Prop := descLeastRow.holds Try.pinned (OpenSpec.ofChange descLeastSpec)

/-- ITS FALSE NEIGHBOUR: 'it returns false'. Refute it at one input. -/
def descLeastWrong : ChangeSpec := { name := "descLeast", fn := fun _ => fun
  | [d1, d2] => { results := [.lit (.bool false)], args := [d1, d2] }
  | _ => none }
def DescLeastWrongFalsely : Prop := descLeastRow.holds Try.pinned (OpenSpec.ofChange descLeastWrong)

/-- 'marionettelaw19.DescShare': WHATEVER THE INPUT: true; the input reads as it did. -/
def descShareSpec : ChangeSpec := { name := "descShare", fn := fun _ => fun
  | [d1, d2, d3] => { results := [.lit (.bool true)], args := [d1, d2, d3] }
  | _ => none }
def descShareRow : OpenClaim := { program := "ytfmlajgabogobaa", sum := "dcdb6a3c152b121a9794bd3cd5b365b9f8f338ec6435b2f45d8fe929d00a6474", func := "marionette/marionettelaw19.DescShare", spec := "descShare", recurses := true, apart := false }
def DescShareSaid : Prop := descShareRow.holds Try.pinned (OpenSpec.ofChange descShareSpec)

/-- ITS FALSE NEIGHBOUR: 'it returns false'. Refute it at one input. -/
def descShareWrong : ChangeSpec := { name := "descShare", fn := fun _ => fun
  | [d1, d2, d3] => { results := [.lit (.bool false)], args := [d1, d2, d3] }
  | _ => none }
def DescShareWrongFalsely : Prop := descShareRow.holds Try.pinned (OpenSpec.ofChange descShareWrong)

/-- 'marionettelaw19.DescActs': WHATEVER THE INPUT: true; the input reads as it did. -/
def descActsSpec : ChangeSpec := { name := "descActs", fn := fun _ => fun
  | [d1, d2] => { results := [.lit (.bool true)], args := [d1, d2] }
  | _ => none }
def descActsRow : OpenClaim := { program := "ytfmlajgabogobaa", sum := "dcdb6a3c152b121a9794bd3cd5b365b9f8f338ec6435b2f45d8fe929d00a6474", func := "marionette/marionettelaw19.DescActs", spec := "descActs", recurses := true, apart := false }
def DescActsSaid : Prop := descActsRow.holds Try.pinned (OpenSpec.ofChange descActsSpec)

/-- ITS FALSE NEIGHBOUR: 'it returns false'. Refute it at one input. -/
def descActsWrong : ChangeSpec := { name := "descActs", fn := fun _ => fun
  | [d1, d2] => { results := [.lit (.bool false)], args := [d1, d2] }
  | _ => none }
def DescActsWrongFalsely : Prop := descActsRow.holds Try.pinned (OpenSpec.ofChange descActsWrong)

/-- 'marionettelaw19.DescNone': WHATEVER THE INPUT: true; the input reads as it did. -/
def descNoneSpec : ChangeSpec := { name := "descNone", fn := fun _ => fun
  | [d1, d2] => { results := [.lit (.bool true)], args := [d1, d2] }
  | _ => none }
def descNoneRow : OpenClaim := { program := "ytfmlajgabogobaa", sum := "dcdb6a3c152b121a9794bd3cd5b365b9f8f338ec6435b2f45d8fe929d00a6474", func := "marionette/marionettelaw19.DescNone", spec := "descNone", recurses := true, apart := false }
def DescNoneSaid : Prop := descNoneRow.holds Try.pinned (OpenSpec.ofChange descNoneSpec)

/-- ITS FALSE NEIGHBOUR: 'it returns false'. Refute it at one input. -/
def descNoneWrong : ChangeSpec := { name := "descNone", fn := fun _ => fun
  | [d1, d2] => { results := [.lit (.bool false)], args := [d1, d2] }
  | _ => none }
def DescNoneWrongFalsely : Prop := descNoneRow.holds Try.pinned (OpenSpec.ofChange descNoneWrong)

/- THE SECOND FORM. 'bulk': how many values and letters a reading holds, each counted each time it is reached (what is shared counts as often as it is met; a slice's spare places count too). A statement '..UptoSaid' is the law's where the arguments, and the package variables that the reading takes, are together of bulk at most 1048576: NARROWER than '..Said'. Prove '..Said' where nothing that the law and all that it calls make is longer than what came in: it says more and counts as full. Else prove '..UptoSaid'. A law counts once. -/
mutual
def uptoBulk {H : Type} : DataW H → Nat
  | .lit (.string bytes) => bytes.length + 1
  | .lit _ => 1
  | .nil => 1
  | .ptr d => uptoBulk d + 1
  | .slice elems spare => uptoBulkAll elems + uptoBulkAll spare + 1
  | .agg parts => uptoBulkAll parts + 1
  | .iface _ d => uptoBulk d + 1
  | .map entries => uptoBulkEntries entries + 1
  | .held _ => 1
def uptoBulkAll {H : Type} : List (DataW H) → Nat
  | [] => 0
  | d :: r => uptoBulk d + uptoBulkAll r
def uptoBulkEntries {H : Type} : List (Lit × DataW H) → Nat
  | [] => 0
  | x :: r => uptoBulkEntry x + uptoBulkEntries r
def uptoBulkEntry {H : Type} : Lit × DataW H → Nat
  | (.string bytes, d) => bytes.length + uptoBulk d + 1
  | (_, d) => uptoBulk d + 1
 end
def uptoSmall : (H : Type) → List (DataW H) → Bool := fun _ ds => decide (uptoBulkAll ds ≤ 1048576)
def OpenSpec.upto (s : _root_.Go.ChangeSpec) : _root_.Go.OpenSpec := { _root_.Go.OpenSpec.ofChange s with cond := some uptoSmall }

/-- 'marionettelaw19.DescLeast', WHERE WHAT IT READS IS OF BULK AT MOST 1048576: true; the input reads as it did. -/
def descLeastUptoRow : OpenClaim := { program := "ytfmlajgabogobaa", sum := "dcdb6a3c152b121a9794bd3cd5b365b9f8f338ec6435b2f45d8fe929d00a6474", func := "marionette/marionettelaw19.DescLeast", spec := "descLeast", apart := false, narrowed := true }
def DescLeastUptoSaid : Prop := descLeastUptoRow.holds Try.pinned (OpenSpec.upto descLeastSpec)

/-- 'marionettelaw19.DescShare', WHERE WHAT IT READS IS OF BULK AT MOST 1048576: true; the input reads as it did. -/
def descShareUptoRow : OpenClaim := { program := "ytfmlajgabogobaa", sum := "dcdb6a3c152b121a9794bd3cd5b365b9f8f338ec6435b2f45d8fe929d00a6474", func := "marionette/marionettelaw19.DescShare", spec := "descShare", recurses := true, apart := false, narrowed := true }
def DescShareUptoSaid : Prop := descShareUptoRow.holds Try.pinned (OpenSpec.upto descShareSpec)

/-- 'marionettelaw19.DescActs', WHERE WHAT IT READS IS OF BULK AT MOST 1048576: true; the input reads as it did. -/
def descActsUptoRow : OpenClaim := { program := "ytfmlajgabogobaa", sum := "dcdb6a3c152b121a9794bd3cd5b365b9f8f338ec6435b2f45d8fe929d00a6474", func := "marionette/marionettelaw19.DescActs", spec := "descActs", recurses := true, apart := false, narrowed := true }
def DescActsUptoSaid : Prop := descActsUptoRow.holds Try.pinned (OpenSpec.upto descActsSpec)

/-- 'marionettelaw19.DescNone', WHERE WHAT IT READS IS OF BULK AT MOST 1048576: true; the input reads as it did. -/
def descNoneUptoRow : OpenClaim := { program := "ytfmlajgabogobaa", sum := "dcdb6a3c152b121a9794bd3cd5b365b9f8f338ec6435b2f45d8fe929d00a6474", func := "marionette/marionettelaw19.DescNone", spec := "descNone", recurses := true, apart := false, narrowed := true }
def DescNoneUptoSaid : Prop := descNoneUptoRow.holds Try.pinned (OpenSpec.upto descNoneSpec)

end Rows
end Go.Proofs.Ytfmlajgabogobaa
