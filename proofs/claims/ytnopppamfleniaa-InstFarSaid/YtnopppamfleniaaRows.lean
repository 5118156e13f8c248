/-
  No cell of these rows narrows 'for every input' (looked for: loops, veiled, ifaces, maps, wideKeys, modest, calm, conditions, laid).
  DERIVED. THE GIVEN ROWS OF THIS SEAT. 6 by the template 'for every input the law returns true; each argument reads behind the call as it read before'; 0 by the template 'total and deterministic' (their statements: YtnopppamfleniaaTotals.lean).
  GIVEN WITH THE SEED: the statements are not yours to turn. If you find one false, say at which input.
  Laid BY PROGRAM, IN A SANDBOX (cutbox-rows.mjs): the forced cells as the released guide's own fill.sh prints them over the translation ff409fa5d090a35d… (all of the seat's roots in one cut). By AI agents, Wed Nov 11 2026. No macro, syntax, notation, axiom, sorry.
-/
import Derived.Test.YtnopppamfleniaaChecked
import GoSem.Claim
import GoSem.ClaimJoined
import GoSem.ClaimMapViews
import Derived.JoinedTies
import Derived.KernelRfl
namespace Go.Proofs.Ytnopppamfleniaa
/- THE CELL 'sum', in the pinned program and in every row, IS THE sha256 OF THE DUMP (.gsa) THAT YtnopppamfleniaaProg.lean LOADS. Nothing in Lean hashes anything: it is a label: what it is worth is what the hold of that sum in a sandbox is worth. -/
noncomputable def Try.pinned : Pinned := { name := "ytnopppamfleniaa", sum := "ff409fa5d090a35d3ebc9d55b4737f4ed45ae76b3c210fb5f8666291b8b91583", checked := Try.checked }
namespace Rows
def none {H : Type} : Left H := { results := [], args := [] }

/-- 'marionettelaw03.InstDecodes': WHATEVER THE INPUT: true; the input reads as it did. -/
def instDecodesSpec : ChangeSpec := { name := "instDecodes", fn := fun _ => fun
  | [d] => { results := [.lit (.bool true)], args := [d] }
  | _ => none }
def instDecodesRow : OpenClaim := { program := "ytnopppamfleniaa", sum := "ff409fa5d090a35d3ebc9d55b4737f4ed45ae76b3c210fb5f8666291b8b91583", func := "marionette/marionettelaw03.InstDecodes", spec := "instDecodes", apart := false }
def InstDecodesSaid : Prop := instDecodesRow.holds Try.pinned (OpenSpec.ofChange instDecodesSpec)

/-- ITS FALSE NEIGHBOUR: 'it returns false'. Refute it at one input. -/
def instDecodesWrong : ChangeSpec := { name := "instDecodes", fn := fun _ => fun
  | [d] => { results := [.lit (.bool false)], args := [d] }
  | _ => none }
def InstDecodesWrongFalsely : Prop := instDecodesRow.holds Try.pinned (OpenSpec.ofChange instDecodesWrong)

/-- 'marionettelaw03.InstFields': WHATEVER THE INPUT: true; the input reads as it did. -/
def instFieldsSpec : ChangeSpec := { name := "instFields", fn := fun _ => fun
  | [d1, d2, d3] => { results := [.lit (.bool true)], args := [d1, d2, d3] }
  | _ => none }
def instFieldsRow : OpenClaim := { program := "ytnopppamfleniaa", sum := "ff409fa5d090a35d3ebc9d55b4737f4ed45ae76b3c210fb5f8666291b8b91583", func := "marionette/marionettelaw03.InstFields", spec := "instFields", unfollowed := true, recurses := true, apart := false }
def InstFieldsSaid : Prop := instFieldsRow.holds Try.pinned (OpenSpec.ofChange instFieldsSpec)

/-- ITS FALSE NEIGHBOUR: 'it returns false'. Refute it at one input. -/
def instFieldsWrong : ChangeSpec := { name := "instFields", fn := fun _ => fun
  | [d1, d2, d3] => { results := [.lit (.bool false)], args := [d1, d2, d3] }
  | _ => none }
def InstFieldsWrongFalsely : Prop := instFieldsRow.holds Try.pinned (OpenSpec.ofChange instFieldsWrong)

/-- 'marionettelaw03.InstApart': WHATEVER THE INPUT: true; the input reads as it did. -/
def instApartSpec : ChangeSpec := { name := "instApart", fn := fun _ => fun
  | [d1, d2] => { results := [.lit (.bool true)], args := [d1, d2] }
  | _ => none }
def instApartRow : OpenClaim := { program := "ytnopppamfleniaa", sum := "ff409fa5d090a35d3ebc9d55b4737f4ed45ae76b3c210fb5f8666291b8b91583", func := "marionette/marionettelaw03.InstApart", spec := "instApart", unfollowed := true, recurses := true, apart := false }
def InstApartSaid : Prop := instApartRow.holds Try.pinned (OpenSpec.ofChange instApartSpec)

/-- ITS FALSE NEIGHBOUR: 'it returns false'. Refute it at one input. -/
def instApartWrong : ChangeSpec := { name := "instApart", fn := fun _ => fun
  | [d1, d2] => { results := [.lit (.bool false)], args := [d1, d2] }
  | _ => none }
def InstApartWrongFalsely : Prop := instApartRow.holds Try.pinned (OpenSpec.ofChange instApartWrong)

/-- 'marionettelaw03.InstEncodes': WHATEVER THE INPUT: true; the input reads as it did. -/
def instEncodesSpec : ChangeSpec := { name := "instEncodes", fn := fun _ => fun
  | [d] => { results := [.lit (.bool true)], args := [d] }
  | _ => none }
def instEncodesRow : OpenClaim := { program := "ytnopppamfleniaa", sum := "ff409fa5d090a35d3ebc9d55b4737f4ed45ae76b3c210fb5f8666291b8b91583", func := "marionette/marionettelaw03.InstEncodes", spec := "instEncodes", unfollowed := true, recurses := true, apart := false }
def InstEncodesSaid : Prop := instEncodesRow.holds Try.pinned (OpenSpec.ofChange instEncodesSpec)

/-- ITS FALSE NEIGHBOUR: 'it returns false'. Refute it at one input. -/
def instEncodesWrong : ChangeSpec := { name := "instEncodes", fn := fun _ => fun
  | [d] => { results := [.lit (.bool false)], args := [d] }
  | _ => none }
def InstEncodesWrongFalsely : Prop := instEncodesRow.holds Try.pinned (OpenSpec.ofChange instEncodesWrong)

/-- 'marionettelaw03.InstBack': WHATEVER THE INPUT: true; the input reads as it did. -/
def instBackSpec : ChangeSpec := { name := "instBack", fn := fun _ => fun
  | [d] => { results := [.lit (.bool true)], args := [d] }
  | _ => none }
def instBackRow : OpenClaim := { program := "ytnopppamfleniaa", sum := "ff409fa5d090a35d3ebc9d55b4737f4ed45ae76b3c210fb5f8666291b8b91583", func := "marionette/marionettelaw03.InstBack", spec := "instBack", unfollowed := true, recurses := true, apart := false }
def InstBackSaid : Prop := instBackRow.holds Try.pinned (OpenSpec.ofChange instBackSpec)

/-- ITS FALSE NEIGHBOUR: 'it returns false'. Refute it at one input. -/
def instBackWrong : ChangeSpec := { name := "instBack", fn := fun _ => fun
  | [d] => { results := [.lit (.bool false)], args := [d] }
  | _ => none }
def InstBackWrongFalsely : Prop := instBackRow.holds Try.pinned (OpenSpec.ofChange instBackWrong)

/-- 'marionettelaw03.InstFar': WHATEVER THE INPUT: true; the input reads as it did. -/
def instFarSpec : ChangeSpec := { name := "instFar", fn := fun _ => fun
  | [d1, d2, d3] => { results := [.lit (.bool true)], args := [d1, d2, d3] }
  | _ => none }
def instFarRow : OpenClaim := { program := "ytnopppamfleniaa", sum := "ff409fa5d090a35d3ebc9d55b4737f4ed45ae76b3c210fb5f8666291b8b91583", func := "marionette/marionettelaw03.InstFar", spec := "instFar", unfollowed := true, recurses := true, apart := false }
def InstFarSaid : Prop := instFarRow.holds Try.pinned (OpenSpec.ofChange instFarSpec)

/-- ITS FALSE NEIGHBOUR: 'it returns false'. Refute it at one input. -/
def instFarWrong : ChangeSpec := { name := "instFar", fn := fun _ => fun
  | [d1, d2, d3] => { results := [.lit (.bool false)], args := [d1, d2, d3] }
  | _ => none }
def InstFarWrongFalsely : Prop := instFarRow.holds Try.pinned (OpenSpec.ofChange instFarWrong)

/- THE SECOND FORM. 'bulk': how many values and letters a reading holds, each counted each time it is reached (what is shared counts as often as it is met; a slice's spare places count too). A statement '..UptoSaid' is the law's where the arguments, and the package variables that the reading takes, are together of bulk at most 1048576: NARROWER than '..Said'. Prove '..Said' where nothing that the law and all that it calls make is longer than what came in: it says more and counts as full. Else prove '..UptoSaid'. A law counts once. -/
mutual
def uptoBulk {H : Type} : DataW H → Nat
  | .lit (.string bytes) => bytes.length + 1
  | .lit _ => 1
  | .nil => 1
  | .ptr d => uptoBulk d + 1
  | .slice elems spare => uptoBulkAll elems + uptoBulkAll spare + 1
  | .agg parts => uptoBulkAll parts + 1
  | .iface _ d => uptoBulk d + 1
  | .map entries => uptoBulkEntries entries + 1
  | .held _ => 1
def uptoBulkAll {H : Type} : List (DataW H) → Nat
  | [] => 0
  | d :: r => uptoBulk d + uptoBulkAll r
def uptoBulkEntries {H : Type} : List (Lit × DataW H) → Nat
  | [] => 0
  | x :: r => uptoBulkEntry x + uptoBulkEntries r
def uptoBulkEntry {H : Type} : Lit × DataW H → Nat
  | (.string bytes, d) => bytes.length + uptoBulk d + 1
  | (_, d) => uptoBulk d + 1
 end
def uptoSmall : (H : Type) → List (DataW H) → Bool := fun _ ds => decide (uptoBulkAll ds ≤ 1048576)
def OpenSpec.upto (s : _root_.Go.ChangeSpec) : _root_.Go.OpenSpec := { _root_.Go.OpenSpec.ofChange s with cond := some uptoSmall }

/-- 'marionettelaw03.InstDecodes', WHERE WHAT IT READS IS OF BULK AT MOST 1048576: true; the input reads as it did. -/
def instDecodesUptoRow : OpenClaim := { program := "ytnopppamfleniaa", sum := "ff409fa5d090a35d3ebc9d55b4737f4ed45ae76b3c210fb5f8666291b8b91583", func := "marionette/marionettelaw03.InstDecodes", spec := "instDecodes", apart := false, narrowed := true }
def InstDecodesUptoSaid : Prop := instDecodesUptoRow.holds Try.pinned (OpenSpec.upto instDecodesSpec)

/-- 'marionettelaw03.InstFields', WHERE WHAT IT READS IS OF BULK AT MOST 1048576: true; the input reads as it did. -/
def instFieldsUptoRow : OpenClaim := { program := "ytnopppamfleniaa", sum := "ff409fa5d090a35d3ebc9d55b4737f4ed45ae76b3c210fb5f8666291b8b91583", func := "marionette/marionettelaw03.InstFields", spec := "instFields", unfollowed := true, recurses := true, apart := false, narrowed := true }
def InstFieldsUptoSaid : Prop := instFieldsUptoRow.holds Try.pinned (OpenSpec.upto instFieldsSpec)

/-- 'marionettelaw03.InstApart', WHERE WHAT IT READS IS OF BULK AT MOST 1048576: true; the input reads as it did. -/
def instApartUptoRow : OpenClaim := { program := "ytnopppamfleniaa", sum := "ff409fa5d090a35d3ebc9d55b4737f4ed45ae76b3c210fb5f8666291b8b91583", func := "marionette/marionettelaw03.InstApart", spec := "instApart", unfollowed := true, recurses := true, apart := false, narrowed := true }
def InstApartUptoSaid : Prop := instApartUptoRow.holds Try.pinned (OpenSpec.upto instApartSpec)

/-- 'marionettelaw03.InstEncodes', WHERE WHAT IT READS IS OF BULK AT MOST 1048576: true; the input reads as it did. -/
def instEncodesUptoRow : OpenClaim := { program := "ytnopppamfleniaa", sum := "ff409fa5d090a35d3ebc9d55b4737f4ed45ae76b3c210fb5f8666291b8b91583", func := "marionette/marionettelaw03.InstEncodes", spec := "instEncodes", unfollowed := true, recurses := true, apart := false, narrowed := true }
def InstEncodesUptoSaid : Prop := instEncodesUptoRow.holds Try.pinned (OpenSpec.upto instEncodesSpec)

/-- 'marionettelaw03.InstBack', WHERE WHAT IT READS IS OF BULK AT MOST 1048576: true; the input reads as it did. -/
def instBackUptoRow : OpenClaim := { program := "ytnopppamfleniaa", sum := "ff409fa5d090a35d3ebc9d55b4737f4ed45ae76b3c210fb5f8666291b8b91583", func := "marionette/marionettelaw03.InstBack", spec := "instBack", unfollowed := true, recurses := true, apart := false, narrowed := true }
def InstBackUptoSaid : Prop := instBackUptoRow.holds Try.pinned (OpenSpec.upto instBackSpec)

/-- 'marionettelaw03.InstFar', WHERE WHAT IT READS IS OF BULK AT MOST 1048576: true; the input reads as it did. -/
def instFarUptoRow : OpenClaim := { program := "ytnopppamfleniaa", sum := "ff409fa5d090a35d3ebc9d55b4737f4ed45ae76b3c210fb5f8666291b8b91583", func := "marionette/marionettelaw03.InstFar", spec := "instFar", unfollowed := true, recurses := true, apart := false, narrowed := true }
def InstFarUptoSaid : Prop := instFarUptoRow.holds Try.pinned (OpenSpec.upto instFarSpec)

end Rows
end Go.Proofs.Ytnopppamfleniaa
