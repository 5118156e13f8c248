/-
  No cell of these rows narrows 'for every input' (looked for: loops, veiled, ifaces, maps, wideKeys, modest, calm, conditions, laid).
  DERIVED. THE GIVEN ROWS OF THIS SEAT. 6 by the template 'for every input the law returns true; each argument reads behind the call as it read before'; 0 by the template 'total and deterministic' (their statements: YtnaiccgbjcppaaaTotals.lean).
  GIVEN WITH THE SEED: the statements are not yours to turn. If you find one false, say at which input.
  Laid BY PROGRAM, IN A SANDBOX (cutbox-rows.mjs): the forced cells as the released guide's own fill.sh prints them over the translation 7d079104cabf9e2d… (all of the seat's roots in one cut). By AI agents, Wed Nov 11 2026. No macro, syntax, notation, axiom, sorry.
-/
import Derived.Test.YtnaiccgbjcppaaaChecked
import GoSem.Claim
import GoSem.ClaimJoined
import GoSem.ClaimMapViews
import Derived.JoinedTies
import Derived.KernelRfl
namespace Go.Proofs.Ytnaiccgbjcppaaa
/- THE CELL 'sum', in the pinned program and in every row, IS THE sha256 OF THE DUMP (.gsa) THAT YtnaiccgbjcppaaaProg.lean LOADS. Nothing in Lean hashes anything: it is a label: what it is worth is what the hold of that sum in a sandbox is worth. -/
noncomputable def Try.pinned : Pinned := { name := "ytnaiccgbjcppaaa", sum := "7d079104cabf9e2d4f9db0a96de30b6abd878f25d39acd691b79ab1542f03989", checked := Try.checked }
namespace Rows
def none {H : Type} : Left H := { results := [], args := [] }

/-- 'marionettelaw07.RegionRooms': WHATEVER THE INPUT: true; the input reads as it did. -/
def regionRoomsSpec : ChangeSpec := { name := "regionRooms", fn := fun _ => fun
  | [d1, d2, d3] => { results := [.lit (.bool true)], args := [d1, d2, d3] }
  | _ => none }
def regionRoomsRow : OpenClaim := { program := "ytnaiccgbjcppaaa", sum := "7d079104cabf9e2d4f9db0a96de30b6abd878f25d39acd691b79ab1542f03989", func := "marionette/marionettelaw07.RegionRooms", spec := "regionRooms", inPlace := ["slices.overlaps[marionette/api.Region]"], unfollowed := true, recurses := true, apart := false }
def RegionRoomsSaid : Prop := regionRoomsRow.holds Try.pinned (OpenSpec.ofChange regionRoomsSpec)

/-- ITS FALSE NEIGHBOUR: 'it returns false'. Refute it at one input. -/
def regionRoomsWrong : ChangeSpec := { name := "regionRooms", fn := fun _ => fun
  | [d1, d2, d3] => { results := [.lit (.bool false)], args := [d1, d2, d3] }
  | _ => none }
def RegionRoomsWrongFalsely : Prop := regionRoomsRow.holds Try.pinned (OpenSpec.ofChange regionRoomsWrong)

/-- 'marionettelaw07.RegionAsks': WHATEVER THE INPUT: true; the input reads as it did. -/
def regionAsksSpec : ChangeSpec := { name := "regionAsks", fn := fun _ => fun
  | [d1, d2, d3, d4] => { results := [.lit (.bool true)], args := [d1, d2, d3, d4] }
  | _ => none }
def regionAsksRow : OpenClaim := { program := "ytnaiccgbjcppaaa", sum := "7d079104cabf9e2d4f9db0a96de30b6abd878f25d39acd691b79ab1542f03989", func := "marionette/marionettelaw07.RegionAsks", spec := "regionAsks", inPlace := ["slices.overlaps[marionette/api.Region]"], unfollowed := true, recurses := true, apart := false }
def RegionAsksSaid : Prop := regionAsksRow.holds Try.pinned (OpenSpec.ofChange regionAsksSpec)

/-- ITS FALSE NEIGHBOUR: 'it returns false'. Refute it at one input. -/
def regionAsksWrong : ChangeSpec := { name := "regionAsks", fn := fun _ => fun
  | [d1, d2, d3, d4] => { results := [.lit (.bool false)], args := [d1, d2, d3, d4] }
  | _ => none }
def RegionAsksWrongFalsely : Prop := regionAsksRow.holds Try.pinned (OpenSpec.ofChange regionAsksWrong)

/-- 'marionettelaw07.RegionMany': WHATEVER THE INPUT: true; the input reads as it did. -/
def regionManySpec : ChangeSpec := { name := "regionMany", fn := fun _ => fun
  | [d1, d2] => { results := [.lit (.bool true)], args := [d1, d2] }
  | _ => none }
def regionManyRow : OpenClaim := { program := "ytnaiccgbjcppaaa", sum := "7d079104cabf9e2d4f9db0a96de30b6abd878f25d39acd691b79ab1542f03989", func := "marionette/marionettelaw07.RegionMany", spec := "regionMany", inPlace := ["slices.overlaps[marionette/api.Region]"], unfollowed := true, recurses := true, apart := false }
def RegionManySaid : Prop := regionManyRow.holds Try.pinned (OpenSpec.ofChange regionManySpec)

/-- ITS FALSE NEIGHBOUR: 'it returns false'. Refute it at one input. -/
def regionManyWrong : ChangeSpec := { name := "regionMany", fn := fun _ => fun
  | [d1, d2] => { results := [.lit (.bool false)], args := [d1, d2] }
  | _ => none }
def RegionManyWrongFalsely : Prop := regionManyRow.holds Try.pinned (OpenSpec.ofChange regionManyWrong)

/-- 'marionettelaw07.RegionActs': WHATEVER THE INPUT: true; the input reads as it did. -/
def regionActsSpec : ChangeSpec := { name := "regionActs", fn := fun _ => fun
  | [d] => { results := [.lit (.bool true)], args := [d] }
  | _ => none }
def regionActsRow : OpenClaim := { program := "ytnaiccgbjcppaaa", sum := "7d079104cabf9e2d4f9db0a96de30b6abd878f25d39acd691b79ab1542f03989", func := "marionette/marionettelaw07.RegionActs", spec := "regionActs", inPlace := ["slices.overlaps[marionette/api.Region]"], unfollowed := true, recurses := true, apart := false }
def RegionActsSaid : Prop := regionActsRow.holds Try.pinned (OpenSpec.ofChange regionActsSpec)

/-- ITS FALSE NEIGHBOUR: 'it returns false'. Refute it at one input. -/
def regionActsWrong : ChangeSpec := { name := "regionActs", fn := fun _ => fun
  | [d] => { results := [.lit (.bool false)], args := [d] }
  | _ => none }
def RegionActsWrongFalsely : Prop := regionActsRow.holds Try.pinned (OpenSpec.ofChange regionActsWrong)

/-- 'marionettelaw07.RegionBack': WHATEVER THE INPUT: true; the input reads as it did. -/
def regionBackSpec : ChangeSpec := { name := "regionBack", fn := fun _ => fun
  | [d1, d2] => { results := [.lit (.bool true)], args := [d1, d2] }
  | _ => none }
def regionBackRow : OpenClaim := { program := "ytnaiccgbjcppaaa", sum := "7d079104cabf9e2d4f9db0a96de30b6abd878f25d39acd691b79ab1542f03989", func := "marionette/marionettelaw07.RegionBack", spec := "regionBack", inPlace := ["slices.overlaps[marionette/api.Region]"], unfollowed := true, recurses := true, apart := false }
def RegionBackSaid : Prop := regionBackRow.holds Try.pinned (OpenSpec.ofChange regionBackSpec)

/-- ITS FALSE NEIGHBOUR: 'it returns false'. Refute it at one input. -/
def regionBackWrong : ChangeSpec := { name := "regionBack", fn := fun _ => fun
  | [d1, d2] => { results := [.lit (.bool false)], args := [d1, d2] }
  | _ => none }
def RegionBackWrongFalsely : Prop := regionBackRow.holds Try.pinned (OpenSpec.ofChange regionBackWrong)

/-- 'marionettelaw07.RegionNone': WHATEVER THE INPUT: true; the input reads as it did. -/
def regionNoneSpec : ChangeSpec := { name := "regionNone", fn := fun _ => fun
  | [d1, d2, d3] => { results := [.lit (.bool true)], args := [d1, d2, d3] }
  | _ => none }
def regionNoneRow : OpenClaim := { program := "ytnaiccgbjcppaaa", sum := "7d079104cabf9e2d4f9db0a96de30b6abd878f25d39acd691b79ab1542f03989", func := "marionette/marionettelaw07.RegionNone", spec := "regionNone", inPlace := ["slices.overlaps[marionette/api.Region]"], unfollowed := true, recurses := true, apart := false }
def RegionNoneSaid : Prop := regionNoneRow.holds Try.pinned (OpenSpec.ofChange regionNoneSpec)

/-- ITS FALSE NEIGHBOUR: 'it returns false'. Refute it at one input. -/
def regionNoneWrong : ChangeSpec := { name := "regionNone", fn := fun _ => fun
  | [d1, d2, d3] => { results := [.lit (.bool false)], args := [d1, d2, d3] }
  | _ => none }
def RegionNoneWrongFalsely : Prop := regionNoneRow.holds Try.pinned (OpenSpec.ofChange regionNoneWrong)

/- THE SECOND FORM. 'bulk': how many values and letters a reading holds, each counted each time it is reached (what is shared counts as often as it is met; a slice's spare places count too). A statement '..UptoSaid' is the law's where the arguments, and the package variables that the reading takes, are together of bulk at most 1048576: NARROWER than '..Said'. Prove '..Said' where nothing that the law and all that it calls make is longer than what came in: it says more and counts as full. Else prove '..UptoSaid'. A law counts once. -/
mutual
def uptoBulk {H : Type} : DataW H → Nat
  | .lit (.string bytes) => bytes.length + 1
  | .lit _ => 1
  | .nil => 1
  | .ptr d => uptoBulk d + 1
  | .slice elems spare => uptoBulkAll elems + uptoBulkAll spare + 1
  | .agg parts => uptoBulkAll parts + 1
  | .iface _ d => uptoBulk d + 1
  | .map entries => uptoBulkEntries entries + 1
  | .held _ => 1
def uptoBulkAll {H : Type} : List (DataW H) → Nat
  | [] => 0
  | d :: r => uptoBulk d + uptoBulkAll r
def uptoBulkEntries {H : Type} : List (Lit × DataW H) → Nat
  | [] => 0
  | x :: r => uptoBulkEntry x + uptoBulkEntries r
def uptoBulkEntry {H : Type} : Lit × DataW H → Nat
  | (.string bytes, d) => bytes.length + uptoBulk d + 1
  | (_, d) => uptoBulk d + 1
 end
def uptoSmall : (H : Type) → List (DataW H) → Bool := fun _ ds => decide (uptoBulkAll ds ≤ 1048576)
def OpenSpec.upto (s : _root_.Go.ChangeSpec) : _root_.Go.OpenSpec := { _root_.Go.OpenSpec.ofChange s with cond := some uptoSmall }

/-- 'marionettelaw07.RegionRooms', WHERE WHAT IT READS IS OF BULK AT MOST 1048576: true; the input reads as it did. -/
def regionRoomsUptoRow : OpenClaim := { program := "ytnaiccgbjcppaaa", sum := "7d079104cabf9e2d4f9db0a96de30b6abd878f25d39acd691b79ab1542f03989", func := "marionette/marionettelaw07.RegionRooms", spec := "regionRooms", inPlace := ["slices.overlaps[marionette/api.Region]"], unfollowed := true, recurses := true, apart := false, narrowed := true }
def RegionRoomsUptoSaid : Prop := regionRoomsUptoRow.holds Try.pinned (OpenSpec.upto regionRoomsSpec)

/-- 'marionettelaw07.RegionAsks', WHERE WHAT IT READS IS OF BULK AT MOST 1048576: true; the input reads as it did. -/
def regionAsksUptoRow : OpenClaim := { program := "ytnaiccgbjcppaaa", sum := "7d079104cabf9e2d4f9db0a96de30b6abd878f25d39acd691b79ab1542f03989", func := "marionette/marionettelaw07.RegionAsks", spec := "regionAsks", inPlace := ["slices.overlaps[marionette/api.Region]"], unfollowed := true, recurses := true, apart := false, narrowed := true }
def RegionAsksUptoSaid : Prop := regionAsksUptoRow.holds Try.pinned (OpenSpec.upto regionAsksSpec)

/-- 'marionettelaw07.RegionMany', WHERE WHAT IT READS IS OF BULK AT MOST 1048576: true; the input reads as it did. -/
def regionManyUptoRow : OpenClaim := { program := "ytnaiccgbjcppaaa", sum := "7d079104cabf9e2d4f9db0a96de30b6abd878f25d39acd691b79ab1542f03989", func := "marionette/marionettelaw07.RegionMany", spec := "regionMany", inPlace := ["slices.overlaps[marionette/api.Region]"], unfollowed := true, recurses := true, apart := false, narrowed := true }
def RegionManyUptoSaid : Prop := regionManyUptoRow.holds Try.pinned (OpenSpec.upto regionManySpec)

/-- 'marionettelaw07.RegionActs', WHERE WHAT IT READS IS OF BULK AT MOST 1048576: true; the input reads as it did. -/
def regionActsUptoRow : OpenClaim := { program := "ytnaiccgbjcppaaa", sum := "7d079104cabf9e2d4f9db0a96de30b6abd878f25d39acd691b79ab1542f03989", func := "marionette/marionettelaw07.RegionActs", spec := "regionActs", inPlace := ["slices.overlaps[marionette/api.Region]"], unfollowed := true, recurses := true, apart := false, narrowed := true }
def RegionActsUptoSaid : Prop := regionActsUptoRow.holds Try.pinned (OpenSpec.upto regionActsSpec)

/-- 'marionettelaw07.RegionBack', WHERE WHAT IT READS IS OF BULK AT MOST 1048576: true; the input reads as it did. -/
def regionBackUptoRow : OpenClaim := { program := "ytnaiccgbjcppaaa", sum := "7d079104cabf9e2d4f9db0a96de30b6abd878f25d39acd691b79ab1542f03989", func := "marionette/marionettelaw07.RegionBack", spec := "regionBack", inPlace := ["slices.overlaps[marionette/api.Region]"], unfollowed := true, recurses := true, apart := false, narrowed := true }
def RegionBackUptoSaid : Prop := regionBackUptoRow.holds Try.pinned (OpenSpec.upto regionBackSpec)

/-- 'marionettelaw07.RegionNone', WHERE WHAT IT READS IS OF BULK AT MOST 1048576: true; the input reads as it did. -/
def regionNoneUptoRow : OpenClaim := { program := "ytnaiccgbjcppaaa", sum := "7d079104cabf9e2d4f9db0a96de30b6abd878f25d39acd691b79ab1542f03989", func := "marionette/marionettelaw07.RegionNone", spec := "regionNone", inPlace := ["slices.overlaps[marionette/api.Region]"], unfollowed := true, recurses := true, apart := false, narrowed := true }
def RegionNoneUptoSaid : Prop := regionNoneUptoRow.holds Try.pinned (OpenSpec.upto regionNoneSpec)

end Rows
end Go.Proofs.Ytnaiccgbjcppaaa
