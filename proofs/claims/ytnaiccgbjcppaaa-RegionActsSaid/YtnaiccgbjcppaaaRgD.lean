/- (*region.List).take, New, Pages: walked. -/
import Derived.Test.YtnaiccgbjcppaaaRgC
import Derived.Deep.Onto
namespace Go.Proofs.Ytnaiccgbjcppaaa.Rg
open Go Go.RowKit Go.Proofs.YtnaiccgbjcppaaaW.PrintWords Go.Proofs.YtnaiccgbjcppaaaW.PrintLast Go.Proofs.YtnaiccgbjcppaaaW.PrintMore
open Go.Proofs.Ytnaiccgbjcppaaa.Hp
attribute [local go_sem] max2_int min2_int max_two min_two max_three min_three max_four min_four
set_option linter.unusedVariables false
set_option linter.unusedSimpArgs false
theorem OwnR.low {w : World} {B B1 : Nat} {v : Value} {l : List Rg} (h : OwnR w B v l) (hb : B1 ≤ B) : OwnR w B1 v l := World.ownsRow.mono h hb
/-- A list of regions: a block that holds a row, in blocks from B on. -/
structure Lst (w : World) (B g : Nat) (l : List Rg) : Prop where
  row : ∃ v, Blk w g 65 #[v] ∧ OwnR w B v l
  gb : B ≤ g
theorem Lst.fr {w w1 : World} {B g : Nat} {l : List Rg} (h : Lst w B g l) (hf : Fr (fun _ => False) w w1) : Lst w1 B g l := by
  obtain ⟨v, hb, ho⟩ := h.row
  exact ⟨⟨v, hb.fr hf id, ho.fr hf (fun _ _ => id)⟩, h.gb⟩
theorem new_any (w : World) : Calls Try.prog 21 #[] w fun e w' => e = .returned (.pointer (some ⟨w.heap.size, 0, none⟩)) ∧ Lst w' w.heap.size w.heap.size [] ∧ Fr (fun _ => False) w w' := by
  go_enter Try.func21, Try.ntmps21
  go_wp2_with fail
  go_ret
  exact ⟨rfl, ⟨⟨.slice none 0 0, Blk.new w 65 #[.slice none 0 0], OwnR.nil _ _⟩, Nat.le_refl _⟩, (Fr.refl _ _).alloc _⟩
/-- What take answers. -/
def takeE (l : List Rg) : Int := if 256 < (joinedL l).length then 12 else 0
def takeL (old l : List Rg) : List Rg := if 256 < (joinedL l).length then old else joinedL l
set_option maxHeartbeats 2000000 in
theorem take_any (B g : Nat) (old l : List Rg) (v : Value) (w : World) (h : Lst w B g old) (B2 : Nat) (hv : OwnR w B2 v l) (hn : l.length ≤ 5000) : Calls Try.prog 43 #[.pointer (some ⟨g, 0, none⟩), v] w fun e w' => e = .returned (.int .i64 (takeE l)) ∧ Lst w' B g (takeL old l) ∧ Fr (fun k => k = g) w w' := by
  obtain ⟨A, c, rfl, _, _⟩ := hv.form
  have H := Lib.hid h
  have HV := Lib.hid hv
  have HN := Lib.hid hn
  clear h hv hn
  go_enter Try.func43, Try.ntmps43
  go_wp2_with fail
  refine (joined_any _ l B2 _ HV.out HN.out).mono ?_
  rintro e w1 ⟨v1, rfl, ho1, hb1⟩
  obtain ⟨A1, c1, rfl, _, _⟩ := ho1.form
  have HO1 := Lib.hid ho1
  have HF1 := Lib.hid (Fr.of_below (S := fun _ => False) hb1)
  have hsz := hb1.size
  clear ho1 hb1
  obtain ⟨v0, hb0, hr0⟩ := (H.out.fr HF1.out).row
  have HB0 := Lib.hid hb0
  have k0 := hb0.cell 0
  have f0 := hb0.frozen 0
  simp at k0
  have hgb := H.out.gb
  have hlt : g < w.heap.size := by
    obtain ⟨v9, hb9, _⟩ := H.out.row
    exact hb9.lt
  clear hb0
  by_cases hc : 256 < (joinedL l).length
  · have b1 : decide ((256 : Int) < ((joinedL l).length : Int)) = true := decide_eq_true (by omega)
    have b1' : decide (256 < (joinedL l).length) = true := decide_eq_true hc
    have HT := Lib.hid (show takeE l = 12 ∧ takeL old l = old from ⟨if_pos hc, if_pos hc⟩)
    clear hc
    go_wp2_with fail
    go_ret
    rw [HT.out.1, HT.out.2]
    exact ⟨rfl, H.out.fr HF1.out, HF1.out.mono (fun _ _ h => h.elim)⟩
  · have b1 : decide ((256 : Int) < ((joinedL l).length : Int)) = false := decide_eq_false (by omega)
    have b1' : decide (256 < (joinedL l).length) = false := decide_eq_false hc
    have HT := Lib.hid (show takeE l = 0 ∧ takeL old l = joinedL l from ⟨if_neg hc, if_neg hc⟩)
    have hset := HB0.out.set 0 (.slice A1 (joinedL l).length c1)
    have HS := Lib.hid (show Blk (w1.setCell ⟨g, 0, none⟩ (.slice A1 (joinedL l).length c1)) g 65 #[.slice A1 (joinedL l).length c1] from by simpa using hset)
    have hfs : Fr (fun k => k = g) w1 (w1.setCell ⟨g, 0, none⟩ (.slice A1 (joinedL l).length c1)) := (Fr.refl (fun k => k = g) w1).setCell (p := ⟨g, 0, none⟩) (.inl rfl) _
    have HOS := Lib.hid (HO1.out.fr hfs (fun k e e2 => by have e1 := own_ge HO1.out k e; omega))
    have HFS := Lib.hid ((HF1.out.mono (T := fun k => k = g) (fun _ _ h => h.elim)).trans hfs (fun _ _ => id))
    clear hc hset hfs
    go_wp2_with fail
    go_ret
    rw [HT.out.1, HT.out.2]
    refine ⟨rfl, ⟨⟨_, HS.out, ?_⟩, hgb⟩, HFS.out⟩
    exact OwnR.low HOS.out (by omega)
end Go.Proofs.Ytnaiccgbjcppaaa.Rg
