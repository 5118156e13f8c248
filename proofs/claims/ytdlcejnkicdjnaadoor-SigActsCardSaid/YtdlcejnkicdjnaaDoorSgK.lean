/- A signals' state: SetAction where it sets; Action: walked. -/
import Derived.Test.YtdlcejnkicdjnaaDoorSgJ
namespace Go.Proofs.YtdlcejnkicdjnaaDoor.Sg
open Go Go.RowKit Go.Proofs.YtdlcejnkicdjnaaDoorW.PrintWords Go.Proofs.YtdlcejnkicdjnaaDoorW.PrintLast Go.Proofs.YtdlcejnkicdjnaaDoorW.PrintMore
open Go.Proofs.YtdlcejnkicdjnaaDoor.Hp Go.Proofs.YtdlcejnkicdjnaaDoor.Bv
attribute [local go_sem] max2_int min2_int max_two min_two max_three min_three max_four min_four
attribute [local go_sem] wrap_add wrap_sub wrap_mul wrap_neg and_U or_U xor_U andNot_U wrap_U
set_option linter.unusedVariables false
set_option linter.unusedSimpArgs false
theorem fr3g {w w' : World} {g : Nat} (h : Fr (fun k => k = g) w w') (i j k : Nat) (v0 v1 v2 : Value) : Fr (fun k => k = g) w (((w'.setCell ⟨g, i, none⟩ v0).setCell ⟨g, j, none⟩ v1).setCell ⟨g, k, none⟩ v2) :=
  ((h.setCell (p := ⟨g, i, none⟩) (.inl rfl) v0).setCell (p := ⟨g, j, none⟩) (.inl rfl) v1).setCell (p := ⟨g, k, none⟩) (.inl rfl) v2
theorem setaction_yes {g : Nat} {A : Nat → Int} {M P x y : BitVec 64} (m : Nat) (a0 a1 : Int) (v : BitVec 64) (hm : 1 ≤ m ∧ m ≤ 64) (h9 : m ≠ 9) (h19 : m ≠ 19) (w : World) (h : St w g A M P x y) : Calls Tryd.prog 17 #[.pointer (some ⟨g, 0, none⟩), .int .i64 (m : Int), .agg #[.int .u64 a0, .int .u64 a1, .int .u64 (U v)]] w fun e w' => e = .returned (.int .i64 0) ∧ St w' g (upd3 A m a0 a1 (U (keepZ v))) M P x y ∧ Fr (fun k => k = g) w w' := by
  have H := Lib.hid bit_any
  have HN := Lib.hid never_any
  have h0 := bit_zero (m : Int)
  rw [decide_eq_true (by omega), Bool.not_true] at h0
  have h1 := bar_and m hm
  rw [show (m == 9 || m == 19) = false by simp [h9, h19], Bool.not_false] at h1
  have HF := Lib.hid ((Fr.refl (fun k => k = g) w).alloc (.cells #[.int .u64 a0, .int .u64 a1, .int .u64 (U v)] 33))
  have HX := Lib.hid (Blk.new w 33 #[.int .u64 a0, .int .u64 a1, .int .u64 (U v)])
  have HB := Lib.hid (Blk.alloc h (.cells #[.int .u64 a0, .int .u64 a1, .int .u64 (U v)] 33))
  have hgw := h.lt
  have hne : ¬ g = w.heap.size := by omega
  have hne' : ¬ w.heap.size = g := by omega
  have t1 : decide ((m : Int) < 65) = true := decide_eq_true (by omega)
  have hm65 : m < 65 := by omega
  clear h h9 h19 hm
  go_enter Tryd.func17, Tryd.ntmps17
  go_wp2_with fail
  refine (H.out _ _).mono ?_
  rintro e w1 ⟨rfl, hf⟩
  have HF := Lib.hid (HF.out.trans hf (fun _ _ e => e.elim))
  have HX := Lib.hid (HX.out.fr hf id)
  have HB := Lib.hid (HB.out.fr hf id)
  clear hf
  go_wp2_with fail
  refine (H.out _ _).mono ?_
  rintro e w2 ⟨rfl, hf⟩
  have HF := Lib.hid (HF.out.trans hf (fun _ _ e => e.elim))
  have HX := Lib.hid (HX.out.fr hf id)
  have HB := Lib.hid (HB.out.fr hf id)
  clear hf
  go_wp2_with fail
  refine (HN.out _).mono ?_
  rintro e w3 ⟨rfl, hf⟩
  have HF := Lib.hid (HF.out.trans hf (fun _ _ e => e.elim))
  have HX := Lib.hid (HX.out.fr hf id)
  have HB := Lib.hid (HB.out.fr hf id)
  clear hf
  go_wp2_with fail
  obtain ⟨k1, k2⟩ := (show _ ∧ _ from ⟨(show Blk w3.drew w.heap.size 33 #[.int .u64 a0, .int .u64 a1, .int .u64 (U v)] from HX.out).cell 2, (show Blk w3.drew w.heap.size 33 #[.int .u64 a0, .int .u64 a1, .int .u64 (U v)] from HX.out).frozen 2⟩)
  simp at k1
  go_region_with (go_at_call 30; refine (HN.out _).mono ?_; rintro e w4 ⟨rfl, hf4⟩; obtain ⟨k3, k4⟩ := (show _ ∧ _ from ⟨(Blk.fr (show Blk w3.drew w.heap.size 33 #[.int .u64 a0, .int .u64 a1, .int .u64 (U v)] from HX.out) hf4 id).cell 2, (Blk.fr (show Blk w3.drew w.heap.size 33 #[.int .u64 a0, .int .u64 a1, .int .u64 (U v)] from HX.out) hf4 id).frozen 2⟩); simp at k3)
  all_goals
    have HX := Lib.hid (show Blk (w4.setCell ⟨w.heap.size, 2, none⟩ (.int .u64 (U (keepZ v)))) w.heap.size 33 #[.int .u64 a0, .int .u64 a1, .int .u64 (U (keepZ v))] from by have e := (Blk.fr (show Blk w3.drew w.heap.size 33 #[.int .u64 a0, .int .u64 a1, .int .u64 (U v)] from HX.out) hf4 id).set 2 (.int .u64 (U (keepZ v))); simpa [Blk] using e)
    have HB := Lib.hid (show St (w4.setCell ⟨w.heap.size, 2, none⟩ (.int .u64 (U (keepZ v)))) g A M P x y from Blk.set_ne (St.fr (show St w3.drew g A M P x y from HB.out) hf4 id) (p := ⟨w.heap.size, 2, none⟩) hne _)
    have HF := Lib.hid ((HF.out.drew.trans hf4 (fun _ _ e => e.elim)).setCell (p := ⟨w.heap.size, 2, none⟩) (.inr (Nat.le_refl _)) (.int .u64 (U (keepZ v))))
    clear hf4 k1 k2 k3 k4
    have ek : v &&& ~~~262400#64 = keepZ v := rfl
    try rw [show (v &&& 18446744073709289215#64) = keepZ v from rfl]
    generalize hu : keepZ v = u at *
    have HU := Lib.hid hu
    clear hu ek
    generalize w4.setCell ⟨w.heap.size, 2, none⟩ (.int .u64 (U u)) = w5 at *
    obtain ⟨c0, c1, c2⟩ := (show _ ∧ _ ∧ _ from ⟨HX.out.cell 0, HX.out.cell 1, HX.out.cell 2⟩)
    simp at c0 c1 c2
    obtain ⟨b0, b1, b2⟩ := (show _ ∧ _ ∧ _ from ⟨HB.out.lo (m * 3) (by omega), HB.out.lo (m * 3 + 1) (by omega), HB.out.lo (m * 3 + 2) (by omega)⟩)
    obtain ⟨f0, f1, f2⟩ := (show _ ∧ _ ∧ _ from ⟨HB.out.frz (m * 3), HB.out.frz (m * 3 + 1), HB.out.frz (m * 3 + 2)⟩)
    go_wp2_with fail
    go_region
    all_goals go_wp2
    all_goals
      go_ret
      rw [HU.out]
      exact ⟨rfl, by first | exact (HB.out.set3 m hm65 _ _ _).drew | exact HB.out.set3 m hm65 _ _ _ | exact St.set3 (w := w5.drew) (show St w5.drew g A M P x y from HB.out) m hm65 _ _ _, by first | exact (fr3g HF.out _ _ _ _ _ _).drew | exact fr3g HF.out _ _ _ _ _ _ | exact fr3g HF.out.drew _ _ _ _ _ _⟩
theorem actC_zero (n : Nat) : actC (fun _ => 0) n = #[.int .u64 0, .int .u64 0, .int .u64 0] := by unfold actC; split <;> rfl
theorem action_out {g : Nat} {A : Nat → Int} {M P x y : BitVec 64} (n : Int) (hn : ¬ (1 ≤ n ∧ n ≤ 64)) (w : World) : Calls Tryd.prog 20 #[.pointer (some ⟨g, 0, none⟩), .int .i64 n] w fun e w' => e = .returned (.tuple #[.agg #[.int .u64 0, .int .u64 0, .int .u64 0], .int .i64 22]) ∧ Fr (fun _ => False) w w' := by
  have H := Lib.hid bit_any
  have h0 := bit_zero n
  rw [decide_eq_false hn, Bool.not_false] at h0
  have HF := Lib.hid ((Fr.refl (fun _ => False) w).alloc (.cells #[.int .u64 0, .int .u64 0, .int .u64 0] 33))
  have HX := Lib.hid (Blk.new w 33 #[.int .u64 0, .int .u64 0, .int .u64 0])
  clear hn
  go_enter Tryd.func20, Tryd.ntmps20
  go_wp2_with fail
  refine (H.out _ _).mono ?_
  rintro e w1 ⟨rfl, hf⟩
  have HF := Lib.hid (HF.out.trans hf (fun _ _ => id))
  have HX := Lib.hid (HX.out.fr hf id)
  clear hf
  obtain ⟨c0, c1, c2⟩ := (show _ ∧ _ ∧ _ from ⟨HX.out.cell 0, HX.out.cell 1, HX.out.cell 2⟩)
  obtain ⟨f0, f1, f2⟩ := (show _ ∧ _ ∧ _ from ⟨HX.out.frozen 0, HX.out.frozen 1, HX.out.frozen 2⟩)
  simp at c0 c1 c2
  go_wp2_with fail
  refine bodyPost_ret (results_ct rfl _ _ w.heap.size 33 #[.int .u64 0, .int .u64 0, .int .u64 0] (0, 0) _ rfl ?_ Tryd.underlying33 rfl (by kernel_rfl)) rfl ?_
  · exact blk3' HX.out (.int .u64 0) (.int .u64 0) (.int .u64 0)
  exact ⟨rfl, fr3' HF.out (Nat.le_refl _) _ _ _⟩
theorem action_in {g : Nat} {A : Nat → Int} {M P x y : BitVec 64} (m : Nat) (hm : 1 ≤ m ∧ m ≤ 64) (w : World) (h : St w g A M P x y) : Calls Tryd.prog 20 #[.pointer (some ⟨g, 0, none⟩), .int .i64 (m : Int)] w fun e w' => e = .returned (.tuple #[.agg (actC A m), .int .i64 0]) ∧ Fr (fun _ => False) w w' := by
  have H := Lib.hid bit_any
  have h0 := bit_zero (m : Int)
  rw [decide_eq_true (by omega), Bool.not_true] at h0
  have HF := Lib.hid ((Fr.refl (fun _ => False) w).alloc (.cells #[.int .u64 0, .int .u64 0, .int .u64 0] 33))
  have HX := Lib.hid (Blk.new w 33 #[.int .u64 0, .int .u64 0, .int .u64 0])
  have HB := Lib.hid (Blk.alloc h (.cells #[.int .u64 0, .int .u64 0, .int .u64 0] 33))
  have hgw := h.lt
  have hne : ¬ g = w.heap.size := by omega
  have hne' : ¬ w.heap.size = g := by omega
  have t1 : decide ((m : Int) < 65) = true := decide_eq_true (by omega)
  have hm65 : m < 65 := by omega
  have HA := Lib.hid (show actC A m = #[.int .u64 (A (m * 3)), .int .u64 (A (m * 3 + 1)), .int .u64 (A (m * 3 + 2))] from if_neg (by omega))
  clear h hm
  go_enter Tryd.func20, Tryd.ntmps20
  go_wp2_with fail
  refine (H.out _ _).mono ?_
  rintro e w1 ⟨rfl, hf⟩
  have HF := Lib.hid (HF.out.trans hf (fun _ _ => id))
  have HX := Lib.hid (HX.out.fr hf id)
  have HB := Lib.hid (St.fr HB.out hf id)
  clear hf
  obtain ⟨c0, c1, c2⟩ := (show _ ∧ _ ∧ _ from ⟨HX.out.cell 0, HX.out.cell 1, HX.out.cell 2⟩)
  obtain ⟨f0, f1, f2⟩ := (show _ ∧ _ ∧ _ from ⟨HX.out.frozen 0, HX.out.frozen 1, HX.out.frozen 2⟩)
  simp at c0 c1 c2
  obtain ⟨b0, b1, b2⟩ := (show _ ∧ _ ∧ _ from ⟨HB.out.lo (m * 3) (by omega), HB.out.lo (m * 3 + 1) (by omega), HB.out.lo (m * 3 + 2) (by omega)⟩)
  go_wp2_with fail
  first | (go_region; go_wp2) | skip
  all_goals
    refine bodyPost_ret (results_ct rfl _ _ w.heap.size 33 #[.int .u64 (A (m * 3)), .int .u64 (A (m * 3 + 1)), .int .u64 (A (m * 3 + 2))] (0, 0) _ rfl ?_ Tryd.underlying33 rfl (by kernel_rfl)) rfl ?_
    · first | exact Blk.drew (blk3' HX.out (.int .u64 (A (m * 3))) (.int .u64 (A (m * 3 + 1))) (.int .u64 (A (m * 3 + 2)))) | exact blk3' (w := w1.drew) (show Blk w1.drew w.heap.size 33 #[.int .u64 0, .int .u64 0, .int .u64 0] from HX.out) _ _ _ | exact blk3' HX.out _ _ _
    exact ⟨by rw [HA.out]; rfl, by first | exact (fr3' HF.out (Nat.le_refl _) _ _ _).drew | exact fr3' HF.out.drew (Nat.le_refl _) _ _ _ | exact fr3' HF.out (Nat.le_refl _) _ _ _⟩
end Go.Proofs.YtdlcejnkicdjnaaDoor.Sg
