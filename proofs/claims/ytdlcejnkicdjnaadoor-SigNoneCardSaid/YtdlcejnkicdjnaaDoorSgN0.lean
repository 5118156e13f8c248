/- The law SigNone, walked: one case of three. -/
import Derived.Test.YtdlcejnkicdjnaaDoorSgL
namespace Go.Proofs.YtdlcejnkicdjnaaDoor.Sg
open Go Go.RowKit Go.Proofs.YtdlcejnkicdjnaaDoorW.PrintWords Go.Proofs.YtdlcejnkicdjnaaDoorW.PrintLast Go.Proofs.YtdlcejnkicdjnaaDoorW.PrintMore
open Go.Proofs.YtdlcejnkicdjnaaDoor.Hp Go.Proofs.YtdlcejnkicdjnaaDoor.Bv
attribute [local go_sem] max2_int min2_int max_two min_two max_three min_three max_four min_four
attribute [local go_sem] wrap_add wrap_sub wrap_mul wrap_neg and_U or_U xor_U andNot_U wrap_U
set_option linter.unusedVariables false
set_option linter.unusedSimpArgs false
set_option maxHeartbeats 4000000 in
set_option maxRecDepth 100000 in
theorem none_0 (n : Int) (hn : ¬ (1 ≤ n ∧ n ≤ 64)) (a0 a1 : Int) (v X : BitVec 64) (w : World) (ht : Tb w) : Calls Tryd.prog 6 #[.int .i64 n, .agg #[.int .u64 a0, .int .u64 a1, .int .u64 (U v)], .int .u64 (U X)] w fun e w' => e = .returned (.bool true) ∧ Fr (fun _ => False) w w' := by
  have hz : bitZ n = 0#64 := bitZ_no hn
  have hq : quietZ n = false := by unfold quietZ; simp; omega
  have hd : defZ n = 0 := by unfold defZ; rw [hq, if_neg (by decide), if_neg hn]
  have hr : (decide (1 ≤ n) && decide (n ≤ 64)) = false := by rw [← Bool.decide_and]; exact decide_eq_false hn
  have hq2 := eq_stack 0 0 0 0
  have hq3 := eq_act 0 0 0 0 0 0
  have HF := Lib.hid ((Fr.refl (fun _ => False) w).alloc (.cells #[.int .u64 a0, .int .u64 a1, .int .u64 (U v)] 33))
  have HB := Lib.hid (Blk.new w 33 #[.int .u64 a0, .int .u64 a1, .int .u64 (U v)])
  have HT := Lib.hid (ht.fr ((Fr.refl (fun _ => False) w).alloc (.cells #[.int .u64 a0, .int .u64 a1, .int .u64 (U v)] 33)) id)
  clear ht
  go_enter Tryd.func6, Tryd.ntmps6
  have hu0 : U 0#64 = 0 := rfl
  cases hr1 : decide (1 ≤ n)
  · clear hr hn
    go_wp2_with fail
    refine (nil_action _ _).mono ?_
    rintro e w1 ⟨rfl, hf⟩
    have HB := Lib.hid (HB.out.fr hf id)
    have HT := Lib.hid (HT.out.fr hf id)
    have HF := Lib.hid (HF.out.trans hf (fun _ _ => id))
    clear hf
    have HB := Lib.hid (HB.out.alloc (.cells #[.int .u64 0, .int .u64 0, .int .u64 0] 33))
    have HT := Lib.hid (HT.out.fr ((Fr.refl (fun _ => False) _).alloc (.cells #[.int .u64 0, .int .u64 0, .int .u64 0] 33)) id)
    have HF := Lib.hid (HF.out.alloc (.cells #[.int .u64 0, .int .u64 0, .int .u64 0] 33))
    go_wp2_with fail
    refine (nil_setmask _ _).mono ?_
    rintro e w2 ⟨rfl, hf⟩
    have HB := Lib.hid (HB.out.fr hf id)
    have HT := Lib.hid (HT.out.fr hf id)
    have HF := Lib.hid (HF.out.trans hf (fun _ _ => id))
    clear hf
    go_wp2_with fail
    refine (nil_setstack _ _ _).mono ?_
    rintro e w3 ⟨rfl, hf⟩
    have HB := Lib.hid (HB.out.fr hf id)
    have HT := Lib.hid (HT.out.fr hf id)
    have HF := Lib.hid (HF.out.trans hf (fun _ _ => id))
    clear hf
    obtain ⟨kB0, kB1, kB2⟩ := (show _ ∧ _ ∧ _ from ⟨HB.out.cell 0, HB.out.cell 1, HB.out.cell 2⟩)
    simp at kB0 kB1 kB2
    go_wp2_with fail
    clear kB0 kB1 kB2
    refine (nil_enter _ _ _ _ _).mono ?_
    rintro e w4 ⟨rfl, hf⟩
    have HB := Lib.hid (HB.out.fr hf id)
    have HT := Lib.hid (HT.out.fr hf id)
    have HF := Lib.hid (HF.out.trans hf (fun _ _ => id))
    clear hf
    go_wp2_with fail
    refine (nil_take _).mono ?_
    rintro e w5 ⟨rfl, hf⟩
    have HB := Lib.hid (HB.out.fr hf id)
    have HT := Lib.hid (HT.out.fr hf id)
    have HF := Lib.hid (HF.out.trans hf (fun _ _ => id))
    clear hf
    have HB := Lib.hid (HB.out.alloc (.cells #[.int .u64 0, .int .u64 0, .int .u64 0] 33))
    have HT := Lib.hid (HT.out.fr ((Fr.refl (fun _ => False) _).alloc (.cells #[.int .u64 0, .int .u64 0, .int .u64 0] 33)) id)
    have HF := Lib.hid (HF.out.alloc (.cells #[.int .u64 0, .int .u64 0, .int .u64 0] 33))
    go_wp2_with fail
    refine (quiet_any _ _).mono ?_
    rintro e w6 ⟨rfl, hf⟩
    have HB := Lib.hid (HB.out.fr hf id)
    have HT := Lib.hid (HT.out.fr hf id)
    have HF := Lib.hid (HF.out.trans hf (fun _ _ => id))
    clear hf
    go_wp2_with fail
    refine (new_any _).mono ?_
    rintro e w7 ⟨rfl, hs, hf⟩
    have HS := Lib.hid hs
    have HB := Lib.hid (HB.out.fr hf id)
    have HT := Lib.hid (HT.out.fr hf id)
    have HF7 := Lib.hid (HF.out.trans hf (fun _ _ => id))
    have hw6 := HF.out.size
    clear HF
    have HF := HF7
    clear HF7 hf hs
    go_wp2_with fail
    refine (copy_any _ HS.out).mono ?_
    rintro e w8 ⟨rfl, hc, hf⟩
    have HC := Lib.hid hc
    have hw7 := HS.out.lt
    have HB := Lib.hid (HB.out.fr hf id)
    have HT := Lib.hid (HT.out.fr hf id)
    have HS := Lib.hid (HS.out.fr hf id)
    have HF := Lib.hid (HF.out.trans hf (fun _ _ => id))
    clear hf hc
    go_wp2_with fail
    refine (answers_any _ HT.out).mono ?_
    rintro e w9 ⟨rfl, hf⟩
    have HB := Lib.hid (HB.out.fr hf id)
    have HT := Lib.hid (HT.out.fr hf id)
    have HS := Lib.hid (HS.out.fr hf id)
    have HC := Lib.hid (HC.out.fr hf id)
    have HF := Lib.hid (HF.out.trans hf (fun _ _ => id))
    clear hf
    go_wp2_with fail
    have hsc := HB.out.lt
    have hnB : ¬ (w.heap.size = w7.heap.size) := by omega
    have hnT : ¬ (0 = w7.heap.size) := by omega
    have hnS : ¬ (w6.heap.size = w7.heap.size) := by omega
    refine (setmask_any X _ HC.out).mono ?_
    rintro e w10 ⟨rfl, hc, hf⟩
    have HC := Lib.hid hc
    have HB := Lib.hid (HB.out.fr hf hnB)
    have HT := Lib.hid (HT.out.fr hf hnT)
    have HS := Lib.hid (HS.out.fr hf hnS)
    have HF := Lib.hid (HF.out.trans hf (fun i hi e => absurd e (by omega)))
    clear hf hc
    go_wp2_with fail
    refine (raise_fr _ _ HC.out).mono ?_
    rintro e w11 ⟨⟨kr, rfl⟩, hc, hf⟩
    have HC := Lib.hid hc
    have HB := Lib.hid (HB.out.fr hf hnB)
    have HT := Lib.hid (HT.out.fr hf hnT)
    have HS := Lib.hid (HS.out.fr hf hnS)
    have HF := Lib.hid (HF.out.trans hf (fun i hi e => absurd e (by omega)))
    clear hf hc
    obtain ⟨kB0, kB1, kB2⟩ := (show _ ∧ _ ∧ _ from ⟨HB.out.cell 0, HB.out.cell 1, HB.out.cell 2⟩)
    simp at kB0 kB1 kB2
    go_wp2_with fail
    clear kB0 kB1 kB2
    refine (setaction_fr _ a0 a1 v _ HC.out).mono ?_
    rintro e w12 ⟨⟨ks, rfl⟩, hf⟩
    have HB := Lib.hid (HB.out.fr hf hnB)
    have HT := Lib.hid (HT.out.fr hf hnT)
    have HS := Lib.hid (HS.out.fr hf hnS)
    have HF := Lib.hid (HF.out.trans hf (fun i hi e => absurd e (by omega)))
    clear hf HC
    go_wp2_with fail
    refine (action_fr _ _ HS.out).mono ?_
    rintro e w13 ⟨⟨ka, rfl⟩, hf⟩
    have HB := Lib.hid (HB.out.fr hf id)
    have HT := Lib.hid (HT.out.fr hf id)
    have HS := Lib.hid (HS.out.fr hf id)
    have HF := Lib.hid ((HF.out.trans hf (fun _ _ => id)).alloc (.cells #[.int .u64 0, .int .u64 0, .int .u64 0] 33))
    clear hf
    have HY := Lib.hid (Blk.new w13 33 #[.int .u64 0, .int .u64 0, .int .u64 0])
    have HB := Lib.hid (HB.out.alloc (.cells #[.int .u64 0, .int .u64 0, .int .u64 0] 33))
    have HS := Lib.hid (Blk.alloc HS.out (.cells #[.int .u64 0, .int .u64 0, .int .u64 0] 33))
    have HT := Lib.hid (HT.out.fr ((Fr.refl (fun _ => False) _).alloc (.cells #[.int .u64 0, .int .u64 0, .int .u64 0] 33)) id)
    obtain ⟨kB0, kB1, kB2⟩ := (show _ ∧ _ ∧ _ from ⟨HB.out.cell 0, HB.out.cell 1, HB.out.cell 2⟩)
    simp at kB0 kB1 kB2
    go_wp2_with fail
    clear kB0 kB1 kB2
    refine (nil_setaction _ _ _ _ _).mono ?_
    rintro e w14 ⟨rfl, hf⟩
    have HB := Lib.hid (HB.out.fr hf id)
    have HT := Lib.hid (HT.out.fr hf id)
    have HS := Lib.hid (HS.out.fr hf id)
    have HY := Lib.hid (HY.out.fr hf id)
    have HF := Lib.hid (HF.out.trans hf (fun _ _ => id))
    clear hf
    go_wp2_with fail
    refine (nil_change _ _ _).mono ?_
    rintro e w15 ⟨rfl, hf⟩
    have HB := Lib.hid (HB.out.fr hf id)
    have HT := Lib.hid (HT.out.fr hf id)
    have HS := Lib.hid (HS.out.fr hf id)
    have HY := Lib.hid (HY.out.fr hf id)
    have HF := Lib.hid (HF.out.trans hf (fun _ _ => id))
    clear hf
    go_wp2_with fail
    refine (nil_raise _ _).mono ?_
    rintro e w16 ⟨rfl, hf⟩
    have HB := Lib.hid (HB.out.fr hf id)
    have HT := Lib.hid (HT.out.fr hf id)
    have HS := Lib.hid (HS.out.fr hf id)
    have HY := Lib.hid (HY.out.fr hf id)
    have HF := Lib.hid (HF.out.trans hf (fun _ _ => id))
    clear hf
    go_wp2_with fail
    refine (nil_mask _).mono ?_
    rintro e w17 ⟨rfl, hf⟩
    have HB := Lib.hid (HB.out.fr hf id)
    have HT := Lib.hid (HT.out.fr hf id)
    have HS := Lib.hid (HS.out.fr hf id)
    have HY := Lib.hid (HY.out.fr hf id)
    have HF := Lib.hid (HF.out.trans hf (fun _ _ => id))
    clear hf
    go_wp2_with fail
    refine (nil_pending _).mono ?_
    rintro e w18 ⟨rfl, hf⟩
    have HB := Lib.hid (HB.out.fr hf id)
    have HT := Lib.hid (HT.out.fr hf id)
    have HS := Lib.hid (HS.out.fr hf id)
    have HY := Lib.hid (HY.out.fr hf id)
    have HF := Lib.hid (HF.out.trans hf (fun _ _ => id))
    clear hf
    go_wp2_with fail
    refine (nil_stack _).mono ?_
    rintro e w19 ⟨rfl, hf⟩
    have HB := Lib.hid (HB.out.fr hf id)
    have HT := Lib.hid (HT.out.fr hf id)
    have HS := Lib.hid (HS.out.fr hf id)
    have HY := Lib.hid (HY.out.fr hf id)
    have HF := Lib.hid (HF.out.trans hf (fun _ _ => id))
    clear hf
    go_wp2_with fail
    refine (nil_copy _).mono ?_
    rintro e w20 ⟨rfl, hf⟩
    have HB := Lib.hid (HB.out.fr hf id)
    have HT := Lib.hid (HT.out.fr hf id)
    have HS := Lib.hid (HS.out.fr hf id)
    have HY := Lib.hid (HY.out.fr hf id)
    have HF := Lib.hid (HF.out.trans hf (fun _ _ => id))
    clear hf
    go_wp2_with fail
    refine (def_any _ _).mono ?_
    rintro e w21 ⟨rfl, hf⟩
    have HB := Lib.hid (HB.out.fr hf id)
    have HT := Lib.hid (HT.out.fr hf id)
    have HS := Lib.hid (HS.out.fr hf id)
    have HY := Lib.hid (HY.out.fr hf id)
    have HF := Lib.hid (HF.out.trans hf (fun _ _ => id))
    clear hf
    go_wp2_with fail
    refine (bit_any _ _).mono ?_
    rintro e w22 ⟨rfl, hf⟩
    have HB := Lib.hid (HB.out.fr hf id)
    have HT := Lib.hid (HT.out.fr hf id)
    have HS := Lib.hid (HS.out.fr hf id)
    have HY := Lib.hid (HY.out.fr hf id)
    have HF := Lib.hid (HF.out.trans hf (fun _ _ => id))
    clear hf
    go_wp2_with fail
    refine (mask_any _ (show St _ _ (fun _ => 0) 0#64 0#64 0#64 0#64 from HS.out)).mono ?_
    rintro e w23 ⟨rfl, hf⟩
    have HB := Lib.hid (HB.out.fr hf id)
    have HT := Lib.hid (HT.out.fr hf id)
    have HS := Lib.hid (HS.out.fr hf id)
    have HY := Lib.hid (HY.out.fr hf id)
    have HF := Lib.hid (HF.out.trans hf (fun _ _ => id))
    clear hf
    go_wp2_with fail
    refine (pending_any _ (show St _ _ (fun _ => 0) 0#64 0#64 0#64 0#64 from HS.out)).mono ?_
    rintro e w24 ⟨rfl, hf⟩
    have HB := Lib.hid (HB.out.fr hf id)
    have HT := Lib.hid (HT.out.fr hf id)
    have HS := Lib.hid (HS.out.fr hf id)
    have HY := Lib.hid (HY.out.fr hf id)
    have HF := Lib.hid (HF.out.trans hf (fun _ _ => id))
    clear hf
    obtain ⟨kY0, kY1, kY2⟩ := (show _ ∧ _ ∧ _ from ⟨HY.out.cell 0, HY.out.cell 1, HY.out.cell 2⟩)
    simp at kY0 kY1 kY2
    go_wp2_with fail
    clear kY0 kY1 kY2
    go_ret
    exact ⟨by first | rfl | simp, HF.out⟩
  · have hr2 : decide (n ≤ 64) = false := by rw [hr1, Bool.true_and] at hr; exact hr
    clear hr hn
    go_wp2_with fail
    refine (nil_action _ _).mono ?_
    rintro e w1 ⟨rfl, hf⟩
    have HB := Lib.hid (HB.out.fr hf id)
    have HT := Lib.hid (HT.out.fr hf id)
    have HF := Lib.hid (HF.out.trans hf (fun _ _ => id))
    clear hf
    have HB := Lib.hid (HB.out.alloc (.cells #[.int .u64 0, .int .u64 0, .int .u64 0] 33))
    have HT := Lib.hid (HT.out.fr ((Fr.refl (fun _ => False) _).alloc (.cells #[.int .u64 0, .int .u64 0, .int .u64 0] 33)) id)
    have HF := Lib.hid (HF.out.alloc (.cells #[.int .u64 0, .int .u64 0, .int .u64 0] 33))
    go_wp2_with fail
    refine (nil_setmask _ _).mono ?_
    rintro e w2 ⟨rfl, hf⟩
    have HB := Lib.hid (HB.out.fr hf id)
    have HT := Lib.hid (HT.out.fr hf id)
    have HF := Lib.hid (HF.out.trans hf (fun _ _ => id))
    clear hf
    go_wp2_with fail
    refine (nil_setstack _ _ _).mono ?_
    rintro e w3 ⟨rfl, hf⟩
    have HB := Lib.hid (HB.out.fr hf id)
    have HT := Lib.hid (HT.out.fr hf id)
    have HF := Lib.hid (HF.out.trans hf (fun _ _ => id))
    clear hf
    obtain ⟨kB0, kB1, kB2⟩ := (show _ ∧ _ ∧ _ from ⟨HB.out.cell 0, HB.out.cell 1, HB.out.cell 2⟩)
    simp at kB0 kB1 kB2
    go_wp2_with fail
    clear kB0 kB1 kB2
    refine (nil_enter _ _ _ _ _).mono ?_
    rintro e w4 ⟨rfl, hf⟩
    have HB := Lib.hid (HB.out.fr hf id)
    have HT := Lib.hid (HT.out.fr hf id)
    have HF := Lib.hid (HF.out.trans hf (fun _ _ => id))
    clear hf
    go_wp2_with fail
    refine (nil_take _).mono ?_
    rintro e w5 ⟨rfl, hf⟩
    have HB := Lib.hid (HB.out.fr hf id)
    have HT := Lib.hid (HT.out.fr hf id)
    have HF := Lib.hid (HF.out.trans hf (fun _ _ => id))
    clear hf
    have HB := Lib.hid (HB.out.alloc (.cells #[.int .u64 0, .int .u64 0, .int .u64 0] 33))
    have HT := Lib.hid (HT.out.fr ((Fr.refl (fun _ => False) _).alloc (.cells #[.int .u64 0, .int .u64 0, .int .u64 0] 33)) id)
    have HF := Lib.hid (HF.out.alloc (.cells #[.int .u64 0, .int .u64 0, .int .u64 0] 33))
    go_wp2_with fail
    refine (quiet_any _ _).mono ?_
    rintro e w6 ⟨rfl, hf⟩
    have HB := Lib.hid (HB.out.fr hf id)
    have HT := Lib.hid (HT.out.fr hf id)
    have HF := Lib.hid (HF.out.trans hf (fun _ _ => id))
    clear hf
    go_wp2_with fail
    refine (new_any _).mono ?_
    rintro e w7 ⟨rfl, hs, hf⟩
    have HS := Lib.hid hs
    have HB := Lib.hid (HB.out.fr hf id)
    have HT := Lib.hid (HT.out.fr hf id)
    have HF7 := Lib.hid (HF.out.trans hf (fun _ _ => id))
    have hw6 := HF.out.size
    clear HF
    have HF := HF7
    clear HF7 hf hs
    go_wp2_with fail
    refine (copy_any _ HS.out).mono ?_
    rintro e w8 ⟨rfl, hc, hf⟩
    have HC := Lib.hid hc
    have hw7 := HS.out.lt
    have HB := Lib.hid (HB.out.fr hf id)
    have HT := Lib.hid (HT.out.fr hf id)
    have HS := Lib.hid (HS.out.fr hf id)
    have HF := Lib.hid (HF.out.trans hf (fun _ _ => id))
    clear hf hc
    go_wp2_with fail
    refine (answers_any _ HT.out).mono ?_
    rintro e w9 ⟨rfl, hf⟩
    have HB := Lib.hid (HB.out.fr hf id)
    have HT := Lib.hid (HT.out.fr hf id)
    have HS := Lib.hid (HS.out.fr hf id)
    have HC := Lib.hid (HC.out.fr hf id)
    have HF := Lib.hid (HF.out.trans hf (fun _ _ => id))
    clear hf
    go_wp2_with fail
    have hsc := HB.out.lt
    have hnB : ¬ (w.heap.size = w7.heap.size) := by omega
    have hnT : ¬ (0 = w7.heap.size) := by omega
    have hnS : ¬ (w6.heap.size = w7.heap.size) := by omega
    refine (setmask_any X _ HC.out).mono ?_
    rintro e w10 ⟨rfl, hc, hf⟩
    have HC := Lib.hid hc
    have HB := Lib.hid (HB.out.fr hf hnB)
    have HT := Lib.hid (HT.out.fr hf hnT)
    have HS := Lib.hid (HS.out.fr hf hnS)
    have HF := Lib.hid (HF.out.trans hf (fun i hi e => absurd e (by omega)))
    clear hf hc
    go_wp2_with fail
    refine (raise_fr _ _ HC.out).mono ?_
    rintro e w11 ⟨⟨kr, rfl⟩, hc, hf⟩
    have HC := Lib.hid hc
    have HB := Lib.hid (HB.out.fr hf hnB)
    have HT := Lib.hid (HT.out.fr hf hnT)
    have HS := Lib.hid (HS.out.fr hf hnS)
    have HF := Lib.hid (HF.out.trans hf (fun i hi e => absurd e (by omega)))
    clear hf hc
    obtain ⟨kB0, kB1, kB2⟩ := (show _ ∧ _ ∧ _ from ⟨HB.out.cell 0, HB.out.cell 1, HB.out.cell 2⟩)
    simp at kB0 kB1 kB2
    go_wp2_with fail
    clear kB0 kB1 kB2
    refine (setaction_fr _ a0 a1 v _ HC.out).mono ?_
    rintro e w12 ⟨⟨ks, rfl⟩, hf⟩
    have HB := Lib.hid (HB.out.fr hf hnB)
    have HT := Lib.hid (HT.out.fr hf hnT)
    have HS := Lib.hid (HS.out.fr hf hnS)
    have HF := Lib.hid (HF.out.trans hf (fun i hi e => absurd e (by omega)))
    clear hf HC
    go_wp2_with fail
    refine (action_fr _ _ HS.out).mono ?_
    rintro e w13 ⟨⟨ka, rfl⟩, hf⟩
    have HB := Lib.hid (HB.out.fr hf id)
    have HT := Lib.hid (HT.out.fr hf id)
    have HS := Lib.hid (HS.out.fr hf id)
    have HF := Lib.hid ((HF.out.trans hf (fun _ _ => id)).alloc (.cells #[.int .u64 0, .int .u64 0, .int .u64 0] 33))
    clear hf
    have HY := Lib.hid (Blk.new w13 33 #[.int .u64 0, .int .u64 0, .int .u64 0])
    have HB := Lib.hid (HB.out.alloc (.cells #[.int .u64 0, .int .u64 0, .int .u64 0] 33))
    have HS := Lib.hid (Blk.alloc HS.out (.cells #[.int .u64 0, .int .u64 0, .int .u64 0] 33))
    have HT := Lib.hid (HT.out.fr ((Fr.refl (fun _ => False) _).alloc (.cells #[.int .u64 0, .int .u64 0, .int .u64 0] 33)) id)
    obtain ⟨kB0, kB1, kB2⟩ := (show _ ∧ _ ∧ _ from ⟨HB.out.cell 0, HB.out.cell 1, HB.out.cell 2⟩)
    simp at kB0 kB1 kB2
    go_wp2_with fail
    clear kB0 kB1 kB2
    refine (nil_setaction _ _ _ _ _).mono ?_
    rintro e w14 ⟨rfl, hf⟩
    have HB := Lib.hid (HB.out.fr hf id)
    have HT := Lib.hid (HT.out.fr hf id)
    have HS := Lib.hid (HS.out.fr hf id)
    have HY := Lib.hid (HY.out.fr hf id)
    have HF := Lib.hid (HF.out.trans hf (fun _ _ => id))
    clear hf
    go_wp2_with fail
    refine (nil_change _ _ _).mono ?_
    rintro e w15 ⟨rfl, hf⟩
    have HB := Lib.hid (HB.out.fr hf id)
    have HT := Lib.hid (HT.out.fr hf id)
    have HS := Lib.hid (HS.out.fr hf id)
    have HY := Lib.hid (HY.out.fr hf id)
    have HF := Lib.hid (HF.out.trans hf (fun _ _ => id))
    clear hf
    go_wp2_with fail
    refine (nil_raise _ _).mono ?_
    rintro e w16 ⟨rfl, hf⟩
    have HB := Lib.hid (HB.out.fr hf id)
    have HT := Lib.hid (HT.out.fr hf id)
    have HS := Lib.hid (HS.out.fr hf id)
    have HY := Lib.hid (HY.out.fr hf id)
    have HF := Lib.hid (HF.out.trans hf (fun _ _ => id))
    clear hf
    go_wp2_with fail
    refine (nil_mask _).mono ?_
    rintro e w17 ⟨rfl, hf⟩
    have HB := Lib.hid (HB.out.fr hf id)
    have HT := Lib.hid (HT.out.fr hf id)
    have HS := Lib.hid (HS.out.fr hf id)
    have HY := Lib.hid (HY.out.fr hf id)
    have HF := Lib.hid (HF.out.trans hf (fun _ _ => id))
    clear hf
    go_wp2_with fail
    refine (nil_pending _).mono ?_
    rintro e w18 ⟨rfl, hf⟩
    have HB := Lib.hid (HB.out.fr hf id)
    have HT := Lib.hid (HT.out.fr hf id)
    have HS := Lib.hid (HS.out.fr hf id)
    have HY := Lib.hid (HY.out.fr hf id)
    have HF := Lib.hid (HF.out.trans hf (fun _ _ => id))
    clear hf
    go_wp2_with fail
    refine (nil_stack _).mono ?_
    rintro e w19 ⟨rfl, hf⟩
    have HB := Lib.hid (HB.out.fr hf id)
    have HT := Lib.hid (HT.out.fr hf id)
    have HS := Lib.hid (HS.out.fr hf id)
    have HY := Lib.hid (HY.out.fr hf id)
    have HF := Lib.hid (HF.out.trans hf (fun _ _ => id))
    clear hf
    go_wp2_with fail
    refine (nil_copy _).mono ?_
    rintro e w20 ⟨rfl, hf⟩
    have HB := Lib.hid (HB.out.fr hf id)
    have HT := Lib.hid (HT.out.fr hf id)
    have HS := Lib.hid (HS.out.fr hf id)
    have HY := Lib.hid (HY.out.fr hf id)
    have HF := Lib.hid (HF.out.trans hf (fun _ _ => id))
    clear hf
    go_wp2_with fail
    refine (def_any _ _).mono ?_
    rintro e w21 ⟨rfl, hf⟩
    have HB := Lib.hid (HB.out.fr hf id)
    have HT := Lib.hid (HT.out.fr hf id)
    have HS := Lib.hid (HS.out.fr hf id)
    have HY := Lib.hid (HY.out.fr hf id)
    have HF := Lib.hid (HF.out.trans hf (fun _ _ => id))
    clear hf
    go_wp2_with fail
    refine (bit_any _ _).mono ?_
    rintro e w22 ⟨rfl, hf⟩
    have HB := Lib.hid (HB.out.fr hf id)
    have HT := Lib.hid (HT.out.fr hf id)
    have HS := Lib.hid (HS.out.fr hf id)
    have HY := Lib.hid (HY.out.fr hf id)
    have HF := Lib.hid (HF.out.trans hf (fun _ _ => id))
    clear hf
    go_wp2_with fail
    refine (mask_any _ (show St _ _ (fun _ => 0) 0#64 0#64 0#64 0#64 from HS.out)).mono ?_
    rintro e w23 ⟨rfl, hf⟩
    have HB := Lib.hid (HB.out.fr hf id)
    have HT := Lib.hid (HT.out.fr hf id)
    have HS := Lib.hid (HS.out.fr hf id)
    have HY := Lib.hid (HY.out.fr hf id)
    have HF := Lib.hid (HF.out.trans hf (fun _ _ => id))
    clear hf
    go_wp2_with fail
    refine (pending_any _ (show St _ _ (fun _ => 0) 0#64 0#64 0#64 0#64 from HS.out)).mono ?_
    rintro e w24 ⟨rfl, hf⟩
    have HB := Lib.hid (HB.out.fr hf id)
    have HT := Lib.hid (HT.out.fr hf id)
    have HS := Lib.hid (HS.out.fr hf id)
    have HY := Lib.hid (HY.out.fr hf id)
    have HF := Lib.hid (HF.out.trans hf (fun _ _ => id))
    clear hf
    obtain ⟨kY0, kY1, kY2⟩ := (show _ ∧ _ ∧ _ from ⟨HY.out.cell 0, HY.out.cell 1, HY.out.cell 2⟩)
    simp at kY0 kY1 kY2
    go_wp2_with fail
    clear kY0 kY1 kY2
    go_ret
    exact ⟨by first | rfl | simp, HF.out⟩
end Go.Proofs.YtdlcejnkicdjnaaDoor.Sg
