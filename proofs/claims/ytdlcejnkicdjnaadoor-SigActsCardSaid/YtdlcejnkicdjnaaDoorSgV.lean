/- The document's SetMask, SetAction, Change and Enter of signals, walked. -/
import Derived.Test.YtdlcejnkicdjnaaDoorSgU
namespace Go.Proofs.YtdlcejnkicdjnaaDoor.Sg
open Go Go.RowKit Go.Proofs.YtdlcejnkicdjnaaDoorW.PrintWords Go.Proofs.YtdlcejnkicdjnaaDoorW.PrintLast Go.Proofs.YtdlcejnkicdjnaaDoorW.PrintMore
open Go.Proofs.YtdlcejnkicdjnaaDoor.Hp Go.Proofs.YtdlcejnkicdjnaaDoor.Bv
attribute [local go_sem] max2_int min2_int max_two min_two max_three min_three max_four min_four
attribute [local go_sem] wrap_add wrap_sub wrap_mul wrap_neg and_U or_U xor_U andNot_U wrap_U
set_option linter.unusedVariables false
set_option linter.unusedSimpArgs false
theorem keep_all : ((List.range 64).all fun j => ((~~~262400#64 : BitVec 64).getLsbD j) == !(j == 8 || j == 18)) = true := by decide +kernel
theorem keep_bit (X : BitVec 64) (j : Nat) (h : j < 64) : (keepZ X).getLsbD j = (X.getLsbD j && !(j == 8 || j == 18)) := by
  have e := List.all_eq_true.1 keep_all j (List.mem_range.2 h)
  unfold keepZ
  rw [BitVec.getLsbD_and, beq_iff_eq.1 e]
theorem shr_val (X : BitVec 64) (k : Nat) : U X / 2 ^ k % 2 = if X.getLsbD k then 1 else 0 := by
  have e : X.getLsbD k = X.toNat.testBit k := rfl
  rw [e, Nat.testBit_eq_decide_div_mod_eq]
  have e2 : U X / 2 ^ k % 2 = ((X.toNat / 2 ^ k % 2 : Nat) : Int) := by unfold U; simp
  rw [e2]
  by_cases c : X.toNat / 2 ^ k % 2 = 1
  · rw [c]; rfl
  · rw [decide_eq_false c, if_neg (by decide)]
    omega
theorem shr_bit (X : BitVec 64) (k : Nat) : (U X / 2 ^ k % 2 == 1) = X.getLsbD k := by
  have e : X.getLsbD k = X.toNat.testBit k := rfl
  rw [e, Nat.testBit_eq_decide_div_mod_eq]
  have e2 : U X / 2 ^ k % 2 = ((X.toNat / 2 ^ k % 2 : Nat) : Int) := by unfold U; simp
  rw [e2]
  by_cases c : X.toNat / 2 ^ k % 2 = 1
  · rw [c]; rfl
  · rw [decide_eq_false c]
    exact beq_eq_false_iff_ne.2 (by omega)
def AtRm (X : BitVec 64) (A : Nat → Int) (pf : Nat → Bool) (x y : BitVec 64) (w0 : World) (g : Nat) (i : Value) (kq : Nat) (wr : World) : Prop :=
  ∃ (k : Nat) (mf : Nat → Bool), i = .int .i64 ((k : Int) + 1) ∧ k ≤ 64 ∧ 64 - k ≤ kq ∧ mf 0 = false ∧ (∀ j, j < k → mf (j + 1) = (keepZ X).getLsbD j) ∧ Rs wr g A mf pf x y ∧ Fr (fun i => i = g) w0 wr
set_option maxRecDepth 100000 in
theorem rsetmask_any {g : Nat} {A : Nat → Int} {mf pf : Nat → Bool} {x y : BitVec 64} (X : BitVec 64) (w : World) (h : Rs w g A mf pf x y) (h0 : mf 0 = false) : Calls Tryd.prog 22 #[.pointer (some ⟨g, 0, none⟩), .int .u64 (U X)] w fun e w' => e = .returned (.tuple #[]) ∧ ∃ mf', BitsOf mf' (keepZ X) ∧ Rs w' g A mf' pf x y ∧ Fr (fun i => i = g) w w' := by
  have HB := Lib.hid h
  have H0 := Lib.hid h0
  clear h h0
  go_enter Tryd.func22, Tryd.ntmps22
  go_wp2_with fail
  go_loopg [4] 64 (fun kq i wr => Hid (AtRm X A pf x y w g i kq wr))
  case atStart => exact Lib.hid ⟨0, mf, rfl, by omega, by omega, H0.out, fun j hj => absurd hj (Nat.not_lt_zero _), HB.out, Fr.refl _ _⟩
  case round =>
    obtain ⟨k, mf, rfl, hk, hkq, h0, hb, hs, hf⟩ := hrel.out
    have HB := Lib.hid hs
    have HF := Lib.hid hf
    have H0 := Lib.hid h0
    have HM := Lib.hid hb
    clear hrel hs hf h0 hb
    by_cases h64 : k < 64
    · have t1 : decide ((k : Int) + 1 ≤ 64) = true := decide_eq_true (by omega)
      have t1' : decide ((k : Int) < 64) = true := decide_eq_true (by omega)
      have t3 : decide ((k : Int) + 1 < 65) = true := decide_eq_true (by omega)
      have e1 : wrap64 (k : Int) = k := wrap64_in (by omega) (by omega)
      have hbit := shr_val X k
      have hbit2 : Int.tmod (U X / 2 ^ k) 2 = if X.getLsbD k then 1 else 0 := by rw [Int.tmod_eq_emod_of_nonneg (Int.ediv_nonneg (U_nonneg X) (Int.pow_nonneg (by decide)))]; exact hbit
      have f0 := HB.out.frz (195 + (k + 1))
      have c0 := HB.out.m (k + 1) (by omega)
      have hkb := keep_bit X k h64
      obtain ⟨b, hb⟩ : ∃ b, X.getLsbD k = b := ⟨_, rfl⟩
      rw [hb] at hbit hbit2 hkb
      have HK := Lib.hid hkb
      clear hb hkb
      cases b
      · rw [if_neg (by decide)] at hbit hbit2
        go_wp2_with fail
        go_roundg (64 - (k + 1))
        case measure => omega
        case rel => exact Lib.hid ⟨k + 1, updB mf (k + 1) false, by go_num, by omega, Nat.le_refl _, by unfold updB; rw [if_neg (by omega)]; exact H0.out, fun j hj => by
          unfold updB
          by_cases e : j = k
          · subst e; rw [if_pos rfl, HK.out]; rfl
          · rw [if_neg (by omega)]; exact HM.out j (by omega), HB.out.setM (k + 1) (by omega) false, HF.out.setCell (S := fun i => i = g) (p := ⟨g, 195 + (k + 1), none⟩) (.inl rfl) _⟩
      · rw [if_pos rfl] at hbit hbit2
        by_cases k8 : k = 8
        · subst k8
          go_wp2_with fail
          go_roundg (64 - (8 + 1))
          case measure => omega
          case rel => exact Lib.hid ⟨8 + 1, updB mf (8 + 1) false, by go_num, by omega, Nat.le_refl _, by unfold updB; rw [if_neg (by omega)]; exact H0.out, fun j hj => by
            unfold updB
            by_cases e : j = 8
            · subst e; rw [if_pos rfl, HK.out]; rfl
            · rw [if_neg (by omega)]; exact HM.out j (by omega), HB.out.setM (8 + 1) (by omega) false, HF.out.setCell (S := fun i => i = g) (p := ⟨g, 195 + (8 + 1), none⟩) (.inl rfl) _⟩
        by_cases k18 : k = 18
        · subst k18
          go_wp2_with fail
          go_roundg (64 - (18 + 1))
          case measure => omega
          case rel => exact Lib.hid ⟨18 + 1, updB mf (18 + 1) false, by go_num, by omega, Nat.le_refl _, by unfold updB; rw [if_neg (by omega)]; exact H0.out, fun j hj => by
            unfold updB
            by_cases e : j = 18
            · subst e; rw [if_pos rfl, HK.out]; rfl
            · rw [if_neg (by omega)]; exact HM.out j (by omega), HB.out.setM (18 + 1) (by omega) false, HF.out.setCell (S := fun i => i = g) (p := ⟨g, 195 + (18 + 1), none⟩) (.inl rfl) _⟩
        have n1 : ((k : Int) + 1 != 9) = true := bne_iff_ne.2 (by omega)
        have n2 : ((k : Int) + 1 != 19) = true := bne_iff_ne.2 (by omega)
        have n3 : ¬ (k : Int) + 1 = 9 := by omega
        have n4 : ¬ (k : Int) + 1 = 19 := by omega
        have n5 : ¬ (k : Int) = 8 := by omega
        have n6 : ¬ (k : Int) = 18 := by omega
        go_wp2_with fail
        go_roundg (64 - (k + 1))
        case measure => omega
        case rel => exact Lib.hid ⟨k + 1, updB mf (k + 1) true, by go_num, by omega, Nat.le_refl _, by unfold updB; rw [if_neg (by omega)]; exact H0.out, fun j hj => by
          unfold updB
          by_cases e : j = k
          · subst e; rw [if_pos rfl, HK.out]; rw [beq_eq_false_iff_ne.2 k8, beq_eq_false_iff_ne.2 k18]; rfl
          · rw [if_neg (by omega)]; exact HM.out j (by omega), HB.out.setM (k + 1) (by omega) true, HF.out.setCell (S := fun i => i = g) (p := ⟨g, 195 + (k + 1), none⟩) (.inl rfl) _⟩
    · obtain rfl : k = 64 := by omega
      go_wp2_with fail
      go_end0
      exact ⟨rfl, mf, ⟨H0.out, fun j hj => HM.out j hj⟩, HB.out, HF.out⟩
end Go.Proofs.YtdlcejnkicdjnaaDoor.Sg
