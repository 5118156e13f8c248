/- The least bit of a word by its table; what is usually done at a signal: walked. -/
import Derived.Test.YtdlcejnkicdjnaaDoorSgA
namespace Go.Proofs.YtdlcejnkicdjnaaDoor.Sg
open Go Go.RowKit Go.Proofs.YtdlcejnkicdjnaaDoorW.PrintWords Go.Proofs.YtdlcejnkicdjnaaDoorW.PrintLast Go.Proofs.YtdlcejnkicdjnaaDoorW.PrintMore
open Go.Proofs.YtdlcejnkicdjnaaDoor.Hp Go.Proofs.YtdlcejnkicdjnaaDoor.Bv
attribute [local go_sem] max2_int min2_int max_two min_two max_three min_three max_four min_four
attribute [local go_sem] wrap_add wrap_sub wrap_mul wrap_neg and_U or_U xor_U andNot_U wrap_U
set_option linter.unusedVariables false
set_option linter.unusedSimpArgs false
theorem low_ex : ∀ n : Nat, 0 < n → ∃ k q, n = 2 ^ (k + 1) * q + 2 ^ k := by
  intro n
  induction n using Nat.strongRecOn with
  | _ n ih =>
    intro h
    by_cases h2 : n % 2 = 1
    · exact ⟨0, n / 2, by simp; omega⟩
    · obtain ⟨k, q, e⟩ := ih (n / 2) (by omega) (by omega)
      exact ⟨k + 1, q, by rw [Nat.pow_succ, Nat.pow_succ]; rw [Nat.pow_succ] at e; generalize 2 ^ k = p at *; rw [show p * 2 * 2 * q = 2 * (p * 2 * q) by rw [Nat.mul_comm (p * 2) 2, Nat.mul_assoc]]; omega⟩
theorem low_lt {n k q : Nat} (h : n < 2 ^ 64) (e : n = 2 ^ (k + 1) * q + 2 ^ k) : k < 64 := by
  rcases Nat.lt_or_ge k 64 with h1 | h1
  · exact h1
  · have := Nat.pow_le_pow_right (n := 2) (by decide) h1
    omega
theorem low_bits {n k q : Nat} (e : n = 2 ^ (k + 1) * q + 2 ^ k) (j : Nat) : n.testBit j = if j < k then false else if j = k then true else q.testBit (j - (k + 1)) := by
  subst e
  have hp : 2 ^ k < 2 ^ (k + 1) := by rw [Nat.pow_succ]; have := Nat.two_pow_pos k; omega
  rw [Nat.testBit_two_pow_mul_add _ hp]
  by_cases h : j < k + 1
  · rw [if_pos h, Nat.testBit_two_pow]
    by_cases h1 : j = k
    · subst h1; simp
    · rw [if_pos (by omega)]; simp; omega
  · rw [if_neg h, if_neg (by omega), if_neg (by omega)]
theorem low_pred {n k q : Nat} (e : n = 2 ^ (k + 1) * q + 2 ^ k) (j : Nat) : (n - 1).testBit j = if j < k then true else if j = k then false else q.testBit (j - (k + 1)) := by
  have hp := Nat.two_pow_pos k
  have e1 : n - 1 = 2 ^ (k + 1) * q + (2 ^ k - 1) := by omega
  have hl : 2 ^ k - 1 < 2 ^ (k + 1) := by rw [Nat.pow_succ]; omega
  rw [e1, Nat.testBit_two_pow_mul_add _ hl, Nat.testBit_two_pow_sub_one]
  by_cases h : j < k + 1
  · rw [if_pos h]
    by_cases h1 : j < k
    · simp [h1]
    · simp [h1]; omega
  · rw [if_neg h, if_neg (by omega), if_neg (by omega)]
theorem low_and (x : BitVec 64) {k q : Nat} (e : x.toNat = 2 ^ (k + 1) * q + 2 ^ k) : x &&& -x = 1#64 <<< k := by
  have hk := low_lt x.isLt e
  have hp := Nat.two_pow_pos k
  have hn : -x = ~~~(x - 1#64) := by
    apply BitVec.eq_of_toNat_eq
    have := x.isLt
    rw [BitVec.toNat_neg, BitVec.toNat_not, BitVec.toNat_sub]
    simp
    omega
  have hs : (x - 1#64).toNat = x.toNat - 1 := by
    have := x.isLt
    rw [BitVec.toNat_sub]
    simp
    omega
  rw [hn]
  apply BitVec.eq_of_getLsbD_eq
  intro j hj
  rw [BitVec.getLsbD_and, BitVec.getLsbD_not, BitVec.getLsbD_shiftLeft]
  have h1 : x.getLsbD j = x.toNat.testBit j := rfl
  have h2 : (x - 1#64).getLsbD j = (x - 1#64).toNat.testBit j := rfl
  rw [h1, h2, hs, low_bits e, low_pred e]
  by_cases c1 : j < k
  · simp [c1]
  · by_cases c2 : j = k
    · subst c2; simp [hj]
    · simp [c1, c2, hj]; omega
def idxZ (k : Nat) : Nat := (((1#64 <<< k) * 285870213051353865#64) >>> 58).toNat
theorem tab_ok : ((List.range 64).all fun k => decide (idxZ k < 64) && decide (tabZ.getD (idxZ k) 0 = (k : Int))) = true := by kernel_rfl
theorem tab_at (k : Nat) (h : k < 64) : idxZ k < 64 ∧ tabZ.getD (idxZ k) 0 = (k : Int) := by
  have := List.all_eq_true.1 tab_ok k (List.mem_range.2 h)
  simpa using this
theorem c58 : (288230376151711744 : Int) = 2 ^ 58 := by simp
theorem cC : (285870213051353865 : Int) = U 285870213051353865#64 := by unfold U; simp
theorem idx_div (k : Nat) : U ((1#64 <<< k) * 285870213051353865#64) / 288230376151711744 = (idxZ k : Int) := by
  rw [c58, shr_U' _ 58]
  unfold idxZ U
  rfl
theorem mul_C (b : BitVec 64) : IntKind.u64.wrap (U b * 285870213051353865) = U (b * 285870213051353865#64) := by rw [cC, wrap_mul]
theorem tz_walk (x b : BitVec 64) (k i : Nat) (m : Int) (w : World) (hk : k < 64) (hi : i < 64) (hb : x &&& -x = b) (hc : w.cell? ⟨0, i, none⟩ = some (.int .u8 (k : Int))) (hx : (U x == 0) = false)
    (e2 : IntKind.u64.wrap (U b * 285870213051353865) = m) (e3 : m / 288230376151711744 = (i : Int)) : Calls Tryd.prog 31 #[.int .u64 (U x)] w fun e w' => e = .returned (.int .i64 (k : Int)) ∧ Fr (fun _ => False) w w' := by
  have t1 : decide ((i : Int) < 64) = true := decide_eq_true (by omega)
  have t0 : (0 : Int) ≤ (i : Int) := by omega
  have ek : wrap64 (k : Int) = k := wrap64_in (by omega) (by omega)
  have E := Lib.hid ek
  clear hk ek
  go_enter Tryd.func31, Tryd.ntmps31
  go_wp2_with fail
  go_ret
  exact ⟨congrArg (fun x => Ending.returned (.int .i64 x)) E.out, by (repeat (first | (with_reducible exact Fr.refl _ _) | (with_reducible apply Fr.drewN) | (with_reducible apply Fr.alloc) | (with_reducible apply Fr.drew) | (with_reducible refine Fr.setCell ?_ (Or.inr (by simp)) _)))⟩
theorem tz_any (x : BitVec 64) (k q : Nat) (e : x.toNat = 2 ^ (k + 1) * q + 2 ^ k) (w : World) (ht : Tb w) : Calls Tryd.prog 31 #[.int .u64 (U x)] w fun e w' => e = .returned (.int .i64 (k : Int)) ∧ Fr (fun _ => False) w w' := by
  have hk := low_lt x.isLt e
  obtain ⟨hi, hv⟩ := tab_at k hk
  have hc := ht _ hi
  rw [hv] at hc
  refine tz_walk x _ k _ _ w hk hi (low_and x e) hc (beq_eq_false_iff_ne.2 (fun h => ?_)) (mul_C _) (idx_div k)
  have h2 := U_zero.1 h
  subst h2
  have := Nat.two_pow_pos k
  simp at e
  omega
/-- What is usually done at a signal. -/
def quietZ (n : Int) : Bool := decide (17 ≤ n ∧ n ≤ 23) || decide (n = 28)
def defZ (n : Int) : Int := if quietZ n = true then 2 else if 1 ≤ n ∧ n ≤ 64 then 1 else 0
theorem defZ_quiet {n : Int} (h : quietZ n = true) : defZ n = 2 := if_pos h
theorem def_any (n : Int) (w : World) : Calls Tryd.prog 14 #[.int .i64 n] w fun e w' => e = .returned (.int .i64 (defZ n)) ∧ Fr (fun _ => False) w w' := by
  have H := Lib.hid bit_any
  by_cases hq : quietZ n = true
  · rw [defZ_quiet hq]
    have hq' : n = 17 ∨ n = 18 ∨ n = 19 ∨ n = 20 ∨ n = 21 ∨ n = 22 ∨ n = 23 ∨ n = 28 := by
      unfold quietZ at hq
      simp at hq
      omega
    clear hq H
    rcases hq' with rfl | rfl | rfl | rfl | rfl | rfl | rfl | rfl
    all_goals
      go_enter Tryd.func14, Tryd.ntmps14
      go_wp2_with fail
      go_ret
      exact ⟨rfl, by (repeat (first | (with_reducible exact Fr.refl _ _) | (with_reducible apply Fr.drewN) | (with_reducible apply Fr.alloc) | (with_reducible apply Fr.drew) | (with_reducible refine Fr.setCell ?_ (Or.inr (by simp)) _)))⟩
  · have hn : ¬ (17 ≤ n ∧ n ≤ 23) ∧ n ≠ 28 := by
      unfold quietZ at hq
      simp at hq
      omega
    have t17 : (n == 17) = false := beq_eq_false_iff_ne.2 (by omega)
    have t18 : (n == 18) = false := beq_eq_false_iff_ne.2 (by omega)
    have t19 : (n == 19) = false := beq_eq_false_iff_ne.2 (by omega)
    have t20 : (n == 20) = false := beq_eq_false_iff_ne.2 (by omega)
    have t21 : (n == 21) = false := beq_eq_false_iff_ne.2 (by omega)
    have t22 : (n == 22) = false := beq_eq_false_iff_ne.2 (by omega)
    have t23 : (n == 23) = false := beq_eq_false_iff_ne.2 (by omega)
    have t28 : (n == 28) = false := beq_eq_false_iff_ne.2 (by omega)
    have h0 : (U (bitZ n) == 0) = !(decide (1 ≤ n ∧ n ≤ 64)) := by
      by_cases h : 1 ≤ n ∧ n ≤ 64
      · rw [decide_eq_true h]
        exact beq_eq_false_iff_ne.2 (fun e => bitZ_ne h (U_zero.1 e))
      · rw [decide_eq_false h, bitZ_no h]
        rfl
    have hd : defZ n = if 1 ≤ n ∧ n ≤ 64 then 1 else 0 := if_neg hq
    rw [hd]
    clear hd hq hn
    by_cases h : 1 ≤ n ∧ n ≤ 64
    · rw [if_pos h]
      rw [decide_eq_true h, Bool.not_true] at h0
      clear h
      go_enter Tryd.func14, Tryd.ntmps14
      go_wp2_with fail
      refine (H.out _ _).mono ?_
      rintro e w1 ⟨rfl, hf⟩
      have HF := Lib.hid hf
      clear hf
      go_wp2_with fail
      go_ret
      exact ⟨rfl, HF.out⟩
    · rw [if_neg h]
      rw [decide_eq_false h, Bool.not_false] at h0
      clear h
      go_enter Tryd.func14, Tryd.ntmps14
      go_wp2_with fail
      refine (H.out _ _).mono ?_
      rintro e w1 ⟨rfl, hf⟩
      have HF := Lib.hid hf
      clear hf
      go_wp2_with fail
      go_ret
      exact ⟨rfl, HF.out⟩
end Go.Proofs.YtdlcejnkicdjnaaDoor.Sg
