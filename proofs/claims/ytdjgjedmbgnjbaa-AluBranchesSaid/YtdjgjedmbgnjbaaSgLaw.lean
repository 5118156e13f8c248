/- For every word and every width Sext answers what the document says, and so does Fits for every number and width; the sign extension of a word is a number of that width. No further condition. The law's walk out of its callees' contracts. -/
import Derived.Test.YtdjgjedmbgnjbaaSgFits
namespace Go.Proofs.Ytdjgjedmbgnjbaa.SgHand
open Go Go.RowKit Go.Proofs.YtdjgjedmbgnjbaaW.PrintWords Go.Proofs.YtdjgjedmbgnjbaaW.PrintLast Go.Proofs.YtdjgjedmbgnjbaaW.PrintMore
open Go.Proofs.Ytdjgjedmbgnjbaa.Bv
theorem part_bit (x : BitVec 64) (n k i : Nat) (hi : i < 64) : (part x n k).getLsbD i = (decide (i < k) && x.getLsbD (min i (n - 1))) := by
  induction k with
  | zero => simp [part]
  | succ k ih =>
    show (part x n k ||| (bt1 x (min k (n - 1)) <<< k)).getLsbD i = _
    rw [BitVec.getLsbD_or, ih, BitVec.getLsbD_shiftLeft]
    unfold bt1
    rw [BitVec.getLsbD_and, BitVec.getLsbD_ushiftRight]
    by_cases h : i = k
    · subst h
      have a1 : decide (i < 64) = true := decide_eq_true hi
      simp [a1]
    · by_cases h2 : i < k
      · have a1 : decide (i < k) = true := decide_eq_true h2
        have a2 : decide (i < k + 1) = true := decide_eq_true (by omega)
        simp [a1, a2]
      · have a1 : decide (i < k) = false := decide_eq_false h2
        have a2 : decide (i < k + 1) = false := decide_eq_false (by omega)
        have a3 : (1#64).getLsbD (i - k) = false := by
          rw [BitVec.getLsbD_one]; simp; omega
        simp [a1, a2, a3]
theorem part_sx (x : BitVec 64) (n : Nat) (h1 : 1 ≤ n) (h2 : n ≤ 64) : part x n 64 = sx x n := by
  apply BitVec.eq_of_getLsbD_eq
  intro i hi
  rw [part_bit _ _ _ _ hi, sx_bit _ _ _ h1 h2 hi]
  simp [hi]
/-- What both say of a number of bits. -/
def sext (x : BitVec 64) (n : Int) : BitVec 64 := if 1 ≤ n ∧ n ≤ 64 then sx x n.toNat else x
def fitw (v n : Int) : Bool := if 1 ≤ n ∧ n ≤ 63 then fit v (n.toNat - 1) else true
theorem sext_any (x : BitVec 64) (n : Int) (w : World) : Calls Try.prog 15 #[.int .u64 (U x), .int .i64 n] w fun e w' => e = .returned (.int .u64 (U (sext x n))) ∧ Drawn0 w w' := by
  refine PWordSteps.word_Sext.calls (U x) n _ w ?_
  unfold PWordSteps.word_Sext.f sext
  by_cases h1 : n < 1
  · have h3 : ¬ (1 ≤ n ∧ n ≤ 64) := by omega
    rw [if_pos h1, if_neg h3]
  · by_cases h2 : n > 64
    · have h3 : ¬ (1 ≤ n ∧ n ≤ 64) := by omega
      rw [if_neg h1, if_pos h2, if_neg h3]
    · have h3 : 1 ≤ n ∧ n ≤ 64 := by omega
      rw [if_neg h1, if_neg h2, if_pos h3]
      obtain ⟨m, rfl⟩ := Int.eq_ofNat_of_zero_le (show 0 ≤ n by omega)
      have e : wrap64 (64 - (m:Int)) = ((64 - m : Nat) : Int) := by rw [wrap64_in (by omega) (by omega)]; omega
      have e0 : (0 : Int) ≤ ((64 - m : Nat) : Int) := by omega
      rw [e, if_pos e0]
      congr 1
      show IntKind.u64.wrap ((wrap64 (IntKind.u64.wrap (U x * 2 ^ min (64-m) 64))) / 2 ^ min (64-m) 64) = _
      rw [shl_U, wrap64_U, sar_toInt, u64_toInt]; rfl
theorem rsext_any (x : BitVec 64) (n : Int) (w : World) : Calls Try.prog 16 #[.int .u64 (U x), .int .i64 n] w fun e w' => e = .returned (.int .u64 (U (sext x n))) ∧ Drawn0 w w' := by
  unfold sext
  by_cases h : 1 ≤ n ∧ n ≤ 64
  · rw [if_pos h]
    obtain ⟨m, rfl⟩ := Int.eq_ofNat_of_zero_le (show 0 ≤ n by omega)
    rw [← part_sx x _ (by omega) (by omega)]
    exact rsext_in x m (by omega) (by omega) w
  · rw [if_neg h]
    exact rsext_out x n (by omega) w
theorem fits_any (v n : Int) (w : World) : Calls Try.prog 17 #[.int .i64 v, .int .i64 n] w fun e w' => e = .returned (.bool (fitw v n)) ∧ Drawn0 w w' := by
  unfold fitw
  by_cases h : 1 ≤ n ∧ n ≤ 63
  · rw [if_pos h]; exact fits_in v n h.1 h.2 w
  · rw [if_neg h]; exact fits_out v n (by omega) w
theorem rfits_any (v n : Int) (w : World) : Calls Try.prog 18 #[.int .i64 v, .int .i64 n] w fun e w' => e = .returned (.bool (fitw v n)) ∧ Drawn0 w w' := by
  unfold fitw
  by_cases h : 1 ≤ n ∧ n ≤ 63
  · rw [if_pos h]
    obtain ⟨m, rfl⟩ := Int.eq_ofNat_of_zero_le (show 0 ≤ n by omega)
    exact rfits_in v m (by omega) (by omega) w
  · rw [if_neg h]; exact rfits_out v n (by omega) w
theorem answers_any (w : World) : Calls Try.prog 14 #[] w fun e w' => e = .returned (.bool true) ∧ Drawn0 w w' :=
  PWordSteps.marionettelaw01_answers.calls true w (by kernel_rfl)
theorem sext_sext (x : BitVec 64) (n : Int) : sext (sext x n) n = sext x n := by
  unfold sext
  split
  · rw [sx_sx _ _ _ (by omega) (by omega) (by omega) (by omega), Nat.min_self]
  · rfl
theorem fit_sext (x : BitVec 64) (n : Int) (h1 : 1 ≤ n) (h2 : n ≤ 63) : fitw (sext x n).toInt n = true := by
  unfold fitw sext
  rw [if_pos ⟨h1, h2⟩, if_pos ⟨h1, by omega⟩]
  obtain ⟨m, rfl⟩ := Int.eq_ofNat_of_zero_le (show 0 ≤ n by omega)
  show fit (sx x m).toInt (m - 1) = true
  unfold fit sx
  rw [decide_eq_true_eq, BitVec.toInt_sshiftRight, Int.shiftRight_eq_div_pow]
  have a := (x <<< (64 - m)).toInt_lt
  have b := (x <<< (64 - m)).le_toInt
  generalize (x <<< (64 - m)).toInt = t at *
  obtain ⟨j, hj⟩ : ∃ j, m = j + 1 := ⟨m - 1, by omega⟩
  subst hj
  have e : (2 : Int) ^ (64 - 1) = 2 ^ (j + 1 - 1) * ((2 ^ (64 - (j + 1)) : Nat) : Int) := by
    have e2 : 64 - 1 = (j + 1 - 1) + (64 - (j + 1)) := by omega
    rw [e2, Int.pow_add]; simp
  rw [e] at a b
  have hp : (0 : Int) < ((2 ^ (64 - (j + 1)) : Nat) : Int) := by have := Nat.pow_pos (n := 64 - (j + 1)) (show 0 < 2 by omega); omega
  generalize ((2 ^ (64 - (j + 1)) : Nat) : Int) = p at *
  constructor
  · rw [Int.le_ediv_iff_mul_le hp, Int.neg_mul]; omega
  · have := (Int.ediv_lt_iff_lt_mul hp).2 a
    omega
set_option maxHeartbeats 1000000 in
theorem law (x : BitVec 64) (n v : Int) (w : World) : Calls Try.prog 4 #[.int .u64 (U x), .int .i64 n, .int .i64 v] w fun e w' => e = .returned (.bool true) ∧ Drawn0 w w' := by
  have H1 := Lib.hid (sext_sext x n)
  have h2 : ∀ W : World, Calls Try.prog 15 #[.int .u64 (U (sext x n)), .int .i64 n] W fun e w' => e = .returned (.int .u64 (U (sext x n))) ∧ Drawn0 W w' := fun W => by
    have := sext_any (sext x n) n W
    rwa [sext_sext] at this
  have H2 := Lib.hid h2
  clear h2 H1
  by_cases hn : 1 ≤ n ∧ n ≤ 63
  · obtain ⟨hn1, hn2⟩ := hn
    have h3 : ∀ W : World, Calls Try.prog 17 #[.int .i64 (wrap64 (U (sext x n))), .int .i64 n] W fun e w' => e = .returned (.bool true) ∧ Drawn0 W w' := fun W => by
      have := fits_any (sext x n).toInt n W
      rw [fit_sext x n hn1 hn2] at this
      rwa [wrap64_U]
    have H3 := Lib.hid h3
    clear h3
    have b1 : decide (n < 1) = false := decide_eq_false (by omega)
    have b2 : decide (63 < n) = false := decide_eq_false (by omega)
    go_enter Try.func4, Try.ntmps4
    go_wp2_with fail
    refine (sext_any _ _ _).mono ?_; rintro e w' ⟨rfl, ⟨m1, rfl⟩⟩
    go_wp2_with fail
    refine (answers_any _).mono ?_; rintro e w' ⟨rfl, ⟨m2, rfl⟩⟩
    go_wp2_with fail
    refine (rsext_any _ _ _).mono ?_; rintro e w' ⟨rfl, ⟨m3, rfl⟩⟩
    go_wp2_with fail
    refine (H2.out _).mono ?_; rintro e w' ⟨rfl, ⟨m4, rfl⟩⟩
    go_wp2_with fail
    refine (fits_any _ _ _).mono ?_; rintro e w' ⟨rfl, ⟨m5, rfl⟩⟩
    go_wp2_with fail
    refine (rfits_any _ _ _).mono ?_; rintro e w' ⟨rfl, ⟨m6, rfl⟩⟩
    go_wp2_with fail
    refine (H3.out _).mono ?_; rintro e w' ⟨rfl, ⟨m7, rfl⟩⟩
    go_wp2_with fail
    go_ret
    exact ⟨rfl, by repeat (first | exact Drawn0.refl _ | apply Drawn0.step)⟩
  · have b1 : n < 1 ∨ 63 < n := by omega
    clear hn
    rcases b1 with b1 | b1
    all_goals
      go_enter Try.func4, Try.ntmps4
      go_wp2_with fail
      refine (sext_any _ _ _).mono ?_; rintro e w' ⟨rfl, ⟨m1, rfl⟩⟩
      go_wp2_with fail
      refine (answers_any _).mono ?_; rintro e w' ⟨rfl, ⟨m2, rfl⟩⟩
      go_wp2_with fail
      refine (rsext_any _ _ _).mono ?_; rintro e w' ⟨rfl, ⟨m3, rfl⟩⟩
      go_wp2_with fail
      refine (H2.out _).mono ?_; rintro e w' ⟨rfl, ⟨m4, rfl⟩⟩
      go_wp2_with fail
      refine (fits_any _ _ _).mono ?_; rintro e w' ⟨rfl, ⟨m5, rfl⟩⟩
      go_wp2_with fail
      refine (rfits_any _ _ _).mono ?_; rintro e w' ⟨rfl, ⟨m6, rfl⟩⟩
      go_wp2_with fail
      go_ret
      exact ⟨rfl, by repeat (first | exact Drawn0.refl _ | apply Drawn0.step)⟩
theorem walk (a0 a1 a2 : Int) (W : World) (w0 : (Lit.int .u64 a0).wf = true) (_ : (Lit.int .i64 a1).wf = true) (_ : (Lit.int .i64 a2).wf = true) :
    Calls Try.prog 4 #[.int .u64 a0, .int .i64 a1, .int .i64 a2] W fun e w' => e = .returned (.bool true) ∧ Below W.heap.size W w' := by
  obtain ⟨x, rfl⟩ := ex_U (Go.bounds_u64 w0).1 (Go.bounds_u64 w0).2
  exact (law x a1 a2 W).mono fun _ _ h => ⟨h.1, h.2.below⟩
end Go.Proofs.Ytdjgjedmbgnjbaa.SgHand
