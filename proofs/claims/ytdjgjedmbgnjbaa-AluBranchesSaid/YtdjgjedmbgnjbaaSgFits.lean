/- The contracts of Fits and of the document's Fits, walked: for every number and every width. -/
import Derived.Test.YtdjgjedmbgnjbaaSgHand
namespace Go.Proofs.Ytdjgjedmbgnjbaa.SgHand
open Go Go.RowKit Go.Proofs.YtdjgjedmbgnjbaaW.PrintWords Go.Proofs.YtdjgjedmbgnjbaaW.PrintLast Go.Proofs.YtdjgjedmbgnjbaaW.PrintMore
open Go.Proofs.Ytdjgjedmbgnjbaa.Bv
theorem ret_bool {a b : Bool} (h : a = b) : Ending.returned (.bool a) = .returned (.bool b) := by rw [h]
theorem rsext_out (x : BitVec 64) (n : Int) (h : n < 1 ∨ 64 < n) (w : World) :
    Calls Try.prog 16 #[.int .u64 (U x), .int .i64 n] w fun e w' => e = .returned (.int .u64 (U x)) ∧ Drawn0 w w' := by
  rcases h with h | h
  · have b1 : decide (n < 1) = true := decide_eq_true h
    go_enter Try.func16, Try.ntmps16
    go_wp2
    go_ret
    exact ⟨rfl, Drawn0.refl _⟩
  · have b1 : decide (n < 1) = false := decide_eq_false (by omega)
    have b2 : decide (64 < n) = true := decide_eq_true h
    go_enter Try.func16, Try.ntmps16
    go_wp2
    go_ret
    exact ⟨rfl, Drawn0.refl _⟩
/-- Is v a number of n bits, 1 ≤ n ≤ 63? -/
def fit (v : Int) (n : Nat) : Bool := decide (-(2 : Int) ^ n ≤ v ∧ v ≤ (2 : Int) ^ n - 1)
theorem fit_yes {v : Int} {n : Nat} (h : v / 2 ^ n = 0) : true = fit v n := by
  have hp : (0 : Int) < 2 ^ n := Int.pow_pos (by decide)
  rw [Int.ediv_eq_iff_of_pos hp] at h
  unfold fit
  rw [eq_comm, decide_eq_true_eq]
  omega
theorem fit_else {v : Int} {n : Nat} (_ : ¬ v / 2 ^ n = 0) : (v / 2 ^ n == 0 || v / 2 ^ n == -1) = fit v n := by
  have hp : (0 : Int) < 2 ^ n := Int.pow_pos (by decide)
  unfold fit
  rw [Bool.eq_iff_iff, Bool.or_eq_true, beq_iff_eq, beq_iff_eq, decide_eq_true_eq, Int.ediv_eq_iff_of_pos hp, Int.ediv_eq_iff_of_pos hp]
  omega
theorem fits_in (v n : Int) (h1 : 1 ≤ n) (h2 : n ≤ 63) (w : World) :
    Calls Try.prog 17 #[.int .i64 v, .int .i64 n] w fun e w' => e = .returned (.bool (fit v (n.toNat - 1))) ∧ Drawn0 w w' := by
  have b1 : decide (n < 1) = false := decide_eq_false (by omega)
  have b2 : decide (64 ≤ n) = false := decide_eq_false (by omega)
  go_enter Try.func17, Try.ntmps17
  go_wp2
  · go_ret
    exact ⟨ret_bool (fit_yes ‹_›), Drawn0.refl _⟩
  · go_ret
    exact ⟨ret_bool (fit_else ‹_›), Drawn0.refl _⟩
theorem fits_out (v n : Int) (h : n < 1 ∨ 64 ≤ n) (w : World) :
    Calls Try.prog 17 #[.int .i64 v, .int .i64 n] w fun e w' => e = .returned (.bool true) ∧ Drawn0 w w' := by
  rcases h with h | h
  · have b1 : decide (n < 1) = true := decide_eq_true h
    go_enter Try.func17, Try.ntmps17
    go_wp2
    go_ret
    exact ⟨rfl, Drawn0.refl _⟩
  · have b1 : decide (n < 1) = false := decide_eq_false (by omega)
    have b2 : decide (64 ≤ n) = true := decide_eq_true h
    go_enter Try.func17, Try.ntmps17
    go_wp2
    go_ret
    exact ⟨rfl, Drawn0.refl _⟩
theorem rfits_out (v n : Int) (h : n < 1 ∨ 63 < n) (w : World) :
    Calls Try.prog 18 #[.int .i64 v, .int .i64 n] w fun e w' => e = .returned (.bool true) ∧ Drawn0 w w' := by
  rcases h with h | h
  · have b1 : decide (n < 1) = true := decide_eq_true h
    go_enter Try.func18, Try.ntmps18
    go_wp2
    go_ret
    exact ⟨rfl, Drawn0.refl _⟩
  · have b1 : decide (n < 1) = false := decide_eq_false (by omega)
    have b2 : decide (63 < n) = true := decide_eq_true h
    go_enter Try.func18, Try.ntmps18
    go_wp2
    go_ret
    exact ⟨rfl, Drawn0.refl _⟩
def p2 (k : Nat) : Int := 2 ^ k
theorem p2_bd (k : Nat) (h : k ≤ 62) : 1 ≤ p2 k ∧ p2 k ≤ 4611686018427387904 := by
  have a := Nat.pow_le_pow_right (n := 2) (by omega) h
  have b := Nat.pow_le_pow_right (n := 2) (by omega) (Nat.zero_le k)
  have e : p2 k = ((2 ^ k : Nat) : Int) := by unfold p2; simp
  rw [e]
  omega
theorem p2_succ (k : Nat) : p2 k * 2 = p2 (k + 1) := by unfold p2; rw [Int.pow_succ]
theorem fit_lo {v : Int} {n : Nat} (h : v < -(p2 n)) : false = fit v n := by
  unfold fit; unfold p2 at h
  rw [eq_comm, decide_eq_false_iff_not]; omega
theorem fit_hi {v : Int} {n : Nat} (h : -(p2 n) ≤ v) : decide (v ≤ p2 n - 1) = fit v n := by
  unfold fit; unfold p2 at *
  rw [Bool.eq_iff_iff, decide_eq_true_eq, decide_eq_true_eq]; omega
set_option maxHeartbeats 1000000 in
theorem rfits_in (v : Int) (n : Nat) (h1 : 1 ≤ n) (h2 : n ≤ 63) (w : World) :
    Calls Try.prog 18 #[.int .i64 v, .int .i64 (n : Int)] w fun e w' => e = .returned (.bool (fit v (n - 1))) ∧ Drawn0 w w' := by
  have b1 : decide ((n : Int) < 1) = false := decide_eq_false (by omega)
  have b2 : decide (63 < (n : Int)) = false := decide_eq_false (by omega)
  go_enter Try.func18, Try.ntmps18
  go_wp2
  go_loop [5, 6] (fun o i => ∃ k : Nat, 1 ≤ k ∧ k ≤ n ∧ i = .int .i64 k ∧ o = .int .i64 (p2 (k - 1))) (fun _ i => n - (intOf i).toNat)
  case atStart => exact ⟨1, by omega, h1, rfl, rfl⟩
  case round =>
    obtain ⟨k, hk1, hk2, rfl, rfl⟩ := hrel
    have hb := p2_bd (k - 1) (by omega)
    by_cases hlt : k < n
    · go_wp2
      go_round
      case rel => exact ⟨k + 1, by omega, by omega, by go_num, by rw [p2_succ, show k - 1 + 1 = k + 1 - 1 by omega, wrap64_in (by have := p2_bd (k + 1 - 1) (by omega); omega) (by have := p2_bd (k + 1 - 1) (by omega); omega)]⟩
      case measure => simp [intOf]; omega
    · obtain rfl : k = n := by omega
      clear hlt
      by_cases hlo : v < -(p2 (k - 1))
      · go_wp2
        go_ret
        exact ⟨ret_bool (fit_lo hlo), Drawn0.refl _⟩
      · have hl2 : -(p2 (k - 1)) ≤ v := by omega
        go_wp2
        go_ret
        exact ⟨ret_bool (fit_hi hl2), Drawn0.refl _⟩
end Go.Proofs.Ytdjgjedmbgnjbaa.SgHand
