/- The document's Do at each operator, walked, and that it answers what alu.Do answers: for all words. -/
import Derived.Test.YtdjgjedmbgnjbaaAluD
import Derived.Lib.Hide
namespace Go.Proofs.Ytdjgjedmbgnjbaa.Alu
open Go Go.RowKit Go.Proofs.YtdjgjedmbgnjbaaW.PrintWords Go.Proofs.YtdjgjedmbgnjbaaW.PrintLast Go.Proofs.YtdjgjedmbgnjbaaW.PrintMore
open Go.Proofs.Ytdjgjedmbgnjbaa.Bv
set_option linter.unusedVariables false
set_option linter.unusedSimpArgs false
attribute [local go_sem] wrap_add wrap_sub wrap_mul and_U or_U xor_U shl_U' shr_U' sar_toInt' i64_U wrap64_U u64_toInt wrap_shr wrap_U wrap64_toInt
/-- The lower half of a word. -/
def low (a : BitVec 64) : BitVec 64 := BitVec.ofNat 64 (a.toNat % 4294967296)
theorem U_lw (a : BitVec 64) : (U a).tmod 4294967296 = U (low a) := by rw [Int.tmod_eq_emod_of_nonneg (U_nonneg a)]; exact U_low a
theorem U_64 (b : BitVec 64) : (U b).tmod 64 = ((b.toNat % 64 : Nat) : Int) := by rw [Int.tmod_eq_emod_of_nonneg (U_nonneg b)]; unfold U; omega
theorem U_32 (b : BitVec 64) : (U b).tmod 32 = ((b.toNat % 32 : Nat) : Int) := by rw [Int.tmod_eq_emod_of_nonneg (U_nonneg b)]; unfold U; omega
/-- To the right k times, with what fills. -/
def rgt (a f : BitVec 64) : Nat → BitVec 64
  | 0 => a
  | k + 1 => (rgt a f k >>> 1) ||| (f <<< 63)
theorem shl63 (f : BitVec 64) : IntKind.u64.wrap (U f * 9223372036854775808) = U (f <<< 63) := shl_U' f 63
theorem half (x : BitVec 64) : (U x / (2 : Int)) = U (x >>> 1) := by
  exact shr_U' x 1
theorem or_U_eq {x y : BitVec 64} {z : Int} (h : z = U x) : bits .or .u64 z (U y) = U (x ||| y) := by rw [h, or_U]
theorem r_right (a f : BitVec 64) (n : Nat) (hn : n ≤ 63) (w : World) : Calls Try.prog 54 #[.int .u64 (U a), .int .u64 (n : Int), .int .u64 (U f)] w fun e w' => e = .returned (.int .u64 (U (rgt a f n))) ∧ Drawn0 w w' := by
  go_enter Try.func54, Try.ntmps54
  go_wp2
  go_loop [0, 1] (fun x m => ∃ k : Nat, k ≤ n ∧ m = .int .u64 ((n : Int) - (k : Int)) ∧ x = .int .u64 (U (rgt a f k))) (fun _ m => (intOf m).toNat)
  case atStart => exact ⟨0, Nat.zero_le _, by simp, rfl⟩
  case round =>
    obtain ⟨k, hk, rfl, rfl⟩ := hrel
    have h63 := shl63 f
    have hh : U (rgt a f k) / (2 : Int) = U (rgt a f k >>> 1) := half (rgt a f k)
    by_cases hlt : k < n
    · have hr : rgt a f (k + 1) = (rgt a f k >>> 1) ||| (f <<< 63) := rfl
      have HR := Lib.hid hr
      clear hr
      go_wp2
      go_round
      case rel => exact ⟨k + 1, by omega, by rw [show ((k + 1 : Nat) : Int) = (k : Int) + 1 by omega, ← Int.sub_sub], by rw [HR.out]⟩
      case measure => simp [intOf]; omega
    · obtain rfl : k = n := by omega
      go_wp2
      go_ret
      exact ⟨rfl, Drawn0.refl _⟩
theorem rsext32 (a : BitVec 64) (w : World) : Calls Try.prog 16 #[.int .u64 (U a), .int .i64 32] w fun e w' => e = .returned (.int .u64 (U (sx a 32))) ∧ Drawn0 w w' := by
  have h := SgHand.rsext_any a 32 w
  rwa [sext32] at h
theorem r_bit63 (a : BitVec 64) (w : World) : Calls Try.prog 39 #[.int .u64 (U a), .int .i64 63] w fun e w' => e = .returned (.int .u64 (U (SgHand.bt1 a 63))) ∧ Drawn0 w w' := SgHand.bit_any a 63 (by decide) (by decide) w
theorem r_bit31 (a : BitVec 64) (w : World) : Calls Try.prog 39 #[.int .u64 (U a), .int .i64 31] w fun e w' => e = .returned (.int .u64 (U (SgHand.bt1 a 31))) ∧ Drawn0 w w' := SgHand.bit_any a 31 (by decide) (by decide) w
theorem r_right0 (a : BitVec 64) (n : Nat) (hn : n ≤ 63) (w : World) : Calls Try.prog 54 #[.int .u64 (U a), .int .u64 (n : Int), .int .u64 0] w fun e w' => e = .returned (.int .u64 (U (rgt a 0#64 n))) ∧ Drawn0 w w' := r_right a 0#64 n hn w
set_option maxHeartbeats 1000000 in
theorem rdo_1 (a b : BitVec 64) (w : World) : Calls Try.prog 35 #[.int .i64 1, .int .u64 (U a), .int .u64 (U b)] w fun e w' => e = .returned (.tuple #[.int .u64 (U (b)), .bool true]) ∧ Drawn0 w w' := by
  have h63 := U_64 b
  have h31 := U_32 b
  have g63 : b.toNat % 64 ≤ 63 := by omega
  have g31 : b.toNat % 32 ≤ 31 := by omega
  have hla := U_lw a
  have hlb := U_lw b
  go_enter Try.func35, Try.ntmps35
  go_wp2_with (first | (go_at_call 16; refine (rsext32 _ _).mono ?_; rintro e w' ⟨rfl, ⟨m2, rfl⟩⟩) | (go_at_call 28; refine (r_mulhu _ _ _).mono ?_; rintro e w' ⟨rfl, ⟨m1, rfl⟩⟩) | (go_at_call 30; refine (r_mulh _ _ _).mono ?_; rintro e w' ⟨rfl, ⟨m1, rfl⟩⟩) | (go_at_call 32; refine (r_mulhsu _ _ _).mono ?_; rintro e w' ⟨rfl, ⟨m1, rfl⟩⟩) | (go_at_call 24; refine (r_div _ _ _).mono ?_; rintro e w' ⟨rfl, ⟨m1, rfl⟩⟩) | (go_at_call 20; refine (r_divu _ _ _).mono ?_; rintro e w' ⟨rfl, ⟨m1, rfl⟩⟩) | (go_at_call 26; refine (r_rem _ _ _).mono ?_; rintro e w' ⟨rfl, ⟨m1, rfl⟩⟩) | (go_at_call 22; refine (r_remu _ _ _).mono ?_; rintro e w' ⟨rfl, ⟨m1, rfl⟩⟩) | (go_at_call 44; refine (r_product _ _ _).mono ?_; rintro e w' ⟨rfl, ⟨m1, rfl⟩⟩) | go_in)
  go_ret2
  exact ⟨rfl, by repeat (first | exact Drawn0.refl _ | apply Drawn0.step)⟩
set_option maxHeartbeats 1000000 in
theorem rdo_22 (a b : BitVec 64) (w : World) : Calls Try.prog 35 #[.int .i64 22, .int .u64 (U a), .int .u64 (U b)] w fun e w' => e = .returned (.tuple #[.int .u64 (U (a + b)), .bool true]) ∧ Drawn0 w w' := by
  have h63 := U_64 b
  have h31 := U_32 b
  have g63 : b.toNat % 64 ≤ 63 := by omega
  have g31 : b.toNat % 32 ≤ 31 := by omega
  have hla := U_lw a
  have hlb := U_lw b
  go_enter Try.func35, Try.ntmps35
  go_wp2_with (first | (go_at_call 16; refine (rsext32 _ _).mono ?_; rintro e w' ⟨rfl, ⟨m2, rfl⟩⟩) | (go_at_call 28; refine (r_mulhu _ _ _).mono ?_; rintro e w' ⟨rfl, ⟨m1, rfl⟩⟩) | (go_at_call 30; refine (r_mulh _ _ _).mono ?_; rintro e w' ⟨rfl, ⟨m1, rfl⟩⟩) | (go_at_call 32; refine (r_mulhsu _ _ _).mono ?_; rintro e w' ⟨rfl, ⟨m1, rfl⟩⟩) | (go_at_call 24; refine (r_div _ _ _).mono ?_; rintro e w' ⟨rfl, ⟨m1, rfl⟩⟩) | (go_at_call 20; refine (r_divu _ _ _).mono ?_; rintro e w' ⟨rfl, ⟨m1, rfl⟩⟩) | (go_at_call 26; refine (r_rem _ _ _).mono ?_; rintro e w' ⟨rfl, ⟨m1, rfl⟩⟩) | (go_at_call 22; refine (r_remu _ _ _).mono ?_; rintro e w' ⟨rfl, ⟨m1, rfl⟩⟩) | (go_at_call 44; refine (r_product _ _ _).mono ?_; rintro e w' ⟨rfl, ⟨m1, rfl⟩⟩) | go_in)
  go_ret2
  exact ⟨rfl, by repeat (first | exact Drawn0.refl _ | apply Drawn0.step)⟩
set_option maxHeartbeats 1000000 in
theorem rdo_23 (a b : BitVec 64) (w : World) : Calls Try.prog 35 #[.int .i64 23, .int .u64 (U a), .int .u64 (U b)] w fun e w' => e = .returned (.tuple #[.int .u64 (U (tr (decide (a.toInt < b.toInt)))), .bool true]) ∧ Drawn0 w w' := by
  have h63 := U_64 b
  have h31 := U_32 b
  have g63 : b.toNat % 64 ≤ 63 := by omega
  have g31 : b.toNat % 32 ≤ 31 := by omega
  have hla := U_lw a
  have hlb := U_lw b
  by_cases hc : a.toInt < b.toInt
  · have t0 : decide (a.toInt < b.toInt) = true := decide_eq_true hc
    rw [t0, ← U_tr_t]
    go_enter Try.func35, Try.ntmps35
    go_wp2_with (first | (go_at_call 16; refine (rsext32 _ _).mono ?_; rintro e w' ⟨rfl, ⟨m2, rfl⟩⟩) | (go_at_call 28; refine (r_mulhu _ _ _).mono ?_; rintro e w' ⟨rfl, ⟨m1, rfl⟩⟩) | (go_at_call 30; refine (r_mulh _ _ _).mono ?_; rintro e w' ⟨rfl, ⟨m1, rfl⟩⟩) | (go_at_call 32; refine (r_mulhsu _ _ _).mono ?_; rintro e w' ⟨rfl, ⟨m1, rfl⟩⟩) | (go_at_call 24; refine (r_div _ _ _).mono ?_; rintro e w' ⟨rfl, ⟨m1, rfl⟩⟩) | (go_at_call 20; refine (r_divu _ _ _).mono ?_; rintro e w' ⟨rfl, ⟨m1, rfl⟩⟩) | (go_at_call 26; refine (r_rem _ _ _).mono ?_; rintro e w' ⟨rfl, ⟨m1, rfl⟩⟩) | (go_at_call 22; refine (r_remu _ _ _).mono ?_; rintro e w' ⟨rfl, ⟨m1, rfl⟩⟩) | (go_at_call 44; refine (r_product _ _ _).mono ?_; rintro e w' ⟨rfl, ⟨m1, rfl⟩⟩) | (go_at_call 53; refine (r_less _ _ _).mono ?_; rw [t0]; rintro e w' ⟨rfl, ⟨m3, rfl⟩⟩) | go_in)
    go_ret2
    exact ⟨rfl, by repeat (first | exact Drawn0.refl _ | apply Drawn0.step)⟩
  · have t0 : decide (a.toInt < b.toInt) = false := decide_eq_false hc
    rw [t0, ← U_tr_f]
    go_enter Try.func35, Try.ntmps35
    go_wp2_with (first | (go_at_call 16; refine (rsext32 _ _).mono ?_; rintro e w' ⟨rfl, ⟨m2, rfl⟩⟩) | (go_at_call 28; refine (r_mulhu _ _ _).mono ?_; rintro e w' ⟨rfl, ⟨m1, rfl⟩⟩) | (go_at_call 30; refine (r_mulh _ _ _).mono ?_; rintro e w' ⟨rfl, ⟨m1, rfl⟩⟩) | (go_at_call 32; refine (r_mulhsu _ _ _).mono ?_; rintro e w' ⟨rfl, ⟨m1, rfl⟩⟩) | (go_at_call 24; refine (r_div _ _ _).mono ?_; rintro e w' ⟨rfl, ⟨m1, rfl⟩⟩) | (go_at_call 20; refine (r_divu _ _ _).mono ?_; rintro e w' ⟨rfl, ⟨m1, rfl⟩⟩) | (go_at_call 26; refine (r_rem _ _ _).mono ?_; rintro e w' ⟨rfl, ⟨m1, rfl⟩⟩) | (go_at_call 22; refine (r_remu _ _ _).mono ?_; rintro e w' ⟨rfl, ⟨m1, rfl⟩⟩) | (go_at_call 44; refine (r_product _ _ _).mono ?_; rintro e w' ⟨rfl, ⟨m1, rfl⟩⟩) | (go_at_call 53; refine (r_less _ _ _).mono ?_; rw [t0]; rintro e w' ⟨rfl, ⟨m3, rfl⟩⟩) | go_in)
    go_ret2
    exact ⟨rfl, by repeat (first | exact Drawn0.refl _ | apply Drawn0.step)⟩
set_option maxHeartbeats 1000000 in
theorem rdo_24 (a b : BitVec 64) (w : World) : Calls Try.prog 35 #[.int .i64 24, .int .u64 (U a), .int .u64 (U b)] w fun e w' => e = .returned (.tuple #[.int .u64 (U (tr (decide (U a < U b)))), .bool true]) ∧ Drawn0 w w' := by
  have h63 := U_64 b
  have h31 := U_32 b
  have g63 : b.toNat % 64 ≤ 63 := by omega
  have g31 : b.toNat % 32 ≤ 31 := by omega
  have hla := U_lw a
  have hlb := U_lw b
  by_cases hc : U a < U b
  · have t0 : decide (U a < U b) = true := decide_eq_true hc
    rw [t0, ← U_tr_t]
    go_enter Try.func35, Try.ntmps35
    go_wp2_with (first | (go_at_call 16; refine (rsext32 _ _).mono ?_; rintro e w' ⟨rfl, ⟨m2, rfl⟩⟩) | (go_at_call 28; refine (r_mulhu _ _ _).mono ?_; rintro e w' ⟨rfl, ⟨m1, rfl⟩⟩) | (go_at_call 30; refine (r_mulh _ _ _).mono ?_; rintro e w' ⟨rfl, ⟨m1, rfl⟩⟩) | (go_at_call 32; refine (r_mulhsu _ _ _).mono ?_; rintro e w' ⟨rfl, ⟨m1, rfl⟩⟩) | (go_at_call 24; refine (r_div _ _ _).mono ?_; rintro e w' ⟨rfl, ⟨m1, rfl⟩⟩) | (go_at_call 20; refine (r_divu _ _ _).mono ?_; rintro e w' ⟨rfl, ⟨m1, rfl⟩⟩) | (go_at_call 26; refine (r_rem _ _ _).mono ?_; rintro e w' ⟨rfl, ⟨m1, rfl⟩⟩) | (go_at_call 22; refine (r_remu _ _ _).mono ?_; rintro e w' ⟨rfl, ⟨m1, rfl⟩⟩) | (go_at_call 44; refine (r_product _ _ _).mono ?_; rintro e w' ⟨rfl, ⟨m1, rfl⟩⟩) | go_in)
    go_ret2
    exact ⟨rfl, by repeat (first | exact Drawn0.refl _ | apply Drawn0.step)⟩
  · have t0 : decide (U a < U b) = false := decide_eq_false hc
    rw [t0, ← U_tr_f]
    go_enter Try.func35, Try.ntmps35
    go_wp2_with (first | (go_at_call 16; refine (rsext32 _ _).mono ?_; rintro e w' ⟨rfl, ⟨m2, rfl⟩⟩) | (go_at_call 28; refine (r_mulhu _ _ _).mono ?_; rintro e w' ⟨rfl, ⟨m1, rfl⟩⟩) | (go_at_call 30; refine (r_mulh _ _ _).mono ?_; rintro e w' ⟨rfl, ⟨m1, rfl⟩⟩) | (go_at_call 32; refine (r_mulhsu _ _ _).mono ?_; rintro e w' ⟨rfl, ⟨m1, rfl⟩⟩) | (go_at_call 24; refine (r_div _ _ _).mono ?_; rintro e w' ⟨rfl, ⟨m1, rfl⟩⟩) | (go_at_call 20; refine (r_divu _ _ _).mono ?_; rintro e w' ⟨rfl, ⟨m1, rfl⟩⟩) | (go_at_call 26; refine (r_rem _ _ _).mono ?_; rintro e w' ⟨rfl, ⟨m1, rfl⟩⟩) | (go_at_call 22; refine (r_remu _ _ _).mono ?_; rintro e w' ⟨rfl, ⟨m1, rfl⟩⟩) | (go_at_call 44; refine (r_product _ _ _).mono ?_; rintro e w' ⟨rfl, ⟨m1, rfl⟩⟩) | go_in)
    go_ret2
    exact ⟨rfl, by repeat (first | exact Drawn0.refl _ | apply Drawn0.step)⟩
set_option maxHeartbeats 1000000 in
theorem rdo_25 (a b : BitVec 64) (w : World) : Calls Try.prog 35 #[.int .i64 25, .int .u64 (U a), .int .u64 (U b)] w fun e w' => e = .returned (.tuple #[.int .u64 (U (a ^^^ b)), .bool true]) ∧ Drawn0 w w' := by
  have h63 := U_64 b
  have h31 := U_32 b
  have g63 : b.toNat % 64 ≤ 63 := by omega
  have g31 : b.toNat % 32 ≤ 31 := by omega
  have hla := U_lw a
  have hlb := U_lw b
  go_enter Try.func35, Try.ntmps35
  go_wp2_with (first | (go_at_call 16; refine (rsext32 _ _).mono ?_; rintro e w' ⟨rfl, ⟨m2, rfl⟩⟩) | (go_at_call 28; refine (r_mulhu _ _ _).mono ?_; rintro e w' ⟨rfl, ⟨m1, rfl⟩⟩) | (go_at_call 30; refine (r_mulh _ _ _).mono ?_; rintro e w' ⟨rfl, ⟨m1, rfl⟩⟩) | (go_at_call 32; refine (r_mulhsu _ _ _).mono ?_; rintro e w' ⟨rfl, ⟨m1, rfl⟩⟩) | (go_at_call 24; refine (r_div _ _ _).mono ?_; rintro e w' ⟨rfl, ⟨m1, rfl⟩⟩) | (go_at_call 20; refine (r_divu _ _ _).mono ?_; rintro e w' ⟨rfl, ⟨m1, rfl⟩⟩) | (go_at_call 26; refine (r_rem _ _ _).mono ?_; rintro e w' ⟨rfl, ⟨m1, rfl⟩⟩) | (go_at_call 22; refine (r_remu _ _ _).mono ?_; rintro e w' ⟨rfl, ⟨m1, rfl⟩⟩) | (go_at_call 44; refine (r_product _ _ _).mono ?_; rintro e w' ⟨rfl, ⟨m1, rfl⟩⟩) | go_in)
  go_ret2
  exact ⟨rfl, by repeat (first | exact Drawn0.refl _ | apply Drawn0.step)⟩
set_option maxHeartbeats 1000000 in
theorem rdo_26 (a b : BitVec 64) (w : World) : Calls Try.prog 35 #[.int .i64 26, .int .u64 (U a), .int .u64 (U b)] w fun e w' => e = .returned (.tuple #[.int .u64 (U (a ||| b)), .bool true]) ∧ Drawn0 w w' := by
  have h63 := U_64 b
  have h31 := U_32 b
  have g63 : b.toNat % 64 ≤ 63 := by omega
  have g31 : b.toNat % 32 ≤ 31 := by omega
  have hla := U_lw a
  have hlb := U_lw b
  go_enter Try.func35, Try.ntmps35
  go_wp2_with (first | (go_at_call 16; refine (rsext32 _ _).mono ?_; rintro e w' ⟨rfl, ⟨m2, rfl⟩⟩) | (go_at_call 28; refine (r_mulhu _ _ _).mono ?_; rintro e w' ⟨rfl, ⟨m1, rfl⟩⟩) | (go_at_call 30; refine (r_mulh _ _ _).mono ?_; rintro e w' ⟨rfl, ⟨m1, rfl⟩⟩) | (go_at_call 32; refine (r_mulhsu _ _ _).mono ?_; rintro e w' ⟨rfl, ⟨m1, rfl⟩⟩) | (go_at_call 24; refine (r_div _ _ _).mono ?_; rintro e w' ⟨rfl, ⟨m1, rfl⟩⟩) | (go_at_call 20; refine (r_divu _ _ _).mono ?_; rintro e w' ⟨rfl, ⟨m1, rfl⟩⟩) | (go_at_call 26; refine (r_rem _ _ _).mono ?_; rintro e w' ⟨rfl, ⟨m1, rfl⟩⟩) | (go_at_call 22; refine (r_remu _ _ _).mono ?_; rintro e w' ⟨rfl, ⟨m1, rfl⟩⟩) | (go_at_call 44; refine (r_product _ _ _).mono ?_; rintro e w' ⟨rfl, ⟨m1, rfl⟩⟩) | go_in)
  go_ret2
  exact ⟨rfl, by repeat (first | exact Drawn0.refl _ | apply Drawn0.step)⟩
set_option maxHeartbeats 1000000 in
theorem rdo_27 (a b : BitVec 64) (w : World) : Calls Try.prog 35 #[.int .i64 27, .int .u64 (U a), .int .u64 (U b)] w fun e w' => e = .returned (.tuple #[.int .u64 (U (a &&& b)), .bool true]) ∧ Drawn0 w w' := by
  have h63 := U_64 b
  have h31 := U_32 b
  have g63 : b.toNat % 64 ≤ 63 := by omega
  have g31 : b.toNat % 32 ≤ 31 := by omega
  have hla := U_lw a
  have hlb := U_lw b
  go_enter Try.func35, Try.ntmps35
  go_wp2_with (first | (go_at_call 16; refine (rsext32 _ _).mono ?_; rintro e w' ⟨rfl, ⟨m2, rfl⟩⟩) | (go_at_call 28; refine (r_mulhu _ _ _).mono ?_; rintro e w' ⟨rfl, ⟨m1, rfl⟩⟩) | (go_at_call 30; refine (r_mulh _ _ _).mono ?_; rintro e w' ⟨rfl, ⟨m1, rfl⟩⟩) | (go_at_call 32; refine (r_mulhsu _ _ _).mono ?_; rintro e w' ⟨rfl, ⟨m1, rfl⟩⟩) | (go_at_call 24; refine (r_div _ _ _).mono ?_; rintro e w' ⟨rfl, ⟨m1, rfl⟩⟩) | (go_at_call 20; refine (r_divu _ _ _).mono ?_; rintro e w' ⟨rfl, ⟨m1, rfl⟩⟩) | (go_at_call 26; refine (r_rem _ _ _).mono ?_; rintro e w' ⟨rfl, ⟨m1, rfl⟩⟩) | (go_at_call 22; refine (r_remu _ _ _).mono ?_; rintro e w' ⟨rfl, ⟨m1, rfl⟩⟩) | (go_at_call 44; refine (r_product _ _ _).mono ?_; rintro e w' ⟨rfl, ⟨m1, rfl⟩⟩) | go_in)
  go_ret2
  exact ⟨rfl, by repeat (first | exact Drawn0.refl _ | apply Drawn0.step)⟩
set_option maxHeartbeats 1000000 in
theorem rdo_28 (a b : BitVec 64) (w : World) : Calls Try.prog 35 #[.int .i64 28, .int .u64 (U a), .int .u64 (U b)] w fun e w' => e = .returned (.tuple #[.int .u64 (U (a <<< (b.toNat % 64))), .bool true]) ∧ Drawn0 w w' := by
  have h63 := U_64 b
  have h31 := U_32 b
  have g63 : b.toNat % 64 ≤ 63 := by omega
  have g31 : b.toNat % 32 ≤ 31 := by omega
  have hla := U_lw a
  have hlb := U_lw b
  go_enter Try.func35, Try.ntmps35
  go_wp2_with (first | (go_at_call 16; refine (rsext32 _ _).mono ?_; rintro e w' ⟨rfl, ⟨m2, rfl⟩⟩) | (go_at_call 28; refine (r_mulhu _ _ _).mono ?_; rintro e w' ⟨rfl, ⟨m1, rfl⟩⟩) | (go_at_call 30; refine (r_mulh _ _ _).mono ?_; rintro e w' ⟨rfl, ⟨m1, rfl⟩⟩) | (go_at_call 32; refine (r_mulhsu _ _ _).mono ?_; rintro e w' ⟨rfl, ⟨m1, rfl⟩⟩) | (go_at_call 24; refine (r_div _ _ _).mono ?_; rintro e w' ⟨rfl, ⟨m1, rfl⟩⟩) | (go_at_call 20; refine (r_divu _ _ _).mono ?_; rintro e w' ⟨rfl, ⟨m1, rfl⟩⟩) | (go_at_call 26; refine (r_rem _ _ _).mono ?_; rintro e w' ⟨rfl, ⟨m1, rfl⟩⟩) | (go_at_call 22; refine (r_remu _ _ _).mono ?_; rintro e w' ⟨rfl, ⟨m1, rfl⟩⟩) | (go_at_call 44; refine (r_product _ _ _).mono ?_; rintro e w' ⟨rfl, ⟨m1, rfl⟩⟩) | go_in)
  go_ret2
  exact ⟨rfl, by repeat (first | exact Drawn0.refl _ | apply Drawn0.step)⟩
set_option maxHeartbeats 1000000 in
theorem rdo_29 (a b : BitVec 64) (w : World) : Calls Try.prog 35 #[.int .i64 29, .int .u64 (U a), .int .u64 (U b)] w fun e w' => e = .returned (.tuple #[.int .u64 (U (rgt a 0#64 (b.toNat % 64))), .bool true]) ∧ Drawn0 w w' := by
  have h63 := U_64 b
  have h31 := U_32 b
  have g63 : b.toNat % 64 ≤ 63 := by omega
  have g31 : b.toNat % 32 ≤ 31 := by omega
  have hla := U_lw a
  have hlb := U_lw b
  go_enter Try.func35, Try.ntmps35
  go_wp2_with (first | (go_at_call 16; refine (rsext32 _ _).mono ?_; rintro e w' ⟨rfl, ⟨m2, rfl⟩⟩) | (go_at_call 28; refine (r_mulhu _ _ _).mono ?_; rintro e w' ⟨rfl, ⟨m1, rfl⟩⟩) | (go_at_call 30; refine (r_mulh _ _ _).mono ?_; rintro e w' ⟨rfl, ⟨m1, rfl⟩⟩) | (go_at_call 32; refine (r_mulhsu _ _ _).mono ?_; rintro e w' ⟨rfl, ⟨m1, rfl⟩⟩) | (go_at_call 24; refine (r_div _ _ _).mono ?_; rintro e w' ⟨rfl, ⟨m1, rfl⟩⟩) | (go_at_call 20; refine (r_divu _ _ _).mono ?_; rintro e w' ⟨rfl, ⟨m1, rfl⟩⟩) | (go_at_call 26; refine (r_rem _ _ _).mono ?_; rintro e w' ⟨rfl, ⟨m1, rfl⟩⟩) | (go_at_call 22; refine (r_remu _ _ _).mono ?_; rintro e w' ⟨rfl, ⟨m1, rfl⟩⟩) | (go_at_call 44; refine (r_product _ _ _).mono ?_; rintro e w' ⟨rfl, ⟨m1, rfl⟩⟩) | (go_at_call 54; refine (r_right0 _ _ g63 _).mono ?_; rintro e w' ⟨rfl, ⟨m4, rfl⟩⟩) | go_in)
  go_ret2
  exact ⟨rfl, by repeat (first | exact Drawn0.refl _ | apply Drawn0.step)⟩
set_option maxHeartbeats 1000000 in
theorem rdo_30 (a b : BitVec 64) (w : World) : Calls Try.prog 35 #[.int .i64 30, .int .u64 (U a), .int .u64 (U b)] w fun e w' => e = .returned (.tuple #[.int .u64 (U (rgt a (SgHand.bt1 a 63) (b.toNat % 64))), .bool true]) ∧ Drawn0 w w' := by
  have h63 := U_64 b
  have h31 := U_32 b
  have g63 : b.toNat % 64 ≤ 63 := by omega
  have g31 : b.toNat % 32 ≤ 31 := by omega
  have hla := U_lw a
  have hlb := U_lw b
  go_enter Try.func35, Try.ntmps35
  go_wp2_with (first | (go_at_call 16; refine (rsext32 _ _).mono ?_; rintro e w' ⟨rfl, ⟨m2, rfl⟩⟩) | (go_at_call 28; refine (r_mulhu _ _ _).mono ?_; rintro e w' ⟨rfl, ⟨m1, rfl⟩⟩) | (go_at_call 30; refine (r_mulh _ _ _).mono ?_; rintro e w' ⟨rfl, ⟨m1, rfl⟩⟩) | (go_at_call 32; refine (r_mulhsu _ _ _).mono ?_; rintro e w' ⟨rfl, ⟨m1, rfl⟩⟩) | (go_at_call 24; refine (r_div _ _ _).mono ?_; rintro e w' ⟨rfl, ⟨m1, rfl⟩⟩) | (go_at_call 20; refine (r_divu _ _ _).mono ?_; rintro e w' ⟨rfl, ⟨m1, rfl⟩⟩) | (go_at_call 26; refine (r_rem _ _ _).mono ?_; rintro e w' ⟨rfl, ⟨m1, rfl⟩⟩) | (go_at_call 22; refine (r_remu _ _ _).mono ?_; rintro e w' ⟨rfl, ⟨m1, rfl⟩⟩) | (go_at_call 44; refine (r_product _ _ _).mono ?_; rintro e w' ⟨rfl, ⟨m1, rfl⟩⟩) | (go_at_call 39; refine (r_bit63 _ _).mono ?_; rintro e w' ⟨rfl, ⟨m5, rfl⟩⟩) | (go_at_call 54; refine (r_right _ _ _ g63 _).mono ?_; rintro e w' ⟨rfl, ⟨m4, rfl⟩⟩) | go_in)
  go_ret2
  exact ⟨rfl, by repeat (first | exact Drawn0.refl _ | apply Drawn0.step)⟩
set_option maxHeartbeats 1000000 in
theorem rdo_31 (a b : BitVec 64) (w : World) : Calls Try.prog 35 #[.int .i64 31, .int .u64 (U a), .int .u64 (U b)] w fun e w' => e = .returned (.tuple #[.int .u64 (U (a + b)), .bool true]) ∧ Drawn0 w w' := by
  have h63 := U_64 b
  have h31 := U_32 b
  have g63 : b.toNat % 64 ≤ 63 := by omega
  have g31 : b.toNat % 32 ≤ 31 := by omega
  have hla := U_lw a
  have hlb := U_lw b
  go_enter Try.func35, Try.ntmps35
  go_wp2_with (first | (go_at_call 16; refine (rsext32 _ _).mono ?_; rintro e w' ⟨rfl, ⟨m2, rfl⟩⟩) | (go_at_call 28; refine (r_mulhu _ _ _).mono ?_; rintro e w' ⟨rfl, ⟨m1, rfl⟩⟩) | (go_at_call 30; refine (r_mulh _ _ _).mono ?_; rintro e w' ⟨rfl, ⟨m1, rfl⟩⟩) | (go_at_call 32; refine (r_mulhsu _ _ _).mono ?_; rintro e w' ⟨rfl, ⟨m1, rfl⟩⟩) | (go_at_call 24; refine (r_div _ _ _).mono ?_; rintro e w' ⟨rfl, ⟨m1, rfl⟩⟩) | (go_at_call 20; refine (r_divu _ _ _).mono ?_; rintro e w' ⟨rfl, ⟨m1, rfl⟩⟩) | (go_at_call 26; refine (r_rem _ _ _).mono ?_; rintro e w' ⟨rfl, ⟨m1, rfl⟩⟩) | (go_at_call 22; refine (r_remu _ _ _).mono ?_; rintro e w' ⟨rfl, ⟨m1, rfl⟩⟩) | (go_at_call 44; refine (r_product _ _ _).mono ?_; rintro e w' ⟨rfl, ⟨m1, rfl⟩⟩) | go_in)
  go_ret2
  exact ⟨rfl, by repeat (first | exact Drawn0.refl _ | apply Drawn0.step)⟩
set_option maxHeartbeats 1000000 in
theorem rdo_32 (a b : BitVec 64) (w : World) : Calls Try.prog 35 #[.int .i64 32, .int .u64 (U a), .int .u64 (U b)] w fun e w' => e = .returned (.tuple #[.int .u64 (U (a - b)), .bool true]) ∧ Drawn0 w w' := by
  have h63 := U_64 b
  have h31 := U_32 b
  have g63 : b.toNat % 64 ≤ 63 := by omega
  have g31 : b.toNat % 32 ≤ 31 := by omega
  have hla := U_lw a
  have hlb := U_lw b
  go_enter Try.func35, Try.ntmps35
  go_wp2_with (first | (go_at_call 16; refine (rsext32 _ _).mono ?_; rintro e w' ⟨rfl, ⟨m2, rfl⟩⟩) | (go_at_call 28; refine (r_mulhu _ _ _).mono ?_; rintro e w' ⟨rfl, ⟨m1, rfl⟩⟩) | (go_at_call 30; refine (r_mulh _ _ _).mono ?_; rintro e w' ⟨rfl, ⟨m1, rfl⟩⟩) | (go_at_call 32; refine (r_mulhsu _ _ _).mono ?_; rintro e w' ⟨rfl, ⟨m1, rfl⟩⟩) | (go_at_call 24; refine (r_div _ _ _).mono ?_; rintro e w' ⟨rfl, ⟨m1, rfl⟩⟩) | (go_at_call 20; refine (r_divu _ _ _).mono ?_; rintro e w' ⟨rfl, ⟨m1, rfl⟩⟩) | (go_at_call 26; refine (r_rem _ _ _).mono ?_; rintro e w' ⟨rfl, ⟨m1, rfl⟩⟩) | (go_at_call 22; refine (r_remu _ _ _).mono ?_; rintro e w' ⟨rfl, ⟨m1, rfl⟩⟩) | (go_at_call 44; refine (r_product _ _ _).mono ?_; rintro e w' ⟨rfl, ⟨m1, rfl⟩⟩) | go_in)
  go_ret2
  exact ⟨rfl, by repeat (first | exact Drawn0.refl _ | apply Drawn0.step)⟩
set_option maxHeartbeats 1000000 in
theorem rdo_33 (a b : BitVec 64) (w : World) : Calls Try.prog 35 #[.int .i64 33, .int .u64 (U a), .int .u64 (U b)] w fun e w' => e = .returned (.tuple #[.int .u64 (U (a <<< (b.toNat % 64))), .bool true]) ∧ Drawn0 w w' := by
  have h63 := U_64 b
  have h31 := U_32 b
  have g63 : b.toNat % 64 ≤ 63 := by omega
  have g31 : b.toNat % 32 ≤ 31 := by omega
  have hla := U_lw a
  have hlb := U_lw b
  go_enter Try.func35, Try.ntmps35
  go_wp2_with (first | (go_at_call 16; refine (rsext32 _ _).mono ?_; rintro e w' ⟨rfl, ⟨m2, rfl⟩⟩) | (go_at_call 28; refine (r_mulhu _ _ _).mono ?_; rintro e w' ⟨rfl, ⟨m1, rfl⟩⟩) | (go_at_call 30; refine (r_mulh _ _ _).mono ?_; rintro e w' ⟨rfl, ⟨m1, rfl⟩⟩) | (go_at_call 32; refine (r_mulhsu _ _ _).mono ?_; rintro e w' ⟨rfl, ⟨m1, rfl⟩⟩) | (go_at_call 24; refine (r_div _ _ _).mono ?_; rintro e w' ⟨rfl, ⟨m1, rfl⟩⟩) | (go_at_call 20; refine (r_divu _ _ _).mono ?_; rintro e w' ⟨rfl, ⟨m1, rfl⟩⟩) | (go_at_call 26; refine (r_rem _ _ _).mono ?_; rintro e w' ⟨rfl, ⟨m1, rfl⟩⟩) | (go_at_call 22; refine (r_remu _ _ _).mono ?_; rintro e w' ⟨rfl, ⟨m1, rfl⟩⟩) | (go_at_call 44; refine (r_product _ _ _).mono ?_; rintro e w' ⟨rfl, ⟨m1, rfl⟩⟩) | go_in)
  go_ret2
  exact ⟨rfl, by repeat (first | exact Drawn0.refl _ | apply Drawn0.step)⟩
set_option maxHeartbeats 1000000 in
theorem rdo_34 (a b : BitVec 64) (w : World) : Calls Try.prog 35 #[.int .i64 34, .int .u64 (U a), .int .u64 (U b)] w fun e w' => e = .returned (.tuple #[.int .u64 (U (tr (decide (a.toInt < b.toInt)))), .bool true]) ∧ Drawn0 w w' := by
  have h63 := U_64 b
  have h31 := U_32 b
  have g63 : b.toNat % 64 ≤ 63 := by omega
  have g31 : b.toNat % 32 ≤ 31 := by omega
  have hla := U_lw a
  have hlb := U_lw b
  by_cases hc : a.toInt < b.toInt
  · have t0 : decide (a.toInt < b.toInt) = true := decide_eq_true hc
    rw [t0, ← U_tr_t]
    go_enter Try.func35, Try.ntmps35
    go_wp2_with (first | (go_at_call 16; refine (rsext32 _ _).mono ?_; rintro e w' ⟨rfl, ⟨m2, rfl⟩⟩) | (go_at_call 28; refine (r_mulhu _ _ _).mono ?_; rintro e w' ⟨rfl, ⟨m1, rfl⟩⟩) | (go_at_call 30; refine (r_mulh _ _ _).mono ?_; rintro e w' ⟨rfl, ⟨m1, rfl⟩⟩) | (go_at_call 32; refine (r_mulhsu _ _ _).mono ?_; rintro e w' ⟨rfl, ⟨m1, rfl⟩⟩) | (go_at_call 24; refine (r_div _ _ _).mono ?_; rintro e w' ⟨rfl, ⟨m1, rfl⟩⟩) | (go_at_call 20; refine (r_divu _ _ _).mono ?_; rintro e w' ⟨rfl, ⟨m1, rfl⟩⟩) | (go_at_call 26; refine (r_rem _ _ _).mono ?_; rintro e w' ⟨rfl, ⟨m1, rfl⟩⟩) | (go_at_call 22; refine (r_remu _ _ _).mono ?_; rintro e w' ⟨rfl, ⟨m1, rfl⟩⟩) | (go_at_call 44; refine (r_product _ _ _).mono ?_; rintro e w' ⟨rfl, ⟨m1, rfl⟩⟩) | (go_at_call 53; refine (r_less _ _ _).mono ?_; rw [t0]; rintro e w' ⟨rfl, ⟨m3, rfl⟩⟩) | go_in)
    go_ret2
    exact ⟨rfl, by repeat (first | exact Drawn0.refl _ | apply Drawn0.step)⟩
  · have t0 : decide (a.toInt < b.toInt) = false := decide_eq_false hc
    rw [t0, ← U_tr_f]
    go_enter Try.func35, Try.ntmps35
    go_wp2_with (first | (go_at_call 16; refine (rsext32 _ _).mono ?_; rintro e w' ⟨rfl, ⟨m2, rfl⟩⟩) | (go_at_call 28; refine (r_mulhu _ _ _).mono ?_; rintro e w' ⟨rfl, ⟨m1, rfl⟩⟩) | (go_at_call 30; refine (r_mulh _ _ _).mono ?_; rintro e w' ⟨rfl, ⟨m1, rfl⟩⟩) | (go_at_call 32; refine (r_mulhsu _ _ _).mono ?_; rintro e w' ⟨rfl, ⟨m1, rfl⟩⟩) | (go_at_call 24; refine (r_div _ _ _).mono ?_; rintro e w' ⟨rfl, ⟨m1, rfl⟩⟩) | (go_at_call 20; refine (r_divu _ _ _).mono ?_; rintro e w' ⟨rfl, ⟨m1, rfl⟩⟩) | (go_at_call 26; refine (r_rem _ _ _).mono ?_; rintro e w' ⟨rfl, ⟨m1, rfl⟩⟩) | (go_at_call 22; refine (r_remu _ _ _).mono ?_; rintro e w' ⟨rfl, ⟨m1, rfl⟩⟩) | (go_at_call 44; refine (r_product _ _ _).mono ?_; rintro e w' ⟨rfl, ⟨m1, rfl⟩⟩) | (go_at_call 53; refine (r_less _ _ _).mono ?_; rw [t0]; rintro e w' ⟨rfl, ⟨m3, rfl⟩⟩) | go_in)
    go_ret2
    exact ⟨rfl, by repeat (first | exact Drawn0.refl _ | apply Drawn0.step)⟩
set_option maxHeartbeats 1000000 in
theorem rdo_35 (a b : BitVec 64) (w : World) : Calls Try.prog 35 #[.int .i64 35, .int .u64 (U a), .int .u64 (U b)] w fun e w' => e = .returned (.tuple #[.int .u64 (U (tr (decide (U a < U b)))), .bool true]) ∧ Drawn0 w w' := by
  have h63 := U_64 b
  have h31 := U_32 b
  have g63 : b.toNat % 64 ≤ 63 := by omega
  have g31 : b.toNat % 32 ≤ 31 := by omega
  have hla := U_lw a
  have hlb := U_lw b
  by_cases hc : U a < U b
  · have t0 : decide (U a < U b) = true := decide_eq_true hc
    rw [t0, ← U_tr_t]
    go_enter Try.func35, Try.ntmps35
    go_wp2_with (first | (go_at_call 16; refine (rsext32 _ _).mono ?_; rintro e w' ⟨rfl, ⟨m2, rfl⟩⟩) | (go_at_call 28; refine (r_mulhu _ _ _).mono ?_; rintro e w' ⟨rfl, ⟨m1, rfl⟩⟩) | (go_at_call 30; refine (r_mulh _ _ _).mono ?_; rintro e w' ⟨rfl, ⟨m1, rfl⟩⟩) | (go_at_call 32; refine (r_mulhsu _ _ _).mono ?_; rintro e w' ⟨rfl, ⟨m1, rfl⟩⟩) | (go_at_call 24; refine (r_div _ _ _).mono ?_; rintro e w' ⟨rfl, ⟨m1, rfl⟩⟩) | (go_at_call 20; refine (r_divu _ _ _).mono ?_; rintro e w' ⟨rfl, ⟨m1, rfl⟩⟩) | (go_at_call 26; refine (r_rem _ _ _).mono ?_; rintro e w' ⟨rfl, ⟨m1, rfl⟩⟩) | (go_at_call 22; refine (r_remu _ _ _).mono ?_; rintro e w' ⟨rfl, ⟨m1, rfl⟩⟩) | (go_at_call 44; refine (r_product _ _ _).mono ?_; rintro e w' ⟨rfl, ⟨m1, rfl⟩⟩) | go_in)
    go_ret2
    exact ⟨rfl, by repeat (first | exact Drawn0.refl _ | apply Drawn0.step)⟩
  · have t0 : decide (U a < U b) = false := decide_eq_false hc
    rw [t0, ← U_tr_f]
    go_enter Try.func35, Try.ntmps35
    go_wp2_with (first | (go_at_call 16; refine (rsext32 _ _).mono ?_; rintro e w' ⟨rfl, ⟨m2, rfl⟩⟩) | (go_at_call 28; refine (r_mulhu _ _ _).mono ?_; rintro e w' ⟨rfl, ⟨m1, rfl⟩⟩) | (go_at_call 30; refine (r_mulh _ _ _).mono ?_; rintro e w' ⟨rfl, ⟨m1, rfl⟩⟩) | (go_at_call 32; refine (r_mulhsu _ _ _).mono ?_; rintro e w' ⟨rfl, ⟨m1, rfl⟩⟩) | (go_at_call 24; refine (r_div _ _ _).mono ?_; rintro e w' ⟨rfl, ⟨m1, rfl⟩⟩) | (go_at_call 20; refine (r_divu _ _ _).mono ?_; rintro e w' ⟨rfl, ⟨m1, rfl⟩⟩) | (go_at_call 26; refine (r_rem _ _ _).mono ?_; rintro e w' ⟨rfl, ⟨m1, rfl⟩⟩) | (go_at_call 22; refine (r_remu _ _ _).mono ?_; rintro e w' ⟨rfl, ⟨m1, rfl⟩⟩) | (go_at_call 44; refine (r_product _ _ _).mono ?_; rintro e w' ⟨rfl, ⟨m1, rfl⟩⟩) | go_in)
    go_ret2
    exact ⟨rfl, by repeat (first | exact Drawn0.refl _ | apply Drawn0.step)⟩
set_option maxHeartbeats 1000000 in
theorem rdo_36 (a b : BitVec 64) (w : World) : Calls Try.prog 35 #[.int .i64 36, .int .u64 (U a), .int .u64 (U b)] w fun e w' => e = .returned (.tuple #[.int .u64 (U (a ^^^ b)), .bool true]) ∧ Drawn0 w w' := by
  have h63 := U_64 b
  have h31 := U_32 b
  have g63 : b.toNat % 64 ≤ 63 := by omega
  have g31 : b.toNat % 32 ≤ 31 := by omega
  have hla := U_lw a
  have hlb := U_lw b
  go_enter Try.func35, Try.ntmps35
  go_wp2_with (first | (go_at_call 16; refine (rsext32 _ _).mono ?_; rintro e w' ⟨rfl, ⟨m2, rfl⟩⟩) | (go_at_call 28; refine (r_mulhu _ _ _).mono ?_; rintro e w' ⟨rfl, ⟨m1, rfl⟩⟩) | (go_at_call 30; refine (r_mulh _ _ _).mono ?_; rintro e w' ⟨rfl, ⟨m1, rfl⟩⟩) | (go_at_call 32; refine (r_mulhsu _ _ _).mono ?_; rintro e w' ⟨rfl, ⟨m1, rfl⟩⟩) | (go_at_call 24; refine (r_div _ _ _).mono ?_; rintro e w' ⟨rfl, ⟨m1, rfl⟩⟩) | (go_at_call 20; refine (r_divu _ _ _).mono ?_; rintro e w' ⟨rfl, ⟨m1, rfl⟩⟩) | (go_at_call 26; refine (r_rem _ _ _).mono ?_; rintro e w' ⟨rfl, ⟨m1, rfl⟩⟩) | (go_at_call 22; refine (r_remu _ _ _).mono ?_; rintro e w' ⟨rfl, ⟨m1, rfl⟩⟩) | (go_at_call 44; refine (r_product _ _ _).mono ?_; rintro e w' ⟨rfl, ⟨m1, rfl⟩⟩) | go_in)
  go_ret2
  exact ⟨rfl, by repeat (first | exact Drawn0.refl _ | apply Drawn0.step)⟩
set_option maxHeartbeats 1000000 in
theorem rdo_37 (a b : BitVec 64) (w : World) : Calls Try.prog 35 #[.int .i64 37, .int .u64 (U a), .int .u64 (U b)] w fun e w' => e = .returned (.tuple #[.int .u64 (U (rgt a 0#64 (b.toNat % 64))), .bool true]) ∧ Drawn0 w w' := by
  have h63 := U_64 b
  have h31 := U_32 b
  have g63 : b.toNat % 64 ≤ 63 := by omega
  have g31 : b.toNat % 32 ≤ 31 := by omega
  have hla := U_lw a
  have hlb := U_lw b
  go_enter Try.func35, Try.ntmps35
  go_wp2_with (first | (go_at_call 16; refine (rsext32 _ _).mono ?_; rintro e w' ⟨rfl, ⟨m2, rfl⟩⟩) | (go_at_call 28; refine (r_mulhu _ _ _).mono ?_; rintro e w' ⟨rfl, ⟨m1, rfl⟩⟩) | (go_at_call 30; refine (r_mulh _ _ _).mono ?_; rintro e w' ⟨rfl, ⟨m1, rfl⟩⟩) | (go_at_call 32; refine (r_mulhsu _ _ _).mono ?_; rintro e w' ⟨rfl, ⟨m1, rfl⟩⟩) | (go_at_call 24; refine (r_div _ _ _).mono ?_; rintro e w' ⟨rfl, ⟨m1, rfl⟩⟩) | (go_at_call 20; refine (r_divu _ _ _).mono ?_; rintro e w' ⟨rfl, ⟨m1, rfl⟩⟩) | (go_at_call 26; refine (r_rem _ _ _).mono ?_; rintro e w' ⟨rfl, ⟨m1, rfl⟩⟩) | (go_at_call 22; refine (r_remu _ _ _).mono ?_; rintro e w' ⟨rfl, ⟨m1, rfl⟩⟩) | (go_at_call 44; refine (r_product _ _ _).mono ?_; rintro e w' ⟨rfl, ⟨m1, rfl⟩⟩) | (go_at_call 54; refine (r_right0 _ _ g63 _).mono ?_; rintro e w' ⟨rfl, ⟨m4, rfl⟩⟩) | go_in)
  go_ret2
  exact ⟨rfl, by repeat (first | exact Drawn0.refl _ | apply Drawn0.step)⟩
set_option maxHeartbeats 1000000 in
theorem rdo_38 (a b : BitVec 64) (w : World) : Calls Try.prog 35 #[.int .i64 38, .int .u64 (U a), .int .u64 (U b)] w fun e w' => e = .returned (.tuple #[.int .u64 (U (rgt a (SgHand.bt1 a 63) (b.toNat % 64))), .bool true]) ∧ Drawn0 w w' := by
  have h63 := U_64 b
  have h31 := U_32 b
  have g63 : b.toNat % 64 ≤ 63 := by omega
  have g31 : b.toNat % 32 ≤ 31 := by omega
  have hla := U_lw a
  have hlb := U_lw b
  go_enter Try.func35, Try.ntmps35
  go_wp2_with (first | (go_at_call 16; refine (rsext32 _ _).mono ?_; rintro e w' ⟨rfl, ⟨m2, rfl⟩⟩) | (go_at_call 28; refine (r_mulhu _ _ _).mono ?_; rintro e w' ⟨rfl, ⟨m1, rfl⟩⟩) | (go_at_call 30; refine (r_mulh _ _ _).mono ?_; rintro e w' ⟨rfl, ⟨m1, rfl⟩⟩) | (go_at_call 32; refine (r_mulhsu _ _ _).mono ?_; rintro e w' ⟨rfl, ⟨m1, rfl⟩⟩) | (go_at_call 24; refine (r_div _ _ _).mono ?_; rintro e w' ⟨rfl, ⟨m1, rfl⟩⟩) | (go_at_call 20; refine (r_divu _ _ _).mono ?_; rintro e w' ⟨rfl, ⟨m1, rfl⟩⟩) | (go_at_call 26; refine (r_rem _ _ _).mono ?_; rintro e w' ⟨rfl, ⟨m1, rfl⟩⟩) | (go_at_call 22; refine (r_remu _ _ _).mono ?_; rintro e w' ⟨rfl, ⟨m1, rfl⟩⟩) | (go_at_call 44; refine (r_product _ _ _).mono ?_; rintro e w' ⟨rfl, ⟨m1, rfl⟩⟩) | (go_at_call 39; refine (r_bit63 _ _).mono ?_; rintro e w' ⟨rfl, ⟨m5, rfl⟩⟩) | (go_at_call 54; refine (r_right _ _ _ g63 _).mono ?_; rintro e w' ⟨rfl, ⟨m4, rfl⟩⟩) | go_in)
  go_ret2
  exact ⟨rfl, by repeat (first | exact Drawn0.refl _ | apply Drawn0.step)⟩
set_option maxHeartbeats 1000000 in
theorem rdo_39 (a b : BitVec 64) (w : World) : Calls Try.prog 35 #[.int .i64 39, .int .u64 (U a), .int .u64 (U b)] w fun e w' => e = .returned (.tuple #[.int .u64 (U (a ||| b)), .bool true]) ∧ Drawn0 w w' := by
  have h63 := U_64 b
  have h31 := U_32 b
  have g63 : b.toNat % 64 ≤ 63 := by omega
  have g31 : b.toNat % 32 ≤ 31 := by omega
  have hla := U_lw a
  have hlb := U_lw b
  go_enter Try.func35, Try.ntmps35
  go_wp2_with (first | (go_at_call 16; refine (rsext32 _ _).mono ?_; rintro e w' ⟨rfl, ⟨m2, rfl⟩⟩) | (go_at_call 28; refine (r_mulhu _ _ _).mono ?_; rintro e w' ⟨rfl, ⟨m1, rfl⟩⟩) | (go_at_call 30; refine (r_mulh _ _ _).mono ?_; rintro e w' ⟨rfl, ⟨m1, rfl⟩⟩) | (go_at_call 32; refine (r_mulhsu _ _ _).mono ?_; rintro e w' ⟨rfl, ⟨m1, rfl⟩⟩) | (go_at_call 24; refine (r_div _ _ _).mono ?_; rintro e w' ⟨rfl, ⟨m1, rfl⟩⟩) | (go_at_call 20; refine (r_divu _ _ _).mono ?_; rintro e w' ⟨rfl, ⟨m1, rfl⟩⟩) | (go_at_call 26; refine (r_rem _ _ _).mono ?_; rintro e w' ⟨rfl, ⟨m1, rfl⟩⟩) | (go_at_call 22; refine (r_remu _ _ _).mono ?_; rintro e w' ⟨rfl, ⟨m1, rfl⟩⟩) | (go_at_call 44; refine (r_product _ _ _).mono ?_; rintro e w' ⟨rfl, ⟨m1, rfl⟩⟩) | go_in)
  go_ret2
  exact ⟨rfl, by repeat (first | exact Drawn0.refl _ | apply Drawn0.step)⟩
set_option maxHeartbeats 1000000 in
theorem rdo_40 (a b : BitVec 64) (w : World) : Calls Try.prog 35 #[.int .i64 40, .int .u64 (U a), .int .u64 (U b)] w fun e w' => e = .returned (.tuple #[.int .u64 (U (a &&& b)), .bool true]) ∧ Drawn0 w w' := by
  have h63 := U_64 b
  have h31 := U_32 b
  have g63 : b.toNat % 64 ≤ 63 := by omega
  have g31 : b.toNat % 32 ≤ 31 := by omega
  have hla := U_lw a
  have hlb := U_lw b
  go_enter Try.func35, Try.ntmps35
  go_wp2_with (first | (go_at_call 16; refine (rsext32 _ _).mono ?_; rintro e w' ⟨rfl, ⟨m2, rfl⟩⟩) | (go_at_call 28; refine (r_mulhu _ _ _).mono ?_; rintro e w' ⟨rfl, ⟨m1, rfl⟩⟩) | (go_at_call 30; refine (r_mulh _ _ _).mono ?_; rintro e w' ⟨rfl, ⟨m1, rfl⟩⟩) | (go_at_call 32; refine (r_mulhsu _ _ _).mono ?_; rintro e w' ⟨rfl, ⟨m1, rfl⟩⟩) | (go_at_call 24; refine (r_div _ _ _).mono ?_; rintro e w' ⟨rfl, ⟨m1, rfl⟩⟩) | (go_at_call 20; refine (r_divu _ _ _).mono ?_; rintro e w' ⟨rfl, ⟨m1, rfl⟩⟩) | (go_at_call 26; refine (r_rem _ _ _).mono ?_; rintro e w' ⟨rfl, ⟨m1, rfl⟩⟩) | (go_at_call 22; refine (r_remu _ _ _).mono ?_; rintro e w' ⟨rfl, ⟨m1, rfl⟩⟩) | (go_at_call 44; refine (r_product _ _ _).mono ?_; rintro e w' ⟨rfl, ⟨m1, rfl⟩⟩) | go_in)
  go_ret2
  exact ⟨rfl, by repeat (first | exact Drawn0.refl _ | apply Drawn0.step)⟩
set_option maxHeartbeats 1000000 in
theorem rdo_41 (a b : BitVec 64) (w : World) : Calls Try.prog 35 #[.int .i64 41, .int .u64 (U a), .int .u64 (U b)] w fun e w' => e = .returned (.tuple #[.int .u64 (U (sx (low a + low b) 32)), .bool true]) ∧ Drawn0 w w' := by
  have h63 := U_64 b
  have h31 := U_32 b
  have g63 : b.toNat % 64 ≤ 63 := by omega
  have g31 : b.toNat % 32 ≤ 31 := by omega
  have hla := U_lw a
  have hlb := U_lw b
  go_enter Try.func35, Try.ntmps35
  go_wp2_with (first | (go_at_call 16; refine (rsext32 _ _).mono ?_; rintro e w' ⟨rfl, ⟨m2, rfl⟩⟩) | (go_at_call 28; refine (r_mulhu _ _ _).mono ?_; rintro e w' ⟨rfl, ⟨m1, rfl⟩⟩) | (go_at_call 30; refine (r_mulh _ _ _).mono ?_; rintro e w' ⟨rfl, ⟨m1, rfl⟩⟩) | (go_at_call 32; refine (r_mulhsu _ _ _).mono ?_; rintro e w' ⟨rfl, ⟨m1, rfl⟩⟩) | (go_at_call 24; refine (r_div _ _ _).mono ?_; rintro e w' ⟨rfl, ⟨m1, rfl⟩⟩) | (go_at_call 20; refine (r_divu _ _ _).mono ?_; rintro e w' ⟨rfl, ⟨m1, rfl⟩⟩) | (go_at_call 26; refine (r_rem _ _ _).mono ?_; rintro e w' ⟨rfl, ⟨m1, rfl⟩⟩) | (go_at_call 22; refine (r_remu _ _ _).mono ?_; rintro e w' ⟨rfl, ⟨m1, rfl⟩⟩) | (go_at_call 44; refine (r_product _ _ _).mono ?_; rintro e w' ⟨rfl, ⟨m1, rfl⟩⟩) | go_in)
  go_ret2
  exact ⟨rfl, by repeat (first | exact Drawn0.refl _ | apply Drawn0.step)⟩
set_option maxHeartbeats 1000000 in
theorem rdo_42 (a b : BitVec 64) (w : World) : Calls Try.prog 35 #[.int .i64 42, .int .u64 (U a), .int .u64 (U b)] w fun e w' => e = .returned (.tuple #[.int .u64 (U (sx (low a <<< (b.toNat % 32)) 32)), .bool true]) ∧ Drawn0 w w' := by
  have h63 := U_64 b
  have h31 := U_32 b
  have g63 : b.toNat % 64 ≤ 63 := by omega
  have g31 : b.toNat % 32 ≤ 31 := by omega
  have hla := U_lw a
  have hlb := U_lw b
  go_enter Try.func35, Try.ntmps35
  go_wp2_with (first | (go_at_call 16; refine (rsext32 _ _).mono ?_; rintro e w' ⟨rfl, ⟨m2, rfl⟩⟩) | (go_at_call 28; refine (r_mulhu _ _ _).mono ?_; rintro e w' ⟨rfl, ⟨m1, rfl⟩⟩) | (go_at_call 30; refine (r_mulh _ _ _).mono ?_; rintro e w' ⟨rfl, ⟨m1, rfl⟩⟩) | (go_at_call 32; refine (r_mulhsu _ _ _).mono ?_; rintro e w' ⟨rfl, ⟨m1, rfl⟩⟩) | (go_at_call 24; refine (r_div _ _ _).mono ?_; rintro e w' ⟨rfl, ⟨m1, rfl⟩⟩) | (go_at_call 20; refine (r_divu _ _ _).mono ?_; rintro e w' ⟨rfl, ⟨m1, rfl⟩⟩) | (go_at_call 26; refine (r_rem _ _ _).mono ?_; rintro e w' ⟨rfl, ⟨m1, rfl⟩⟩) | (go_at_call 22; refine (r_remu _ _ _).mono ?_; rintro e w' ⟨rfl, ⟨m1, rfl⟩⟩) | (go_at_call 44; refine (r_product _ _ _).mono ?_; rintro e w' ⟨rfl, ⟨m1, rfl⟩⟩) | go_in)
  go_ret2
  exact ⟨rfl, by repeat (first | exact Drawn0.refl _ | apply Drawn0.step)⟩
set_option maxHeartbeats 1000000 in
theorem rdo_43 (a b : BitVec 64) (w : World) : Calls Try.prog 35 #[.int .i64 43, .int .u64 (U a), .int .u64 (U b)] w fun e w' => e = .returned (.tuple #[.int .u64 (U (sx (low a >>> (b.toNat % 32)) 32)), .bool true]) ∧ Drawn0 w w' := by
  have h63 := U_64 b
  have h31 := U_32 b
  have g63 : b.toNat % 64 ≤ 63 := by omega
  have g31 : b.toNat % 32 ≤ 31 := by omega
  have hla := U_lw a
  have hlb := U_lw b
  go_enter Try.func35, Try.ntmps35
  go_wp2_with (first | (go_at_call 16; refine (rsext32 _ _).mono ?_; rintro e w' ⟨rfl, ⟨m2, rfl⟩⟩) | (go_at_call 28; refine (r_mulhu _ _ _).mono ?_; rintro e w' ⟨rfl, ⟨m1, rfl⟩⟩) | (go_at_call 30; refine (r_mulh _ _ _).mono ?_; rintro e w' ⟨rfl, ⟨m1, rfl⟩⟩) | (go_at_call 32; refine (r_mulhsu _ _ _).mono ?_; rintro e w' ⟨rfl, ⟨m1, rfl⟩⟩) | (go_at_call 24; refine (r_div _ _ _).mono ?_; rintro e w' ⟨rfl, ⟨m1, rfl⟩⟩) | (go_at_call 20; refine (r_divu _ _ _).mono ?_; rintro e w' ⟨rfl, ⟨m1, rfl⟩⟩) | (go_at_call 26; refine (r_rem _ _ _).mono ?_; rintro e w' ⟨rfl, ⟨m1, rfl⟩⟩) | (go_at_call 22; refine (r_remu _ _ _).mono ?_; rintro e w' ⟨rfl, ⟨m1, rfl⟩⟩) | (go_at_call 44; refine (r_product _ _ _).mono ?_; rintro e w' ⟨rfl, ⟨m1, rfl⟩⟩) | go_in)
  go_ret2
  exact ⟨rfl, by repeat (first | exact Drawn0.refl _ | apply Drawn0.step)⟩
set_option maxHeartbeats 1000000 in
theorem rdo_44 (a b : BitVec 64) (w : World) : Calls Try.prog 35 #[.int .i64 44, .int .u64 (U a), .int .u64 (U b)] w fun e w' => e = .returned (.tuple #[.int .u64 (U (rgt (sx (low a) 32) (SgHand.bt1 (low a) 31) (b.toNat % 32))), .bool true]) ∧ Drawn0 w w' := by
  have h63 := U_64 b
  have h31 := U_32 b
  have g63 : b.toNat % 64 ≤ 63 := by omega
  have g31 : b.toNat % 32 ≤ 31 := by omega
  have hla := U_lw a
  have hlb := U_lw b
  go_enter Try.func35, Try.ntmps35
  go_wp2_with (first | (go_at_call 16; refine (rsext32 _ _).mono ?_; rintro e w' ⟨rfl, ⟨m2, rfl⟩⟩) | (go_at_call 28; refine (r_mulhu _ _ _).mono ?_; rintro e w' ⟨rfl, ⟨m1, rfl⟩⟩) | (go_at_call 30; refine (r_mulh _ _ _).mono ?_; rintro e w' ⟨rfl, ⟨m1, rfl⟩⟩) | (go_at_call 32; refine (r_mulhsu _ _ _).mono ?_; rintro e w' ⟨rfl, ⟨m1, rfl⟩⟩) | (go_at_call 24; refine (r_div _ _ _).mono ?_; rintro e w' ⟨rfl, ⟨m1, rfl⟩⟩) | (go_at_call 20; refine (r_divu _ _ _).mono ?_; rintro e w' ⟨rfl, ⟨m1, rfl⟩⟩) | (go_at_call 26; refine (r_rem _ _ _).mono ?_; rintro e w' ⟨rfl, ⟨m1, rfl⟩⟩) | (go_at_call 22; refine (r_remu _ _ _).mono ?_; rintro e w' ⟨rfl, ⟨m1, rfl⟩⟩) | (go_at_call 44; refine (r_product _ _ _).mono ?_; rintro e w' ⟨rfl, ⟨m1, rfl⟩⟩) | (go_at_call 39; refine (r_bit31 _ _).mono ?_; rintro e w' ⟨rfl, ⟨m5, rfl⟩⟩) | (go_at_call 54; refine (r_right _ _ _ (Nat.le_trans g31 (by decide)) _).mono ?_; rintro e w' ⟨rfl, ⟨m4, rfl⟩⟩) | go_in)
  go_ret2
  exact ⟨rfl, by repeat (first | exact Drawn0.refl _ | apply Drawn0.step)⟩
set_option maxHeartbeats 1000000 in
theorem rdo_45 (a b : BitVec 64) (w : World) : Calls Try.prog 35 #[.int .i64 45, .int .u64 (U a), .int .u64 (U b)] w fun e w' => e = .returned (.tuple #[.int .u64 (U (sx (low a + low b) 32)), .bool true]) ∧ Drawn0 w w' := by
  have h63 := U_64 b
  have h31 := U_32 b
  have g63 : b.toNat % 64 ≤ 63 := by omega
  have g31 : b.toNat % 32 ≤ 31 := by omega
  have hla := U_lw a
  have hlb := U_lw b
  go_enter Try.func35, Try.ntmps35
  go_wp2_with (first | (go_at_call 16; refine (rsext32 _ _).mono ?_; rintro e w' ⟨rfl, ⟨m2, rfl⟩⟩) | (go_at_call 28; refine (r_mulhu _ _ _).mono ?_; rintro e w' ⟨rfl, ⟨m1, rfl⟩⟩) | (go_at_call 30; refine (r_mulh _ _ _).mono ?_; rintro e w' ⟨rfl, ⟨m1, rfl⟩⟩) | (go_at_call 32; refine (r_mulhsu _ _ _).mono ?_; rintro e w' ⟨rfl, ⟨m1, rfl⟩⟩) | (go_at_call 24; refine (r_div _ _ _).mono ?_; rintro e w' ⟨rfl, ⟨m1, rfl⟩⟩) | (go_at_call 20; refine (r_divu _ _ _).mono ?_; rintro e w' ⟨rfl, ⟨m1, rfl⟩⟩) | (go_at_call 26; refine (r_rem _ _ _).mono ?_; rintro e w' ⟨rfl, ⟨m1, rfl⟩⟩) | (go_at_call 22; refine (r_remu _ _ _).mono ?_; rintro e w' ⟨rfl, ⟨m1, rfl⟩⟩) | (go_at_call 44; refine (r_product _ _ _).mono ?_; rintro e w' ⟨rfl, ⟨m1, rfl⟩⟩) | go_in)
  go_ret2
  exact ⟨rfl, by repeat (first | exact Drawn0.refl _ | apply Drawn0.step)⟩
set_option maxHeartbeats 1000000 in
theorem rdo_46 (a b : BitVec 64) (w : World) : Calls Try.prog 35 #[.int .i64 46, .int .u64 (U a), .int .u64 (U b)] w fun e w' => e = .returned (.tuple #[.int .u64 (U (sx (low a - low b) 32)), .bool true]) ∧ Drawn0 w w' := by
  have h63 := U_64 b
  have h31 := U_32 b
  have g63 : b.toNat % 64 ≤ 63 := by omega
  have g31 : b.toNat % 32 ≤ 31 := by omega
  have hla := U_lw a
  have hlb := U_lw b
  go_enter Try.func35, Try.ntmps35
  go_wp2_with (first | (go_at_call 16; refine (rsext32 _ _).mono ?_; rintro e w' ⟨rfl, ⟨m2, rfl⟩⟩) | (go_at_call 28; refine (r_mulhu _ _ _).mono ?_; rintro e w' ⟨rfl, ⟨m1, rfl⟩⟩) | (go_at_call 30; refine (r_mulh _ _ _).mono ?_; rintro e w' ⟨rfl, ⟨m1, rfl⟩⟩) | (go_at_call 32; refine (r_mulhsu _ _ _).mono ?_; rintro e w' ⟨rfl, ⟨m1, rfl⟩⟩) | (go_at_call 24; refine (r_div _ _ _).mono ?_; rintro e w' ⟨rfl, ⟨m1, rfl⟩⟩) | (go_at_call 20; refine (r_divu _ _ _).mono ?_; rintro e w' ⟨rfl, ⟨m1, rfl⟩⟩) | (go_at_call 26; refine (r_rem _ _ _).mono ?_; rintro e w' ⟨rfl, ⟨m1, rfl⟩⟩) | (go_at_call 22; refine (r_remu _ _ _).mono ?_; rintro e w' ⟨rfl, ⟨m1, rfl⟩⟩) | (go_at_call 44; refine (r_product _ _ _).mono ?_; rintro e w' ⟨rfl, ⟨m1, rfl⟩⟩) | go_in)
  go_ret2
  exact ⟨rfl, by repeat (first | exact Drawn0.refl _ | apply Drawn0.step)⟩
set_option maxHeartbeats 1000000 in
theorem rdo_47 (a b : BitVec 64) (w : World) : Calls Try.prog 35 #[.int .i64 47, .int .u64 (U a), .int .u64 (U b)] w fun e w' => e = .returned (.tuple #[.int .u64 (U (sx (low a <<< (b.toNat % 32)) 32)), .bool true]) ∧ Drawn0 w w' := by
  have h63 := U_64 b
  have h31 := U_32 b
  have g63 : b.toNat % 64 ≤ 63 := by omega
  have g31 : b.toNat % 32 ≤ 31 := by omega
  have hla := U_lw a
  have hlb := U_lw b
  go_enter Try.func35, Try.ntmps35
  go_wp2_with (first | (go_at_call 16; refine (rsext32 _ _).mono ?_; rintro e w' ⟨rfl, ⟨m2, rfl⟩⟩) | (go_at_call 28; refine (r_mulhu _ _ _).mono ?_; rintro e w' ⟨rfl, ⟨m1, rfl⟩⟩) | (go_at_call 30; refine (r_mulh _ _ _).mono ?_; rintro e w' ⟨rfl, ⟨m1, rfl⟩⟩) | (go_at_call 32; refine (r_mulhsu _ _ _).mono ?_; rintro e w' ⟨rfl, ⟨m1, rfl⟩⟩) | (go_at_call 24; refine (r_div _ _ _).mono ?_; rintro e w' ⟨rfl, ⟨m1, rfl⟩⟩) | (go_at_call 20; refine (r_divu _ _ _).mono ?_; rintro e w' ⟨rfl, ⟨m1, rfl⟩⟩) | (go_at_call 26; refine (r_rem _ _ _).mono ?_; rintro e w' ⟨rfl, ⟨m1, rfl⟩⟩) | (go_at_call 22; refine (r_remu _ _ _).mono ?_; rintro e w' ⟨rfl, ⟨m1, rfl⟩⟩) | (go_at_call 44; refine (r_product _ _ _).mono ?_; rintro e w' ⟨rfl, ⟨m1, rfl⟩⟩) | go_in)
  go_ret2
  exact ⟨rfl, by repeat (first | exact Drawn0.refl _ | apply Drawn0.step)⟩
set_option maxHeartbeats 1000000 in
theorem rdo_48 (a b : BitVec 64) (w : World) : Calls Try.prog 35 #[.int .i64 48, .int .u64 (U a), .int .u64 (U b)] w fun e w' => e = .returned (.tuple #[.int .u64 (U (sx (low a >>> (b.toNat % 32)) 32)), .bool true]) ∧ Drawn0 w w' := by
  have h63 := U_64 b
  have h31 := U_32 b
  have g63 : b.toNat % 64 ≤ 63 := by omega
  have g31 : b.toNat % 32 ≤ 31 := by omega
  have hla := U_lw a
  have hlb := U_lw b
  go_enter Try.func35, Try.ntmps35
  go_wp2_with (first | (go_at_call 16; refine (rsext32 _ _).mono ?_; rintro e w' ⟨rfl, ⟨m2, rfl⟩⟩) | (go_at_call 28; refine (r_mulhu _ _ _).mono ?_; rintro e w' ⟨rfl, ⟨m1, rfl⟩⟩) | (go_at_call 30; refine (r_mulh _ _ _).mono ?_; rintro e w' ⟨rfl, ⟨m1, rfl⟩⟩) | (go_at_call 32; refine (r_mulhsu _ _ _).mono ?_; rintro e w' ⟨rfl, ⟨m1, rfl⟩⟩) | (go_at_call 24; refine (r_div _ _ _).mono ?_; rintro e w' ⟨rfl, ⟨m1, rfl⟩⟩) | (go_at_call 20; refine (r_divu _ _ _).mono ?_; rintro e w' ⟨rfl, ⟨m1, rfl⟩⟩) | (go_at_call 26; refine (r_rem _ _ _).mono ?_; rintro e w' ⟨rfl, ⟨m1, rfl⟩⟩) | (go_at_call 22; refine (r_remu _ _ _).mono ?_; rintro e w' ⟨rfl, ⟨m1, rfl⟩⟩) | (go_at_call 44; refine (r_product _ _ _).mono ?_; rintro e w' ⟨rfl, ⟨m1, rfl⟩⟩) | go_in)
  go_ret2
  exact ⟨rfl, by repeat (first | exact Drawn0.refl _ | apply Drawn0.step)⟩
set_option maxHeartbeats 1000000 in
theorem rdo_49 (a b : BitVec 64) (w : World) : Calls Try.prog 35 #[.int .i64 49, .int .u64 (U a), .int .u64 (U b)] w fun e w' => e = .returned (.tuple #[.int .u64 (U (rgt (sx (low a) 32) (SgHand.bt1 (low a) 31) (b.toNat % 32))), .bool true]) ∧ Drawn0 w w' := by
  have h63 := U_64 b
  have h31 := U_32 b
  have g63 : b.toNat % 64 ≤ 63 := by omega
  have g31 : b.toNat % 32 ≤ 31 := by omega
  have hla := U_lw a
  have hlb := U_lw b
  go_enter Try.func35, Try.ntmps35
  go_wp2_with (first | (go_at_call 16; refine (rsext32 _ _).mono ?_; rintro e w' ⟨rfl, ⟨m2, rfl⟩⟩) | (go_at_call 28; refine (r_mulhu _ _ _).mono ?_; rintro e w' ⟨rfl, ⟨m1, rfl⟩⟩) | (go_at_call 30; refine (r_mulh _ _ _).mono ?_; rintro e w' ⟨rfl, ⟨m1, rfl⟩⟩) | (go_at_call 32; refine (r_mulhsu _ _ _).mono ?_; rintro e w' ⟨rfl, ⟨m1, rfl⟩⟩) | (go_at_call 24; refine (r_div _ _ _).mono ?_; rintro e w' ⟨rfl, ⟨m1, rfl⟩⟩) | (go_at_call 20; refine (r_divu _ _ _).mono ?_; rintro e w' ⟨rfl, ⟨m1, rfl⟩⟩) | (go_at_call 26; refine (r_rem _ _ _).mono ?_; rintro e w' ⟨rfl, ⟨m1, rfl⟩⟩) | (go_at_call 22; refine (r_remu _ _ _).mono ?_; rintro e w' ⟨rfl, ⟨m1, rfl⟩⟩) | (go_at_call 44; refine (r_product _ _ _).mono ?_; rintro e w' ⟨rfl, ⟨m1, rfl⟩⟩) | (go_at_call 39; refine (r_bit31 _ _).mono ?_; rintro e w' ⟨rfl, ⟨m5, rfl⟩⟩) | (go_at_call 54; refine (r_right _ _ _ (Nat.le_trans g31 (by decide)) _).mono ?_; rintro e w' ⟨rfl, ⟨m4, rfl⟩⟩) | go_in)
  go_ret2
  exact ⟨rfl, by repeat (first | exact Drawn0.refl _ | apply Drawn0.step)⟩
set_option maxHeartbeats 1000000 in
theorem rdo_50 (a b : BitVec 64) (w : World) : Calls Try.prog 35 #[.int .i64 50, .int .u64 (U a), .int .u64 (U b)] w fun e w' => e = .returned (.tuple #[.int .u64 (U (a * b)), .bool true]) ∧ Drawn0 w w' := by
  have h63 := U_64 b
  have h31 := U_32 b
  have g63 : b.toNat % 64 ≤ 63 := by omega
  have g31 : b.toNat % 32 ≤ 31 := by omega
  have hla := U_lw a
  have hlb := U_lw b
  go_enter Try.func35, Try.ntmps35
  go_wp2_with (first | (go_at_call 16; refine (rsext32 _ _).mono ?_; rintro e w' ⟨rfl, ⟨m2, rfl⟩⟩) | (go_at_call 28; refine (r_mulhu _ _ _).mono ?_; rintro e w' ⟨rfl, ⟨m1, rfl⟩⟩) | (go_at_call 30; refine (r_mulh _ _ _).mono ?_; rintro e w' ⟨rfl, ⟨m1, rfl⟩⟩) | (go_at_call 32; refine (r_mulhsu _ _ _).mono ?_; rintro e w' ⟨rfl, ⟨m1, rfl⟩⟩) | (go_at_call 24; refine (r_div _ _ _).mono ?_; rintro e w' ⟨rfl, ⟨m1, rfl⟩⟩) | (go_at_call 20; refine (r_divu _ _ _).mono ?_; rintro e w' ⟨rfl, ⟨m1, rfl⟩⟩) | (go_at_call 26; refine (r_rem _ _ _).mono ?_; rintro e w' ⟨rfl, ⟨m1, rfl⟩⟩) | (go_at_call 22; refine (r_remu _ _ _).mono ?_; rintro e w' ⟨rfl, ⟨m1, rfl⟩⟩) | (go_at_call 44; refine (r_product _ _ _).mono ?_; rintro e w' ⟨rfl, ⟨m1, rfl⟩⟩) | go_in)
  go_ret2
  exact ⟨rfl, by repeat (first | exact Drawn0.refl _ | apply Drawn0.step)⟩
set_option maxHeartbeats 1000000 in
theorem rdo_51 (a b : BitVec 64) (w : World) : Calls Try.prog 35 #[.int .i64 51, .int .u64 (U a), .int .u64 (U b)] w fun e w' => e = .returned (.tuple #[.int .u64 (U (mh a.toInt b.toInt)), .bool true]) ∧ Drawn0 w w' := by
  have h63 := U_64 b
  have h31 := U_32 b
  have g63 : b.toNat % 64 ≤ 63 := by omega
  have g31 : b.toNat % 32 ≤ 31 := by omega
  have hla := U_lw a
  have hlb := U_lw b
  go_enter Try.func35, Try.ntmps35
  go_wp2_with (first | (go_at_call 16; refine (rsext32 _ _).mono ?_; rintro e w' ⟨rfl, ⟨m2, rfl⟩⟩) | (go_at_call 28; refine (r_mulhu _ _ _).mono ?_; rintro e w' ⟨rfl, ⟨m1, rfl⟩⟩) | (go_at_call 30; refine (r_mulh _ _ _).mono ?_; rintro e w' ⟨rfl, ⟨m1, rfl⟩⟩) | (go_at_call 32; refine (r_mulhsu _ _ _).mono ?_; rintro e w' ⟨rfl, ⟨m1, rfl⟩⟩) | (go_at_call 24; refine (r_div _ _ _).mono ?_; rintro e w' ⟨rfl, ⟨m1, rfl⟩⟩) | (go_at_call 20; refine (r_divu _ _ _).mono ?_; rintro e w' ⟨rfl, ⟨m1, rfl⟩⟩) | (go_at_call 26; refine (r_rem _ _ _).mono ?_; rintro e w' ⟨rfl, ⟨m1, rfl⟩⟩) | (go_at_call 22; refine (r_remu _ _ _).mono ?_; rintro e w' ⟨rfl, ⟨m1, rfl⟩⟩) | (go_at_call 44; refine (r_product _ _ _).mono ?_; rintro e w' ⟨rfl, ⟨m1, rfl⟩⟩) | go_in)
  go_ret2
  exact ⟨rfl, by repeat (first | exact Drawn0.refl _ | apply Drawn0.step)⟩
set_option maxHeartbeats 1000000 in
theorem rdo_52 (a b : BitVec 64) (w : World) : Calls Try.prog 35 #[.int .i64 52, .int .u64 (U a), .int .u64 (U b)] w fun e w' => e = .returned (.tuple #[.int .u64 (U (mh a.toInt (U b))), .bool true]) ∧ Drawn0 w w' := by
  have h63 := U_64 b
  have h31 := U_32 b
  have g63 : b.toNat % 64 ≤ 63 := by omega
  have g31 : b.toNat % 32 ≤ 31 := by omega
  have hla := U_lw a
  have hlb := U_lw b
  go_enter Try.func35, Try.ntmps35
  go_wp2_with (first | (go_at_call 16; refine (rsext32 _ _).mono ?_; rintro e w' ⟨rfl, ⟨m2, rfl⟩⟩) | (go_at_call 28; refine (r_mulhu _ _ _).mono ?_; rintro e w' ⟨rfl, ⟨m1, rfl⟩⟩) | (go_at_call 30; refine (r_mulh _ _ _).mono ?_; rintro e w' ⟨rfl, ⟨m1, rfl⟩⟩) | (go_at_call 32; refine (r_mulhsu _ _ _).mono ?_; rintro e w' ⟨rfl, ⟨m1, rfl⟩⟩) | (go_at_call 24; refine (r_div _ _ _).mono ?_; rintro e w' ⟨rfl, ⟨m1, rfl⟩⟩) | (go_at_call 20; refine (r_divu _ _ _).mono ?_; rintro e w' ⟨rfl, ⟨m1, rfl⟩⟩) | (go_at_call 26; refine (r_rem _ _ _).mono ?_; rintro e w' ⟨rfl, ⟨m1, rfl⟩⟩) | (go_at_call 22; refine (r_remu _ _ _).mono ?_; rintro e w' ⟨rfl, ⟨m1, rfl⟩⟩) | (go_at_call 44; refine (r_product _ _ _).mono ?_; rintro e w' ⟨rfl, ⟨m1, rfl⟩⟩) | go_in)
  go_ret2
  exact ⟨rfl, by repeat (first | exact Drawn0.refl _ | apply Drawn0.step)⟩
set_option maxHeartbeats 1000000 in
theorem rdo_53 (a b : BitVec 64) (w : World) : Calls Try.prog 35 #[.int .i64 53, .int .u64 (U a), .int .u64 (U b)] w fun e w' => e = .returned (.tuple #[.int .u64 (U (mh (U a) (U b))), .bool true]) ∧ Drawn0 w w' := by
  have h63 := U_64 b
  have h31 := U_32 b
  have g63 : b.toNat % 64 ≤ 63 := by omega
  have g31 : b.toNat % 32 ≤ 31 := by omega
  have hla := U_lw a
  have hlb := U_lw b
  go_enter Try.func35, Try.ntmps35
  go_wp2_with (first | (go_at_call 16; refine (rsext32 _ _).mono ?_; rintro e w' ⟨rfl, ⟨m2, rfl⟩⟩) | (go_at_call 28; refine (r_mulhu _ _ _).mono ?_; rintro e w' ⟨rfl, ⟨m1, rfl⟩⟩) | (go_at_call 30; refine (r_mulh _ _ _).mono ?_; rintro e w' ⟨rfl, ⟨m1, rfl⟩⟩) | (go_at_call 32; refine (r_mulhsu _ _ _).mono ?_; rintro e w' ⟨rfl, ⟨m1, rfl⟩⟩) | (go_at_call 24; refine (r_div _ _ _).mono ?_; rintro e w' ⟨rfl, ⟨m1, rfl⟩⟩) | (go_at_call 20; refine (r_divu _ _ _).mono ?_; rintro e w' ⟨rfl, ⟨m1, rfl⟩⟩) | (go_at_call 26; refine (r_rem _ _ _).mono ?_; rintro e w' ⟨rfl, ⟨m1, rfl⟩⟩) | (go_at_call 22; refine (r_remu _ _ _).mono ?_; rintro e w' ⟨rfl, ⟨m1, rfl⟩⟩) | (go_at_call 44; refine (r_product _ _ _).mono ?_; rintro e w' ⟨rfl, ⟨m1, rfl⟩⟩) | go_in)
  go_ret2
  exact ⟨rfl, by repeat (first | exact Drawn0.refl _ | apply Drawn0.step)⟩
set_option maxHeartbeats 1000000 in
theorem rdo_54 (a b : BitVec 64) (w : World) : Calls Try.prog 35 #[.int .i64 54, .int .u64 (U a), .int .u64 (U b)] w fun e w' => e = .returned (.tuple #[.int .u64 (U (qs a b)), .bool true]) ∧ Drawn0 w w' := by
  have h63 := U_64 b
  have h31 := U_32 b
  have g63 : b.toNat % 64 ≤ 63 := by omega
  have g31 : b.toNat % 32 ≤ 31 := by omega
  have hla := U_lw a
  have hlb := U_lw b
  go_enter Try.func35, Try.ntmps35
  go_wp2_with (first | (go_at_call 16; refine (rsext32 _ _).mono ?_; rintro e w' ⟨rfl, ⟨m2, rfl⟩⟩) | (go_at_call 28; refine (r_mulhu _ _ _).mono ?_; rintro e w' ⟨rfl, ⟨m1, rfl⟩⟩) | (go_at_call 30; refine (r_mulh _ _ _).mono ?_; rintro e w' ⟨rfl, ⟨m1, rfl⟩⟩) | (go_at_call 32; refine (r_mulhsu _ _ _).mono ?_; rintro e w' ⟨rfl, ⟨m1, rfl⟩⟩) | (go_at_call 24; refine (r_div _ _ _).mono ?_; rintro e w' ⟨rfl, ⟨m1, rfl⟩⟩) | (go_at_call 20; refine (r_divu _ _ _).mono ?_; rintro e w' ⟨rfl, ⟨m1, rfl⟩⟩) | (go_at_call 26; refine (r_rem _ _ _).mono ?_; rintro e w' ⟨rfl, ⟨m1, rfl⟩⟩) | (go_at_call 22; refine (r_remu _ _ _).mono ?_; rintro e w' ⟨rfl, ⟨m1, rfl⟩⟩) | (go_at_call 44; refine (r_product _ _ _).mono ?_; rintro e w' ⟨rfl, ⟨m1, rfl⟩⟩) | go_in)
  go_ret2
  exact ⟨rfl, by repeat (first | exact Drawn0.refl _ | apply Drawn0.step)⟩
set_option maxHeartbeats 1000000 in
theorem rdo_55 (a b : BitVec 64) (w : World) : Calls Try.prog 35 #[.int .i64 55, .int .u64 (U a), .int .u64 (U b)] w fun e w' => e = .returned (.tuple #[.int .u64 (U (qu a b)), .bool true]) ∧ Drawn0 w w' := by
  have h63 := U_64 b
  have h31 := U_32 b
  have g63 : b.toNat % 64 ≤ 63 := by omega
  have g31 : b.toNat % 32 ≤ 31 := by omega
  have hla := U_lw a
  have hlb := U_lw b
  go_enter Try.func35, Try.ntmps35
  go_wp2_with (first | (go_at_call 16; refine (rsext32 _ _).mono ?_; rintro e w' ⟨rfl, ⟨m2, rfl⟩⟩) | (go_at_call 28; refine (r_mulhu _ _ _).mono ?_; rintro e w' ⟨rfl, ⟨m1, rfl⟩⟩) | (go_at_call 30; refine (r_mulh _ _ _).mono ?_; rintro e w' ⟨rfl, ⟨m1, rfl⟩⟩) | (go_at_call 32; refine (r_mulhsu _ _ _).mono ?_; rintro e w' ⟨rfl, ⟨m1, rfl⟩⟩) | (go_at_call 24; refine (r_div _ _ _).mono ?_; rintro e w' ⟨rfl, ⟨m1, rfl⟩⟩) | (go_at_call 20; refine (r_divu _ _ _).mono ?_; rintro e w' ⟨rfl, ⟨m1, rfl⟩⟩) | (go_at_call 26; refine (r_rem _ _ _).mono ?_; rintro e w' ⟨rfl, ⟨m1, rfl⟩⟩) | (go_at_call 22; refine (r_remu _ _ _).mono ?_; rintro e w' ⟨rfl, ⟨m1, rfl⟩⟩) | (go_at_call 44; refine (r_product _ _ _).mono ?_; rintro e w' ⟨rfl, ⟨m1, rfl⟩⟩) | go_in)
  go_ret2
  exact ⟨rfl, by repeat (first | exact Drawn0.refl _ | apply Drawn0.step)⟩
set_option maxHeartbeats 1000000 in
theorem rdo_56 (a b : BitVec 64) (w : World) : Calls Try.prog 35 #[.int .i64 56, .int .u64 (U a), .int .u64 (U b)] w fun e w' => e = .returned (.tuple #[.int .u64 (U (rs a b)), .bool true]) ∧ Drawn0 w w' := by
  have h63 := U_64 b
  have h31 := U_32 b
  have g63 : b.toNat % 64 ≤ 63 := by omega
  have g31 : b.toNat % 32 ≤ 31 := by omega
  have hla := U_lw a
  have hlb := U_lw b
  go_enter Try.func35, Try.ntmps35
  go_wp2_with (first | (go_at_call 16; refine (rsext32 _ _).mono ?_; rintro e w' ⟨rfl, ⟨m2, rfl⟩⟩) | (go_at_call 28; refine (r_mulhu _ _ _).mono ?_; rintro e w' ⟨rfl, ⟨m1, rfl⟩⟩) | (go_at_call 30; refine (r_mulh _ _ _).mono ?_; rintro e w' ⟨rfl, ⟨m1, rfl⟩⟩) | (go_at_call 32; refine (r_mulhsu _ _ _).mono ?_; rintro e w' ⟨rfl, ⟨m1, rfl⟩⟩) | (go_at_call 24; refine (r_div _ _ _).mono ?_; rintro e w' ⟨rfl, ⟨m1, rfl⟩⟩) | (go_at_call 20; refine (r_divu _ _ _).mono ?_; rintro e w' ⟨rfl, ⟨m1, rfl⟩⟩) | (go_at_call 26; refine (r_rem _ _ _).mono ?_; rintro e w' ⟨rfl, ⟨m1, rfl⟩⟩) | (go_at_call 22; refine (r_remu _ _ _).mono ?_; rintro e w' ⟨rfl, ⟨m1, rfl⟩⟩) | (go_at_call 44; refine (r_product _ _ _).mono ?_; rintro e w' ⟨rfl, ⟨m1, rfl⟩⟩) | go_in)
  go_ret2
  exact ⟨rfl, by repeat (first | exact Drawn0.refl _ | apply Drawn0.step)⟩
set_option maxHeartbeats 1000000 in
theorem rdo_57 (a b : BitVec 64) (w : World) : Calls Try.prog 35 #[.int .i64 57, .int .u64 (U a), .int .u64 (U b)] w fun e w' => e = .returned (.tuple #[.int .u64 (U (ru a b)), .bool true]) ∧ Drawn0 w w' := by
  have h63 := U_64 b
  have h31 := U_32 b
  have g63 : b.toNat % 64 ≤ 63 := by omega
  have g31 : b.toNat % 32 ≤ 31 := by omega
  have hla := U_lw a
  have hlb := U_lw b
  go_enter Try.func35, Try.ntmps35
  go_wp2_with (first | (go_at_call 16; refine (rsext32 _ _).mono ?_; rintro e w' ⟨rfl, ⟨m2, rfl⟩⟩) | (go_at_call 28; refine (r_mulhu _ _ _).mono ?_; rintro e w' ⟨rfl, ⟨m1, rfl⟩⟩) | (go_at_call 30; refine (r_mulh _ _ _).mono ?_; rintro e w' ⟨rfl, ⟨m1, rfl⟩⟩) | (go_at_call 32; refine (r_mulhsu _ _ _).mono ?_; rintro e w' ⟨rfl, ⟨m1, rfl⟩⟩) | (go_at_call 24; refine (r_div _ _ _).mono ?_; rintro e w' ⟨rfl, ⟨m1, rfl⟩⟩) | (go_at_call 20; refine (r_divu _ _ _).mono ?_; rintro e w' ⟨rfl, ⟨m1, rfl⟩⟩) | (go_at_call 26; refine (r_rem _ _ _).mono ?_; rintro e w' ⟨rfl, ⟨m1, rfl⟩⟩) | (go_at_call 22; refine (r_remu _ _ _).mono ?_; rintro e w' ⟨rfl, ⟨m1, rfl⟩⟩) | (go_at_call 44; refine (r_product _ _ _).mono ?_; rintro e w' ⟨rfl, ⟨m1, rfl⟩⟩) | go_in)
  go_ret2
  exact ⟨rfl, by repeat (first | exact Drawn0.refl _ | apply Drawn0.step)⟩
set_option maxHeartbeats 1000000 in
theorem rdo_58 (a b : BitVec 64) (w : World) : Calls Try.prog 35 #[.int .i64 58, .int .u64 (U a), .int .u64 (U b)] w fun e w' => e = .returned (.tuple #[.int .u64 (U (sx (low a * low b) 32)), .bool true]) ∧ Drawn0 w w' := by
  have h63 := U_64 b
  have h31 := U_32 b
  have g63 : b.toNat % 64 ≤ 63 := by omega
  have g31 : b.toNat % 32 ≤ 31 := by omega
  have hla := U_lw a
  have hlb := U_lw b
  go_enter Try.func35, Try.ntmps35
  go_wp2_with (first | (go_at_call 16; refine (rsext32 _ _).mono ?_; rintro e w' ⟨rfl, ⟨m2, rfl⟩⟩) | (go_at_call 28; refine (r_mulhu _ _ _).mono ?_; rintro e w' ⟨rfl, ⟨m1, rfl⟩⟩) | (go_at_call 30; refine (r_mulh _ _ _).mono ?_; rintro e w' ⟨rfl, ⟨m1, rfl⟩⟩) | (go_at_call 32; refine (r_mulhsu _ _ _).mono ?_; rintro e w' ⟨rfl, ⟨m1, rfl⟩⟩) | (go_at_call 24; refine (r_div _ _ _).mono ?_; rintro e w' ⟨rfl, ⟨m1, rfl⟩⟩) | (go_at_call 20; refine (r_divu _ _ _).mono ?_; rintro e w' ⟨rfl, ⟨m1, rfl⟩⟩) | (go_at_call 26; refine (r_rem _ _ _).mono ?_; rintro e w' ⟨rfl, ⟨m1, rfl⟩⟩) | (go_at_call 22; refine (r_remu _ _ _).mono ?_; rintro e w' ⟨rfl, ⟨m1, rfl⟩⟩) | (go_at_call 44; refine (r_product _ _ _).mono ?_; rintro e w' ⟨rfl, ⟨m1, rfl⟩⟩) | go_in)
  go_ret2
  exact ⟨rfl, by repeat (first | exact Drawn0.refl _ | apply Drawn0.step)⟩
set_option maxHeartbeats 1000000 in
theorem rdo_59 (a b : BitVec 64) (w : World) : Calls Try.prog 35 #[.int .i64 59, .int .u64 (U a), .int .u64 (U b)] w fun e w' => e = .returned (.tuple #[.int .u64 (U (sx (qs (sx (low a) 32) (sx (low b) 32)) 32)), .bool true]) ∧ Drawn0 w w' := by
  have h63 := U_64 b
  have h31 := U_32 b
  have g63 : b.toNat % 64 ≤ 63 := by omega
  have g31 : b.toNat % 32 ≤ 31 := by omega
  have hla := U_lw a
  have hlb := U_lw b
  go_enter Try.func35, Try.ntmps35
  go_wp2_with (first | (go_at_call 16; refine (rsext32 _ _).mono ?_; rintro e w' ⟨rfl, ⟨m2, rfl⟩⟩) | (go_at_call 28; refine (r_mulhu _ _ _).mono ?_; rintro e w' ⟨rfl, ⟨m1, rfl⟩⟩) | (go_at_call 30; refine (r_mulh _ _ _).mono ?_; rintro e w' ⟨rfl, ⟨m1, rfl⟩⟩) | (go_at_call 32; refine (r_mulhsu _ _ _).mono ?_; rintro e w' ⟨rfl, ⟨m1, rfl⟩⟩) | (go_at_call 24; refine (r_div _ _ _).mono ?_; rintro e w' ⟨rfl, ⟨m1, rfl⟩⟩) | (go_at_call 20; refine (r_divu _ _ _).mono ?_; rintro e w' ⟨rfl, ⟨m1, rfl⟩⟩) | (go_at_call 26; refine (r_rem _ _ _).mono ?_; rintro e w' ⟨rfl, ⟨m1, rfl⟩⟩) | (go_at_call 22; refine (r_remu _ _ _).mono ?_; rintro e w' ⟨rfl, ⟨m1, rfl⟩⟩) | (go_at_call 44; refine (r_product _ _ _).mono ?_; rintro e w' ⟨rfl, ⟨m1, rfl⟩⟩) | go_in)
  go_ret2
  exact ⟨rfl, by repeat (first | exact Drawn0.refl _ | apply Drawn0.step)⟩
set_option maxHeartbeats 1000000 in
theorem rdo_60 (a b : BitVec 64) (w : World) : Calls Try.prog 35 #[.int .i64 60, .int .u64 (U a), .int .u64 (U b)] w fun e w' => e = .returned (.tuple #[.int .u64 (U (sx (qu (low a) (low b)) 32)), .bool true]) ∧ Drawn0 w w' := by
  have h63 := U_64 b
  have h31 := U_32 b
  have g63 : b.toNat % 64 ≤ 63 := by omega
  have g31 : b.toNat % 32 ≤ 31 := by omega
  have hla := U_lw a
  have hlb := U_lw b
  go_enter Try.func35, Try.ntmps35
  go_wp2_with (first | (go_at_call 16; refine (rsext32 _ _).mono ?_; rintro e w' ⟨rfl, ⟨m2, rfl⟩⟩) | (go_at_call 28; refine (r_mulhu _ _ _).mono ?_; rintro e w' ⟨rfl, ⟨m1, rfl⟩⟩) | (go_at_call 30; refine (r_mulh _ _ _).mono ?_; rintro e w' ⟨rfl, ⟨m1, rfl⟩⟩) | (go_at_call 32; refine (r_mulhsu _ _ _).mono ?_; rintro e w' ⟨rfl, ⟨m1, rfl⟩⟩) | (go_at_call 24; refine (r_div _ _ _).mono ?_; rintro e w' ⟨rfl, ⟨m1, rfl⟩⟩) | (go_at_call 20; refine (r_divu _ _ _).mono ?_; rintro e w' ⟨rfl, ⟨m1, rfl⟩⟩) | (go_at_call 26; refine (r_rem _ _ _).mono ?_; rintro e w' ⟨rfl, ⟨m1, rfl⟩⟩) | (go_at_call 22; refine (r_remu _ _ _).mono ?_; rintro e w' ⟨rfl, ⟨m1, rfl⟩⟩) | (go_at_call 44; refine (r_product _ _ _).mono ?_; rintro e w' ⟨rfl, ⟨m1, rfl⟩⟩) | go_in)
  go_ret2
  exact ⟨rfl, by repeat (first | exact Drawn0.refl _ | apply Drawn0.step)⟩
set_option maxHeartbeats 1000000 in
theorem rdo_61 (a b : BitVec 64) (w : World) : Calls Try.prog 35 #[.int .i64 61, .int .u64 (U a), .int .u64 (U b)] w fun e w' => e = .returned (.tuple #[.int .u64 (U (sx (rs (sx (low a) 32) (sx (low b) 32)) 32)), .bool true]) ∧ Drawn0 w w' := by
  have h63 := U_64 b
  have h31 := U_32 b
  have g63 : b.toNat % 64 ≤ 63 := by omega
  have g31 : b.toNat % 32 ≤ 31 := by omega
  have hla := U_lw a
  have hlb := U_lw b
  go_enter Try.func35, Try.ntmps35
  go_wp2_with (first | (go_at_call 16; refine (rsext32 _ _).mono ?_; rintro e w' ⟨rfl, ⟨m2, rfl⟩⟩) | (go_at_call 28; refine (r_mulhu _ _ _).mono ?_; rintro e w' ⟨rfl, ⟨m1, rfl⟩⟩) | (go_at_call 30; refine (r_mulh _ _ _).mono ?_; rintro e w' ⟨rfl, ⟨m1, rfl⟩⟩) | (go_at_call 32; refine (r_mulhsu _ _ _).mono ?_; rintro e w' ⟨rfl, ⟨m1, rfl⟩⟩) | (go_at_call 24; refine (r_div _ _ _).mono ?_; rintro e w' ⟨rfl, ⟨m1, rfl⟩⟩) | (go_at_call 20; refine (r_divu _ _ _).mono ?_; rintro e w' ⟨rfl, ⟨m1, rfl⟩⟩) | (go_at_call 26; refine (r_rem _ _ _).mono ?_; rintro e w' ⟨rfl, ⟨m1, rfl⟩⟩) | (go_at_call 22; refine (r_remu _ _ _).mono ?_; rintro e w' ⟨rfl, ⟨m1, rfl⟩⟩) | (go_at_call 44; refine (r_product _ _ _).mono ?_; rintro e w' ⟨rfl, ⟨m1, rfl⟩⟩) | go_in)
  go_ret2
  exact ⟨rfl, by repeat (first | exact Drawn0.refl _ | apply Drawn0.step)⟩
set_option maxHeartbeats 1000000 in
theorem rdo_62 (a b : BitVec 64) (w : World) : Calls Try.prog 35 #[.int .i64 62, .int .u64 (U a), .int .u64 (U b)] w fun e w' => e = .returned (.tuple #[.int .u64 (U (sx (ru (low a) (low b)) 32)), .bool true]) ∧ Drawn0 w w' := by
  have h63 := U_64 b
  have h31 := U_32 b
  have g63 : b.toNat % 64 ≤ 63 := by omega
  have g31 : b.toNat % 32 ≤ 31 := by omega
  have hla := U_lw a
  have hlb := U_lw b
  go_enter Try.func35, Try.ntmps35
  go_wp2_with (first | (go_at_call 16; refine (rsext32 _ _).mono ?_; rintro e w' ⟨rfl, ⟨m2, rfl⟩⟩) | (go_at_call 28; refine (r_mulhu _ _ _).mono ?_; rintro e w' ⟨rfl, ⟨m1, rfl⟩⟩) | (go_at_call 30; refine (r_mulh _ _ _).mono ?_; rintro e w' ⟨rfl, ⟨m1, rfl⟩⟩) | (go_at_call 32; refine (r_mulhsu _ _ _).mono ?_; rintro e w' ⟨rfl, ⟨m1, rfl⟩⟩) | (go_at_call 24; refine (r_div _ _ _).mono ?_; rintro e w' ⟨rfl, ⟨m1, rfl⟩⟩) | (go_at_call 20; refine (r_divu _ _ _).mono ?_; rintro e w' ⟨rfl, ⟨m1, rfl⟩⟩) | (go_at_call 26; refine (r_rem _ _ _).mono ?_; rintro e w' ⟨rfl, ⟨m1, rfl⟩⟩) | (go_at_call 22; refine (r_remu _ _ _).mono ?_; rintro e w' ⟨rfl, ⟨m1, rfl⟩⟩) | (go_at_call 44; refine (r_product _ _ _).mono ?_; rintro e w' ⟨rfl, ⟨m1, rfl⟩⟩) | go_in)
  go_ret2
  exact ⟨rfl, by repeat (first | exact Drawn0.refl _ | apply Drawn0.step)⟩
end Go.Proofs.Ytdjgjedmbgnjbaa.Alu
