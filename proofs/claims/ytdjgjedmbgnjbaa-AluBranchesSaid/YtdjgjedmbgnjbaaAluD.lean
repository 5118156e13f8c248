/- alu.Do at each operator that it knows, and at the others, walked: for all words. -/
import Derived.Test.YtdjgjedmbgnjbaaAluW
import Derived.Lib.Hide
namespace Go.Proofs.Ytdjgjedmbgnjbaa.Alu
open Go Go.RowKit Go.Proofs.YtdjgjedmbgnjbaaW.PrintWords Go.Proofs.YtdjgjedmbgnjbaaW.PrintLast Go.Proofs.YtdjgjedmbgnjbaaW.PrintMore
open Go.Proofs.Ytdjgjedmbgnjbaa.Bv
set_option linter.unusedVariables false
set_option linter.unusedSimpArgs false
theorem wrap64_toInt (a : BitVec 64) : wrap64 a.toInt = a.toInt := wrap64_in (by have := a.le_toInt; simp only [Nat.add_one_sub_one] at this; omega) (by have := a.toInt_lt; simp only [Nat.add_one_sub_one] at this; omega)
theorem w32 (a : BitVec 64) : wrap32 (U a) = (sx a 32).toInt := by
  unfold sx
  rw [BitVec.toInt_sshiftRight, Int.shiftRight_eq_div_pow, BitVec.toInt_eq_toNat_bmod, Int.bmod_def, BitVec.toNat_shiftLeft, Nat.shiftLeft_eq]
  unfold wrap32 U
  have := a.isLt
  simp only [Nat.reduceSub, Nat.reducePow]
  split <;> omega
theorem wrap_shr (a : BitVec 64) (n : Nat) : IntKind.u64.wrap (a.toInt >>> n) = U (a.sshiftRight n) := by rw [← BitVec.toInt_sshiftRight, u64_toInt]
attribute [local go_sem] wrap_add wrap_sub wrap_mul and_U or_U xor_U shl_U' shr_U' sar_toInt' i64_U wrap64_U u64_toInt wrap_shr wrap_U wrap64_toInt
/-- 1 or 0. -/
def tr (p : Bool) : BitVec 64 := if p then 1#64 else 0#64
theorem U_tr_t : (1 : Int) = U (tr true) := by decide +kernel
theorem U_tr_f : (0 : Int) = U (tr false) := by decide +kernel
theorem and_63 (b : BitVec 64) : bits .and .u64 (U b) 63 = ((b.toNat % 64 : Nat) : Int) := by
  unfold U
  rw [show (63 : Int) = ((63 : Nat) : Int) from rfl, u64_and_nat _ _ b.isLt (by decide), show 63 = 2 ^ 6 - 1 from rfl, Nat.and_two_pow_sub_one_eq_mod]
theorem and_31 (b : BitVec 64) : bits .and .u64 (U b) 31 = ((b.toNat % 32 : Nat) : Int) := by
  unfold U
  rw [show (31 : Int) = ((31 : Nat) : Int) from rfl, u64_and_nat _ _ b.isLt (by decide), show 31 = 2 ^ 5 - 1 from rfl, Nat.and_two_pow_sub_one_eq_mod]
theorem U_low (a : BitVec 64) : U a % 4294967296 = U (BitVec.ofNat 64 (a.toNat % 4294967296)) := by
  unfold U
  rw [BitVec.toNat_ofNat, Nat.mod_eq_of_lt (a := a.toNat % 4294967296) (by omega)]
  omega
theorem sext32 (a : BitVec 64) : SgHand.sext a 32 = sx a 32 := by unfold SgHand.sext; rw [if_pos (by decide)]; rfl
theorem c_sext32 (a : BitVec 64) (w : World) : Calls Try.prog 15 #[.int .u64 (U a), .int .i64 32] w fun e w' => e = .returned (.int .u64 (U (sx a 32))) ∧ Drawn0 w w' := by
  have h := SgHand.sext_any a 32 w
  rwa [sext32] at h
theorem ret2_u64 {a b : Int} {p q : Bool} (h : a = b) (hp : p = q) : Ending.returned (.tuple #[.int .u64 a, .bool p]) = .returned (.tuple #[.int .u64 b, .bool q]) := by rw [h, hp]
set_option maxHeartbeats 1000000 in
theorem do_1 (a b : BitVec 64) (w : World) : Calls Try.prog 33 #[.int .i64 1, .int .u64 (U a), .int .u64 (U b)] w fun e w' => e = .returned (.tuple #[.int .u64 (U (b)), .bool true]) ∧ Drawn0 w w' := by
  have h63 := and_63 b
  have h31 := and_31 b
  have g63 : b.toNat % 64 ≤ 63 := by omega
  have g31 : b.toNat % 32 ≤ 31 := by omega
  have hla := U_low a
  have hlb := U_low b
  have hw := w32 a
  go_enter Try.func33, Try.ntmps33
  go_wp2_with (first | (go_at_call 15; refine (c_sext32 _ _).mono ?_; rintro e w' ⟨rfl, ⟨m2, rfl⟩⟩) | (go_at_call 27; refine (c_mulhu _ _ _).mono ?_; rintro e w' ⟨rfl, ⟨m1, rfl⟩⟩) | (go_at_call 29; refine (c_mulh _ _ _).mono ?_; rintro e w' ⟨rfl, ⟨m1, rfl⟩⟩) | (go_at_call 31; refine (c_mulhsu _ _ _).mono ?_; rintro e w' ⟨rfl, ⟨m1, rfl⟩⟩) | (go_at_call 23; refine (c_div _ _ _).mono ?_; rintro e w' ⟨rfl, ⟨m1, rfl⟩⟩) | (go_at_call 19; refine (c_divu _ _ _).mono ?_; rintro e w' ⟨rfl, ⟨m1, rfl⟩⟩) | (go_at_call 25; refine (c_rem _ _ _).mono ?_; rintro e w' ⟨rfl, ⟨m1, rfl⟩⟩) | (go_at_call 21; refine (c_remu _ _ _).mono ?_; rintro e w' ⟨rfl, ⟨m1, rfl⟩⟩) | go_in)
  go_ret2
  exact ⟨rfl, by repeat (first | exact Drawn0.refl _ | apply Drawn0.step)⟩
set_option maxHeartbeats 1000000 in
theorem do_22 (a b : BitVec 64) (w : World) : Calls Try.prog 33 #[.int .i64 22, .int .u64 (U a), .int .u64 (U b)] w fun e w' => e = .returned (.tuple #[.int .u64 (U (a + b)), .bool true]) ∧ Drawn0 w w' := by
  have h63 := and_63 b
  have h31 := and_31 b
  have g63 : b.toNat % 64 ≤ 63 := by omega
  have g31 : b.toNat % 32 ≤ 31 := by omega
  have hla := U_low a
  have hlb := U_low b
  have hw := w32 a
  go_enter Try.func33, Try.ntmps33
  go_wp2_with (first | (go_at_call 15; refine (c_sext32 _ _).mono ?_; rintro e w' ⟨rfl, ⟨m2, rfl⟩⟩) | (go_at_call 27; refine (c_mulhu _ _ _).mono ?_; rintro e w' ⟨rfl, ⟨m1, rfl⟩⟩) | (go_at_call 29; refine (c_mulh _ _ _).mono ?_; rintro e w' ⟨rfl, ⟨m1, rfl⟩⟩) | (go_at_call 31; refine (c_mulhsu _ _ _).mono ?_; rintro e w' ⟨rfl, ⟨m1, rfl⟩⟩) | (go_at_call 23; refine (c_div _ _ _).mono ?_; rintro e w' ⟨rfl, ⟨m1, rfl⟩⟩) | (go_at_call 19; refine (c_divu _ _ _).mono ?_; rintro e w' ⟨rfl, ⟨m1, rfl⟩⟩) | (go_at_call 25; refine (c_rem _ _ _).mono ?_; rintro e w' ⟨rfl, ⟨m1, rfl⟩⟩) | (go_at_call 21; refine (c_remu _ _ _).mono ?_; rintro e w' ⟨rfl, ⟨m1, rfl⟩⟩) | go_in)
  go_ret2
  exact ⟨rfl, by repeat (first | exact Drawn0.refl _ | apply Drawn0.step)⟩
set_option maxHeartbeats 1000000 in
theorem do_23 (a b : BitVec 64) (w : World) : Calls Try.prog 33 #[.int .i64 23, .int .u64 (U a), .int .u64 (U b)] w fun e w' => e = .returned (.tuple #[.int .u64 (U (tr (decide (a.toInt < b.toInt)))), .bool true]) ∧ Drawn0 w w' := by
  have h63 := and_63 b
  have h31 := and_31 b
  have g63 : b.toNat % 64 ≤ 63 := by omega
  have g31 : b.toNat % 32 ≤ 31 := by omega
  have hla := U_low a
  have hlb := U_low b
  have hw := w32 a
  by_cases hc : a.toInt < b.toInt
  · have t0 : decide (a.toInt < b.toInt) = true := decide_eq_true hc
    rw [t0, ← U_tr_t]
    go_enter Try.func33, Try.ntmps33
    go_wp2_with (first | (go_at_call 15; refine (c_sext32 _ _).mono ?_; rintro e w' ⟨rfl, ⟨m2, rfl⟩⟩) | (go_at_call 27; refine (c_mulhu _ _ _).mono ?_; rintro e w' ⟨rfl, ⟨m1, rfl⟩⟩) | (go_at_call 29; refine (c_mulh _ _ _).mono ?_; rintro e w' ⟨rfl, ⟨m1, rfl⟩⟩) | (go_at_call 31; refine (c_mulhsu _ _ _).mono ?_; rintro e w' ⟨rfl, ⟨m1, rfl⟩⟩) | (go_at_call 23; refine (c_div _ _ _).mono ?_; rintro e w' ⟨rfl, ⟨m1, rfl⟩⟩) | (go_at_call 19; refine (c_divu _ _ _).mono ?_; rintro e w' ⟨rfl, ⟨m1, rfl⟩⟩) | (go_at_call 25; refine (c_rem _ _ _).mono ?_; rintro e w' ⟨rfl, ⟨m1, rfl⟩⟩) | (go_at_call 21; refine (c_remu _ _ _).mono ?_; rintro e w' ⟨rfl, ⟨m1, rfl⟩⟩) | go_in)
    go_ret2
    exact ⟨rfl, by repeat (first | exact Drawn0.refl _ | apply Drawn0.step)⟩
  · have t0 : decide (a.toInt < b.toInt) = false := decide_eq_false hc
    rw [t0, ← U_tr_f]
    go_enter Try.func33, Try.ntmps33
    go_wp2_with (first | (go_at_call 15; refine (c_sext32 _ _).mono ?_; rintro e w' ⟨rfl, ⟨m2, rfl⟩⟩) | (go_at_call 27; refine (c_mulhu _ _ _).mono ?_; rintro e w' ⟨rfl, ⟨m1, rfl⟩⟩) | (go_at_call 29; refine (c_mulh _ _ _).mono ?_; rintro e w' ⟨rfl, ⟨m1, rfl⟩⟩) | (go_at_call 31; refine (c_mulhsu _ _ _).mono ?_; rintro e w' ⟨rfl, ⟨m1, rfl⟩⟩) | (go_at_call 23; refine (c_div _ _ _).mono ?_; rintro e w' ⟨rfl, ⟨m1, rfl⟩⟩) | (go_at_call 19; refine (c_divu _ _ _).mono ?_; rintro e w' ⟨rfl, ⟨m1, rfl⟩⟩) | (go_at_call 25; refine (c_rem _ _ _).mono ?_; rintro e w' ⟨rfl, ⟨m1, rfl⟩⟩) | (go_at_call 21; refine (c_remu _ _ _).mono ?_; rintro e w' ⟨rfl, ⟨m1, rfl⟩⟩) | go_in)
    go_ret2
    exact ⟨rfl, by repeat (first | exact Drawn0.refl _ | apply Drawn0.step)⟩
set_option maxHeartbeats 1000000 in
theorem do_24 (a b : BitVec 64) (w : World) : Calls Try.prog 33 #[.int .i64 24, .int .u64 (U a), .int .u64 (U b)] w fun e w' => e = .returned (.tuple #[.int .u64 (U (tr (decide (U a < U b)))), .bool true]) ∧ Drawn0 w w' := by
  have h63 := and_63 b
  have h31 := and_31 b
  have g63 : b.toNat % 64 ≤ 63 := by omega
  have g31 : b.toNat % 32 ≤ 31 := by omega
  have hla := U_low a
  have hlb := U_low b
  have hw := w32 a
  by_cases hc : U a < U b
  · have t0 : decide (U a < U b) = true := decide_eq_true hc
    rw [t0, ← U_tr_t]
    go_enter Try.func33, Try.ntmps33
    go_wp2_with (first | (go_at_call 15; refine (c_sext32 _ _).mono ?_; rintro e w' ⟨rfl, ⟨m2, rfl⟩⟩) | (go_at_call 27; refine (c_mulhu _ _ _).mono ?_; rintro e w' ⟨rfl, ⟨m1, rfl⟩⟩) | (go_at_call 29; refine (c_mulh _ _ _).mono ?_; rintro e w' ⟨rfl, ⟨m1, rfl⟩⟩) | (go_at_call 31; refine (c_mulhsu _ _ _).mono ?_; rintro e w' ⟨rfl, ⟨m1, rfl⟩⟩) | (go_at_call 23; refine (c_div _ _ _).mono ?_; rintro e w' ⟨rfl, ⟨m1, rfl⟩⟩) | (go_at_call 19; refine (c_divu _ _ _).mono ?_; rintro e w' ⟨rfl, ⟨m1, rfl⟩⟩) | (go_at_call 25; refine (c_rem _ _ _).mono ?_; rintro e w' ⟨rfl, ⟨m1, rfl⟩⟩) | (go_at_call 21; refine (c_remu _ _ _).mono ?_; rintro e w' ⟨rfl, ⟨m1, rfl⟩⟩) | go_in)
    go_ret2
    exact ⟨rfl, by repeat (first | exact Drawn0.refl _ | apply Drawn0.step)⟩
  · have t0 : decide (U a < U b) = false := decide_eq_false hc
    rw [t0, ← U_tr_f]
    go_enter Try.func33, Try.ntmps33
    go_wp2_with (first | (go_at_call 15; refine (c_sext32 _ _).mono ?_; rintro e w' ⟨rfl, ⟨m2, rfl⟩⟩) | (go_at_call 27; refine (c_mulhu _ _ _).mono ?_; rintro e w' ⟨rfl, ⟨m1, rfl⟩⟩) | (go_at_call 29; refine (c_mulh _ _ _).mono ?_; rintro e w' ⟨rfl, ⟨m1, rfl⟩⟩) | (go_at_call 31; refine (c_mulhsu _ _ _).mono ?_; rintro e w' ⟨rfl, ⟨m1, rfl⟩⟩) | (go_at_call 23; refine (c_div _ _ _).mono ?_; rintro e w' ⟨rfl, ⟨m1, rfl⟩⟩) | (go_at_call 19; refine (c_divu _ _ _).mono ?_; rintro e w' ⟨rfl, ⟨m1, rfl⟩⟩) | (go_at_call 25; refine (c_rem _ _ _).mono ?_; rintro e w' ⟨rfl, ⟨m1, rfl⟩⟩) | (go_at_call 21; refine (c_remu _ _ _).mono ?_; rintro e w' ⟨rfl, ⟨m1, rfl⟩⟩) | go_in)
    go_ret2
    exact ⟨rfl, by repeat (first | exact Drawn0.refl _ | apply Drawn0.step)⟩
set_option maxHeartbeats 1000000 in
theorem do_25 (a b : BitVec 64) (w : World) : Calls Try.prog 33 #[.int .i64 25, .int .u64 (U a), .int .u64 (U b)] w fun e w' => e = .returned (.tuple #[.int .u64 (U (a ^^^ b)), .bool true]) ∧ Drawn0 w w' := by
  have h63 := and_63 b
  have h31 := and_31 b
  have g63 : b.toNat % 64 ≤ 63 := by omega
  have g31 : b.toNat % 32 ≤ 31 := by omega
  have hla := U_low a
  have hlb := U_low b
  have hw := w32 a
  go_enter Try.func33, Try.ntmps33
  go_wp2_with (first | (go_at_call 15; refine (c_sext32 _ _).mono ?_; rintro e w' ⟨rfl, ⟨m2, rfl⟩⟩) | (go_at_call 27; refine (c_mulhu _ _ _).mono ?_; rintro e w' ⟨rfl, ⟨m1, rfl⟩⟩) | (go_at_call 29; refine (c_mulh _ _ _).mono ?_; rintro e w' ⟨rfl, ⟨m1, rfl⟩⟩) | (go_at_call 31; refine (c_mulhsu _ _ _).mono ?_; rintro e w' ⟨rfl, ⟨m1, rfl⟩⟩) | (go_at_call 23; refine (c_div _ _ _).mono ?_; rintro e w' ⟨rfl, ⟨m1, rfl⟩⟩) | (go_at_call 19; refine (c_divu _ _ _).mono ?_; rintro e w' ⟨rfl, ⟨m1, rfl⟩⟩) | (go_at_call 25; refine (c_rem _ _ _).mono ?_; rintro e w' ⟨rfl, ⟨m1, rfl⟩⟩) | (go_at_call 21; refine (c_remu _ _ _).mono ?_; rintro e w' ⟨rfl, ⟨m1, rfl⟩⟩) | go_in)
  go_ret2
  exact ⟨rfl, by repeat (first | exact Drawn0.refl _ | apply Drawn0.step)⟩
set_option maxHeartbeats 1000000 in
theorem do_26 (a b : BitVec 64) (w : World) : Calls Try.prog 33 #[.int .i64 26, .int .u64 (U a), .int .u64 (U b)] w fun e w' => e = .returned (.tuple #[.int .u64 (U (a ||| b)), .bool true]) ∧ Drawn0 w w' := by
  have h63 := and_63 b
  have h31 := and_31 b
  have g63 : b.toNat % 64 ≤ 63 := by omega
  have g31 : b.toNat % 32 ≤ 31 := by omega
  have hla := U_low a
  have hlb := U_low b
  have hw := w32 a
  go_enter Try.func33, Try.ntmps33
  go_wp2_with (first | (go_at_call 15; refine (c_sext32 _ _).mono ?_; rintro e w' ⟨rfl, ⟨m2, rfl⟩⟩) | (go_at_call 27; refine (c_mulhu _ _ _).mono ?_; rintro e w' ⟨rfl, ⟨m1, rfl⟩⟩) | (go_at_call 29; refine (c_mulh _ _ _).mono ?_; rintro e w' ⟨rfl, ⟨m1, rfl⟩⟩) | (go_at_call 31; refine (c_mulhsu _ _ _).mono ?_; rintro e w' ⟨rfl, ⟨m1, rfl⟩⟩) | (go_at_call 23; refine (c_div _ _ _).mono ?_; rintro e w' ⟨rfl, ⟨m1, rfl⟩⟩) | (go_at_call 19; refine (c_divu _ _ _).mono ?_; rintro e w' ⟨rfl, ⟨m1, rfl⟩⟩) | (go_at_call 25; refine (c_rem _ _ _).mono ?_; rintro e w' ⟨rfl, ⟨m1, rfl⟩⟩) | (go_at_call 21; refine (c_remu _ _ _).mono ?_; rintro e w' ⟨rfl, ⟨m1, rfl⟩⟩) | go_in)
  go_ret2
  exact ⟨rfl, by repeat (first | exact Drawn0.refl _ | apply Drawn0.step)⟩
set_option maxHeartbeats 1000000 in
theorem do_27 (a b : BitVec 64) (w : World) : Calls Try.prog 33 #[.int .i64 27, .int .u64 (U a), .int .u64 (U b)] w fun e w' => e = .returned (.tuple #[.int .u64 (U (a &&& b)), .bool true]) ∧ Drawn0 w w' := by
  have h63 := and_63 b
  have h31 := and_31 b
  have g63 : b.toNat % 64 ≤ 63 := by omega
  have g31 : b.toNat % 32 ≤ 31 := by omega
  have hla := U_low a
  have hlb := U_low b
  have hw := w32 a
  go_enter Try.func33, Try.ntmps33
  go_wp2_with (first | (go_at_call 15; refine (c_sext32 _ _).mono ?_; rintro e w' ⟨rfl, ⟨m2, rfl⟩⟩) | (go_at_call 27; refine (c_mulhu _ _ _).mono ?_; rintro e w' ⟨rfl, ⟨m1, rfl⟩⟩) | (go_at_call 29; refine (c_mulh _ _ _).mono ?_; rintro e w' ⟨rfl, ⟨m1, rfl⟩⟩) | (go_at_call 31; refine (c_mulhsu _ _ _).mono ?_; rintro e w' ⟨rfl, ⟨m1, rfl⟩⟩) | (go_at_call 23; refine (c_div _ _ _).mono ?_; rintro e w' ⟨rfl, ⟨m1, rfl⟩⟩) | (go_at_call 19; refine (c_divu _ _ _).mono ?_; rintro e w' ⟨rfl, ⟨m1, rfl⟩⟩) | (go_at_call 25; refine (c_rem _ _ _).mono ?_; rintro e w' ⟨rfl, ⟨m1, rfl⟩⟩) | (go_at_call 21; refine (c_remu _ _ _).mono ?_; rintro e w' ⟨rfl, ⟨m1, rfl⟩⟩) | go_in)
  go_ret2
  exact ⟨rfl, by repeat (first | exact Drawn0.refl _ | apply Drawn0.step)⟩
set_option maxHeartbeats 1000000 in
theorem do_28 (a b : BitVec 64) (w : World) : Calls Try.prog 33 #[.int .i64 28, .int .u64 (U a), .int .u64 (U b)] w fun e w' => e = .returned (.tuple #[.int .u64 (U (a <<< (b.toNat % 64))), .bool true]) ∧ Drawn0 w w' := by
  have h63 := and_63 b
  have h31 := and_31 b
  have g63 : b.toNat % 64 ≤ 63 := by omega
  have g31 : b.toNat % 32 ≤ 31 := by omega
  have hla := U_low a
  have hlb := U_low b
  have hw := w32 a
  go_enter Try.func33, Try.ntmps33
  go_wp2_with (first | (go_at_call 15; refine (c_sext32 _ _).mono ?_; rintro e w' ⟨rfl, ⟨m2, rfl⟩⟩) | (go_at_call 27; refine (c_mulhu _ _ _).mono ?_; rintro e w' ⟨rfl, ⟨m1, rfl⟩⟩) | (go_at_call 29; refine (c_mulh _ _ _).mono ?_; rintro e w' ⟨rfl, ⟨m1, rfl⟩⟩) | (go_at_call 31; refine (c_mulhsu _ _ _).mono ?_; rintro e w' ⟨rfl, ⟨m1, rfl⟩⟩) | (go_at_call 23; refine (c_div _ _ _).mono ?_; rintro e w' ⟨rfl, ⟨m1, rfl⟩⟩) | (go_at_call 19; refine (c_divu _ _ _).mono ?_; rintro e w' ⟨rfl, ⟨m1, rfl⟩⟩) | (go_at_call 25; refine (c_rem _ _ _).mono ?_; rintro e w' ⟨rfl, ⟨m1, rfl⟩⟩) | (go_at_call 21; refine (c_remu _ _ _).mono ?_; rintro e w' ⟨rfl, ⟨m1, rfl⟩⟩) | go_in)
  go_ret2
  exact ⟨rfl, by repeat (first | exact Drawn0.refl _ | apply Drawn0.step)⟩
set_option maxHeartbeats 1000000 in
theorem do_29 (a b : BitVec 64) (w : World) : Calls Try.prog 33 #[.int .i64 29, .int .u64 (U a), .int .u64 (U b)] w fun e w' => e = .returned (.tuple #[.int .u64 (U (a >>> (b.toNat % 64))), .bool true]) ∧ Drawn0 w w' := by
  have h63 := and_63 b
  have h31 := and_31 b
  have g63 : b.toNat % 64 ≤ 63 := by omega
  have g31 : b.toNat % 32 ≤ 31 := by omega
  have hla := U_low a
  have hlb := U_low b
  have hw := w32 a
  go_enter Try.func33, Try.ntmps33
  go_wp2_with (first | (go_at_call 15; refine (c_sext32 _ _).mono ?_; rintro e w' ⟨rfl, ⟨m2, rfl⟩⟩) | (go_at_call 27; refine (c_mulhu _ _ _).mono ?_; rintro e w' ⟨rfl, ⟨m1, rfl⟩⟩) | (go_at_call 29; refine (c_mulh _ _ _).mono ?_; rintro e w' ⟨rfl, ⟨m1, rfl⟩⟩) | (go_at_call 31; refine (c_mulhsu _ _ _).mono ?_; rintro e w' ⟨rfl, ⟨m1, rfl⟩⟩) | (go_at_call 23; refine (c_div _ _ _).mono ?_; rintro e w' ⟨rfl, ⟨m1, rfl⟩⟩) | (go_at_call 19; refine (c_divu _ _ _).mono ?_; rintro e w' ⟨rfl, ⟨m1, rfl⟩⟩) | (go_at_call 25; refine (c_rem _ _ _).mono ?_; rintro e w' ⟨rfl, ⟨m1, rfl⟩⟩) | (go_at_call 21; refine (c_remu _ _ _).mono ?_; rintro e w' ⟨rfl, ⟨m1, rfl⟩⟩) | go_in)
  go_ret2
  exact ⟨rfl, by repeat (first | exact Drawn0.refl _ | apply Drawn0.step)⟩
set_option maxHeartbeats 1000000 in
theorem do_30 (a b : BitVec 64) (w : World) : Calls Try.prog 33 #[.int .i64 30, .int .u64 (U a), .int .u64 (U b)] w fun e w' => e = .returned (.tuple #[.int .u64 (U (a.sshiftRight (b.toNat % 64))), .bool true]) ∧ Drawn0 w w' := by
  have h63 := and_63 b
  have h31 := and_31 b
  have g63 : b.toNat % 64 ≤ 63 := by omega
  have g31 : b.toNat % 32 ≤ 31 := by omega
  have hla := U_low a
  have hlb := U_low b
  have hw := w32 a
  go_enter Try.func33, Try.ntmps33
  go_wp2_with (first | (go_at_call 15; refine (c_sext32 _ _).mono ?_; rintro e w' ⟨rfl, ⟨m2, rfl⟩⟩) | (go_at_call 27; refine (c_mulhu _ _ _).mono ?_; rintro e w' ⟨rfl, ⟨m1, rfl⟩⟩) | (go_at_call 29; refine (c_mulh _ _ _).mono ?_; rintro e w' ⟨rfl, ⟨m1, rfl⟩⟩) | (go_at_call 31; refine (c_mulhsu _ _ _).mono ?_; rintro e w' ⟨rfl, ⟨m1, rfl⟩⟩) | (go_at_call 23; refine (c_div _ _ _).mono ?_; rintro e w' ⟨rfl, ⟨m1, rfl⟩⟩) | (go_at_call 19; refine (c_divu _ _ _).mono ?_; rintro e w' ⟨rfl, ⟨m1, rfl⟩⟩) | (go_at_call 25; refine (c_rem _ _ _).mono ?_; rintro e w' ⟨rfl, ⟨m1, rfl⟩⟩) | (go_at_call 21; refine (c_remu _ _ _).mono ?_; rintro e w' ⟨rfl, ⟨m1, rfl⟩⟩) | go_in)
  go_ret2
  exact ⟨rfl, by repeat (first | exact Drawn0.refl _ | apply Drawn0.step)⟩
set_option maxHeartbeats 1000000 in
theorem do_31 (a b : BitVec 64) (w : World) : Calls Try.prog 33 #[.int .i64 31, .int .u64 (U a), .int .u64 (U b)] w fun e w' => e = .returned (.tuple #[.int .u64 (U (a + b)), .bool true]) ∧ Drawn0 w w' := by
  have h63 := and_63 b
  have h31 := and_31 b
  have g63 : b.toNat % 64 ≤ 63 := by omega
  have g31 : b.toNat % 32 ≤ 31 := by omega
  have hla := U_low a
  have hlb := U_low b
  have hw := w32 a
  go_enter Try.func33, Try.ntmps33
  go_wp2_with (first | (go_at_call 15; refine (c_sext32 _ _).mono ?_; rintro e w' ⟨rfl, ⟨m2, rfl⟩⟩) | (go_at_call 27; refine (c_mulhu _ _ _).mono ?_; rintro e w' ⟨rfl, ⟨m1, rfl⟩⟩) | (go_at_call 29; refine (c_mulh _ _ _).mono ?_; rintro e w' ⟨rfl, ⟨m1, rfl⟩⟩) | (go_at_call 31; refine (c_mulhsu _ _ _).mono ?_; rintro e w' ⟨rfl, ⟨m1, rfl⟩⟩) | (go_at_call 23; refine (c_div _ _ _).mono ?_; rintro e w' ⟨rfl, ⟨m1, rfl⟩⟩) | (go_at_call 19; refine (c_divu _ _ _).mono ?_; rintro e w' ⟨rfl, ⟨m1, rfl⟩⟩) | (go_at_call 25; refine (c_rem _ _ _).mono ?_; rintro e w' ⟨rfl, ⟨m1, rfl⟩⟩) | (go_at_call 21; refine (c_remu _ _ _).mono ?_; rintro e w' ⟨rfl, ⟨m1, rfl⟩⟩) | go_in)
  go_ret2
  exact ⟨rfl, by repeat (first | exact Drawn0.refl _ | apply Drawn0.step)⟩
set_option maxHeartbeats 1000000 in
theorem do_32 (a b : BitVec 64) (w : World) : Calls Try.prog 33 #[.int .i64 32, .int .u64 (U a), .int .u64 (U b)] w fun e w' => e = .returned (.tuple #[.int .u64 (U (a - b)), .bool true]) ∧ Drawn0 w w' := by
  have h63 := and_63 b
  have h31 := and_31 b
  have g63 : b.toNat % 64 ≤ 63 := by omega
  have g31 : b.toNat % 32 ≤ 31 := by omega
  have hla := U_low a
  have hlb := U_low b
  have hw := w32 a
  go_enter Try.func33, Try.ntmps33
  go_wp2_with (first | (go_at_call 15; refine (c_sext32 _ _).mono ?_; rintro e w' ⟨rfl, ⟨m2, rfl⟩⟩) | (go_at_call 27; refine (c_mulhu _ _ _).mono ?_; rintro e w' ⟨rfl, ⟨m1, rfl⟩⟩) | (go_at_call 29; refine (c_mulh _ _ _).mono ?_; rintro e w' ⟨rfl, ⟨m1, rfl⟩⟩) | (go_at_call 31; refine (c_mulhsu _ _ _).mono ?_; rintro e w' ⟨rfl, ⟨m1, rfl⟩⟩) | (go_at_call 23; refine (c_div _ _ _).mono ?_; rintro e w' ⟨rfl, ⟨m1, rfl⟩⟩) | (go_at_call 19; refine (c_divu _ _ _).mono ?_; rintro e w' ⟨rfl, ⟨m1, rfl⟩⟩) | (go_at_call 25; refine (c_rem _ _ _).mono ?_; rintro e w' ⟨rfl, ⟨m1, rfl⟩⟩) | (go_at_call 21; refine (c_remu _ _ _).mono ?_; rintro e w' ⟨rfl, ⟨m1, rfl⟩⟩) | go_in)
  go_ret2
  exact ⟨rfl, by repeat (first | exact Drawn0.refl _ | apply Drawn0.step)⟩
set_option maxHeartbeats 1000000 in
theorem do_33 (a b : BitVec 64) (w : World) : Calls Try.prog 33 #[.int .i64 33, .int .u64 (U a), .int .u64 (U b)] w fun e w' => e = .returned (.tuple #[.int .u64 (U (a <<< (b.toNat % 64))), .bool true]) ∧ Drawn0 w w' := by
  have h63 := and_63 b
  have h31 := and_31 b
  have g63 : b.toNat % 64 ≤ 63 := by omega
  have g31 : b.toNat % 32 ≤ 31 := by omega
  have hla := U_low a
  have hlb := U_low b
  have hw := w32 a
  go_enter Try.func33, Try.ntmps33
  go_wp2_with (first | (go_at_call 15; refine (c_sext32 _ _).mono ?_; rintro e w' ⟨rfl, ⟨m2, rfl⟩⟩) | (go_at_call 27; refine (c_mulhu _ _ _).mono ?_; rintro e w' ⟨rfl, ⟨m1, rfl⟩⟩) | (go_at_call 29; refine (c_mulh _ _ _).mono ?_; rintro e w' ⟨rfl, ⟨m1, rfl⟩⟩) | (go_at_call 31; refine (c_mulhsu _ _ _).mono ?_; rintro e w' ⟨rfl, ⟨m1, rfl⟩⟩) | (go_at_call 23; refine (c_div _ _ _).mono ?_; rintro e w' ⟨rfl, ⟨m1, rfl⟩⟩) | (go_at_call 19; refine (c_divu _ _ _).mono ?_; rintro e w' ⟨rfl, ⟨m1, rfl⟩⟩) | (go_at_call 25; refine (c_rem _ _ _).mono ?_; rintro e w' ⟨rfl, ⟨m1, rfl⟩⟩) | (go_at_call 21; refine (c_remu _ _ _).mono ?_; rintro e w' ⟨rfl, ⟨m1, rfl⟩⟩) | go_in)
  go_ret2
  exact ⟨rfl, by repeat (first | exact Drawn0.refl _ | apply Drawn0.step)⟩
set_option maxHeartbeats 1000000 in
theorem do_34 (a b : BitVec 64) (w : World) : Calls Try.prog 33 #[.int .i64 34, .int .u64 (U a), .int .u64 (U b)] w fun e w' => e = .returned (.tuple #[.int .u64 (U (tr (decide (a.toInt < b.toInt)))), .bool true]) ∧ Drawn0 w w' := by
  have h63 := and_63 b
  have h31 := and_31 b
  have g63 : b.toNat % 64 ≤ 63 := by omega
  have g31 : b.toNat % 32 ≤ 31 := by omega
  have hla := U_low a
  have hlb := U_low b
  have hw := w32 a
  by_cases hc : a.toInt < b.toInt
  · have t0 : decide (a.toInt < b.toInt) = true := decide_eq_true hc
    rw [t0, ← U_tr_t]
    go_enter Try.func33, Try.ntmps33
    go_wp2_with (first | (go_at_call 15; refine (c_sext32 _ _).mono ?_; rintro e w' ⟨rfl, ⟨m2, rfl⟩⟩) | (go_at_call 27; refine (c_mulhu _ _ _).mono ?_; rintro e w' ⟨rfl, ⟨m1, rfl⟩⟩) | (go_at_call 29; refine (c_mulh _ _ _).mono ?_; rintro e w' ⟨rfl, ⟨m1, rfl⟩⟩) | (go_at_call 31; refine (c_mulhsu _ _ _).mono ?_; rintro e w' ⟨rfl, ⟨m1, rfl⟩⟩) | (go_at_call 23; refine (c_div _ _ _).mono ?_; rintro e w' ⟨rfl, ⟨m1, rfl⟩⟩) | (go_at_call 19; refine (c_divu _ _ _).mono ?_; rintro e w' ⟨rfl, ⟨m1, rfl⟩⟩) | (go_at_call 25; refine (c_rem _ _ _).mono ?_; rintro e w' ⟨rfl, ⟨m1, rfl⟩⟩) | (go_at_call 21; refine (c_remu _ _ _).mono ?_; rintro e w' ⟨rfl, ⟨m1, rfl⟩⟩) | go_in)
    go_ret2
    exact ⟨rfl, by repeat (first | exact Drawn0.refl _ | apply Drawn0.step)⟩
  · have t0 : decide (a.toInt < b.toInt) = false := decide_eq_false hc
    rw [t0, ← U_tr_f]
    go_enter Try.func33, Try.ntmps33
    go_wp2_with (first | (go_at_call 15; refine (c_sext32 _ _).mono ?_; rintro e w' ⟨rfl, ⟨m2, rfl⟩⟩) | (go_at_call 27; refine (c_mulhu _ _ _).mono ?_; rintro e w' ⟨rfl, ⟨m1, rfl⟩⟩) | (go_at_call 29; refine (c_mulh _ _ _).mono ?_; rintro e w' ⟨rfl, ⟨m1, rfl⟩⟩) | (go_at_call 31; refine (c_mulhsu _ _ _).mono ?_; rintro e w' ⟨rfl, ⟨m1, rfl⟩⟩) | (go_at_call 23; refine (c_div _ _ _).mono ?_; rintro e w' ⟨rfl, ⟨m1, rfl⟩⟩) | (go_at_call 19; refine (c_divu _ _ _).mono ?_; rintro e w' ⟨rfl, ⟨m1, rfl⟩⟩) | (go_at_call 25; refine (c_rem _ _ _).mono ?_; rintro e w' ⟨rfl, ⟨m1, rfl⟩⟩) | (go_at_call 21; refine (c_remu _ _ _).mono ?_; rintro e w' ⟨rfl, ⟨m1, rfl⟩⟩) | go_in)
    go_ret2
    exact ⟨rfl, by repeat (first | exact Drawn0.refl _ | apply Drawn0.step)⟩
set_option maxHeartbeats 1000000 in
theorem do_35 (a b : BitVec 64) (w : World) : Calls Try.prog 33 #[.int .i64 35, .int .u64 (U a), .int .u64 (U b)] w fun e w' => e = .returned (.tuple #[.int .u64 (U (tr (decide (U a < U b)))), .bool true]) ∧ Drawn0 w w' := by
  have h63 := and_63 b
  have h31 := and_31 b
  have g63 : b.toNat % 64 ≤ 63 := by omega
  have g31 : b.toNat % 32 ≤ 31 := by omega
  have hla := U_low a
  have hlb := U_low b
  have hw := w32 a
  by_cases hc : U a < U b
  · have t0 : decide (U a < U b) = true := decide_eq_true hc
    rw [t0, ← U_tr_t]
    go_enter Try.func33, Try.ntmps33
    go_wp2_with (first | (go_at_call 15; refine (c_sext32 _ _).mono ?_; rintro e w' ⟨rfl, ⟨m2, rfl⟩⟩) | (go_at_call 27; refine (c_mulhu _ _ _).mono ?_; rintro e w' ⟨rfl, ⟨m1, rfl⟩⟩) | (go_at_call 29; refine (c_mulh _ _ _).mono ?_; rintro e w' ⟨rfl, ⟨m1, rfl⟩⟩) | (go_at_call 31; refine (c_mulhsu _ _ _).mono ?_; rintro e w' ⟨rfl, ⟨m1, rfl⟩⟩) | (go_at_call 23; refine (c_div _ _ _).mono ?_; rintro e w' ⟨rfl, ⟨m1, rfl⟩⟩) | (go_at_call 19; refine (c_divu _ _ _).mono ?_; rintro e w' ⟨rfl, ⟨m1, rfl⟩⟩) | (go_at_call 25; refine (c_rem _ _ _).mono ?_; rintro e w' ⟨rfl, ⟨m1, rfl⟩⟩) | (go_at_call 21; refine (c_remu _ _ _).mono ?_; rintro e w' ⟨rfl, ⟨m1, rfl⟩⟩) | go_in)
    go_ret2
    exact ⟨rfl, by repeat (first | exact Drawn0.refl _ | apply Drawn0.step)⟩
  · have t0 : decide (U a < U b) = false := decide_eq_false hc
    rw [t0, ← U_tr_f]
    go_enter Try.func33, Try.ntmps33
    go_wp2_with (first | (go_at_call 15; refine (c_sext32 _ _).mono ?_; rintro e w' ⟨rfl, ⟨m2, rfl⟩⟩) | (go_at_call 27; refine (c_mulhu _ _ _).mono ?_; rintro e w' ⟨rfl, ⟨m1, rfl⟩⟩) | (go_at_call 29; refine (c_mulh _ _ _).mono ?_; rintro e w' ⟨rfl, ⟨m1, rfl⟩⟩) | (go_at_call 31; refine (c_mulhsu _ _ _).mono ?_; rintro e w' ⟨rfl, ⟨m1, rfl⟩⟩) | (go_at_call 23; refine (c_div _ _ _).mono ?_; rintro e w' ⟨rfl, ⟨m1, rfl⟩⟩) | (go_at_call 19; refine (c_divu _ _ _).mono ?_; rintro e w' ⟨rfl, ⟨m1, rfl⟩⟩) | (go_at_call 25; refine (c_rem _ _ _).mono ?_; rintro e w' ⟨rfl, ⟨m1, rfl⟩⟩) | (go_at_call 21; refine (c_remu _ _ _).mono ?_; rintro e w' ⟨rfl, ⟨m1, rfl⟩⟩) | go_in)
    go_ret2
    exact ⟨rfl, by repeat (first | exact Drawn0.refl _ | apply Drawn0.step)⟩
set_option maxHeartbeats 1000000 in
theorem do_36 (a b : BitVec 64) (w : World) : Calls Try.prog 33 #[.int .i64 36, .int .u64 (U a), .int .u64 (U b)] w fun e w' => e = .returned (.tuple #[.int .u64 (U (a ^^^ b)), .bool true]) ∧ Drawn0 w w' := by
  have h63 := and_63 b
  have h31 := and_31 b
  have g63 : b.toNat % 64 ≤ 63 := by omega
  have g31 : b.toNat % 32 ≤ 31 := by omega
  have hla := U_low a
  have hlb := U_low b
  have hw := w32 a
  go_enter Try.func33, Try.ntmps33
  go_wp2_with (first | (go_at_call 15; refine (c_sext32 _ _).mono ?_; rintro e w' ⟨rfl, ⟨m2, rfl⟩⟩) | (go_at_call 27; refine (c_mulhu _ _ _).mono ?_; rintro e w' ⟨rfl, ⟨m1, rfl⟩⟩) | (go_at_call 29; refine (c_mulh _ _ _).mono ?_; rintro e w' ⟨rfl, ⟨m1, rfl⟩⟩) | (go_at_call 31; refine (c_mulhsu _ _ _).mono ?_; rintro e w' ⟨rfl, ⟨m1, rfl⟩⟩) | (go_at_call 23; refine (c_div _ _ _).mono ?_; rintro e w' ⟨rfl, ⟨m1, rfl⟩⟩) | (go_at_call 19; refine (c_divu _ _ _).mono ?_; rintro e w' ⟨rfl, ⟨m1, rfl⟩⟩) | (go_at_call 25; refine (c_rem _ _ _).mono ?_; rintro e w' ⟨rfl, ⟨m1, rfl⟩⟩) | (go_at_call 21; refine (c_remu _ _ _).mono ?_; rintro e w' ⟨rfl, ⟨m1, rfl⟩⟩) | go_in)
  go_ret2
  exact ⟨rfl, by repeat (first | exact Drawn0.refl _ | apply Drawn0.step)⟩
set_option maxHeartbeats 1000000 in
theorem do_37 (a b : BitVec 64) (w : World) : Calls Try.prog 33 #[.int .i64 37, .int .u64 (U a), .int .u64 (U b)] w fun e w' => e = .returned (.tuple #[.int .u64 (U (a >>> (b.toNat % 64))), .bool true]) ∧ Drawn0 w w' := by
  have h63 := and_63 b
  have h31 := and_31 b
  have g63 : b.toNat % 64 ≤ 63 := by omega
  have g31 : b.toNat % 32 ≤ 31 := by omega
  have hla := U_low a
  have hlb := U_low b
  have hw := w32 a
  go_enter Try.func33, Try.ntmps33
  go_wp2_with (first | (go_at_call 15; refine (c_sext32 _ _).mono ?_; rintro e w' ⟨rfl, ⟨m2, rfl⟩⟩) | (go_at_call 27; refine (c_mulhu _ _ _).mono ?_; rintro e w' ⟨rfl, ⟨m1, rfl⟩⟩) | (go_at_call 29; refine (c_mulh _ _ _).mono ?_; rintro e w' ⟨rfl, ⟨m1, rfl⟩⟩) | (go_at_call 31; refine (c_mulhsu _ _ _).mono ?_; rintro e w' ⟨rfl, ⟨m1, rfl⟩⟩) | (go_at_call 23; refine (c_div _ _ _).mono ?_; rintro e w' ⟨rfl, ⟨m1, rfl⟩⟩) | (go_at_call 19; refine (c_divu _ _ _).mono ?_; rintro e w' ⟨rfl, ⟨m1, rfl⟩⟩) | (go_at_call 25; refine (c_rem _ _ _).mono ?_; rintro e w' ⟨rfl, ⟨m1, rfl⟩⟩) | (go_at_call 21; refine (c_remu _ _ _).mono ?_; rintro e w' ⟨rfl, ⟨m1, rfl⟩⟩) | go_in)
  go_ret2
  exact ⟨rfl, by repeat (first | exact Drawn0.refl _ | apply Drawn0.step)⟩
set_option maxHeartbeats 1000000 in
theorem do_38 (a b : BitVec 64) (w : World) : Calls Try.prog 33 #[.int .i64 38, .int .u64 (U a), .int .u64 (U b)] w fun e w' => e = .returned (.tuple #[.int .u64 (U (a.sshiftRight (b.toNat % 64))), .bool true]) ∧ Drawn0 w w' := by
  have h63 := and_63 b
  have h31 := and_31 b
  have g63 : b.toNat % 64 ≤ 63 := by omega
  have g31 : b.toNat % 32 ≤ 31 := by omega
  have hla := U_low a
  have hlb := U_low b
  have hw := w32 a
  go_enter Try.func33, Try.ntmps33
  go_wp2_with (first | (go_at_call 15; refine (c_sext32 _ _).mono ?_; rintro e w' ⟨rfl, ⟨m2, rfl⟩⟩) | (go_at_call 27; refine (c_mulhu _ _ _).mono ?_; rintro e w' ⟨rfl, ⟨m1, rfl⟩⟩) | (go_at_call 29; refine (c_mulh _ _ _).mono ?_; rintro e w' ⟨rfl, ⟨m1, rfl⟩⟩) | (go_at_call 31; refine (c_mulhsu _ _ _).mono ?_; rintro e w' ⟨rfl, ⟨m1, rfl⟩⟩) | (go_at_call 23; refine (c_div _ _ _).mono ?_; rintro e w' ⟨rfl, ⟨m1, rfl⟩⟩) | (go_at_call 19; refine (c_divu _ _ _).mono ?_; rintro e w' ⟨rfl, ⟨m1, rfl⟩⟩) | (go_at_call 25; refine (c_rem _ _ _).mono ?_; rintro e w' ⟨rfl, ⟨m1, rfl⟩⟩) | (go_at_call 21; refine (c_remu _ _ _).mono ?_; rintro e w' ⟨rfl, ⟨m1, rfl⟩⟩) | go_in)
  go_ret2
  exact ⟨rfl, by repeat (first | exact Drawn0.refl _ | apply Drawn0.step)⟩
set_option maxHeartbeats 1000000 in
theorem do_39 (a b : BitVec 64) (w : World) : Calls Try.prog 33 #[.int .i64 39, .int .u64 (U a), .int .u64 (U b)] w fun e w' => e = .returned (.tuple #[.int .u64 (U (a ||| b)), .bool true]) ∧ Drawn0 w w' := by
  have h63 := and_63 b
  have h31 := and_31 b
  have g63 : b.toNat % 64 ≤ 63 := by omega
  have g31 : b.toNat % 32 ≤ 31 := by omega
  have hla := U_low a
  have hlb := U_low b
  have hw := w32 a
  go_enter Try.func33, Try.ntmps33
  go_wp2_with (first | (go_at_call 15; refine (c_sext32 _ _).mono ?_; rintro e w' ⟨rfl, ⟨m2, rfl⟩⟩) | (go_at_call 27; refine (c_mulhu _ _ _).mono ?_; rintro e w' ⟨rfl, ⟨m1, rfl⟩⟩) | (go_at_call 29; refine (c_mulh _ _ _).mono ?_; rintro e w' ⟨rfl, ⟨m1, rfl⟩⟩) | (go_at_call 31; refine (c_mulhsu _ _ _).mono ?_; rintro e w' ⟨rfl, ⟨m1, rfl⟩⟩) | (go_at_call 23; refine (c_div _ _ _).mono ?_; rintro e w' ⟨rfl, ⟨m1, rfl⟩⟩) | (go_at_call 19; refine (c_divu _ _ _).mono ?_; rintro e w' ⟨rfl, ⟨m1, rfl⟩⟩) | (go_at_call 25; refine (c_rem _ _ _).mono ?_; rintro e w' ⟨rfl, ⟨m1, rfl⟩⟩) | (go_at_call 21; refine (c_remu _ _ _).mono ?_; rintro e w' ⟨rfl, ⟨m1, rfl⟩⟩) | go_in)
  go_ret2
  exact ⟨rfl, by repeat (first | exact Drawn0.refl _ | apply Drawn0.step)⟩
set_option maxHeartbeats 1000000 in
theorem do_40 (a b : BitVec 64) (w : World) : Calls Try.prog 33 #[.int .i64 40, .int .u64 (U a), .int .u64 (U b)] w fun e w' => e = .returned (.tuple #[.int .u64 (U (a &&& b)), .bool true]) ∧ Drawn0 w w' := by
  have h63 := and_63 b
  have h31 := and_31 b
  have g63 : b.toNat % 64 ≤ 63 := by omega
  have g31 : b.toNat % 32 ≤ 31 := by omega
  have hla := U_low a
  have hlb := U_low b
  have hw := w32 a
  go_enter Try.func33, Try.ntmps33
  go_wp2_with (first | (go_at_call 15; refine (c_sext32 _ _).mono ?_; rintro e w' ⟨rfl, ⟨m2, rfl⟩⟩) | (go_at_call 27; refine (c_mulhu _ _ _).mono ?_; rintro e w' ⟨rfl, ⟨m1, rfl⟩⟩) | (go_at_call 29; refine (c_mulh _ _ _).mono ?_; rintro e w' ⟨rfl, ⟨m1, rfl⟩⟩) | (go_at_call 31; refine (c_mulhsu _ _ _).mono ?_; rintro e w' ⟨rfl, ⟨m1, rfl⟩⟩) | (go_at_call 23; refine (c_div _ _ _).mono ?_; rintro e w' ⟨rfl, ⟨m1, rfl⟩⟩) | (go_at_call 19; refine (c_divu _ _ _).mono ?_; rintro e w' ⟨rfl, ⟨m1, rfl⟩⟩) | (go_at_call 25; refine (c_rem _ _ _).mono ?_; rintro e w' ⟨rfl, ⟨m1, rfl⟩⟩) | (go_at_call 21; refine (c_remu _ _ _).mono ?_; rintro e w' ⟨rfl, ⟨m1, rfl⟩⟩) | go_in)
  go_ret2
  exact ⟨rfl, by repeat (first | exact Drawn0.refl _ | apply Drawn0.step)⟩
set_option maxHeartbeats 1000000 in
theorem do_41 (a b : BitVec 64) (w : World) : Calls Try.prog 33 #[.int .i64 41, .int .u64 (U a), .int .u64 (U b)] w fun e w' => e = .returned (.tuple #[.int .u64 (U (sx (a + b) 32)), .bool true]) ∧ Drawn0 w w' := by
  have h63 := and_63 b
  have h31 := and_31 b
  have g63 : b.toNat % 64 ≤ 63 := by omega
  have g31 : b.toNat % 32 ≤ 31 := by omega
  have hla := U_low a
  have hlb := U_low b
  have hw := w32 a
  go_enter Try.func33, Try.ntmps33
  go_wp2_with (first | (go_at_call 15; refine (c_sext32 _ _).mono ?_; rintro e w' ⟨rfl, ⟨m2, rfl⟩⟩) | (go_at_call 27; refine (c_mulhu _ _ _).mono ?_; rintro e w' ⟨rfl, ⟨m1, rfl⟩⟩) | (go_at_call 29; refine (c_mulh _ _ _).mono ?_; rintro e w' ⟨rfl, ⟨m1, rfl⟩⟩) | (go_at_call 31; refine (c_mulhsu _ _ _).mono ?_; rintro e w' ⟨rfl, ⟨m1, rfl⟩⟩) | (go_at_call 23; refine (c_div _ _ _).mono ?_; rintro e w' ⟨rfl, ⟨m1, rfl⟩⟩) | (go_at_call 19; refine (c_divu _ _ _).mono ?_; rintro e w' ⟨rfl, ⟨m1, rfl⟩⟩) | (go_at_call 25; refine (c_rem _ _ _).mono ?_; rintro e w' ⟨rfl, ⟨m1, rfl⟩⟩) | (go_at_call 21; refine (c_remu _ _ _).mono ?_; rintro e w' ⟨rfl, ⟨m1, rfl⟩⟩) | go_in)
  go_ret2
  exact ⟨rfl, by repeat (first | exact Drawn0.refl _ | apply Drawn0.step)⟩
set_option maxHeartbeats 1000000 in
theorem do_42 (a b : BitVec 64) (w : World) : Calls Try.prog 33 #[.int .i64 42, .int .u64 (U a), .int .u64 (U b)] w fun e w' => e = .returned (.tuple #[.int .u64 (U (sx (a <<< (b.toNat % 32)) 32)), .bool true]) ∧ Drawn0 w w' := by
  have h63 := and_63 b
  have h31 := and_31 b
  have g63 : b.toNat % 64 ≤ 63 := by omega
  have g31 : b.toNat % 32 ≤ 31 := by omega
  have hla := U_low a
  have hlb := U_low b
  have hw := w32 a
  go_enter Try.func33, Try.ntmps33
  go_wp2_with (first | (go_at_call 15; refine (c_sext32 _ _).mono ?_; rintro e w' ⟨rfl, ⟨m2, rfl⟩⟩) | (go_at_call 27; refine (c_mulhu _ _ _).mono ?_; rintro e w' ⟨rfl, ⟨m1, rfl⟩⟩) | (go_at_call 29; refine (c_mulh _ _ _).mono ?_; rintro e w' ⟨rfl, ⟨m1, rfl⟩⟩) | (go_at_call 31; refine (c_mulhsu _ _ _).mono ?_; rintro e w' ⟨rfl, ⟨m1, rfl⟩⟩) | (go_at_call 23; refine (c_div _ _ _).mono ?_; rintro e w' ⟨rfl, ⟨m1, rfl⟩⟩) | (go_at_call 19; refine (c_divu _ _ _).mono ?_; rintro e w' ⟨rfl, ⟨m1, rfl⟩⟩) | (go_at_call 25; refine (c_rem _ _ _).mono ?_; rintro e w' ⟨rfl, ⟨m1, rfl⟩⟩) | (go_at_call 21; refine (c_remu _ _ _).mono ?_; rintro e w' ⟨rfl, ⟨m1, rfl⟩⟩) | go_in)
  go_ret2
  exact ⟨rfl, by repeat (first | exact Drawn0.refl _ | apply Drawn0.step)⟩
set_option maxHeartbeats 1000000 in
theorem do_43 (a b : BitVec 64) (w : World) : Calls Try.prog 33 #[.int .i64 43, .int .u64 (U a), .int .u64 (U b)] w fun e w' => e = .returned (.tuple #[.int .u64 (U (sx ((BitVec.ofNat 64 (a.toNat % 4294967296)) >>> (b.toNat % 32)) 32)), .bool true]) ∧ Drawn0 w w' := by
  have h63 := and_63 b
  have h31 := and_31 b
  have g63 : b.toNat % 64 ≤ 63 := by omega
  have g31 : b.toNat % 32 ≤ 31 := by omega
  have hla := U_low a
  have hlb := U_low b
  have hw := w32 a
  go_enter Try.func33, Try.ntmps33
  go_wp2_with (first | (go_at_call 15; refine (c_sext32 _ _).mono ?_; rintro e w' ⟨rfl, ⟨m2, rfl⟩⟩) | (go_at_call 27; refine (c_mulhu _ _ _).mono ?_; rintro e w' ⟨rfl, ⟨m1, rfl⟩⟩) | (go_at_call 29; refine (c_mulh _ _ _).mono ?_; rintro e w' ⟨rfl, ⟨m1, rfl⟩⟩) | (go_at_call 31; refine (c_mulhsu _ _ _).mono ?_; rintro e w' ⟨rfl, ⟨m1, rfl⟩⟩) | (go_at_call 23; refine (c_div _ _ _).mono ?_; rintro e w' ⟨rfl, ⟨m1, rfl⟩⟩) | (go_at_call 19; refine (c_divu _ _ _).mono ?_; rintro e w' ⟨rfl, ⟨m1, rfl⟩⟩) | (go_at_call 25; refine (c_rem _ _ _).mono ?_; rintro e w' ⟨rfl, ⟨m1, rfl⟩⟩) | (go_at_call 21; refine (c_remu _ _ _).mono ?_; rintro e w' ⟨rfl, ⟨m1, rfl⟩⟩) | go_in)
  go_ret2
  exact ⟨rfl, by repeat (first | exact Drawn0.refl _ | apply Drawn0.step)⟩
set_option maxHeartbeats 1000000 in
theorem do_44 (a b : BitVec 64) (w : World) : Calls Try.prog 33 #[.int .i64 44, .int .u64 (U a), .int .u64 (U b)] w fun e w' => e = .returned (.tuple #[.int .u64 (U (sx ((sx a 32).sshiftRight (b.toNat % 32)) 32)), .bool true]) ∧ Drawn0 w w' := by
  have h63 := and_63 b
  have h31 := and_31 b
  have g63 : b.toNat % 64 ≤ 63 := by omega
  have g31 : b.toNat % 32 ≤ 31 := by omega
  have hla := U_low a
  have hlb := U_low b
  have hw := w32 a
  go_enter Try.func33, Try.ntmps33
  go_wp2_with (first | (go_at_call 15; refine (c_sext32 _ _).mono ?_; rintro e w' ⟨rfl, ⟨m2, rfl⟩⟩) | (go_at_call 27; refine (c_mulhu _ _ _).mono ?_; rintro e w' ⟨rfl, ⟨m1, rfl⟩⟩) | (go_at_call 29; refine (c_mulh _ _ _).mono ?_; rintro e w' ⟨rfl, ⟨m1, rfl⟩⟩) | (go_at_call 31; refine (c_mulhsu _ _ _).mono ?_; rintro e w' ⟨rfl, ⟨m1, rfl⟩⟩) | (go_at_call 23; refine (c_div _ _ _).mono ?_; rintro e w' ⟨rfl, ⟨m1, rfl⟩⟩) | (go_at_call 19; refine (c_divu _ _ _).mono ?_; rintro e w' ⟨rfl, ⟨m1, rfl⟩⟩) | (go_at_call 25; refine (c_rem _ _ _).mono ?_; rintro e w' ⟨rfl, ⟨m1, rfl⟩⟩) | (go_at_call 21; refine (c_remu _ _ _).mono ?_; rintro e w' ⟨rfl, ⟨m1, rfl⟩⟩) | go_in)
  go_ret2
  exact ⟨rfl, by repeat (first | exact Drawn0.refl _ | apply Drawn0.step)⟩
set_option maxHeartbeats 1000000 in
theorem do_45 (a b : BitVec 64) (w : World) : Calls Try.prog 33 #[.int .i64 45, .int .u64 (U a), .int .u64 (U b)] w fun e w' => e = .returned (.tuple #[.int .u64 (U (sx (a + b) 32)), .bool true]) ∧ Drawn0 w w' := by
  have h63 := and_63 b
  have h31 := and_31 b
  have g63 : b.toNat % 64 ≤ 63 := by omega
  have g31 : b.toNat % 32 ≤ 31 := by omega
  have hla := U_low a
  have hlb := U_low b
  have hw := w32 a
  go_enter Try.func33, Try.ntmps33
  go_wp2_with (first | (go_at_call 15; refine (c_sext32 _ _).mono ?_; rintro e w' ⟨rfl, ⟨m2, rfl⟩⟩) | (go_at_call 27; refine (c_mulhu _ _ _).mono ?_; rintro e w' ⟨rfl, ⟨m1, rfl⟩⟩) | (go_at_call 29; refine (c_mulh _ _ _).mono ?_; rintro e w' ⟨rfl, ⟨m1, rfl⟩⟩) | (go_at_call 31; refine (c_mulhsu _ _ _).mono ?_; rintro e w' ⟨rfl, ⟨m1, rfl⟩⟩) | (go_at_call 23; refine (c_div _ _ _).mono ?_; rintro e w' ⟨rfl, ⟨m1, rfl⟩⟩) | (go_at_call 19; refine (c_divu _ _ _).mono ?_; rintro e w' ⟨rfl, ⟨m1, rfl⟩⟩) | (go_at_call 25; refine (c_rem _ _ _).mono ?_; rintro e w' ⟨rfl, ⟨m1, rfl⟩⟩) | (go_at_call 21; refine (c_remu _ _ _).mono ?_; rintro e w' ⟨rfl, ⟨m1, rfl⟩⟩) | go_in)
  go_ret2
  exact ⟨rfl, by repeat (first | exact Drawn0.refl _ | apply Drawn0.step)⟩
set_option maxHeartbeats 1000000 in
theorem do_46 (a b : BitVec 64) (w : World) : Calls Try.prog 33 #[.int .i64 46, .int .u64 (U a), .int .u64 (U b)] w fun e w' => e = .returned (.tuple #[.int .u64 (U (sx (a - b) 32)), .bool true]) ∧ Drawn0 w w' := by
  have h63 := and_63 b
  have h31 := and_31 b
  have g63 : b.toNat % 64 ≤ 63 := by omega
  have g31 : b.toNat % 32 ≤ 31 := by omega
  have hla := U_low a
  have hlb := U_low b
  have hw := w32 a
  go_enter Try.func33, Try.ntmps33
  go_wp2_with (first | (go_at_call 15; refine (c_sext32 _ _).mono ?_; rintro e w' ⟨rfl, ⟨m2, rfl⟩⟩) | (go_at_call 27; refine (c_mulhu _ _ _).mono ?_; rintro e w' ⟨rfl, ⟨m1, rfl⟩⟩) | (go_at_call 29; refine (c_mulh _ _ _).mono ?_; rintro e w' ⟨rfl, ⟨m1, rfl⟩⟩) | (go_at_call 31; refine (c_mulhsu _ _ _).mono ?_; rintro e w' ⟨rfl, ⟨m1, rfl⟩⟩) | (go_at_call 23; refine (c_div _ _ _).mono ?_; rintro e w' ⟨rfl, ⟨m1, rfl⟩⟩) | (go_at_call 19; refine (c_divu _ _ _).mono ?_; rintro e w' ⟨rfl, ⟨m1, rfl⟩⟩) | (go_at_call 25; refine (c_rem _ _ _).mono ?_; rintro e w' ⟨rfl, ⟨m1, rfl⟩⟩) | (go_at_call 21; refine (c_remu _ _ _).mono ?_; rintro e w' ⟨rfl, ⟨m1, rfl⟩⟩) | go_in)
  go_ret2
  exact ⟨rfl, by repeat (first | exact Drawn0.refl _ | apply Drawn0.step)⟩
set_option maxHeartbeats 1000000 in
theorem do_47 (a b : BitVec 64) (w : World) : Calls Try.prog 33 #[.int .i64 47, .int .u64 (U a), .int .u64 (U b)] w fun e w' => e = .returned (.tuple #[.int .u64 (U (sx (a <<< (b.toNat % 32)) 32)), .bool true]) ∧ Drawn0 w w' := by
  have h63 := and_63 b
  have h31 := and_31 b
  have g63 : b.toNat % 64 ≤ 63 := by omega
  have g31 : b.toNat % 32 ≤ 31 := by omega
  have hla := U_low a
  have hlb := U_low b
  have hw := w32 a
  go_enter Try.func33, Try.ntmps33
  go_wp2_with (first | (go_at_call 15; refine (c_sext32 _ _).mono ?_; rintro e w' ⟨rfl, ⟨m2, rfl⟩⟩) | (go_at_call 27; refine (c_mulhu _ _ _).mono ?_; rintro e w' ⟨rfl, ⟨m1, rfl⟩⟩) | (go_at_call 29; refine (c_mulh _ _ _).mono ?_; rintro e w' ⟨rfl, ⟨m1, rfl⟩⟩) | (go_at_call 31; refine (c_mulhsu _ _ _).mono ?_; rintro e w' ⟨rfl, ⟨m1, rfl⟩⟩) | (go_at_call 23; refine (c_div _ _ _).mono ?_; rintro e w' ⟨rfl, ⟨m1, rfl⟩⟩) | (go_at_call 19; refine (c_divu _ _ _).mono ?_; rintro e w' ⟨rfl, ⟨m1, rfl⟩⟩) | (go_at_call 25; refine (c_rem _ _ _).mono ?_; rintro e w' ⟨rfl, ⟨m1, rfl⟩⟩) | (go_at_call 21; refine (c_remu _ _ _).mono ?_; rintro e w' ⟨rfl, ⟨m1, rfl⟩⟩) | go_in)
  go_ret2
  exact ⟨rfl, by repeat (first | exact Drawn0.refl _ | apply Drawn0.step)⟩
set_option maxHeartbeats 1000000 in
theorem do_48 (a b : BitVec 64) (w : World) : Calls Try.prog 33 #[.int .i64 48, .int .u64 (U a), .int .u64 (U b)] w fun e w' => e = .returned (.tuple #[.int .u64 (U (sx ((BitVec.ofNat 64 (a.toNat % 4294967296)) >>> (b.toNat % 32)) 32)), .bool true]) ∧ Drawn0 w w' := by
  have h63 := and_63 b
  have h31 := and_31 b
  have g63 : b.toNat % 64 ≤ 63 := by omega
  have g31 : b.toNat % 32 ≤ 31 := by omega
  have hla := U_low a
  have hlb := U_low b
  have hw := w32 a
  go_enter Try.func33, Try.ntmps33
  go_wp2_with (first | (go_at_call 15; refine (c_sext32 _ _).mono ?_; rintro e w' ⟨rfl, ⟨m2, rfl⟩⟩) | (go_at_call 27; refine (c_mulhu _ _ _).mono ?_; rintro e w' ⟨rfl, ⟨m1, rfl⟩⟩) | (go_at_call 29; refine (c_mulh _ _ _).mono ?_; rintro e w' ⟨rfl, ⟨m1, rfl⟩⟩) | (go_at_call 31; refine (c_mulhsu _ _ _).mono ?_; rintro e w' ⟨rfl, ⟨m1, rfl⟩⟩) | (go_at_call 23; refine (c_div _ _ _).mono ?_; rintro e w' ⟨rfl, ⟨m1, rfl⟩⟩) | (go_at_call 19; refine (c_divu _ _ _).mono ?_; rintro e w' ⟨rfl, ⟨m1, rfl⟩⟩) | (go_at_call 25; refine (c_rem _ _ _).mono ?_; rintro e w' ⟨rfl, ⟨m1, rfl⟩⟩) | (go_at_call 21; refine (c_remu _ _ _).mono ?_; rintro e w' ⟨rfl, ⟨m1, rfl⟩⟩) | go_in)
  go_ret2
  exact ⟨rfl, by repeat (first | exact Drawn0.refl _ | apply Drawn0.step)⟩
set_option maxHeartbeats 1000000 in
theorem do_49 (a b : BitVec 64) (w : World) : Calls Try.prog 33 #[.int .i64 49, .int .u64 (U a), .int .u64 (U b)] w fun e w' => e = .returned (.tuple #[.int .u64 (U (sx ((sx a 32).sshiftRight (b.toNat % 32)) 32)), .bool true]) ∧ Drawn0 w w' := by
  have h63 := and_63 b
  have h31 := and_31 b
  have g63 : b.toNat % 64 ≤ 63 := by omega
  have g31 : b.toNat % 32 ≤ 31 := by omega
  have hla := U_low a
  have hlb := U_low b
  have hw := w32 a
  go_enter Try.func33, Try.ntmps33
  go_wp2_with (first | (go_at_call 15; refine (c_sext32 _ _).mono ?_; rintro e w' ⟨rfl, ⟨m2, rfl⟩⟩) | (go_at_call 27; refine (c_mulhu _ _ _).mono ?_; rintro e w' ⟨rfl, ⟨m1, rfl⟩⟩) | (go_at_call 29; refine (c_mulh _ _ _).mono ?_; rintro e w' ⟨rfl, ⟨m1, rfl⟩⟩) | (go_at_call 31; refine (c_mulhsu _ _ _).mono ?_; rintro e w' ⟨rfl, ⟨m1, rfl⟩⟩) | (go_at_call 23; refine (c_div _ _ _).mono ?_; rintro e w' ⟨rfl, ⟨m1, rfl⟩⟩) | (go_at_call 19; refine (c_divu _ _ _).mono ?_; rintro e w' ⟨rfl, ⟨m1, rfl⟩⟩) | (go_at_call 25; refine (c_rem _ _ _).mono ?_; rintro e w' ⟨rfl, ⟨m1, rfl⟩⟩) | (go_at_call 21; refine (c_remu _ _ _).mono ?_; rintro e w' ⟨rfl, ⟨m1, rfl⟩⟩) | go_in)
  go_ret2
  exact ⟨rfl, by repeat (first | exact Drawn0.refl _ | apply Drawn0.step)⟩
set_option maxHeartbeats 1000000 in
theorem do_50 (a b : BitVec 64) (w : World) : Calls Try.prog 33 #[.int .i64 50, .int .u64 (U a), .int .u64 (U b)] w fun e w' => e = .returned (.tuple #[.int .u64 (U (a * b)), .bool true]) ∧ Drawn0 w w' := by
  have h63 := and_63 b
  have h31 := and_31 b
  have g63 : b.toNat % 64 ≤ 63 := by omega
  have g31 : b.toNat % 32 ≤ 31 := by omega
  have hla := U_low a
  have hlb := U_low b
  have hw := w32 a
  go_enter Try.func33, Try.ntmps33
  go_wp2_with (first | (go_at_call 15; refine (c_sext32 _ _).mono ?_; rintro e w' ⟨rfl, ⟨m2, rfl⟩⟩) | (go_at_call 27; refine (c_mulhu _ _ _).mono ?_; rintro e w' ⟨rfl, ⟨m1, rfl⟩⟩) | (go_at_call 29; refine (c_mulh _ _ _).mono ?_; rintro e w' ⟨rfl, ⟨m1, rfl⟩⟩) | (go_at_call 31; refine (c_mulhsu _ _ _).mono ?_; rintro e w' ⟨rfl, ⟨m1, rfl⟩⟩) | (go_at_call 23; refine (c_div _ _ _).mono ?_; rintro e w' ⟨rfl, ⟨m1, rfl⟩⟩) | (go_at_call 19; refine (c_divu _ _ _).mono ?_; rintro e w' ⟨rfl, ⟨m1, rfl⟩⟩) | (go_at_call 25; refine (c_rem _ _ _).mono ?_; rintro e w' ⟨rfl, ⟨m1, rfl⟩⟩) | (go_at_call 21; refine (c_remu _ _ _).mono ?_; rintro e w' ⟨rfl, ⟨m1, rfl⟩⟩) | go_in)
  go_ret2
  exact ⟨rfl, by repeat (first | exact Drawn0.refl _ | apply Drawn0.step)⟩
set_option maxHeartbeats 1000000 in
theorem do_51 (a b : BitVec 64) (w : World) : Calls Try.prog 33 #[.int .i64 51, .int .u64 (U a), .int .u64 (U b)] w fun e w' => e = .returned (.tuple #[.int .u64 (U (mh a.toInt b.toInt)), .bool true]) ∧ Drawn0 w w' := by
  have h63 := and_63 b
  have h31 := and_31 b
  have g63 : b.toNat % 64 ≤ 63 := by omega
  have g31 : b.toNat % 32 ≤ 31 := by omega
  have hla := U_low a
  have hlb := U_low b
  have hw := w32 a
  go_enter Try.func33, Try.ntmps33
  go_wp2_with (first | (go_at_call 15; refine (c_sext32 _ _).mono ?_; rintro e w' ⟨rfl, ⟨m2, rfl⟩⟩) | (go_at_call 27; refine (c_mulhu _ _ _).mono ?_; rintro e w' ⟨rfl, ⟨m1, rfl⟩⟩) | (go_at_call 29; refine (c_mulh _ _ _).mono ?_; rintro e w' ⟨rfl, ⟨m1, rfl⟩⟩) | (go_at_call 31; refine (c_mulhsu _ _ _).mono ?_; rintro e w' ⟨rfl, ⟨m1, rfl⟩⟩) | (go_at_call 23; refine (c_div _ _ _).mono ?_; rintro e w' ⟨rfl, ⟨m1, rfl⟩⟩) | (go_at_call 19; refine (c_divu _ _ _).mono ?_; rintro e w' ⟨rfl, ⟨m1, rfl⟩⟩) | (go_at_call 25; refine (c_rem _ _ _).mono ?_; rintro e w' ⟨rfl, ⟨m1, rfl⟩⟩) | (go_at_call 21; refine (c_remu _ _ _).mono ?_; rintro e w' ⟨rfl, ⟨m1, rfl⟩⟩) | go_in)
  go_ret2
  exact ⟨rfl, by repeat (first | exact Drawn0.refl _ | apply Drawn0.step)⟩
set_option maxHeartbeats 1000000 in
theorem do_52 (a b : BitVec 64) (w : World) : Calls Try.prog 33 #[.int .i64 52, .int .u64 (U a), .int .u64 (U b)] w fun e w' => e = .returned (.tuple #[.int .u64 (U (mh a.toInt (U b))), .bool true]) ∧ Drawn0 w w' := by
  have h63 := and_63 b
  have h31 := and_31 b
  have g63 : b.toNat % 64 ≤ 63 := by omega
  have g31 : b.toNat % 32 ≤ 31 := by omega
  have hla := U_low a
  have hlb := U_low b
  have hw := w32 a
  go_enter Try.func33, Try.ntmps33
  go_wp2_with (first | (go_at_call 15; refine (c_sext32 _ _).mono ?_; rintro e w' ⟨rfl, ⟨m2, rfl⟩⟩) | (go_at_call 27; refine (c_mulhu _ _ _).mono ?_; rintro e w' ⟨rfl, ⟨m1, rfl⟩⟩) | (go_at_call 29; refine (c_mulh _ _ _).mono ?_; rintro e w' ⟨rfl, ⟨m1, rfl⟩⟩) | (go_at_call 31; refine (c_mulhsu _ _ _).mono ?_; rintro e w' ⟨rfl, ⟨m1, rfl⟩⟩) | (go_at_call 23; refine (c_div _ _ _).mono ?_; rintro e w' ⟨rfl, ⟨m1, rfl⟩⟩) | (go_at_call 19; refine (c_divu _ _ _).mono ?_; rintro e w' ⟨rfl, ⟨m1, rfl⟩⟩) | (go_at_call 25; refine (c_rem _ _ _).mono ?_; rintro e w' ⟨rfl, ⟨m1, rfl⟩⟩) | (go_at_call 21; refine (c_remu _ _ _).mono ?_; rintro e w' ⟨rfl, ⟨m1, rfl⟩⟩) | go_in)
  go_ret2
  exact ⟨rfl, by repeat (first | exact Drawn0.refl _ | apply Drawn0.step)⟩
set_option maxHeartbeats 1000000 in
theorem do_53 (a b : BitVec 64) (w : World) : Calls Try.prog 33 #[.int .i64 53, .int .u64 (U a), .int .u64 (U b)] w fun e w' => e = .returned (.tuple #[.int .u64 (U (mh (U a) (U b))), .bool true]) ∧ Drawn0 w w' := by
  have h63 := and_63 b
  have h31 := and_31 b
  have g63 : b.toNat % 64 ≤ 63 := by omega
  have g31 : b.toNat % 32 ≤ 31 := by omega
  have hla := U_low a
  have hlb := U_low b
  have hw := w32 a
  go_enter Try.func33, Try.ntmps33
  go_wp2_with (first | (go_at_call 15; refine (c_sext32 _ _).mono ?_; rintro e w' ⟨rfl, ⟨m2, rfl⟩⟩) | (go_at_call 27; refine (c_mulhu _ _ _).mono ?_; rintro e w' ⟨rfl, ⟨m1, rfl⟩⟩) | (go_at_call 29; refine (c_mulh _ _ _).mono ?_; rintro e w' ⟨rfl, ⟨m1, rfl⟩⟩) | (go_at_call 31; refine (c_mulhsu _ _ _).mono ?_; rintro e w' ⟨rfl, ⟨m1, rfl⟩⟩) | (go_at_call 23; refine (c_div _ _ _).mono ?_; rintro e w' ⟨rfl, ⟨m1, rfl⟩⟩) | (go_at_call 19; refine (c_divu _ _ _).mono ?_; rintro e w' ⟨rfl, ⟨m1, rfl⟩⟩) | (go_at_call 25; refine (c_rem _ _ _).mono ?_; rintro e w' ⟨rfl, ⟨m1, rfl⟩⟩) | (go_at_call 21; refine (c_remu _ _ _).mono ?_; rintro e w' ⟨rfl, ⟨m1, rfl⟩⟩) | go_in)
  go_ret2
  exact ⟨rfl, by repeat (first | exact Drawn0.refl _ | apply Drawn0.step)⟩
set_option maxHeartbeats 1000000 in
theorem do_54 (a b : BitVec 64) (w : World) : Calls Try.prog 33 #[.int .i64 54, .int .u64 (U a), .int .u64 (U b)] w fun e w' => e = .returned (.tuple #[.int .u64 (U (qs a b)), .bool true]) ∧ Drawn0 w w' := by
  have h63 := and_63 b
  have h31 := and_31 b
  have g63 : b.toNat % 64 ≤ 63 := by omega
  have g31 : b.toNat % 32 ≤ 31 := by omega
  have hla := U_low a
  have hlb := U_low b
  have hw := w32 a
  go_enter Try.func33, Try.ntmps33
  go_wp2_with (first | (go_at_call 15; refine (c_sext32 _ _).mono ?_; rintro e w' ⟨rfl, ⟨m2, rfl⟩⟩) | (go_at_call 27; refine (c_mulhu _ _ _).mono ?_; rintro e w' ⟨rfl, ⟨m1, rfl⟩⟩) | (go_at_call 29; refine (c_mulh _ _ _).mono ?_; rintro e w' ⟨rfl, ⟨m1, rfl⟩⟩) | (go_at_call 31; refine (c_mulhsu _ _ _).mono ?_; rintro e w' ⟨rfl, ⟨m1, rfl⟩⟩) | (go_at_call 23; refine (c_div _ _ _).mono ?_; rintro e w' ⟨rfl, ⟨m1, rfl⟩⟩) | (go_at_call 19; refine (c_divu _ _ _).mono ?_; rintro e w' ⟨rfl, ⟨m1, rfl⟩⟩) | (go_at_call 25; refine (c_rem _ _ _).mono ?_; rintro e w' ⟨rfl, ⟨m1, rfl⟩⟩) | (go_at_call 21; refine (c_remu _ _ _).mono ?_; rintro e w' ⟨rfl, ⟨m1, rfl⟩⟩) | go_in)
  go_ret2
  exact ⟨rfl, by repeat (first | exact Drawn0.refl _ | apply Drawn0.step)⟩
set_option maxHeartbeats 1000000 in
theorem do_55 (a b : BitVec 64) (w : World) : Calls Try.prog 33 #[.int .i64 55, .int .u64 (U a), .int .u64 (U b)] w fun e w' => e = .returned (.tuple #[.int .u64 (U (qu a b)), .bool true]) ∧ Drawn0 w w' := by
  have h63 := and_63 b
  have h31 := and_31 b
  have g63 : b.toNat % 64 ≤ 63 := by omega
  have g31 : b.toNat % 32 ≤ 31 := by omega
  have hla := U_low a
  have hlb := U_low b
  have hw := w32 a
  go_enter Try.func33, Try.ntmps33
  go_wp2_with (first | (go_at_call 15; refine (c_sext32 _ _).mono ?_; rintro e w' ⟨rfl, ⟨m2, rfl⟩⟩) | (go_at_call 27; refine (c_mulhu _ _ _).mono ?_; rintro e w' ⟨rfl, ⟨m1, rfl⟩⟩) | (go_at_call 29; refine (c_mulh _ _ _).mono ?_; rintro e w' ⟨rfl, ⟨m1, rfl⟩⟩) | (go_at_call 31; refine (c_mulhsu _ _ _).mono ?_; rintro e w' ⟨rfl, ⟨m1, rfl⟩⟩) | (go_at_call 23; refine (c_div _ _ _).mono ?_; rintro e w' ⟨rfl, ⟨m1, rfl⟩⟩) | (go_at_call 19; refine (c_divu _ _ _).mono ?_; rintro e w' ⟨rfl, ⟨m1, rfl⟩⟩) | (go_at_call 25; refine (c_rem _ _ _).mono ?_; rintro e w' ⟨rfl, ⟨m1, rfl⟩⟩) | (go_at_call 21; refine (c_remu _ _ _).mono ?_; rintro e w' ⟨rfl, ⟨m1, rfl⟩⟩) | go_in)
  go_ret2
  exact ⟨rfl, by repeat (first | exact Drawn0.refl _ | apply Drawn0.step)⟩
set_option maxHeartbeats 1000000 in
theorem do_56 (a b : BitVec 64) (w : World) : Calls Try.prog 33 #[.int .i64 56, .int .u64 (U a), .int .u64 (U b)] w fun e w' => e = .returned (.tuple #[.int .u64 (U (rs a b)), .bool true]) ∧ Drawn0 w w' := by
  have h63 := and_63 b
  have h31 := and_31 b
  have g63 : b.toNat % 64 ≤ 63 := by omega
  have g31 : b.toNat % 32 ≤ 31 := by omega
  have hla := U_low a
  have hlb := U_low b
  have hw := w32 a
  go_enter Try.func33, Try.ntmps33
  go_wp2_with (first | (go_at_call 15; refine (c_sext32 _ _).mono ?_; rintro e w' ⟨rfl, ⟨m2, rfl⟩⟩) | (go_at_call 27; refine (c_mulhu _ _ _).mono ?_; rintro e w' ⟨rfl, ⟨m1, rfl⟩⟩) | (go_at_call 29; refine (c_mulh _ _ _).mono ?_; rintro e w' ⟨rfl, ⟨m1, rfl⟩⟩) | (go_at_call 31; refine (c_mulhsu _ _ _).mono ?_; rintro e w' ⟨rfl, ⟨m1, rfl⟩⟩) | (go_at_call 23; refine (c_div _ _ _).mono ?_; rintro e w' ⟨rfl, ⟨m1, rfl⟩⟩) | (go_at_call 19; refine (c_divu _ _ _).mono ?_; rintro e w' ⟨rfl, ⟨m1, rfl⟩⟩) | (go_at_call 25; refine (c_rem _ _ _).mono ?_; rintro e w' ⟨rfl, ⟨m1, rfl⟩⟩) | (go_at_call 21; refine (c_remu _ _ _).mono ?_; rintro e w' ⟨rfl, ⟨m1, rfl⟩⟩) | go_in)
  go_ret2
  exact ⟨rfl, by repeat (first | exact Drawn0.refl _ | apply Drawn0.step)⟩
set_option maxHeartbeats 1000000 in
theorem do_57 (a b : BitVec 64) (w : World) : Calls Try.prog 33 #[.int .i64 57, .int .u64 (U a), .int .u64 (U b)] w fun e w' => e = .returned (.tuple #[.int .u64 (U (ru a b)), .bool true]) ∧ Drawn0 w w' := by
  have h63 := and_63 b
  have h31 := and_31 b
  have g63 : b.toNat % 64 ≤ 63 := by omega
  have g31 : b.toNat % 32 ≤ 31 := by omega
  have hla := U_low a
  have hlb := U_low b
  have hw := w32 a
  go_enter Try.func33, Try.ntmps33
  go_wp2_with (first | (go_at_call 15; refine (c_sext32 _ _).mono ?_; rintro e w' ⟨rfl, ⟨m2, rfl⟩⟩) | (go_at_call 27; refine (c_mulhu _ _ _).mono ?_; rintro e w' ⟨rfl, ⟨m1, rfl⟩⟩) | (go_at_call 29; refine (c_mulh _ _ _).mono ?_; rintro e w' ⟨rfl, ⟨m1, rfl⟩⟩) | (go_at_call 31; refine (c_mulhsu _ _ _).mono ?_; rintro e w' ⟨rfl, ⟨m1, rfl⟩⟩) | (go_at_call 23; refine (c_div _ _ _).mono ?_; rintro e w' ⟨rfl, ⟨m1, rfl⟩⟩) | (go_at_call 19; refine (c_divu _ _ _).mono ?_; rintro e w' ⟨rfl, ⟨m1, rfl⟩⟩) | (go_at_call 25; refine (c_rem _ _ _).mono ?_; rintro e w' ⟨rfl, ⟨m1, rfl⟩⟩) | (go_at_call 21; refine (c_remu _ _ _).mono ?_; rintro e w' ⟨rfl, ⟨m1, rfl⟩⟩) | go_in)
  go_ret2
  exact ⟨rfl, by repeat (first | exact Drawn0.refl _ | apply Drawn0.step)⟩
set_option maxHeartbeats 1000000 in
theorem do_58 (a b : BitVec 64) (w : World) : Calls Try.prog 33 #[.int .i64 58, .int .u64 (U a), .int .u64 (U b)] w fun e w' => e = .returned (.tuple #[.int .u64 (U (sx (a * b) 32)), .bool true]) ∧ Drawn0 w w' := by
  have h63 := and_63 b
  have h31 := and_31 b
  have g63 : b.toNat % 64 ≤ 63 := by omega
  have g31 : b.toNat % 32 ≤ 31 := by omega
  have hla := U_low a
  have hlb := U_low b
  have hw := w32 a
  go_enter Try.func33, Try.ntmps33
  go_wp2_with (first | (go_at_call 15; refine (c_sext32 _ _).mono ?_; rintro e w' ⟨rfl, ⟨m2, rfl⟩⟩) | (go_at_call 27; refine (c_mulhu _ _ _).mono ?_; rintro e w' ⟨rfl, ⟨m1, rfl⟩⟩) | (go_at_call 29; refine (c_mulh _ _ _).mono ?_; rintro e w' ⟨rfl, ⟨m1, rfl⟩⟩) | (go_at_call 31; refine (c_mulhsu _ _ _).mono ?_; rintro e w' ⟨rfl, ⟨m1, rfl⟩⟩) | (go_at_call 23; refine (c_div _ _ _).mono ?_; rintro e w' ⟨rfl, ⟨m1, rfl⟩⟩) | (go_at_call 19; refine (c_divu _ _ _).mono ?_; rintro e w' ⟨rfl, ⟨m1, rfl⟩⟩) | (go_at_call 25; refine (c_rem _ _ _).mono ?_; rintro e w' ⟨rfl, ⟨m1, rfl⟩⟩) | (go_at_call 21; refine (c_remu _ _ _).mono ?_; rintro e w' ⟨rfl, ⟨m1, rfl⟩⟩) | go_in)
  go_ret2
  exact ⟨rfl, by repeat (first | exact Drawn0.refl _ | apply Drawn0.step)⟩
set_option maxHeartbeats 1000000 in
theorem do_59 (a b : BitVec 64) (w : World) : Calls Try.prog 33 #[.int .i64 59, .int .u64 (U a), .int .u64 (U b)] w fun e w' => e = .returned (.tuple #[.int .u64 (U (sx (qs (sx a 32) (sx b 32)) 32)), .bool true]) ∧ Drawn0 w w' := by
  have h63 := and_63 b
  have h31 := and_31 b
  have g63 : b.toNat % 64 ≤ 63 := by omega
  have g31 : b.toNat % 32 ≤ 31 := by omega
  have hla := U_low a
  have hlb := U_low b
  have hw := w32 a
  go_enter Try.func33, Try.ntmps33
  go_wp2_with (first | (go_at_call 15; refine (c_sext32 _ _).mono ?_; rintro e w' ⟨rfl, ⟨m2, rfl⟩⟩) | (go_at_call 27; refine (c_mulhu _ _ _).mono ?_; rintro e w' ⟨rfl, ⟨m1, rfl⟩⟩) | (go_at_call 29; refine (c_mulh _ _ _).mono ?_; rintro e w' ⟨rfl, ⟨m1, rfl⟩⟩) | (go_at_call 31; refine (c_mulhsu _ _ _).mono ?_; rintro e w' ⟨rfl, ⟨m1, rfl⟩⟩) | (go_at_call 23; refine (c_div _ _ _).mono ?_; rintro e w' ⟨rfl, ⟨m1, rfl⟩⟩) | (go_at_call 19; refine (c_divu _ _ _).mono ?_; rintro e w' ⟨rfl, ⟨m1, rfl⟩⟩) | (go_at_call 25; refine (c_rem _ _ _).mono ?_; rintro e w' ⟨rfl, ⟨m1, rfl⟩⟩) | (go_at_call 21; refine (c_remu _ _ _).mono ?_; rintro e w' ⟨rfl, ⟨m1, rfl⟩⟩) | go_in)
  go_ret2
  exact ⟨rfl, by repeat (first | exact Drawn0.refl _ | apply Drawn0.step)⟩
set_option maxHeartbeats 1000000 in
theorem do_60 (a b : BitVec 64) (w : World) : Calls Try.prog 33 #[.int .i64 60, .int .u64 (U a), .int .u64 (U b)] w fun e w' => e = .returned (.tuple #[.int .u64 (U (sx (qu (BitVec.ofNat 64 (a.toNat % 4294967296)) (BitVec.ofNat 64 (b.toNat % 4294967296))) 32)), .bool true]) ∧ Drawn0 w w' := by
  have h63 := and_63 b
  have h31 := and_31 b
  have g63 : b.toNat % 64 ≤ 63 := by omega
  have g31 : b.toNat % 32 ≤ 31 := by omega
  have hla := U_low a
  have hlb := U_low b
  have hw := w32 a
  go_enter Try.func33, Try.ntmps33
  go_wp2_with (first | (go_at_call 15; refine (c_sext32 _ _).mono ?_; rintro e w' ⟨rfl, ⟨m2, rfl⟩⟩) | (go_at_call 27; refine (c_mulhu _ _ _).mono ?_; rintro e w' ⟨rfl, ⟨m1, rfl⟩⟩) | (go_at_call 29; refine (c_mulh _ _ _).mono ?_; rintro e w' ⟨rfl, ⟨m1, rfl⟩⟩) | (go_at_call 31; refine (c_mulhsu _ _ _).mono ?_; rintro e w' ⟨rfl, ⟨m1, rfl⟩⟩) | (go_at_call 23; refine (c_div _ _ _).mono ?_; rintro e w' ⟨rfl, ⟨m1, rfl⟩⟩) | (go_at_call 19; refine (c_divu _ _ _).mono ?_; rintro e w' ⟨rfl, ⟨m1, rfl⟩⟩) | (go_at_call 25; refine (c_rem _ _ _).mono ?_; rintro e w' ⟨rfl, ⟨m1, rfl⟩⟩) | (go_at_call 21; refine (c_remu _ _ _).mono ?_; rintro e w' ⟨rfl, ⟨m1, rfl⟩⟩) | go_in)
  go_ret2
  exact ⟨rfl, by repeat (first | exact Drawn0.refl _ | apply Drawn0.step)⟩
set_option maxHeartbeats 1000000 in
theorem do_61 (a b : BitVec 64) (w : World) : Calls Try.prog 33 #[.int .i64 61, .int .u64 (U a), .int .u64 (U b)] w fun e w' => e = .returned (.tuple #[.int .u64 (U (sx (rs (sx a 32) (sx b 32)) 32)), .bool true]) ∧ Drawn0 w w' := by
  have h63 := and_63 b
  have h31 := and_31 b
  have g63 : b.toNat % 64 ≤ 63 := by omega
  have g31 : b.toNat % 32 ≤ 31 := by omega
  have hla := U_low a
  have hlb := U_low b
  have hw := w32 a
  go_enter Try.func33, Try.ntmps33
  go_wp2_with (first | (go_at_call 15; refine (c_sext32 _ _).mono ?_; rintro e w' ⟨rfl, ⟨m2, rfl⟩⟩) | (go_at_call 27; refine (c_mulhu _ _ _).mono ?_; rintro e w' ⟨rfl, ⟨m1, rfl⟩⟩) | (go_at_call 29; refine (c_mulh _ _ _).mono ?_; rintro e w' ⟨rfl, ⟨m1, rfl⟩⟩) | (go_at_call 31; refine (c_mulhsu _ _ _).mono ?_; rintro e w' ⟨rfl, ⟨m1, rfl⟩⟩) | (go_at_call 23; refine (c_div _ _ _).mono ?_; rintro e w' ⟨rfl, ⟨m1, rfl⟩⟩) | (go_at_call 19; refine (c_divu _ _ _).mono ?_; rintro e w' ⟨rfl, ⟨m1, rfl⟩⟩) | (go_at_call 25; refine (c_rem _ _ _).mono ?_; rintro e w' ⟨rfl, ⟨m1, rfl⟩⟩) | (go_at_call 21; refine (c_remu _ _ _).mono ?_; rintro e w' ⟨rfl, ⟨m1, rfl⟩⟩) | go_in)
  go_ret2
  exact ⟨rfl, by repeat (first | exact Drawn0.refl _ | apply Drawn0.step)⟩
set_option maxHeartbeats 1000000 in
theorem do_62 (a b : BitVec 64) (w : World) : Calls Try.prog 33 #[.int .i64 62, .int .u64 (U a), .int .u64 (U b)] w fun e w' => e = .returned (.tuple #[.int .u64 (U (sx (ru (BitVec.ofNat 64 (a.toNat % 4294967296)) (BitVec.ofNat 64 (b.toNat % 4294967296))) 32)), .bool true]) ∧ Drawn0 w w' := by
  have h63 := and_63 b
  have h31 := and_31 b
  have g63 : b.toNat % 64 ≤ 63 := by omega
  have g31 : b.toNat % 32 ≤ 31 := by omega
  have hla := U_low a
  have hlb := U_low b
  have hw := w32 a
  go_enter Try.func33, Try.ntmps33
  go_wp2_with (first | (go_at_call 15; refine (c_sext32 _ _).mono ?_; rintro e w' ⟨rfl, ⟨m2, rfl⟩⟩) | (go_at_call 27; refine (c_mulhu _ _ _).mono ?_; rintro e w' ⟨rfl, ⟨m1, rfl⟩⟩) | (go_at_call 29; refine (c_mulh _ _ _).mono ?_; rintro e w' ⟨rfl, ⟨m1, rfl⟩⟩) | (go_at_call 31; refine (c_mulhsu _ _ _).mono ?_; rintro e w' ⟨rfl, ⟨m1, rfl⟩⟩) | (go_at_call 23; refine (c_div _ _ _).mono ?_; rintro e w' ⟨rfl, ⟨m1, rfl⟩⟩) | (go_at_call 19; refine (c_divu _ _ _).mono ?_; rintro e w' ⟨rfl, ⟨m1, rfl⟩⟩) | (go_at_call 25; refine (c_rem _ _ _).mono ?_; rintro e w' ⟨rfl, ⟨m1, rfl⟩⟩) | (go_at_call 21; refine (c_remu _ _ _).mono ?_; rintro e w' ⟨rfl, ⟨m1, rfl⟩⟩) | go_in)
  go_ret2
  exact ⟨rfl, by repeat (first | exact Drawn0.refl _ | apply Drawn0.step)⟩
end Go.Proofs.Ytdjgjedmbgnjbaa.Alu
