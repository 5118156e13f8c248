/- The contracts of the word functions and of the document's, over words as bit vectors. -/
import Derived.Test.YtdjgjedmbgnjbaaSgLaw
import Derived.Test.YtdjgjedmbgnjbaaMuHand
import Derived.Test.YtdjgjedmbgnjbaaPureWordQuotients
import Derived.Lib.Hide
namespace Go.Proofs.Ytdjgjedmbgnjbaa.Alu
open Go Go.RowKit Go.Proofs.YtdjgjedmbgnjbaaW.PrintWords Go.Proofs.YtdjgjedmbgnjbaaW.PrintLast Go.Proofs.YtdjgjedmbgnjbaaW.PrintMore
open Go.Proofs.Ytdjgjedmbgnjbaa.Bv
set_option linter.unusedVariables false
set_option linter.unusedSimpArgs false
open Go.Proofs.Ytdjgjedmbgnjbaa.MuHand (sg)
theorem U_sg (a : BitVec 64) : sg (U a) = a.toInt := by
  unfold sg U
  rw [BitVec.toInt_eq_toNat_bmod, Int.bmod_def]
  have := a.isLt
  split <;> split <;> omega
theorem sg_sg (a : Int) : Pure.WQuot.sg a = sg a := rfl
/-- The upper half of a product. -/
def mh (x y : Int) : BitVec 64 := BitVec.ofInt 64 (x * y / 18446744073709551616)
theorem U_mh (x y : Int) : IntKind.u64.wrap (x * y / 18446744073709551616) = U (mh x y) := Bv.wrap_u64 _
/-- Quotients and what is left. -/
def qs (a b : BitVec 64) : BitVec 64 := if b = 0#64 then BitVec.allOnes 64 else BitVec.ofInt 64 (Int.tdiv a.toInt b.toInt)
def rs (a b : BitVec 64) : BitVec 64 := if b = 0#64 then a else BitVec.ofInt 64 (Int.tmod a.toInt b.toInt)
def qu (a b : BitVec 64) : BitVec 64 := if b = 0#64 then BitVec.allOnes 64 else a / b
def ru (a b : BitVec 64) : BitVec 64 := if b = 0#64 then a else a % b
theorem U_zero {b : BitVec 64} : U b = 0 ↔ b = 0#64 := by rw [show (0 : Int) = U 0#64 from rfl, U_inj]
theorem ones : (18446744073709551615 : Int) = U (BitVec.allOnes 64) := by decide +kernel
theorem U_div (a b : BitVec 64) : U a / U b = U (a / b) := by unfold U; rw [BitVec.toNat_udiv]; simp
theorem U_mod (a b : BitVec 64) : U a % U b = U (a % b) := by unfold U; rw [BitVec.toNat_umod]; simp
theorem U_wf (a : BitVec 64) : 0 ≤ U a ∧ U a < 18446744073709551616 := ⟨U_nonneg a, U_lt a⟩
section
variable (a b : BitVec 64) (w : World)
theorem c_mulhu : Calls Try.prog 27 #[.int .u64 (U a), .int .u64 (U b)] w fun e w' => e = .returned (.int .u64 (U (mh (U a) (U b)))) ∧ Drawn0 w w' := by
  refine PWordProducts.word_MulHU.calls (U a) (U b) _ w ?_
  rw [MuHand.mulhu_f (U a) (U b) (U_nonneg a) (U_lt a) (U_nonneg b) (U_lt b), ← U_mh, wrap_in]
  · exact Int.ediv_nonneg (Int.mul_nonneg (U_nonneg a) (U_nonneg b)) (by decide)
  · have := MuHand.prod_bd (U a) (U b) (U_nonneg a) (U_lt a) (U_nonneg b) (U_lt b); omega
theorem c_mulh : Calls Try.prog 29 #[.int .u64 (U a), .int .u64 (U b)] w fun e w' => e = .returned (.int .u64 (U (mh a.toInt b.toInt))) ∧ Drawn0 w w' := by
  refine PWordProducts.word_MulH.calls (U a) (U b) _ w ?_
  rw [MuHand.mulh_f (U a) (U b) (U_nonneg a) (U_lt a) (U_nonneg b) (U_lt b), U_mh, U_sg, U_sg]
theorem c_mulhsu : Calls Try.prog 31 #[.int .u64 (U a), .int .u64 (U b)] w fun e w' => e = .returned (.int .u64 (U (mh a.toInt (U b)))) ∧ Drawn0 w w' := by
  refine PWordProducts.word_MulHSU.calls (U a) (U b) _ w ?_
  rw [MuHand.mulhsu_f (U a) (U b) (U_nonneg a) (U_lt a) (U_nonneg b) (U_lt b), U_mh, U_sg]
theorem r_mulhu : Calls Try.prog 28 #[.int .u64 (U a), .int .u64 (U b)] w fun e w' => e = .returned (.int .u64 (U (mh (U a) (U b)))) ∧ Drawn0 w w' := by
  refine PWordProducts.marionetteref01_MulHU.calls (U a) (U b) _ w ?_
  rw [MuHand.rmulhu_f (U a) (U b) (U_nonneg a) (U_lt a) (U_nonneg b) (U_lt b), ← U_mh, wrap_in]
  · exact Int.ediv_nonneg (Int.mul_nonneg (U_nonneg a) (U_nonneg b)) (by decide)
  · have := MuHand.prod_bd (U a) (U b) (U_nonneg a) (U_lt a) (U_nonneg b) (U_lt b); omega
theorem r_mulh : Calls Try.prog 30 #[.int .u64 (U a), .int .u64 (U b)] w fun e w' => e = .returned (.int .u64 (U (mh a.toInt b.toInt))) ∧ Drawn0 w w' := by
  have h := MuHand.rmulh_any (U a) (U b) (U_nonneg a) (U_lt a) (U_nonneg b) (U_lt b) w
  rwa [U_mh, U_sg, U_sg] at h
theorem r_mulhsu : Calls Try.prog 32 #[.int .u64 (U a), .int .u64 (U b)] w fun e w' => e = .returned (.int .u64 (U (mh a.toInt (U b)))) ∧ Drawn0 w w' := by
  have h := MuHand.rmulhsu_any (U a) (U b) (U_nonneg a) (U_lt a) (U_nonneg b) (U_lt b) w
  rwa [U_mh, U_sg] at h
theorem c_div : Calls Try.prog 23 #[.int .u64 (U a), .int .u64 (U b)] w fun e w' => e = .returned (.int .u64 (U (qs a b))) ∧ Drawn0 w w' := by
  refine PWordQuotients.word_Div.calls (U a) (U b) _ w ?_
  unfold qs
  by_cases h : b = 0#64
  · rw [if_pos h]; unfold PWordQuotients.word_Div.f; rw [if_pos (U_zero.2 h)]; rw [ones]
  · rw [if_neg h, Pure.WQuot.div_f (U a) (U b) (U_nonneg a) (U_lt a) (U_nonneg b) (U_lt b) (fun e => h (U_zero.1 e)), sg_sg, sg_sg, U_sg, U_sg, Bv.wrap_u64]
theorem r_div : Calls Try.prog 24 #[.int .u64 (U a), .int .u64 (U b)] w fun e w' => e = .returned (.int .u64 (U (qs a b))) ∧ Drawn0 w w' := by
  refine PWordQuotients.marionetteref01_Div.calls 65 (U a) (U b) _ w ?_
  unfold qs
  by_cases h : b = 0#64
  · rw [if_pos h]; unfold PWordQuotients.marionetteref01_Div.f; rw [if_pos (U_zero.2 h)]; rw [ones]
  · rw [if_neg h, Pure.WQuot.rdiv_f (U a) (U b) (U_nonneg a) (U_lt a) (U_nonneg b) (U_lt b) (fun e => h (U_zero.1 e)), sg_sg, sg_sg, U_sg, U_sg, Bv.wrap_u64]
theorem c_rem : Calls Try.prog 25 #[.int .u64 (U a), .int .u64 (U b)] w fun e w' => e = .returned (.int .u64 (U (rs a b))) ∧ Drawn0 w w' := by
  refine PWordQuotients.word_Rem.calls (U a) (U b) _ w ?_
  unfold rs
  by_cases h : b = 0#64
  · rw [if_pos h]; unfold PWordQuotients.word_Rem.f; rw [if_pos (U_zero.2 h)]
  · rw [if_neg h, Pure.WQuot.rem_f (U a) (U b) (U_nonneg a) (U_lt a) (U_nonneg b) (U_lt b) (fun e => h (U_zero.1 e)), sg_sg, sg_sg, U_sg, U_sg, Bv.wrap_u64]
theorem r_rem : Calls Try.prog 26 #[.int .u64 (U a), .int .u64 (U b)] w fun e w' => e = .returned (.int .u64 (U (rs a b))) ∧ Drawn0 w w' := by
  refine PWordQuotients.marionetteref01_Rem.calls 65 (U a) (U b) _ w ?_
  unfold rs
  by_cases h : b = 0#64
  · rw [if_pos h]; unfold PWordQuotients.marionetteref01_Rem.f; rw [if_pos (U_zero.2 h)]
  · rw [if_neg h, Pure.WQuot.rrem_f (U a) (U b) (U_nonneg a) (U_lt a) (U_nonneg b) (U_lt b) (fun e => h (U_zero.1 e)), sg_sg, sg_sg, U_sg, U_sg, Bv.wrap_u64]
theorem c_divu : Calls Try.prog 19 #[.int .u64 (U a), .int .u64 (U b)] w fun e w' => e = .returned (.int .u64 (U (qu a b))) ∧ Drawn0 w w' := by
  refine PWordQuotients.word_DivU.calls (U a) (U b) _ w ?_
  unfold qu PWordQuotients.word_DivU.f
  by_cases h : b = 0#64
  · rw [if_pos h, if_pos (U_zero.2 h)]; rw [ones]
  · rw [if_neg h, if_neg (fun e => h (U_zero.1 e)), Int.tdiv_eq_ediv_of_nonneg (U_nonneg a), U_div, wrap_U]
theorem r_divu : Calls Try.prog 20 #[.int .u64 (U a), .int .u64 (U b)] w fun e w' => e = .returned (.int .u64 (U (qu a b))) ∧ Drawn0 w w' := by
  refine PWordQuotients.marionetteref01_DivU.calls 65 (U a) (U b) _ w ?_
  unfold qu PWordQuotients.marionetteref01_DivU.f
  by_cases h : b = 0#64
  · rw [if_pos h, if_pos (U_zero.2 h)]; rw [ones]
  · have hb : 0 < U b := by have := U_nonneg b; have h2 : U b ≠ 0 := fun e => h (U_zero.1 e); omega
    rw [if_neg h, if_neg (fun e => h (U_zero.1 e)), Pure.WQuot.divide_f (U a) (U b) (U_nonneg a) (U_lt a) hb (U_lt b), U_div]; rfl
theorem c_remu : Calls Try.prog 21 #[.int .u64 (U a), .int .u64 (U b)] w fun e w' => e = .returned (.int .u64 (U (ru a b))) ∧ Drawn0 w w' := by
  refine PWordQuotients.word_RemU.calls (U a) (U b) _ w ?_
  unfold ru PWordQuotients.word_RemU.f
  by_cases h : b = 0#64
  · rw [if_pos h, if_pos (U_zero.2 h)]
  · rw [if_neg h, if_neg (fun e => h (U_zero.1 e)), Int.tmod_eq_emod_of_nonneg (U_nonneg a), U_mod]
theorem r_remu : Calls Try.prog 22 #[.int .u64 (U a), .int .u64 (U b)] w fun e w' => e = .returned (.int .u64 (U (ru a b))) ∧ Drawn0 w w' := by
  refine PWordQuotients.marionetteref01_RemU.calls 65 (U a) (U b) _ w ?_
  unfold ru PWordQuotients.marionetteref01_RemU.f
  by_cases h : b = 0#64
  · rw [if_pos h, if_pos (U_zero.2 h)]
  · have hb : 0 < U b := by have := U_nonneg b; have h2 : U b ≠ 0 := fun e => h (U_zero.1 e); omega
    rw [if_neg h, if_neg (fun e => h (U_zero.1 e)), Pure.WQuot.divide_f (U a) (U b) (U_nonneg a) (U_lt a) hb (U_lt b), U_mod]; rfl
theorem r_product : Calls Try.prog 44 #[.int .u64 (U a), .int .u64 (U b)] w fun e w' => e = .returned (.tuple #[.int .u64 (U (mh (U a) (U b))), .int .u64 (U (a * b))]) ∧ Drawn0 w w' := by
  refine PWordProducts.marionetteref01_product.calls (U a) (U b) _ _ w ?_
  have h := MuHand.prod_bd (U a) (U b) (U_nonneg a) (U_lt a) (U_nonneg b) (U_lt b)
  have h0 := Int.mul_nonneg (U_nonneg a) (U_nonneg b)
  rw [MuHand.product_f (U a) (U b) (U_nonneg a) (U_lt a) (U_nonneg b) (U_lt b), ← U_mh, ← wrap_mul, wrap_in (n := U a * U b / 18446744073709551616) (by omega) (by omega), IntKind.wrap_u64]
theorem r_less : Calls Try.prog 53 #[.int .u64 (U a), .int .u64 (U b)] w fun e w' => e = .returned (.bool (decide (a.toInt < b.toInt))) ∧ Drawn0 w w' := by
  have s1 := Lib.hid (MuHand.rminus_f (U a) (U_nonneg a) (U_lt a))
  have s2 := Lib.hid (MuHand.rminus_f (U b) (U_nonneg b) (U_lt b))
  have e : decide (a.toInt < b.toInt) = if decide (9223372036854775808 ≤ U a) = decide (9223372036854775808 ≤ U b) then decide (U a < U b) else decide (9223372036854775808 ≤ U a) := by
    rw [← U_sg a, ← U_sg b]
    have h1 := U_wf a
    have h2 := U_wf b
    unfold sg
    by_cases x : 9223372036854775808 ≤ U a <;> by_cases y : 9223372036854775808 ≤ U b
    · simp only [x, y, if_true, decide_true]; rw [Bool.eq_iff_iff, decide_eq_true_eq, decide_eq_true_eq]; omega
    · simp only [x, y, if_true, if_false, decide_true, decide_false, reduceCtorEq]; rw [decide_eq_true_eq]; omega
    · simp only [x, y, if_true, if_false, decide_true, decide_false, reduceCtorEq, Bool.false_eq_true]; rw [decide_eq_false_iff_not]; omega
    · simp only [x, y, if_false, decide_false, if_true]
  rw [e]
  clear e
  have hd : ∃ pa pb : Bool, decide (9223372036854775808 ≤ U a) = pa ∧ decide (9223372036854775808 ≤ U b) = pb := ⟨_, _, rfl, rfl⟩
  obtain ⟨pa, pb, ea, eb⟩ := hd
  rw [ea] at s1 ⊢
  rw [eb] at s2 ⊢
  clear ea eb
  cases pa <;> cases pb
  all_goals
    go_enter Try.func53, Try.ntmps53
    go_wp2_with fail
    refine (PWordProducts.marionetteref01_Minus.calls (U a) _ _ s1.out).mono ?_; rintro e w' ⟨rfl, ⟨m1, rfl⟩⟩
    go_wp2_with fail
    refine (PWordProducts.marionetteref01_Minus.calls (U b) _ _ s2.out).mono ?_; rintro e w' ⟨rfl, ⟨m2, rfl⟩⟩
    go_wp2_with fail
    try (refine (PWordProducts.marionetteref01_Minus.calls (U a) _ _ s1.out).mono ?_; rintro e w' ⟨rfl, ⟨m3, rfl⟩⟩; go_wp2_with fail)
    go_ret
    exact ⟨rfl, by repeat (first | exact Drawn0.refl _ | apply Drawn0.step)⟩
end
end Go.Proofs.Ytdjgjedmbgnjbaa.Alu
