/- The law AluQuotients, walked out of alu.Do at their operators. No further condition. -/
import Derived.Test.YtdjgjedmbgnjbaaAluL
namespace Go.Proofs.Ytdjgjedmbgnjbaa.Alu
open Go Go.RowKit Go.Proofs.YtdjgjedmbgnjbaaW.PrintWords Go.Proofs.YtdjgjedmbgnjbaaW.PrintLast Go.Proofs.YtdjgjedmbgnjbaaW.PrintMore
open Go.Proofs.Ytdjgjedmbgnjbaa.Bv
set_option linter.unusedVariables false
set_option linter.unusedSimpArgs false
theorem wsx (x : BitVec 64) : (sx x 32).setWidth 32 = x.setWidth 32 := by
  apply BitVec.eq_of_getLsbD_eq
  intro i hi
  rw [BitVec.getLsbD_setWidth, BitVec.getLsbD_setWidth, sx_bit _ _ _ (by decide) (by decide) (by omega), show min i (32 - 1) = i by omega]
theorem qs_rs (a b : BitVec 64) : qs a b * b + rs a b = a := by
  unfold qs rs
  by_cases h : b = 0#64
  · rw [if_pos h, if_pos h, h, BitVec.mul_zero, BitVec.zero_add]
  · rw [if_neg h, if_neg h]
    have eB : b = BitVec.ofInt 64 b.toInt := BitVec.ofInt_toInt.symm
    conv => lhs; lhs; rhs; rw [eB]
    rw [← BitVec.ofInt_mul, ← BitVec.ofInt_add, Int.mul_comm, Int.mul_tdiv_add_tmod, BitVec.ofInt_toInt]
theorem qu_ru (a b : BitVec 64) : qu a b * b + ru a b = a := by
  unfold qu ru
  by_cases h : b = 0#64
  · rw [if_pos h, if_pos h, h, BitVec.mul_zero, BitVec.zero_add]
  · rw [if_neg h, if_neg h]
    apply BitVec.eq_of_toNat_eq
    rw [BitVec.toNat_add, BitVec.toNat_mul, BitVec.toNat_udiv, BitVec.toNat_umod, Nat.mod_add_mod, Nat.mul_comm, Nat.div_add_mod, Nat.mod_eq_of_lt a.isLt]
theorem back_of (x y q r Y X : BitVec 64) (hY : Y.setWidth 32 = y.setWidth 32) (hX : X.setWidth 32 = x.setWidth 32) (h : q * Y + r = X) : sx (sx (sx q 32 * y) 32 + sx r 32) 32 = sx x 32 := by
  apply sx_congr
  rw [BitVec.setWidth_add _ _ (by decide), wsx, wsx, BitVec.setWidth_mul _ _ (by decide), wsx, ← hY, ← BitVec.setWidth_mul _ _ (by decide), ← BitVec.setWidth_add _ _ (by decide), h, hX]
theorem back_s (x y : BitVec 64) : sx (sx (sx (qs (sx x 32) (sx y 32)) 32 * y) 32 + sx (rs (sx x 32) (sx y 32)) 32) 32 = sx x 32 := back_of x y _ _ _ _ (wsx y) (wsx x) (qs_rs _ _)
theorem back_u (x y : BitVec 64) : sx (sx (sx (qu (low x) (low y)) 32 * y) 32 + sx (ru (low x) (low y)) 32) 32 = sx x 32 := back_of x y _ _ _ _ (low_width y) (low_width x) (qu_ru _ _)
set_option maxHeartbeats 2000000 in
theorem quotients_law (x y : BitVec 64) (hx : U x < 4294967296) (hy : U y < 4294967296) (w : World) : Calls Try.prog 11 #[.int .u32 (U x), .int .u32 (U y)] w fun e w' => e = .returned (.bool true) ∧ Drawn0 w w' := by
  have h1 := Lib.hid (do_59 x y)
  have h2 := Lib.hid (do_61 x y)
  have h3 := Lib.hid (do_58 (sx (qs (sx x 32) (sx y 32)) 32) y)
  have h4 := do_45 (sx (sx (qs (sx x 32) (sx y 32)) 32 * y) 32) (sx (rs (sx x 32) (sx y 32)) 32)
  have h5 : ∀ w, _ := do_60 x y
  have h6 : ∀ w, _ := do_62 x y
  have h7 := Lib.hid (do_58 (sx (qu (low x) (low y)) 32) y)
  have h8 := do_45 (sx (sx (qu (low x) (low y)) 32 * y) 32) (sx (ru (low x) (low y)) 32)
  rw [back_s] at h4
  rw [back_u] at h8
  have h9 := Lib.hid (rsext32 x)
  change ∀ w : World, Calls Try.prog 33 #[.int .i64 60, .int .u64 (U x), .int .u64 (U y)] w fun e w' => e = .returned (.tuple #[.int .u64 (U (sx (qu (low x) (low y)) 32)), .bool true]) ∧ Drawn0 w w' at h5
  change ∀ w : World, Calls Try.prog 33 #[.int .i64 62, .int .u64 (U x), .int .u64 (U y)] w fun e w' => e = .returned (.tuple #[.int .u64 (U (sx (ru (low x) (low y)) 32)), .bool true]) ∧ Drawn0 w w' at h6
  have h4 := Lib.hid h4
  have h5 := Lib.hid h5
  have h6 := Lib.hid h6
  have h8 := Lib.hid h8
  generalize sx (sx (qs (sx x 32) (sx y 32)) 32 * y) 32 = p at *
  generalize sx (qs (sx x 32) (sx y 32)) 32 = q at *
  generalize sx (rs (sx x 32) (sx y 32)) 32 = r at *
  generalize sx (sx (qu (low x) (low y)) 32 * y) 32 = p2 at *
  generalize sx (qu (low x) (low y)) 32 = q2 at *
  generalize sx (ru (low x) (low y)) 32 = r2 at *
  generalize sx x 32 = s at *
  have ex : IntKind.u64.wrap (U x) = U x := wrap_U x
  have ey : IntKind.u64.wrap (U y) = U y := wrap_U y
  go_enter Try.func11, Try.ntmps11
  go_wp2_with fail
  refine (h1.out _).mono ?_; rintro e w' ⟨rfl, ⟨m1, rfl⟩⟩
  go_wp2_with fail
  refine (h2.out _).mono ?_; rintro e w' ⟨rfl, ⟨m2, rfl⟩⟩
  go_wp2_with fail
  refine (h3.out _).mono ?_; rintro e w' ⟨rfl, ⟨m3, rfl⟩⟩
  go_wp2_with fail
  refine (h4.out _).mono ?_; rintro e w' ⟨rfl, ⟨m4, rfl⟩⟩
  go_wp2_with fail
  refine (h5.out _).mono ?_; rintro e w' ⟨rfl, ⟨m5, rfl⟩⟩
  go_wp2_with fail
  refine (h6.out _).mono ?_; rintro e w' ⟨rfl, ⟨m6, rfl⟩⟩
  go_wp2_with fail
  refine (h7.out _).mono ?_; rintro e w' ⟨rfl, ⟨m7, rfl⟩⟩
  go_wp2_with fail
  refine (h8.out _).mono ?_; rintro e w' ⟨rfl, ⟨m8, rfl⟩⟩
  go_wp2_with fail
  refine (answers_any _).mono ?_; rintro e w' ⟨rfl, ⟨m9, rfl⟩⟩
  go_wp2_with fail
  refine (h9.out _).mono ?_; rintro e w' ⟨rfl, ⟨m10, rfl⟩⟩
  go_wp2_with fail
  go_ret
  exact ⟨rfl, by repeat (first | exact Drawn0.refl _ | apply Drawn0.step)⟩
theorem quotients_walk (a0 a1 : Int) (W : World) (w0 : (Lit.int .u32 a0).wf = true) (w1 : (Lit.int .u32 a1).wf = true) :
    Calls Try.prog 11 #[.int .u32 a0, .int .u32 a1] W fun e w' => e = .returned (.bool true) ∧ Below W.heap.size W w' := by
  have b0 := Go.bounds_u32 w0
  have b1 := Go.bounds_u32 w1
  obtain ⟨x, rfl⟩ := ex_U b0.1 (by omega)
  obtain ⟨y, rfl⟩ := ex_U b1.1 (by omega)
  exact (quotients_law x y (by omega) (by omega) W).mono fun _ _ h => ⟨h.1, h.2.below⟩
end Go.Proofs.Ytdjgjedmbgnjbaa.Alu
