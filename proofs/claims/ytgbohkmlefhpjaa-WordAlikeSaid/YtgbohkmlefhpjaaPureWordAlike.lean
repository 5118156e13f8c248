/- For all words: MulHU and MulH answer the same with their arguments exchanged, and for two words that are sign extensions of 32-bit numbers MulH is the sign of the product. No further condition. -/
import Derived.Test.YtgbohkmlefhpjaaPWordAlikex1
import Derived.Test.YtgbohkmlefhpjaaBv
namespace Go.Proofs.Ytgbohkmlefhpjaa.Pure
open Go Go.RowKit Go.Proofs.Ytgbohkmlefhpjaa.PWordAlike Go.Proofs.YtgbohkmlefhpjaaW.PrintWords Go.Proofs.YtgbohkmlefhpjaaW.PrintLast
open Go.Proofs.Ytgbohkmlefhpjaa.Bv
namespace WAlike
theorem answers_f : marionettelaw01_answers.f = some true := by kernel_rfl
theorem low32 (a : Int) (h0 : 0 ≤ a) (h1 : a < 18446744073709551616) : bits .and .u64 a 4294967295 = a % 4294967296 := by
  obtain ⟨A, rfl⟩ := Int.eq_ofNat_of_zero_le h0
  rw [show (4294967295 : Int) = ((4294967295 : Nat) : Int) from rfl, u64_and_nat A 4294967295 (by omega) (by omega), show 4294967295 = 2 ^ 32 - 1 from rfl, Nat.and_two_pow_sub_one_eq_mod]
  omega
theorem mul_bd (x y : Int) (h0 : 0 ≤ x) (h1 : x ≤ 4294967295) (h2 : 0 ≤ y) (h3 : y ≤ 4294967295) : 0 ≤ x * y ∧ x * y ≤ 18446744065119617025 := by
  have a := Int.mul_nonneg h0 h2
  have b := Int.mul_le_mul h1 h3 h2 (by omega)
  omega
theorem prod_bd (a b : Int) (ha0 : 0 ≤ a) (ha1 : a < 18446744073709551616) (hb0 : 0 ≤ b) (hb1 : b < 18446744073709551616) : a * b ≤ 340282366920938463426481119284349108225 := by
  have b := Int.mul_le_mul (show a ≤ 18446744073709551615 by omega) (show b ≤ 18446744073709551615 by omega) hb0 (by omega)
  omega
theorem split_mul (a b : Int) : a * b = (a / 4294967296) * (b / 4294967296) * 18446744073709551616 + ((a / 4294967296) * (b % 4294967296) + (a % 4294967296) * (b / 4294967296)) * 4294967296 + (a % 4294967296) * (b % 4294967296) := by
  have e1 := Int.mul_ediv_add_emod a 4294967296
  have e2 := Int.mul_ediv_add_emod b 4294967296
  generalize a / 4294967296 = x at *
  generalize b / 4294967296 = y at *
  generalize a % 4294967296 = u at *
  generalize b % 4294967296 = v at *
  subst e1 e2
  rw [Int.add_mul, Int.mul_add, Int.mul_add, Int.add_mul, Int.mul_assoc 4294967296 x, Int.mul_left_comm x 4294967296 y, Int.mul_assoc 4294967296 x v, Int.mul_left_comm u 4294967296 y]
  omega
theorem mulhu_f (a b : Int) (ha0 : 0 ≤ a) (ha1 : a < 18446744073709551616) (hb0 : 0 ≤ b) (hb1 : b < 18446744073709551616) : word_MulHU.f a b = some (a * b / 18446744073709551616) := by
  unfold word_MulHU.f bits_Mul64.f
  simp only [Option.bind_some]
  have hs := split_mul a b
  have p := mul_bd (a % 4294967296) (b % 4294967296) (by omega) (by omega) (by omega) (by omega)
  have q := mul_bd (a / 4294967296) (b % 4294967296) (by omega) (by omega) (by omega) (by omega)
  have r := mul_bd (a % 4294967296) (b / 4294967296) (by omega) (by omega) (by omega) (by omega)
  have s := mul_bd (a / 4294967296) (b / 4294967296) (by omega) (by omega) (by omega) (by omega)
  rw [low32 a ha0 ha1, low32 b hb0 hb1, hs]
  generalize (a % 4294967296) * (b % 4294967296) = P at *
  generalize (a / 4294967296) * (b % 4294967296) = Q at *
  generalize (a % 4294967296) * (b / 4294967296) = R at *
  generalize (a / 4294967296) * (b / 4294967296) = S at *
  rw [wrap_in (n := P) (by omega) (by omega), wrap_in (n := Q) (by omega) (by omega), wrap_in (n := R) (by omega) (by omega), wrap_in (n := S) (by omega) (by omega)]
  rw [wrap_in (n := Q + P / 4294967296) (by omega) (by omega)]
  rw [low32 _ (by omega) (by omega)]
  rw [wrap_in (n := (Q + P / 4294967296) % 4294967296 + R) (by omega) (by omega)]
  have e : S * 18446744073709551616 + (Q + R) * 4294967296 + P = (S + (Q + P / 4294967296) / 4294967296 + ((Q + P / 4294967296) % 4294967296 + R) / 4294967296) * 18446744073709551616 + (S * 18446744073709551616 + (Q + R) * 4294967296 + P - (S + (Q + P / 4294967296) / 4294967296 + ((Q + P / 4294967296) % 4294967296 + R) / 4294967296) * 18446744073709551616) := by omega
  congr 1
  have hb := prod_bd a b ha0 ha1 hb0 hb1
  rw [hs] at hb
  rw [wrap_in (n := S + (Q + P / 4294967296) / 4294967296) (by omega) (by omega), wrap_in (by omega) (by omega)]
  omega
theorem minus_f (x : Int) (h0 : 0 ≤ x) (h1 : x < 18446744073709551616) : word_minus.f x = some (decide (9223372036854775808 ≤ x)) := by
  unfold word_minus.f
  congr 1
  rw [Bool.eq_iff_iff, decide_eq_true_eq, decide_eq_true_eq]
  unfold wrap64; omega
/-- The number that a word is with its sign. -/
def sg (a : Int) : Int := if 9223372036854775808 ≤ a then a - 18446744073709551616 else a
theorem mulh_f (a b : Int) (ha0 : 0 ≤ a) (ha1 : a < 18446744073709551616) (hb0 : 0 ≤ b) (hb1 : b < 18446744073709551616) : word_MulH.f a b = some (IntKind.u64.wrap (sg a * sg b / 18446744073709551616)) := by
  unfold word_MulH.f word_MulHSU.f
  rw [mulhu_f a b ha0 ha1 hb0 hb1, minus_f a ha0 ha1, minus_f b hb0 hb1]
  simp only [Option.bind_some, decide_eq_true_eq]
  have h0 := Int.mul_nonneg ha0 hb0
  have hb := prod_bd a b ha0 ha1 hb0 hb1
  unfold sg
  by_cases h1 : 9223372036854775808 ≤ a <;> by_cases h2 : 9223372036854775808 ≤ b
  · have e : (a - 18446744073709551616) * (b - 18446744073709551616) = a * b - 18446744073709551616 * a - 18446744073709551616 * b + 340282366920938463463374607431768211456 := by
      rw [Int.sub_mul, Int.mul_sub, Int.mul_sub, Int.mul_comm a 18446744073709551616]; omega
    simp only [h1, h2, if_true, Option.bind_some]
    rw [e]
    generalize a * b = P at *
    congr 1
    rw [IntKind.wrap_u64, IntKind.wrap_u64, IntKind.wrap_u64]
    omega
  · have e : (a - 18446744073709551616) * b = a * b - 18446744073709551616 * b := by rw [Int.sub_mul]
    simp only [h1, h2, if_true, if_false, Option.bind_some]
    rw [e]
    generalize a * b = P at *
    congr 1
    rw [IntKind.wrap_u64, IntKind.wrap_u64]
    omega
  · have e : a * (b - 18446744073709551616) = a * b - 18446744073709551616 * a := by rw [Int.mul_sub, Int.mul_comm a 18446744073709551616]
    simp only [h1, h2, if_true, if_false, Option.bind_some]
    rw [e]
    generalize a * b = P at *
    congr 1
    rw [IntKind.wrap_u64, IntKind.wrap_u64]
    omega
  · simp only [h1, h2, if_false, Option.bind_some]
    congr 1
    generalize a * b = P at *
    rw [IntKind.wrap_u64]
    omega
theorem sg_wrap (n : Int) (h0 : -9223372036854775808 ≤ n) (h1 : n < 9223372036854775808) : sg (IntKind.u64.wrap n) = n := by
  unfold sg; rw [IntKind.wrap_u64]; split <;> omega
theorem small (x y : Int) (h0 : -2147483648 ≤ x) (h1 : x ≤ 2147483647) (h2 : -2147483648 ≤ y) (h3 : y ≤ 2147483647) : -4611686018427387904 ≤ x * y ∧ x * y ≤ 4611686018427387904 := by
  have key : ∀ u v : Int, 0 ≤ u → u ≤ 2147483648 → 0 ≤ v → v ≤ 2147483648 → 0 ≤ u * v ∧ u * v ≤ 4611686018427387904 := fun u v a b c d => by
    have p := Int.mul_nonneg a c
    have q := Int.mul_le_mul b d c (by omega)
    omega
  by_cases hx : 0 ≤ x <;> by_cases hy : 0 ≤ y
  · have := key x y hx (by omega) hy (by omega); omega
  · have := key x (-y) hx (by omega) (by omega) (by omega); rw [Int.mul_neg] at this; omega
  · have := key (-x) y (by omega) (by omega) hy (by omega); rw [Int.neg_mul] at this; omega
  · have := key (-x) (-y) (by omega) (by omega) (by omega) (by omega); rw [Int.neg_mul_neg] at this; omega
end WAlike
open WAlike
theorem WordAlike : marionettelaw01_WordAlike.Pure := by
  intro a b x y wa wb wx wy
  have ba := Go.bounds_u64 wa
  have bb := Go.bounds_u64 wb
  have bx := Go.bounds_i32 wx
  have bY := Go.bounds_i32 wy
  unfold marionettelaw01_WordAlike.f
  have hr : ∀ n, 0 ≤ IntKind.u64.wrap n ∧ IntKind.u64.wrap n < 18446744073709551616 := fun n => by rw [IntKind.wrap_u64]; omega
  rw [mulhu_f a b ba.1 (by omega) bb.1 (by omega), mulhu_f b a bb.1 (by omega) ba.1 (by omega), mulh_f a b ba.1 (by omega) bb.1 (by omega), mulh_f b a bb.1 (by omega) ba.1 (by omega), answers_f, Int.mul_comm b a, Int.mul_comm (sg b) (sg a)]
  simp only [Option.bind_some, if_true]
  rw [wrap64_in (n := x) (by omega) (by omega), wrap64_in (n := y) (by omega) (by omega), mulh_f _ _ (hr x).1 (hr x).2 (hr y).1 (hr y).2]
  rw [sg_wrap x (by omega) (by omega), sg_wrap y (by omega) (by omega)]
  have hs := small x y bx.1 bx.2 bY.1 bY.2
  have e : wrap64 (IntKind.u64.wrap (IntKind.u64.wrap x * IntKind.u64.wrap y)) = x * y := by
    have e2 : IntKind.u64.wrap (IntKind.u64.wrap x * IntKind.u64.wrap y) = IntKind.u64.wrap (x * y) := by
      rw [IntKind.wrap_u64, IntKind.wrap_u64, IntKind.wrap_u64, IntKind.wrap_u64, ← Int.mul_emod]
    rw [e2, IntKind.wrap_u64]; unfold wrap64; omega
  rw [e]
  generalize x * y = P at *
  simp only [Option.bind_some]
  congr 1
  rw [beq_iff_eq]
  congr 1
  omega
end Go.Proofs.Ytgbohkmlefhpjaa.Pure
