/- The contracts of the document's upper, MulH and MulHSU, walked, and the law WordProducts out of its callees' contracts: for all words MulHU, MulH and MulHSU answer what the document says. No further condition. -/
import Derived.Test.YtdjgjedmbgnjbaaPWordProductsx1
import Derived.Test.YtdjgjedmbgnjbaaBv
import Derived.Lib.Hide
namespace Go.Proofs.Ytdjgjedmbgnjbaa.MuHand
open Go Go.RowKit Go.Proofs.YtdjgjedmbgnjbaaW.PrintWords Go.Proofs.YtdjgjedmbgnjbaaW.PrintLast Go.Proofs.YtdjgjedmbgnjbaaW.PrintMore
open Go.Proofs.Ytdjgjedmbgnjbaa.Bv Go.Proofs.Ytdjgjedmbgnjbaa.PWordProducts
theorem low32 (a : Int) (h0 : 0 ≤ a) (h1 : a < 18446744073709551616) : bits .and .u64 a 4294967295 = a % 4294967296 := by
  obtain ⟨A, rfl⟩ := Int.eq_ofNat_of_zero_le h0
  rw [show (4294967295 : Int) = ((4294967295 : Nat) : Int) from rfl, u64_and_nat A 4294967295 (by omega) (by omega), show 4294967295 = 2 ^ 32 - 1 from rfl, Nat.and_two_pow_sub_one_eq_mod]
  omega
theorem mul_bd (x y : Int) (h0 : 0 ≤ x) (h1 : x ≤ 4294967295) (h2 : 0 ≤ y) (h3 : y ≤ 4294967295) : 0 ≤ x * y ∧ x * y ≤ 18446744065119617025 := by
  have a := Int.mul_nonneg h0 h2
  have b := Int.mul_le_mul h1 h3 h2 (by omega)
  omega
theorem prod_bd (a b : Int) (ha0 : 0 ≤ a) (ha1 : a < 18446744073709551616) (hb0 : 0 ≤ b) (hb1 : b < 18446744073709551616) : a * b ≤ 340282366920938463426481119284349108225 := by
  have b := Int.mul_le_mul (show a ≤ 18446744073709551615 by omega) (show b ≤ 18446744073709551615 by omega) hb0 (by omega)
  omega
theorem split_mul (a b : Int) : a * b = (a / 4294967296) * (b / 4294967296) * 18446744073709551616 + ((a / 4294967296) * (b % 4294967296) + (a % 4294967296) * (b / 4294967296)) * 4294967296 + (a % 4294967296) * (b % 4294967296) := by
  have e1 := Int.mul_ediv_add_emod a 4294967296
  have e2 := Int.mul_ediv_add_emod b 4294967296
  generalize a / 4294967296 = x at *
  generalize b / 4294967296 = y at *
  generalize a % 4294967296 = u at *
  generalize b % 4294967296 = v at *
  subst e1 e2
  rw [Int.add_mul, Int.mul_add, Int.mul_add, Int.add_mul, Int.mul_assoc 4294967296 x, Int.mul_left_comm x 4294967296 y, Int.mul_assoc 4294967296 x v, Int.mul_left_comm u 4294967296 y]
  omega
theorem mulhu_f (a b : Int) (ha0 : 0 ≤ a) (ha1 : a < 18446744073709551616) (hb0 : 0 ≤ b) (hb1 : b < 18446744073709551616) : word_MulHU.f a b = some (a * b / 18446744073709551616) := by
  unfold word_MulHU.f bits_Mul64.f
  simp only [Option.bind_some]
  have hs := split_mul a b
  have p := mul_bd (a % 4294967296) (b % 4294967296) (by omega) (by omega) (by omega) (by omega)
  have q := mul_bd (a / 4294967296) (b % 4294967296) (by omega) (by omega) (by omega) (by omega)
  have r := mul_bd (a % 4294967296) (b / 4294967296) (by omega) (by omega) (by omega) (by omega)
  have s := mul_bd (a / 4294967296) (b / 4294967296) (by omega) (by omega) (by omega) (by omega)
  rw [low32 a ha0 ha1, low32 b hb0 hb1, hs]
  generalize (a % 4294967296) * (b % 4294967296) = P at *
  generalize (a / 4294967296) * (b % 4294967296) = Q at *
  generalize (a % 4294967296) * (b / 4294967296) = R at *
  generalize (a / 4294967296) * (b / 4294967296) = S at *
  rw [wrap_in (n := P) (by omega) (by omega), wrap_in (n := Q) (by omega) (by omega), wrap_in (n := R) (by omega) (by omega), wrap_in (n := S) (by omega) (by omega)]
  rw [wrap_in (n := Q + P / 4294967296) (by omega) (by omega)]
  rw [low32 _ (by omega) (by omega)]
  rw [wrap_in (n := (Q + P / 4294967296) % 4294967296 + R) (by omega) (by omega)]
  have e : S * 18446744073709551616 + (Q + R) * 4294967296 + P = (S + (Q + P / 4294967296) / 4294967296 + ((Q + P / 4294967296) % 4294967296 + R) / 4294967296) * 18446744073709551616 + (S * 18446744073709551616 + (Q + R) * 4294967296 + P - (S + (Q + P / 4294967296) / 4294967296 + ((Q + P / 4294967296) % 4294967296 + R) / 4294967296) * 18446744073709551616) := by omega
  congr 1
  have hb := prod_bd a b ha0 ha1 hb0 hb1
  rw [hs] at hb
  rw [wrap_in (n := S + (Q + P / 4294967296) / 4294967296) (by omega) (by omega), wrap_in (by omega) (by omega)]
  omega
theorem minus_f (x : Int) (h0 : 0 ≤ x) (h1 : x < 18446744073709551616) : word_minus.f x = some (decide (9223372036854775808 ≤ x)) := by
  unfold word_minus.f
  congr 1
  rw [Bool.eq_iff_iff, decide_eq_true_eq, decide_eq_true_eq]
  unfold wrap64; omega
/-- The number that a word is with its sign. -/
def sg (a : Int) : Int := if 9223372036854775808 ≤ a then a - 18446744073709551616 else a
theorem mulh_f (a b : Int) (ha0 : 0 ≤ a) (ha1 : a < 18446744073709551616) (hb0 : 0 ≤ b) (hb1 : b < 18446744073709551616) : word_MulH.f a b = some (IntKind.u64.wrap (sg a * sg b / 18446744073709551616)) := by
  unfold word_MulH.f word_MulHSU.f
  rw [mulhu_f a b ha0 ha1 hb0 hb1, minus_f a ha0 ha1, minus_f b hb0 hb1]
  simp only [Option.bind_some, decide_eq_true_eq]
  have h0 := Int.mul_nonneg ha0 hb0
  have hb := prod_bd a b ha0 ha1 hb0 hb1
  unfold sg
  by_cases h1 : 9223372036854775808 ≤ a <;> by_cases h2 : 9223372036854775808 ≤ b
  · have e : (a - 18446744073709551616) * (b - 18446744073709551616) = a * b - 18446744073709551616 * a - 18446744073709551616 * b + 340282366920938463463374607431768211456 := by
      rw [Int.sub_mul, Int.mul_sub, Int.mul_sub, Int.mul_comm a 18446744073709551616]; omega
    simp only [h1, h2, if_true, Option.bind_some]
    rw [e]
    generalize a * b = P at *
    congr 1
    rw [IntKind.wrap_u64, IntKind.wrap_u64, IntKind.wrap_u64]
    omega
  · have e : (a - 18446744073709551616) * b = a * b - 18446744073709551616 * b := by rw [Int.sub_mul]
    simp only [h1, h2, if_true, if_false, Option.bind_some]
    rw [e]
    generalize a * b = P at *
    congr 1
    rw [IntKind.wrap_u64, IntKind.wrap_u64]
    omega
  · have e : a * (b - 18446744073709551616) = a * b - 18446744073709551616 * a := by rw [Int.mul_sub, Int.mul_comm a 18446744073709551616]
    simp only [h1, h2, if_true, if_false, Option.bind_some]
    rw [e]
    generalize a * b = P at *
    congr 1
    rw [IntKind.wrap_u64, IntKind.wrap_u64]
    omega
  · simp only [h1, h2, if_false, Option.bind_some]
    congr 1
    generalize a * b = P at *
    rw [IntKind.wrap_u64]
    omega
theorem mulhsu_f (a b : Int) (ha0 : 0 ≤ a) (ha1 : a < 18446744073709551616) (hb0 : 0 ≤ b) (hb1 : b < 18446744073709551616) : word_MulHSU.f a b = some (IntKind.u64.wrap (sg a * b / 18446744073709551616)) := by
  unfold word_MulHSU.f
  rw [mulhu_f a b ha0 ha1 hb0 hb1, minus_f a ha0 ha1]
  simp only [Option.bind_some, decide_eq_true_eq]
  have h0 := Int.mul_nonneg ha0 hb0
  have hb := prod_bd a b ha0 ha1 hb0 hb1
  unfold sg
  by_cases h1 : 9223372036854775808 ≤ a
  · have e : (a - 18446744073709551616) * b = a * b - 18446744073709551616 * b := by rw [Int.sub_mul]
    simp only [h1, if_true]
    rw [e]
    generalize a * b = P at *
    congr 1
    rw [IntKind.wrap_u64, IntKind.wrap_u64]
    omega
  · simp only [h1, if_false]
    congr 1
    generalize a * b = P at *
    rw [IntKind.wrap_u64]
    omega
theorem product_f (a b : Int) (ha0 : 0 ≤ a) (ha1 : a < 18446744073709551616) (hb0 : 0 ≤ b) (hb1 : b < 18446744073709551616) : marionetteref01_product.f a b = some (a * b / 18446744073709551616, a * b % 18446744073709551616) := by
  unfold marionetteref01_product.f
  have hs := split_mul a b
  have p := mul_bd (a % 4294967296) (b % 4294967296) (by omega) (by omega) (by omega) (by omega)
  have q := mul_bd (a / 4294967296) (b % 4294967296) (by omega) (by omega) (by omega) (by omega)
  have r := mul_bd (a % 4294967296) (b / 4294967296) (by omega) (by omega) (by omega) (by omega)
  have s := mul_bd (a / 4294967296) (b / 4294967296) (by omega) (by omega) (by omega) (by omega)
  have hb := prod_bd a b ha0 ha1 hb0 hb1
  rw [hs] at hb
  rw [low32 a ha0 ha1, low32 b hb0 hb1, hs]
  generalize (a % 4294967296) * (b % 4294967296) = P at *
  generalize (a / 4294967296) * (b % 4294967296) = Q at *
  generalize (a % 4294967296) * (b / 4294967296) = R at *
  generalize (a / 4294967296) * (b / 4294967296) = S at *
  rw [wrap_in (n := P) (by omega) (by omega), wrap_in (n := Q) (by omega) (by omega), wrap_in (n := R) (by omega) (by omega), wrap_in (n := S) (by omega) (by omega)]
  rw [low32 P (by omega) (by omega), low32 Q (by omega) (by omega), low32 R (by omega) (by omega)]
  rw [wrap_in (n := P / 4294967296 + Q % 4294967296) (by omega) (by omega)]
  rw [wrap_in (n := P / 4294967296 + Q % 4294967296 + R % 4294967296) (by omega) (by omega)]
  rw [wrap_in (n := S + Q / 4294967296) (by omega) (by omega)]
  rw [wrap_in (n := S + Q / 4294967296 + R / 4294967296) (by omega) (by omega)]
  rw [wrap_in (n := S + Q / 4294967296 + R / 4294967296 + (P / 4294967296 + Q % 4294967296 + R % 4294967296) / 4294967296) (by omega) (by omega)]
  rw [or_add_int _ (P % 4294967296) 32 (by rw [IntKind.wrap_u64]; omega) (by omega) (by omega) (by rw [IntKind.wrap_u64]; simp) (by rw [IntKind.wrap_u64]; omega)]
  congr 1
  rw [Prod.mk.injEq]
  constructor
  · omega
  · rw [IntKind.wrap_u64]; omega
theorem rmulhu_f (a b : Int) (ha0 : 0 ≤ a) (ha1 : a < 18446744073709551616) (hb0 : 0 ≤ b) (hb1 : b < 18446744073709551616) : marionetteref01_MulHU.f a b = some (a * b / 18446744073709551616) := by
  unfold marionetteref01_MulHU.f
  rw [product_f a b ha0 ha1 hb0 hb1]; rfl
theorem bit63 (x : Int) (h0 : 0 ≤ x) : marionetteref01_bit.f x 63 = some ((x / 9223372036854775808) % 2) := by
  unfold marionetteref01_bit.f
  have e : IntKind.u64.wrap (63 : Int) = 63 := wrap_in (by omega) (by omega)
  rw [e, if_pos (by omega)]
  congr 1
  show Int.tmod (x / 2 ^ 63) 2 = _
  have h2 : 0 ≤ x / 2 ^ 63 := Int.ediv_nonneg h0 (by decide)
  rw [Int.tmod_eq_emod_of_nonneg h2]
  omega
theorem rminus_f (x : Int) (h0 : 0 ≤ x) (h1 : x < 18446744073709551616) : marionetteref01_Minus.f x = some (decide (9223372036854775808 ≤ x)) := by
  unfold marionetteref01_Minus.f
  rw [bit63 x h0]
  simp only [Option.bind_some]
  congr 1
  rw [Bool.eq_iff_iff]
  simp only [beq_iff_eq, decide_eq_true_eq]
  omega
/-- A word without its sign. -/
def mag (x : Int) : Int := if 9223372036854775808 ≤ x then 18446744073709551616 - x else x
theorem mag_bd (x : Int) (h0 : 0 ≤ x) (h1 : x < 18446744073709551616) : 0 ≤ mag x ∧ mag x ≤ 9223372036854775808 := by unfold mag; split <;> omega
theorem size_f (x : Int) (h0 : 0 ≤ x) (h1 : x < 18446744073709551616) : marionetteref01_size.f x = some (mag x) := by
  unfold marionetteref01_size.f mag
  rw [rminus_f x h0 h1]
  simp only [Option.bind_some, decide_eq_true_eq]
  split
  · rw [IntKind.wrap_u64]; congr 1; omega
  · rfl
theorem xor_max (hi : Int) (h0 : 0 ≤ hi) (h1 : hi < 18446744073709551616) : bits BinOp.xor IntKind.u64 IntKind.u64.max hi = 18446744073709551615 - hi := by
  obtain ⟨x, rfl⟩ := ex_U h0 (by omega)
  have e : IntKind.u64.max = U (BitVec.allOnes 64) := by decide +kernel
  rw [e, xor_U, BitVec.allOnes_xor]
  unfold U
  rw [BitVec.toNat_not]
  have := x.isLt
  omega
/-- The upper half of a product of sizes, with a sign. -/
def upw (a b : Int) (m : Bool) : Int := IntKind.u64.wrap ((if m then -(a * b) else a * b) / 18446744073709551616)
theorem ret_u64 {a b : Int} (h : a = b) : Ending.returned (.int .u64 a) = .returned (.int .u64 b) := by rw [h]
theorem up_no (P : Int) (h0 : 0 ≤ P) (h1 : P ≤ 340282366920938463426481119284349108225) : P / 18446744073709551616 = IntKind.u64.wrap (P / 18446744073709551616) := by
  rw [IntKind.wrap_u64]; omega
theorem up_zero (P : Int) (h1 : P % 18446744073709551616 = 0) : IntKind.u64.wrap (-(P / 18446744073709551616)) = IntKind.u64.wrap (-P / 18446744073709551616) := by
  rw [IntKind.wrap_u64, IntKind.wrap_u64]; omega
theorem up_else (P : Int) (h0 : 0 ≤ P) (h2 : P ≤ 340282366920938463426481119284349108225) (h1 : ¬ P % 18446744073709551616 = 0) : 18446744073709551615 - P / 18446744073709551616 = IntKind.u64.wrap (-P / 18446744073709551616) := by
  rw [IntKind.wrap_u64]; omega
theorem upper_any (a b : Int) (m : Bool) (ha0 : 0 ≤ a) (ha1 : a < 18446744073709551616) (hb0 : 0 ≤ b) (hb1 : b < 18446744073709551616) (w : World) :
    Calls Try.prog 46 #[.int .u64 a, .int .u64 b, .bool m] w fun e w' => e = .returned (.int .u64 (upw a b m)) ∧ Drawn0 w w' := by
  have h0 := Int.mul_nonneg ha0 hb0
  have h1 := prod_bd a b ha0 ha1 hb0 hb1
  have hp := product_f a b ha0 ha1 hb0 hb1
  unfold upw
  generalize a * b = P at *
  have hx := xor_max (P / 18446744073709551616) (by omega) (by omega)
  have HX := Lib.hid hx
  have HP := Lib.hid hp
  clear hx hp
  cases m
  · go_enter Try.func46, Try.ntmps46
    go_wp2_with (go_at_call 44; (with_reducible refine (marionetteref01_product.calls a b _ _ _ HP.out).mono ?_); rintro e w' ⟨rfl, ⟨nd, rfl⟩⟩)
    go_ret
    exact ⟨ret_u64 (up_no P h0 h1), by repeat (first | exact Drawn0.refl _ | apply Drawn0.step)⟩
  · by_cases hz : P % 18446744073709551616 = 0
    · have HZ := Lib.hid hz
      have c0 : (P % 18446744073709551616 == 0) = true := beq_iff_eq.2 hz
      clear hz
      go_enter Try.func46, Try.ntmps46
      go_wp2_with (go_at_call 44; (with_reducible refine (marionetteref01_product.calls a b _ _ _ HP.out).mono ?_); rintro e w' ⟨rfl, ⟨nd, rfl⟩⟩)
      go_ret
      exact ⟨ret_u64 (up_zero P HZ.out), by repeat (first | exact Drawn0.refl _ | apply Drawn0.step)⟩
    · have HZ := Lib.hid hz
      have c0 : (P % 18446744073709551616 == 0) = false := beq_eq_false_iff_ne.2 hz
      clear hz
      go_enter Try.func46, Try.ntmps46
      go_wp2_with (go_at_call 44; (with_reducible refine (marionetteref01_product.calls a b _ _ _ HP.out).mono ?_); rintro e w' ⟨rfl, ⟨nd, rfl⟩⟩)
      go_ret
      exact ⟨ret_u64 (HX.out.trans (up_else P h0 h1 HZ.out)), by repeat (first | exact Drawn0.refl _ | apply Drawn0.step)⟩
theorem up_sg (a b : Int) : upw (mag a) (mag b) (decide (9223372036854775808 ≤ a) != decide (9223372036854775808 ≤ b)) = IntKind.u64.wrap (sg a * sg b / 18446744073709551616) := by
  unfold upw
  congr 2
  unfold mag sg
  by_cases h1 : 9223372036854775808 ≤ a <;> by_cases h2 : 9223372036854775808 ≤ b
  · simp only [h1, h2, if_true, decide_true, bne_self_eq_false, Bool.false_eq_true, if_false]
    rw [← Int.neg_mul_neg]; congr 1 <;> omega
  · simp [h1, h2]
    rw [← Int.neg_mul]; congr 1; omega
  · simp [h1, h2]
    rw [← Int.mul_neg]; congr 1; omega
  · simp [h1, h2]
theorem up_su (a b : Int) : upw (mag a) b (decide (9223372036854775808 ≤ a)) = IntKind.u64.wrap (sg a * b / 18446744073709551616) := by
  unfold upw
  congr 2
  unfold mag sg
  by_cases h1 : 9223372036854775808 ≤ a
  · simp only [h1, if_true, decide_true]
    rw [← Int.neg_mul]; congr 1; omega
  · simp [h1]
theorem rmulh_any (a b : Int) (ha0 : 0 ≤ a) (ha1 : a < 18446744073709551616) (hb0 : 0 ≤ b) (hb1 : b < 18446744073709551616) (w : World) :
    Calls Try.prog 30 #[.int .u64 a, .int .u64 b] w fun e w' => e = .returned (.int .u64 (IntKind.u64.wrap (sg a * sg b / 18446744073709551616))) ∧ Drawn0 w w' := by
  rw [← up_sg a b]
  have ma := mag_bd a ha0 ha1
  have mb := mag_bd b hb0 hb1
  have s1 := Lib.hid (size_f a ha0 ha1)
  have s2 := Lib.hid (size_f b hb0 hb1)
  have s3 := Lib.hid (rminus_f a ha0 ha1)
  have s4 := Lib.hid (rminus_f b hb0 hb1)
  generalize decide (9223372036854775808 ≤ a) = pa at *
  generalize decide (9223372036854775808 ≤ b) = pb at *
  go_enter Try.func30, Try.ntmps30
  go_wp2_with fail
  refine (marionetteref01_size.calls a _ _ s1.out).mono ?_; rintro e w' ⟨rfl, ⟨m1, rfl⟩⟩
  go_wp2_with fail
  refine (marionetteref01_size.calls b _ _ s2.out).mono ?_; rintro e w' ⟨rfl, ⟨m2, rfl⟩⟩
  go_wp2_with fail
  refine (marionetteref01_Minus.calls a _ _ s3.out).mono ?_; rintro e w' ⟨rfl, ⟨m3, rfl⟩⟩
  go_wp2_with fail
  refine (marionetteref01_Minus.calls b _ _ s4.out).mono ?_; rintro e w' ⟨rfl, ⟨m4, rfl⟩⟩
  go_wp2_with fail
  refine (upper_any (mag a) (mag b) _ ma.1 (by omega) mb.1 (by omega) _).mono ?_; rintro e w' ⟨rfl, ⟨m5, rfl⟩⟩
  go_wp2_with fail
  go_ret
  exact ⟨rfl, by repeat (first | exact Drawn0.refl _ | apply Drawn0.step)⟩
theorem rmulhsu_any (a b : Int) (ha0 : 0 ≤ a) (ha1 : a < 18446744073709551616) (hb0 : 0 ≤ b) (hb1 : b < 18446744073709551616) (w : World) :
    Calls Try.prog 32 #[.int .u64 a, .int .u64 b] w fun e w' => e = .returned (.int .u64 (IntKind.u64.wrap (sg a * b / 18446744073709551616))) ∧ Drawn0 w w' := by
  rw [← up_su a b]
  have ma := mag_bd a ha0 ha1
  have s1 := Lib.hid (size_f a ha0 ha1)
  have s3 := Lib.hid (rminus_f a ha0 ha1)
  generalize decide (9223372036854775808 ≤ a) = pa at *
  go_enter Try.func32, Try.ntmps32
  go_wp2_with fail
  refine (marionetteref01_size.calls a _ _ s1.out).mono ?_; rintro e w' ⟨rfl, ⟨m1, rfl⟩⟩
  go_wp2_with fail
  refine (marionetteref01_Minus.calls a _ _ s3.out).mono ?_; rintro e w' ⟨rfl, ⟨m3, rfl⟩⟩
  go_wp2_with fail
  refine (upper_any (mag a) b _ ma.1 (by omega) hb0 hb1 _).mono ?_; rintro e w' ⟨rfl, ⟨m5, rfl⟩⟩
  go_wp2_with fail
  go_ret
  exact ⟨rfl, by repeat (first | exact Drawn0.refl _ | apply Drawn0.step)⟩
theorem answers_any (w : World) : Calls Try.prog 14 #[] w fun e w' => e = .returned (.bool true) ∧ Drawn0 w w' :=
  marionettelaw01_answers.calls true w (by kernel_rfl)
theorem law (a b : Int) (ha0 : 0 ≤ a) (ha1 : a < 18446744073709551616) (hb0 : 0 ≤ b) (hb1 : b < 18446744073709551616) (w : World) :
    Calls Try.prog 6 #[.int .u64 a, .int .u64 b] w fun e w' => e = .returned (.bool true) ∧ Drawn0 w w' := by
  have s1 := Lib.hid (mulhu_f a b ha0 ha1 hb0 hb1)
  have s2 := Lib.hid (rmulhu_f a b ha0 ha1 hb0 hb1)
  have s3 := Lib.hid (mulh_f a b ha0 ha1 hb0 hb1)
  have s4 := Lib.hid (mulhsu_f a b ha0 ha1 hb0 hb1)
  have r3 := Lib.hid (rmulh_any a b ha0 ha1 hb0 hb1)
  have r4 := Lib.hid (rmulhsu_any a b ha0 ha1 hb0 hb1)
  generalize a * b / 18446744073709551616 = P at *
  generalize IntKind.u64.wrap (sg a * sg b / 18446744073709551616) = Q at *
  generalize IntKind.u64.wrap (sg a * b / 18446744073709551616) = R at *
  go_enter Try.func6, Try.ntmps6
  go_wp2_with fail
  refine (answers_any _).mono ?_; rintro e w' ⟨rfl, ⟨m1, rfl⟩⟩
  go_wp2_with fail
  refine (word_MulHU.calls a b _ _ s1.out).mono ?_; rintro e w' ⟨rfl, ⟨m2, rfl⟩⟩
  go_wp2_with fail
  refine (marionetteref01_MulHU.calls a b _ _ s2.out).mono ?_; rintro e w' ⟨rfl, ⟨m3, rfl⟩⟩
  go_wp2_with fail
  refine (word_MulH.calls a b _ _ s3.out).mono ?_; rintro e w' ⟨rfl, ⟨m4, rfl⟩⟩
  go_wp2_with fail
  refine (r3.out _).mono ?_; rintro e w' ⟨rfl, ⟨m5, rfl⟩⟩
  go_wp2_with fail
  refine (word_MulHSU.calls a b _ _ s4.out).mono ?_; rintro e w' ⟨rfl, ⟨m6, rfl⟩⟩
  go_wp2_with fail
  refine (r4.out _).mono ?_; rintro e w' ⟨rfl, ⟨m7, rfl⟩⟩
  go_wp2_with fail
  go_ret
  exact ⟨rfl, by repeat (first | exact Drawn0.refl _ | apply Drawn0.step)⟩
theorem walk (a0 a1 : Int) (W : World) (w0 : (Lit.int .u64 a0).wf = true) (w1 : (Lit.int .u64 a1).wf = true) :
    Calls Try.prog 6 #[.int .u64 a0, .int .u64 a1] W fun e w' => e = .returned (.bool true) ∧ Below W.heap.size W w' := by
  have b0 := Go.bounds_u64 w0
  have b1 := Go.bounds_u64 w1
  exact (law a0 a1 b0.1 (by omega) b1.1 (by omega) W).mono fun _ _ h => ⟨h.1, h.2.below⟩
end Go.Proofs.Ytdjgjedmbgnjbaa.MuHand
