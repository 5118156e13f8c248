/- For all words: DivU, RemU, Div and Rem answer what the document's long division answers. No further condition. -/
import Derived.Test.YtdjgjedmbgnjbaaPWordQuotientsx1
import Derived.Test.YtdjgjedmbgnjbaaBv
namespace Go.Proofs.Ytdjgjedmbgnjbaa.Pure
open Go Go.RowKit Go.Proofs.Ytdjgjedmbgnjbaa.PWordQuotients Go.Proofs.YtdjgjedmbgnjbaaW.PrintWords Go.Proofs.YtdjgjedmbgnjbaaW.PrintLast
open Go.Proofs.Ytdjgjedmbgnjbaa.Bv
namespace WQuot
theorem answers_f : marionettelaw01_answers.f = some true := by kernel_rfl
theorem bit_f (x : Int) (i : Nat) (hi : i ≤ 63) : marionetteref01_bit.f x i = some (Int.tmod (x / 2 ^ i) 2) := by
  unfold marionetteref01_bit.f
  have e : IntKind.u64.wrap (i : Int) = i := wrap_in (by omega) (by omega)
  rw [e, if_pos (by omega)]
  congr 2
  show x / 2 ^ min i 64 = _
  rw [Nat.min_eq_left (by omega)]
theorem minus_f (x : Int) (h0 : 0 ≤ x) (h1 : x < 18446744073709551616) : marionetteref01_Minus.f x = some (decide (9223372036854775808 ≤ x)) := by
  unfold marionetteref01_Minus.f
  rw [show (63 : Int) = ((63 : Nat) : Int) from rfl, bit_f x 63 (by omega)]
  simp only [Option.bind_some]
  have h2 : 0 ≤ x / 2 ^ 63 := Int.ediv_nonneg h0 (by decide)
  rw [Int.tmod_eq_emod_of_nonneg h2]
  congr 1
  rw [Bool.eq_iff_iff]
  simp only [beq_iff_eq, decide_eq_true_eq]
  omega
theorem size_f (x : Int) (h0 : 0 ≤ x) (h1 : x < 18446744073709551616) : marionetteref01_size.f x = some (if 9223372036854775808 ≤ x then 18446744073709551616 - x else x) := by
  unfold marionetteref01_size.f
  rw [minus_f x h0 h1]
  simp only [Option.bind_some, decide_eq_true_eq]
  split
  · rw [IntKind.wrap_u64]; congr 1; omega
  · rfl
theorem divide_l0 (a b : Int) (ha0 : 0 ≤ a) (ha1 : a < 18446744073709551616) (hb0 : 0 < b) (hb1 : b < 18446744073709551616) (d : Nat) :
    ∀ (k : Nat) (q r : Int), d < k → d ≤ 64 → 0 ≤ q → 0 ≤ r → r < b → a / 2 ^ d = q * b + r → marionetteref01_divide.l0 k a b q r ((d : Int) - 1) = some (a / b, a % b) := by
  induction d with
  | zero =>
    intro k q r hk _ _ hr0 hr1 he
    obtain ⟨k, rfl⟩ : ∃ m, k = m + 1 := ⟨k - 1, by omega⟩
    simp only [marionetteref01_divide.l0]
    rw [if_neg (by omega)]
    have e : a = q * b + r := by simpa using he
    rw [e, Int.add_comm, Int.add_mul_ediv_right _ _ (by omega), Int.ediv_eq_zero_of_lt hr0 hr1, Int.add_mul_emod_self_right, Int.emod_eq_of_lt hr0 hr1]
    simp
  | succ d ih =>
    intro k q r hk hd hq0 hr0 hr1 he
    obtain ⟨k, rfl⟩ : ∃ m, k = m + 1 := ⟨k - 1, by omega⟩
    have hp : (2 : Int) ^ (d + 1) = 2 ^ d * 2 := Int.pow_succ 2 d
    rw [hp, ← Int.ediv_ediv_of_nonneg (Int.pow_nonneg (by decide))] at he
    have hm0 : 0 ≤ a / 2 ^ d := Int.ediv_nonneg ha0 (Int.pow_nonneg (by decide))
    have hm1 : a / 2 ^ d ≤ a := Int.ediv_le_self _ ha0
    generalize hm : a / 2 ^ d = m at *
    have hqb : q ≤ q * b := by
      have := Int.mul_le_mul_of_nonneg_left (show (1 : Int) ≤ b by omega) hq0
      omega
    simp only [marionetteref01_divide.l0]
    rw [if_pos (by omega), minus_f r hr0 (by omega)]
    have ex : (((d + 1 : Nat) : Int) - 1) = ((d : Nat) : Int) := by omega
    rw [ex, bit_f a d (by omega), hm]
    simp only [Option.bind_some, decide_eq_true_eq]
    rw [Int.tmod_eq_emod_of_nonneg hm0]
    have ew : wrap64 ((d : Int) - 1) = (d : Int) - 1 := wrap64_in (by omega) (by omega)
    have hq2 : IntKind.u64.wrap (q * 2) = q * 2 := wrap_in (by omega) (by omega)
    have hmul1 : (q * 2 + 1) * b = 2 * (q * b) + b := by rw [Int.add_mul, Int.one_mul, Int.mul_comm q 2, Int.mul_assoc]
    have hmul0 : (q * 2) * b = 2 * (q * b) := by rw [Int.mul_comm q 2, Int.mul_assoc]
    generalize hP : q * b = P at *
    rw [hq2, ew, or_bit (q * 2) 1 (by omega) (by omega) (by omega) (by omega)]
    rw [or_bit (IntKind.u64.wrap (r * 2)) (m % 2) (by rw [IntKind.wrap_u64]; omega) (by rw [IntKind.wrap_u64]; omega) (by rw [IntKind.wrap_u64]; omega) (by omega)]
    have go1 : 2 * r + m % 2 ≥ b → marionetteref01_divide.l0 k a b (q * 2 + 1) (IntKind.u64.wrap (IntKind.u64.wrap (r * 2) + m % 2 - b)) ((d : Int) - 1) = some (a / b, a % b) := by
      intro hge
      have er : IntKind.u64.wrap (IntKind.u64.wrap (r * 2) + m % 2 - b) = 2 * r + m % 2 - b := by rw [IntKind.wrap_u64, IntKind.wrap_u64]; omega
      rw [er]
      exact ih k _ _ (by omega) (by omega) (by omega) (by omega) (by omega) (by rw [hmul1]; omega)
    split
    · exact go1 (by omega)
    · rename_i hlt
      have er : IntKind.u64.wrap (r * 2) = 2 * r := by rw [IntKind.wrap_u64]; omega
      split
      · exact go1 (by omega)
      · rw [er]
        exact ih k _ _ (by omega) (by omega) (by omega) (by omega) (by omega) (by rw [hmul0]; omega)
theorem divide_f (a b : Int) (ha0 : 0 ≤ a) (ha1 : a < 18446744073709551616) (hb0 : 0 < b) (hb1 : b < 18446744073709551616) : marionetteref01_divide.f 65 a b = some (a / b, a % b) := by
  unfold marionetteref01_divide.f
  exact divide_l0 a b ha0 ha1 hb0 hb1 64 65 0 0 (by omega) (by omega) (by omega) (by omega) (by omega) (by rw [Int.ediv_eq_zero_of_lt ha0 (by omega)]; omega)
/-- The number that a word is with its sign. -/
def sg (a : Int) : Int := if 9223372036854775808 ≤ a then a - 18446744073709551616 else a
theorem sg_eq (a : Int) (h0 : 0 ≤ a) (h1 : a < 18446744073709551616) : wrap64 a = sg a := by unfold wrap64 sg; split <;> omega
theorem div_f (a b : Int) (ha0 : 0 ≤ a) (ha1 : a < 18446744073709551616) (hb0 : 0 ≤ b) (hb1 : b < 18446744073709551616) (hb : b ≠ 0) : word_Div.f a b = some (IntKind.u64.wrap (Int.tdiv (sg a) (sg b))) := by
  unfold word_Div.f
  have hn : ¬ sg b = 0 := by unfold sg; split <;> omega
  rw [if_neg hb, sg_eq a ha0 ha1, sg_eq b hb0 hb1, if_neg hn, wrap_wrap64]
  split
  · rename_i e
    split
    · rename_i e2
      subst e e2
      rfl
    · rfl
  · rfl
theorem rem_f (a b : Int) (ha0 : 0 ≤ a) (ha1 : a < 18446744073709551616) (hb0 : 0 ≤ b) (hb1 : b < 18446744073709551616) (hb : b ≠ 0) : word_Rem.f a b = some (IntKind.u64.wrap (Int.tmod (sg a) (sg b))) := by
  unfold word_Rem.f
  have hn : ¬ sg b = 0 := by unfold sg; split <;> omega
  rw [if_neg hb, sg_eq a ha0 ha1, sg_eq b hb0 hb1, if_neg hn]
  split
  · rename_i e
    split
    · rename_i e2
      subst e e2
      rfl
    · rfl
  · rfl
theorem rdiv_f (a b : Int) (ha0 : 0 ≤ a) (ha1 : a < 18446744073709551616) (hb0 : 0 ≤ b) (hb1 : b < 18446744073709551616) (hb : b ≠ 0) : marionetteref01_Div.f 65 a b = some (IntKind.u64.wrap (Int.tdiv (sg a) (sg b))) := by
  unfold marionetteref01_Div.f
  rw [if_neg hb, size_f a ha0 ha1, size_f b hb0 hb1]
  simp only [Option.bind_some]
  rw [divide_f _ _ (by split <;> omega) (by split <;> omega) (by split <;> omega) (by split <;> omega), minus_f a ha0 ha1, minus_f b hb0 hb1]
  simp only [Option.bind_some]
  have hx : ∀ u v : Int, 0 ≤ u → u ≤ 9223372036854775808 → 0 < v → 0 ≤ u / v ∧ u / v ≤ u := fun u v h1 _ h3 => ⟨Int.ediv_nonneg h1 (by omega), Int.ediv_le_self _ h1⟩
  unfold sg
  by_cases h1 : 9223372036854775808 ≤ a <;> by_cases h2 : 9223372036854775808 ≤ b
  · rw [if_pos h1, if_pos h2, if_pos h1, if_pos h2]
    have e : Int.tdiv (a - 18446744073709551616) (b - 18446744073709551616) = (18446744073709551616 - a) / (18446744073709551616 - b) := by
      rw [show a - 18446744073709551616 = -(18446744073709551616 - a) by omega, show b - 18446744073709551616 = -(18446744073709551616 - b) by omega, Int.neg_tdiv, Int.tdiv_neg, Int.neg_neg, Int.tdiv_eq_ediv_of_nonneg (by omega)]
    have hh := hx (18446744073709551616 - a) (18446744073709551616 - b) (by omega) (by omega) (by omega)
    rw [e]
    simp only [h1, h2, decide_true, bne_self_eq_false, Bool.false_eq_true, if_false]
    rw [wrap_in hh.1 (by omega)]
  · rw [if_pos h1, if_neg h2, if_pos h1, if_neg h2]
    have e : Int.tdiv (a - 18446744073709551616) b = -((18446744073709551616 - a) / b) := by
      rw [show a - 18446744073709551616 = -(18446744073709551616 - a) by omega, Int.neg_tdiv, Int.tdiv_eq_ediv_of_nonneg (by omega)]
    rw [e]
    simp [h1, h2]
  · rw [if_neg h1, if_pos h2, if_neg h1, if_pos h2]
    have e : Int.tdiv a (b - 18446744073709551616) = -(a / (18446744073709551616 - b)) := by
      rw [show b - 18446744073709551616 = -(18446744073709551616 - b) by omega, Int.tdiv_neg, Int.tdiv_eq_ediv_of_nonneg (by omega)]
    rw [e]
    simp [h1, h2]
  · rw [if_neg h1, if_neg h2, if_neg h1, if_neg h2]
    have hh := hx a b (by omega) (by omega) (by omega)
    rw [Int.tdiv_eq_ediv_of_nonneg (by omega)]
    simp only [h1, h2, decide_false, bne_self_eq_false, Bool.false_eq_true, if_false]
    rw [wrap_in hh.1 (by omega)]
theorem rrem_f (a b : Int) (ha0 : 0 ≤ a) (ha1 : a < 18446744073709551616) (hb0 : 0 ≤ b) (hb1 : b < 18446744073709551616) (hb : b ≠ 0) : marionetteref01_Rem.f 65 a b = some (IntKind.u64.wrap (Int.tmod (sg a) (sg b))) := by
  unfold marionetteref01_Rem.f
  rw [if_neg hb, size_f a ha0 ha1, size_f b hb0 hb1]
  simp only [Option.bind_some]
  rw [divide_f _ _ (by split <;> omega) (by split <;> omega) (by split <;> omega) (by split <;> omega), minus_f a ha0 ha1]
  simp only [Option.bind_some]
  have hx : ∀ u v : Int, 0 < v → 0 ≤ u % v ∧ u % v < v := fun u v h3 => ⟨Int.emod_nonneg _ (by omega), Int.emod_lt_of_pos _ h3⟩
  unfold sg
  by_cases h1 : 9223372036854775808 ≤ a <;> by_cases h2 : 9223372036854775808 ≤ b
  · rw [if_pos h1, if_pos h2, if_pos h1, if_pos h2]
    have e : Int.tmod (a - 18446744073709551616) (b - 18446744073709551616) = -((18446744073709551616 - a) % (18446744073709551616 - b)) := by
      rw [show a - 18446744073709551616 = -(18446744073709551616 - a) by omega, show b - 18446744073709551616 = -(18446744073709551616 - b) by omega, Int.neg_tmod, Int.tmod_neg, Int.tmod_eq_emod_of_nonneg (by omega)]
    rw [e]
    simp [h1]
  · rw [if_pos h1, if_neg h2, if_pos h1, if_neg h2]
    have e : Int.tmod (a - 18446744073709551616) b = -((18446744073709551616 - a) % b) := by
      rw [show a - 18446744073709551616 = -(18446744073709551616 - a) by omega, Int.neg_tmod, Int.tmod_eq_emod_of_nonneg (by omega)]
    rw [e]
    simp [h1]
  · rw [if_neg h1, if_pos h2, if_neg h1, if_pos h2]
    have e : Int.tmod a (b - 18446744073709551616) = a % (18446744073709551616 - b) := by
      rw [show b - 18446744073709551616 = -(18446744073709551616 - b) by omega, Int.tmod_neg, Int.tmod_eq_emod_of_nonneg (by omega)]
    have hh := hx a (18446744073709551616 - b) (by omega)
    rw [e]
    simp only [h1, decide_false, Bool.false_eq_true, if_false]
    rw [wrap_in hh.1 (by omega)]
  · rw [if_neg h1, if_neg h2, if_neg h1, if_neg h2]
    have hh := hx a b (by omega)
    rw [Int.tmod_eq_emod_of_nonneg (by omega)]
    simp only [h1, decide_false, Bool.false_eq_true, if_false]
    rw [wrap_in hh.1 (by omega)]
end WQuot
open WQuot
theorem WordQuotients : marionettelaw01_WordQuotients.Pure := by
  intro a b wa wb
  have ba := Go.bounds_u64 wa
  have bb := Go.bounds_u64 wb
  refine ⟨65, ?_⟩
  unfold marionettelaw01_WordQuotients.f
  by_cases hb : b = 0
  · subst hb
    simp [answers_f, word_DivU.f, marionetteref01_DivU.f, word_RemU.f, marionetteref01_RemU.f, word_Div.f, marionetteref01_Div.f, word_Rem.f, marionetteref01_Rem.f]
  · have hq : 0 ≤ a / b ∧ a / b ≤ a := ⟨Int.ediv_nonneg ba.1 bb.1, Int.ediv_le_self _ ba.1⟩
    have e1 : word_DivU.f a b = some (a / b) := by unfold word_DivU.f; rw [if_neg hb, Int.tdiv_eq_ediv_of_nonneg ba.1, wrap_in hq.1 (by omega)]
    have e2 : word_RemU.f a b = some (a % b) := by unfold word_RemU.f; rw [if_neg hb, Int.tmod_eq_emod_of_nonneg ba.1]
    have e3 : marionetteref01_DivU.f 65 a b = some (a / b) := by unfold marionetteref01_DivU.f; rw [if_neg hb, divide_f a b ba.1 (by omega) (by omega) (by omega)]; rfl
    have e4 : marionetteref01_RemU.f 65 a b = some (a % b) := by unfold marionetteref01_RemU.f; rw [if_neg hb, divide_f a b ba.1 (by omega) (by omega) (by omega)]; rfl
    rw [e1, e2, e3, e4, div_f a b ba.1 (by omega) bb.1 (by omega) hb, rem_f a b ba.1 (by omega) bb.1 (by omega) hb, rdiv_f a b ba.1 (by omega) bb.1 (by omega) hb, rrem_f a b ba.1 (by omega) bb.1 (by omega) hb, answers_f]
    simp
end Go.Proofs.Ytdjgjedmbgnjbaa.Pure
