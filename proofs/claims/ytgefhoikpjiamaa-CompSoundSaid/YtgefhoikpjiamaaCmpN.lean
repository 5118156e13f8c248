/- The contracts of package comp's small functions and of the document's F, S and eight, in whole numbers: for every word of 16 bits. -/
import Derived.Test.YtgefhoikpjiamaaCmpA
import Derived.Test.YtgefhoikpjiamaaCmpB
import Derived.Test.YtgefhoikpjiamaaCmpP
import Derived.Test.YtgefhoikpjiamaaBv
import Derived.Test.YtgefhoikpjiamaaHp
import Derived.Lib.Hide
namespace Go.Proofs.Ytgefhoikpjiamaa.Cmp
open Go Go.RowKit Go.Proofs.YtgefhoikpjiamaaW.PrintWords Go.Proofs.YtgefhoikpjiamaaW.PrintLast Go.Proofs.YtgefhoikpjiamaaW.PrintMore
open Go.Proofs.Ytgefhoikpjiamaa.Hp Go.Proofs.Ytgefhoikpjiamaa.Bv
set_option linter.unusedVariables false
set_option linter.unusedSimpArgs false
theorem ofInt_i64 (a : Nat) (ha : a < 9223372036854775808) : (BitVec.ofInt 64 (a : Int)).toNat = a := by
  rw [BitVec.ofInt_natCast, BitVec.toNat_ofNat]; exact Nat.mod_eq_of_lt (by omega)
theorem and_n (a b : Nat) (ha : a < 9223372036854775808) (hb : b < 9223372036854775808) : bits .and .i64 (a : Int) (b : Int) = ((a &&& b : Nat) : Int) := by
  have hx : a &&& b < 2 ^ 63 := Nat.and_lt_two_pow _ (by omega)
  show IntKind.i64.wrap ((BitVec.ofInt 64 (a : Int) &&& BitVec.ofInt 64 (b : Int)).toNat : Int) = _
  rw [BitVec.toNat_and, ofInt_i64 a ha, ofInt_i64 b hb, IntKind.wrap_i64]
  omega
theorem or_n (a b : Nat) (ha : a < 65536) (hb : b < 65536) : bits .or .i64 (a : Int) (b : Int) = ((a ||| b : Nat) : Int) := by
  have hx : a ||| b < 2 ^ 16 := Nat.or_lt_two_pow (by omega) (by omega)
  show IntKind.i64.wrap ((BitVec.ofInt 64 (a : Int) ||| BitVec.ofInt 64 (b : Int)).toNat : Int) = _
  rw [BitVec.toNat_or, ofInt_i64 a (by omega), ofInt_i64 b (by omega), IntKind.wrap_i64]
  omega
theorem or_lt {a b : Nat} (ha : a < 65536) (hb : b < 65536) : a ||| b < 65536 := Nat.or_lt_two_pow (n := 16) ha hb
theorem bv_lt (h a n t : Nat) (hnt : n + t ≤ 16) : bv h a n t < 65536 := by
  unfold bv
  have h1 : h / 2 ^ a % 2 ^ n < 2 ^ n := Nat.mod_lt _ (Nat.two_pow_pos n)
  have h2 : h / 2 ^ a % 2 ^ n * 2 ^ t < 2 ^ n * 2 ^ t := Nat.mul_lt_mul_of_pos_right h1 (Nat.two_pow_pos t)
  rw [← Nat.pow_add] at h2
  exact Nat.lt_of_lt_of_le h2 (Nat.pow_le_pow_right (by decide) hnt)
theorem bits_f (h a n t : Nat) (hh : h < 65536) (ha : a ≤ 16) (hnt : n + t ≤ 16) : CmpA.comp_half_bits.f (h : Int) (a : Int) (n : Int) (t : Int) = some ((bv h a n t : Nat) : Int) := by
  unfold CmpA.comp_half_bits.f
  rw [if_pos (by omega), if_pos (by omega), if_pos (by omega)]
  congr 1
  have hq : h / 2 ^ a < 65536 := Nat.lt_of_le_of_lt (Nat.div_le_self _ _) hh
  have hp : 2 ^ n ≤ 65536 := Nat.pow_le_pow_right (n := 2) (by decide) (show n ≤ 16 by omega)
  have hp0 : 0 < 2 ^ n := Nat.two_pow_pos n
  have e1 : shr .u16 (h : Int) (a : Int) = ((h / 2 ^ a : Nat) : Int) := by
    show (h : Int) / 2 ^ min ((a : Int).toNat) 16 = _
    rw [Int.toNat_natCast, Nat.min_eq_left ha]
    simp
  have e2 : shl .i64 1 (n : Int) = ((2 ^ n : Nat) : Int) := by
    show IntKind.i64.wrap (1 * 2 ^ min ((n : Int).toNat) 64) = _
    rw [Int.toNat_natCast, Nat.min_eq_left (by omega), Int.one_mul, ← wrap64_eq]
    have e : (2 : Int) ^ n = ((2 ^ n : Nat) : Int) := by simp
    rw [e, wrap64_in (by omega) (by omega)]
  have e3 : wrap64 (((2 ^ n : Nat) : Int) - 1) = ((2 ^ n - 1 : Nat) : Int) := by rw [wrap64_in (by omega) (by omega)]; omega
  have hm : h / 2 ^ a % 2 ^ n < 65536 := Nat.lt_of_le_of_lt (Nat.mod_le _ _) hq
  have hb := bv_lt h a n t hnt
  unfold bv at hb ⊢
  rw [e1, e2, e3]
  have hw : 2 ^ n - 1 < 65536 := by omega
  have e4 : bits .and .i64 (wrap64 ((h / 2 ^ a : Nat) : Int)) ((2 ^ n - 1 : Nat) : Int) = ((h / 2 ^ a % 2 ^ n : Nat) : Int) := by
    rw [← Nat.and_two_pow_sub_one_eq_mod]
    clear e1 e2 e3 hb hm hp hp0
    generalize h / 2 ^ a = q at *
    generalize 2 ^ n - 1 = p at *
    rw [wrap64_in (by omega) (by omega), and_n _ _ (by omega) (by omega)]
  rw [e4]
  show IntKind.i64.wrap (((h / 2 ^ a % 2 ^ n : Nat) : Int) * 2 ^ min ((t : Int).toNat) 64) = _
  rw [Int.toNat_natCast, Nat.min_eq_left (by omega), ← wrap64_eq]
  have e : ((h / 2 ^ a % 2 ^ n : Nat) : Int) * 2 ^ t = ((h / 2 ^ a % 2 ^ n * 2 ^ t : Nat) : Int) := by simp
  rw [e]
  clear e1 e2 e3 e4 e hm hp hp0 hw hq
  generalize h / 2 ^ a % 2 ^ n * 2 ^ t = v at *
  exact wrap64_in (by omega) (by omega)
theorem reg_f (h f : Nat) (hh : h < 65536) (hf : f ≤ 16) : CmpA.comp_half_reg.f (h : Int) (f : Int) = some ((regP h f : Nat) : Int) := by
  unfold CmpA.comp_half_reg.f regP
  rw [show CmpA.comp_half_bits.f (h : Int) (f : Int) 3 0 = _ from bits_f h f 3 0 hh hf (by decide)]
  exact congrArg some (or_n _ 8 (bv_lt _ _ _ _ (by decide)) (by decide))
theorem words_f (h : Nat) (hh : h < 65536) : CmpA.comp_half_words.f (h : Int) = some ((wordsP h : Nat) : Int) := by
  unfold CmpA.comp_half_words.f wordsP
  rw [show CmpA.comp_half_bits.f (h : Int) 5 1 6 = _ from bits_f h 5 1 6 hh (by decide) (by decide), show CmpA.comp_half_bits.f (h : Int) 10 3 3 = _ from bits_f h 10 3 3 hh (by decide) (by decide), show CmpA.comp_half_bits.f (h : Int) 6 1 2 = _ from bits_f h 6 1 2 hh (by decide) (by decide)]
  have b1 := bv_lt h 5 1 6 (by decide)
  have b2 := bv_lt h 10 3 3 (by decide)
  have b3 := bv_lt h 6 1 2 (by decide)
  simp only [Option.bind_some]
  rw [or_n _ _ b1 b2, or_n _ _ (or_lt b1 b2) b3]
theorem doubles_f (h : Nat) (hh : h < 65536) : CmpA.comp_half_doubles.f (h : Int) = some ((doublesP h : Nat) : Int) := by
  unfold CmpA.comp_half_doubles.f doublesP
  rw [show CmpA.comp_half_bits.f (h : Int) 5 2 6 = _ from bits_f h 5 2 6 hh (by decide) (by decide), show CmpA.comp_half_bits.f (h : Int) 10 3 3 = _ from bits_f h 10 3 3 hh (by decide) (by decide)]
  simp only [Option.bind_some]
  rw [or_n _ _ (bv_lt h 5 2 6 (by decide)) (bv_lt h 10 3 3 (by decide))]
theorem six_lt (h : Nat) : sixP h < 64 := by
  unfold sixP
  have a : bv h 12 1 5 < 2 ^ 6 := by unfold bv; omega
  have b : bv h 2 5 0 < 2 ^ 6 := by unfold bv; omega
  exact Nat.or_lt_two_pow a b
theorem six_f (h : Nat) (hh : h < 65536) : CmpA.comp_half_six.f (h : Int) = some ((sixP h : Nat) : Int) := by
  unfold CmpA.comp_half_six.f sixP
  rw [show CmpA.comp_half_bits.f (h : Int) 12 1 5 = _ from bits_f h 12 1 5 hh (by decide) (by decide), show CmpA.comp_half_bits.f (h : Int) 2 5 0 = _ from bits_f h 2 5 0 hh (by decide) (by decide)]
  simp only [Option.bind_some]
  rw [or_n _ _ (bv_lt h 12 1 5 (by decide)) (bv_lt h 2 5 0 (by decide))]
theorem signed6 (n : Nat) (hn : n < 64) : CmpA.comp_signed.f (n : Int) 6 = some (sg n 6) := by
  have e0 : IntKind.u64.wrap (n : Int) = n := wrap_in (by omega) (by omega)
  have e1 : wrap64 (64 - 6) = 58 := wrap64_in (by decide) (by decide)
  unfold CmpA.comp_signed.f CmpA.word_Sext.f sg
  rw [e0, if_neg (by decide), if_neg (by decide), e1, if_pos (by decide)]
  have e2 : shl .u64 (n : Int) 58 = (n : Int) * 288230376151711744 := by
    show IntKind.u64.wrap ((n : Int) * 2 ^ min ((58 : Int).toNat) 64) = _
    rw [show ((2 : Int) ^ min ((58 : Int).toNat) 64) = 288230376151711744 from by decide]
    exact wrap_in (by omega) (by omega)
  have e3 : ∀ x : Int, shr .i64 x 58 = x / 288230376151711744 := fun x => by
    show x / 2 ^ min ((58 : Int).toNat) 64 = _
    rw [show ((2 : Int) ^ min ((58 : Int).toNat) 64) = 288230376151711744 from by decide]
  rw [e2, e3]
  simp only [Option.bind_some]
  congr 1
  show wrap64 (IntKind.u64.wrap (wrap64 ((n : Int) * 288230376151711744) / 288230376151711744)) = _
  rw [IntKind.wrap_u64]
  unfold wrap64
  by_cases hc : n < 32
  · rw [if_pos (by simpa using hc)]
    omega
  · rw [if_neg (by simpa using hc)]
    simp only [Nat.reducePow]
    omega
theorem signed9 (n : Nat) (hn : n < 512) : CmpA.comp_signed.f (n : Int) 9 = some (sg n 9) := by
  have e0 : IntKind.u64.wrap (n : Int) = n := wrap_in (by omega) (by omega)
  have e1 : wrap64 (64 - 9) = 55 := wrap64_in (by decide) (by decide)
  unfold CmpA.comp_signed.f CmpA.word_Sext.f sg
  rw [e0, if_neg (by decide), if_neg (by decide), e1, if_pos (by decide)]
  have e2 : shl .u64 (n : Int) 55 = (n : Int) * 36028797018963968 := by
    show IntKind.u64.wrap ((n : Int) * 2 ^ min ((55 : Int).toNat) 64) = _
    rw [show ((2 : Int) ^ min ((55 : Int).toNat) 64) = 36028797018963968 from by decide]
    exact wrap_in (by omega) (by omega)
  have e3 : ∀ x : Int, shr .i64 x 55 = x / 36028797018963968 := fun x => by
    show x / 2 ^ min ((55 : Int).toNat) 64 = _
    rw [show ((2 : Int) ^ min ((55 : Int).toNat) 64) = 36028797018963968 from by decide]
  rw [e2, e3]
  simp only [Option.bind_some]
  congr 1
  show wrap64 (IntKind.u64.wrap (wrap64 ((n : Int) * 36028797018963968) / 36028797018963968)) = _
  rw [IntKind.wrap_u64]
  unfold wrap64
  by_cases hc : n < 256
  · rw [if_pos (by simpa using hc)]
    omega
  · rw [if_neg (by simpa using hc)]
    simp only [Nat.reducePow]
    omega
theorem signed10 (n : Nat) (hn : n < 1024) : CmpA.comp_signed.f (n : Int) 10 = some (sg n 10) := by
  have e0 : IntKind.u64.wrap (n : Int) = n := wrap_in (by omega) (by omega)
  have e1 : wrap64 (64 - 10) = 54 := wrap64_in (by decide) (by decide)
  unfold CmpA.comp_signed.f CmpA.word_Sext.f sg
  rw [e0, if_neg (by decide), if_neg (by decide), e1, if_pos (by decide)]
  have e2 : shl .u64 (n : Int) 54 = (n : Int) * 18014398509481984 := by
    show IntKind.u64.wrap ((n : Int) * 2 ^ min ((54 : Int).toNat) 64) = _
    rw [show ((2 : Int) ^ min ((54 : Int).toNat) 64) = 18014398509481984 from by decide]
    exact wrap_in (by omega) (by omega)
  have e3 : ∀ x : Int, shr .i64 x 54 = x / 18014398509481984 := fun x => by
    show x / 2 ^ min ((54 : Int).toNat) 64 = _
    rw [show ((2 : Int) ^ min ((54 : Int).toNat) 64) = 18014398509481984 from by decide]
  rw [e2, e3]
  simp only [Option.bind_some]
  congr 1
  show wrap64 (IntKind.u64.wrap (wrap64 ((n : Int) * 18014398509481984) / 18014398509481984)) = _
  rw [IntKind.wrap_u64]
  unfold wrap64
  by_cases hc : n < 512
  · rw [if_pos (by simpa using hc)]
    omega
  · rw [if_neg (by simpa using hc)]
    simp only [Nat.reducePow]
    omega
theorem signed12 (n : Nat) (hn : n < 4096) : CmpA.comp_signed.f (n : Int) 12 = some (sg n 12) := by
  have e0 : IntKind.u64.wrap (n : Int) = n := wrap_in (by omega) (by omega)
  have e1 : wrap64 (64 - 12) = 52 := wrap64_in (by decide) (by decide)
  unfold CmpA.comp_signed.f CmpA.word_Sext.f sg
  rw [e0, if_neg (by decide), if_neg (by decide), e1, if_pos (by decide)]
  have e2 : shl .u64 (n : Int) 52 = (n : Int) * 4503599627370496 := by
    show IntKind.u64.wrap ((n : Int) * 2 ^ min ((52 : Int).toNat) 64) = _
    rw [show ((2 : Int) ^ min ((52 : Int).toNat) 64) = 4503599627370496 from by decide]
    exact wrap_in (by omega) (by omega)
  have e3 : ∀ x : Int, shr .i64 x 52 = x / 4503599627370496 := fun x => by
    show x / 2 ^ min ((52 : Int).toNat) 64 = _
    rw [show ((2 : Int) ^ min ((52 : Int).toNat) 64) = 4503599627370496 from by decide]
  rw [e2, e3]
  simp only [Option.bind_some]
  congr 1
  show wrap64 (IntKind.u64.wrap (wrap64 ((n : Int) * 4503599627370496) / 4503599627370496)) = _
  rw [IntKind.wrap_u64]
  unfold wrap64
  by_cases hc : n < 2048
  · rw [if_pos (by simpa using hc)]
    omega
  · rw [if_neg (by simpa using hc)]
    simp only [Nat.reducePow]
    omega
theorem short_f (h : Nat) (hh : h < 65536) : CmpA.comp_half_short.f (h : Int) = some (shortP h) := by
  unfold CmpA.comp_half_short.f shortP
  rw [six_f h hh]
  simp only [Option.bind_some]
  rw [show CmpA.comp_signed.f ((sixP h : Nat) : Int) 6 = _ from signed6 _ (six_lt h)]
  rfl
theorem short_bd (h : Nat) : -32 ≤ shortP h ∧ shortP h < 32 := by
  have := six_lt h
  unfold shortP sg
  split <;> constructor <;> simp at * <;> omega
theorem jump_or (h : Nat) : bits .or .i64 (bits .or .i64 (bits .or .i64 (bits .or .i64 (bits .or .i64 (bits .or .i64 (bits .or .i64 (((bv h 12 1 11 : Nat) : Int)) ((bv h 8 1 10 : Nat) : Int)) ((bv h 9 2 8 : Nat) : Int)) ((bv h 6 1 7 : Nat) : Int)) ((bv h 7 1 6 : Nat) : Int)) ((bv h 2 1 5 : Nat) : Int)) ((bv h 11 1 4 : Nat) : Int)) ((bv h 3 3 1 : Nat) : Int) = ((bv h 12 1 11 ||| bv h 8 1 10 ||| bv h 9 2 8 ||| bv h 6 1 7 ||| bv h 7 1 6 ||| bv h 2 1 5 ||| bv h 11 1 4 ||| bv h 3 3 1 : Nat) : Int) ∧ bv h 12 1 11 ||| bv h 8 1 10 ||| bv h 9 2 8 ||| bv h 6 1 7 ||| bv h 7 1 6 ||| bv h 2 1 5 ||| bv h 11 1 4 ||| bv h 3 3 1 < 4096 := by
  have b0 := bv_lt h 12 1 11 (by decide)
  have b1 := bv_lt h 8 1 10 (by decide)
  have b2 := bv_lt h 9 2 8 (by decide)
  have b3 := bv_lt h 6 1 7 (by decide)
  have b4 := bv_lt h 7 1 6 (by decide)
  have b5 := bv_lt h 2 1 5 (by decide)
  have b6 := bv_lt h 11 1 4 (by decide)
  have b7 := bv_lt h 3 3 1 (by decide)
  have c0 : bv h 12 1 11 < 2 ^ 12 := by unfold bv; omega
  have c1 : bv h 8 1 10 < 2 ^ 12 := by unfold bv; omega
  have c2 : bv h 9 2 8 < 2 ^ 12 := by unfold bv; omega
  have c3 : bv h 6 1 7 < 2 ^ 12 := by unfold bv; omega
  have c4 : bv h 7 1 6 < 2 ^ 12 := by unfold bv; omega
  have c5 : bv h 2 1 5 < 2 ^ 12 := by unfold bv; omega
  have c6 : bv h 11 1 4 < 2 ^ 12 := by unfold bv; omega
  have c7 : bv h 3 3 1 < 2 ^ 12 := by unfold bv; omega
  rw [or_n _ _ (b0) b1, or_n _ _ (or_lt (b0) b1) b2, or_n _ _ (or_lt (or_lt (b0) b1) b2) b3, or_n _ _ (or_lt (or_lt (or_lt (b0) b1) b2) b3) b4, or_n _ _ (or_lt (or_lt (or_lt (or_lt (b0) b1) b2) b3) b4) b5, or_n _ _ (or_lt (or_lt (or_lt (or_lt (or_lt (b0) b1) b2) b3) b4) b5) b6, or_n _ _ (or_lt (or_lt (or_lt (or_lt (or_lt (or_lt (b0) b1) b2) b3) b4) b5) b6) b7]
  exact ⟨rfl, (Nat.or_lt_two_pow (Nat.or_lt_two_pow (Nat.or_lt_two_pow (Nat.or_lt_two_pow (Nat.or_lt_two_pow (Nat.or_lt_two_pow (Nat.or_lt_two_pow c0 c1) c2) c3) c4) c5) c6) c7)⟩
theorem branch_or (h : Nat) : bits .or .i64 (bits .or .i64 (bits .or .i64 (bits .or .i64 (((bv h 12 1 8 : Nat) : Int)) ((bv h 5 2 6 : Nat) : Int)) ((bv h 2 1 5 : Nat) : Int)) ((bv h 10 2 3 : Nat) : Int)) ((bv h 3 2 1 : Nat) : Int) = ((bv h 12 1 8 ||| bv h 5 2 6 ||| bv h 2 1 5 ||| bv h 10 2 3 ||| bv h 3 2 1 : Nat) : Int) ∧ bv h 12 1 8 ||| bv h 5 2 6 ||| bv h 2 1 5 ||| bv h 10 2 3 ||| bv h 3 2 1 < 512 := by
  have b0 := bv_lt h 12 1 8 (by decide)
  have b1 := bv_lt h 5 2 6 (by decide)
  have b2 := bv_lt h 2 1 5 (by decide)
  have b3 := bv_lt h 10 2 3 (by decide)
  have b4 := bv_lt h 3 2 1 (by decide)
  have c0 : bv h 12 1 8 < 2 ^ 9 := by unfold bv; omega
  have c1 : bv h 5 2 6 < 2 ^ 9 := by unfold bv; omega
  have c2 : bv h 2 1 5 < 2 ^ 9 := by unfold bv; omega
  have c3 : bv h 10 2 3 < 2 ^ 9 := by unfold bv; omega
  have c4 : bv h 3 2 1 < 2 ^ 9 := by unfold bv; omega
  rw [or_n _ _ (b0) b1, or_n _ _ (or_lt (b0) b1) b2, or_n _ _ (or_lt (or_lt (b0) b1) b2) b3, or_n _ _ (or_lt (or_lt (or_lt (b0) b1) b2) b3) b4]
  exact ⟨rfl, (Nat.or_lt_two_pow (Nat.or_lt_two_pow (Nat.or_lt_two_pow (Nat.or_lt_two_pow c0 c1) c2) c3) c4)⟩
theorem wide_or (h : Nat) : bits .or .i64 (bits .or .i64 (bits .or .i64 (((bv h 7 4 6 : Nat) : Int)) ((bv h 11 2 4 : Nat) : Int)) ((bv h 5 1 3 : Nat) : Int)) ((bv h 6 1 2 : Nat) : Int) = ((bv h 7 4 6 ||| bv h 11 2 4 ||| bv h 5 1 3 ||| bv h 6 1 2 : Nat) : Int) ∧ bv h 7 4 6 ||| bv h 11 2 4 ||| bv h 5 1 3 ||| bv h 6 1 2 < 65536 := by
  have b0 := bv_lt h 7 4 6 (by decide)
  have b1 := bv_lt h 11 2 4 (by decide)
  have b2 := bv_lt h 5 1 3 (by decide)
  have b3 := bv_lt h 6 1 2 (by decide)
  have c0 : bv h 7 4 6 < 2 ^ 16 := by unfold bv; omega
  have c1 : bv h 11 2 4 < 2 ^ 16 := by unfold bv; omega
  have c2 : bv h 5 1 3 < 2 ^ 16 := by unfold bv; omega
  have c3 : bv h 6 1 2 < 2 ^ 16 := by unfold bv; omega
  rw [or_n _ _ (b0) b1, or_n _ _ (or_lt (b0) b1) b2, or_n _ _ (or_lt (or_lt (b0) b1) b2) b3]
  exact ⟨rfl, (Nat.or_lt_two_pow (Nat.or_lt_two_pow (Nat.or_lt_two_pow c0 c1) c2) c3)⟩
theorem sp_or (h : Nat) : bits .or .i64 (bits .or .i64 (bits .or .i64 (bits .or .i64 (((bv h 12 1 9 : Nat) : Int)) ((bv h 3 2 7 : Nat) : Int)) ((bv h 5 1 6 : Nat) : Int)) ((bv h 2 1 5 : Nat) : Int)) ((bv h 6 1 4 : Nat) : Int) = ((bv h 12 1 9 ||| bv h 3 2 7 ||| bv h 5 1 6 ||| bv h 2 1 5 ||| bv h 6 1 4 : Nat) : Int) ∧ bv h 12 1 9 ||| bv h 3 2 7 ||| bv h 5 1 6 ||| bv h 2 1 5 ||| bv h 6 1 4 < 1024 := by
  have b0 := bv_lt h 12 1 9 (by decide)
  have b1 := bv_lt h 3 2 7 (by decide)
  have b2 := bv_lt h 5 1 6 (by decide)
  have b3 := bv_lt h 2 1 5 (by decide)
  have b4 := bv_lt h 6 1 4 (by decide)
  have c0 : bv h 12 1 9 < 2 ^ 10 := by unfold bv; omega
  have c1 : bv h 3 2 7 < 2 ^ 10 := by unfold bv; omega
  have c2 : bv h 5 1 6 < 2 ^ 10 := by unfold bv; omega
  have c3 : bv h 2 1 5 < 2 ^ 10 := by unfold bv; omega
  have c4 : bv h 6 1 4 < 2 ^ 10 := by unfold bv; omega
  rw [or_n _ _ (b0) b1, or_n _ _ (or_lt (b0) b1) b2, or_n _ _ (or_lt (or_lt (b0) b1) b2) b3, or_n _ _ (or_lt (or_lt (or_lt (b0) b1) b2) b3) b4]
  exact ⟨rfl, (Nat.or_lt_two_pow (Nat.or_lt_two_pow (Nat.or_lt_two_pow (Nat.or_lt_two_pow c0 c1) c2) c3) c4)⟩
theorem lwsp_or (h : Nat) : bits .or .i64 (bits .or .i64 (((bv h 2 2 6 : Nat) : Int)) ((bv h 12 1 5 : Nat) : Int)) ((bv h 4 3 2 : Nat) : Int) = ((bv h 2 2 6 ||| bv h 12 1 5 ||| bv h 4 3 2 : Nat) : Int) ∧ bv h 2 2 6 ||| bv h 12 1 5 ||| bv h 4 3 2 < 65536 := by
  have b0 := bv_lt h 2 2 6 (by decide)
  have b1 := bv_lt h 12 1 5 (by decide)
  have b2 := bv_lt h 4 3 2 (by decide)
  have c0 : bv h 2 2 6 < 2 ^ 16 := by unfold bv; omega
  have c1 : bv h 12 1 5 < 2 ^ 16 := by unfold bv; omega
  have c2 : bv h 4 3 2 < 2 ^ 16 := by unfold bv; omega
  rw [or_n _ _ (b0) b1, or_n _ _ (or_lt (b0) b1) b2]
  exact ⟨rfl, (Nat.or_lt_two_pow (Nat.or_lt_two_pow c0 c1) c2)⟩
theorem ldsp_or (h : Nat) : bits .or .i64 (bits .or .i64 (((bv h 2 3 6 : Nat) : Int)) ((bv h 12 1 5 : Nat) : Int)) ((bv h 5 2 3 : Nat) : Int) = ((bv h 2 3 6 ||| bv h 12 1 5 ||| bv h 5 2 3 : Nat) : Int) ∧ bv h 2 3 6 ||| bv h 12 1 5 ||| bv h 5 2 3 < 65536 := by
  have b0 := bv_lt h 2 3 6 (by decide)
  have b1 := bv_lt h 12 1 5 (by decide)
  have b2 := bv_lt h 5 2 3 (by decide)
  have c0 : bv h 2 3 6 < 2 ^ 16 := by unfold bv; omega
  have c1 : bv h 12 1 5 < 2 ^ 16 := by unfold bv; omega
  have c2 : bv h 5 2 3 < 2 ^ 16 := by unfold bv; omega
  rw [or_n _ _ (b0) b1, or_n _ _ (or_lt (b0) b1) b2]
  exact ⟨rfl, (Nat.or_lt_two_pow (Nat.or_lt_two_pow c0 c1) c2)⟩
theorem swsp_or (h : Nat) : bits .or .i64 (((bv h 7 2 6 : Nat) : Int)) ((bv h 9 4 2 : Nat) : Int) = ((bv h 7 2 6 ||| bv h 9 4 2 : Nat) : Int) ∧ bv h 7 2 6 ||| bv h 9 4 2 < 65536 := by
  have b0 := bv_lt h 7 2 6 (by decide)
  have b1 := bv_lt h 9 4 2 (by decide)
  have c0 : bv h 7 2 6 < 2 ^ 16 := by unfold bv; omega
  have c1 : bv h 9 4 2 < 2 ^ 16 := by unfold bv; omega
  rw [or_n _ _ (b0) b1]
  exact ⟨rfl, (Nat.or_lt_two_pow c0 c1)⟩
theorem sdsp_or (h : Nat) : bits .or .i64 (((bv h 7 3 6 : Nat) : Int)) ((bv h 10 3 3 : Nat) : Int) = ((bv h 7 3 6 ||| bv h 10 3 3 : Nat) : Int) ∧ bv h 7 3 6 ||| bv h 10 3 3 < 65536 := by
  have b0 := bv_lt h 7 3 6 (by decide)
  have b1 := bv_lt h 10 3 3 (by decide)
  have c0 : bv h 7 3 6 < 2 ^ 16 := by unfold bv; omega
  have c1 : bv h 10 3 3 < 2 ^ 16 := by unfold bv; omega
  rw [or_n _ _ (b0) b1]
  exact ⟨rfl, (Nat.or_lt_two_pow c0 c1)⟩
theorem op_or (h : Nat) : bits .or .i64 (((bv h 12 1 2 : Nat) : Int)) ((bv h 5 2 0 : Nat) : Int) = ((bv h 12 1 2 ||| bv h 5 2 0 : Nat) : Int) ∧ bv h 12 1 2 ||| bv h 5 2 0 < 8 := by
  have b0 := bv_lt h 12 1 2 (by decide)
  have b1 := bv_lt h 5 2 0 (by decide)
  have c0 : bv h 12 1 2 < 2 ^ 3 := by unfold bv; omega
  have c1 : bv h 5 2 0 < 2 ^ 3 := by unfold bv; omega
  rw [or_n _ _ (b0) b1]
  exact ⟨rfl, (Nat.or_lt_two_pow c0 c1)⟩
theorem jump_f (h : Nat) (hh : h < 65536) : CmpA.comp_half_jump.f (h : Int) = some (jumpP h) := by
  unfold CmpA.comp_half_jump.f jumpP
  rw [show CmpA.comp_half_bits.f (h : Int) 12 1 11 = _ from bits_f h 12 1 11 hh (by decide) (by decide), show CmpA.comp_half_bits.f (h : Int) 8 1 10 = _ from bits_f h 8 1 10 hh (by decide) (by decide), show CmpA.comp_half_bits.f (h : Int) 9 2 8 = _ from bits_f h 9 2 8 hh (by decide) (by decide), show CmpA.comp_half_bits.f (h : Int) 6 1 7 = _ from bits_f h 6 1 7 hh (by decide) (by decide), show CmpA.comp_half_bits.f (h : Int) 7 1 6 = _ from bits_f h 7 1 6 hh (by decide) (by decide), show CmpA.comp_half_bits.f (h : Int) 2 1 5 = _ from bits_f h 2 1 5 hh (by decide) (by decide), show CmpA.comp_half_bits.f (h : Int) 11 1 4 = _ from bits_f h 11 1 4 hh (by decide) (by decide), show CmpA.comp_half_bits.f (h : Int) 3 3 1 = _ from bits_f h 3 3 1 hh (by decide) (by decide)]
  simp only [Option.bind_some]
  rw [(jump_or h).1, signed12 _ (jump_or h).2]
  rfl
theorem branch_f (h : Nat) (hh : h < 65536) : CmpA.comp_half_branch.f (h : Int) = some (branchP h) := by
  unfold CmpA.comp_half_branch.f branchP
  rw [show CmpA.comp_half_bits.f (h : Int) 12 1 8 = _ from bits_f h 12 1 8 hh (by decide) (by decide), show CmpA.comp_half_bits.f (h : Int) 5 2 6 = _ from bits_f h 5 2 6 hh (by decide) (by decide), show CmpA.comp_half_bits.f (h : Int) 2 1 5 = _ from bits_f h 2 1 5 hh (by decide) (by decide), show CmpA.comp_half_bits.f (h : Int) 10 2 3 = _ from bits_f h 10 2 3 hh (by decide) (by decide), show CmpA.comp_half_bits.f (h : Int) 3 2 1 = _ from bits_f h 3 2 1 hh (by decide) (by decide)]
  simp only [Option.bind_some]
  rw [(branch_or h).1, signed9 _ (branch_or h).2]
  rfl
theorem rd_f (h : Nat) (hh : h < 65536) : CmpA.comp_half_rd.f (h : Int) = some ((bv h 7 5 0 : Nat) : Int) := by
  unfold CmpA.comp_half_rd.f
  rw [show CmpA.comp_half_bits.f (h : Int) 7 5 0 = _ from bits_f h 7 5 0 hh (by decide) (by decide)]
  rfl
theorem rs2_f (h : Nat) (hh : h < 65536) : CmpA.comp_half_rs2.f (h : Int) = some ((bv h 2 5 0 : Nat) : Int) := by
  unfold CmpA.comp_half_rs2.f
  rw [show CmpA.comp_half_bits.f (h : Int) 2 5 0 = _ from bits_f h 2 5 0 hh (by decide) (by decide)]
  rfl
end Go.Proofs.Ytgefhoikpjiamaa.Cmp
