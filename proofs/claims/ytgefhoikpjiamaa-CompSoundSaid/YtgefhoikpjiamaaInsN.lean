/- The contracts in whole numbers of package inst's small functions and of the document's F and S: for every word of 32 bits. -/
import Derived.Test.YtgefhoikpjiamaaInsA
import Derived.Test.YtgefhoikpjiamaaInsB
import Derived.Test.YtgefhoikpjiamaaInsC
import Derived.Test.YtgefhoikpjiamaaInsQ
import Derived.Test.YtgefhoikpjiamaaHp
import Derived.Test.YtgefhoikpjiamaaBv
import Derived.Lib.Hide
namespace Go.Proofs.Ytgefhoikpjiamaa.Ins
open Go Go.RowKit Go.Proofs.YtgefhoikpjiamaaW.PrintWords Go.Proofs.YtgefhoikpjiamaaW.PrintLast Go.Proofs.YtgefhoikpjiamaaW.PrintMore
open Go.Proofs.Ytgefhoikpjiamaa.Hp Go.Proofs.Ytgefhoikpjiamaa.Bv
attribute [local go_sem] max2_int min2_int max_two min_two max_three min_three max_four min_four
set_option linter.unusedVariables false
set_option linter.unusedSimpArgs false
theorem ofInt_i64 (a : Nat) (ha : a < 9223372036854775808) : (BitVec.ofInt 64 (a : Int)).toNat = a := by
  rw [BitVec.ofInt_natCast, BitVec.toNat_ofNat]; exact Nat.mod_eq_of_lt (by omega)
theorem and_n (a b : Nat) (ha : a < 9223372036854775808) (hb : b < 9223372036854775808) : bits .and .i64 (a : Int) (b : Int) = ((a &&& b : Nat) : Int) := by
  have hx : a &&& b < 2 ^ 63 := Nat.and_lt_two_pow _ (by omega)
  show IntKind.i64.wrap ((BitVec.ofInt 64 (a : Int) &&& BitVec.ofInt 64 (b : Int)).toNat : Int) = _
  rw [BitVec.toNat_and, ofInt_i64 a ha, ofInt_i64 b hb, IntKind.wrap_i64]
  omega
theorem or_n (a b : Nat) (ha : a < 4294967296) (hb : b < 4294967296) : bits .or .i64 (a : Int) (b : Int) = ((a ||| b : Nat) : Int) := by
  have hx : a ||| b < 2 ^ 32 := Nat.or_lt_two_pow (by omega) (by omega)
  show IntKind.i64.wrap ((BitVec.ofInt 64 (a : Int) ||| BitVec.ofInt 64 (b : Int)).toNat : Int) = _
  rw [BitVec.toNat_or, ofInt_i64 a (by omega), ofInt_i64 b (by omega), IntKind.wrap_i64]
  omega
/-- Pieces that do not meet. -/
theorem or_add (a b n : Nat) (ha : a < 4294967296) (hm : a % 2 ^ n = 0) (hb : b < 2 ^ n) (hn : n ≤ 31) : bits .or .i64 (a : Int) (b : Int) = ((a + b : Nat) : Int) := by
  have hp : 2 ^ n ≤ 2147483648 := Nat.pow_le_pow_right (n := 2) (by decide) hn
  rw [or_n a b ha (by omega)]
  have e : a = 2 ^ n * (a / 2 ^ n) := by have := Nat.div_add_mod a (2 ^ n); omega
  rw [e, ← Nat.two_pow_add_eq_or_of_lt hb]
theorem fld_lt (w a n : Nat) : fld w a n < 2 ^ n := Nat.mod_lt _ (Nat.two_pow_pos n)
theorem field_f (w a n : Nat) (hw : w < 4294967296) (ha : a ≤ 32) (hn : n ≤ 32) : InsA.inst_field.f (w : Int) (a : Int) (n : Int) = some ((fld w a n : Nat) : Int) := by
  unfold InsA.inst_field.f
  rw [if_pos (by omega), if_pos (by omega)]
  congr 1
  have hq : w / 2 ^ a < 4294967296 := Nat.lt_of_le_of_lt (Nat.div_le_self _ _) hw
  have hp : 2 ^ n ≤ 4294967296 := Nat.pow_le_pow_right (n := 2) (by decide) hn
  have hp0 : 0 < 2 ^ n := Nat.two_pow_pos n
  have e1 : shr .u32 (w : Int) (a : Int) = ((w / 2 ^ a : Nat) : Int) := by
    show (w : Int) / 2 ^ min ((a : Int).toNat) 32 = _
    rw [Int.toNat_natCast, Nat.min_eq_left ha]
    simp
  have e2 : shl .i64 1 (n : Int) = ((2 ^ n : Nat) : Int) := by
    show IntKind.i64.wrap (1 * 2 ^ min ((n : Int).toNat) 64) = _
    rw [Int.toNat_natCast, Nat.min_eq_left (by omega), Int.one_mul, ← wrap64_eq]
    have e : (2 : Int) ^ n = ((2 ^ n : Nat) : Int) := by simp
    rw [e, wrap64_in (by omega) (by omega)]
  have e3 : wrap64 (((2 ^ n : Nat) : Int) - 1) = ((2 ^ n - 1 : Nat) : Int) := by rw [wrap64_in (by omega) (by omega)]; omega
  rw [e1, e2, e3]
  unfold fld
  rw [← Nat.and_two_pow_sub_one_eq_mod]
  clear e1 e2 e3
  generalize w / 2 ^ a = q at *
  generalize 2 ^ n = p at *
  rw [wrap64_in (by omega) (by omega), and_n _ _ (by omega) (by omega)]
theorem signed12 (n : Nat) (hn : n < 4096) : InsA.inst_signed.f (n : Int) 12 = some (sg n 12) := by
  have e0 : IntKind.u64.wrap (n : Int) = n := wrap_in (by omega) (by omega)
  have e1 : wrap64 (64 - 12) = 52 := wrap64_in (by decide) (by decide)
  unfold InsA.inst_signed.f InsA.word_Sext.f sg
  rw [e0, if_neg (by decide), if_neg (by decide), e1, if_pos (by decide)]
  have e2 : shl .u64 (n : Int) 52 = (n : Int) * 4503599627370496 := by
    show IntKind.u64.wrap ((n : Int) * 2 ^ min ((52 : Int).toNat) 64) = _
    rw [show ((2 : Int) ^ min ((52 : Int).toNat) 64) = 4503599627370496 from by decide]
    exact wrap_in (by omega) (by omega)
  have e3 : ∀ x : Int, shr .i64 x 52 = x / 4503599627370496 := fun x => by
    show x / 2 ^ min ((52 : Int).toNat) 64 = _
    rw [show ((2 : Int) ^ min ((52 : Int).toNat) 64) = 4503599627370496 from by decide]
  rw [e2, e3]
  simp only [Option.bind_some]
  congr 1
  show wrap64 (IntKind.u64.wrap (wrap64 ((n : Int) * 4503599627370496) / 4503599627370496)) = _
  rw [IntKind.wrap_u64]
  unfold wrap64
  by_cases hc : n < 2048
  · rw [if_pos (by simpa using hc)]
    omega
  · rw [if_neg (by simpa using hc)]
    simp only [Nat.reducePow]
    omega
theorem signed13 (n : Nat) (hn : n < 8192) : InsA.inst_signed.f (n : Int) 13 = some (sg n 13) := by
  have e0 : IntKind.u64.wrap (n : Int) = n := wrap_in (by omega) (by omega)
  have e1 : wrap64 (64 - 13) = 51 := wrap64_in (by decide) (by decide)
  unfold InsA.inst_signed.f InsA.word_Sext.f sg
  rw [e0, if_neg (by decide), if_neg (by decide), e1, if_pos (by decide)]
  have e2 : shl .u64 (n : Int) 51 = (n : Int) * 2251799813685248 := by
    show IntKind.u64.wrap ((n : Int) * 2 ^ min ((51 : Int).toNat) 64) = _
    rw [show ((2 : Int) ^ min ((51 : Int).toNat) 64) = 2251799813685248 from by decide]
    exact wrap_in (by omega) (by omega)
  have e3 : ∀ x : Int, shr .i64 x 51 = x / 2251799813685248 := fun x => by
    show x / 2 ^ min ((51 : Int).toNat) 64 = _
    rw [show ((2 : Int) ^ min ((51 : Int).toNat) 64) = 2251799813685248 from by decide]
  rw [e2, e3]
  simp only [Option.bind_some]
  congr 1
  show wrap64 (IntKind.u64.wrap (wrap64 ((n : Int) * 2251799813685248) / 2251799813685248)) = _
  rw [IntKind.wrap_u64]
  unfold wrap64
  by_cases hc : n < 4096
  · rw [if_pos (by simpa using hc)]
    omega
  · rw [if_neg (by simpa using hc)]
    simp only [Nat.reducePow]
    omega
theorem signed21 (n : Nat) (hn : n < 2097152) : InsA.inst_signed.f (n : Int) 21 = some (sg n 21) := by
  have e0 : IntKind.u64.wrap (n : Int) = n := wrap_in (by omega) (by omega)
  have e1 : wrap64 (64 - 21) = 43 := wrap64_in (by decide) (by decide)
  unfold InsA.inst_signed.f InsA.word_Sext.f sg
  rw [e0, if_neg (by decide), if_neg (by decide), e1, if_pos (by decide)]
  have e2 : shl .u64 (n : Int) 43 = (n : Int) * 8796093022208 := by
    show IntKind.u64.wrap ((n : Int) * 2 ^ min ((43 : Int).toNat) 64) = _
    rw [show ((2 : Int) ^ min ((43 : Int).toNat) 64) = 8796093022208 from by decide]
    exact wrap_in (by omega) (by omega)
  have e3 : ∀ x : Int, shr .i64 x 43 = x / 8796093022208 := fun x => by
    show x / 2 ^ min ((43 : Int).toNat) 64 = _
    rw [show ((2 : Int) ^ min ((43 : Int).toNat) 64) = 8796093022208 from by decide]
  rw [e2, e3]
  simp only [Option.bind_some]
  congr 1
  show wrap64 (IntKind.u64.wrap (wrap64 ((n : Int) * 8796093022208) / 8796093022208)) = _
  rw [IntKind.wrap_u64]
  unfold wrap64
  by_cases hc : n < 1048576
  · rw [if_pos (by simpa using hc)]
    omega
  · rw [if_neg (by simpa using hc)]
    simp only [Nat.reducePow]
    omega
theorem signed32 (n : Nat) (hn : n < 4294967296) : InsA.inst_signed.f (n : Int) 32 = some (sg n 32) := by
  have e0 : IntKind.u64.wrap (n : Int) = n := wrap_in (by omega) (by omega)
  have e1 : wrap64 (64 - 32) = 32 := wrap64_in (by decide) (by decide)
  unfold InsA.inst_signed.f InsA.word_Sext.f sg
  rw [e0, if_neg (by decide), if_neg (by decide), e1, if_pos (by decide)]
  have e2 : shl .u64 (n : Int) 32 = (n : Int) * 4294967296 := by
    show IntKind.u64.wrap ((n : Int) * 2 ^ min ((32 : Int).toNat) 64) = _
    rw [show ((2 : Int) ^ min ((32 : Int).toNat) 64) = 4294967296 from by decide]
    exact wrap_in (by omega) (by omega)
  have e3 : ∀ x : Int, shr .i64 x 32 = x / 4294967296 := fun x => by
    show x / 2 ^ min ((32 : Int).toNat) 64 = _
    rw [show ((2 : Int) ^ min ((32 : Int).toNat) 64) = 4294967296 from by decide]
  rw [e2, e3]
  simp only [Option.bind_some]
  congr 1
  show wrap64 (IntKind.u64.wrap (wrap64 ((n : Int) * 4294967296) / 4294967296)) = _
  rw [IntKind.wrap_u64]
  unfold wrap64
  by_cases hc : n < 2147483648
  · rw [if_pos (by simpa using hc)]
    omega
  · rw [if_neg (by simpa using hc)]
    simp only [Nat.reducePow]
    omega
theorem wmul (a m : Nat) (ha : a * m < 9223372036854775808) : wrap64 ((a : Int) * (m : Int)) = ((a * m : Nat) : Int) := by
  have e : (a : Int) * (m : Int) = ((a * m : Nat) : Int) := by simp
  rw [e]
  exact wrap64_in (by omega) (by omega)
theorem iImm_f (w : Nat) (hw : w < 4294967296) : InsA.inst_iImm.f (w : Int) = some (iP w) := by
  unfold InsA.inst_iImm.f iP
  rw [show InsA.inst_field.f (w : Int) 20 12 = _ from field_f w 20 12 hw (by decide) (by decide)]
  have h := fld_lt w 20 12
  simp only [Option.bind_some]
  rw [show InsA.inst_signed.f ((fld w 20 12 : Nat) : Int) 12 = _ from signed12 _ h]
  rfl
theorem sImm_f (w : Nat) (hw : w < 4294967296) : InsA.inst_sImm.f (w : Int) = some (sP w) := by
  unfold InsA.inst_sImm.f sP
  rw [show InsA.inst_field.f (w : Int) 25 7 = _ from field_f w 25 7 hw (by decide) (by decide), show InsA.inst_field.f (w : Int) 7 5 = _ from field_f w 7 5 hw (by decide) (by decide)]
  have h0 : fld w 25 7 < 128 := fld_lt w 25 7
  have h1 : fld w 7 5 < 32 := fld_lt w 7 5
  generalize fld w 25 7 = x0 at *
  generalize fld w 7 5 = x1 at *
  simp only [Option.bind_some]
  have e0 : wrap64 ((x0 : Int) * 32) = ((x0 * 32 : Nat) : Int) := wmul x0 32 (by omega)
  rw [e0]
  have o1 : bits .or .i64 ((x0 * 32 : Nat) : Int) ((x1 : Nat) : Int) = ((x0 * 32 + x1 : Nat) : Int) := or_add _ _ 5 (by omega) (by omega) (by omega) (by decide)
  rw [o1]
  rw [show InsA.inst_signed.f ((x0 * 32 + x1 : Nat) : Int) 12 = _ from signed12 _ (by omega)]
  rfl
theorem bImm_f (w : Nat) (hw : w < 4294967296) : InsA.inst_bImm.f (w : Int) = some (bP w) := by
  unfold InsA.inst_bImm.f bP
  rw [show InsA.inst_field.f (w : Int) 31 1 = _ from field_f w 31 1 hw (by decide) (by decide), show InsA.inst_field.f (w : Int) 7 1 = _ from field_f w 7 1 hw (by decide) (by decide), show InsA.inst_field.f (w : Int) 25 6 = _ from field_f w 25 6 hw (by decide) (by decide), show InsA.inst_field.f (w : Int) 8 4 = _ from field_f w 8 4 hw (by decide) (by decide)]
  have h0 : fld w 31 1 < 2 := fld_lt w 31 1
  have h1 : fld w 7 1 < 2 := fld_lt w 7 1
  have h2 : fld w 25 6 < 64 := fld_lt w 25 6
  have h3 : fld w 8 4 < 16 := fld_lt w 8 4
  generalize fld w 31 1 = x0 at *
  generalize fld w 7 1 = x1 at *
  generalize fld w 25 6 = x2 at *
  generalize fld w 8 4 = x3 at *
  simp only [Option.bind_some]
  have e0 : wrap64 ((x0 : Int) * 4096) = ((x0 * 4096 : Nat) : Int) := wmul x0 4096 (by omega)
  have e1 : wrap64 ((x1 : Int) * 2048) = ((x1 * 2048 : Nat) : Int) := wmul x1 2048 (by omega)
  have e2 : wrap64 ((x2 : Int) * 32) = ((x2 * 32 : Nat) : Int) := wmul x2 32 (by omega)
  have e3 : wrap64 ((x3 : Int) * 2) = ((x3 * 2 : Nat) : Int) := wmul x3 2 (by omega)
  rw [e0, e1, e2, e3]
  have o1 : bits .or .i64 ((x0 * 4096 : Nat) : Int) ((x1 * 2048 : Nat) : Int) = ((x0 * 4096 + x1 * 2048 : Nat) : Int) := or_add _ _ 12 (by omega) (by omega) (by omega) (by decide)
  have o2 : bits .or .i64 ((x0 * 4096 + x1 * 2048 : Nat) : Int) ((x2 * 32 : Nat) : Int) = ((x0 * 4096 + x1 * 2048 + x2 * 32 : Nat) : Int) := or_add _ _ 11 (by omega) (by omega) (by omega) (by decide)
  have o3 : bits .or .i64 ((x0 * 4096 + x1 * 2048 + x2 * 32 : Nat) : Int) ((x3 * 2 : Nat) : Int) = ((x0 * 4096 + x1 * 2048 + x2 * 32 + x3 * 2 : Nat) : Int) := or_add _ _ 5 (by omega) (by omega) (by omega) (by decide)
  rw [o1, o2, o3]
  rw [show InsA.inst_signed.f ((x0 * 4096 + x1 * 2048 + x2 * 32 + x3 * 2 : Nat) : Int) 13 = _ from signed13 _ (by omega)]
  rfl
theorem uImm_f (w : Nat) (hw : w < 4294967296) : InsA.inst_uImm.f (w : Int) = some (uP w) := by
  unfold InsA.inst_uImm.f uP
  rw [show InsA.inst_field.f (w : Int) 12 20 = _ from field_f w 12 20 hw (by decide) (by decide)]
  have h0 : fld w 12 20 < 1048576 := fld_lt w 12 20
  generalize fld w 12 20 = x0 at *
  simp only [Option.bind_some]
  have e0 : wrap64 ((x0 : Int) * 4096) = ((x0 * 4096 : Nat) : Int) := wmul x0 4096 (by omega)
  rw [e0]
  rw [show InsA.inst_signed.f ((x0 * 4096 : Nat) : Int) 32 = _ from signed32 _ (by omega)]
  rfl
theorem jImm_f (w : Nat) (hw : w < 4294967296) : InsA.inst_jImm.f (w : Int) = some (jP w) := by
  unfold InsA.inst_jImm.f jP
  rw [show InsA.inst_field.f (w : Int) 31 1 = _ from field_f w 31 1 hw (by decide) (by decide), show InsA.inst_field.f (w : Int) 12 8 = _ from field_f w 12 8 hw (by decide) (by decide), show InsA.inst_field.f (w : Int) 20 1 = _ from field_f w 20 1 hw (by decide) (by decide), show InsA.inst_field.f (w : Int) 21 10 = _ from field_f w 21 10 hw (by decide) (by decide)]
  have h0 : fld w 31 1 < 2 := fld_lt w 31 1
  have h1 : fld w 12 8 < 256 := fld_lt w 12 8
  have h2 : fld w 20 1 < 2 := fld_lt w 20 1
  have h3 : fld w 21 10 < 1024 := fld_lt w 21 10
  generalize fld w 31 1 = x0 at *
  generalize fld w 12 8 = x1 at *
  generalize fld w 20 1 = x2 at *
  generalize fld w 21 10 = x3 at *
  simp only [Option.bind_some]
  have e0 : wrap64 ((x0 : Int) * 1048576) = ((x0 * 1048576 : Nat) : Int) := wmul x0 1048576 (by omega)
  have e1 : wrap64 ((x1 : Int) * 4096) = ((x1 * 4096 : Nat) : Int) := wmul x1 4096 (by omega)
  have e2 : wrap64 ((x2 : Int) * 2048) = ((x2 * 2048 : Nat) : Int) := wmul x2 2048 (by omega)
  have e3 : wrap64 ((x3 : Int) * 2) = ((x3 * 2 : Nat) : Int) := wmul x3 2 (by omega)
  rw [e0, e1, e2, e3]
  have o1 : bits .or .i64 ((x0 * 1048576 : Nat) : Int) ((x1 * 4096 : Nat) : Int) = ((x0 * 1048576 + x1 * 4096 : Nat) : Int) := or_add _ _ 20 (by omega) (by omega) (by omega) (by decide)
  have o2 : bits .or .i64 ((x0 * 1048576 + x1 * 4096 : Nat) : Int) ((x2 * 2048 : Nat) : Int) = ((x0 * 1048576 + x1 * 4096 + x2 * 2048 : Nat) : Int) := or_add _ _ 12 (by omega) (by omega) (by omega) (by decide)
  have o3 : bits .or .i64 ((x0 * 1048576 + x1 * 4096 + x2 * 2048 : Nat) : Int) ((x3 * 2 : Nat) : Int) = ((x0 * 1048576 + x1 * 4096 + x2 * 2048 + x3 * 2 : Nat) : Int) := or_add _ _ 11 (by omega) (by omega) (by omega) (by decide)
  rw [o1, o2, o3]
  rw [show InsA.inst_signed.f ((x0 * 1048576 + x1 * 4096 + x2 * 2048 + x3 * 2 : Nat) : Int) 21 = _ from signed21 _ (by omega)]
  rfl
theorem amoOp_f (n : Nat) : InsA.inst_amoOp.f (n : Int) = some (amoT n) := by
  unfold InsA.inst_amoOp.f amoT
  by_cases c2 : n = 2
  · rw [if_pos (show (n : Int) = 2 by omega), if_pos c2]
  rw [if_neg (show ¬ (n : Int) = 2 by omega), if_neg c2]
  by_cases c3 : n = 3
  · rw [if_pos (show (n : Int) = 3 by omega), if_pos c3]
  rw [if_neg (show ¬ (n : Int) = 3 by omega), if_neg c3]
  by_cases c1 : n = 1
  · rw [if_pos (show (n : Int) = 1 by omega), if_pos c1]
  rw [if_neg (show ¬ (n : Int) = 1 by omega), if_neg c1]
  by_cases c0 : n = 0
  · rw [if_pos (show (n : Int) = 0 by omega), if_pos c0]
  rw [if_neg (show ¬ (n : Int) = 0 by omega), if_neg c0]
  by_cases c4 : n = 4
  · rw [if_pos (show (n : Int) = 4 by omega), if_pos c4]
  rw [if_neg (show ¬ (n : Int) = 4 by omega), if_neg c4]
  by_cases c12 : n = 12
  · rw [if_pos (show (n : Int) = 12 by omega), if_pos c12]
  rw [if_neg (show ¬ (n : Int) = 12 by omega), if_neg c12]
  by_cases c8 : n = 8
  · rw [if_pos (show (n : Int) = 8 by omega), if_pos c8]
  rw [if_neg (show ¬ (n : Int) = 8 by omega), if_neg c8]
  by_cases c16 : n = 16
  · rw [if_pos (show (n : Int) = 16 by omega), if_pos c16]
  rw [if_neg (show ¬ (n : Int) = 16 by omega), if_neg c16]
  by_cases c20 : n = 20
  · rw [if_pos (show (n : Int) = 20 by omega), if_pos c20]
  rw [if_neg (show ¬ (n : Int) = 20 by omega), if_neg c20]
  by_cases c24 : n = 24
  · rw [if_pos (show (n : Int) = 24 by omega), if_pos c24]
  rw [if_neg (show ¬ (n : Int) = 24 by omega), if_neg c24]
  by_cases c28 : n = 28
  · rw [if_pos (show (n : Int) = 28 by omega), if_pos c28]
  rw [if_neg (show ¬ (n : Int) = 28 by omega), if_neg c28]
theorem amoT_range (n : Nat) : amoT n = 0 ∨ 63 ≤ amoT n ∧ amoT n ≤ 73 := by
  unfold amoT
  repeat' split
  all_goals omega
theorem atomic_f (w : Nat) (hw : w < 4294967296) : InsC.inst_atomic.f 2 (w : Int) = some (atomicP w) := by
  unfold InsC.inst_atomic.f atomicP
  rw [show InsA.inst_field.f (w : Int) 27 5 = _ from field_f w 27 5 hw (by decide) (by decide), show InsA.inst_field.f (w : Int) 20 5 = _ from field_f w 20 5 hw (by decide) (by decide), show InsA.inst_field.f (w : Int) 12 3 = _ from field_f w 12 3 hw (by decide) (by decide)]
  simp only [Option.bind_some]
  rw [show InsA.inst_amoOp.f ((fld w 27 5 : Nat) : Int) = _ from amoOp_f _]
  simp only [Option.bind_some, InsC.inst_atomic.j0]
  rw [show InsA.inst_field.f (w : Int) 25 2 = _ from field_f w 25 2 hw (by decide) (by decide)]
  simp only [Option.bind_some]
  have hr := amoT_range (fld w 27 5)
  generalize amoT (fld w 27 5) = p at *
  generalize fld w 20 5 = r at *
  generalize fld w 12 3 = f at *
  generalize fld w 25 2 = q at *
  have hz : ((r : Int) != 0) = decide (r ≠ 0) := by
    by_cases c : r = 0
    · subst c; rfl
    · rw [decide_eq_true c]; exact bne_iff_ne.mpr (by omega)
  rw [hz]
  have hw11 : p + 11 = wrap64 (p + 11) := (wrap64_in (by omega) (by omega)).symm
  by_cases c0 : p = 0
  · rw [if_pos c0, if_pos trivial, if_pos (Or.inl c0)]; rfl
  rw [if_neg c0]
  by_cases c2 : f = 2
  · rw [if_pos (show (f : Int) = 2 by omega)]
    by_cases c63 : p = 63
    · rw [if_pos c63]
      by_cases cr : r = 0
      · rw [if_neg (by simp [cr]), if_neg (by omega), if_neg (by simp; omega), if_neg (by omega)]
        simp
      · rw [if_pos (by simp [cr]), if_pos (by omega)]; rfl
    · rw [if_neg c63, if_neg (by simp), if_neg (by omega), if_neg (by omega), if_neg (by omega)]
      simp
  rw [if_neg (show ¬ (f : Int) = 2 by omega)]
  by_cases c3 : f = 3
  · rw [if_pos (show (f : Int) = 3 by omega)]
    by_cases c63 : p = 63
    · rw [if_pos c63]
      by_cases cr : r = 0
      · rw [if_neg (by simp [cr]), if_pos (by omega), if_neg (by simp; omega), if_pos (by omega), ← hw11]
      · rw [if_pos (by simp [cr]), if_pos (by omega)]; rfl
    · rw [if_neg c63, if_neg (by simp), if_pos (by omega), if_neg (by omega), if_pos (by omega), ← hw11]
  · rw [if_neg (show ¬ (f : Int) = 3 by omega), if_pos trivial, if_pos (by omega)]; rfl
theorem shift6_f (w : Nat) (hw : w < 4294967296) (l r s : Int) : InsA.inst_shiftImm.f 3 (w : Int) l r s 6 = some (shiftP w l r s 6) := by
  unfold InsA.inst_shiftImm.f shiftP
  rw [show wrap64 (20 + 6) = 26 from wrap64_in (by decide) (by decide), show wrap64 (12 - 6) = 6 from wrap64_in (by decide) (by decide), show InsA.inst_field.f (w : Int) 26 6 = _ from field_f w 26 6 hw (by decide) (by decide), show InsA.inst_field.f (w : Int) 20 6 = _ from field_f w 20 6 hw (by decide) (by decide), show InsA.inst_field.f (w : Int) 12 3 = _ from field_f w 12 3 hw (by decide) (by decide)]
  simp only [Option.bind_some, InsA.inst_shiftImm.j0, InsA.inst_shiftImm.j1]
  rw [show wrap64 (10 - 6) = 4 from wrap64_in (by decide) (by decide), show shl .i64 1 4 = 16 from by kernel_rfl, if_pos (show (0 : Int) ≤ 4 by decide)]
  simp only [Nat.reduceAdd, Nat.reduceSub, Nat.reducePow]
  generalize fld w 12 3 = f at *
  generalize fld w 26 6 = u at *
  generalize fld w 20 6 = n at *
  by_cases c1 : f = 1
  · rw [if_pos (show (f : Int) = 1 by omega)]
    by_cases cu : u = 0
    · rw [if_pos (by simp [cu]), if_pos ⟨c1, cu⟩]
    · rw [if_neg (by simp; omega), if_neg (show ¬ (f : Int) = 5 by omega), if_neg (show ¬ (false = true) by decide), if_neg (show ¬ (f : Int) = 5 by omega), if_neg (by omega), if_neg (by omega), if_neg (by omega)]
      rfl
  · rw [if_neg (show ¬ (f : Int) = 1 by omega), if_neg (show ¬ (f = 1 ∧ u = 0) by omega)]
    simp only [Bool.false_eq_true, if_false]
    by_cases c5 : f = 5
    · rw [if_pos (show (f : Int) = 5 by omega)]
      by_cases cu : u = 0
      · rw [if_pos (by simp [cu]), if_pos ⟨c5, cu⟩]
      · rw [if_neg (by simp; omega), if_neg (show ¬ (f = 5 ∧ u = 0) by omega), if_pos (show (f : Int) = 5 by omega)]
        by_cases cs : u = 16
        · rw [if_pos (show (u : Int) = 16 by omega), if_pos ⟨c5, cs⟩]
        · rw [if_neg (show ¬ (u : Int) = 16 by omega), if_neg (by omega)]; rfl
    · rw [if_neg (show ¬ (f : Int) = 5 by omega), if_neg (show ¬ (f : Int) = 5 by omega), if_neg (by omega), if_neg (by omega)]
      rfl
theorem shift5_f (w : Nat) (hw : w < 4294967296) (l r s : Int) : InsA.inst_shiftImm.f 3 (w : Int) l r s 5 = some (shiftP w l r s 5) := by
  unfold InsA.inst_shiftImm.f shiftP
  rw [show wrap64 (20 + 5) = 25 from wrap64_in (by decide) (by decide), show wrap64 (12 - 5) = 7 from wrap64_in (by decide) (by decide), show InsA.inst_field.f (w : Int) 25 7 = _ from field_f w 25 7 hw (by decide) (by decide), show InsA.inst_field.f (w : Int) 20 5 = _ from field_f w 20 5 hw (by decide) (by decide), show InsA.inst_field.f (w : Int) 12 3 = _ from field_f w 12 3 hw (by decide) (by decide)]
  simp only [Option.bind_some, InsA.inst_shiftImm.j0, InsA.inst_shiftImm.j1]
  rw [show wrap64 (10 - 5) = 5 from wrap64_in (by decide) (by decide), show shl .i64 1 5 = 32 from by kernel_rfl, if_pos (show (0 : Int) ≤ 5 by decide)]
  simp only [Nat.reduceAdd, Nat.reduceSub, Nat.reducePow]
  generalize fld w 12 3 = f at *
  generalize fld w 25 7 = u at *
  generalize fld w 20 5 = n at *
  by_cases c1 : f = 1
  · rw [if_pos (show (f : Int) = 1 by omega)]
    by_cases cu : u = 0
    · rw [if_pos (by simp [cu]), if_pos ⟨c1, cu⟩]
    · rw [if_neg (by simp; omega), if_neg (show ¬ (f : Int) = 5 by omega), if_neg (show ¬ (false = true) by decide), if_neg (show ¬ (f : Int) = 5 by omega), if_neg (by omega), if_neg (by omega), if_neg (by omega)]
      rfl
  · rw [if_neg (show ¬ (f : Int) = 1 by omega), if_neg (show ¬ (f = 1 ∧ u = 0) by omega)]
    simp only [Bool.false_eq_true, if_false]
    by_cases c5 : f = 5
    · rw [if_pos (show (f : Int) = 5 by omega)]
      by_cases cu : u = 0
      · rw [if_pos (by simp [cu]), if_pos ⟨c5, cu⟩]
      · rw [if_neg (by simp; omega), if_neg (show ¬ (f = 5 ∧ u = 0) by omega), if_pos (show (f : Int) = 5 by omega)]
        by_cases cs : u = 32
        · rw [if_pos (show (u : Int) = 32 by omega), if_pos ⟨c5, cs⟩]
        · rw [if_neg (show ¬ (u : Int) = 32 by omega), if_neg (by omega)]; rfl
    · rw [if_neg (show ¬ (f : Int) = 5 by omega), if_neg (show ¬ (f : Int) = 5 by omega), if_neg (by omega), if_neg (by omega)]
      rfl
theorem other_f (w : Nat) (hw : w < 4294967296) : InsA.inst_other.f 2 (w : Int) = some (otherP w) := by
  have hf : InsA.inst_field.f (w : Int) 0 7 = some ((fld w 0 7 : Nat) : Int) := field_f w 0 7 hw (by decide) (by decide)
  unfold InsA.inst_other.f otherP
  rw [show InsA.inst_field.f (w : Int) 12 3 = _ from field_f w 12 3 hw (by decide) (by decide)]
  simp only [Option.bind_some, InsA.inst_other.j0, hf]
  generalize fld w 12 3 = f at *
  generalize fld w 0 7 = p at *
  by_cases ca : w = 115
  · rw [if_pos (show (w : Int) = 115 by omega), if_pos ca]
  rw [if_neg (show ¬ (w : Int) = 115 by omega), if_neg ca]
  by_cases cb : w = 1048691
  · rw [if_pos (show (w : Int) = 1048691 by omega), if_pos cb]
  rw [if_neg (show ¬ (w : Int) = 1048691 by omega), if_neg cb]
  by_cases c15 : p = 15
  · subst c15
    by_cases c0 : f = 0
    · subst c0; rfl
    · have t : ((f : Int) == 0) = false := beq_eq_false_iff_ne.mpr (by omega)
      rw [if_pos (by decide), t, if_neg (by decide), if_pos (by decide), if_neg (show ¬ (15 = 15 ∧ f = 0) by omega)]
      by_cases c1 : f = 1
      · subst c1; rfl
      · rw [if_neg (show ¬ (f : Int) = 1 by omega), if_neg (by omega)]; rfl
  · rw [if_neg (show ¬ (p : Int) = 15 by omega), if_neg (by decide), if_neg (show ¬ (p : Int) = 15 by omega), if_neg (by omega), if_neg (by omega)]
    rfl
/-! The document's. -/
theorem half_step (q m : Nat) : q / 2 % m * 2 + q % 2 = q % (2 * m) := by
  rw [Nat.mod_mul]
  omega
def fN (h hi lo : Nat) : Nat := h / 2 ^ lo % 2 ^ (hi + 1 - lo)
theorem fN_step (h hi b : Nat) (hb : b ≤ hi) : fN h hi (b + 1) * 2 + h / 2 ^ b % 2 = fN h hi b := by
  unfold fN
  have e : hi + 1 - b = (hi + 1 - (b + 1)) + 1 := by omega
  rw [e, Nat.pow_succ, Nat.pow_succ, Nat.mul_comm (2 ^ (hi + 1 - (b + 1))) 2, ← Nat.div_div_eq_div_mul]
  exact half_step (h / 2 ^ b) (2 ^ (hi + 1 - (b + 1)))
theorem fN_top (h hi : Nat) : fN h hi (hi + 1) = 0 := by
  unfold fN
  rw [Nat.sub_self, Nat.pow_zero, Nat.mod_one]
theorem fN_lt (h hi lo : Nat) (hl : hi + 1 - lo ≤ 32) : fN h hi lo < 4294967296 := by
  unfold fN
  exact Nat.lt_of_lt_of_le (Nat.mod_lt _ (Nat.two_pow_pos _)) (Nat.pow_le_pow_right (n := 2) (by decide) hl)
theorem F_l0 (h lo hi : Nat) (hh : h < 4294967296) (hhi : hi ≤ 31) : ∀ (d k : Nat), d ≤ hi + 1 - lo → lo ≤ hi + 1 → d < k →
    InsB.marionetteref03_F.l0 k (h : Int) (lo : Int) ((fN h hi (lo + d) : Nat) : Int) ((lo : Int) + d - 1) = some ((fN h hi lo : Nat) : Int) := by
  intro d
  induction d with
  | zero =>
    intro k h0 h1 h2
    obtain ⟨k, rfl⟩ : ∃ m, k = m + 1 := ⟨k - 1, by omega⟩
    simp only [InsB.marionetteref03_F.l0]
    rw [if_neg (by omega)]
    rfl
  | succ d ih =>
    intro k h0 h1 h2
    obtain ⟨k, rfl⟩ : ∃ m, k = m + 1 := ⟨k - 1, by omega⟩
    have hb := fN_lt h hi (lo + (d + 1)) (by omega)
    have hx : (lo : Int) + ((d + 1 : Nat) : Int) - 1 = ((lo + d : Nat) : Int) := by omega
    have e0 : IntKind.u64.wrap ((lo + d : Nat) : Int) = ((lo + d : Nat) : Int) := wrap_in (by omega) (by omega)
    have e1 : shr .u32 (h : Int) ((lo + d : Nat) : Int) = ((h / 2 ^ (lo + d) : Nat) : Int) := by
      show (h : Int) / 2 ^ min (((lo + d : Nat) : Int).toNat) 32 = _
      rw [Int.toNat_natCast, Nat.min_eq_left (by omega)]
      simp
    have hq : h / 2 ^ (lo + d) < 4294967296 := Nat.lt_of_le_of_lt (Nat.div_le_self _ _) hh
    have e2 : Int.tmod ((h / 2 ^ (lo + d) : Nat) : Int) 2 = ((h / 2 ^ (lo + d) % 2 : Nat) : Int) := by
      rw [Int.tmod_eq_emod_of_nonneg (Int.natCast_nonneg _)]
      rfl
    have e3 := fN_step h hi (lo + d) (by omega)
    have hb2 := fN_lt h hi (lo + d) (by omega)
    simp only [InsB.marionetteref03_F.l0]
    rw [hx, if_pos (by omega), e0, if_pos (by omega), e1, e2]
    have e3 : fN h hi (lo + (d + 1)) * 2 + h / 2 ^ (lo + d) % 2 = fN h hi (lo + d) := e3
    generalize h / 2 ^ (lo + d) % 2 = r at *
    generalize fN h hi (lo + (d + 1)) = p at *
    generalize hy : fN h hi (lo + d) = q at *
    have e4 : wrap64 (wrap64 ((p : Int) * 2) + wrap64 (r : Int)) = (q : Int) := by
      rw [wrap64_in (n := (p : Int) * 2) (by omega) (by omega), wrap64_in (n := (r : Int)) (by omega) (by omega), wrap64_in (by omega) (by omega)]
      omega
    have e5 : wrap64 (((lo + d : Nat) : Int) - 1) = (lo : Int) + d - 1 := by
      rw [wrap64_in (by omega) (by omega)]
      omega
    rw [e4, e5]
    exact ih k (by omega) h1 (by omega)
theorem F_f (h hi lo : Nat) (hh : h < 4294967296) (hhi : hi ≤ 31) (hl : lo ≤ hi + 1) : InsB.marionetteref03_F.f 40 (h : Int) (hi : Int) (lo : Int) = some ((fN h hi lo : Nat) : Int) := by
  unfold InsB.marionetteref03_F.f
  have g := F_l0 h lo hi hh hhi (hi + 1 - lo) 40 (Nat.le_refl _) hl (by omega)
  have e : lo + (hi + 1 - lo) = hi + 1 := by omega
  rw [e, fN_top] at g
  have e2 : (lo : Int) + ((hi + 1 - lo : Nat) : Int) - 1 = (hi : Int) := by omega
  rw [e2] at g
  exact g
theorem S_l0 (n w : Nat) (hw : w ≤ 31) (hn : n < 4294967296) : ∀ (d k j : Nat), 1 ≤ j → j + d = w → d < k → InsB.marionetteref03_S.l0 k (n : Int) (w : Int) ((2 ^ (j - 1) : Nat) : Int) (j : Int) = some (sg n w) := by
  intro d
  induction d with
  | zero =>
    intro k j h1 h2 h3
    obtain ⟨k, rfl⟩ : ∃ m, k = m + 1 := ⟨k - 1, by omega⟩
    have hj : j = w := by omega
    subst hj
    simp only [InsB.marionetteref03_S.l0]
    rw [if_neg (by omega)]
    have hp : 2 ^ (j - 1) < 4294967296 := Nat.lt_of_le_of_lt (Nat.pow_le_pow_right (n := 2) (by decide) (show j - 1 ≤ 31 by omega)) (by decide)
    have hp2 : 2 ^ j = 2 ^ (j - 1) * 2 := by rw [← Nat.pow_succ]; congr 1; omega
    unfold sg
    rw [hp2]
    generalize 2 ^ (j - 1) = p at *
    by_cases c : n < p
    · rw [if_neg (by omega), if_pos c]
    · rw [if_pos (by omega), if_neg c]
      congr 1
      rw [wrap64_in (n := 2 * (p : Int)) (by omega) (by omega), wrap64_in (by omega) (by omega)]
      omega
  | succ d ih =>
    intro k j h1 h2 h3
    obtain ⟨k, rfl⟩ : ∃ m, k = m + 1 := ⟨k - 1, by omega⟩
    simp only [InsB.marionetteref03_S.l0]
    rw [if_pos (by omega)]
    have hp : 2 ^ (j - 1) < 4294967296 := Nat.lt_of_le_of_lt (Nat.pow_le_pow_right (n := 2) (by decide) (show j - 1 ≤ 31 by omega)) (by decide)
    have hp2 : 2 ^ (j + 1 - 1) = 2 ^ (j - 1) * 2 := by rw [← Nat.pow_succ]; congr 1; omega
    have e1 : wrap64 (((2 ^ (j - 1) : Nat) : Int) * 2) = ((2 ^ (j + 1 - 1) : Nat) : Int) := by
      rw [hp2]
      generalize 2 ^ (j - 1) = p at *
      rw [wrap64_in (by omega) (by omega)]
      omega
    have e2 : wrap64 ((j : Int) + 1) = ((j + 1 : Nat) : Int) := by rw [wrap64_in (by omega) (by omega)]; omega
    rw [e1, e2]
    exact ih k (j + 1) (by omega) (by omega) (by omega)
theorem S_f (k : Nat) (hk : 32 ≤ k) (n w : Nat) (h1 : 1 ≤ w) (hw : w ≤ 31) (hn : n < 4294967296) : InsB.marionetteref03_S.f k (n : Int) (w : Int) = some (sg n w) :=
  S_l0 n w hw hn (w - 1) k 1 (Nat.le_refl _) (by omega) (by omega)
theorem one_f (l : List Int) (k : Nat) : InsB.marionetteref03_one.f l (k : Int) = some (oneP l k) := by
  unfold InsB.marionetteref03_one.f oneP
  rw [if_pos (by omega)]
  by_cases c : k < l.length
  · rw [if_pos (by omega), if_pos (by omega)]
    congr 1
  · rw [if_neg (by omega)]
    rw [List.getD_eq_getElem?_getD, List.getElem?_eq_none (by omega)]
    rfl
/-! The contracts over worlds. -/
theorem field_any (w a n : Nat) (hw : w < 4294967296) (ha : a ≤ 32) (hn : n ≤ 32) (W : World) : Calls Try.prog 44 #[.int .u32 (w : Int), .int .i64 (a : Int), .int .i64 (n : Int)] W fun e w' => e = .returned (.int .i64 ((fld w a n : Nat) : Int)) ∧ Drawn0 W w' :=
  InsA.inst_field.calls _ _ _ _ W (field_f w a n hw ha hn)
theorem iImm_any (w : Nat) (hw : w < 4294967296) (W : World) : Calls Try.prog 68 #[.int .u32 (w : Int)] W fun e w' => e = .returned (.int .i64 (iP w)) ∧ Drawn0 W w' :=
  InsA.inst_iImm.calls _ _ W (iImm_f w hw)
theorem sImm_any (w : Nat) (hw : w < 4294967296) (W : World) : Calls Try.prog 50 #[.int .u32 (w : Int)] W fun e w' => e = .returned (.int .i64 (sP w)) ∧ Drawn0 W w' :=
  InsA.inst_sImm.calls _ _ W (sImm_f w hw)
theorem bImm_any (w : Nat) (hw : w < 4294967296) (W : World) : Calls Try.prog 48 #[.int .u32 (w : Int)] W fun e w' => e = .returned (.int .i64 (bP w)) ∧ Drawn0 W w' :=
  InsA.inst_bImm.calls _ _ W (bImm_f w hw)
theorem uImm_any (w : Nat) (hw : w < 4294967296) (W : World) : Calls Try.prog 45 #[.int .u32 (w : Int)] W fun e w' => e = .returned (.int .i64 (uP w)) ∧ Drawn0 W w' :=
  InsA.inst_uImm.calls _ _ W (uImm_f w hw)
theorem jImm_any (w : Nat) (hw : w < 4294967296) (W : World) : Calls Try.prog 46 #[.int .u32 (w : Int)] W fun e w' => e = .returned (.int .i64 (jP w)) ∧ Drawn0 W w' :=
  InsA.inst_jImm.calls _ _ W (jImm_f w hw)
/-- An instruction as a value. -/
def i7 (i : I7) : Value := .agg #[.int .i64 i.1, .int .i64 i.2.1, .int .i64 i.2.2.1, .int .i64 i.2.2.2.1, .int .i64 i.2.2.2.2.1, .int .i64 i.2.2.2.2.2.1, .int .i64 i.2.2.2.2.2.2]
theorem atomic_any (w : Nat) (hw : w < 4294967296) (W : World) : Calls Try.prog 53 #[.int .u32 (w : Int)] W fun e w' => e = .returned (i7 (atomicP w)) ∧ Fr (fun _ => False) W w' :=
  (InsC.inst_atomic.calls 2 _ _ _ _ _ _ _ _ W (atomic_f w hw)).mono fun _ _ h => ⟨h.1, Fr.of_below h.2⟩
theorem other_any (w : Nat) (hw : w < 4294967296) (W : World) : Calls Try.prog 54 #[.int .u32 (w : Int)] W fun e w' => e = .returned (i7 (otherP w)) ∧ Fr (fun _ => False) W w' :=
  (InsA.inst_other.calls 2 _ _ _ _ _ _ _ _ W (other_f w hw)).mono fun _ _ h => ⟨h.1, Fr.of_below h.2⟩
theorem shift6_any (w : Nat) (hw : w < 4294967296) (l r s : Int) (W : World) : Calls Try.prog 69 #[.int .u32 (w : Int), .int .i64 l, .int .i64 r, .int .i64 s, .int .i64 6] W fun e w' => e = .returned (i7 (shiftP w l r s 6)) ∧ Fr (fun _ => False) W w' :=
  (InsA.inst_shiftImm.calls 3 _ _ _ _ _ _ _ _ _ _ _ _ W (shift6_f w hw l r s)).mono fun _ _ h => ⟨h.1, Fr.of_below h.2⟩
theorem shift5_any (w : Nat) (hw : w < 4294967296) (l r s : Int) (W : World) : Calls Try.prog 69 #[.int .u32 (w : Int), .int .i64 l, .int .i64 r, .int .i64 s, .int .i64 5] W fun e w' => e = .returned (i7 (shiftP w l r s 5)) ∧ Fr (fun _ => False) W w' :=
  (InsA.inst_shiftImm.calls 3 _ _ _ _ _ _ _ _ _ _ _ _ W (shift5_f w hw l r s)).mono fun _ _ h => ⟨h.1, Fr.of_below h.2⟩
theorem F_any (h hi lo : Nat) (hh : h < 4294967296) (hhi : hi ≤ 31) (hl : lo ≤ hi + 1) (W : World) : Calls Try.prog 15 #[.int .u32 (h : Int), .int .i64 (hi : Int), .int .i64 (lo : Int)] W fun e w' => e = .returned (.int .i64 ((fN h hi lo : Nat) : Int)) ∧ Drawn0 W w' :=
  InsB.marionetteref03_F.calls 40 _ _ _ _ W (F_f h hi lo hh hhi hl)
theorem S_any (n w : Nat) (h1 : 1 ≤ w) (hw : w ≤ 31) (hn : n < 4294967296) (W : World) : Calls Try.prog 17 #[.int .i64 (n : Int), .int .i64 (w : Int)] W fun e w' => e = .returned (.int .i64 (sg n w)) ∧ Drawn0 W w' :=
  InsB.marionetteref03_S.calls 40 _ _ _ W (S_f 40 (by decide) n w h1 hw hn)
end Go.Proofs.Ytgefhoikpjiamaa.Ins
