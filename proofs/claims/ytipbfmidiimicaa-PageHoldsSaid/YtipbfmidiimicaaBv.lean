/- Words of 64 and of 32 bits as bit vectors: what the model's operations on whole numbers come to. Plain theorems, no program. -/
import Derived.Laws.BitsAllLaws
import Derived.IntWalk
import Derived.OpenShut
namespace Go.Proofs.Ytipbfmidiimicaa.Bv
open Go Go.RowKit

/-- A word without a sign, as a number. -/
def U (x : BitVec 64) : Int := (x.toNat : Int)
theorem U_nonneg (x : BitVec 64) : 0 ≤ U x := by unfold U; omega
theorem U_lt (x : BitVec 64) : U x < 18446744073709551616 := by have := x.isLt; unfold U; omega
theorem U_inj {x y : BitVec 64} : U x = U y ↔ x = y := by
  unfold U
  constructor
  · intro h; apply BitVec.eq_of_toNat_eq; omega
  · intro h; rw [h]
theorem ex_U {n : Int} (h0 : 0 ≤ n) (h1 : n ≤ 18446744073709551615) : ∃ x : BitVec 64, n = U x := by
  refine ⟨BitVec.ofNat 64 n.toNat, ?_⟩
  unfold U
  rw [BitVec.toNat_ofNat, Nat.mod_eq_of_lt (by omega)]
  omega
theorem wrap_u64 (n : Int) : IntKind.u64.wrap n = U (BitVec.ofInt 64 n) := by
  rw [IntKind.wrap_u64]
  unfold U
  rw [BitVec.toNat_ofInt]
  omega
theorem ofInt_U (x : BitVec 64) : BitVec.ofInt 64 (U x) = x := by
  unfold U
  rw [BitVec.ofInt_natCast, BitVec.ofNat_toNat, BitVec.setWidth_eq]
theorem wrap_add (x y : BitVec 64) : IntKind.u64.wrap (U x + U y) = U (x + y) := by rw [wrap_u64, BitVec.ofInt_add, ofInt_U, ofInt_U]
theorem wrap_sub (x y : BitVec 64) : IntKind.u64.wrap (U x - U y) = U (x - y) := by
  rw [wrap_u64, Int.sub_eq_add_neg, BitVec.ofInt_add, BitVec.ofInt_neg, ofInt_U, ofInt_U, BitVec.sub_eq_add_neg]
theorem wrap_mul (x y : BitVec 64) : IntKind.u64.wrap (U x * U y) = U (x * y) := by rw [wrap_u64, BitVec.ofInt_mul, ofInt_U, ofInt_U]
theorem wrap_neg (x : BitVec 64) : IntKind.u64.wrap (-U x) = U (-x) := by rw [wrap_u64, BitVec.ofInt_neg, ofInt_U]
theorem wrap_U (x : BitVec 64) : IntKind.u64.wrap (U x) = U x := by rw [wrap_u64, ofInt_U]
theorem i64_U (x : BitVec 64) : IntKind.i64.wrap (U x) = x.toInt := by
  rw [IntKind.wrap_i64]
  unfold U
  rw [BitVec.toInt_eq_toNat_bmod, Int.bmod_def]
  omega
theorem u64_toInt (x : BitVec 64) : IntKind.u64.wrap x.toInt = U x := by
  rw [wrap_u64, BitVec.ofInt_toInt]
theorem and_U (x y : BitVec 64) : bits .and .u64 (U x) (U y) = U (x &&& y) := by
  show IntKind.u64.wrap (((BitVec.ofInt 64 (U x)) &&& (BitVec.ofInt 64 (U y))).toNat : Int) = _
  rw [ofInt_U, ofInt_U]; exact wrap_U _
theorem or_U (x y : BitVec 64) : bits .or .u64 (U x) (U y) = U (x ||| y) := by
  show IntKind.u64.wrap (((BitVec.ofInt 64 (U x)) ||| (BitVec.ofInt 64 (U y))).toNat : Int) = _
  rw [ofInt_U, ofInt_U]; exact wrap_U _
theorem xor_U (x y : BitVec 64) : bits .xor .u64 (U x) (U y) = U (x ^^^ y) := by
  show IntKind.u64.wrap (((BitVec.ofInt 64 (U x)) ^^^ (BitVec.ofInt 64 (U y))).toNat : Int) = _
  rw [ofInt_U, ofInt_U]; exact wrap_U _
theorem andNot_U (x y : BitVec 64) : bits .andNot .u64 (U x) (U y) = U (x &&& ~~~y) := by
  show IntKind.u64.wrap (((BitVec.ofInt 64 (U x)) &&& ~~~(BitVec.ofInt 64 (U y))).toNat : Int) = _
  rw [ofInt_U, ofInt_U]; exact wrap_U _
theorem shl_U (x : BitVec 64) (n : Nat) : IntKind.u64.wrap (U x * 2 ^ min n 64) = U (x <<< n) := by
  rw [wrap_u64]
  congr 1
  have e : U x * 2 ^ min n 64 = ((x.toNat * 2 ^ min n 64 : Nat) : Int) := by unfold U; simp
  rw [e, BitVec.ofInt_natCast]
  apply BitVec.eq_of_toNat_eq
  rw [BitVec.toNat_ofNat, BitVec.toNat_shiftLeft, Nat.shiftLeft_eq]
  by_cases h : n ≤ 64
  · rw [Nat.min_eq_left h]
  · rw [Nat.min_eq_right (by omega)]
    obtain ⟨m, rfl⟩ : ∃ m, n = 64 + m := ⟨n - 64, by omega⟩
    rw [Nat.pow_add, Nat.mul_mod_left, ← Nat.mul_assoc, Nat.mul_comm (x.toNat) (2 ^ 64), Nat.mul_assoc, Nat.mul_mod_right]
theorem shl_U' (x : BitVec 64) (n : Nat) : IntKind.u64.wrap (U x * 2 ^ n) = U (x <<< n) := by
  rw [wrap_u64]
  congr 1
  have e : U x * 2 ^ n = ((x.toNat * 2 ^ n : Nat) : Int) := by unfold U; simp
  rw [e, BitVec.ofInt_natCast]
  apply BitVec.eq_of_toNat_eq
  rw [BitVec.toNat_ofNat, BitVec.toNat_shiftLeft, Nat.shiftLeft_eq]
theorem shr_U' (x : BitVec 64) (n : Nat) : U x / 2 ^ n = U (x >>> n) := by
  unfold U
  rw [BitVec.toNat_ushiftRight, Nat.shiftRight_eq_div_pow]
  simp
theorem sar_toInt' (x : BitVec 64) (n : Nat) : x.toInt / 2 ^ n = (x.sshiftRight n).toInt := by
  rw [BitVec.toInt_sshiftRight, Int.shiftRight_eq_div_pow]; simp
theorem shr_U (x : BitVec 64) (n : Nat) : U x / 2 ^ min n 64 = U (x >>> n) := by
  unfold U
  rw [BitVec.toNat_ushiftRight, Nat.shiftRight_eq_div_pow]
  have e : (x.toNat : Int) / 2 ^ min n 64 = ((x.toNat / 2 ^ min n 64 : Nat) : Int) := by simp
  rw [e]
  by_cases h : n ≤ 64
  · rw [Nat.min_eq_left h]
  · rw [Nat.min_eq_right (by omega), Nat.div_eq_of_lt x.isLt, Nat.div_eq_of_lt (Nat.lt_of_lt_of_le x.isLt (Nat.pow_le_pow_right (by omega) (by omega)))]
/-- A shift to the right with a sign. -/
theorem sar_toInt (x : BitVec 64) (n : Nat) : x.toInt / 2 ^ min n 64 = (x.sshiftRight n).toInt := by
  rw [BitVec.toInt_sshiftRight, Int.shiftRight_eq_div_pow]
  by_cases h : n ≤ 64
  · rw [Nat.min_eq_left h]; simp
  · rw [Nat.min_eq_right (by omega)]
    have h1 := x.toInt_lt
    have h2 := x.le_toInt
    have hp : (2 : Int) ^ 64 ≤ 2 ^ n := by
      have := Nat.pow_le_pow_right (n := 2) (by omega) (show 64 ≤ n by omega)
      exact_mod_cast this
    simp only [Nat.add_one_sub_one] at h1 h2
    by_cases hx : 0 ≤ x.toInt
    · rw [Int.ediv_eq_zero_of_lt hx (by omega), Int.ediv_eq_zero_of_lt hx (by push_cast; omega)]
    · have e1 : x.toInt / 2 ^ 64 = -1 := by
        rw [Int.ediv_eq_iff_of_pos (by decide)]; omega
      have e2 : x.toInt / ((2 ^ n : Nat) : Int) = -1 := by
        rw [Int.ediv_eq_iff_of_pos (by push_cast; omega)]; push_cast; omega
      rw [e1, e2]
theorem wrap64_eq (n : Int) : wrap64 n = IntKind.i64.wrap n := (IntWalk.i64_left n).symm
theorem wrap64_U (x : BitVec 64) : wrap64 (U x) = x.toInt := by rw [wrap64_eq, i64_U]
theorem wrap64_in {n : Int} (h0 : -9223372036854775808 ≤ n) (h1 : n ≤ 9223372036854775807) : wrap64 n = n := by unfold wrap64; omega

/-! ### Sign extension. -/
def sx (x : BitVec 64) (n : Nat) : BitVec 64 := (x <<< (64 - n)).sshiftRight (64 - n)
theorem sx_bit (x : BitVec 64) (n i : Nat) (h1 : 1 ≤ n) (h2 : n ≤ 64) (hi : i < 64) : (sx x n).getLsbD i = x.getLsbD (min i (n - 1)) := by
  unfold sx
  rw [BitVec.getLsbD_sshiftRight]
  by_cases h : 64 - n + i < 64
  · rw [if_pos h, BitVec.getLsbD_shiftLeft]
    rw [Nat.min_eq_left (by omega)]
    have e : 64 - n + i - (64 - n) = i := by omega
    rw [e]
    have a1 : decide (64 ≤ i) = false := decide_eq_false (by omega)
    have a2 : decide (64 - n + i < 64) = true := decide_eq_true h
    have a3 : decide (64 - n + i < 64 - n) = false := decide_eq_false (by omega)
    rw [a1, a2, a3]; rfl
  · rw [if_neg h, BitVec.msb_eq_getLsbD_last, BitVec.getLsbD_shiftLeft, Nat.min_eq_right (by omega)]
    have e : 64 - 1 - (64 - n) = n - 1 := by omega
    rw [e]
    have a1 : decide (64 ≤ i) = false := decide_eq_false (by omega)
    have a2 : decide (64 - 1 < 64) = true := rfl
    have a3 : decide (64 - 1 < 64 - n) = false := decide_eq_false (by omega)
    rw [a1, a2, a3]; rfl
theorem sx_sx (x : BitVec 64) (p q : Nat) (h1 : 1 ≤ p) (h2 : p ≤ 64) (h3 : 1 ≤ q) (h4 : q ≤ 64) : sx (sx x p) q = sx x (min p q) := by
  apply BitVec.eq_of_getLsbD_eq
  intro i hi
  rw [sx_bit _ _ _ h3 h4 hi, sx_bit _ _ _ h1 h2 (by omega), sx_bit _ _ _ (by omega) (by omega) hi]
  congr 1
  omega

/-! ### Numbers: an or of pieces that do not overlap is their sum; a bit of a word. -/
theorem or_add (x b i y : Nat) (hx : x = 2 ^ i * y) (hb : b < 2 ^ i) (hx1 : x + b < 18446744073709551616) : bits .or .u64 (x : Int) (b : Int) = ((x + b : Nat) : Int) := by
  rw [u64_or_nat x b (by omega) (by omega), hx, Nat.two_pow_add_eq_or_of_lt hb]
theorem or_add_int (x b : Int) (i : Nat) (h0 : 0 ≤ x) (hb0 : 0 ≤ b) (hb : b < ((2 ^ i : Nat) : Int)) (hd : x % ((2 ^ i : Nat) : Int) = 0) (h1 : x + b < 18446744073709551616) : bits .or .u64 x b = x + b := by
  obtain ⟨X, rfl⟩ := Int.eq_ofNat_of_zero_le h0
  obtain ⟨B, rfl⟩ := Int.eq_ofNat_of_zero_le hb0
  have hd' : X % 2 ^ i = 0 := by exact_mod_cast hd
  have e := Nat.div_add_mod X (2 ^ i)
  rw [or_add X B i (X / 2 ^ i) (by omega) (by omega) (by omega)]
  omega
theorem or_bit (x t : Int) (h0 : 0 ≤ x) (h1 : x < 18446744073709551616) (hx : x % 2 = 0) (ht : t = 0 ∨ t = 1) : bits .or .u64 x t = x + t :=
  or_add_int x t 1 h0 (by omega) (by omega) (by simpa using hx) (by omega)
theorem wrap_wrap64 (n : Int) : IntKind.u64.wrap (wrap64 n) = IntKind.u64.wrap n := by
  rw [IntKind.wrap_u64, IntKind.wrap_u64]; unfold wrap64; omega
theorem wrap_in {n : Int} (h0 : 0 ≤ n) (h1 : n < 18446744073709551616) : IntKind.u64.wrap n = n := by rw [IntKind.wrap_u64]; omega
theorem bit_lt (x : Int) (i : Nat) : Int.tmod (x / 2 ^ i) 2 = 0 ∨ Int.tmod (x / 2 ^ i) 2 = 1 ∨ x < 0 := by
  by_cases h : 0 ≤ x
  · have : 0 ≤ x / 2 ^ i := Int.ediv_nonneg h (Int.pow_nonneg (by decide))
    rw [Int.tmod_eq_emod_of_nonneg this]; omega
  · omega
end Go.Proofs.Ytipbfmidiimicaa.Bv
