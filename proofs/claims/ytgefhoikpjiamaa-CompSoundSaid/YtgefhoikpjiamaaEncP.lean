/- Words put together out of fields, in plain Lean: an or of pieces that lie apart has the pieces' fields. -/
import Derived.Test.YtgefhoikpjiamaaBv
import Derived.Test.YtgefhoikpjiamaaInsP
import Derived.Laws.BitsAllLaws
namespace Go.Proofs.Ytgefhoikpjiamaa.Ins
open Go Go.RowKit
open Go.Proofs.Ytgefhoikpjiamaa.Bv
theorem fld_or (x y a n : Nat) : fld (x ||| y) a n = fld x a n ||| fld y a n := by
  unfold fld
  rw [Nat.or_div_two_pow, Nat.or_mod_two_pow]
theorem toNat_i64 (n : Int) : (BitVec.ofInt 64 n).toNat = (n % 18446744073709551616).toNat := by
  rw [BitVec.toNat_ofInt]
  rfl
theorem and64 (n : Int) (k : Nat) (hk : k ≤ 62) : Go.bits .and .i64 n ((2 ^ k - 1 : Nat) : Int) = n % ((2 ^ k : Nat) : Int) := by
  have hp : 2 ^ k ≤ 2 ^ 62 := Nat.pow_le_pow_right (by decide) hk
  have hp0 : 0 < 2 ^ k := Nat.two_pow_pos k
  show IntKind.i64.wrap (((BitVec.ofInt 64 n) &&& (BitVec.ofInt 64 ((2 ^ k - 1 : Nat) : Int))).toNat : Int) = _
  rw [BitVec.toNat_and, toNat_i64, toNat_i64]
  have e2 : (((2 ^ k - 1 : Nat) : Int) % 18446744073709551616).toNat = 2 ^ k - 1 := by
    rw [Int.emod_eq_of_lt (by omega) (by omega)]
    exact Int.toNat_natCast _
  rw [e2, Nat.and_two_pow_sub_one_eq_mod]
  have hm := Int.emod_nonneg n (show (18446744073709551616 : Int) ≠ 0 by decide)
  have hd : ((2 ^ k : Nat) : Int) ∣ 18446744073709551616 := by
    have h64 : (18446744073709551616 : Int) = ((2 ^ 64 : Nat) : Int) := by decide
    rw [h64]
    exact Int.ofNat_dvd.2 (Nat.pow_dvd_pow 2 (by omega))
  have e3 : (((n % 18446744073709551616).toNat % 2 ^ k : Nat) : Int) = n % ((2 ^ k : Nat) : Int) := by
    rw [Int.natCast_emod, Int.toNat_of_nonneg hm, Int.emod_emod_of_dvd _ hd]
  rw [e3]
  have h1 := Int.emod_nonneg n (show ((2 ^ k : Nat) : Int) ≠ 0 by omega)
  have h2 := Int.emod_lt_of_pos n (show (0 : Int) < ((2 ^ k : Nat) : Int) by omega)
  rw [IntKind.wrap_i64]
  omega
theorem or64 (a b : Nat) (ha : a < 9223372036854775808) (hb : b < 9223372036854775808) : Go.bits .or .i64 (a : Int) (b : Int) = ((a ||| b : Nat) : Int) := by
  have hx : a ||| b < 2 ^ 63 := Nat.or_lt_two_pow (by omega) (by omega)
  show IntKind.i64.wrap (((BitVec.ofInt 64 (a : Int)) ||| (BitVec.ofInt 64 (b : Int))).toNat : Int) = _
  rw [BitVec.toNat_or, toNat_i64, toNat_i64, Int.emod_eq_of_lt (by omega) (by omega), Int.emod_eq_of_lt (by omega) (by omega), Int.toNat_natCast, Int.toNat_natCast, IntKind.wrap_i64]
  omega
/-- lay, on numbers. -/
def layN (o f3 f7 d s t : Nat) : Nat := (((((f7 * 33554432) ||| (t * 1048576)) ||| (s * 32768)) ||| (f3 * 4096)) ||| (d * 128)) ||| o
theorem or_lt32 {a b : Nat} (ha : a < 4294967296) (hb : b < 4294967296) : a ||| b < 4294967296 := by
  have h := Nat.or_lt_two_pow (n := 32) (x := a) (y := b) (by omega) (by omega)
  omega
theorem layN_lt (o f3 f7 d s t : Nat) (ho : o < 128) (h3 : f3 < 8) (h7 : f7 < 128) (hd : d < 32) (hs : s < 32) (ht : t < 32) : layN o f3 f7 d s t < 4294967296 :=
  or_lt32 (or_lt32 (or_lt32 (or_lt32 (or_lt32 (by omega) (by omega)) (by omega)) (by omega)) (by omega)) (by omega)
theorem layN_fields (o f3 f7 d s t : Nat) (ho : o < 128) (h3 : f3 < 8) (h7 : f7 < 128) (hd : d < 32) (hs : s < 32) (ht : t < 32) :
    fld (layN o f3 f7 d s t) 0 7 = o ∧ fld (layN o f3 f7 d s t) 7 5 = d ∧ fld (layN o f3 f7 d s t) 12 3 = f3 ∧ fld (layN o f3 f7 d s t) 15 5 = s ∧ fld (layN o f3 f7 d s t) 20 5 = t ∧ fld (layN o f3 f7 d s t) 25 7 = f7 := by
  unfold layN
  simp only [fld_or]
  refine ⟨?_, ?_, ?_, ?_, ?_, ?_⟩
  · rw [show fld (f7 * 33554432) 0 7 = 0 by unfold fld; omega, show fld (t * 1048576) 0 7 = 0 by unfold fld; omega, show fld (s * 32768) 0 7 = 0 by unfold fld; omega, show fld (f3 * 4096) 0 7 = 0 by unfold fld; omega, show fld (d * 128) 0 7 = 0 by unfold fld; omega, show fld o 0 7 = o by unfold fld; omega]
    simp
  · rw [show fld (f7 * 33554432) 7 5 = 0 by unfold fld; omega, show fld (t * 1048576) 7 5 = 0 by unfold fld; omega, show fld (s * 32768) 7 5 = 0 by unfold fld; omega, show fld (f3 * 4096) 7 5 = 0 by unfold fld; omega, show fld (d * 128) 7 5 = d by unfold fld; omega, show fld o 7 5 = 0 by unfold fld; omega]
    simp
  · rw [show fld (f7 * 33554432) 12 3 = 0 by unfold fld; omega, show fld (t * 1048576) 12 3 = 0 by unfold fld; omega, show fld (s * 32768) 12 3 = 0 by unfold fld; omega, show fld (f3 * 4096) 12 3 = f3 by unfold fld; omega, show fld (d * 128) 12 3 = 0 by unfold fld; omega, show fld o 12 3 = 0 by unfold fld; omega]
    simp
  · rw [show fld (f7 * 33554432) 15 5 = 0 by unfold fld; omega, show fld (t * 1048576) 15 5 = 0 by unfold fld; omega, show fld (s * 32768) 15 5 = s by unfold fld; omega, show fld (f3 * 4096) 15 5 = 0 by unfold fld; omega, show fld (d * 128) 15 5 = 0 by unfold fld; omega, show fld o 15 5 = 0 by unfold fld; omega]
    simp
  · rw [show fld (f7 * 33554432) 20 5 = 0 by unfold fld; omega, show fld (t * 1048576) 20 5 = t by unfold fld; omega, show fld (s * 32768) 20 5 = 0 by unfold fld; omega, show fld (f3 * 4096) 20 5 = 0 by unfold fld; omega, show fld (d * 128) 20 5 = 0 by unfold fld; omega, show fld o 20 5 = 0 by unfold fld; omega]
    simp
  · rw [show fld (f7 * 33554432) 25 7 = f7 by unfold fld; omega, show fld (t * 1048576) 25 7 = 0 by unfold fld; omega, show fld (s * 32768) 25 7 = 0 by unfold fld; omega, show fld (f3 * 4096) 25 7 = 0 by unfold fld; omega, show fld (d * 128) 25 7 = 0 by unfold fld; omega, show fld o 25 7 = 0 by unfold fld; omega]
    simp
/-- A word is its six fields. -/
theorem six (w : Nat) (hw : w < 4294967296) : w = fld w 0 7 + 128 * fld w 7 5 + 4096 * fld w 12 3 + 32768 * fld w 15 5 + 1048576 * fld w 20 5 + 33554432 * fld w 25 7 := by
  unfold fld
  omega
theorem six_ext {x y : Nat} (hx : x < 4294967296) (hy : y < 4294967296) (h0 : fld x 0 7 = fld y 0 7) (h1 : fld x 7 5 = fld y 7 5) (h2 : fld x 12 3 = fld y 12 3) (h3 : fld x 15 5 = fld y 15 5) (h4 : fld x 20 5 = fld y 20 5) (h5 : fld x 25 7 = fld y 25 7) : x = y := by
  rw [six x hx, six y hy, h0, h1, h2, h3, h4, h5]
theorem layN_of (w : Nat) (hw : w < 4294967296) : layN (fld w 0 7) (fld w 12 3) (fld w 25 7) (fld w 7 5) (fld w 15 5) (fld w 20 5) = w := by
  have b0 : fld w 0 7 < 128 := Nat.mod_lt _ (by decide)
  have b1 : fld w 7 5 < 32 := Nat.mod_lt _ (by decide)
  have b2 : fld w 12 3 < 8 := Nat.mod_lt _ (by decide)
  have b3 : fld w 15 5 < 32 := Nat.mod_lt _ (by decide)
  have b4 : fld w 20 5 < 32 := Nat.mod_lt _ (by decide)
  have b5 : fld w 25 7 < 128 := Nat.mod_lt _ (by decide)
  obtain ⟨e0, e1, e2, e3, e4, e5⟩ := layN_fields _ _ _ _ _ _ b0 b2 b5 b1 b3 b4
  exact six_ext (layN_lt _ _ _ _ _ _ b0 b2 b5 b1 b3 b4) hw e0 e1 e2 e3 e4 e5
/-- The upper twelve bits laid over a word without them. -/
theorem lay_imm (w f3 o d s m : Nat) (hw : w < 4294967296) (h0 : fld w 0 7 = o) (h1 : fld w 7 5 = d) (h2 : fld w 12 3 = f3) (h3 : fld w 15 5 = s) (h4 : fld w 20 12 = m) : layN o f3 0 d s 0 ||| m * 1048576 = w := by
  have b0 : o < 128 := by rw [← h0]; exact Nat.mod_lt _ (by decide)
  have b1 : d < 32 := by rw [← h1]; exact Nat.mod_lt _ (by decide)
  have b2 : f3 < 8 := by rw [← h2]; exact Nat.mod_lt _ (by decide)
  have b3 : s < 32 := by rw [← h3]; exact Nat.mod_lt _ (by decide)
  have b4 : m < 4096 := by rw [← h4]; exact Nat.mod_lt _ (by decide)
  obtain ⟨e0, e1, e2, e3, e4, e5⟩ := layN_fields o f3 0 d s 0 b0 b2 (by decide) b1 b3 (by decide)
  have hl := layN_lt o f3 0 d s 0 b0 b2 (by decide) b1 b3 (by decide)
  refine six_ext (or_lt32 hl (by omega)) hw ?_ ?_ ?_ ?_ ?_ ?_
  · rw [fld_or, e0, show fld (m * 1048576) 0 7 = 0 by unfold fld; omega, h0]; simp
  · rw [fld_or, e1, show fld (m * 1048576) 7 5 = 0 by unfold fld; omega, h1]; simp
  · rw [fld_or, e2, show fld (m * 1048576) 12 3 = 0 by unfold fld; omega, h2]; simp
  · rw [fld_or, e3, show fld (m * 1048576) 15 5 = 0 by unfold fld; omega, h3]; simp
  · rw [fld_or, e4, Nat.zero_or]; unfold fld at h4 ⊢; omega
  · rw [fld_or, e5, Nat.zero_or]; unfold fld at h4 ⊢; omega
/-- A shift's count and its upper part. -/
theorem lay_sh (w f3 o d s f7 m k : Nat) (hw : w < 4294967296) (h0 : fld w 0 7 = o) (h1 : fld w 7 5 = d) (h2 : fld w 12 3 = f3) (h3 : fld w 15 5 = s) (hk : (k = 6 ∧ f7 % 2 = 0 ∧ f7 < 128 ∧ fld w 26 6 = f7 / 2 ∧ fld w 20 6 = m) ∨ (k = 5 ∧ f7 < 128 ∧ fld w 25 7 = f7 ∧ fld w 20 5 = m)) : layN o f3 f7 d s 0 ||| m * 1048576 = w := by
  have b0 : o < 128 := by rw [← h0]; exact Nat.mod_lt _ (by decide)
  have b1 : d < 32 := by rw [← h1]; exact Nat.mod_lt _ (by decide)
  have b2 : f3 < 8 := by rw [← h2]; exact Nat.mod_lt _ (by decide)
  have b3 : s < 32 := by rw [← h3]; exact Nat.mod_lt _ (by decide)
  have b7 : f7 < 128 := by rcases hk with h | h <;> omega
  have b4 : m < 64 := by
    rcases hk with h | h
    · rw [← h.2.2.2.2]; exact Nat.mod_lt _ (by decide)
    · have : fld w 20 5 < 32 := Nat.mod_lt _ (by decide)
      omega
  obtain ⟨e0, e1, e2, e3, e4, e5⟩ := layN_fields o f3 f7 d s 0 b0 b2 b7 b1 b3 (by decide)
  have hl := layN_lt o f3 f7 d s 0 b0 b2 b7 b1 b3 (by decide)
  refine six_ext (or_lt32 hl (by omega)) hw ?_ ?_ ?_ ?_ ?_ ?_
  · rw [fld_or, e0, show fld (m * 1048576) 0 7 = 0 by unfold fld; omega, h0]; simp
  · rw [fld_or, e1, show fld (m * 1048576) 7 5 = 0 by unfold fld; omega, h1]; simp
  · rw [fld_or, e2, show fld (m * 1048576) 12 3 = 0 by unfold fld; omega, h2]; simp
  · rw [fld_or, e3, show fld (m * 1048576) 15 5 = 0 by unfold fld; omega, h3]; simp
  · rw [fld_or, e4, Nat.zero_or]
    rcases hk with ⟨_, _, _, ha, hb⟩ | ⟨_, _, ha, hb⟩
    · unfold fld at hb ⊢; omega
    · rw [← hb]; unfold fld; omega
  · rw [fld_or, e5]
    rcases hk with ⟨_, hev, _, ha, hb⟩ | ⟨_, _, ha, hb⟩
    · have hm : fld (m * 1048576) 25 7 = fld w 25 1 := by unfold fld at hb ⊢; omega
      have hf : f7 = 2 * (f7 / 2) := by omega
      have hlt : fld w 25 1 < 2 := Nat.mod_lt _ (by decide)
      have e := Nat.two_pow_add_eq_or_of_lt (i := 1) (b := fld w 25 1) (by omega) (f7 / 2)
      rw [hm, hf, show 2 * (f7 / 2) = 2 ^ 1 * (f7 / 2) by omega, ← e, ← ha]
      unfold fld
      omega
    · rw [show fld (m * 1048576) 25 7 = 0 by unfold fld at hb ⊢; omega, ha]; simp
end Go.Proofs.Ytgefhoikpjiamaa.Ins
