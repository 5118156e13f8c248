/- The word of an instruction that a word has is that word, but of fences. Plain Lean. -/
import Derived.Test.YtgefhoikpjiamaaEncQ
namespace Go.Proofs.Ytgefhoikpjiamaa.Ins
open Go Go.RowKit
open Go.Proofs.Ytgefhoikpjiamaa.Bv
set_option linter.unusedVariables false
theorem fb7 (w a : Nat) : fld w a 7 < 128 := Nat.mod_lt _ (by decide)
theorem fb5 (w a : Nat) : fld w a 5 < 32 := Nat.mod_lt _ (by decide)
theorem fb3 (w a : Nat) : fld w a 3 < 8 := Nat.mod_lt _ (by decide)
theorem fb12 (w a : Nat) : fld w a 12 < 4096 := Nat.mod_lt _ (by decide)
theorem rdE (d : Nat) (hd : d < 32) : (wrap64 ((Go.bits .and .i64 (d : Int) 31) * 128)) % 4294967296 = ((d * 128 : Nat) : Int) := by
  rw [show Go.bits .and .i64 (d : Int) 31 = d from and_lt d 5 (by decide) hd, wrapc (by omega) (by omega)]
  omega
theorem and_top (a : Nat) (ha : a < 1048576) : (a * 4096) &&& (4294967295 - 4095) = a * 4096 := by
  have h1 : ((a * 4096) &&& 4294963200) / 2 ^ 12 = a := by
    rw [Nat.and_div_two_pow, show a * 4096 / 2 ^ 12 = a by omega, show 4294963200 / 2 ^ 12 = 2 ^ 20 - 1 by decide, Nat.and_two_pow_sub_one_eq_mod]
    omega
  have h2 : ((a * 4096) &&& 4294963200) % 2 ^ 12 = 0 := by
    rw [Nat.and_mod_two_pow, show a * 4096 % 2 ^ 12 = 0 by omega]
    simp
  show (a * 4096) &&& 4294963200 = a * 4096
  omega
theorem up_word (w o : Nat) (hw : w < 4294967296) (ho : fld w 0 7 = o) : ((fld w 12 20 * 4096) ||| (fld w 7 5 * 128)) ||| o = w := by
  have b0 : o < 128 := ho ▸ fb7 w 0
  have b1 := fb5 w 7
  have b2 : fld w 12 20 < 1048576 := Nat.mod_lt _ (by decide)
  have hl : ((fld w 12 20 * 4096) ||| (fld w 7 5 * 128)) ||| o < 4294967296 := or_lt32 (or_lt32 (by omega) (by omega)) (by omega)
  have e12 : fld w 12 3 = fld w 12 20 % 8 ∧ fld w 15 5 = fld w 12 20 / 8 % 32 ∧ fld w 20 5 = fld w 12 20 / 256 % 32 ∧ fld w 25 7 = fld w 12 20 / 8192 := by
    unfold fld
    omega
  generalize fld w 12 20 = A at *
  generalize hd : fld w 7 5 = d at *
  refine six_ext hl hw ?_ ?_ ?_ ?_ ?_ ?_
  · rw [fld_or, fld_or, show fld (A * 4096) 0 7 = 0 by unfold fld; omega, show fld (d * 128) 0 7 = 0 by unfold fld; omega, show fld o 0 7 = o by unfold fld; omega, ho]; simp
  · rw [fld_or, fld_or, show fld (A * 4096) 7 5 = 0 by unfold fld; omega, show fld (d * 128) 7 5 = d by unfold fld; omega, show fld o 7 5 = 0 by unfold fld; omega, hd]; simp
  · rw [fld_or, fld_or, show fld (A * 4096) 12 3 = A % 8 by unfold fld; omega, show fld (d * 128) 12 3 = 0 by unfold fld; omega, show fld o 12 3 = 0 by unfold fld; omega, e12.1]; simp
  · rw [fld_or, fld_or, show fld (A * 4096) 15 5 = A / 8 % 32 by unfold fld; omega, show fld (d * 128) 15 5 = 0 by unfold fld; omega, show fld o 15 5 = 0 by unfold fld; omega, e12.2.1]; simp
  · rw [fld_or, fld_or, show fld (A * 4096) 20 5 = A / 256 % 32 by unfold fld; omega, show fld (d * 128) 20 5 = 0 by unfold fld; omega, show fld o 20 5 = 0 by unfold fld; omega, e12.2.2.1]; simp
  · rw [fld_or, fld_or, show fld (A * 4096) 25 7 = A / 8192 by unfold fld; omega, show fld (d * 128) 25 7 = 0 by unfold fld; omega, show fld o 25 7 = 0 by unfold fld; omega, e12.2.2.2]; simp
theorem up_val (w o : Nat) (hw : w < 4294967296) (ho : fld w 0 7 = o) :
    Go.bits .or .u32 (Go.bits .or .u32 (Go.bits .andNot .u32 (uP w % 4294967296) 4095) ((wrap64 ((Go.bits .and .i64 ((fld w 7 5 : Nat) : Int) 31) * 128)) % 4294967296)) (o : Int) = (w : Int) := by
  have b0 : o < 128 := ho ▸ fb7 w 0
  have b1 := fb5 w 7
  have b2 : fld w 12 20 < 1048576 := Nat.mod_lt _ (by decide)
  have e : uP w % 4294967296 = ((fld w 12 20 * 4096 : Nat) : Int) := by
    unfold uP sg
    split <;> simp <;> omega
  rw [e, rdE _ b1, show (4095 : Int) = ((4095 : Nat) : Int) from rfl, u32_andNot_nat _ _ (by omega) (by omega), and_top _ b2, or32 _ _ (by omega) (by omega), or32 _ _ (or_lt32 (by omega) (by omega)) (by omega), up_word w o hw ho]
theorem fieldsJ {x y : Nat} (hx : x < 4294967296) (hy : y < 4294967296) (h0 : fld x 0 7 = fld y 0 7) (h1 : fld x 7 5 = fld y 7 5) (h2 : fld x 12 8 = fld y 12 8) (h3 : fld x 20 1 = fld y 20 1) (h4 : fld x 21 10 = fld y 21 10) (h5 : fld x 31 1 = fld y 31 1) : x = y := by
  unfold fld at *
  omega
theorem jal_word (w : Nat) (hw : w < 4294967296) (ho : fld w 0 7 = 111) : (((((fld w 31 1 * 2147483648) ||| (fld w 21 10 * 2097152)) ||| (fld w 20 1 * 1048576)) ||| (fld w 12 8 * 4096)) ||| (fld w 7 5 * 128)) ||| 111 = w := by
  have b1 := fb5 w 7
  have b2 : fld w 31 1 < 2 := Nat.mod_lt _ (by decide)
  have b3 : fld w 21 10 < 1024 := Nat.mod_lt _ (by decide)
  have b4 : fld w 20 1 < 2 := Nat.mod_lt _ (by decide)
  have b5 : fld w 12 8 < 256 := Nat.mod_lt _ (by decide)
  have hl : (((((fld w 31 1 * 2147483648) ||| (fld w 21 10 * 2097152)) ||| (fld w 20 1 * 1048576)) ||| (fld w 12 8 * 4096)) ||| (fld w 7 5 * 128)) ||| 111 < 4294967296 :=
    or_lt32 (or_lt32 (or_lt32 (or_lt32 (or_lt32 (by omega) (by omega)) (by omega)) (by omega)) (by omega)) (by decide)
  generalize ha : fld w 31 1 = a at *
  generalize hb : fld w 21 10 = b at *
  generalize hc : fld w 20 1 = c at *
  generalize hd : fld w 12 8 = d at *
  generalize he : fld w 7 5 = e at *
  refine fieldsJ hl hw ?_ ?_ ?_ ?_ ?_ ?_
  · simp only [fld_or]
    rw [show fld (a * 2147483648) 0 7 = 0 by unfold fld; omega, show fld (b * 2097152) 0 7 = 0 by unfold fld; omega, show fld (c * 1048576) 0 7 = 0 by unfold fld; omega, show fld (d * 4096) 0 7 = 0 by unfold fld; omega, show fld (e * 128) 0 7 = 0 by unfold fld; omega, show fld 111 0 7 = 111 by decide, ho]; simp
  · simp only [fld_or]
    rw [show fld (a * 2147483648) 7 5 = 0 by unfold fld; omega, show fld (b * 2097152) 7 5 = 0 by unfold fld; omega, show fld (c * 1048576) 7 5 = 0 by unfold fld; omega, show fld (d * 4096) 7 5 = 0 by unfold fld; omega, show fld (e * 128) 7 5 = e by unfold fld; omega, show fld 111 7 5 = 0 by decide, he]; simp
  · simp only [fld_or]
    rw [show fld (a * 2147483648) 12 8 = 0 by unfold fld; omega, show fld (b * 2097152) 12 8 = 0 by unfold fld; omega, show fld (c * 1048576) 12 8 = 0 by unfold fld; omega, show fld (d * 4096) 12 8 = d by unfold fld; omega, show fld (e * 128) 12 8 = 0 by unfold fld; omega, show fld 111 12 8 = 0 by decide, hd]; simp
  · simp only [fld_or]
    rw [show fld (a * 2147483648) 20 1 = 0 by unfold fld; omega, show fld (b * 2097152) 20 1 = 0 by unfold fld; omega, show fld (c * 1048576) 20 1 = c by unfold fld; omega, show fld (d * 4096) 20 1 = 0 by unfold fld; omega, show fld (e * 128) 20 1 = 0 by unfold fld; omega, show fld 111 20 1 = 0 by decide, hc]; simp
  · simp only [fld_or]
    rw [show fld (a * 2147483648) 21 10 = 0 by unfold fld; omega, show fld (b * 2097152) 21 10 = b by unfold fld; omega, show fld (c * 1048576) 21 10 = 0 by unfold fld; omega, show fld (d * 4096) 21 10 = 0 by unfold fld; omega, show fld (e * 128) 21 10 = 0 by unfold fld; omega, show fld 111 21 10 = 0 by decide, hb]; simp
  · simp only [fld_or]
    rw [show fld (a * 2147483648) 31 1 = a by unfold fld; omega, show fld (b * 2097152) 31 1 = 0 by unfold fld; omega, show fld (c * 1048576) 31 1 = 0 by unfold fld; omega, show fld (d * 4096) 31 1 = 0 by unfold fld; omega, show fld (e * 128) 31 1 = 0 by unfold fld; omega, show fld 111 31 1 = 0 by decide, ha]; simp
theorem jal_val (w : Nat) (hw : w < 4294967296) (ho : fld w 0 7 = 111) :
    Go.bits .or .u32 (Go.bits .or .u32 (spJ (jP w)) ((wrap64 ((Go.bits .and .i64 ((fld w 7 5 : Nat) : Int) 31) * 128)) % 4294967296)) 111 = (w : Int) := by
  have b1 := fb5 w 7
  have b2 : fld w 31 1 < 2 := Nat.mod_lt _ (by decide)
  have b3 : fld w 21 10 < 1024 := Nat.mod_lt _ (by decide)
  have b4 : fld w 20 1 < 2 := Nat.mod_lt _ (by decide)
  have b5 : fld w 12 8 < 256 := Nat.mod_lt _ (by decide)
  have hj : spJ (jP w) = (((((fld w 31 1 * 2147483648) ||| (fld w 21 10 * 2097152)) ||| (fld w 20 1 * 1048576)) ||| (fld w 12 8 * 4096) : Nat) : Int) := by
    unfold spJ jP
    generalize fld w 31 1 = a at *
    generalize fld w 21 10 = b at *
    generalize fld w 20 1 = c at *
    generalize fld w 12 8 = d at *
    obtain ⟨n, hn⟩ : ∃ n, n = sg (a * 1048576 + d * 4096 + c * 2048 + b * 2) 21 := ⟨_, rfl⟩
    rw [← hn]
    have hN : n % 2097152 = ((a * 1048576 + d * 4096 + c * 2048 + b * 2 : Nat) : Int) := by
      rw [hn]; unfold sg; split <;> simp <;> omega
    have ea : Go.bits .and .i64 (n / 1048576) 1 = (a : Int) := by
      rw [show (1 : Int) = ((2 ^ 1 - 1 : Nat) : Int) by decide, and64 _ 1 (by decide)]; simp; omega
    have eb : Go.bits .and .i64 (n / 2) 1023 = (b : Int) := by
      rw [show (1023 : Int) = ((2 ^ 10 - 1 : Nat) : Int) by decide, and64 _ 10 (by decide)]; simp; omega
    have ec : Go.bits .and .i64 (n / 2048) 1 = (c : Int) := by
      rw [show (1 : Int) = ((2 ^ 1 - 1 : Nat) : Int) by decide, and64 _ 1 (by decide)]; simp; omega
    have ed : Go.bits .and .i64 (n / 4096) 255 = (d : Int) := by
      rw [show (255 : Int) = ((2 ^ 8 - 1 : Nat) : Int) by decide, and64 _ 8 (by decide)]; simp; omega
    clear hN hn
    have q1 : a * 2147483648 ||| b * 2097152 < 4294967296 := or_lt32 (by omega) (by omega)
    have q2 : (a * 2147483648 ||| b * 2097152) ||| c * 1048576 < 4294967296 := or_lt32 q1 (by omega)
    have q3 : ((a * 2147483648 ||| b * 2097152) ||| c * 1048576) ||| d * 4096 < 4294967296 := or_lt32 q2 (by omega)
    rw [ea, eb, ec, ed, wrapc (by omega) (by omega), wrapc (by omega) (by omega), wrapc (by omega) (by omega), wrapc (by omega) (by omega),
      show (a : Int) * 2147483648 = ((a * 2147483648 : Nat) : Int) by omega, show (b : Int) * 2097152 = ((b * 2097152 : Nat) : Int) by omega, show (c : Int) * 1048576 = ((c * 1048576 : Nat) : Int) by omega, show (d : Int) * 4096 = ((d * 4096 : Nat) : Int) by omega,
      or64 _ _ (by omega) (by omega), or64 _ _ (by omega) (by omega), or64 _ _ (by omega) (by omega)]
    omega
  have q1 : fld w 31 1 * 2147483648 ||| fld w 21 10 * 2097152 < 4294967296 := or_lt32 (by omega) (by omega)
  have q2 : (fld w 31 1 * 2147483648 ||| fld w 21 10 * 2097152) ||| fld w 20 1 * 1048576 < 4294967296 := or_lt32 q1 (by omega)
  have q3 : ((fld w 31 1 * 2147483648 ||| fld w 21 10 * 2097152) ||| fld w 20 1 * 1048576) ||| fld w 12 8 * 4096 < 4294967296 := or_lt32 q2 (by omega)
  rw [hj, rdE _ b1, or32 _ _ q3 (by omega), show (111 : Int) = ((111 : Nat) : Int) from rfl, or32 _ _ (or_lt32 q3 (by omega)) (by decide), jal_word w hw ho]
theorem fieldsB {x y : Nat} (hx : x < 4294967296) (hy : y < 4294967296) (h0 : fld x 0 7 = fld y 0 7) (h1 : fld x 7 1 = fld y 7 1) (h2 : fld x 8 4 = fld y 8 4) (h3 : fld x 12 3 = fld y 12 3) (h4 : fld x 15 5 = fld y 15 5) (h5 : fld x 20 5 = fld y 20 5) (h6 : fld x 25 6 = fld y 25 6) (h7 : fld x 31 1 = fld y 31 1) : x = y := by
  unfold fld at *
  omega
theorem sub_fld (x : Nat) : fld x 7 1 = fld x 7 5 % 2 ∧ fld x 8 4 = fld x 7 5 / 2 ∧ fld x 25 6 = fld x 25 7 % 64 ∧ fld x 31 1 = fld x 25 7 / 64 := by
  unfold fld
  omega
theorem br_word (w : Nat) (hw : w < 4294967296) (ho : fld w 0 7 = 99) :
    layN 99 (fld w 12 3) 0 0 (fld w 15 5) (fld w 20 5) ||| ((((fld w 31 1 * 2147483648) ||| (fld w 25 6 * 33554432)) ||| (fld w 8 4 * 256)) ||| (fld w 7 1 * 128)) = w := by
  have b2 : fld w 31 1 < 2 := Nat.mod_lt _ (by decide)
  have b3 : fld w 25 6 < 64 := Nat.mod_lt _ (by decide)
  have b4 : fld w 8 4 < 16 := Nat.mod_lt _ (by decide)
  have b5 : fld w 7 1 < 2 := Nat.mod_lt _ (by decide)
  obtain ⟨e0, e1, e2, e3, e4, e5⟩ := layN_fields 99 (fld w 12 3) 0 0 (fld w 15 5) (fld w 20 5) (by decide) (fb3 w 12) (by decide) (by decide) (fb5 w 15) (fb5 w 20)
  have hl := layN_lt 99 (fld w 12 3) 0 0 (fld w 15 5) (fld w 20 5) (by decide) (fb3 w 12) (by decide) (by decide) (fb5 w 15) (fb5 w 20)
  generalize layN 99 (fld w 12 3) 0 0 (fld w 15 5) (fld w 20 5) = L at *
  obtain ⟨s1, s2, s3, s4⟩ := sub_fld L
  rw [e1] at s1 s2
  rw [e5] at s3 s4
  generalize ha : fld w 31 1 = a at *
  generalize hb : fld w 25 6 = b at *
  generalize hc : fld w 8 4 = c at *
  generalize hd : fld w 7 1 = d at *
  refine fieldsB (or_lt32 hl (or_lt32 (or_lt32 (or_lt32 (by omega) (by omega)) (by omega)) (by omega))) hw ?_ ?_ ?_ ?_ ?_ ?_ ?_ ?_
  · simp only [fld_or]
    rw [e0, show fld (a * 2147483648) 0 7 = 0 by unfold fld; omega, show fld (b * 33554432) 0 7 = 0 by unfold fld; omega, show fld (c * 256) 0 7 = 0 by unfold fld; omega, show fld (d * 128) 0 7 = 0 by unfold fld; omega, ho]; simp
  · simp only [fld_or]
    rw [s1, show fld (a * 2147483648) 7 1 = 0 by unfold fld; omega, show fld (b * 33554432) 7 1 = 0 by unfold fld; omega, show fld (c * 256) 7 1 = 0 by unfold fld; omega, show fld (d * 128) 7 1 = d by unfold fld; omega, hd]; simp
  · simp only [fld_or]
    rw [s2, show fld (a * 2147483648) 8 4 = 0 by unfold fld; omega, show fld (b * 33554432) 8 4 = 0 by unfold fld; omega, show fld (c * 256) 8 4 = c by unfold fld; omega, show fld (d * 128) 8 4 = 0 by unfold fld; omega, hc]; simp
  · simp only [fld_or]
    rw [e2, show fld (a * 2147483648) 12 3 = 0 by unfold fld; omega, show fld (b * 33554432) 12 3 = 0 by unfold fld; omega, show fld (c * 256) 12 3 = 0 by unfold fld; omega, show fld (d * 128) 12 3 = 0 by unfold fld; omega]; simp
  · simp only [fld_or]
    rw [e3, show fld (a * 2147483648) 15 5 = 0 by unfold fld; omega, show fld (b * 33554432) 15 5 = 0 by unfold fld; omega, show fld (c * 256) 15 5 = 0 by unfold fld; omega, show fld (d * 128) 15 5 = 0 by unfold fld; omega]; simp
  · simp only [fld_or]
    rw [e4, show fld (a * 2147483648) 20 5 = 0 by unfold fld; omega, show fld (b * 33554432) 20 5 = 0 by unfold fld; omega, show fld (c * 256) 20 5 = 0 by unfold fld; omega, show fld (d * 128) 20 5 = 0 by unfold fld; omega]; simp
  · simp only [fld_or]
    rw [s3, show fld (a * 2147483648) 25 6 = 0 by unfold fld; omega, show fld (b * 33554432) 25 6 = b by unfold fld; omega, show fld (c * 256) 25 6 = 0 by unfold fld; omega, show fld (d * 128) 25 6 = 0 by unfold fld; omega, hb]; simp
  · simp only [fld_or]
    rw [s4, show fld (a * 2147483648) 31 1 = a by unfold fld; omega, show fld (b * 33554432) 31 1 = 0 by unfold fld; omega, show fld (c * 256) 31 1 = 0 by unfold fld; omega, show fld (d * 128) 31 1 = 0 by unfold fld; omega, ha]; simp
theorem br_val (w : Nat) (hw : w < 4294967296) (ho : fld w 0 7 = 99) :
    Go.bits .or .u32 (layE 99 ((fld w 12 3 : Nat) : Int) 0 0 ((fld w 15 5 : Nat) : Int) ((fld w 20 5 : Nat) : Int)) (splitBE (bP w)) = (w : Int) := by
  have b2 : fld w 31 1 < 2 := Nat.mod_lt _ (by decide)
  have b3 : fld w 25 6 < 64 := Nat.mod_lt _ (by decide)
  have b4 : fld w 8 4 < 16 := Nat.mod_lt _ (by decide)
  have b5 : fld w 7 1 < 2 := Nat.mod_lt _ (by decide)
  have hj : splitBE (bP w) = (((((fld w 31 1 * 2147483648) ||| (fld w 25 6 * 33554432)) ||| (fld w 8 4 * 256)) ||| (fld w 7 1 * 128) : Nat) : Int) := by
    unfold splitBE InsG.inst_splitB.f bP
    rw [Option.getD_some]
    generalize fld w 31 1 = a at *
    generalize fld w 25 6 = b at *
    generalize fld w 8 4 = c at *
    generalize fld w 7 1 = d at *
    obtain ⟨n, hn⟩ : ∃ n, n = sg (a * 4096 + d * 2048 + b * 32 + c * 2) 13 := ⟨_, rfl⟩
    rw [← hn]
    have hN : n % 8192 = ((a * 4096 + d * 2048 + b * 32 + c * 2 : Nat) : Int) := by
      rw [hn]; unfold sg; split <;> simp <;> omega
    have ea : Go.bits .and .i64 (n / 4096) 1 = (a : Int) := by
      rw [show (1 : Int) = ((2 ^ 1 - 1 : Nat) : Int) by decide, and64 _ 1 (by decide)]; simp; omega
    have eb : Go.bits .and .i64 (n / 32) 63 = (b : Int) := by
      rw [show (63 : Int) = ((2 ^ 6 - 1 : Nat) : Int) by decide, and64 _ 6 (by decide)]; simp; omega
    have ec : Go.bits .and .i64 (n / 2) 15 = (c : Int) := by
      rw [show (15 : Int) = ((2 ^ 4 - 1 : Nat) : Int) by decide, and64 _ 4 (by decide)]; simp; omega
    have ed : Go.bits .and .i64 (n / 2048) 1 = (d : Int) := by
      rw [show (1 : Int) = ((2 ^ 1 - 1 : Nat) : Int) by decide, and64 _ 1 (by decide)]; simp; omega
    clear hN hn
    have q1 : a * 2147483648 ||| b * 33554432 < 4294967296 := or_lt32 (by omega) (by omega)
    have q2 : (a * 2147483648 ||| b * 33554432) ||| c * 256 < 4294967296 := or_lt32 q1 (by omega)
    have q3 : ((a * 2147483648 ||| b * 33554432) ||| c * 256) ||| d * 128 < 4294967296 := or_lt32 q2 (by omega)
    rw [ea, eb, ec, ed, wrapc (by omega) (by omega), wrapc (by omega) (by omega), wrapc (by omega) (by omega), wrapc (by omega) (by omega),
      show (a : Int) * 2147483648 = ((a * 2147483648 : Nat) : Int) by omega, show (b : Int) * 33554432 = ((b * 33554432 : Nat) : Int) by omega, show (c : Int) * 256 = ((c * 256 : Nat) : Int) by omega, show (d : Int) * 128 = ((d * 128 : Nat) : Int) by omega,
      or64 _ _ (by omega) (by omega), or64 _ _ (by omega) (by omega), or64 _ _ (by omega) (by omega)]
    omega
  have q1 : fld w 31 1 * 2147483648 ||| fld w 25 6 * 33554432 < 4294967296 := or_lt32 (by omega) (by omega)
  have q2 : (fld w 31 1 * 2147483648 ||| fld w 25 6 * 33554432) ||| fld w 8 4 * 256 < 4294967296 := or_lt32 q1 (by omega)
  have q3 : ((fld w 31 1 * 2147483648 ||| fld w 25 6 * 33554432) ||| fld w 8 4 * 256) ||| fld w 7 1 * 128 < 4294967296 := or_lt32 q2 (by omega)
  have hl := layN_lt 99 (fld w 12 3) 0 0 (fld w 15 5) (fld w 20 5) (by decide) (fb3 w 12) (by decide) (by decide) (fb5 w 15) (fb5 w 20)
  have el := layE_nat 99 (fld w 12 3) 0 0 (fld w 15 5) (fld w 20 5) (by decide) (fb3 w 12) (by decide) (by decide) (fb5 w 15) (fb5 w 20)
  rw [hj, show layE 99 ((fld w 12 3 : Nat) : Int) 0 0 ((fld w 15 5 : Nat) : Int) ((fld w 20 5 : Nat) : Int) = _ from el, or32 _ _ hl q3, br_word w hw ho]
/-- A word with an immediate of twelve bits at its top. -/
theorem imm_val (w o f3 : Nat) (hw : w < 4294967296) (ho : fld w 0 7 = o) (h3 : fld w 12 3 = f3) :
    Go.bits .or .u32 (layE (o : Int) (f3 : Int) 0 ((fld w 7 5 : Nat) : Int) ((fld w 15 5 : Nat) : Int) 0) (nE (iP w)) = (w : Int) := by
  have b0 : o < 128 := ho ▸ fb7 w 0
  have b3 : f3 < 8 := h3 ▸ fb3 w 12
  have hm := fb12 w 20
  have hl := layN_lt o f3 0 (fld w 7 5) (fld w 15 5) 0 b0 b3 (by decide) (fb5 w 7) (fb5 w 15) (by decide)
  have el := layE_nat o f3 0 (fld w 7 5) (fld w 15 5) 0 b0 b3 (by decide) (fb5 w 7) (fb5 w 15) (by decide)
  unfold iP
  rw [nE_sg _ hm, show layE (o : Int) (f3 : Int) 0 ((fld w 7 5 : Nat) : Int) ((fld w 15 5 : Nat) : Int) 0 = _ from el, or32 _ _ hl (by omega), lay_imm w f3 o _ _ _ hw ho rfl h3 rfl rfl]
theorem shm (m : Nat) (hm : m < 64) : IntKind.u32.wrap (IntKind.i64.wrap ((m : Int) * 1048576)) = ((m * 1048576 : Nat) : Int) := by
  rw [← wrap64_eq, wrapc (by omega) (by omega), IntKind.wrap_u32, Int.emod_eq_of_lt (by omega) (by omega)]
  omega
theorem sh_val (w o f3 f7 k : Nat) (M : Int) (hw : w < 4294967296) (ho : fld w 0 7 = o) (h3 : fld w 12 3 = f3)
    (hk : (k = 6 ∧ M = 63 ∧ f7 % 2 = 0 ∧ f7 < 128 ∧ fld w 26 6 = f7 / 2) ∨ (k = 5 ∧ M = 31 ∧ f7 < 128 ∧ fld w 25 7 = f7)) :
    shW (o : Int) (f3 : Int) (f7 : Int) ((fld w 7 5 : Nat) : Int) ((fld w 15 5 : Nat) : Int) ((fld w 20 k : Nat) : Int) M = (w : Int) := by
  have b0 : o < 128 := ho ▸ fb7 w 0
  have b3 : f3 < 8 := h3 ▸ fb3 w 12
  have b7 : f7 < 128 := by rcases hk with h | h <;> omega
  have hm : fld w 20 k < 64 ∧ Go.bits .and .i64 ((fld w 20 k : Nat) : Int) M = ((fld w 20 k : Nat) : Int) := by
    rcases hk with ⟨rfl, rfl, _⟩ | ⟨rfl, rfl, _⟩
    · have h : fld w 20 6 < 64 := Nat.mod_lt _ (by decide)
      exact ⟨h, and_lt _ 6 (by decide) h⟩
    · have h : fld w 20 5 < 32 := Nat.mod_lt _ (by decide)
      exact ⟨by omega, and_lt _ 5 (by decide) h⟩
  have hl := layN_lt o f3 f7 (fld w 7 5) (fld w 15 5) 0 b0 b3 b7 (fb5 w 7) (fb5 w 15) (by decide)
  have el := layE_nat o f3 f7 (fld w 7 5) (fld w 15 5) 0 b0 b3 b7 (fb5 w 7) (fb5 w 15) (by decide)
  have hw2 := lay_sh w f3 o (fld w 7 5) (fld w 15 5) f7 (fld w 20 k) k hw ho rfl h3 rfl (by
    rcases hk with ⟨rfl, _, h1, h2, h3⟩ | ⟨rfl, _, h1, h2⟩
    · exact .inl ⟨rfl, h1, h2, h3, rfl⟩
    · exact .inr ⟨rfl, h1, h2, rfl⟩)
  unfold shW
  rw [hm.2]
  generalize fld w 20 k = m at *
  rw [shm m hm.1, show layE (o : Int) (f3 : Int) (f7 : Int) ((fld w 7 5 : Nat) : Int) ((fld w 15 5 : Nat) : Int) 0 = _ from el, or32 _ _ hl (by have := hm.1; omega), hw2]
theorem lay_val (w : Nat) (hw : w < 4294967296) : layE ((fld w 0 7 : Nat) : Int) ((fld w 12 3 : Nat) : Int) ((fld w 25 7 : Nat) : Int) ((fld w 7 5 : Nat) : Int) ((fld w 15 5 : Nat) : Int) ((fld w 20 5 : Nat) : Int) = (w : Int) := by
  rw [layE_nat _ _ _ _ _ _ (fb7 w 0) (fb3 w 12) (fb7 w 25) (fb5 w 7) (fb5 w 15) (fb5 w 20), layN_of w hw]
theorem store_val (w : Nat) (hw : w < 4294967296) : layE ((fld w 0 7 : Nat) : Int) ((fld w 12 3 : Nat) : Int) (Go.bits .and .i64 (sP w / 32) 127) (Go.bits .and .i64 (sP w) 31) ((fld w 15 5 : Nat) : Int) ((fld w 20 5 : Nat) : Int) = (w : Int) := by
  have h7 := fb7 w 25
  have h5 := fb5 w 7
  have e1 : Go.bits .and .i64 (sP w / 32) 127 = ((fld w 25 7 : Nat) : Int) := by
    rw [show (127 : Int) = ((2 ^ 7 - 1 : Nat) : Int) by decide, and64 _ 7 (by decide)]
    unfold sP sg
    split <;> simp <;> omega
  have e2 : Go.bits .and .i64 (sP w) 31 = ((fld w 7 5 : Nat) : Int) := by
    rw [show (31 : Int) = ((2 ^ 5 - 1 : Nat) : Int) by decide, and64 _ 5 (by decide)]
    unfold sP sg
    split <;> simp <;> omega
  rw [e1, e2, lay_val w hw]
theorem amo_f7 (w : Nat) : Go.bits .or .i64 (wrap64 (((fld w 27 5 : Nat) : Int) * 4)) (Go.bits .and .i64 ((fld w 25 2 : Nat) : Int) 3) = ((fld w 25 7 : Nat) : Int) := by
  have h5 := fb5 w 27
  have h2 : fld w 25 2 < 4 := Nat.mod_lt _ (by decide)
  have e : fld w 25 7 = fld w 27 5 * 4 + fld w 25 2 := by unfold fld; omega
  rw [show Go.bits .and .i64 ((fld w 25 2 : Nat) : Int) 3 = _ from and_lt (fld w 25 2) 2 (by decide) h2, wrapc (by omega) (by omega), show ((fld w 27 5 : Nat) : Int) * 4 = ((fld w 27 5 * 4 : Nat) : Int) by omega, or64 _ _ (by omega) (by omega), e]
  have g := Nat.two_pow_add_eq_or_of_lt (i := 2) (b := fld w 25 2) (by omega) (fld w 27 5)
  rw [show fld w 27 5 * 4 = 2 ^ 2 * fld w 27 5 by omega, ← g]
/-- The word that encode answers for an instruction that the word w has. -/
def backW (i : I7) (w : Nat) : Int := if i.1 = 85 then 267386895 else if i.1 = 86 then 4111 else (w : Int)
theorem back_of {w : Nat} {i : I7} {v : Int} (h1 : i.1 ≠ 85) (h2 : i.1 ≠ 86) (he : encE i = (v, true)) (hv : v = (w : Int)) : encE i = (backW i w, true) := by
  unfold backW
  rw [if_neg h1, if_neg h2, he, hv]
end Go.Proofs.Ytgefhoikpjiamaa.Ins
