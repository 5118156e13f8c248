/- How far jumps, branches, loads and immediates go: when the instruction of such a form is sound. Plain Lean. -/
import Derived.Test.YtnopppamfleniaaEncS
namespace Go.Proofs.Ytnopppamfleniaa.Ins
open Go Go.RowKit
open Go.Proofs.Ytnopppamfleniaa.Bv
set_option linter.unusedVariables false
theorem sound_of {i j : I7} {W : Nat} (he : encE i = ((W : Int), true)) (hd : decP W = (j, true)) : (EncE i).2 = true ↔ j = i := by
  have hn : encN i = W := by
    unfold encN
    rw [he]
    exact Int.toNat_natCast _
  unfold EncE
  rw [hn, he, hd]
  constructor
  · intro h
    split at h
    · rename_i c
      exact (Prod.mk.inj c.2).1
    · cases h
  · intro h
    rw [if_pos ⟨rfl, by rw [h]⟩]
theorem sound_b {i j : I7} {W : Nat} {b : Bool} (he : encE i = ((W : Int), true)) (hd : decP W = (j, true)) (hb : j = i ↔ b = true) : (EncE i).2 = b := by
  have h := (sound_of he hd).trans hb
  cases b <;> cases h2 : (EncE i).2 <;> simp_all
theorem size4_some {k : I7} (h : k.1 ≠ 0) : size4 k = ((k.1, k.2.1, k.2.2.1, k.2.2.2.1, k.2.2.2.2.1, k.2.2.2.2.2.1, 4), true) := by unfold size4; rw [if_neg h]
/-- A number's lowest bits, as a natural number. -/
theorem low (n : Int) (m : Nat) (hm : 0 < m) : ∃ x : Nat, n % (m : Int) = (x : Int) ∧ x < m := by
  have h1 := Int.emod_nonneg n (show (m : Int) ≠ 0 by omega)
  have h2 := Int.emod_lt_of_pos n (show (0 : Int) < (m : Int) by omega)
  exact ⟨(n % (m : Int)).toNat, by omega, by omega⟩
theorem far_jal (d : Nat) (hd : d < 32) (n : Int) (b : Bool) (hb : (n % 2 = 0 ∧ -1048576 ≤ n ∧ n < 1048576) ↔ b = true) : (EncE (3, (d : Int), 0, 0, n, 0, 4)).2 = b := by
  obtain ⟨x, hx, hx2⟩ := low n 2097152 (by decide)
  obtain ⟨a, ha⟩ : ∃ a, a = x / 1048576 := ⟨_, rfl⟩
  obtain ⟨m, hm⟩ : ∃ m, m = x / 2 % 1024 := ⟨_, rfl⟩
  obtain ⟨c, hc⟩ : ∃ c, c = x / 2048 % 2 := ⟨_, rfl⟩
  obtain ⟨e, he⟩ : ∃ e, e = x / 4096 % 256 := ⟨_, rfl⟩
  have b1 : a < 2 := by omega
  have b2 : m < 1024 := by omega
  have b3 : c < 2 := by omega
  have b4 : e < 256 := by omega
  have hs : spJ n = ((((a * 2147483648 ||| m * 2097152) ||| c * 1048576) ||| e * 4096 : Nat) : Int) := by
    have ea : Go.bits .and .i64 (n / 1048576) 1 = (a : Int) := by
      rw [show (1 : Int) = ((2 ^ 1 - 1 : Nat) : Int) by decide, and64 _ 1 (by decide)]; simp; omega
    have eb : Go.bits .and .i64 (n / 2) 1023 = (m : Int) := by
      rw [show (1023 : Int) = ((2 ^ 10 - 1 : Nat) : Int) by decide, and64 _ 10 (by decide)]; simp; omega
    have ec : Go.bits .and .i64 (n / 2048) 1 = (c : Int) := by
      rw [show (1 : Int) = ((2 ^ 1 - 1 : Nat) : Int) by decide, and64 _ 1 (by decide)]; simp; omega
    have ed : Go.bits .and .i64 (n / 4096) 255 = (e : Int) := by
      rw [show (255 : Int) = ((2 ^ 8 - 1 : Nat) : Int) by decide, and64 _ 8 (by decide)]; simp; omega
    clear ha hm hc he hx hb
    unfold spJ
    have q1 : a * 2147483648 ||| m * 2097152 < 4294967296 := or_lt32 (by omega) (by omega)
    have q2 : (a * 2147483648 ||| m * 2097152) ||| c * 1048576 < 4294967296 := or_lt32 q1 (by omega)
    have q3 : ((a * 2147483648 ||| m * 2097152) ||| c * 1048576) ||| e * 4096 < 4294967296 := or_lt32 q2 (by omega)
    rw [ea, eb, ec, ed, wrapc (by omega) (by omega), wrapc (by omega) (by omega), wrapc (by omega) (by omega), wrapc (by omega) (by omega),
      show (a : Int) * 2147483648 = ((a * 2147483648 : Nat) : Int) by omega, show (m : Int) * 2097152 = ((m * 2097152 : Nat) : Int) by omega, show (c : Int) * 1048576 = ((c * 1048576 : Nat) : Int) by omega, show (e : Int) * 4096 = ((e * 4096 : Nat) : Int) by omega,
      or64 _ _ (by omega) (by omega), or64 _ _ (by omega) (by omega), or64 _ _ (by omega) (by omega)]
    omega
  have q1 : a * 2147483648 ||| m * 2097152 < 4294967296 := or_lt32 (by omega) (by omega)
  have q2 : (a * 2147483648 ||| m * 2097152) ||| c * 1048576 < 4294967296 := or_lt32 q1 (by omega)
  have q3 : ((a * 2147483648 ||| m * 2097152) ||| c * 1048576) ||| e * 4096 < 4294967296 := or_lt32 q2 (by omega)
  have hE : encE (3, (d : Int), 0, 0, n, 0, 4) = (((((((a * 2147483648 ||| m * 2097152) ||| c * 1048576) ||| e * 4096) ||| d * 128) ||| 111 : Nat) : Int), true) := by
    rw [enc_jal, hs, rdE _ hd, or32 _ _ q3 (by omega), show (111 : Int) = ((111 : Nat) : Int) from rfl, or32 _ _ (or_lt32 q3 (by omega)) (by decide)]
  obtain ⟨W, hW⟩ : ∃ W, W = ((((a * 2147483648 ||| m * 2097152) ||| c * 1048576) ||| e * 4096) ||| d * 128) ||| 111 := ⟨_, rfl⟩
  rw [← hW] at hE
  have f0 : fld W 0 7 = 111 := by
    rw [hW]; simp only [fld_or]
    rw [show fld (a * 2147483648) 0 7 = 0 by unfold fld; omega, show fld (m * 2097152) 0 7 = 0 by unfold fld; omega, show fld (c * 1048576) 0 7 = 0 by unfold fld; omega, show fld (e * 4096) 0 7 = 0 by unfold fld; omega, show fld (d * 128) 0 7 = 0 by unfold fld; omega, show fld 111 0 7 = 111 by decide]; simp
  have f1 : fld W 7 5 = d := by
    rw [hW]; simp only [fld_or]
    rw [show fld (a * 2147483648) 7 5 = 0 by unfold fld; omega, show fld (m * 2097152) 7 5 = 0 by unfold fld; omega, show fld (c * 1048576) 7 5 = 0 by unfold fld; omega, show fld (e * 4096) 7 5 = 0 by unfold fld; omega, show fld (d * 128) 7 5 = d by unfold fld; omega, show fld 111 7 5 = 0 by decide]; simp
  have f2 : fld W 12 8 = e := by
    rw [hW]; simp only [fld_or]
    rw [show fld (a * 2147483648) 12 8 = 0 by unfold fld; omega, show fld (m * 2097152) 12 8 = 0 by unfold fld; omega, show fld (c * 1048576) 12 8 = 0 by unfold fld; omega, show fld (e * 4096) 12 8 = e by unfold fld; omega, show fld (d * 128) 12 8 = 0 by unfold fld; omega, show fld 111 12 8 = 0 by decide]; simp
  have f3 : fld W 20 1 = c := by
    rw [hW]; simp only [fld_or]
    rw [show fld (a * 2147483648) 20 1 = 0 by unfold fld; omega, show fld (m * 2097152) 20 1 = 0 by unfold fld; omega, show fld (c * 1048576) 20 1 = c by unfold fld; omega, show fld (e * 4096) 20 1 = 0 by unfold fld; omega, show fld (d * 128) 20 1 = 0 by unfold fld; omega, show fld 111 20 1 = 0 by decide]; simp
  have f4 : fld W 21 10 = m := by
    rw [hW]; simp only [fld_or]
    rw [show fld (a * 2147483648) 21 10 = 0 by unfold fld; omega, show fld (m * 2097152) 21 10 = m by unfold fld; omega, show fld (c * 1048576) 21 10 = 0 by unfold fld; omega, show fld (e * 4096) 21 10 = 0 by unfold fld; omega, show fld (d * 128) 21 10 = 0 by unfold fld; omega, show fld 111 21 10 = 0 by decide]; simp
  have f5 : fld W 31 1 = a := by
    rw [hW]; simp only [fld_or]
    rw [show fld (a * 2147483648) 31 1 = a by unfold fld; omega, show fld (m * 2097152) 31 1 = 0 by unfold fld; omega, show fld (c * 1048576) 31 1 = 0 by unfold fld; omega, show fld (e * 4096) 31 1 = 0 by unfold fld; omega, show fld (d * 128) 31 1 = 0 by unfold fld; omega, show fld 111 31 1 = 0 by decide]; simp
  clear hW q1 q2 q3 hs
  have hk : kindP W = (3, (d : Int), 0, 0, sg (a * 1048576 + e * 4096 + c * 2048 + m * 2) 21, 0, 0) := by
    unfold kindP jP
    rw [if_neg (by omega), if_neg (by omega), if_pos f0, f1, f2, f3, f4, f5]
  refine sound_b hE (by unfold decP; rw [hk]; exact size4_some (show (3 : Int) ≠ 0 by decide)) (Iff.trans ?_ hb)
  have hsg : sg (a * 1048576 + e * 4096 + c * 2048 + m * 2) 21 = n ↔ (n % 2 = 0 ∧ -1048576 ≤ n ∧ n < 1048576) := by
    unfold sg
    split <;> constructor <;> intro h <;> simp at * <;> omega
  rw [← hsg]
  simp [Prod.ext_iff]
theorem far_imm (o f3 op : Nat) (d s : Nat) (ho : o < 128) (h3 : f3 < 8) (hd : d < 32) (hs : s < 32) (n : Int) (x : Nat) (hx : n % 4096 = (x : Int)) (hx2 : x < 4096) :
    ∃ W : Nat, Go.bits .or .u32 (layE (o : Int) (f3 : Int) 0 (d : Int) (s : Int) 0) (nE n) = (W : Int) ∧ fld W 0 7 = o ∧ fld W 7 5 = d ∧ fld W 12 3 = f3 ∧ fld W 15 5 = s ∧ fld W 20 12 = x := by
  have hn : nE n = ((x * 1048576 : Nat) : Int) := by
    have e : Go.bits .and .i64 n 4095 = (x : Int) := by
      rw [show (4095 : Int) = ((2 ^ 12 - 1 : Nat) : Int) by decide, and64 _ 12 (by decide)]; simpa using hx
    unfold nE
    rw [e, wrapc (by omega) (by omega)]
    omega
  have hl := layN_lt o f3 0 d s 0 ho h3 (by decide) hd hs (by decide)
  have el := layE_nat o f3 0 d s 0 ho h3 (by decide) hd hs (by decide)
  obtain ⟨e0, e1, e2, e3, e4, e5⟩ := layN_fields o f3 0 d s 0 ho h3 (by decide) hd hs (by decide)
  refine ⟨layN o f3 0 d s 0 ||| x * 1048576, ?_, ?_, ?_, ?_, ?_, ?_⟩
  · rw [hn, show layE (o : Int) (f3 : Int) 0 (d : Int) (s : Int) 0 = _ from el, or32 _ _ hl (by omega)]
  · rw [fld_or, e0, show fld (x * 1048576) 0 7 = 0 by unfold fld; omega]; simp
  · rw [fld_or, e1, show fld (x * 1048576) 7 5 = 0 by unfold fld; omega]; simp
  · rw [fld_or, e2, show fld (x * 1048576) 12 3 = 0 by unfold fld; omega]; simp
  · rw [fld_or, e3, show fld (x * 1048576) 15 5 = 0 by unfold fld; omega]; simp
  · rw [fld_or, show fld (layN o f3 0 d s 0) 20 12 = 0 by unfold fld at e4 e5 ⊢; omega, show fld (x * 1048576) 20 12 = x by unfold fld; omega]; simp
theorem sg12 (n : Int) (x : Nat) (hx : n % 4096 = (x : Int)) (hx2 : x < 4096) : sg x 12 = n ↔ (-2048 ≤ n ∧ n ≤ 2047) := by
  unfold sg
  split <;> constructor <;> intro h <;> simp at * <;> omega
theorem far_ld (d s : Nat) (hd : d < 32) (hs : s < 32) (n : Int) (b : Bool) (hb : (-2048 ≤ n ∧ n ≤ 2047) ↔ b = true) : (EncE (14, (d : Int), (s : Int), 0, n, 0, 4)).2 = b := by
  obtain ⟨x, hx, hx2⟩ := low n 4096 (by decide)
  obtain ⟨W, hW, f0, f1, f2, f3, f4⟩ := far_imm 3 3 14 d s (by decide) (by decide) hd hs n x hx hx2
  have hE : encE (14, (d : Int), (s : Int), 0, n, 0, 4) = ((W : Int), true) := by
    rw [← hW]
    exact enc_load 3 (by decide) (by decide) _ _ _ _ _ _
  have hk : kindP W = (14, (d : Int), (s : Int), 0, sg x 12, 0, 0) := by
    unfold kindP withImmP iP regsP
    rw [f0, f1, f2, f3, f4]
    rfl
  refine sound_b hE (by unfold decP; rw [hk]; exact size4_some (show (14 : Int) ≠ 0 by decide)) (Iff.trans ?_ hb)
  rw [← sg12 n x hx hx2]
  simp [Prod.ext_iff]
theorem far_sb (s t : Nat) (hs : s < 32) (ht : t < 32) (n : Int) (b : Bool) (hb : (-2048 ≤ n ∧ n ≤ 2047) ↔ b = true) : (EncE (18, 0, (s : Int), (t : Int), n, 0, 4)).2 = b := by
  obtain ⟨x, hx, hx2⟩ := low n 4096 (by decide)
  have e1 : Go.bits .and .i64 (n / 32) 127 = ((x / 32 : Nat) : Int) := by
    rw [show (127 : Int) = ((2 ^ 7 - 1 : Nat) : Int) by decide, and64 _ 7 (by decide)]; simp at *; omega
  have e2 : Go.bits .and .i64 n 31 = ((x % 32 : Nat) : Int) := by
    rw [show (31 : Int) = ((2 ^ 5 - 1 : Nat) : Int) by decide, and64 _ 5 (by decide)]; simp at *; omega
  have h7 : x / 32 < 128 := by omega
  have h5 : x % 32 < 32 := by omega
  have hE : encE (18, 0, (s : Int), (t : Int), n, 0, 4) = (((layN 35 0 (x / 32) (x % 32) s t : Nat) : Int), true) := by
    have e := enc_store 0 (by decide) (by decide) 0 (s : Int) (t : Int) n 0 4
    rw [e1, e2] at e
    rw [← layE_nat 35 0 (x / 32) (x % 32) s t (by decide) (by decide) h7 h5 hs ht]
    exact e
  obtain ⟨f0, f1, f2, f3, f4, f5⟩ := layN_fields 35 0 (x / 32) (x % 32) s t (by decide) (by decide) h7 h5 hs ht
  generalize layN 35 0 (x / 32) (x % 32) s t = W at *
  have hk : kindP W = (18, 0, (s : Int), (t : Int), sg x 12, 0, 0) := by
    unfold kindP sP
    rw [f0, f1, f2, f3, f4, f5, show x / 32 * 32 + x % 32 = x by omega]
    rfl
  refine sound_b hE (by unfold decP; rw [hk]; exact size4_some (show (18 : Int) ≠ 0 by decide)) (Iff.trans ?_ hb)
  rw [← sg12 n x hx hx2]
  simp [Prod.ext_iff]
theorem far_lui (d : Nat) (hd : d < 32) (n : Int) (b : Bool) (hb : (n % 4096 = 0 ∧ -2147483648 ≤ n ∧ n < 2147483648) ↔ b = true) : (EncE (1, (d : Int), 0, 0, n, 0, 4)).2 = b := by
  obtain ⟨x, hx, hx2⟩ := low n 4294967296 (by decide)
  obtain ⟨A, hA⟩ : ∃ A, A = x / 4096 := ⟨_, rfl⟩
  have bA : A < 1048576 := by omega
  have ht : x &&& (4294967295 - 4095) = A * 4096 := by
    have h1 : (x &&& 4294963200) / 2 ^ 12 = A := by
      rw [Nat.and_div_two_pow, show x / 2 ^ 12 = A by omega, show 4294963200 / 2 ^ 12 = 2 ^ 20 - 1 by decide, Nat.and_two_pow_sub_one_eq_mod]
      omega
    have h2 : (x &&& 4294963200) % 2 ^ 12 = 0 := by
      rw [Nat.and_mod_two_pow, show 4294963200 % 2 ^ 12 = 0 by decide]
      simp
    show x &&& 4294963200 = A * 4096
    omega
  have hE : encE (1, (d : Int), 0, 0, n, 0, 4) = ((((A * 4096 ||| d * 128) ||| 55 : Nat) : Int), true) := by
    have hx' : n % 4294967296 = (x : Int) := hx
    rw [enc_lui, hx', rdE _ hd, show (4095 : Int) = ((4095 : Nat) : Int) from rfl, u32_andNot_nat _ _ (by omega) (by omega), ht, or32 _ _ (by omega) (by omega), show (55 : Int) = ((55 : Nat) : Int) from rfl, or32 _ _ (or_lt32 (by omega) (by omega)) (by decide)]
  obtain ⟨W, hW⟩ : ∃ W, W = (A * 4096 ||| d * 128) ||| 55 := ⟨_, rfl⟩
  rw [← hW] at hE
  have f0 : fld W 0 7 = 55 := by
    rw [hW]; simp only [fld_or]
    rw [show fld (A * 4096) 0 7 = 0 by unfold fld; omega, show fld (d * 128) 0 7 = 0 by unfold fld; omega, show fld 55 0 7 = 55 by decide]; simp
  have f1 : fld W 7 5 = d := by
    rw [hW]; simp only [fld_or]
    rw [show fld (A * 4096) 7 5 = 0 by unfold fld; omega, show fld (d * 128) 7 5 = d by unfold fld; omega, show fld 55 7 5 = 0 by decide]; simp
  have f2 : fld W 12 20 = A := by
    rw [hW]; simp only [fld_or]
    rw [show fld (A * 4096) 12 20 = A by unfold fld; omega, show fld (d * 128) 12 20 = 0 by unfold fld; omega, show fld 55 12 20 = 0 by decide]; simp
  clear hW ht
  have hk : kindP W = (1, (d : Int), 0, 0, sg (A * 4096) 32, 0, 0) := by
    unfold kindP uP
    rw [if_pos f0, f1, f2]
  refine sound_b hE (by unfold decP; rw [hk]; exact size4_some (show (1 : Int) ≠ 0 by decide)) (Iff.trans ?_ hb)
  have hsg : sg (A * 4096) 32 = n ↔ (n % 4096 = 0 ∧ -2147483648 ≤ n ∧ n < 2147483648) := by
    unfold sg
    split <;> constructor <;> intro h <;> simp at * <;> omega
  rw [← hsg]
  simp [Prod.ext_iff]
theorem far_sh (o f7 k : Nat) (M : Int) (d s : Nat) (ho : o < 128) (hd : d < 32) (hs : s < 32) (h7 : f7 = 32) (n : Int) (x : Nat) (hM : (k = 6 ∧ M = 63 ∧ n % 64 = (x : Int) ∧ x < 64) ∨ (k = 5 ∧ M = 31 ∧ n % 32 = (x : Int) ∧ x < 32)) :
    ∃ W : Nat, shW (o : Int) 5 32 (d : Int) (s : Int) n M = (W : Int) ∧ fld W 0 7 = o ∧ fld W 7 5 = d ∧ fld W 12 3 = 5 ∧ fld W 15 5 = s ∧ fld W 20 k = x ∧ (k = 6 → fld W 26 6 = 16) ∧ (k = 5 → fld W 25 7 = 32) := by
  have bx : x < 64 := by rcases hM with h | h <;> omega
  have hm : Go.bits .and .i64 n M = (x : Int) := by
    rcases hM with ⟨_, rfl, h, _⟩ | ⟨_, rfl, h, _⟩
    · rw [show (63 : Int) = ((2 ^ 6 - 1 : Nat) : Int) by decide, and64 _ 6 (by decide)]; simpa using h
    · rw [show (31 : Int) = ((2 ^ 5 - 1 : Nat) : Int) by decide, and64 _ 5 (by decide)]; simpa using h
  have hl := layN_lt o 5 32 d s 0 ho (by decide) (by decide) hd hs (by decide)
  have el := layE_nat o 5 32 d s 0 ho (by decide) (by decide) hd hs (by decide)
  obtain ⟨e0, e1, e2, e3, e4, e5⟩ := layN_fields o 5 32 d s 0 ho (by decide) (by decide) hd hs (by decide)
  refine ⟨layN o 5 32 d s 0 ||| x * 1048576, ?_, ?_, ?_, ?_, ?_, ?_, ?_, ?_⟩
  · unfold shW
    rw [hm, shm x bx, show layE (o : Int) 5 32 (d : Int) (s : Int) 0 = _ from el, or32 _ _ hl (by omega)]
  · rw [fld_or, e0, show fld (x * 1048576) 0 7 = 0 by unfold fld; omega]; simp
  · rw [fld_or, e1, show fld (x * 1048576) 7 5 = 0 by unfold fld; omega]; simp
  · rw [fld_or, e2, show fld (x * 1048576) 12 3 = 0 by unfold fld; omega]; simp
  · rw [fld_or, e3, show fld (x * 1048576) 15 5 = 0 by unfold fld; omega]; simp
  · rcases hM with ⟨rfl, _, _, _⟩ | ⟨rfl, _, _, _⟩
    · rw [fld_or, show fld (layN o 5 32 d s 0) 20 6 = 0 by unfold fld at e4 e5 ⊢; omega, show fld (x * 1048576) 20 6 = x by unfold fld; omega]; simp
    · rw [fld_or, e4, show fld (x * 1048576) 20 5 = x by unfold fld; omega]; simp
  · intro hk
    rw [fld_or, show fld (layN o 5 32 d s 0) 26 6 = 16 by unfold fld at e5 ⊢; omega, show fld (x * 1048576) 26 6 = 0 by unfold fld; omega]; simp
  · intro hk
    have bx2 : x < 32 := by rcases hM with h | h <;> omega
    rw [fld_or, e5, show fld (x * 1048576) 25 7 = 0 by unfold fld; omega]; simp
theorem far_srai (d s : Nat) (hd : d < 32) (hs : s < 32) (n : Int) (b : Bool) (hb : (0 ≤ n ∧ n < 64) ↔ b = true) : (EncE (30, (d : Int), (s : Int), 0, n, 0, 4)).2 = b := by
  obtain ⟨x, hx, hx2⟩ := low n 64 (by decide)
  obtain ⟨W, hW, f0, f1, f2, f3, f4, f5, _⟩ := far_sh 19 32 6 63 d s (by decide) hd hs rfl n x (.inl ⟨rfl, rfl, hx, hx2⟩)
  have f5 := f5 rfl
  have hE : encE (30, (d : Int), (s : Int), 0, n, 0, 4) = ((W : Int), true) := by
    rw [← hW]
    exact enc_30 _ _ _ _ _ _
  have hk : kindP W = (30, (d : Int), (s : Int), 0, (x : Int), 0, 0) := by
    have e : withImmP W = shiftP W 28 29 30 6 := by unfold withImmP; rw [f0, f2]; rfl
    have e2 : shiftP W 28 29 30 6 = (30, 0, 0, 0, (x : Int), 0, 0) := by
      unfold shiftP
      rw [f2, f4, show fld W (20 + 6) (12 - 6) = 16 from f5]
      rfl
    unfold kindP regsP
    rw [e, e2, f0, f1, f3]
    rfl
  refine sound_b hE (by unfold decP; rw [hk]; exact size4_some (show (30 : Int) ≠ 0 by decide)) (Iff.trans ?_ hb)
  have hsg : (x : Int) = n ↔ (0 ≤ n ∧ n < 64) := by constructor <;> intro h <;> omega
  rw [← hsg]
  simp [Prod.ext_iff]
theorem far_sraiw (d s : Nat) (hd : d < 32) (hs : s < 32) (n : Int) (b : Bool) (hb : (0 ≤ n ∧ n < 32) ↔ b = true) : (EncE (44, (d : Int), (s : Int), 0, n, 0, 4)).2 = b := by
  obtain ⟨x, hx, hx2⟩ := low n 32 (by decide)
  obtain ⟨W, hW, f0, f1, f2, f3, f4, _, f5⟩ := far_sh 27 32 5 31 d s (by decide) hd hs rfl n x (.inr ⟨rfl, rfl, hx, hx2⟩)
  have f5 := f5 rfl
  have hE : encE (44, (d : Int), (s : Int), 0, n, 0, 4) = ((W : Int), true) := by
    rw [← hW]
    exact enc_44 _ _ _ _ _ _
  have hk : kindP W = (44, (d : Int), (s : Int), 0, (x : Int), 0, 0) := by
    have e : withImmP W = shiftP W 42 43 44 5 := by unfold withImmP; rw [f0, f2]; rfl
    have e2 : shiftP W 42 43 44 5 = (44, 0, 0, 0, (x : Int), 0, 0) := by
      unfold shiftP
      rw [f2, f4, show fld W (20 + 5) (12 - 5) = 32 from f5]
      rfl
    unfold kindP regsP
    rw [e, e2, f0, f1, f3]
    rfl
  refine sound_b hE (by unfold decP; rw [hk]; exact size4_some (show (44 : Int) ≠ 0 by decide)) (Iff.trans ?_ hb)
  have hsg : (x : Int) = n ↔ (0 ≤ n ∧ n < 32) := by constructor <;> intro h <;> omega
  rw [← hsg]
  simp [Prod.ext_iff]
theorem far_bne (s t : Nat) (hs : s < 32) (ht : t < 32) (n : Int) (b : Bool) (hb : (n % 2 = 0 ∧ -4096 ≤ n ∧ n < 4096) ↔ b = true) : (EncE (6, 0, (s : Int), (t : Int), n, 0, 4)).2 = b := by
  obtain ⟨x, hx, hx2⟩ := low n 8192 (by decide)
  obtain ⟨a, ha⟩ : ∃ a, a = x / 4096 := ⟨_, rfl⟩
  obtain ⟨m, hm⟩ : ∃ m, m = x / 32 % 64 := ⟨_, rfl⟩
  obtain ⟨c, hc⟩ : ∃ c, c = x / 2 % 16 := ⟨_, rfl⟩
  obtain ⟨e, he⟩ : ∃ e, e = x / 2048 % 2 := ⟨_, rfl⟩
  have b1 : a < 2 := by omega
  have b2 : m < 64 := by omega
  have b3 : c < 16 := by omega
  have b4 : e < 2 := by omega
  have hsp : splitBE n = ((((a * 2147483648 ||| m * 33554432) ||| c * 256) ||| e * 128 : Nat) : Int) := by
    have ea : Go.bits .and .i64 (n / 4096) 1 = (a : Int) := by
      rw [show (1 : Int) = ((2 ^ 1 - 1 : Nat) : Int) by decide, and64 _ 1 (by decide)]; simp; omega
    have eb : Go.bits .and .i64 (n / 32) 63 = (m : Int) := by
      rw [show (63 : Int) = ((2 ^ 6 - 1 : Nat) : Int) by decide, and64 _ 6 (by decide)]; simp; omega
    have ec : Go.bits .and .i64 (n / 2) 15 = (c : Int) := by
      rw [show (15 : Int) = ((2 ^ 4 - 1 : Nat) : Int) by decide, and64 _ 4 (by decide)]; simp; omega
    have ed : Go.bits .and .i64 (n / 2048) 1 = (e : Int) := by
      rw [show (1 : Int) = ((2 ^ 1 - 1 : Nat) : Int) by decide, and64 _ 1 (by decide)]; simp; omega
    clear ha hm hc he hx hb
    unfold splitBE InsG.inst_splitB.f
    rw [Option.getD_some]
    have q1 : a * 2147483648 ||| m * 33554432 < 4294967296 := or_lt32 (by omega) (by omega)
    have q2 : (a * 2147483648 ||| m * 33554432) ||| c * 256 < 4294967296 := or_lt32 q1 (by omega)
    have q3 : ((a * 2147483648 ||| m * 33554432) ||| c * 256) ||| e * 128 < 4294967296 := or_lt32 q2 (by omega)
    rw [ea, eb, ec, ed, wrapc (by omega) (by omega), wrapc (by omega) (by omega), wrapc (by omega) (by omega), wrapc (by omega) (by omega),
      show (a : Int) * 2147483648 = ((a * 2147483648 : Nat) : Int) by omega, show (m : Int) * 33554432 = ((m * 33554432 : Nat) : Int) by omega, show (c : Int) * 256 = ((c * 256 : Nat) : Int) by omega, show (e : Int) * 128 = ((e * 128 : Nat) : Int) by omega,
      or64 _ _ (by omega) (by omega), or64 _ _ (by omega) (by omega), or64 _ _ (by omega) (by omega)]
    omega
  have q1 : a * 2147483648 ||| m * 33554432 < 4294967296 := or_lt32 (by omega) (by omega)
  have q2 : (a * 2147483648 ||| m * 33554432) ||| c * 256 < 4294967296 := or_lt32 q1 (by omega)
  have q3 : ((a * 2147483648 ||| m * 33554432) ||| c * 256) ||| e * 128 < 4294967296 := or_lt32 q2 (by omega)
  have hl := layN_lt 99 1 0 0 s t (by decide) (by decide) (by decide) (by decide) hs ht
  have el := layE_nat 99 1 0 0 s t (by decide) (by decide) (by decide) (by decide) hs ht
  obtain ⟨e0, e1, e2, e3, e4, e5⟩ := layN_fields 99 1 0 0 s t (by decide) (by decide) (by decide) (by decide) hs ht
  have hE : encE (6, 0, (s : Int), (t : Int), n, 0, 4) = (((layN 99 1 0 0 s t ||| (((a * 2147483648 ||| m * 33554432) ||| c * 256) ||| e * 128) : Nat) : Int), true) := by
    have h := enc_branch 1 (by decide) (by decide) 0 (s : Int) (t : Int) n 0 4
    rw [hsp, show layE 99 ((1 : Nat) : Int) 0 0 (s : Int) (t : Int) = _ from el, or32 _ _ hl q3] at h
    exact h
  generalize layN 99 1 0 0 s t = L at *
  obtain ⟨s1, s2, s3, s4⟩ := sub_fld L
  rw [e1] at s1 s2
  rw [e5] at s3 s4
  obtain ⟨W, hW⟩ : ∃ W, W = L ||| (((a * 2147483648 ||| m * 33554432) ||| c * 256) ||| e * 128) := ⟨_, rfl⟩
  rw [← hW] at hE
  have f0 : fld W 0 7 = 99 := by
    rw [hW]; simp only [fld_or]
    rw [e0, show fld (a * 2147483648) 0 7 = 0 by unfold fld; omega, show fld (m * 33554432) 0 7 = 0 by unfold fld; omega, show fld (c * 256) 0 7 = 0 by unfold fld; omega, show fld (e * 128) 0 7 = 0 by unfold fld; omega]; simp
  have f1 : fld W 7 1 = e := by
    rw [hW]; simp only [fld_or]
    rw [s1, show fld (a * 2147483648) 7 1 = 0 by unfold fld; omega, show fld (m * 33554432) 7 1 = 0 by unfold fld; omega, show fld (c * 256) 7 1 = 0 by unfold fld; omega, show fld (e * 128) 7 1 = e by unfold fld; omega]; simp
  have f2 : fld W 8 4 = c := by
    rw [hW]; simp only [fld_or]
    rw [s2, show fld (a * 2147483648) 8 4 = 0 by unfold fld; omega, show fld (m * 33554432) 8 4 = 0 by unfold fld; omega, show fld (c * 256) 8 4 = c by unfold fld; omega, show fld (e * 128) 8 4 = 0 by unfold fld; omega]; simp
  have f3 : fld W 12 3 = 1 := by
    rw [hW]; simp only [fld_or]
    rw [e2, show fld (a * 2147483648) 12 3 = 0 by unfold fld; omega, show fld (m * 33554432) 12 3 = 0 by unfold fld; omega, show fld (c * 256) 12 3 = 0 by unfold fld; omega, show fld (e * 128) 12 3 = 0 by unfold fld; omega]; simp
  have f4 : fld W 15 5 = s := by
    rw [hW]; simp only [fld_or]
    rw [e3, show fld (a * 2147483648) 15 5 = 0 by unfold fld; omega, show fld (m * 33554432) 15 5 = 0 by unfold fld; omega, show fld (c * 256) 15 5 = 0 by unfold fld; omega, show fld (e * 128) 15 5 = 0 by unfold fld; omega]; simp
  have f5 : fld W 20 5 = t := by
    rw [hW]; simp only [fld_or]
    rw [e4, show fld (a * 2147483648) 20 5 = 0 by unfold fld; omega, show fld (m * 33554432) 20 5 = 0 by unfold fld; omega, show fld (c * 256) 20 5 = 0 by unfold fld; omega, show fld (e * 128) 20 5 = 0 by unfold fld; omega]; simp
  have f6 : fld W 25 6 = m := by
    rw [hW]; simp only [fld_or]
    rw [s3, show fld (a * 2147483648) 25 6 = 0 by unfold fld; omega, show fld (m * 33554432) 25 6 = m by unfold fld; omega, show fld (c * 256) 25 6 = 0 by unfold fld; omega, show fld (e * 128) 25 6 = 0 by unfold fld; omega]; simp
  have f7 : fld W 31 1 = a := by
    rw [hW]; simp only [fld_or]
    rw [s4, show fld (a * 2147483648) 31 1 = a by unfold fld; omega, show fld (m * 33554432) 31 1 = 0 by unfold fld; omega, show fld (c * 256) 31 1 = 0 by unfold fld; omega, show fld (e * 128) 31 1 = 0 by unfold fld; omega]; simp
  clear hW q1 q2 q3 hsp hl el e0 e1 e2 e3 e4 e5 s1 s2 s3 s4
  have hk : kindP W = (6, 0, (s : Int), (t : Int), sg (a * 4096 + e * 2048 + m * 32 + c * 2) 13, 0, 0) := by
    unfold kindP bP
    rw [f0, f1, f2, f3, f4, f5, f6, f7]
    rfl
  refine sound_b hE (by unfold decP; rw [hk]; exact size4_some (show (6 : Int) ≠ 0 by decide)) (Iff.trans ?_ hb)
  have hsg : sg (a * 4096 + e * 2048 + m * 32 + c * 2) 13 = n ↔ (n % 2 = 0 ∧ -4096 ≤ n ∧ n < 4096) := by
    unfold sg
    split <;> constructor <;> intro h <;> simp at * <;> omega
  rw [← hsg]
  simp [Prod.ext_iff]
end Go.Proofs.Ytnopppamfleniaa.Ins
