/- What encode answers for each kind of instruction that a word has: that word, but of fences. Plain Lean. -/
import Derived.Test.YtgefhoikpjiamaaEncF
import Derived.Test.YtgefhoikpjiamaaEncP
namespace Go.Proofs.Ytgefhoikpjiamaa.Ins
open Go Go.RowKit
open Go.Proofs.Ytgefhoikpjiamaa.Bv
set_option linter.unusedVariables false
theorem wrapc {n : Int} (h0 : 0 ≤ n) (h1 : n < 9223372036854775808) : wrap64 n = n := wrap64_in (by omega) (by omega)
theorem and_lt (x : Nat) (k : Nat) (hk : k ≤ 62) (hx : x < 2 ^ k) : Go.bits .and .i64 (x : Int) ((2 ^ k - 1 : Nat) : Int) = (x : Int) := by
  rw [and64 _ k hk, Int.emod_eq_of_lt (by omega) (by omega)]
theorem layE_nat (o f3 f7 d s t : Nat) (ho : o < 128) (h3 : f3 < 8) (h7 : f7 < 128) (hd : d < 32) (hs : s < 32) (ht : t < 32) : layE o f3 f7 d s t = (layN o f3 f7 d s t : Nat) := by
  have e7 : Go.bits .and .i64 (f7 : Int) 127 = f7 := and_lt f7 7 (by decide) h7
  have ed : Go.bits .and .i64 (d : Int) 31 = d := and_lt d 5 (by decide) hd
  have es : Go.bits .and .i64 (s : Int) 31 = s := and_lt s 5 (by decide) hs
  have et : Go.bits .and .i64 (t : Int) 31 = t := and_lt t 5 (by decide) ht
  have c7 : (f7 : Int) * 33554432 = ((f7 * 33554432 : Nat) : Int) := by omega
  have ct : (t : Int) * 1048576 = ((t * 1048576 : Nat) : Int) := by omega
  have cs : (s : Int) * 32768 = ((s * 32768 : Nat) : Int) := by omega
  have c3 : (f3 : Int) * 4096 = ((f3 * 4096 : Nat) : Int) := by omega
  have cd : (d : Int) * 128 = ((d * 128 : Nat) : Int) := by omega
  have b1 : f7 * 33554432 ||| t * 1048576 < 4294967296 := or_lt32 (by omega) (by omega)
  have b2 : (f7 * 33554432 ||| t * 1048576) ||| s * 32768 < 4294967296 := or_lt32 b1 (by omega)
  have b3 : ((f7 * 33554432 ||| t * 1048576) ||| s * 32768) ||| f3 * 4096 < 4294967296 := or_lt32 b2 (by omega)
  have b4 : (((f7 * 33554432 ||| t * 1048576) ||| s * 32768) ||| f3 * 4096) ||| d * 128 < 4294967296 := or_lt32 b3 (by omega)
  have b5 := layN_lt o f3 f7 d s t ho h3 h7 hd hs ht
  unfold layE
  rw [e7, ed, es, et, wrapc (by omega) (by omega), wrapc (by omega) (by omega), wrapc (by omega) (by omega), wrapc (by omega) (by omega), wrapc (by omega) (by omega), c7, ct, cs, c3, cd,
    or64 _ _ (by omega) (by omega), or64 _ _ (by omega) (by omega), or64 _ _ (by omega) (by omega), or64 _ _ (by omega) (by omega), or64 _ _ (by omega) (by omega)]
  unfold layN at b5 ⊢
  omega
theorem nE_sg (m : Nat) (hm : m < 4096) : nE (sg m 12) = ((m * 1048576 : Nat) : Int) := by
  have e : Go.bits .and .i64 (sg m 12) 4095 = (m : Int) := by
    rw [show (4095 : Int) = ((2 ^ 12 - 1 : Nat) : Int) by decide, and64 _ 12 (by decide)]
    unfold sg
    split <;> simp <;> omega
  unfold nE
  rw [e, wrapc (by omega) (by omega)]
  omega
theorem or32 (a b : Nat) (ha : a < 4294967296) (hb : b < 4294967296) : Go.bits .or .u32 (a : Int) (b : Int) = ((a ||| b : Nat) : Int) := u32_or_nat a b ha hb
/-! What encode answers at each operator. -/
theorem enc_load (f : Nat) (hf : f < 8) (h : ldT f ≠ 0) (d s t n r z : Int) : encE (ldT f, d, s, t, n, r, z) = (Go.bits .or .u32 (layE 3 (f : Int) 0 d s 0) (nE n), true) := by
  rcases f3_cases f hf with rfl | rfl | rfl | rfl | rfl | rfl | rfl | rfl
  all_goals first | exact absurd rfl h | kernel_rfl
theorem enc_plain (f : Nat) (hf : f < 8) (h : piT f ≠ 0) (d s t n r z : Int) : encE (piT f, d, s, t, n, r, z) = (Go.bits .or .u32 (layE 19 (f : Int) 0 d s 0) (nE n), true) := by
  rcases f3_cases f hf with rfl | rfl | rfl | rfl | rfl | rfl | rfl | rfl
  all_goals first | exact absurd rfl h | kernel_rfl
theorem enc_jalr (d s t n r z : Int) : encE (4, d, s, t, n, r, z) = (Go.bits .or .u32 (layE 103 0 0 d s 0) (nE n), true) := by kernel_rfl
theorem enc_addiw (d s t n r z : Int) : encE (41, d, s, t, n, r, z) = (Go.bits .or .u32 (layE 27 0 0 d s 0) (nE n), true) := by kernel_rfl
theorem enc_branch (f : Nat) (hf : f < 8) (h : brT f ≠ 0) (d s t n r z : Int) : encE (brT f, d, s, t, n, r, z) = (Go.bits .or .u32 (layE 99 (f : Int) 0 0 s t) (splitBE n), true) := by
  rcases f3_cases f hf with rfl | rfl | rfl | rfl | rfl | rfl | rfl | rfl
  all_goals first | exact absurd rfl h | kernel_rfl
theorem enc_store (f : Nat) (hf : f < 8) (h : stT f ≠ 0) (d s t n r z : Int) : encE (stT f, d, s, t, n, r, z) = (layE 35 (f : Int) (Go.bits .and .i64 (n / 32) 127) (Go.bits .and .i64 n 31) s t, true) := by
  rcases f3_cases f hf with rfl | rfl | rfl | rfl | rfl | rfl | rfl | rfl
  all_goals first | exact absurd rfl h | kernel_rfl
theorem enc_28 (d s t n r z : Int) : encE (28, d, s, t, n, r, z) = (shW 19 1 0 d s n 63, true) := by kernel_rfl
theorem enc_29 (d s t n r z : Int) : encE (29, d, s, t, n, r, z) = (shW 19 5 0 d s n 63, true) := by kernel_rfl
theorem enc_30 (d s t n r z : Int) : encE (30, d, s, t, n, r, z) = (shW 19 5 32 d s n 63, true) := by kernel_rfl
theorem enc_42 (d s t n r z : Int) : encE (42, d, s, t, n, r, z) = (shW 27 1 0 d s n 31, true) := by kernel_rfl
theorem enc_43 (d s t n r z : Int) : encE (43, d, s, t, n, r, z) = (shW 27 5 0 d s n 31, true) := by kernel_rfl
theorem enc_44 (d s t n r z : Int) : encE (44, d, s, t, n, r, z) = (shW 27 5 32 d s n 31, true) := by kernel_rfl
theorem enc_reg (g f : Nat) (hf : f < 8) (h : regT g f ≠ 0) (d s t n r z : Int) : encE (regT g f, d, s, t, n, r, z) = (layE 51 (f : Int) (g : Int) d s t, true) := by
  by_cases h0 : g = 0
  · subst h0
    rcases f3_cases f hf with rfl | rfl | rfl | rfl | rfl | rfl | rfl | rfl
    all_goals kernel_rfl
  by_cases h1 : g = 1
  · subst h1
    rcases f3_cases f hf with rfl | rfl | rfl | rfl | rfl | rfl | rfl | rfl
    all_goals kernel_rfl
  by_cases h2 : g = 32 ∧ f = 0
  · obtain ⟨rfl, rfl⟩ := h2
    kernel_rfl
  by_cases h3 : g = 32 ∧ f = 5
  · obtain ⟨rfl, rfl⟩ := h3
    kernel_rfl
  · exact absurd (by unfold regT; rw [if_neg h0, if_neg h1, if_neg h2, if_neg h3]) h
theorem enc_r32 (g f : Nat) (hf : f < 8) (h : r32T g f ≠ 0) (d s t n r z : Int) : encE (r32T g f, d, s, t, n, r, z) = (layE 59 (f : Int) (g : Int) d s t, true) := by
  by_cases h0 : g = 0
  · subst h0
    rcases f3_cases f hf with rfl | rfl | rfl | rfl | rfl | rfl | rfl | rfl
    all_goals first | exact absurd rfl h | kernel_rfl
  by_cases h1 : g = 1
  · subst h1
    rcases f3_cases f hf with rfl | rfl | rfl | rfl | rfl | rfl | rfl | rfl
    all_goals first | exact absurd rfl h | kernel_rfl
  by_cases h2 : g = 32
  · subst h2
    rcases f3_cases f hf with rfl | rfl | rfl | rfl | rfl | rfl | rfl | rfl
    all_goals first | exact absurd rfl h | kernel_rfl
  · exact absurd (by unfold r32T; rw [if_neg h0, if_neg h2, if_neg h1]) h
theorem f5_cases (f5 : Nat) (h : amoT f5 ≠ 0) : f5 = 2 ∨ f5 = 3 ∨ f5 = 1 ∨ f5 = 0 ∨ f5 = 4 ∨ f5 = 12 ∨ f5 = 8 ∨ f5 = 16 ∨ f5 = 20 ∨ f5 = 24 ∨ f5 = 28 := by
  unfold amoT at h
  repeat' split at h
  all_goals first | omega | exact absurd rfl h
theorem enc_amo (f5 f3 : Nat) (h : amoT f5 ≠ 0) (h3 : f3 = 2 ∨ f3 = 3) (d s t n r z : Int) : encE (amoT f5 + (if f3 = 3 then 11 else 0), d, s, t, n, r, z) = (layE 47 (f3 : Int) (Go.bits .or .i64 (wrap64 ((f5 : Int) * 4)) (Go.bits .and .i64 r 3)) d s t, true) := by
  rcases h3 with rfl | rfl
  all_goals
    rcases f5_cases f5 h with rfl | rfl | rfl | rfl | rfl | rfl | rfl | rfl | rfl | rfl | rfl
    all_goals kernel_rfl
theorem enc_lui (d s t n r z : Int) : encE (1, d, s, t, n, r, z) = (Go.bits .or .u32 (Go.bits .or .u32 (Go.bits .andNot .u32 (n % 4294967296) 4095) ((wrap64 ((Go.bits .and .i64 d 31) * 128)) % 4294967296)) 55, true) := by kernel_rfl
theorem enc_auipc (d s t n r z : Int) : encE (2, d, s, t, n, r, z) = (Go.bits .or .u32 (Go.bits .or .u32 (Go.bits .andNot .u32 (n % 4294967296) 4095) ((wrap64 ((Go.bits .and .i64 d 31) * 128)) % 4294967296)) 23, true) := by kernel_rfl
def spJ (a0 : Int) : Int := (Go.bits .or .i64 (Go.bits .or .i64 (Go.bits .or .i64 (wrap64 ((Go.bits .and .i64 (a0 / 1048576) 1) * 2147483648)) (wrap64 ((Go.bits .and .i64 (a0 / 2) 1023) * 2097152))) (wrap64 ((Go.bits .and .i64 (a0 / 2048) 1) * 1048576))) (wrap64 ((Go.bits .and .i64 (a0 / 4096) 255) * 4096))) % 4294967296
theorem enc_jal (d s t n r z : Int) : encE (3, d, s, t, n, r, z) = (Go.bits .or .u32 (Go.bits .or .u32 (spJ n) ((wrap64 ((Go.bits .and .i64 d 31) * 128)) % 4294967296)) 111, true) := by kernel_rfl
theorem enc_fence (d s t n r z : Int) : encE (85, d, s, t, n, r, z) = (267386895, true) ∧ encE (86, d, s, t, n, r, z) = (4111, true) ∧ encE (87, d, s, t, n, r, z) = (115, true) ∧ encE (88, d, s, t, n, r, z) = (1048691, true) := ⟨by kernel_rfl, by kernel_rfl, by kernel_rfl, by kernel_rfl⟩
end Go.Proofs.Ytgefhoikpjiamaa.Ins
