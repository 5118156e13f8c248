/- The contracts of the document's F, S and pieces: for every list of pieces of at most 16 bits in all. -/
import Derived.Test.YtgefhoikpjiamaaCmpE
import Derived.LoopTactic
namespace Go.Proofs.Ytgefhoikpjiamaa.Cmp
open Go Go.RowKit Go.Proofs.YtgefhoikpjiamaaW.PrintWords Go.Proofs.YtgefhoikpjiamaaW.PrintLast Go.Proofs.YtgefhoikpjiamaaW.PrintMore
open Go.Proofs.Ytgefhoikpjiamaa.Hp Go.Proofs.Ytgefhoikpjiamaa.Bv
attribute [local go_sem] max2_int min2_int max_two min_two max_three min_three max_four min_four
set_option linter.unusedVariables false
set_option linter.unusedSimpArgs false
theorem half_step (q m : Nat) : q / 2 % m * 2 + q % 2 = q % (2 * m) := by
  rw [Nat.mod_mul]
  omega
/-- One bit more. -/
theorem fN_step (h hi b : Nat) (hb : b ≤ hi) : fN h hi (b + 1) * 2 + h / 2 ^ b % 2 = fN h hi b := by
  unfold fN
  have e : hi + 1 - b = (hi + 1 - (b + 1)) + 1 := by omega
  rw [e, Nat.pow_succ, Nat.pow_succ, Nat.mul_comm (2 ^ (hi + 1 - (b + 1))) 2, ← Nat.div_div_eq_div_mul]
  exact half_step (h / 2 ^ b) (2 ^ (hi + 1 - (b + 1)))
theorem fN_top (h hi : Nat) : fN h hi (hi + 1) = 0 := by
  unfold fN
  rw [Nat.sub_self, Nat.pow_zero, Nat.mod_one]
theorem fN_lt (h hi lo : Nat) (hl : hi + 1 - lo ≤ 16) : fN h hi lo < 65536 := by
  unfold fN
  exact Nat.lt_of_lt_of_le (Nat.mod_lt _ (Nat.two_pow_pos _)) (Nat.pow_le_pow_right (n := 2) (by decide) hl)
/-- The document's F, from bit hi down to lo. -/
theorem F_l0 (h lo hi : Nat) (hh : h < 65536) (hhi : hi ≤ 15) : ∀ (d k : Nat), d ≤ hi + 1 - lo → lo ≤ hi + 1 → d < k →
    CmpB.marionetteref03_F.l0 k (h : Int) (lo : Int) ((fN h hi (lo + d) : Nat) : Int) ((lo : Int) + d - 1) = some ((fN h hi lo : Nat) : Int) := by
  intro d
  induction d with
  | zero =>
    intro k h0 h1 h2
    obtain ⟨k, rfl⟩ : ∃ m, k = m + 1 := ⟨k - 1, by omega⟩
    simp only [CmpB.marionetteref03_F.l0]
    rw [if_neg (by omega)]
    rfl
  | succ d ih =>
    intro k h0 h1 h2
    obtain ⟨k, rfl⟩ : ∃ m, k = m + 1 := ⟨k - 1, by omega⟩
    have hb := fN_lt h hi (lo + (d + 1)) (by omega)
    have hx : (lo : Int) + ((d + 1 : Nat) : Int) - 1 = ((lo + d : Nat) : Int) := by omega
    have e0 : IntKind.u64.wrap ((lo + d : Nat) : Int) = ((lo + d : Nat) : Int) := wrap_in (by omega) (by omega)
    have e1 : shr .u32 (h : Int) ((lo + d : Nat) : Int) = ((h / 2 ^ (lo + d) : Nat) : Int) := by
      show (h : Int) / 2 ^ min (((lo + d : Nat) : Int).toNat) 32 = _
      rw [Int.toNat_natCast, Nat.min_eq_left (by omega)]
      simp
    have hq : h / 2 ^ (lo + d) < 65536 := Nat.lt_of_le_of_lt (Nat.div_le_self _ _) hh
    have e2 : Int.tmod ((h / 2 ^ (lo + d) : Nat) : Int) 2 = ((h / 2 ^ (lo + d) % 2 : Nat) : Int) := by
      rw [Int.tmod_eq_emod_of_nonneg (Int.natCast_nonneg _)]
      rfl
    have e3 := fN_step h hi (lo + d) (by omega)
    have hb2 := fN_lt h hi (lo + d) (by omega)
    simp only [CmpB.marionetteref03_F.l0]
    rw [hx, if_pos (by omega), e0, if_pos (by omega), e1, e2]
    have e3 : fN h hi (lo + (d + 1)) * 2 + h / 2 ^ (lo + d) % 2 = fN h hi (lo + d) := e3
    generalize h / 2 ^ (lo + d) % 2 = r at *
    generalize fN h hi (lo + (d + 1)) = p at *
    generalize hy : fN h hi (lo + d) = q at *
    have e4 : wrap64 (wrap64 ((p : Int) * 2) + wrap64 (r : Int)) = (q : Int) := by
      rw [wrap64_in (n := (p : Int) * 2) (by omega) (by omega), wrap64_in (n := (r : Int)) (by omega) (by omega), wrap64_in (by omega) (by omega)]
      omega
    have e5 : wrap64 (((lo + d : Nat) : Int) - 1) = (lo : Int) + d - 1 := by
      rw [wrap64_in (by omega) (by omega)]
      omega
    rw [e4, e5]
    exact ih k (by omega) h1 (by omega)
theorem F_f (h hi lo : Nat) (hh : h < 65536) (hhi : hi ≤ 15) (hl : lo ≤ hi + 1) : CmpB.marionetteref03_F.f 20 (h : Int) (hi : Int) (lo : Int) = some ((fN h hi lo : Nat) : Int) := by
  unfold CmpB.marionetteref03_F.f
  have g := F_l0 h lo hi hh hhi (hi + 1 - lo) 20 (Nat.le_refl _) hl (by omega)
  have e : lo + (hi + 1 - lo) = hi + 1 := by omega
  rw [e, fN_top] at g
  have e2 : (lo : Int) + ((hi + 1 - lo : Nat) : Int) - 1 = (hi : Int) := by omega
  rw [e2] at g
  exact g
theorem F_any (h hi lo : Nat) (hh : h < 65536) (hhi : hi ≤ 15) (hl : lo ≤ hi + 1) (w : World) : Calls Try.prog 15 #[.int .u32 (h : Int), .int .i64 (hi : Int), .int .i64 (lo : Int)] w fun e w' => e = .returned (.int .i64 ((fN h hi lo : Nat) : Int)) ∧ Drawn0 w w' :=
  CmpB.marionetteref03_F.calls 20 _ _ _ _ w (F_f h hi lo hh hhi hl)
/-- The pieces as the law's list has them. -/
def flat (L : List (Nat × Nat)) : List Int := L.flatMap fun p => [(p.1 : Int), (p.2 : Int)]
def pcLen : List (Nat × Nat) → Nat
  | [] => 0
  | p :: r => (p.1 + 1 - p.2) + pcLen r
theorem flat_length (L : List (Nat × Nat)) : (flat L).length = 2 * L.length := by
  induction L with
  | nil => rfl
  | cons p r ih =>
    show ([(p.1 : Int), (p.2 : Int)] ++ flat r).length = _
    rw [List.length_append, ih]
    simp
    omega
theorem flat_at (L : List (Nat × Nat)) : ∀ (j : Nat) (p : Nat × Nat), L[j]? = some p → (flat L).getD (2 * j) 0 = (p.1 : Int) ∧ (flat L).getD (2 * j + 1) 0 = (p.2 : Int) := by
  induction L with
  | nil => intro j p h; simp at h
  | cons q r ih =>
    intro j p h
    have e : flat (q :: r) = (q.1 : Int) :: (q.2 : Int) :: flat r := rfl
    cases j with
    | zero =>
      simp at h
      subst h
      exact ⟨rfl, rfl⟩
    | succ j =>
      have h := ih j p (by simpa using h)
      rw [e]
      have e1 : 2 * (j + 1) = (2 * j + 1) + 1 := by omega
      have e2 : 2 * (j + 1) + 1 = (2 * j + 1 + 1) + 1 := by omega
      rw [e2, e1]
      exact h
theorem pc_snoc (h : Nat) (L : List (Nat × Nat)) (p : Nat × Nat) : ∀ n, pc h (L ++ [p]) n = pc h L n * 2 ^ (p.1 + 1 - p.2) + fN h p.1 p.2 := by
  induction L with
  | nil => intro n; rfl
  | cons q r ih => intro n; exact ih _
theorem pcLen_snoc (L : List (Nat × Nat)) (p : Nat × Nat) : pcLen (L ++ [p]) = pcLen L + (p.1 + 1 - p.2) := by
  induction L with
  | nil => simp [pcLen]
  | cons q r ih => simp only [List.cons_append, pcLen, ih]; omega
theorem pcLen_take (L : List (Nat × Nat)) : ∀ j, pcLen (L.take j) ≤ pcLen L := by
  induction L with
  | nil => intro j; simp [pcLen]
  | cons q r ih =>
    intro j
    cases j with
    | zero => simp [pcLen]
    | succ j => simp only [List.take_succ_cons, pcLen]; have := ih j; omega
theorem pc_lt (h : Nat) (L : List (Nat × Nat)) : ∀ n m, n < 2 ^ m → pc h L n < 2 ^ (m + pcLen L) := by
  induction L with
  | nil => intro n m hn; exact hn
  | cons p r ih =>
    intro n m hn
    show pc h r (n * 2 ^ (p.1 + 1 - p.2) + fN h p.1 p.2) < _
    have hf : fN h p.1 p.2 < 2 ^ (p.1 + 1 - p.2) := Nat.mod_lt _ (Nat.two_pow_pos _)
    have h1 : n * 2 ^ (p.1 + 1 - p.2) + fN h p.1 p.2 < 2 ^ (m + (p.1 + 1 - p.2)) := by
      rw [Nat.pow_add]
      have : (n + 1) * 2 ^ (p.1 + 1 - p.2) ≤ 2 ^ m * 2 ^ (p.1 + 1 - p.2) := Nat.mul_le_mul_right _ hn
      rw [Nat.add_mul, Nat.one_mul] at this
      omega
    have := ih _ _ h1
    simp only [pcLen]
    rw [Nat.add_assoc] at this
    exact this
end Go.Proofs.Ytgefhoikpjiamaa.Cmp
