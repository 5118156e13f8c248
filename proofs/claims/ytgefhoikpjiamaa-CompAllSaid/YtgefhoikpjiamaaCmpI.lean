/- The contracts of the document's F, S, pieces, eight and moves, over named worlds. -/
import Derived.Test.YtgefhoikpjiamaaCmpH
namespace Go.Proofs.Ytgefhoikpjiamaa.Cmp
open Go Go.RowKit Go.Proofs.YtgefhoikpjiamaaW.PrintWords Go.Proofs.YtgefhoikpjiamaaW.PrintLast Go.Proofs.YtgefhoikpjiamaaW.PrintMore
open Go.Proofs.Ytgefhoikpjiamaa.Hp Go.Proofs.Ytgefhoikpjiamaa.Bv
attribute [local go_sem] max2_int min2_int max_two min_two max_three min_three max_four min_four
set_option linter.unusedVariables false
set_option linter.unusedSimpArgs false
theorem S_l0 (n w : Nat) (hw : w ≤ 31) (hn : n < 4294967296) : ∀ (d k j : Nat), 1 ≤ j → j + d = w → d < k → CmpB.marionetteref03_S.l0 k (n : Int) (w : Int) ((2 ^ (j - 1) : Nat) : Int) (j : Int) = some (sg n w) := by
  intro d
  induction d with
  | zero =>
    intro k j h1 h2 h3
    obtain ⟨k, rfl⟩ : ∃ m, k = m + 1 := ⟨k - 1, by omega⟩
    have hj : j = w := by omega
    subst hj
    simp only [CmpB.marionetteref03_S.l0]
    rw [if_neg (by omega)]
    have hp : 2 ^ (j - 1) < 4294967296 := Nat.lt_of_le_of_lt (Nat.pow_le_pow_right (n := 2) (by decide) (show j - 1 ≤ 31 by omega)) (by decide)
    have hp2 : 2 ^ j = 2 ^ (j - 1) * 2 := by rw [← Nat.pow_succ]; congr 1; omega
    unfold sg
    rw [hp2]
    generalize 2 ^ (j - 1) = p at *
    by_cases c : n < p
    · rw [if_neg (by omega), if_pos c]
    · rw [if_pos (by omega), if_neg c]
      congr 1
      rw [wrap64_in (n := 2 * (p : Int)) (by omega) (by omega), wrap64_in (by omega) (by omega)]
      omega
  | succ d ih =>
    intro k j h1 h2 h3
    obtain ⟨k, rfl⟩ : ∃ m, k = m + 1 := ⟨k - 1, by omega⟩
    simp only [CmpB.marionetteref03_S.l0]
    rw [if_pos (by omega)]
    have hp : 2 ^ (j - 1) < 4294967296 := Nat.lt_of_le_of_lt (Nat.pow_le_pow_right (n := 2) (by decide) (show j - 1 ≤ 31 by omega)) (by decide)
    have hp2 : 2 ^ (j + 1 - 1) = 2 ^ (j - 1) * 2 := by rw [← Nat.pow_succ]; congr 1; omega
    have e1 : wrap64 (((2 ^ (j - 1) : Nat) : Int) * 2) = ((2 ^ (j + 1 - 1) : Nat) : Int) := by
      rw [hp2]
      generalize 2 ^ (j - 1) = p at *
      rw [wrap64_in (by omega) (by omega)]
      omega
    have e2 : wrap64 ((j : Int) + 1) = ((j + 1 : Nat) : Int) := by rw [wrap64_in (by omega) (by omega)]; omega
    rw [e1, e2]
    exact ih k (j + 1) (by omega) (by omega) (by omega)
theorem S_f (k : Nat) (hk : 32 ≤ k) (n w : Nat) (h1 : 1 ≤ w) (hw : w ≤ 31) (hn : n < 4294967296) : CmpB.marionetteref03_S.f k (n : Int) (w : Int) = some (sg n w) :=
  S_l0 n w hw hn (w - 1) k 1 (Nat.le_refl _) (by omega) (by omega)
theorem S_fr (n w : Nat) (h1 : 1 ≤ w) (hw : w ≤ 31) (hn : n < 4294967296) (W : World) : Calls Try.prog 17 #[.int .i64 (n : Int), .int .i64 (w : Int)] W fun e w' => e = .returned (.int .i64 (sg n w)) ∧ Fr (fun _ => False) W w' :=
  (CmpB.marionetteref03_S.calls 40 _ _ _ W (S_f 40 (by decide) n w h1 hw hn)).mono fun _ _ g => ⟨g.1, Fr.drawn g.2⟩
theorem F_fr (h hi lo : Nat) (hh : h < 65536) (hhi : hi ≤ 15) (hl : lo ≤ hi + 1) (W : World) : Calls Try.prog 15 #[.int .u32 (h : Int), .int .i64 (hi : Int), .int .i64 (lo : Int)] W fun e w' => e = .returned (.int .i64 ((fN h hi lo : Nat) : Int)) ∧ Fr (fun _ => False) W w' :=
  (F_any h hi lo hh hhi hl W).mono fun _ _ g => ⟨g.1, Fr.drawn g.2⟩
theorem reads_blk {W : World} {g : Nat} {t : TypeId} {l : List Int} (hb : Blk W g t (nums .i64 l).toArray) (hl : l.length ≤ 9223372036854775807) : ReadsInt W .i64 (some ⟨g, 0, none⟩) l.length l := by
  refine ⟨rfl, hl, fun _ => ⟨_, rfl, fun j hj => ?_⟩⟩
  rw [add_plain, hb.cell j]
  simp [nums, List.getD_eq_getElem?_getD, hj]
theorem pieces_fr (h : Nat) (hh : h < 65536) (L : List (Nat × Nat)) (hL : ∀ p ∈ L, p.2 ≤ p.1 ∧ p.1 ≤ 15) (z : Nat) (hz : pcLen L + z ≤ 16) (hm : L.length ≤ 16) (g c : Nat) (t : TypeId) (W : World) (hb : Blk W g t (nums .i64 (flat L)).toArray) :
    Calls Try.prog 16 #[.int .u16 (h : Int), .slice (some ⟨g, 0, none⟩) (flat L).length c, .int .i64 (z : Int)] W fun e w' => e = .returned (.int .i64 ((pc h L 0 * 2 ^ z : Nat) : Int)) ∧ Fr (fun _ => False) W w' :=
  (pieces_any h hh L hL z hz hm g c W (reads_blk hb (by rw [flat_length]; omega))).mono fun _ _ g => ⟨g.1, Fr.drawn g.2⟩
theorem pc_lt16 (h : Nat) (L : List (Nat × Nat)) (z : Nat) (hz : pcLen L + z ≤ 16) : pc h L 0 * 2 ^ z < 65536 := by
  have h1 := pc_lt h L 0 0 (by decide)
  rw [Nat.zero_add] at h1
  have h2 : (pc h L 0 + 1) * 2 ^ z ≤ 2 ^ pcLen L * 2 ^ z := Nat.mul_le_mul_right _ h1
  rw [Nat.add_mul, Nat.one_mul, ← Nat.pow_add] at h2
  have h3 : 2 ^ (pcLen L + z) ≤ 2 ^ 16 := Nat.pow_le_pow_right (by decide) hz
  have h4 := Nat.two_pow_pos z
  omega
theorem rsix_lt (h : Nat) : rsix h < 65536 := by
  have g := pc_lt16 h [(12, 12), (6, 2)] 0 (by decide)
  rw [Nat.pow_zero, Nat.mul_one] at g
  exact g
theorem eb1 (h : Nat) : fN h 12 12 < 2 := by unfold fN; omega
theorem eb2 (h : Nat) : fN h 6 5 < 4 := by unfold fN; omega
theorem eem (h : Nat) (hh : h < 65536) : (h : Int) % 4294967296 = (h : Int) := by omega
theorem ee1 (u v : Nat) (b1 : u < 2) (b2 : v < 4) : wrap64 ((wrap64 ((u : Int) * 4)) + (v : Int)) = ((u * 4 + v : Nat) : Int) := by
  rw [wrap64_in (n := (u : Int) * 4) (by omega) (by omega), wrap64_in (by omega) (by omega)]
  omega
theorem ee2 (u v : Nat) (b1 : u < 2) (b2 : v < 4) : CmpB.marionetteref03_one.f ([32, 36, 39, 40, 46, 45] : List Int) ((u * 4 + v : Nat) : Int) = some (opR (u * 4 + v)) := by
  have hq : u * 4 + v = 0 ∨ u * 4 + v = 1 ∨ u * 4 + v = 2 ∨ u * 4 + v = 3 ∨ u * 4 + v = 4 ∨ u * 4 + v = 5 ∨ u * 4 + v = 6 ∨ u * 4 + v = 7 := by omega
  rcases hq with e | e | e | e | e | e | e | e <;> rw [e] <;> rfl
theorem enz {q n : Nat} (h : ¬ q = n) : ¬ ((q : Nat) : Int) = (n : Int) := by omega
theorem eyz {q n : Nat} (h : q = n) : ((q : Nat) : Int) = (n : Int) := by omega
theorem eight_g (k : Nat) (a0 a1 a2 a3 t1 t2 t3 ts t4 : Int) (h1 : CmpB.marionetteref03_F.f k (a0 % 4294967296) 11 10 = some t1) (h2 : CmpB.marionetteref03_F.f k (a0 % 4294967296) 12 12 = some t2) (h3 : CmpB.marionetteref03_F.f k (a0 % 4294967296) 6 5 = some t3)
    (h4 : CmpB.marionetteref03_S.f k a3 6 = some ts) (h5 : CmpB.marionetteref03_one.f ([32, 36, 39, 40, 46, 45] : List Int) (wrap64 ((wrap64 (t2 * 4)) + t3)) = some t4) :
    CmpB.marionetteref03_eight.f k a0 a1 a2 a3 = if t1 = 0 then some (29, a1, a1, 0, a3, 0, 0) else if t1 = 1 then some (30, a1, a1, 0, a3, 0, 0) else if t1 = 2 then some (27, a1, a1, 0, ts, 0, 0) else if t4 = 0 then some (0, 0, 0, 0, 0, 0, 0) else some (t4, a1, a1, a2, 0, 0, 0) := by
  unfold CmpB.marionetteref03_eight.f
  rw [h1, h2, h3, h4]
  simp only [Option.bind_some]
  rw [h5]
  rfl
theorem F_fk (k : Nat) (hk : 20 ≤ k) (h hi lo : Nat) (hh : h < 65536) (hhi : hi ≤ 15) (hl : lo ≤ hi + 1) : CmpB.marionetteref03_F.f k (h : Int) (hi : Int) (lo : Int) = some ((fN h hi lo : Nat) : Int) := by
  unfold CmpB.marionetteref03_F.f
  have g := F_l0 h lo hi hh hhi (hi + 1 - lo) k (Nat.le_refl _) hl (by omega)
  have e : lo + (hi + 1 - lo) = hi + 1 := by omega
  rw [e, fN_top] at g
  have e2 : (lo : Int) + ((hi + 1 - lo : Nat) : Int) - 1 = (hi : Int) := by omega
  rw [e2] at g
  exact g
theorem eight_f (k : Nat) (hk32 : 32 ≤ k) (h : Nat) (hh : h < 65536) : CmpB.marionetteref03_eight.f k (h : Int) ((fN h 9 7 + 8 : Nat) : Int) ((fN h 4 2 + 8 : Nat) : Int) ((rsix h : Nat) : Int) = some (reight h) := by
  have hk : 20 ≤ k := by omega
  have em := eem h hh
  have h1 : CmpB.marionetteref03_F.f k ((h : Int) % 4294967296) 11 10 = some ((fN h 11 10 : Nat) : Int) := em.symm ▸ F_fk k hk h 11 10 hh (by decide) (by decide)
  have h2 : CmpB.marionetteref03_F.f k ((h : Int) % 4294967296) 12 12 = some ((fN h 12 12 : Nat) : Int) := em.symm ▸ F_fk k hk h 12 12 hh (by decide) (by decide)
  have h3 : CmpB.marionetteref03_F.f k ((h : Int) % 4294967296) 6 5 = some ((fN h 6 5 : Nat) : Int) := em.symm ▸ F_fk k hk h 6 5 hh (by decide) (by decide)
  have hs : CmpB.marionetteref03_S.f k ((rsix h : Nat) : Int) 6 = some (rshort h) := S_f k hk32 (rsix h) 6 (by decide) (by decide) (by have := rsix_lt h; omega)
  have h5 := ee2 (fN h 12 12) (fN h 6 5) (eb1 h) (eb2 h)
  rw [← ee1 (fN h 12 12) (fN h 6 5) (eb1 h) (eb2 h)] at h5
  rw [eight_g k _ _ _ _ _ _ _ _ _ h1 h2 h3 hs h5]
  unfold reight
  clear h1 h2 h3 hs h5 em
  generalize fN h 11 10 = q
  generalize fN h 12 12 = u at *
  generalize fN h 6 5 = v at *
  by_cases k0 : q = 0
  · rw [if_pos (show ((q : Nat) : Int) = 0 by omega), if_pos k0]
  rw [if_neg (show ¬ ((q : Nat) : Int) = 0 by omega), if_neg k0]
  by_cases k1 : q = 1
  · rw [if_pos (show ((q : Nat) : Int) = 1 by omega), if_pos k1]
  rw [if_neg (show ¬ ((q : Nat) : Int) = 1 by omega), if_neg k1]
  by_cases k2 : q = 2
  · rw [if_pos (show ((q : Nat) : Int) = 2 by omega), if_pos k2]
  rw [if_neg (show ¬ ((q : Nat) : Int) = 2 by omega), if_neg k2]
  by_cases c : opR (u * 4 + v) = 0
  · rw [if_pos c, if_pos c]; rfl
  · rw [if_neg c, if_neg c]
theorem eight_fr (h : Nat) (hh : h < 65536) (W : World) : Calls Try.prog 18 #[.int .u16 (h : Int), .int .i64 ((fN h 9 7 + 8 : Nat) : Int), .int .i64 ((fN h 4 2 + 8 : Nat) : Int), .int .i64 ((rsix h : Nat) : Int)] W fun e w' => e = .returned (i7 (reight h)) ∧ Fr (fun _ => False) W w' :=
  (CmpB.marionetteref03_eight.calls 40 _ _ _ _ _ _ _ _ _ _ _ W (eight_f 40 (by decide) h hh)).mono fun _ _ g => ⟨g.1, Fr.of_below g.2⟩
theorem rmoves_f (up rd rs2 : Nat) : CmpB.marionetteref03_moves.f 3 (up : Int) (rd : Int) (rs2 : Int) = some (rmoves up rd rs2) := by
  unfold CmpB.marionetteref03_moves.f rmoves
  by_cases u : up = 0
  · rw [if_pos (show ((up : Nat) : Int) = 0 by omega), if_pos u]
    by_cases s : rs2 = 0
    · have t : (((rs2 : Nat) : Int) == 0) = true := beq_iff_eq.2 (by omega)
      rw [t, if_pos s]
      simp only [CmpB.marionetteref03_moves.j0, if_true]
      by_cases r : rd = 0
      · rw [if_pos (show ((rd : Nat) : Int) = 0 by omega), if_pos r]; rfl
      · rw [if_neg (show ¬ ((rd : Nat) : Int) = 0 by omega), if_neg r]
    · have t : (((rs2 : Nat) : Int) == 0) = false := beq_eq_false_iff_ne.2 (by omega)
      rw [t, if_neg s]
      simp only [CmpB.marionetteref03_moves.j0, Bool.false_eq_true, if_false]
      rw [if_pos (show ((up : Nat) : Int) = 0 by omega)]
  · rw [if_neg (show ¬ ((up : Nat) : Int) = 0 by omega), if_neg u]
    simp only [CmpB.marionetteref03_moves.j0, Bool.false_eq_true, if_false]
    rw [if_neg (show ¬ ((up : Nat) : Int) = 0 by omega)]
    by_cases r : rd = 0
    · rw [if_pos (show ((rd : Nat) : Int) = 0 by omega)]
      by_cases s : rs2 = 0
      · have t : (((rs2 : Nat) : Int) == 0) = true := beq_iff_eq.2 (by omega)
        rw [t, if_pos s, if_pos r]
        simp only [CmpB.marionetteref03_moves.j1, if_true]
      · have t : (((rs2 : Nat) : Int) == 0) = false := beq_eq_false_iff_ne.2 (by omega)
        rw [t, if_neg s]
        simp only [CmpB.marionetteref03_moves.j1, Bool.false_eq_true, if_false]
        rw [if_neg (show ¬ ((rs2 : Nat) : Int) = 0 by omega)]
    · rw [if_neg (show ¬ ((rd : Nat) : Int) = 0 by omega)]
      simp only [CmpB.marionetteref03_moves.j1, Bool.false_eq_true, if_false]
      by_cases s : rs2 = 0
      · rw [if_pos (show ((rs2 : Nat) : Int) = 0 by omega), if_pos s, if_neg r]
      · rw [if_neg (show ¬ ((rs2 : Nat) : Int) = 0 by omega), if_neg s]
theorem rmoves_fr (up rd rs2 : Nat) (W : World) : Calls Try.prog 19 #[.int .i64 (up : Int), .int .i64 (rd : Int), .int .i64 (rs2 : Int)] W fun e w' => e = .returned (i7 (rmoves up rd rs2)) ∧ Fr (fun _ => False) W w' :=
  (CmpB.marionetteref03_moves.calls 3 _ _ _ _ _ _ _ _ _ _ W (rmoves_f up rd rs2)).mono fun _ _ g => ⟨g.1, Fr.of_below g.2⟩
end Go.Proofs.Ytgefhoikpjiamaa.Cmp
