/- The document's atomic and withImm as its Decode calls them: what they leave in the instruction. -/
import Derived.Test.YtnopppamfleniaaInsR
import Derived.Test.YtnopppamfleniaaInsE
namespace Go.Proofs.Ytnopppamfleniaa.Ins
open Go Go.RowKit Go.Proofs.YtnopppamfleniaaW.PrintWords Go.Proofs.YtnopppamfleniaaW.PrintLast Go.Proofs.YtnopppamfleniaaW.PrintMore
open Go.Proofs.Ytnopppamfleniaa.Hp Go.Proofs.Ytnopppamfleniaa.Bv
set_option linter.unusedVariables false
set_option linter.unusedSimpArgs false
set_option maxRecDepth 10000 in
theorem at_f1 (f5 f3 r2 : Nat) (h5 : f5 < 32) (h3 : f3 < 8) (hn : f5 ≠ 2) (x1 x2 x4 x5 x6 : Int) : InsE.marionetteref03_atomic.f 40 (f5 : Int) (f3 : Int) 0 x1 x2 (r2 : Int) x4 x5 x6 = some (amoR f5 r2 f3, x1, x2, (r2 : Int), x4, x5, x6) := by
  have q3 : f3 = 0 ∨ f3 = 1 ∨ f3 = 2 ∨ f3 = 3 ∨ f3 = 4 ∨ f3 = 5 ∨ f3 = 6 ∨ f3 = 7 := by omega
  have q5 : f5 = 0 ∨ f5 = 1 ∨ f5 = 2 ∨ f5 = 3 ∨ f5 = 4 ∨ f5 = 5 ∨ f5 = 6 ∨ f5 = 7 ∨ f5 = 8 ∨ f5 = 9 ∨ f5 = 10 ∨ f5 = 11 ∨ f5 = 12 ∨ f5 = 13 ∨ f5 = 14 ∨ f5 = 15 ∨ f5 = 16 ∨ f5 = 17 ∨ f5 = 18 ∨ f5 = 19 ∨ f5 = 20 ∨ f5 = 21 ∨ f5 = 22 ∨ f5 = 23 ∨ f5 = 24 ∨ f5 = 25 ∨ f5 = 26 ∨ f5 = 27 ∨ f5 = 28 ∨ f5 = 29 ∨ f5 = 30 ∨ f5 = 31 := by omega
  rcases q5 with rfl | rfl | rfl | rfl | rfl | rfl | rfl | rfl | rfl | rfl | rfl | rfl | rfl | rfl | rfl | rfl | rfl | rfl | rfl | rfl | rfl | rfl | rfl | rfl | rfl | rfl | rfl | rfl | rfl | rfl | rfl | rfl
  · rcases q3 with rfl | rfl | rfl | rfl | rfl | rfl | rfl | rfl <;> (show _ = _; kernel_rfl)
  · rcases q3 with rfl | rfl | rfl | rfl | rfl | rfl | rfl | rfl <;> (show _ = _; kernel_rfl)
  · exact absurd rfl hn
  · rcases q3 with rfl | rfl | rfl | rfl | rfl | rfl | rfl | rfl <;> (show _ = _; kernel_rfl)
  · rcases q3 with rfl | rfl | rfl | rfl | rfl | rfl | rfl | rfl <;> (show _ = _; kernel_rfl)
  · rcases q3 with rfl | rfl | rfl | rfl | rfl | rfl | rfl | rfl <;> (show _ = _; kernel_rfl)
  · rcases q3 with rfl | rfl | rfl | rfl | rfl | rfl | rfl | rfl <;> (show _ = _; kernel_rfl)
  · rcases q3 with rfl | rfl | rfl | rfl | rfl | rfl | rfl | rfl <;> (show _ = _; kernel_rfl)
  · rcases q3 with rfl | rfl | rfl | rfl | rfl | rfl | rfl | rfl <;> (show _ = _; kernel_rfl)
  · rcases q3 with rfl | rfl | rfl | rfl | rfl | rfl | rfl | rfl <;> (show _ = _; kernel_rfl)
  · rcases q3 with rfl | rfl | rfl | rfl | rfl | rfl | rfl | rfl <;> (show _ = _; kernel_rfl)
  · rcases q3 with rfl | rfl | rfl | rfl | rfl | rfl | rfl | rfl <;> (show _ = _; kernel_rfl)
  · rcases q3 with rfl | rfl | rfl | rfl | rfl | rfl | rfl | rfl <;> (show _ = _; kernel_rfl)
  · rcases q3 with rfl | rfl | rfl | rfl | rfl | rfl | rfl | rfl <;> (show _ = _; kernel_rfl)
  · rcases q3 with rfl | rfl | rfl | rfl | rfl | rfl | rfl | rfl <;> (show _ = _; kernel_rfl)
  · rcases q3 with rfl | rfl | rfl | rfl | rfl | rfl | rfl | rfl <;> (show _ = _; kernel_rfl)
  · rcases q3 with rfl | rfl | rfl | rfl | rfl | rfl | rfl | rfl <;> (show _ = _; kernel_rfl)
  · rcases q3 with rfl | rfl | rfl | rfl | rfl | rfl | rfl | rfl <;> (show _ = _; kernel_rfl)
  · rcases q3 with rfl | rfl | rfl | rfl | rfl | rfl | rfl | rfl <;> (show _ = _; kernel_rfl)
  · rcases q3 with rfl | rfl | rfl | rfl | rfl | rfl | rfl | rfl <;> (show _ = _; kernel_rfl)
  · rcases q3 with rfl | rfl | rfl | rfl | rfl | rfl | rfl | rfl <;> (show _ = _; kernel_rfl)
  · rcases q3 with rfl | rfl | rfl | rfl | rfl | rfl | rfl | rfl <;> (show _ = _; kernel_rfl)
  · rcases q3 with rfl | rfl | rfl | rfl | rfl | rfl | rfl | rfl <;> (show _ = _; kernel_rfl)
  · rcases q3 with rfl | rfl | rfl | rfl | rfl | rfl | rfl | rfl <;> (show _ = _; kernel_rfl)
  · rcases q3 with rfl | rfl | rfl | rfl | rfl | rfl | rfl | rfl <;> (show _ = _; kernel_rfl)
  · rcases q3 with rfl | rfl | rfl | rfl | rfl | rfl | rfl | rfl <;> (show _ = _; kernel_rfl)
  · rcases q3 with rfl | rfl | rfl | rfl | rfl | rfl | rfl | rfl <;> (show _ = _; kernel_rfl)
  · rcases q3 with rfl | rfl | rfl | rfl | rfl | rfl | rfl | rfl <;> (show _ = _; kernel_rfl)
  · rcases q3 with rfl | rfl | rfl | rfl | rfl | rfl | rfl | rfl <;> (show _ = _; kernel_rfl)
  · rcases q3 with rfl | rfl | rfl | rfl | rfl | rfl | rfl | rfl <;> (show _ = _; kernel_rfl)
  · rcases q3 with rfl | rfl | rfl | rfl | rfl | rfl | rfl | rfl <;> (show _ = _; kernel_rfl)
  · rcases q3 with rfl | rfl | rfl | rfl | rfl | rfl | rfl | rfl <;> (show _ = _; kernel_rfl)
theorem at_f2 (f3 r2 : Nat) (h3 : f3 < 8) (x1 x2 x4 x5 x6 : Int) : InsE.marionetteref03_atomic.f 40 2 (f3 : Int) 0 x1 x2 (r2 : Int) x4 x5 x6 = some (amoR 2 r2 f3, x1, x2, (r2 : Int), x4, x5, x6) := by
  have e : InsE.marionetteref03_atomic.f 40 2 (f3 : Int) 0 x1 x2 (r2 : Int) x4 x5 x6 = InsE.marionetteref03_atomic.j1 39 2 (f3 : Int) ([2, 3, 1, 0, 4, 12, 8, 16, 20, 24, 28] : List Int) 0 ((r2 : Int) != 0) 0 x1 x2 (r2 : Int) x4 x5 x6 := by kernel_rfl
  rw [e]
  have q3 : f3 = 0 ∨ f3 = 1 ∨ f3 = 2 ∨ f3 = 3 ∨ f3 = 4 ∨ f3 = 5 ∨ f3 = 6 ∨ f3 = 7 := by omega
  by_cases c : r2 = 0
  · subst c
    rcases q3 with rfl | rfl | rfl | rfl | rfl | rfl | rfl | rfl <;> (show _ = _; kernel_rfl)
  · have t : ((r2 : Int) != 0) = true := bne_iff_ne.2 (by omega)
    have t2 : amoR 2 r2 f3 = 0 := by unfold amoR; rw [if_pos (show 2 = 2 ∧ r2 ≠ 0 from ⟨rfl, c⟩)]; split <;> rfl
    rw [t, t2]
    generalize (r2 : Int) = y
    rcases q3 with rfl | rfl | rfl | rfl | rfl | rfl | rfl | rfl <;> (show _ = _; kernel_rfl)
theorem at_f (f5 f3 r2 : Nat) (h5 : f5 < 32) (h3 : f3 < 8) (x1 x2 x4 x5 x6 : Int) : InsE.marionetteref03_atomic.f 40 (f5 : Int) (f3 : Int) 0 x1 x2 (r2 : Int) x4 x5 x6 = some (amoR f5 r2 f3, x1, x2, (r2 : Int), x4, x5, x6) := by
  by_cases c : f5 = 2
  · subst c
    exact at_f2 f3 r2 h3 x1 x2 x4 x5 x6
  · exact at_f1 f5 f3 r2 h5 h3 c x1 x2 x4 x5 x6
theorem ratomic_fr (f5 f3 r2 : Nat) (h5 : f5 < 32) (h3 : f3 < 8) (x1 x2 x4 x5 x6 : Int) (g : Nat) (W : World) (hb : Blk W g 24 #[.int .i64 0, .int .i64 x1, .int .i64 x2, .int .i64 (r2 : Int), .int .i64 x4, .int .i64 x5, .int .i64 x6]) :
    Calls Try.prog 30 #[.int .i64 (f5 : Int), .int .i64 (f3 : Int), .pointer (some ⟨g, 0, none⟩)] W fun e w' => e = .returned (.tuple #[]) ∧ PS W w' g (amoR f5 r2 f3) x1 x2 (r2 : Int) x4 x5 x6 := by
  have hB : Below ({ W with heap := #[] } : World).heap.size { W with heap := #[] } W := ⟨rfl, rfl, rfl, Nat.zero_le _, fun k hk => absurd hk (Nat.not_lt_zero k)⟩
  refine (InsE.marionetteref03_atomic.calls 40 _ _ g _ _ _ _ _ _ _ _ _ _ _ _ _ _ { W with heap := #[] } W ⟨hb, Nat.zero_le _⟩ hB (at_f f5 f3 r2 h5 h3 x1 x2 x4 x5 x6)).mono fun e w' h => ?_
  obtain ⟨h1, h2, h3, h4⟩ := h
  exact ⟨h1, ⟨h3.os, h3.tape, h3.output, h4.1, fun k hk hn => h4.2 k hk hn (by simp)⟩, h2.1⟩
theorem rwith_fr (w : Nat) (hw : w < 4294967296) (g : Nat) (x1 x2 x3 x5 x6 : Int) (W : World) (ck : fld w 0 7 = 19 ∨ fld w 0 7 = 27) (hb : Blk W g 24 #[.int .i64 0, .int .i64 x1, .int .i64 x2, .int .i64 x3, .int .i64 (iP w), .int .i64 x5, .int .i64 x6]) :
    Calls Try.prog 29 #[.int .u32 (w : Int), .int .i64 ((fld w 12 3 : Nat) : Int), .pointer (some ⟨g, 0, none⟩)] W fun e w' => e = .returned (.tuple #[]) ∧ PS W w' g (rimmP w).1 x1 x2 x3 (rimmP w).2.2.2.2.1 x5 x6 := by
  by_cases ck : fld w 0 7 = 19
  · by_cases c1 : fld w 12 3 = 1
    · by_cases cu : fld w 26 6 = 0
      · have e1 : (rimmP w).1 = 28 ∧ (rimmP w).2.2.2.2.1 = ((fld w 20 6 : Nat) : Int) := by unfold rimmP; rw [if_pos ck, if_pos (show fld w 12 3 = 1 ∨ fld w 12 3 = 5 by omega), if_pos (show fld w 12 3 = 1 ∧ fld w 26 6 = 0 from ⟨c1, cu⟩)]; exact ⟨rfl, rfl⟩
        rw [e1.1, e1.2]
        exact rwith_a1l w hw _ g rfl 0 x1 x2 x3 (iP w) x5 x6 W hb ck c1 cu
      · have e1 : (rimmP w).1 = oneP [22, 0, 23, 24, 25, 0, 26, 27] 1 ∧ (rimmP w).2.2.2.2.1 = ((fld w 20 6 : Nat) : Int) := by unfold rimmP; rw [if_pos ck, if_pos (show fld w 12 3 = 1 ∨ fld w 12 3 = 5 by omega), if_neg (show ¬ (fld w 12 3 = 1 ∧ fld w 26 6 = 0) by omega), if_neg (show ¬ (fld w 12 3 = 5 ∧ fld w 26 6 = 0) by omega), if_neg (show ¬ (fld w 12 3 = 5 ∧ fld w 26 6 = 16) by omega), c1]; exact ⟨rfl, rfl⟩
        rw [e1.1, e1.2]
        exact rwith_a1n w hw _ g rfl 0 x1 x2 x3 (iP w) x5 x6 W hb ck c1 cu
    by_cases c5 : fld w 12 3 = 5
    · by_cases cu : fld w 26 6 = 0
      · have e1 : (rimmP w).1 = 29 ∧ (rimmP w).2.2.2.2.1 = ((fld w 20 6 : Nat) : Int) := by unfold rimmP; rw [if_pos ck, if_pos (show fld w 12 3 = 1 ∨ fld w 12 3 = 5 by omega), if_neg (show ¬ (fld w 12 3 = 1 ∧ fld w 26 6 = 0) by omega), if_pos (show fld w 12 3 = 5 ∧ fld w 26 6 = 0 from ⟨c5, cu⟩)]; exact ⟨rfl, rfl⟩
        rw [e1.1, e1.2]
        exact rwith_a5r w hw _ g rfl 0 x1 x2 x3 (iP w) x5 x6 W hb ck c5 cu
      by_cases cs : fld w 26 6 = 16
      · have e1 : (rimmP w).1 = 30 ∧ (rimmP w).2.2.2.2.1 = ((fld w 20 6 : Nat) : Int) := by unfold rimmP; rw [if_pos ck, if_pos (show fld w 12 3 = 1 ∨ fld w 12 3 = 5 by omega), if_neg (show ¬ (fld w 12 3 = 1 ∧ fld w 26 6 = 0) by omega), if_neg (show ¬ (fld w 12 3 = 5 ∧ fld w 26 6 = 0) by omega), if_pos (show fld w 12 3 = 5 ∧ fld w 26 6 = 16 from ⟨c5, cs⟩)]; exact ⟨rfl, rfl⟩
        rw [e1.1, e1.2]
        exact rwith_a5s w hw _ g rfl 0 x1 x2 x3 (iP w) x5 x6 W hb ck c5 cs
      · have e1 : (rimmP w).1 = oneP [22, 0, 23, 24, 25, 0, 26, 27] 5 ∧ (rimmP w).2.2.2.2.1 = ((fld w 20 6 : Nat) : Int) := by unfold rimmP; rw [if_pos ck, if_pos (show fld w 12 3 = 1 ∨ fld w 12 3 = 5 by omega), if_neg (show ¬ (fld w 12 3 = 1 ∧ fld w 26 6 = 0) by omega), if_neg (show ¬ (fld w 12 3 = 5 ∧ fld w 26 6 = 0) by omega), if_neg (show ¬ (fld w 12 3 = 5 ∧ fld w 26 6 = 16) by omega), c5]; exact ⟨rfl, rfl⟩
        rw [e1.1, e1.2]
        exact rwith_a5n w hw _ g rfl 0 x1 x2 x3 (iP w) x5 x6 W hb ck c5 cu cs
    have e1 : (rimmP w).1 = oneP [22, 0, 23, 24, 25, 0, 26, 27] (fld w 12 3) ∧ (rimmP w).2.2.2.2.1 = iP w := by unfold rimmP; rw [if_pos ck, if_neg (show ¬ (fld w 12 3 = 1 ∨ fld w 12 3 = 5) by omega)]; exact ⟨rfl, rfl⟩
    rw [e1.1, e1.2]
    exact rwith_a0 w hw _ g rfl 0 x1 x2 x3 (iP w) x5 x6 W hb ck c1 c5
  · by_cases c1 : fld w 12 3 = 1
    · by_cases cu : fld w 25 7 = 0
      · have e1 : (rimmP w).1 = 42 ∧ (rimmP w).2.2.2.2.1 = ((fld w 20 5 : Nat) : Int) := by unfold rimmP; rw [if_neg ck, if_pos (show fld w 12 3 = 1 ∨ fld w 12 3 = 5 by omega), if_pos (show fld w 12 3 = 1 ∧ fld w 25 7 = 0 from ⟨c1, cu⟩)]; exact ⟨rfl, rfl⟩
        rw [e1.1, e1.2]
        exact rwith_b1l w hw _ g rfl 0 x1 x2 x3 (iP w) x5 x6 W hb ck c1 cu
      · have e1 : (rimmP w).1 = oneP [41] 1 ∧ (rimmP w).2.2.2.2.1 = ((fld w 20 5 : Nat) : Int) := by unfold rimmP; rw [if_neg ck, if_pos (show fld w 12 3 = 1 ∨ fld w 12 3 = 5 by omega), if_neg (show ¬ (fld w 12 3 = 1 ∧ fld w 25 7 = 0) by omega), if_neg (show ¬ (fld w 12 3 = 5 ∧ fld w 25 7 = 0) by omega), if_neg (show ¬ (fld w 12 3 = 5 ∧ fld w 25 7 = 32) by omega), c1]; exact ⟨rfl, rfl⟩
        rw [e1.1, e1.2]
        exact rwith_b1n w hw _ g rfl 0 x1 x2 x3 (iP w) x5 x6 W hb ck c1 cu
    by_cases c5 : fld w 12 3 = 5
    · by_cases cu : fld w 25 7 = 0
      · have e1 : (rimmP w).1 = 43 ∧ (rimmP w).2.2.2.2.1 = ((fld w 20 5 : Nat) : Int) := by unfold rimmP; rw [if_neg ck, if_pos (show fld w 12 3 = 1 ∨ fld w 12 3 = 5 by omega), if_neg (show ¬ (fld w 12 3 = 1 ∧ fld w 25 7 = 0) by omega), if_pos (show fld w 12 3 = 5 ∧ fld w 25 7 = 0 from ⟨c5, cu⟩)]; exact ⟨rfl, rfl⟩
        rw [e1.1, e1.2]
        exact rwith_b5r w hw _ g rfl 0 x1 x2 x3 (iP w) x5 x6 W hb ck c5 cu
      by_cases cs : fld w 25 7 = 32
      · have e1 : (rimmP w).1 = 44 ∧ (rimmP w).2.2.2.2.1 = ((fld w 20 5 : Nat) : Int) := by unfold rimmP; rw [if_neg ck, if_pos (show fld w 12 3 = 1 ∨ fld w 12 3 = 5 by omega), if_neg (show ¬ (fld w 12 3 = 1 ∧ fld w 25 7 = 0) by omega), if_neg (show ¬ (fld w 12 3 = 5 ∧ fld w 25 7 = 0) by omega), if_pos (show fld w 12 3 = 5 ∧ fld w 25 7 = 32 from ⟨c5, cs⟩)]; exact ⟨rfl, rfl⟩
        rw [e1.1, e1.2]
        exact rwith_b5s w hw _ g rfl 0 x1 x2 x3 (iP w) x5 x6 W hb ck c5 cs
      · have e1 : (rimmP w).1 = oneP [41] 5 ∧ (rimmP w).2.2.2.2.1 = ((fld w 20 5 : Nat) : Int) := by unfold rimmP; rw [if_neg ck, if_pos (show fld w 12 3 = 1 ∨ fld w 12 3 = 5 by omega), if_neg (show ¬ (fld w 12 3 = 1 ∧ fld w 25 7 = 0) by omega), if_neg (show ¬ (fld w 12 3 = 5 ∧ fld w 25 7 = 0) by omega), if_neg (show ¬ (fld w 12 3 = 5 ∧ fld w 25 7 = 32) by omega), c5]; exact ⟨rfl, rfl⟩
        rw [e1.1, e1.2]
        exact rwith_b5n w hw _ g rfl 0 x1 x2 x3 (iP w) x5 x6 W hb ck c5 cu cs
    have e1 : (rimmP w).1 = oneP [41] (fld w 12 3) ∧ (rimmP w).2.2.2.2.1 = iP w := by unfold rimmP; rw [if_neg ck, if_neg (show ¬ (fld w 12 3 = 1 ∨ fld w 12 3 = 5) by omega)]; exact ⟨rfl, rfl⟩
    rw [e1.1, e1.2]
    exact rwith_b0 w hw _ g rfl 0 x1 x2 x3 (iP w) x5 x6 W hb ck c1 c5
end Go.Proofs.Ytnopppamfleniaa.Ins
