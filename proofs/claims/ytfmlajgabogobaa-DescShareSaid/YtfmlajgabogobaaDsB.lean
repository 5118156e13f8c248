/- Add and Close of a table of descriptors, walked. -/
import Derived.Test.YtfmlajgabogobaaDsA
import Derived.Deep.RegionLaw
namespace Go.Proofs.Ytfmlajgabogobaa.Ds
open Go Go.RowKit Go.Proofs.YtfmlajgabogobaaW.PrintWords Go.Proofs.YtfmlajgabogobaaW.PrintLast Go.Proofs.YtfmlajgabogobaaW.PrintMore
open Go.Proofs.Ytfmlajgabogobaa.Hp Go.Proofs.Ytfmlajgabogobaa.Pm
attribute [local go_sem] max2_int min2_int max_two min_two max_three min_three max_four min_four
set_option linter.unusedVariables false
set_option linter.unusedSimpArgs false
/-- What Add comes to. -/
def AddOk (w w' : World) (t B n : Nat) (most : Int) (f : Int → Option Nat) (sz : Nat) (nd : Int) (rd : Bool) (at_ low : Int) (sh : Bool) (r k : Int) : Prop :=
  FreeOk most f low r k ∧ ((k ≠ 0 ∧ Fr (fun _ => False) w w') ∨ (k = 0 ∧ f r = none ∧ ∃ s F, w.heap.size ≤ s ∧ w.heap.size ≤ F ∧ s ≠ F ∧ Tab w' t B (n + 1) most (updP f r (some s)) (sz + 1) ∧ Blk w' s 82 #[.pointer (some ⟨F, 0, none⟩), .bool sh] ∧ Blk w' F 80 (shC nd rd at_ 1) ∧ Fr (fun i => i = B) w w'))
theorem add_any {t B n : Nat} {most : Int} {f : Int → Option Nat} {sz : Nat} (nd : Int) (rd : Bool) (at_ low : Int) (sh : Bool) (w : World) (h : Tab w t B n most f sz) (hn : n < 1000000) : Calls Try.prog 9 #[.pointer (some ⟨t, 0, none⟩), .agg #[.int .i64 nd, .pointer none, .bool rd, .bool false, .bool false, .bool false, .int .i64 at_], .int .i64 low, .bool sh] w fun e w' => ∃ r k, AddOk w w' t B n most f sz nd rd at_ low sh r k ∧ e = .returned (.tuple #[.int .i64 r, .int .i64 k]) := by
  have HT := Lib.hid h
  have HT1 := Lib.hid (h.fr ((Fr.refl (fun _ => False) w).alloc (.cells (opC nd rd at_) 32)) id id)
  have HX := Lib.hid (Blk.new w 32 (opC nd rd at_))
  have HF := Lib.hid ((Fr.refl (fun _ => False) w).alloc (.cells (opC nd rd at_) 32))
  have hm1 := h.hi
  clear h
  go_enter Try.func9, Try.ntmps9
  go_wp2_with fail
  refine (free_any low _ (show Tab (w.alloc (.cells (opC nd rd at_) 32)) t B n most f sz from HT1.out)).mono ?_
  rintro e w1 ⟨r, k, hfr, rfl, rfl⟩
  have HFR := Lib.hid hfr
  obtain ⟨HK, hkk⟩ : Hid ((k = 0 ∧ (Lit.int .i64 r).wf = true ∧ f r = none) ∨ k ≠ 0) ∧ True := by
    refine ⟨Lib.hid ?_, trivial⟩
    rcases hfr with ⟨_, _, rfl⟩ | ⟨hl, ⟨h1, h2, h3, _, rfl⟩ | ⟨_, _, rfl⟩⟩
    · exact .inr (by decide)
    · exact .inl ⟨rfl, wf64 (by omega) (by omega), h3⟩
    · exact .inr (by decide)
  clear hfr hkk
  rcases HK.out with ⟨rfl, hwf, hfn⟩ | hk
  · have HW := Lib.hid hwf
    have HN := Lib.hid hfn
    simp only [opC] at HX HF HT1 ⊢
    generalize w.alloc (.cells #[.int .i64 nd, .pointer none, .bool rd, .bool false, .bool false, .bool false, .int .i64 at_] 32) = w1 at *
    obtain ⟨k0, k1⟩ := HT1.out.cells
    have hlt := HT1.out.blk.lt
    have x0 := HX.out.cell 0
    have x1 := HX.out.cell 1
    have x2 := HX.out.cell 2
    have x3 := HX.out.cell 3
    have x4 := HX.out.cell 4
    have x5 := HX.out.cell 5
    have x6 := HX.out.cell 6
    simp at x0 x1 x2 x3 x4 x5 x6
    have q1 := World.new_ne w1 _ k1
    have y0 := World.new_ne w1 _ x0
    clear hwf hfn HK
    go_wp2_with fail
    have HB1 := Lib.hid (Blk.alloc (Blk.new w1 80 (shC nd rd at_ 1)) (.cells #[.pointer (some ⟨w1.heap.size, 0, none⟩), .bool sh] 82))
    have HB2 := Lib.hid (blk_new2 w1 (.cells (shC nd rd at_ 1) 80) 82 #[.pointer (some ⟨w1.heap.size, 0, none⟩), .bool sh])
    obtain ⟨w5, hrun, hp5, hf5⟩ := PM.put (w := ((w1.alloc (.cells #[.int .i64 nd, .pointer none, .bool rd, .bool false, .bool false, .bool false, .int .i64 at_, .int .i64 1] 80)).alloc (.cells #[.pointer (some ⟨w1.heap.size, 0, none⟩), .bool sh] 82)).drew)
      (HT1.out.pm.fr (by (repeat (first | (with_reducible exact Fr.refl _ _) | (with_reducible apply Fr.drewN) | (with_reducible apply Fr.alloc) | (with_reducible apply Fr.drew) | (with_reducible refine Fr.setCell ?_ (Or.inr (by simp)) _))) : Fr (fun _ => False) w1 _) id) lawK Try.underlying3 Try.underlying73 (by unfold maxLen; omega) r HW.out (w1.heap.size + 1)
    rw [HN.out, show (if (none : Option Nat).isSome then sz else sz + 1) = sz + 1 from rfl] at hp5
    have hBl := HT1.out.pm.lt
    have HB1 := Lib.hid (Blk.fr (show Blk ((w1.alloc (.cells #[.int .i64 nd, .pointer none, .bool rd, .bool false, .bool false, .bool false, .int .i64 at_, .int .i64 1] 80)).alloc (.cells #[.pointer (some ⟨w1.heap.size, 0, none⟩), .bool sh] 82)).drew w1.heap.size 80 (shC nd rd at_ 1) from HB1.out) hf5 (by omega))
    have HB2 := Lib.hid (Blk.fr (show Blk ((w1.alloc (.cells #[.int .i64 nd, .pointer none, .bool rd, .bool false, .bool false, .bool false, .int .i64 at_, .int .i64 1] 80)).alloc (.cells #[.pointer (some ⟨w1.heap.size, 0, none⟩), .bool sh] 82)).drew (w1.heap.size + 1) 82 #[.pointer (some ⟨w1.heap.size, 0, none⟩), .bool sh] from HB2.out) hf5 (by omega))
    have HFX := Lib.hid (show Fr (fun i => i = B) w w5 from (HF.out.trans (by (repeat (first | (with_reducible exact Fr.refl _ _) | (with_reducible apply Fr.drewN) | (with_reducible apply Fr.alloc) | (with_reducible apply Fr.drew) | (with_reducible refine Fr.setCell ?_ (Or.inr (by simp)) _))) : Fr (fun _ => False) w1 ((w1.alloc (.cells #[.int .i64 nd, .pointer none, .bool rd, .bool false, .bool false, .bool false, .int .i64 at_, .int .i64 1] 80)).alloc (.cells #[.pointer (some ⟨w1.heap.size, 0, none⟩), .bool sh] 82)).drew) (fun _ _ => id)).mono (T := fun i => i = B) (fun _ _ e => e.elim) |>.trans hf5 (fun _ _ => id))
    have HT5 := Lib.hid (show Tab w5 t B (n + 1) most (updP f r (some (w1.heap.size + 1))) (sz + 1) from ⟨Blk.fr (Blk.fr HT1.out.blk (by (repeat (first | (with_reducible exact Fr.refl _ _) | (with_reducible apply Fr.drewN) | (with_reducible apply Fr.alloc) | (with_reducible apply Fr.drew) | (with_reducible refine Fr.setCell ?_ (Or.inr (by simp)) _))) : Fr (fun _ => False) w1 _) id) hf5 (fun e => HT1.out.ne e.symm), hp5, HT1.out.lo, HT1.out.hi⟩)
    have hw1 := HF.out.size
    clear hp5 hf5
    go_region_law (fail)
    all_goals go_wp2_with fail
    all_goals
      go_ret2
      exact ⟨r, 0, ⟨HFR.out, .inr ⟨rfl, HN.out, w1.heap.size + 1, w1.heap.size, by omega, by omega, by omega, HT5.out, HB2.out, HB1.out, HFX.out⟩⟩, rfl⟩
  · have tk : (k == 0) = false := beq_eq_false_iff_ne.2 hk
    have tk' : (k != 0) = true := by rw [bne, tk]; rfl
    have HK' := Lib.hid hk
    clear hk HK
    go_wp2_with fail
    go_ret2
    have hr : r = 0 := by rcases HFR.out with ⟨_, h, _⟩ | ⟨_, ⟨_, _, _, _, h⟩ | ⟨_, h, _⟩⟩ <;> first | exact h | exact absurd h HK'.out
    subst hr
    exact ⟨0, k, ⟨HFR.out, .inl ⟨HK'.out, HF.out⟩⟩, rfl⟩
end Go.Proofs.Ytfmlajgabogobaa.Ds
