/- What a law of descriptors first asks; the methods of a table that is none; the law DescNone: walked. -/
import Derived.Test.YtfmlajgabogobaaDsB
namespace Go.Proofs.Ytfmlajgabogobaa.Ds
open Go Go.RowKit Go.Proofs.YtfmlajgabogobaaW.PrintWords Go.Proofs.YtfmlajgabogobaaW.PrintLast Go.Proofs.YtfmlajgabogobaaW.PrintMore
open Go.Proofs.Ytfmlajgabogobaa.Hp Go.Proofs.Ytfmlajgabogobaa.Pm
attribute [local go_sem] max2_int min2_int max_two min_two max_three min_three max_four min_four
set_option linter.unusedVariables false
set_option linter.unusedSimpArgs false
theorem answers_any (w : World) : Calls Try.prog 8 #[] w fun e w' => e = .returned (.bool true) ∧ Fr (fun _ => False) w w' := by
  have HA := Lib.hid (show ∀ (t B : Nat) (w : World), Tab w t B 0 3 (fun _ => none) 0 → Calls Try.prog 9 #[.pointer (some ⟨t, 0, none⟩), .agg #[.int .i64 5, .pointer none, .bool false, .bool false, .bool false, .bool false, .int .i64 0], .int .i64 1, .bool true] w fun e w' => ∃ r k, AddOk w w' t B 0 3 (fun _ => none) 0 5 false 0 1 true r k ∧ e = .returned (.tuple #[.int .i64 r, .int .i64 k]) from fun t B w h => add_any (f := fun _ => none) 5 false 0 1 true w h (by decide))
  go_enter Try.func8, Try.ntmps8
  go_wp2_with fail
  refine (new_any 3 _).mono ?_
  rintro e w1 ⟨rfl, ht, hf⟩
  have HT := Lib.hid (show Tab w1 (w.heap.size + 1) w.heap.size 0 3 (fun _ => none) 0 from ht)
  have HF := Lib.hid hf
  clear ht hf
  go_wp2_with fail
  refine (HA.out _ _ _ HT.out).mono ?_
  rintro e w2 ⟨r, k, ⟨hfr, hk⟩, rfl⟩
  obtain ⟨rfl, rfl⟩ : r = 1 ∧ k = 0 := by
    rcases hfr with ⟨h, _, _⟩ | ⟨_, ⟨h1, h2, _, h3, h4⟩ | ⟨h, _, _⟩⟩
    · exact absurd h (by decide)
    · refine ⟨?_, h4⟩
      rcases Int.lt_or_eq_of_le h1 with c | c
      · exact absurd rfl (h3 1 (by omega) c)
      · exact c.symm
    · exact absurd rfl (h 1 (by omega) (by omega))
  obtain ⟨_, _, s, F, hs, hF, hsF, ht, hb1, hb2, hf⟩ : _ ∧ _ ∧ _ := hk.resolve_left (fun h => h.1 rfl)
  have HT := Lib.hid ht
  have HB := Lib.hid hb1
  have HX := Lib.hid hb2
  have HF := Lib.hid (HF.out.trans hf (fun i hi e => absurd e (by omega)))
  clear hfr hk ht hb1 hb2 hf
  go_wp2_with fail
  refine (tget_some 1 s F true rfl _ HT.out (updP_same _ _ _) HB.out).mono ?_
  rintro e w3 ⟨rfl, rfl⟩
  have x0 := HX.out.cell 0
  simp [shC] at x0
  go_wp2_with fail
  go_ret
  exact ⟨rfl, HF.out⟩
theorem nil_get (fd : Int) (w : World) : Calls Try.prog 28 #[.pointer none, .int .i64 fd] w fun e w' => e = .returned (.tuple #[.pointer none, .int .i64 9]) ∧ Fr (fun _ => False) w w' := by
  go_enter Try.func28, Try.ntmps28
  go_wp2_with fail
  go_ret2
  exact ⟨rfl, by (repeat (first | (with_reducible exact Fr.refl _ _) | (with_reducible apply Fr.drewN) | (with_reducible apply Fr.alloc) | (with_reducible apply Fr.drew) | (with_reducible refine Fr.setCell ?_ (Or.inr (by simp)) _)))⟩
theorem nil_tget (fd : Int) (w : World) : Calls Try.prog 12 #[.pointer none, .int .i64 fd] w fun e w' => e = .returned (.tuple #[.pointer none, .int .i64 9]) ∧ Fr (fun _ => False) w w' := by
  go_enter Try.func12, Try.ntmps12
  go_wp2_with fail
  refine (nil_get _ _).mono ?_
  rintro e w1 ⟨rfl, hf⟩
  have HF := Lib.hid hf
  clear hf
  go_wp2_with fail
  go_ret2
  exact ⟨rfl, HF.out⟩
theorem nil_add (nd at_ low : Int) (rd sh : Bool) (w : World) : Calls Try.prog 9 #[.pointer none, .agg #[.int .i64 nd, .pointer none, .bool rd, .bool false, .bool false, .bool false, .int .i64 at_], .int .i64 low, .bool sh] w fun e w' => e = .returned (.tuple #[.int .i64 0, .int .i64 9]) ∧ Fr (fun _ => False) w w' := by
  go_enter Try.func9, Try.ntmps9
  go_wp2_with fail
  go_ret2
  exact ⟨rfl, by (repeat (first | (with_reducible exact Fr.refl _ _) | (with_reducible apply Fr.drewN) | (with_reducible apply Fr.alloc) | (with_reducible apply Fr.drew) | (with_reducible refine Fr.setCell ?_ (Or.inr (by simp)) _)))⟩
theorem nil_dup (fd low : Int) (sh : Bool) (w : World) : Calls Try.prog 11 #[.pointer none, .int .i64 fd, .int .i64 low, .bool sh] w fun e w' => e = .returned (.tuple #[.int .i64 0, .int .i64 9]) ∧ Fr (fun _ => False) w w' := by
  go_enter Try.func11, Try.ntmps11
  go_wp2_with fail
  refine (nil_get _ _).mono ?_
  rintro e w1 ⟨rfl, hf⟩
  have HF := Lib.hid hf
  clear hf
  go_wp2_with fail
  go_ret2
  exact ⟨rfl, HF.out⟩
theorem _root_.Go.Proofs.Ytfmlajgabogobaa.Hp.Blk.set_all {w w' : World} {g : Nat} {t : TypeId} {cs : Array Value} (h : Blk w g t cs) (hf : Fr (fun _ => False) w w') : Blk w' g t cs := h.fr hf id
theorem nil_close (fd : Int) (w : World) : Calls Try.prog 10 #[.pointer none, .int .i64 fd] w fun e w' => e = .returned (.tuple #[.agg #[.int .i64 0, .pointer none, .bool false, .bool false, .bool false, .bool false, .int .i64 0], .bool false, .int .i64 9]) ∧ Fr (fun _ => False) w w' := by
  have HN := Lib.hid (Blk.new w 32 #[.int .i64 0, .pointer none, .bool false, .bool false, .bool false, .bool false, .int .i64 0])
  have HF0 := Lib.hid ((Fr.refl (fun _ => False) w).alloc (.cells #[.int .i64 0, .pointer none, .bool false, .bool false, .bool false, .bool false, .int .i64 0] 32))
  go_enter Try.func10, Try.ntmps10
  go_wp2_with fail
  refine (nil_get _ _).mono ?_
  rintro e w1 ⟨rfl, hf⟩
  have HN1 := Lib.hid (Blk.set_all HN.out hf)
  have HF := Lib.hid (HF0.out.trans hf (fun _ _ => id))
  clear hf
  have k0 := HN1.out.frozen 0
  have k1 := HN1.out.frozen 1
  have k2 := HN1.out.frozen 2
  have k3 := HN1.out.frozen 3
  have k4 := HN1.out.frozen 4
  have k5 := HN1.out.frozen 5
  have k6 := HN1.out.frozen 6
  have c0 := HN1.out.cell 0
  have c1 := HN1.out.cell 1
  have c2 := HN1.out.cell 2
  have c3 := HN1.out.cell 3
  have c4 := HN1.out.cell 4
  have c5 := HN1.out.cell 5
  have c6 := HN1.out.cell 6
  simp at c0 c1 c2 c3 c4 c5 c6
  go_wp2_with fail
  refine bodyPost_ret (results_ctt rfl _ _ w.heap.size 32 #[.int .i64 0, .pointer none, .bool false, .bool false, .bool false, .bool false, .int .i64 0] (0, 0) _ rfl ?_ Try.underlying32 rfl (by kernel_rfl)) rfl ?_
  · exact (by simpa [Blk] using (((((((HN1.out.set 0 (.int .i64 0)).set 1 (.pointer none)).set 2 (.bool false)).set 3 (.bool false)).set 4 (.bool false)).set 5 (.bool false)).set 6 (.int .i64 0)))
  exact ⟨rfl, (by repeat (first | (with_reducible exact HF.out) | (with_reducible refine Fr.setCell ?_ (Or.inr (Nat.le_refl _)) _)))⟩
theorem nil_dup3 (fd to_ : Int) (sh : Bool) (w : World) : Calls Try.prog 20 #[.pointer none, .int .i64 fd,   .int .i64 to_, .bool sh] w fun e w' => e = .returned (.tuple #[.agg #[.int .i64 0, .pointer none, .bool false, .bool false, .bool false, .bool false, .int .i64 0], .bool false, .int .i64 9]) ∧ Fr (fun _ => False) w w' := by
  have HN := Lib.hid (Blk.new w 32 #[.int .i64 0, .pointer none, .bool false, .bool false, .bool false, .bool false, .int .i64 0])
  have HF0 := Lib.hid ((Fr.refl (fun _ => False) w).alloc (.cells #[.int .i64 0, .pointer none, .bool false, .bool false, .bool false, .bool false, .int .i64 0] 32))
  go_enter Try.func20, Try.ntmps20
  go_wp2_with fail
  refine (nil_get _ _).mono ?_
  rintro e w1 ⟨rfl, hf⟩
  have HN1 := Lib.hid (Blk.set_all HN.out hf)
  have HF := Lib.hid (HF0.out.trans hf (fun _ _ => id))
  clear hf
  have k0 := HN1.out.frozen 0
  have k1 := HN1.out.frozen 1
  have k2 := HN1.out.frozen 2
  have k3 := HN1.out.frozen 3
  have k4 := HN1.out.frozen 4
  have k5 := HN1.out.frozen 5
  have k6 := HN1.out.frozen 6
  have c0 := HN1.out.cell 0
  have c1 := HN1.out.cell 1
  have c2 := HN1.out.cell 2
  have c3 := HN1.out.cell 3
  have c4 := HN1.out.cell 4
  have c5 := HN1.out.cell 5
  have c6 := HN1.out.cell 6
  simp at c0 c1 c2 c3 c4 c5 c6
  go_wp2_with fail
  refine bodyPost_ret (results_ctt rfl _ _ w.heap.size 32 #[.int .i64 0, .pointer none, .bool false, .bool false, .bool false, .bool false, .int .i64 0] (0, 0) _ rfl ?_ Try.underlying32 rfl (by kernel_rfl)) rfl ?_
  · exact (by simpa [Blk] using (((((((HN1.out.set 0 (.int .i64 0)).set 1 (.pointer none)).set 2 (.bool false)).set 3 (.bool false)).set 4 (.bool false)).set 5 (.bool false)).set 6 (.int .i64 0)))
  exact ⟨rfl, (by repeat (first | (with_reducible exact HF.out) | (with_reducible refine Fr.setCell ?_ (Or.inr (Nat.le_refl _)) _)))⟩
theorem nil_shut (fd : Int) (w : World) : Calls Try.prog 13 #[.pointer none, .int .i64 fd] w fun e w' => e = .returned (.tuple #[.bool false, .int .i64 9]) ∧ Fr (fun _ => False) w w' := by
  go_enter Try.func13, Try.ntmps13
  go_wp2_with fail
  refine (nil_get _ _).mono ?_
  rintro e w1 ⟨rfl, hf⟩
  have HF := Lib.hid hf
  clear hf
  go_wp2_with fail
  go_ret2
  exact ⟨rfl, HF.out⟩
theorem nil_setshut (fd : Int) (sh : Bool) (w : World) : Calls Try.prog 23 #[.pointer none, .int .i64 fd, .bool sh] w fun e w' => e = .returned (.int .i64 9) ∧ Fr (fun _ => False) w w' := by
  go_enter Try.func23, Try.ntmps23
  go_wp2_with fail
  refine (nil_get _ _).mono ?_
  rintro e w1 ⟨rfl, hf⟩
  have HF := Lib.hid hf
  clear hf
  go_wp2_with fail
  go_ret
  exact ⟨rfl, HF.out⟩
theorem nil_setmost (n : Int) (w : World) : Calls Try.prog 24 #[.pointer none, .int .i64 n] w fun e w' => e = .returned (.int .i64 9) ∧ Fr (fun _ => False) w w' := by
  go_enter Try.func24, Try.ntmps24
  go_wp2_with fail
  go_ret
  exact ⟨rfl, by (repeat (first | (with_reducible exact Fr.refl _ _) | (with_reducible apply Fr.drewN) | (with_reducible apply Fr.alloc) | (with_reducible apply Fr.drew) | (with_reducible refine Fr.setCell ?_ (Or.inr (by simp)) _)))⟩
theorem nil_most (w : World) : Calls Try.prog 25 #[.pointer none] w fun e w' => e = .returned (.int .i64 0) ∧ Fr (fun _ => False) w w' := by
  go_enter Try.func25, Try.ntmps25
  go_wp2_with fail
  go_ret
  exact ⟨rfl, by (repeat (first | (with_reducible exact Fr.refl _ _) | (with_reducible apply Fr.drewN) | (with_reducible apply Fr.alloc) | (with_reducible apply Fr.drew) | (with_reducible refine Fr.setCell ?_ (Or.inr (by simp)) _)))⟩
theorem nil_list (w : World) : Calls Try.prog 14 #[.pointer none] w fun e w' => e = .returned (.slice none 0 0) ∧ Fr (fun _ => False) w w' := by
  go_enter Try.func14, Try.ntmps14
  go_wp2_with fail
  go_ret
  exact ⟨rfl, by (repeat (first | (with_reducible exact Fr.refl _ _) | (with_reducible apply Fr.drewN) | (with_reducible apply Fr.alloc) | (with_reducible apply Fr.drew) | (with_reducible refine Fr.setCell ?_ (Or.inr (by simp)) _)))⟩
theorem none_any (a b : Int) (w : World) : Calls Try.prog 6 #[.int .i64 a, .int .i64 b] w fun e w' => e = .returned (.bool true) ∧ Fr (fun _ => False) w w' := by
  go_enter Try.func6, Try.ntmps6
  go_wp2_with fail
  refine (nil_add _ _ _ _ _ _).mono ?_
  rintro e w1 ⟨rfl, hf⟩
  have HF := Lib.hid (hf)
  clear hf
  go_wp2_with fail
  refine (nil_tget _ _).mono ?_
  rintro e w1 ⟨rfl, hf⟩
  have HF := Lib.hid (HF.out.trans hf (fun _ _ => id))
  clear hf
  go_wp2_with fail
  refine (nil_dup _ _ _ _).mono ?_
  rintro e w1 ⟨rfl, hf⟩
  have HF := Lib.hid (HF.out.trans hf (fun _ _ => id))
  clear hf
  go_wp2_with fail
  refine (nil_dup3 _ _ _ _).mono ?_
  rintro e w1 ⟨rfl, hf⟩
  have HF := Lib.hid ((HF.out.trans hf (fun _ _ => id)).alloc (.cells #[.int .i64 0, .pointer none, .bool false, .bool false, .bool false, .bool false, .int .i64 0] 32))
  clear hf
  go_wp2_with fail
  refine (nil_close _ _).mono ?_
  rintro e w1 ⟨rfl, hf⟩
  have HF := Lib.hid ((HF.out.trans hf (fun _ _ => id)).alloc (.cells #[.int .i64 0, .pointer none, .bool false, .bool false, .bool false, .bool false, .int .i64 0] 32))
  clear hf
  go_wp2_with fail
  refine (nil_shut _ _).mono ?_
  rintro e w1 ⟨rfl, hf⟩
  have HF := Lib.hid (HF.out.trans hf (fun _ _ => id))
  clear hf
  go_wp2_with fail
  refine (answers_any _).mono ?_
  rintro e w1 ⟨rfl, hf⟩
  have HF := Lib.hid (HF.out.trans hf (fun _ _ => id))
  clear hf
  go_wp2_with fail
  refine (nil_setshut _ _ _).mono ?_
  rintro e w1 ⟨rfl, hf⟩
  have HF := Lib.hid (HF.out.trans hf (fun _ _ => id))
  clear hf
  go_wp2_with fail
  refine (nil_setmost _ _).mono ?_
  rintro e w1 ⟨rfl, hf⟩
  have HF := Lib.hid (HF.out.trans hf (fun _ _ => id))
  clear hf
  go_wp2_with fail
  refine (nil_list _).mono ?_
  rintro e w1 ⟨rfl, hf⟩
  have HF := Lib.hid (HF.out.trans hf (fun _ _ => id))
  clear hf
  go_wp2_with fail
  refine (nil_most _).mono ?_
  rintro e w1 ⟨rfl, hf⟩
  have HF := Lib.hid (HF.out.trans hf (fun _ _ => id))
  clear hf
  go_wp2_with fail
  go_ret
  exact ⟨rfl, HF.out⟩
theorem none_walk (a0 a1 : Int) (W : World) (w0 : (Lit.int .i64 a0).wf = true) (w1 : (Lit.int .i64 a1).wf = true) : Calls Try.prog 6 #[.int .i64 a0, .int .i64 a1] W fun e W' => e = .returned (.bool true) ∧ Below W.heap.size W W' :=
  (none_any a0 a1 W).mono fun _ _ g => ⟨g.1, Fr.below (Below.refl _ _) g.2 (fun _ _ => id)⟩
end Go.Proofs.Ytfmlajgabogobaa.Ds
