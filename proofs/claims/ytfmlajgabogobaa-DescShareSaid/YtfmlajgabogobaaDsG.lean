/- Dup, Shut, SetShut, SetMost, Most of a table of descriptors, walked. -/
import Derived.Test.YtfmlajgabogobaaDsF
namespace Go.Proofs.Ytfmlajgabogobaa.Ds
open Go Go.RowKit Go.Proofs.YtfmlajgabogobaaW.PrintWords Go.Proofs.YtfmlajgabogobaaW.PrintLast Go.Proofs.YtfmlajgabogobaaW.PrintMore
open Go.Proofs.Ytfmlajgabogobaa.Hp Go.Proofs.Ytfmlajgabogobaa.Pm
attribute [local go_sem] max2_int min2_int max_two min_two max_three min_three max_four min_four
set_option linter.unusedVariables false
set_option linter.unusedSimpArgs false
theorem share_any {t B n : Nat} {most : Int} {f : Int → Option Nat} {sz : Nat} (fd : Int) (F : Nat) (sh : Bool) (nd : Int) (rd : Bool) (at_ cnt : Int) (hk : (Lit.int .i64 fd).wf = true) (w : World) (h : Tab w t B n most f sz) (hn : n < 1000000) (hf : f fd = none) (hx : Blk w F 80 (shC nd rd at_ cnt)) (h1 : 0 ≤ cnt) (h2 : cnt ≤ 1000000) : Calls Try.prog 29 #[.pointer (some ⟨t, 0, none⟩), .int .i64 fd, .pointer (some ⟨F, 0, none⟩), .bool sh] w fun e w' => e = .returned (.tuple #[]) ∧ ∃ s, w.heap.size ≤ s ∧ Tab w' t B (n + 1) most (updP f fd (some s)) (sz + 1) ∧ Blk w' s 82 #[.pointer (some ⟨F, 0, none⟩), .bool sh] ∧ Blk w' F 80 (shC nd rd at_ (cnt + 1)) ∧ Fr (fun i => i = B ∨ i = F) w w' := by
  have HT := Lib.hid h
  have HK := Lib.hid hk
  have HF := Lib.hid hf
  have hl1 := h.blk.lt
  have hl2 := h.pm.lt
  have hl3 := hx.lt
  have hFB : ¬ (F = B) := (h.ne_of hx (by decide)).2
  have hFt : ¬ (F = t) := (h.ne_of hx (by decide)).1
  obtain ⟨k0, k1⟩ := h.cells
  have x7 := hx.cell 7
  simp [shC] at x7
  have g7 := hx.frozen 7
  have HX3 := Lib.hid (show Blk (w.setCell ⟨F, 7, none⟩ (.int .i64 (cnt + 1))) F 80 (shC nd rd at_ (cnt + 1)) from by have e := hx.set 7 (.int .i64 (cnt + 1)); simpa [Blk, shC] using e)
  have HF3 := Lib.hid ((Fr.refl (fun i => i = F) w).setCell (p := ⟨F, 7, none⟩) (.inl rfl) (.int .i64 (cnt + 1)))
  have HT3 := Lib.hid (h.fr HF3.out (fun e => hFt e.symm) (fun e => hFB e.symm))
  clear h hk hf hx
  go_enter Try.func29, Try.ntmps29
  go_upto_region 1 with (fail)
  generalize w.setCell ⟨F, 7, none⟩ (.int .i64 (cnt + 1)) = w1 at HX3 HF3 HT3 ⊢
  have hw1 := HF3.out.size
  clear x7 g7 k0 k1
  obtain ⟨k0, k1⟩ := HT3.out.cells
  have HT4 := Lib.hid (HT3.out.fr ((Fr.refl (fun _ => False) _).alloc (.cells #[.pointer (some ⟨F, 0, none⟩), .bool sh] 82)) id id)
  go_wp2_with (first | (at_mapUpdate; refine put_list (by rfl) _ _ _ rfl lawK Try.underlying3 Try.underlying73 (by unfold maxLen; omega) HT4.out.pm fd HK.out w1.heap.size rfl rfl rfl ?_; intro w2 hp2 hf2; rw [HF.out, show (if (none : Option Nat).isSome then sz else sz + 1) = sz + 1 from rfl] at hp2))
  go_end0
  refine ⟨rfl, w1.heap.size, hw1, ⟨(HT4.out.blk.fr hf2 (fun e => HT4.out.ne e.symm)), hp2, HT.out.lo, HT.out.hi⟩, (Blk.new w1 82 #[.pointer (some ⟨F, 0, none⟩), .bool sh]).fr hf2 (by omega), (HX3.out.alloc _).fr hf2 hFB, ?_⟩
  exact (((HF3.out.mono (T := fun i => i = B ∨ i = F) (fun _ _ e => .inr e)).alloc _).trans hf2 (fun _ _ e => .inl e))
theorem dup_none {t B n : Nat} {most : Int} {f : Int → Option Nat} {sz : Nat} (fd low : Int) (sh : Bool) (hk : (Lit.int .i64 fd).wf = true) (w : World) (h : Tab w t B n most f sz) (hf : f fd = none) : Calls Try.prog 11 #[.pointer (some ⟨t, 0, none⟩), .int .i64 fd, .int .i64 low, .bool sh] w fun e w' => e = .returned (.tuple #[.int .i64 0, .int .i64 9]) ∧ w' = w := by
  have H := Lib.hid (get_none fd hk w h hf)
  clear h hk hf
  go_enter Try.func11, Try.ntmps11
  go_wp2_with fail
  refine H.out.mono ?_
  rintro e w1 ⟨rfl, rfl⟩
  go_wp2_with fail
  go_ret2
  exact ⟨rfl, rfl⟩
/-- What Dup comes to. -/
def DupOk (w w' : World) (t B n : Nat) (most : Int) (f : Int → Option Nat) (sz : Nat) (F : Nat) (sh : Bool) (nd : Int) (rd : Bool) (at_ cnt low r k : Int) : Prop :=
  FreeOk most f low r k ∧ ((k ≠ 0 ∧ w' = w) ∨ (k = 0 ∧ f r = none ∧ ∃ s, w.heap.size ≤ s ∧ Tab w' t B (n + 1) most (updP f r (some s)) (sz + 1) ∧ Blk w' s 82 #[.pointer (some ⟨F, 0, none⟩), .bool sh] ∧ Blk w' F 80 (shC nd rd at_ (cnt + 1)) ∧ Fr (fun i => i = B ∨ i = F) w w'))
theorem dup_any {t B n : Nat} {most : Int} {f : Int → Option Nat} {sz : Nat} (fd low : Int) (s0 F : Nat) (sh0 sh : Bool) (nd : Int) (rd : Bool) (at_ cnt : Int) (hk : (Lit.int .i64 fd).wf = true) (w : World) (h : Tab w t B n most f sz) (hn : n < 1000000) (hf : f fd = some s0) (hs : Blk w s0 82 #[.pointer (some ⟨F, 0, none⟩), .bool sh0]) (hx : Blk w F 80 (shC nd rd at_ cnt)) (h1 : 0 ≤ cnt) (h2 : cnt ≤ 1000000) : Calls Try.prog 11 #[.pointer (some ⟨t, 0, none⟩), .int .i64 fd, .int .i64 low, .bool sh] w fun e w' => ∃ r k, DupOk w w' t B n most f sz F sh nd rd at_ cnt low r k ∧ e = .returned (.tuple #[.int .i64 r, .int .i64 k]) := by
  have H := Lib.hid (get_some fd s0 hk w h hf)
  have HT := Lib.hid h
  have HX := Lib.hid hx
  have hm1 := h.hi
  have s0c := hs.cell 0
  simp at s0c
  clear h hk hf hx hs
  go_enter Try.func11, Try.ntmps11
  go_wp2_with fail
  refine H.out.mono ?_
  rintro e w1 ⟨rfl, rfl⟩
  go_wp2_with fail
  refine (free_any low _ HT.out).mono ?_
  rintro e w1 ⟨r, k, hfr, rfl, rfl⟩
  have HFR := Lib.hid hfr
  have HK : Hid ((k = 0 ∧ (Lit.int .i64 r).wf = true ∧ f r = none) ∨ (k ≠ 0 ∧ r = 0)) := Lib.hid (by
    rcases hfr with ⟨_, h, rfl⟩ | ⟨hl, ⟨h1, h2, h3, _, rfl⟩ | ⟨_, h, rfl⟩⟩
    · exact .inr ⟨by decide, h⟩
    · exact .inl ⟨rfl, wf64 (by omega) (by omega), h3⟩
    · exact .inr ⟨by decide, h⟩)
  clear hfr
  rcases HK.out with ⟨rfl, hwf, hfn⟩ | ⟨hk, rfl⟩
  · have HW := Lib.hid hwf
    have HN := Lib.hid hfn
    clear hwf hfn HK
    go_wp2_with fail
    refine (share_any r F sh nd rd at_ cnt HW.out _ HT.out hn HN.out HX.out h1 h2).mono ?_
    rintro e w2 ⟨rfl, hp⟩
    have HP := Lib.hid hp
    clear hp s0c
    go_wp2_with fail
    go_ret2
    exact ⟨r, 0, ⟨HFR.out, .inr ⟨rfl, HN.out, HP.out⟩⟩, rfl⟩
  · have tk : (k == 0) = false := beq_eq_false_iff_ne.2 hk
    have tk' : (k != 0) = true := by rw [bne, tk]; rfl
    have HK' := Lib.hid hk
    clear hk HK
    go_wp2_with fail
    go_ret2
    exact ⟨0, k, ⟨HFR.out, .inl ⟨HK'.out, rfl⟩⟩, rfl⟩
theorem shut_none {t B n : Nat} {most : Int} {f : Int → Option Nat} {sz : Nat} (fd : Int) (hk : (Lit.int .i64 fd).wf = true) (w : World) (h : Tab w t B n most f sz) (hf : f fd = none) : Calls Try.prog 13 #[.pointer (some ⟨t, 0, none⟩), .int .i64 fd] w fun e w' => e = .returned (.tuple #[.bool false, .int .i64 9]) ∧ w' = w := by
  have H := Lib.hid (get_none fd hk w h hf)
  clear h hk hf
  go_enter Try.func13, Try.ntmps13
  go_wp2_with fail
  refine H.out.mono ?_
  rintro e w1 ⟨rfl, rfl⟩
  go_wp2_with fail
  go_ret2
  exact ⟨rfl, rfl⟩
theorem shut_some {t B n : Nat} {most : Int} {f : Int → Option Nat} {sz : Nat} (fd : Int) (s F : Nat) (sh : Bool) (hk : (Lit.int .i64 fd).wf = true) (w : World) (h : Tab w t B n most f sz) (hf : f fd = some s) (hs : Blk w s 82 #[.pointer (some ⟨F, 0, none⟩), .bool sh]) : Calls Try.prog 13 #[.pointer (some ⟨t, 0, none⟩), .int .i64 fd] w fun e w' => e = .returned (.tuple #[.bool sh, .int .i64 0]) ∧ w' = w := by
  have H := Lib.hid (get_some fd s hk w h hf)
  have s1 := hs.cell 1
  simp at s1
  clear h hk hf hs
  go_enter Try.func13, Try.ntmps13
  go_wp2_with fail
  refine H.out.mono ?_
  rintro e w1 ⟨rfl, rfl⟩
  go_wp2_with fail
  go_ret2
  exact ⟨rfl, rfl⟩
theorem setshut_none {t B n : Nat} {most : Int} {f : Int → Option Nat} {sz : Nat} (fd : Int) (b : Bool) (hk : (Lit.int .i64 fd).wf = true) (w : World) (h : Tab w t B n most f sz) (hf : f fd = none) : Calls Try.prog 23 #[.pointer (some ⟨t, 0, none⟩), .int .i64 fd, .bool b] w fun e w' => e = .returned (.int .i64 9) ∧ w' = w := by
  have H := Lib.hid (get_none fd hk w h hf)
  clear h hk hf
  go_enter Try.func23, Try.ntmps23
  go_wp2_with fail
  refine H.out.mono ?_
  rintro e w1 ⟨rfl, rfl⟩
  go_wp2_with fail
  go_ret
  exact ⟨rfl, rfl⟩
theorem setshut_some {t B n : Nat} {most : Int} {f : Int → Option Nat} {sz : Nat} (fd : Int) (s F : Nat) (sh b : Bool) (hk : (Lit.int .i64 fd).wf = true) (w : World) (h : Tab w t B n most f sz) (hf : f fd = some s) (hs : Blk w s 82 #[.pointer (some ⟨F, 0, none⟩), .bool sh]) : Calls Try.prog 23 #[.pointer (some ⟨t, 0, none⟩), .int .i64 fd, .bool b] w fun e w' => e = .returned (.int .i64 0) ∧ Blk w' s 82 #[.pointer (some ⟨F, 0, none⟩), .bool b] ∧ Fr (fun i => i = s) w w' := by
  have H := Lib.hid (get_some fd s hk w h hf)
  have s1 := hs.cell 1
  simp at s1
  have g1 := hs.frozen 1
  have HS := Lib.hid (show Blk (w.setCell ⟨s, 1, none⟩ (.bool b)) s 82 #[.pointer (some ⟨F, 0, none⟩), .bool b] from by have e := hs.set 1 (.bool b); simpa [Blk] using e)
  clear h hk hf hs
  go_enter Try.func23, Try.ntmps23
  go_wp2_with fail
  refine H.out.mono ?_
  rintro e w1 ⟨rfl, rfl⟩
  go_wp2_with fail
  go_ret
  exact ⟨rfl, HS.out, (Fr.refl (fun i => i = s) _).setCell (p := ⟨s, 1, none⟩) (.inl rfl) _⟩
theorem setmost_yes {t B n : Nat} {most : Int} {f : Int → Option Nat} {sz : Nat} (m : Int) (h0 : 0 ≤ m) (h1 : m ≤ 256) (w : World) (h : Tab w t B n most f sz) : Calls Try.prog 24 #[.pointer (some ⟨t, 0, none⟩), .int .i64 m] w fun e w' => e = .returned (.int .i64 0) ∧ Tab w' t B n m f sz ∧ Fr (fun i => i = t) w w' := by
  have HT := Lib.hid h
  have g0 := h.blk.frozen 0
  have c0 := h.blk.cell 0
  simp at c0
  have t1 : decide (m < 0) = false := decide_eq_false (by omega)
  have t2 : decide ((256 : Int) < m) = false := decide_eq_false (by omega)
  have HB := Lib.hid (show Blk (w.setCell ⟨t, 0, none⟩ (.int .i64 m)) t 75 #[.int .i64 m, .map (some B)] from by have e := h.blk.set 0 (.int .i64 m); simpa [Blk] using e)
  clear h
  go_enter Try.func24, Try.ntmps24
  go_wp2_with fail
  go_ret
  have hf : Fr (fun i => i = t) w (w.setCell ⟨t, 0, none⟩ (.int .i64 m)) := (Fr.refl (fun i => i = t) w).setCell (p := ⟨t, 0, none⟩) (.inl rfl) _
  exact ⟨rfl, ⟨HB.out, HT.out.pm.fr hf HT.out.ne, h0, h1⟩, hf⟩
theorem setmost_no {t B n : Nat} {most : Int} {f : Int → Option Nat} {sz : Nat} (m : Int) (h0 : ¬ (0 ≤ m ∧ m ≤ 256)) (w : World) : Calls Try.prog 24 #[.pointer (some ⟨t, 0, none⟩), .int .i64 m] w fun e w' => e = .returned (.int .i64 22) ∧ w' = w := by
  by_cases c : m < 0
  · have t1 : decide (m < 0) = true := decide_eq_true c
    clear h0
    go_enter Try.func24, Try.ntmps24
    go_wp2_with fail
    go_ret
    exact ⟨rfl, rfl⟩
  · have t1 : decide (m < 0) = false := decide_eq_false c
    have t2 : decide ((256 : Int) < m) = true := decide_eq_true (by omega)
    clear h0
    go_enter Try.func24, Try.ntmps24
    go_wp2_with fail
    go_ret
    exact ⟨rfl, rfl⟩
theorem most_any {t B n : Nat} {most : Int} {f : Int → Option Nat} {sz : Nat} (w : World) (h : Tab w t B n most f sz) : Calls Try.prog 25 #[.pointer (some ⟨t, 0, none⟩)] w fun e w' => e = .returned (.int .i64 most) ∧ w' = w := by
  obtain ⟨k0, k1⟩ := h.cells
  clear h
  go_enter Try.func25, Try.ntmps25
  go_wp2_with fail
  go_ret
  exact ⟨rfl, rfl⟩
end Go.Proofs.Ytfmlajgabogobaa.Ds
