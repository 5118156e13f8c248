/- Close, Dup and the flags of a table of descriptors, walked. -/
import Derived.Test.YtfmlajgabogobaaDsC
import Derived.Maps.OwnSet
namespace Go.Proofs.Ytfmlajgabogobaa.Ds
open Go Go.RowKit Go.Proofs.YtfmlajgabogobaaW.PrintWords Go.Proofs.YtfmlajgabogobaaW.PrintLast Go.Proofs.YtfmlajgabogobaaW.PrintMore
open Go.Proofs.Ytfmlajgabogobaa.Hp Go.Proofs.Ytfmlajgabogobaa.Pm
attribute [local go_sem] max2_int min2_int max_two min_two max_three min_three max_four min_four
set_option linter.unusedVariables false
set_option linter.unusedSimpArgs false
theorem blk7 {w : World} {g : Nat} {t : TypeId} {c0 c1 c2 c3 c4 c5 c6 : Value} (h : Blk w g t #[c0, c1, c2, c3, c4, c5, c6]) (v0 v1 v2 v3 v4 v5 v6 : Value) : Blk (((((((w.setCell ⟨g, 0, none⟩ v0).setCell ⟨g, 1, none⟩ v1).setCell ⟨g, 2, none⟩ v2).setCell ⟨g, 3, none⟩ v3).setCell ⟨g, 4, none⟩ v4).setCell ⟨g, 5, none⟩ v5).setCell ⟨g, 6, none⟩ v6) g t #[v0, v1, v2, v3, v4, v5, v6] := by
  have e := ((((((h.set 0 v0).set 1 v1).set 2 v2).set 3 v3).set 4 v4).set 5 v5).set 6 v6
  simpa [Blk] using e
theorem blk7_ne {w : World} {g b : Nat} {t : TypeId} {cs : Array Value} (h : Blk w g t cs) (hb : g ≠ b) (v0 v1 v2 v3 v4 v5 v6 : Value) : Blk (((((((w.setCell ⟨b, 0, none⟩ v0).setCell ⟨b, 1, none⟩ v1).setCell ⟨b, 2, none⟩ v2).setCell ⟨b, 3, none⟩ v3).setCell ⟨b, 4, none⟩ v4).setCell ⟨b, 5, none⟩ v5).setCell ⟨b, 6, none⟩ v6) g t cs := (Blk.set_ne (Blk.set_ne (Blk.set_ne (Blk.set_ne (Blk.set_ne (Blk.set_ne (Blk.set_ne h (p := ⟨b, 0, none⟩) hb v0) (p := ⟨b, 1, none⟩) hb v1) (p := ⟨b, 2, none⟩) hb v2) (p := ⟨b, 3, none⟩) hb v3) (p := ⟨b, 4, none⟩) hb v4) (p := ⟨b, 5, none⟩) hb v5) (p := ⟨b, 6, none⟩) hb v6)
theorem fr7 {S : Nat → Prop} {w w' : World} {b : Nat} (h : Fr S w w') (hb : w.heap.size ≤ b) (v0 v1 v2 v3 v4 v5 v6 : Value) : Fr S w (((((((w'.setCell ⟨b, 0, none⟩ v0).setCell ⟨b, 1, none⟩ v1).setCell ⟨b, 2, none⟩ v2).setCell ⟨b, 3, none⟩ v3).setCell ⟨b, 4, none⟩ v4).setCell ⟨b, 5, none⟩ v5).setCell ⟨b, 6, none⟩ v6) := (Fr.setCell (Fr.setCell (Fr.setCell (Fr.setCell (Fr.setCell (Fr.setCell (Fr.setCell h (p := ⟨b, 0, none⟩) (.inr hb) v0) (p := ⟨b, 1, none⟩) (.inr hb) v1) (p := ⟨b, 2, none⟩) (.inr hb) v2) (p := ⟨b, 3, none⟩) (.inr hb) v3) (p := ⟨b, 4, none⟩) (.inr hb) v4) (p := ⟨b, 5, none⟩) (.inr hb) v5) (p := ⟨b, 6, none⟩) (.inr hb) v6)
theorem fr7' {w w' : World} {b : Nat} (h : Fr (fun i => i = b) w w') (v0 v1 v2 v3 v4 v5 v6 : Value) : Fr (fun i => i = b) w (((((((w'.setCell ⟨b, 0, none⟩ v0).setCell ⟨b, 1, none⟩ v1).setCell ⟨b, 2, none⟩ v2).setCell ⟨b, 3, none⟩ v3).setCell ⟨b, 4, none⟩ v4).setCell ⟨b, 5, none⟩ v5).setCell ⟨b, 6, none⟩ v6) := (Fr.setCell (Fr.setCell (Fr.setCell (Fr.setCell (Fr.setCell (Fr.setCell (Fr.setCell h (p := ⟨b, 0, none⟩) (.inl rfl) v0) (p := ⟨b, 1, none⟩) (.inl rfl) v1) (p := ⟨b, 2, none⟩) (.inl rfl) v2) (p := ⟨b, 3, none⟩) (.inl rfl) v3) (p := ⟨b, 4, none⟩) (.inl rfl) v4) (p := ⟨b, 5, none⟩) (.inl rfl) v5) (p := ⟨b, 6, none⟩) (.inl rfl) v6)
theorem tab7 {t B n : Nat} {most : Int} {f : Int → Option Nat} {sz : Nat} {w : World} {b : Nat} (h : Tab w t B n most f sz) (h1 : t ≠ b) (h2 : B ≠ b) (v0 v1 v2 v3 v4 v5 v6 : Value) : Tab (((((((w.setCell ⟨b, 0, none⟩ v0).setCell ⟨b, 1, none⟩ v1).setCell ⟨b, 2, none⟩ v2).setCell ⟨b, 3, none⟩ v3).setCell ⟨b, 4, none⟩ v4).setCell ⟨b, 5, none⟩ v5).setCell ⟨b, 6, none⟩ v6) t B n most f sz := h.fr (fr7' (Fr.refl (fun i => i = b) _) v0 v1 v2 v3 v4 v5 v6) h1 h2
theorem close_none {t B n : Nat} {most : Int} {f : Int → Option Nat} {sz : Nat} (fd : Int) (hk : (Lit.int .i64 fd).wf = true) (w : World) (h : Tab w t B n most f sz) (hf : f fd = none) : Calls Try.prog 10 #[.pointer (some ⟨t, 0, none⟩), .int .i64 fd] w fun e w' => e = .returned (.tuple #[.agg #[.int .i64 0, .pointer none, .bool false, .bool false, .bool false, .bool false, .int .i64 0], .bool false, .int .i64 9]) ∧ Fr (fun _ => False) w w' := by
  have HT := Lib.hid h
  have HK := Lib.hid hk
  have HF := Lib.hid hf
  have HR := Lib.hid (Blk.new w 32 #[.int .i64 0, .pointer none, .bool false, .bool false, .bool false, .bool false, .int .i64 0])
  have hF0 : Fr (fun _ => False) w (w.alloc (.cells #[.int .i64 0, .pointer none, .bool false, .bool false, .bool false, .bool false, .int .i64 0] 32)) := (Fr.refl _ _).alloc _
  have HT1 := Lib.hid (h.fr hF0 id id)
  have HF0 := Lib.hid hF0
  clear h hk hf hF0
  go_enter Try.func10, Try.ntmps10
  go_wp2_with fail
  refine (get_none fd HK.out _ HT1.out HF.out).mono ?_
  rintro e w1 ⟨rfl, rfl⟩
  have hwl : w.heap.size ≤ w.heap.size := Nat.le_refl _
  generalize hga : w.alloc (.cells #[.int .i64 0, .pointer none, .bool false, .bool false, .bool false, .bool false, .int .i64 0] 32) = wa at HF0 HR HT1 ⊢
  clear hga
  have HN1 := HR
  have c0 := HN1.out.cell 0
  have c1 := HN1.out.cell 1
  have c2 := HN1.out.cell 2
  have c3 := HN1.out.cell 3
  have c4 := HN1.out.cell 4
  have c5 := HN1.out.cell 5
  have c6 := HN1.out.cell 6
  simp at c0 c1 c2 c3 c4 c5 c6
  have k0 := HN1.out.frozen 0
  have k1 := HN1.out.frozen 1
  have k2 := HN1.out.frozen 2
  have k3 := HN1.out.frozen 3
  have k4 := HN1.out.frozen 4
  have k5 := HN1.out.frozen 5
  have k6 := HN1.out.frozen 6
  go_wp2_with fail
  refine bodyPost_ret (results_ctt rfl _ _ w.heap.size 32 #[.int .i64 0, .pointer none, .bool false, .bool false, .bool false, .bool false, .int .i64 0] (0, 0) _ rfl ?_ Try.underlying32 rfl (by kernel_rfl)) rfl ?_
  · exact blk7 HN1.out _ _ _ _ _ _ _
  exact ⟨rfl, fr7 HF0.out (Nat.le_refl _) _ _ _ _ _ _ _⟩
theorem close_more {t B n : Nat} {most : Int} {f : Int → Option Nat} {sz : Nat} (fd : Int) (s F : Nat) (sh : Bool) (nd : Int) (rd : Bool) (at_ cnt : Int) (hk : (Lit.int .i64 fd).wf = true) (w : World) (h : Tab w t B n most f sz) (hf : f fd = some s) (hs : Blk w s 82 #[.pointer (some ⟨F, 0, none⟩), .bool sh]) (hx : Blk w F 80 (shC nd rd at_ cnt)) (h1 : 1 < cnt) (h2 : cnt ≤ 1000000) : Calls Try.prog 10 #[.pointer (some ⟨t, 0, none⟩), .int .i64 fd] w fun e w' => e = .returned (.tuple #[.agg #[.int .i64 0, .pointer none, .bool false, .bool false, .bool false, .bool false, .int .i64 0], .bool false, .int .i64 0]) ∧ Tab w' t B n most (updP f fd none) (sz - 1) ∧ Blk w' F 80 (shC nd rd at_ (cnt - 1)) ∧ Fr (fun i => i = B ∨ i = F) w w' := by
  have HT := Lib.hid h
  have HK := Lib.hid hk
  have HF := Lib.hid hf
  have HR := Lib.hid (Blk.new w 32 #[.int .i64 0, .pointer none, .bool false, .bool false, .bool false, .bool false, .int .i64 0])
  have hF0 : Fr (fun _ => False) w (w.alloc (.cells #[.int .i64 0, .pointer none, .bool false, .bool false, .bool false, .bool false, .int .i64 0] 32)) := (Fr.refl _ _).alloc _
  have HT1 := Lib.hid (h.fr hF0 id id)
  have hl1 := h.blk.lt
  have hl2 := h.pm.lt
  have hl3 := hs.lt
  have hl4 := hx.lt
  have HS := Lib.hid (hs.fr hF0 id)
  have HX := Lib.hid (hx.fr hF0 id)
  have HF0 := Lib.hid hF0
  have hsB : ¬ (s = B) := (h.ne_of hs (by decide)).2
  have hFB : ¬ (F = B) := (h.ne_of hx (by decide)).2
  have hFt : ¬ (F = t) := (h.ne_of hx (by decide)).1
  have htB : ¬ (t = B) := fun e => h.ne e.symm
  have hRB : ¬ (w.heap.size = B) := by omega
  have hRF : ¬ (w.heap.size = F) := by omega
  have hRt : ¬ (w.heap.size = t) := by omega
  obtain ⟨k0, k1⟩ := HT1.out.cells
  clear h hk hf hs hx hF0
  go_enter Try.func10, Try.ntmps10
  go_wp2_with fail
  refine (get_some fd s HK.out _ HT1.out HF.out).mono ?_
  rintro e w1 ⟨rfl, rfl⟩
  have t1 : decide (0 < cnt - 1) = true := decide_eq_true (by omega)
  have t2 : decide (1 < cnt) = true := decide_eq_true (by omega)
  go_wp2_with (first | (at_delete; refine del_list (by rfl) _ _ rfl lawK Try.underlying3 Try.underlying73 HT1.out.pm fd HK.out rfl rfl ?_; intro w2 hp2 hf2; rw [HF.out, show (if (some s).isSome then sz - 1 else sz) = sz - 1 from rfl] at hp2; have HP2 := Lib.hid hp2; have HS2 := Lib.hid (HS.out.fr hf2 hsB); have HX2 := Lib.hid (HX.out.fr hf2 hFB); have HR2 := Lib.hid (HR.out.fr hf2 hRB); have HT2 := Lib.hid (HT1.out.blk.fr hf2 htB); have HF2 := Lib.hid hf2; clear hp2 hf2; have s0 := HS2.out.cell 0; simp at s0; have x0 := HX2.out.cell 0; have x1 := HX2.out.cell 1; have x2 := HX2.out.cell 2; have x3 := HX2.out.cell 3; have x4 := HX2.out.cell 4; have x5 := HX2.out.cell 5; have x6 := HX2.out.cell 6; have x7 := HX2.out.cell 7; simp [shC] at x0 x1 x2 x3 x4 x5 x6 x7; have g7 := HX2.out.frozen 7; have r0 := HR2.out.cell 0; have r1 := HR2.out.cell 1; have r2 := HR2.out.cell 2; have r3 := HR2.out.cell 3; have r4 := HR2.out.cell 4; have r5 := HR2.out.cell 5; have r6 := HR2.out.cell 6; simp at r0 r1 r2 r3 r4 r5 r6; have q0 := HR2.out.frozen 0; have q1 := HR2.out.frozen 1; have q2 := HR2.out.frozen 2; have q3 := HR2.out.frozen 3; have q4 := HR2.out.frozen 4; have q5 := HR2.out.frozen 5; have q6 := HR2.out.frozen 6))
  have HX3 := Lib.hid (show Blk (w2.setCell ⟨F, 7, none⟩ (.int .i64 (cnt - 1))) F 80 (shC nd rd at_ (cnt - 1)) from by have e := HX2.out.set 7 (.int .i64 (cnt - 1)); simpa [Blk, shC] using e)
  refine bodyPost_ret (results_ctt rfl _ _ w.heap.size 32 #[.int .i64 0, .pointer none, .bool false, .bool false, .bool false, .bool false, .int .i64 0] (0, 0) _ rfl ?_ Try.underlying32 rfl (by kernel_rfl)) rfl ?_
  · exact blk7 (Blk.set_ne HR2.out (p := ⟨F, 7, none⟩) hRF _) _ _ _ _ _ _ _
  refine ⟨rfl, ?_, blk7_ne HX3.out (fun e => hRF e.symm) _ _ _ _ _ _ _, ?_⟩
  · exact tab7 (t := t) (B := B) ⟨Blk.set_ne HT2.out (p := ⟨F, 7, none⟩) (fun e => hFt e.symm) _, HP2.out.fr ((Fr.refl (fun i => i = F) _).setCell (p := ⟨F, 7, none⟩) (.inl rfl) _) (fun e => hFB e.symm), HT.out.lo, HT.out.hi⟩ (fun e => hRt e.symm) (fun e => hRB e.symm) _ _ _ _ _ _ _
  · exact fr7 ((((HF0.out.mono (T := fun i => i = B ∨ i = F) (fun _ _ e => e.elim)).trans HF2.out (fun _ _ e => .inl e))).setCell (p := ⟨F, 7, none⟩) (.inl (.inr rfl)) _) (Nat.le_refl _) _ _ _ _ _ _ _
theorem close_last {t B n : Nat} {most : Int} {f : Int → Option Nat} {sz : Nat} (fd : Int) (s F : Nat) (sh : Bool) (nd : Int) (rd : Bool) (at_ : Int) (hk : (Lit.int .i64 fd).wf = true) (w : World) (h : Tab w t B n most f sz) (hf : f fd = some s) (hs : Blk w s 82 #[.pointer (some ⟨F, 0, none⟩), .bool sh]) (hx : Blk w F 80 (shC nd rd at_ 1)) : Calls Try.prog 10 #[.pointer (some ⟨t, 0, none⟩), .int .i64 fd] w fun e w' => e = .returned (.tuple #[.agg (opC nd rd at_), .bool true, .int .i64 0]) ∧ Tab w' t B n most (updP f fd none) (sz - 1) ∧ Blk w' F 80 (shC nd rd at_ 0) ∧ Fr (fun i => i = B ∨ i = F) w w' := by
  have HT := Lib.hid h
  have HK := Lib.hid hk
  have HF := Lib.hid hf
  have HR := Lib.hid (Blk.new w 32 #[.int .i64 0, .pointer none, .bool false, .bool false, .bool false, .bool false, .int .i64 0])
  have hF0 : Fr (fun _ => False) w (w.alloc (.cells #[.int .i64 0, .pointer none, .bool false, .bool false, .bool false, .bool false, .int .i64 0] 32)) := (Fr.refl _ _).alloc _
  have HT1 := Lib.hid (h.fr hF0 id id)
  have hl1 := h.blk.lt
  have hl2 := h.pm.lt
  have hl3 := hs.lt
  have hl4 := hx.lt
  have HS := Lib.hid (hs.fr hF0 id)
  have HX := Lib.hid (hx.fr hF0 id)
  have HF0 := Lib.hid hF0
  have hsB : ¬ (s = B) := (h.ne_of hs (by decide)).2
  have hFB : ¬ (F = B) := (h.ne_of hx (by decide)).2
  have hFt : ¬ (F = t) := (h.ne_of hx (by decide)).1
  have htB : ¬ (t = B) := fun e => h.ne e.symm
  have hRB : ¬ (w.heap.size = B) := by omega
  have hRF : ¬ (w.heap.size = F) := by omega
  have hRt : ¬ (w.heap.size = t) := by omega
  obtain ⟨k0, k1⟩ := HT1.out.cells
  clear h hk hf hs hx hF0
  go_enter Try.func10, Try.ntmps10
  go_wp2_with fail
  refine (get_some fd s HK.out _ HT1.out HF.out).mono ?_
  rintro e w1 ⟨rfl, rfl⟩
  go_wp2_with (first | (at_delete; refine del_list (by rfl) _ _ rfl lawK Try.underlying3 Try.underlying73 HT1.out.pm fd HK.out rfl rfl ?_; intro w2 hp2 hf2; rw [HF.out, show (if (some s).isSome then sz - 1 else sz) = sz - 1 from rfl] at hp2; have HP2 := Lib.hid hp2; have HS2 := Lib.hid (HS.out.fr hf2 hsB); have HX2 := Lib.hid (HX.out.fr hf2 hFB); have HR2 := Lib.hid (HR.out.fr hf2 hRB); have HT2 := Lib.hid (HT1.out.blk.fr hf2 htB); have HF2 := Lib.hid hf2; clear hp2 hf2; have s0 := HS2.out.cell 0; simp at s0; have x0 := HX2.out.cell 0; have x1 := HX2.out.cell 1; have x2 := HX2.out.cell 2; have x3 := HX2.out.cell 3; have x4 := HX2.out.cell 4; have x5 := HX2.out.cell 5; have x6 := HX2.out.cell 6; have x7 := HX2.out.cell 7; simp [shC] at x0 x1 x2 x3 x4 x5 x6 x7; have g7 := HX2.out.frozen 7; have r0 := HR2.out.cell 0; have r1 := HR2.out.cell 1; have r2 := HR2.out.cell 2; have r3 := HR2.out.cell 3; have r4 := HR2.out.cell 4; have r5 := HR2.out.cell 5; have r6 := HR2.out.cell 6; simp at r0 r1 r2 r3 r4 r5 r6; have q0 := HR2.out.frozen 0; have q1 := HR2.out.frozen 1; have q2 := HR2.out.frozen 2; have q3 := HR2.out.frozen 3; have q4 := HR2.out.frozen 4; have q5 := HR2.out.frozen 5; have q6 := HR2.out.frozen 6))
  have HX3 := Lib.hid (show Blk (w2.setCell ⟨F, 7, none⟩ (.int .i64 0)) F 80 (shC nd rd at_ 0) from by have e := HX2.out.set 7 (.int .i64 0); simpa [Blk, shC] using e)
  refine bodyPost_ret (results_ctt rfl _ _ w.heap.size 32 (opC nd rd at_) (0, 0) _ rfl ?_ Try.underlying32 rfl (by kernel_rfl)) rfl ?_
  · exact blk7 (Blk.set_ne HR2.out (p := ⟨F, 7, none⟩) hRF _) _ _ _ _ _ _ _
  refine ⟨rfl, ?_, blk7_ne HX3.out (fun e => hRF e.symm) _ _ _ _ _ _ _, ?_⟩
  · exact tab7 (t := t) (B := B) ⟨Blk.set_ne HT2.out (p := ⟨F, 7, none⟩) (fun e => hFt e.symm) _, HP2.out.fr ((Fr.refl (fun i => i = F) _).setCell (p := ⟨F, 7, none⟩) (.inl rfl) _) (fun e => hFB e.symm), HT.out.lo, HT.out.hi⟩ (fun e => hRt e.symm) (fun e => hRB e.symm) _ _ _ _ _ _ _
  · exact fr7 ((((HF0.out.mono (T := fun i => i = B ∨ i = F) (fun _ _ e => e.elim)).trans HF2.out (fun _ _ e => .inl e))).setCell (p := ⟨F, 7, none⟩) (.inl (.inr rfl)) _) (Nat.le_refl _) _ _ _ _ _ _ _
end Go.Proofs.Ytfmlajgabogobaa.Ds
