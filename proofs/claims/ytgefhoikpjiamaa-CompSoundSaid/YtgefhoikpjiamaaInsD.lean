/- The contract of inst.Decode: the instruction of a word, or that it is none, as its plain twin says; for every word of 32 bits. -/
import Derived.Test.YtgefhoikpjiamaaInsW
import Derived.Deep.Cut
namespace Go.Proofs.Ytgefhoikpjiamaa.Ins
open Go Go.RowKit Go.Proofs.YtgefhoikpjiamaaW.PrintWords Go.Proofs.YtgefhoikpjiamaaW.PrintLast Go.Proofs.YtgefhoikpjiamaaW.PrintMore
open Go.Proofs.Ytgefhoikpjiamaa.Hp Go.Proofs.Ytgefhoikpjiamaa.Bv
attribute [local go_sem] max2_int min2_int max_two min_two max_three min_three max_four min_four
set_option linter.unusedVariables false
set_option linter.unusedSimpArgs false
theorem blkat7 {w : World} {g : Nat} {t : TypeId} {c0 c1 c2 c3 c4 c5 c6 : Value} (h : Blk w g t #[c0, c1, c2, c3, c4, c5, c6]) : w.cell? ⟨g, 0, none⟩ = some c0 ∧ w.cell? ⟨g, 1, none⟩ = some c1 ∧ w.cell? ⟨g, 2, none⟩ = some c2 ∧ w.cell? ⟨g, 3, none⟩ = some c3 ∧ w.cell? ⟨g, 4, none⟩ = some c4 ∧ w.cell? ⟨g, 5, none⟩ = some c5 ∧ w.cell? ⟨g, 6, none⟩ = some c6 ∧ w.frozen? ⟨g, 0, none⟩ = false ∧ w.frozen? ⟨g, 1, none⟩ = false ∧ w.frozen? ⟨g, 2, none⟩ = false ∧ w.frozen? ⟨g, 3, none⟩ = false ∧ w.frozen? ⟨g, 4, none⟩ = false ∧ w.frozen? ⟨g, 5, none⟩ = false ∧ w.frozen? ⟨g, 6, none⟩ = false :=
  ⟨h.cell 0, h.cell 1, h.cell 2, h.cell 3, h.cell 4, h.cell 5, h.cell 6, h.frozen 0, h.frozen 1, h.frozen 2, h.frozen 3, h.frozen 4, h.frozen 5, h.frozen 6⟩
theorem blk9 {w : World} {g : Nat} {t : TypeId} {c0 c1 c2 c3 c4 c5 c6 : Value} (h : Blk w g t #[c0, c1, c2, c3, c4, c5, c6]) (v0 v1 v2 v3 v4 v5 v6 u1 u2 : Value) :
    Blk (((((((((w.setCell ⟨g, 0, none⟩ v0).setCell ⟨g, 1, none⟩ v1).setCell ⟨g, 2, none⟩ v2).setCell ⟨g, 3, none⟩ v3).setCell ⟨g, 4, none⟩ v4).setCell ⟨g, 5, none⟩ v5).setCell ⟨g, 6, none⟩ v6).setCell ⟨g, 1, none⟩ u1).setCell ⟨g, 2, none⟩ u2) g t #[v0, u1, u2, v3, v4, v5, v6] := by
  have e := ((blk7 h v0 v1 v2 v3 v4 v5 v6).set 1 u1).set 2 u2
  simpa [Blk] using e
theorem size4_no {i : I7} (h : i.1 = 0) : size4 i = (i0, false) := by unfold size4; rw [if_pos h]
theorem size4_yes {i : I7} (h : ¬ i.1 = 0) : size4 i = ((i.1, i.2.1, i.2.2.1, i.2.2.2.1, i.2.2.2.2.1, i.2.2.2.2.2.1, 4), true) := by unfold size4; rw [if_neg h]
theorem field_fr (w a n : Nat) (hw : w < 4294967296) (ha : a ≤ 32) (hn : n ≤ 32) (W : World) : Calls Try.prog 44 #[.int .u32 (w : Int), .int .i64 (a : Int), .int .i64 (n : Int)] W fun e w' => e = .returned (.int .i64 ((fld w a n : Nat) : Int)) ∧ Fr (fun _ => False) W w' :=
  (field_any w a n hw ha hn W).mono fun _ _ g => ⟨g.1, Fr.drawn g.2⟩
theorem insD_sq0 (w : Nat) (hw : w < 4294967296) : Hid (∀ W, Calls Try.prog 44 #[.int .u32 (w : Int), .int .i64 7, .int .i64 5] W fun e w' => e = .returned (.int .i64 ((fld w 7 5 : Nat) : Int)) ∧ Fr (fun _ => False) W w') := Lib.hid (field_fr w 7 5 hw (by decide) (by decide))
theorem insD_sq1 (w : Nat) (hw : w < 4294967296) : Hid (∀ W, Calls Try.prog 44 #[.int .u32 (w : Int), .int .i64 12, .int .i64 3] W fun e w' => e = .returned (.int .i64 ((fld w 12 3 : Nat) : Int)) ∧ Fr (fun _ => False) W w') := Lib.hid (field_fr w 12 3 hw (by decide) (by decide))
theorem insD_sq2 (w : Nat) (hw : w < 4294967296) : Hid (∀ W, Calls Try.prog 44 #[.int .u32 (w : Int), .int .i64 15, .int .i64 5] W fun e w' => e = .returned (.int .i64 ((fld w 15 5 : Nat) : Int)) ∧ Fr (fun _ => False) W w') := Lib.hid (field_fr w 15 5 hw (by decide) (by decide))
theorem insD_sq3 (w : Nat) (hw : w < 4294967296) : Hid (∀ W, Calls Try.prog 44 #[.int .u32 (w : Int), .int .i64 20, .int .i64 5] W fun e w' => e = .returned (.int .i64 ((fld w 20 5 : Nat) : Int)) ∧ Fr (fun _ => False) W w') := Lib.hid (field_fr w 20 5 hw (by decide) (by decide))
theorem insD_sq4 (w : Nat) (hw : w < 4294967296) : Hid (∀ W, Calls Try.prog 44 #[.int .u32 (w : Int), .int .i64 25, .int .i64 7] W fun e w' => e = .returned (.int .i64 ((fld w 25 7 : Nat) : Int)) ∧ Fr (fun _ => False) W w') := Lib.hid (field_fr w 25 7 hw (by decide) (by decide))
set_option maxRecDepth 100000 in
set_option maxHeartbeats 4000000 in
theorem dec_lui (w : Nat) (hw : w < 4294967296) (W : World) (ck : fld w 0 7 = 55) : Calls Try.prog 36 #[.int .u32 (w : Int)] W fun e w' => e = .returned (.tuple #[i7 (decP w).1, .bool (decP w).2]) ∧ Fr (fun _ => False) W w' := by
  have hf8 : fld w 12 3 < 8 := fld_lt w 12 3
  have hP : decP w = ((1, ((fld w 7 5 : Nat) : Int), 0, 0, uP w, 0, 4), true) := by unfold decP kindP; rw [if_pos ck]; exact size4_yes (show ¬ (1 : Int) = 0 by decide)
  rw [hP]
  have H75 := insD_sq0 w hw
  have H123 := insD_sq1 w hw
  have H155 := insD_sq2 w hw
  have H205 := insD_sq3 w hw
  have H257 := insD_sq4 w hw
  have H07 := Lib.hid (show ∀ W, Calls Try.prog 44 #[.int .u32 (w : Int), .int .i64 0, .int .i64 7] W fun e w' => e = .returned (.int .i64 55) ∧ Fr (fun _ => False) W w' from fun W => by have g := field_fr w 0 7 hw (by decide) (by decide) W; rw [ck] at g; exact g)
  have HI := Lib.hid (show ∀ W, Calls Try.prog 45 #[.int .u32 (w : Int)] W fun e w' => e = .returned (.int .i64 (uP w)) ∧ Fr (fun _ => False) W w' from fun W => (uImm_any w hw W).mono fun _ _ g => ⟨g.1, Fr.drawn g.2⟩)
  clear hP hf8 ck
  generalize uP w = n at *
  generalize fld w 7 5 = rd at *
  generalize fld w 15 5 = r1 at *
  generalize fld w 20 5 = r2 at *
  generalize fld w 25 7 = s7 at *
  generalize fld w 12 3 = f3 at *
  go_enter Try.func36, Try.ntmps36
  go_wp2_with fail
  have HA := Lib.hid (Blk.new W 25 #[.int .i64 0, .int .i64 0, .int .i64 0, .int .i64 0, .int .i64 0, .int .i64 0, .int .i64 0])
  have HF := Lib.hid ((Fr.refl (fun _ => False) W).alloc (.cells #[.int .i64 0, .int .i64 0, .int .i64 0, .int .i64 0, .int .i64 0, .int .i64 0, .int .i64 0] 25))
  generalize W.alloc (.cells #[.int .i64 0, .int .i64 0, .int .i64 0, .int .i64 0, .int .i64 0, .int .i64 0, .int .i64 0] 25) = wz at *
  refine (H75.out _).mono ?_
  rintro e u0 ⟨rfl, hf⟩
  have HA := Lib.hid (HA.out.fr hf id)
  have HF := Lib.hid (HF.out.trans hf (fun _ _ h => h))
  clear hf
  go_wp2_with fail
  refine (H123.out _).mono ?_
  rintro e u1 ⟨rfl, hf⟩
  have HA := Lib.hid (HA.out.fr hf id)
  have HF := Lib.hid (HF.out.trans hf (fun _ _ h => h))
  clear hf
  go_wp2_with fail
  refine (H155.out _).mono ?_
  rintro e u2 ⟨rfl, hf⟩
  have HA := Lib.hid (HA.out.fr hf id)
  have HF := Lib.hid (HF.out.trans hf (fun _ _ h => h))
  clear hf
  go_wp2_with fail
  refine (H205.out _).mono ?_
  rintro e u3 ⟨rfl, hf⟩
  have HA := Lib.hid (HA.out.fr hf id)
  have HF := Lib.hid (HF.out.trans hf (fun _ _ h => h))
  clear hf
  go_wp2_with fail
  refine (H257.out _).mono ?_
  rintro e u4 ⟨rfl, hf⟩
  have HA := Lib.hid (HA.out.fr hf id)
  have HF := Lib.hid (HF.out.trans hf (fun _ _ h => h))
  clear hf
  go_wp2_with fail
  have hlt := HA.out.lt
  have HB := Lib.hid (Blk.new u4 25 #[.int .i64 0, .int .i64 0, .int .i64 0, .int .i64 0, .int .i64 0, .int .i64 0, .int .i64 0])
  have HA := Lib.hid (HA.out.alloc (.cells #[.int .i64 0, .int .i64 0, .int .i64 0, .int .i64 0, .int .i64 0, .int .i64 0, .int .i64 0] 25))
  have HF := Lib.hid (HF.out.alloc (.cells #[.int .i64 0, .int .i64 0, .int .i64 0, .int .i64 0, .int .i64 0, .int .i64 0, .int .i64 0] 25))
  generalize u4.alloc (.cells #[.int .i64 0, .int .i64 0, .int .i64 0, .int .i64 0, .int .i64 0, .int .i64 0, .int .i64 0] 25) = vz at *
  generalize u4.heap.size = gb at *
  refine (H07.out _).mono ?_
  rintro e v0 ⟨rfl, hf⟩
  have HA := Lib.hid (HA.out.fr hf id)
  have HF := Lib.hid (HF.out.trans hf (fun _ _ h => h))
  have HB := Lib.hid (HB.out.fr hf id)
  clear hf
  go_wp2_with fail
  refine (HI.out _).mono ?_
  rintro e v1 ⟨rfl, hf⟩
  have HA := Lib.hid (HA.out.fr hf id)
  have HF := Lib.hid (HF.out.trans hf (fun _ _ h => h))
  have HB := Lib.hid (HB.out.fr hf id)
  clear hf
  obtain ⟨ka0, ka1, ka2, ka3, ka4, ka5, ka6, fa0, fa1, fa2, fa3, fa4, fa5, fa6⟩ := blkat7 HA.out
  obtain ⟨kb0, kb1, kb2, kb3, kb4, kb5, kb6, fb0, fb1, fb2, fb3, fb4, fb5, fb6⟩ := blkat7 HB.out
  have hne : ¬ gb = W.heap.size := by omega
  have hne' : ¬ W.heap.size = gb := by omega
  go_upto_region 26 with (fail)
  have HB' := Lib.hid (blk7 HB.out (.int .i64 (1)) (.int .i64 ((rd : Int))) (.int .i64 (0)) (.int .i64 (0)) (.int .i64 (n)) (.int .i64 (0)) (.int .i64 (0)))
  have HA' := Lib.hid (show Blk (((((((v1.setCell ⟨gb, 0, none⟩ (.int .i64 (1))).setCell ⟨gb, 1, none⟩ (.int .i64 ((rd : Int)))).setCell ⟨gb, 2, none⟩ (.int .i64 (0))).setCell ⟨gb, 3, none⟩ (.int .i64 (0))).setCell ⟨gb, 4, none⟩ (.int .i64 (n))).setCell ⟨gb, 5, none⟩ (.int .i64 (0))).setCell ⟨gb, 6, none⟩ (.int .i64 (0))) W.heap.size 25 #[.int .i64 0, .int .i64 0, .int .i64 0, .int .i64 0, .int .i64 0, .int .i64 0, .int .i64 0] from by repeat (first | (with_reducible exact HA.out) | (with_reducible refine Blk.set_ne ?_ (by first | omega | (dsimp only; omega) | simp) _)))
  have HF' := Lib.hid (show Fr (fun _ => False) W (((((((v1.setCell ⟨gb, 0, none⟩ (.int .i64 (1))).setCell ⟨gb, 1, none⟩ (.int .i64 ((rd : Int)))).setCell ⟨gb, 2, none⟩ (.int .i64 (0))).setCell ⟨gb, 3, none⟩ (.int .i64 (0))).setCell ⟨gb, 4, none⟩ (.int .i64 (n))).setCell ⟨gb, 5, none⟩ (.int .i64 (0))).setCell ⟨gb, 6, none⟩ (.int .i64 (0))) from by (repeat (first | (with_reducible exact HF.out) | (with_reducible refine Fr.setCell ?_ (Or.inr (by first | omega | (dsimp only; omega) | simp)) _))))
  clear hne hne' ka0 fa0 ka1 fa1 ka2 fa2 ka3 fa3 ka4 fa4 ka5 fa5 ka6 fa6 kb0 fb0 kb1 fb1 kb2 fb2 kb3 fb3 kb4 fb4 kb5 fb5 kb6 fb6
  clear HA HB HF
  generalize (((((((v1.setCell ⟨gb, 0, none⟩ (.int .i64 (1))).setCell ⟨gb, 1, none⟩ (.int .i64 ((rd : Int)))).setCell ⟨gb, 2, none⟩ (.int .i64 (0))).setCell ⟨gb, 3, none⟩ (.int .i64 (0))).setCell ⟨gb, 4, none⟩ (.int .i64 (n))).setCell ⟨gb, 5, none⟩ (.int .i64 (0))).setCell ⟨gb, 6, none⟩ (.int .i64 (0))) = wx at *
  have HA := HA'
  have HB := HB'
  have HF := HF'
  clear HA' HB' HF'
  obtain ⟨ka0, ka1, ka2, ka3, ka4, ka5, ka6, fa0, fa1, fa2, fa3, fa4, fa5, fa6⟩ := blkat7 HA.out
  obtain ⟨kb0, kb1, kb2, kb3, kb4, kb5, kb6, fb0, fb1, fb2, fb3, fb4, fb5, fb6⟩ := blkat7 HB.out
  have hne : ¬ gb = W.heap.size := by omega
  have hne' : ¬ W.heap.size = gb := by omega
  go_wp2_with fail
  refine bodyPost_ret (results_ct rfl _ _ W.heap.size 25 #[.int .i64 (1), .int .i64 ((rd : Int)), .int .i64 (0), .int .i64 (0), .int .i64 (n), .int .i64 (0), .int .i64 (4)] (0, 0) _ rfl ?_ Try.underlying25 rfl (by kernel_rfl)) rfl ?_
  · exact blk7 (by repeat (first | (with_reducible exact HA.out) | (with_reducible refine Blk.set_ne ?_ (by first | omega | (dsimp only; omega) | simp) _))) _ _ _ _ _ _ _
  · exact ⟨rfl, by (repeat (first | (with_reducible exact HF.out) | (with_reducible refine Fr.setCell ?_ (Or.inr (by first | omega | (dsimp only; omega) | simp)) _)))⟩
set_option maxRecDepth 100000 in
set_option maxHeartbeats 4000000 in
theorem dec_auipc (w : Nat) (hw : w < 4294967296) (W : World) (ck : fld w 0 7 = 23) : Calls Try.prog 36 #[.int .u32 (w : Int)] W fun e w' => e = .returned (.tuple #[i7 (decP w).1, .bool (decP w).2]) ∧ Fr (fun _ => False) W w' := by
  have hf8 : fld w 12 3 < 8 := fld_lt w 12 3
  have hP : decP w = ((2, ((fld w 7 5 : Nat) : Int), 0, 0, uP w, 0, 4), true) := by unfold decP kindP; rw [if_neg (by omega), if_pos ck]; exact size4_yes (show ¬ (2 : Int) = 0 by decide)
  rw [hP]
  have H75 := insD_sq0 w hw
  have H123 := insD_sq1 w hw
  have H155 := insD_sq2 w hw
  have H205 := insD_sq3 w hw
  have H257 := insD_sq4 w hw
  have H07 := Lib.hid (show ∀ W, Calls Try.prog 44 #[.int .u32 (w : Int), .int .i64 0, .int .i64 7] W fun e w' => e = .returned (.int .i64 23) ∧ Fr (fun _ => False) W w' from fun W => by have g := field_fr w 0 7 hw (by decide) (by decide) W; rw [ck] at g; exact g)
  have HI := Lib.hid (show ∀ W, Calls Try.prog 45 #[.int .u32 (w : Int)] W fun e w' => e = .returned (.int .i64 (uP w)) ∧ Fr (fun _ => False) W w' from fun W => (uImm_any w hw W).mono fun _ _ g => ⟨g.1, Fr.drawn g.2⟩)
  clear hP hf8 ck
  generalize uP w = n at *
  generalize fld w 7 5 = rd at *
  generalize fld w 15 5 = r1 at *
  generalize fld w 20 5 = r2 at *
  generalize fld w 25 7 = s7 at *
  generalize fld w 12 3 = f3 at *
  go_enter Try.func36, Try.ntmps36
  go_wp2_with fail
  have HA := Lib.hid (Blk.new W 25 #[.int .i64 0, .int .i64 0, .int .i64 0, .int .i64 0, .int .i64 0, .int .i64 0, .int .i64 0])
  have HF := Lib.hid ((Fr.refl (fun _ => False) W).alloc (.cells #[.int .i64 0, .int .i64 0, .int .i64 0, .int .i64 0, .int .i64 0, .int .i64 0, .int .i64 0] 25))
  generalize W.alloc (.cells #[.int .i64 0, .int .i64 0, .int .i64 0, .int .i64 0, .int .i64 0, .int .i64 0, .int .i64 0] 25) = wz at *
  refine (H75.out _).mono ?_
  rintro e u0 ⟨rfl, hf⟩
  have HA := Lib.hid (HA.out.fr hf id)
  have HF := Lib.hid (HF.out.trans hf (fun _ _ h => h))
  clear hf
  go_wp2_with fail
  refine (H123.out _).mono ?_
  rintro e u1 ⟨rfl, hf⟩
  have HA := Lib.hid (HA.out.fr hf id)
  have HF := Lib.hid (HF.out.trans hf (fun _ _ h => h))
  clear hf
  go_wp2_with fail
  refine (H155.out _).mono ?_
  rintro e u2 ⟨rfl, hf⟩
  have HA := Lib.hid (HA.out.fr hf id)
  have HF := Lib.hid (HF.out.trans hf (fun _ _ h => h))
  clear hf
  go_wp2_with fail
  refine (H205.out _).mono ?_
  rintro e u3 ⟨rfl, hf⟩
  have HA := Lib.hid (HA.out.fr hf id)
  have HF := Lib.hid (HF.out.trans hf (fun _ _ h => h))
  clear hf
  go_wp2_with fail
  refine (H257.out _).mono ?_
  rintro e u4 ⟨rfl, hf⟩
  have HA := Lib.hid (HA.out.fr hf id)
  have HF := Lib.hid (HF.out.trans hf (fun _ _ h => h))
  clear hf
  go_wp2_with fail
  have hlt := HA.out.lt
  have HB := Lib.hid (Blk.new u4 25 #[.int .i64 0, .int .i64 0, .int .i64 0, .int .i64 0, .int .i64 0, .int .i64 0, .int .i64 0])
  have HA := Lib.hid (HA.out.alloc (.cells #[.int .i64 0, .int .i64 0, .int .i64 0, .int .i64 0, .int .i64 0, .int .i64 0, .int .i64 0] 25))
  have HF := Lib.hid (HF.out.alloc (.cells #[.int .i64 0, .int .i64 0, .int .i64 0, .int .i64 0, .int .i64 0, .int .i64 0, .int .i64 0] 25))
  generalize u4.alloc (.cells #[.int .i64 0, .int .i64 0, .int .i64 0, .int .i64 0, .int .i64 0, .int .i64 0, .int .i64 0] 25) = vz at *
  generalize u4.heap.size = gb at *
  refine (H07.out _).mono ?_
  rintro e v0 ⟨rfl, hf⟩
  have HA := Lib.hid (HA.out.fr hf id)
  have HF := Lib.hid (HF.out.trans hf (fun _ _ h => h))
  have HB := Lib.hid (HB.out.fr hf id)
  clear hf
  go_wp2_with fail
  refine (HI.out _).mono ?_
  rintro e v1 ⟨rfl, hf⟩
  have HA := Lib.hid (HA.out.fr hf id)
  have HF := Lib.hid (HF.out.trans hf (fun _ _ h => h))
  have HB := Lib.hid (HB.out.fr hf id)
  clear hf
  obtain ⟨ka0, ka1, ka2, ka3, ka4, ka5, ka6, fa0, fa1, fa2, fa3, fa4, fa5, fa6⟩ := blkat7 HA.out
  obtain ⟨kb0, kb1, kb2, kb3, kb4, kb5, kb6, fb0, fb1, fb2, fb3, fb4, fb5, fb6⟩ := blkat7 HB.out
  have hne : ¬ gb = W.heap.size := by omega
  have hne' : ¬ W.heap.size = gb := by omega
  go_upto_region 26 with (fail)
  have HB' := Lib.hid (blk7 HB.out (.int .i64 (2)) (.int .i64 ((rd : Int))) (.int .i64 (0)) (.int .i64 (0)) (.int .i64 (n)) (.int .i64 (0)) (.int .i64 (0)))
  have HA' := Lib.hid (show Blk (((((((v1.setCell ⟨gb, 0, none⟩ (.int .i64 (2))).setCell ⟨gb, 1, none⟩ (.int .i64 ((rd : Int)))).setCell ⟨gb, 2, none⟩ (.int .i64 (0))).setCell ⟨gb, 3, none⟩ (.int .i64 (0))).setCell ⟨gb, 4, none⟩ (.int .i64 (n))).setCell ⟨gb, 5, none⟩ (.int .i64 (0))).setCell ⟨gb, 6, none⟩ (.int .i64 (0))) W.heap.size 25 #[.int .i64 0, .int .i64 0, .int .i64 0, .int .i64 0, .int .i64 0, .int .i64 0, .int .i64 0] from by repeat (first | (with_reducible exact HA.out) | (with_reducible refine Blk.set_ne ?_ (by first | omega | (dsimp only; omega) | simp) _)))
  have HF' := Lib.hid (show Fr (fun _ => False) W (((((((v1.setCell ⟨gb, 0, none⟩ (.int .i64 (2))).setCell ⟨gb, 1, none⟩ (.int .i64 ((rd : Int)))).setCell ⟨gb, 2, none⟩ (.int .i64 (0))).setCell ⟨gb, 3, none⟩ (.int .i64 (0))).setCell ⟨gb, 4, none⟩ (.int .i64 (n))).setCell ⟨gb, 5, none⟩ (.int .i64 (0))).setCell ⟨gb, 6, none⟩ (.int .i64 (0))) from by (repeat (first | (with_reducible exact HF.out) | (with_reducible refine Fr.setCell ?_ (Or.inr (by first | omega | (dsimp only; omega) | simp)) _))))
  clear hne hne' ka0 fa0 ka1 fa1 ka2 fa2 ka3 fa3 ka4 fa4 ka5 fa5 ka6 fa6 kb0 fb0 kb1 fb1 kb2 fb2 kb3 fb3 kb4 fb4 kb5 fb5 kb6 fb6
  clear HA HB HF
  generalize (((((((v1.setCell ⟨gb, 0, none⟩ (.int .i64 (2))).setCell ⟨gb, 1, none⟩ (.int .i64 ((rd : Int)))).setCell ⟨gb, 2, none⟩ (.int .i64 (0))).setCell ⟨gb, 3, none⟩ (.int .i64 (0))).setCell ⟨gb, 4, none⟩ (.int .i64 (n))).setCell ⟨gb, 5, none⟩ (.int .i64 (0))).setCell ⟨gb, 6, none⟩ (.int .i64 (0))) = wx at *
  have HA := HA'
  have HB := HB'
  have HF := HF'
  clear HA' HB' HF'
  obtain ⟨ka0, ka1, ka2, ka3, ka4, ka5, ka6, fa0, fa1, fa2, fa3, fa4, fa5, fa6⟩ := blkat7 HA.out
  obtain ⟨kb0, kb1, kb2, kb3, kb4, kb5, kb6, fb0, fb1, fb2, fb3, fb4, fb5, fb6⟩ := blkat7 HB.out
  have hne : ¬ gb = W.heap.size := by omega
  have hne' : ¬ W.heap.size = gb := by omega
  go_wp2_with fail
  refine bodyPost_ret (results_ct rfl _ _ W.heap.size 25 #[.int .i64 (2), .int .i64 ((rd : Int)), .int .i64 (0), .int .i64 (0), .int .i64 (n), .int .i64 (0), .int .i64 (4)] (0, 0) _ rfl ?_ Try.underlying25 rfl (by kernel_rfl)) rfl ?_
  · exact blk7 (by repeat (first | (with_reducible exact HA.out) | (with_reducible refine Blk.set_ne ?_ (by first | omega | (dsimp only; omega) | simp) _))) _ _ _ _ _ _ _
  · exact ⟨rfl, by (repeat (first | (with_reducible exact HF.out) | (with_reducible refine Fr.setCell ?_ (Or.inr (by first | omega | (dsimp only; omega) | simp)) _)))⟩
set_option maxRecDepth 100000 in
set_option maxHeartbeats 4000000 in
theorem dec_jal (w : Nat) (hw : w < 4294967296) (W : World) (ck : fld w 0 7 = 111) : Calls Try.prog 36 #[.int .u32 (w : Int)] W fun e w' => e = .returned (.tuple #[i7 (decP w).1, .bool (decP w).2]) ∧ Fr (fun _ => False) W w' := by
  have hf8 : fld w 12 3 < 8 := fld_lt w 12 3
  have hP : decP w = ((3, ((fld w 7 5 : Nat) : Int), 0, 0, jP w, 0, 4), true) := by unfold decP kindP; rw [if_neg (by omega), if_neg (by omega), if_pos ck]; exact size4_yes (show ¬ (3 : Int) = 0 by decide)
  rw [hP]
  have H75 := insD_sq0 w hw
  have H123 := insD_sq1 w hw
  have H155 := insD_sq2 w hw
  have H205 := insD_sq3 w hw
  have H257 := insD_sq4 w hw
  have H07 := Lib.hid (show ∀ W, Calls Try.prog 44 #[.int .u32 (w : Int), .int .i64 0, .int .i64 7] W fun e w' => e = .returned (.int .i64 111) ∧ Fr (fun _ => False) W w' from fun W => by have g := field_fr w 0 7 hw (by decide) (by decide) W; rw [ck] at g; exact g)
  have HI := Lib.hid (show ∀ W, Calls Try.prog 46 #[.int .u32 (w : Int)] W fun e w' => e = .returned (.int .i64 (jP w)) ∧ Fr (fun _ => False) W w' from fun W => (jImm_any w hw W).mono fun _ _ g => ⟨g.1, Fr.drawn g.2⟩)
  clear hP hf8 ck
  generalize jP w = n at *
  generalize fld w 7 5 = rd at *
  generalize fld w 15 5 = r1 at *
  generalize fld w 20 5 = r2 at *
  generalize fld w 25 7 = s7 at *
  generalize fld w 12 3 = f3 at *
  go_enter Try.func36, Try.ntmps36
  go_wp2_with fail
  have HA := Lib.hid (Blk.new W 25 #[.int .i64 0, .int .i64 0, .int .i64 0, .int .i64 0, .int .i64 0, .int .i64 0, .int .i64 0])
  have HF := Lib.hid ((Fr.refl (fun _ => False) W).alloc (.cells #[.int .i64 0, .int .i64 0, .int .i64 0, .int .i64 0, .int .i64 0, .int .i64 0, .int .i64 0] 25))
  generalize W.alloc (.cells #[.int .i64 0, .int .i64 0, .int .i64 0, .int .i64 0, .int .i64 0, .int .i64 0, .int .i64 0] 25) = wz at *
  refine (H75.out _).mono ?_
  rintro e u0 ⟨rfl, hf⟩
  have HA := Lib.hid (HA.out.fr hf id)
  have HF := Lib.hid (HF.out.trans hf (fun _ _ h => h))
  clear hf
  go_wp2_with fail
  refine (H123.out _).mono ?_
  rintro e u1 ⟨rfl, hf⟩
  have HA := Lib.hid (HA.out.fr hf id)
  have HF := Lib.hid (HF.out.trans hf (fun _ _ h => h))
  clear hf
  go_wp2_with fail
  refine (H155.out _).mono ?_
  rintro e u2 ⟨rfl, hf⟩
  have HA := Lib.hid (HA.out.fr hf id)
  have HF := Lib.hid (HF.out.trans hf (fun _ _ h => h))
  clear hf
  go_wp2_with fail
  refine (H205.out _).mono ?_
  rintro e u3 ⟨rfl, hf⟩
  have HA := Lib.hid (HA.out.fr hf id)
  have HF := Lib.hid (HF.out.trans hf (fun _ _ h => h))
  clear hf
  go_wp2_with fail
  refine (H257.out _).mono ?_
  rintro e u4 ⟨rfl, hf⟩
  have HA := Lib.hid (HA.out.fr hf id)
  have HF := Lib.hid (HF.out.trans hf (fun _ _ h => h))
  clear hf
  go_wp2_with fail
  have hlt := HA.out.lt
  have HB := Lib.hid (Blk.new u4 25 #[.int .i64 0, .int .i64 0, .int .i64 0, .int .i64 0, .int .i64 0, .int .i64 0, .int .i64 0])
  have HA := Lib.hid (HA.out.alloc (.cells #[.int .i64 0, .int .i64 0, .int .i64 0, .int .i64 0, .int .i64 0, .int .i64 0, .int .i64 0] 25))
  have HF := Lib.hid (HF.out.alloc (.cells #[.int .i64 0, .int .i64 0, .int .i64 0, .int .i64 0, .int .i64 0, .int .i64 0, .int .i64 0] 25))
  generalize u4.alloc (.cells #[.int .i64 0, .int .i64 0, .int .i64 0, .int .i64 0, .int .i64 0, .int .i64 0, .int .i64 0] 25) = vz at *
  generalize u4.heap.size = gb at *
  refine (H07.out _).mono ?_
  rintro e v0 ⟨rfl, hf⟩
  have HA := Lib.hid (HA.out.fr hf id)
  have HF := Lib.hid (HF.out.trans hf (fun _ _ h => h))
  have HB := Lib.hid (HB.out.fr hf id)
  clear hf
  go_wp2_with fail
  refine (HI.out _).mono ?_
  rintro e v1 ⟨rfl, hf⟩
  have HA := Lib.hid (HA.out.fr hf id)
  have HF := Lib.hid (HF.out.trans hf (fun _ _ h => h))
  have HB := Lib.hid (HB.out.fr hf id)
  clear hf
  obtain ⟨ka0, ka1, ka2, ka3, ka4, ka5, ka6, fa0, fa1, fa2, fa3, fa4, fa5, fa6⟩ := blkat7 HA.out
  obtain ⟨kb0, kb1, kb2, kb3, kb4, kb5, kb6, fb0, fb1, fb2, fb3, fb4, fb5, fb6⟩ := blkat7 HB.out
  have hne : ¬ gb = W.heap.size := by omega
  have hne' : ¬ W.heap.size = gb := by omega
  go_upto_region 26 with (fail)
  have HB' := Lib.hid (blk7 HB.out (.int .i64 (3)) (.int .i64 ((rd : Int))) (.int .i64 (0)) (.int .i64 (0)) (.int .i64 (n)) (.int .i64 (0)) (.int .i64 (0)))
  have HA' := Lib.hid (show Blk (((((((v1.setCell ⟨gb, 0, none⟩ (.int .i64 (3))).setCell ⟨gb, 1, none⟩ (.int .i64 ((rd : Int)))).setCell ⟨gb, 2, none⟩ (.int .i64 (0))).setCell ⟨gb, 3, none⟩ (.int .i64 (0))).setCell ⟨gb, 4, none⟩ (.int .i64 (n))).setCell ⟨gb, 5, none⟩ (.int .i64 (0))).setCell ⟨gb, 6, none⟩ (.int .i64 (0))) W.heap.size 25 #[.int .i64 0, .int .i64 0, .int .i64 0, .int .i64 0, .int .i64 0, .int .i64 0, .int .i64 0] from by repeat (first | (with_reducible exact HA.out) | (with_reducible refine Blk.set_ne ?_ (by first | omega | (dsimp only; omega) | simp) _)))
  have HF' := Lib.hid (show Fr (fun _ => False) W (((((((v1.setCell ⟨gb, 0, none⟩ (.int .i64 (3))).setCell ⟨gb, 1, none⟩ (.int .i64 ((rd : Int)))).setCell ⟨gb, 2, none⟩ (.int .i64 (0))).setCell ⟨gb, 3, none⟩ (.int .i64 (0))).setCell ⟨gb, 4, none⟩ (.int .i64 (n))).setCell ⟨gb, 5, none⟩ (.int .i64 (0))).setCell ⟨gb, 6, none⟩ (.int .i64 (0))) from by (repeat (first | (with_reducible exact HF.out) | (with_reducible refine Fr.setCell ?_ (Or.inr (by first | omega | (dsimp only; omega) | simp)) _))))
  clear hne hne' ka0 fa0 ka1 fa1 ka2 fa2 ka3 fa3 ka4 fa4 ka5 fa5 ka6 fa6 kb0 fb0 kb1 fb1 kb2 fb2 kb3 fb3 kb4 fb4 kb5 fb5 kb6 fb6
  clear HA HB HF
  generalize (((((((v1.setCell ⟨gb, 0, none⟩ (.int .i64 (3))).setCell ⟨gb, 1, none⟩ (.int .i64 ((rd : Int)))).setCell ⟨gb, 2, none⟩ (.int .i64 (0))).setCell ⟨gb, 3, none⟩ (.int .i64 (0))).setCell ⟨gb, 4, none⟩ (.int .i64 (n))).setCell ⟨gb, 5, none⟩ (.int .i64 (0))).setCell ⟨gb, 6, none⟩ (.int .i64 (0))) = wx at *
  have HA := HA'
  have HB := HB'
  have HF := HF'
  clear HA' HB' HF'
  obtain ⟨ka0, ka1, ka2, ka3, ka4, ka5, ka6, fa0, fa1, fa2, fa3, fa4, fa5, fa6⟩ := blkat7 HA.out
  obtain ⟨kb0, kb1, kb2, kb3, kb4, kb5, kb6, fb0, fb1, fb2, fb3, fb4, fb5, fb6⟩ := blkat7 HB.out
  have hne : ¬ gb = W.heap.size := by omega
  have hne' : ¬ W.heap.size = gb := by omega
  go_wp2_with fail
  refine bodyPost_ret (results_ct rfl _ _ W.heap.size 25 #[.int .i64 (3), .int .i64 ((rd : Int)), .int .i64 (0), .int .i64 (0), .int .i64 (n), .int .i64 (0), .int .i64 (4)] (0, 0) _ rfl ?_ Try.underlying25 rfl (by kernel_rfl)) rfl ?_
  · exact blk7 (by repeat (first | (with_reducible exact HA.out) | (with_reducible refine Blk.set_ne ?_ (by first | omega | (dsimp only; omega) | simp) _))) _ _ _ _ _ _ _
  · exact ⟨rfl, by (repeat (first | (with_reducible exact HF.out) | (with_reducible refine Fr.setCell ?_ (Or.inr (by first | omega | (dsimp only; omega) | simp)) _)))⟩
set_option maxRecDepth 100000 in
set_option maxHeartbeats 4000000 in
theorem dec_branch (w : Nat) (hw : w < 4294967296) (W : World) (ck : fld w 0 7 = 99) (c : ¬ brT (fld w 12 3) = 0) : Calls Try.prog 36 #[.int .u32 (w : Int)] W fun e w' => e = .returned (.tuple #[i7 (decP w).1, .bool (decP w).2]) ∧ Fr (fun _ => False) W w' := by
  have hf8 : fld w 12 3 < 8 := fld_lt w 12 3
  have hP : decP w = ((brT (fld w 12 3), 0, ((fld w 15 5 : Nat) : Int), ((fld w 20 5 : Nat) : Int), bP w, 0, 4), true) := by unfold decP kindP; rw [if_neg (by omega), if_neg (by omega), if_neg (by omega), if_pos ck]; exact size4_yes (c)
  rw [hP]
  have H75 := insD_sq0 w hw
  have H123 := insD_sq1 w hw
  have H155 := insD_sq2 w hw
  have H205 := insD_sq3 w hw
  have H257 := insD_sq4 w hw
  have H07 := Lib.hid (show ∀ W, Calls Try.prog 44 #[.int .u32 (w : Int), .int .i64 0, .int .i64 7] W fun e w' => e = .returned (.int .i64 99) ∧ Fr (fun _ => False) W w' from fun W => by have g := field_fr w 0 7 hw (by decide) (by decide) W; rw [ck] at g; exact g)
  have HI := Lib.hid (show ∀ W, Calls Try.prog 48 #[.int .u32 (w : Int)] W fun e w' => e = .returned (.int .i64 (bP w)) ∧ Fr (fun _ => False) W w' from fun W => (bImm_any w hw W).mono fun _ _ g => ⟨g.1, Fr.drawn g.2⟩)
  have HT := Lib.hid (show ∀ W, Calls Try.prog 47 #[.int .i64 ((fld w 12 3 : Nat) : Int)] W fun e w' => e = .returned (.int .i64 (brT (fld w 12 3))) ∧ Fr (fun _ => False) W w' from fun W => (branches_any (fld w 12 3) hf8 W).mono fun _ _ g => ⟨g.1, Fr.drawn g.2⟩)
  clear hP hf8 ck
  generalize bP w = n at *
  generalize brT (fld w 12 3) = p at *
  generalize fld w 7 5 = rd at *
  generalize fld w 15 5 = r1 at *
  generalize fld w 20 5 = r2 at *
  generalize fld w 25 7 = s7 at *
  generalize fld w 12 3 = f3 at *
  have t0 : (p == 0) = false := beq_eq_false_iff_ne.2 c
  clear c
  go_enter Try.func36, Try.ntmps36
  go_wp2_with fail
  have HA := Lib.hid (Blk.new W 25 #[.int .i64 0, .int .i64 0, .int .i64 0, .int .i64 0, .int .i64 0, .int .i64 0, .int .i64 0])
  have HF := Lib.hid ((Fr.refl (fun _ => False) W).alloc (.cells #[.int .i64 0, .int .i64 0, .int .i64 0, .int .i64 0, .int .i64 0, .int .i64 0, .int .i64 0] 25))
  generalize W.alloc (.cells #[.int .i64 0, .int .i64 0, .int .i64 0, .int .i64 0, .int .i64 0, .int .i64 0, .int .i64 0] 25) = wz at *
  refine (H75.out _).mono ?_
  rintro e u0 ⟨rfl, hf⟩
  have HA := Lib.hid (HA.out.fr hf id)
  have HF := Lib.hid (HF.out.trans hf (fun _ _ h => h))
  clear hf
  go_wp2_with fail
  refine (H123.out _).mono ?_
  rintro e u1 ⟨rfl, hf⟩
  have HA := Lib.hid (HA.out.fr hf id)
  have HF := Lib.hid (HF.out.trans hf (fun _ _ h => h))
  clear hf
  go_wp2_with fail
  refine (H155.out _).mono ?_
  rintro e u2 ⟨rfl, hf⟩
  have HA := Lib.hid (HA.out.fr hf id)
  have HF := Lib.hid (HF.out.trans hf (fun _ _ h => h))
  clear hf
  go_wp2_with fail
  refine (H205.out _).mono ?_
  rintro e u3 ⟨rfl, hf⟩
  have HA := Lib.hid (HA.out.fr hf id)
  have HF := Lib.hid (HF.out.trans hf (fun _ _ h => h))
  clear hf
  go_wp2_with fail
  refine (H257.out _).mono ?_
  rintro e u4 ⟨rfl, hf⟩
  have HA := Lib.hid (HA.out.fr hf id)
  have HF := Lib.hid (HF.out.trans hf (fun _ _ h => h))
  clear hf
  go_wp2_with fail
  have hlt := HA.out.lt
  have HB := Lib.hid (Blk.new u4 25 #[.int .i64 0, .int .i64 0, .int .i64 0, .int .i64 0, .int .i64 0, .int .i64 0, .int .i64 0])
  have HA := Lib.hid (HA.out.alloc (.cells #[.int .i64 0, .int .i64 0, .int .i64 0, .int .i64 0, .int .i64 0, .int .i64 0, .int .i64 0] 25))
  have HF := Lib.hid (HF.out.alloc (.cells #[.int .i64 0, .int .i64 0, .int .i64 0, .int .i64 0, .int .i64 0, .int .i64 0, .int .i64 0] 25))
  generalize u4.alloc (.cells #[.int .i64 0, .int .i64 0, .int .i64 0, .int .i64 0, .int .i64 0, .int .i64 0, .int .i64 0] 25) = vz at *
  generalize u4.heap.size = gb at *
  refine (H07.out _).mono ?_
  rintro e v0 ⟨rfl, hf⟩
  have HA := Lib.hid (HA.out.fr hf id)
  have HF := Lib.hid (HF.out.trans hf (fun _ _ h => h))
  have HB := Lib.hid (HB.out.fr hf id)
  clear hf
  go_wp2_with fail
  refine (HT.out _).mono ?_
  rintro e v1 ⟨rfl, hf⟩
  have HA := Lib.hid (HA.out.fr hf id)
  have HF := Lib.hid (HF.out.trans hf (fun _ _ h => h))
  have HB := Lib.hid (HB.out.fr hf id)
  clear hf
  go_wp2_with fail
  refine (HI.out _).mono ?_
  rintro e v2 ⟨rfl, hf⟩
  have HA := Lib.hid (HA.out.fr hf id)
  have HF := Lib.hid (HF.out.trans hf (fun _ _ h => h))
  have HB := Lib.hid (HB.out.fr hf id)
  clear hf
  obtain ⟨ka0, ka1, ka2, ka3, ka4, ka5, ka6, fa0, fa1, fa2, fa3, fa4, fa5, fa6⟩ := blkat7 HA.out
  obtain ⟨kb0, kb1, kb2, kb3, kb4, kb5, kb6, fb0, fb1, fb2, fb3, fb4, fb5, fb6⟩ := blkat7 HB.out
  have hne : ¬ gb = W.heap.size := by omega
  have hne' : ¬ W.heap.size = gb := by omega
  go_upto_region 26 with (fail)
  have HB' := Lib.hid (blk7 HB.out (.int .i64 (p)) (.int .i64 (0)) (.int .i64 ((r1 : Int))) (.int .i64 ((r2 : Int))) (.int .i64 (n)) (.int .i64 (0)) (.int .i64 (0)))
  have HA' := Lib.hid (show Blk (((((((v2.setCell ⟨gb, 0, none⟩ (.int .i64 (p))).setCell ⟨gb, 1, none⟩ (.int .i64 (0))).setCell ⟨gb, 2, none⟩ (.int .i64 ((r1 : Int)))).setCell ⟨gb, 3, none⟩ (.int .i64 ((r2 : Int)))).setCell ⟨gb, 4, none⟩ (.int .i64 (n))).setCell ⟨gb, 5, none⟩ (.int .i64 (0))).setCell ⟨gb, 6, none⟩ (.int .i64 (0))) W.heap.size 25 #[.int .i64 0, .int .i64 0, .int .i64 0, .int .i64 0, .int .i64 0, .int .i64 0, .int .i64 0] from by repeat (first | (with_reducible exact HA.out) | (with_reducible refine Blk.set_ne ?_ (by first | omega | (dsimp only; omega) | simp) _)))
  have HF' := Lib.hid (show Fr (fun _ => False) W (((((((v2.setCell ⟨gb, 0, none⟩ (.int .i64 (p))).setCell ⟨gb, 1, none⟩ (.int .i64 (0))).setCell ⟨gb, 2, none⟩ (.int .i64 ((r1 : Int)))).setCell ⟨gb, 3, none⟩ (.int .i64 ((r2 : Int)))).setCell ⟨gb, 4, none⟩ (.int .i64 (n))).setCell ⟨gb, 5, none⟩ (.int .i64 (0))).setCell ⟨gb, 6, none⟩ (.int .i64 (0))) from by (repeat (first | (with_reducible exact HF.out) | (with_reducible refine Fr.setCell ?_ (Or.inr (by first | omega | (dsimp only; omega) | simp)) _))))
  clear hne hne' ka0 fa0 ka1 fa1 ka2 fa2 ka3 fa3 ka4 fa4 ka5 fa5 ka6 fa6 kb0 fb0 kb1 fb1 kb2 fb2 kb3 fb3 kb4 fb4 kb5 fb5 kb6 fb6
  clear HA HB HF
  generalize (((((((v2.setCell ⟨gb, 0, none⟩ (.int .i64 (p))).setCell ⟨gb, 1, none⟩ (.int .i64 (0))).setCell ⟨gb, 2, none⟩ (.int .i64 ((r1 : Int)))).setCell ⟨gb, 3, none⟩ (.int .i64 ((r2 : Int)))).setCell ⟨gb, 4, none⟩ (.int .i64 (n))).setCell ⟨gb, 5, none⟩ (.int .i64 (0))).setCell ⟨gb, 6, none⟩ (.int .i64 (0))) = wx at *
  have HA := HA'
  have HB := HB'
  have HF := HF'
  clear HA' HB' HF'
  obtain ⟨ka0, ka1, ka2, ka3, ka4, ka5, ka6, fa0, fa1, fa2, fa3, fa4, fa5, fa6⟩ := blkat7 HA.out
  obtain ⟨kb0, kb1, kb2, kb3, kb4, kb5, kb6, fb0, fb1, fb2, fb3, fb4, fb5, fb6⟩ := blkat7 HB.out
  have hne : ¬ gb = W.heap.size := by omega
  have hne' : ¬ W.heap.size = gb := by omega
  go_wp2_with fail
  refine bodyPost_ret (results_ct rfl _ _ W.heap.size 25 #[.int .i64 (p), .int .i64 (0), .int .i64 ((r1 : Int)), .int .i64 ((r2 : Int)), .int .i64 (n), .int .i64 (0), .int .i64 (4)] (0, 0) _ rfl ?_ Try.underlying25 rfl (by kernel_rfl)) rfl ?_
  · exact blk7 (by repeat (first | (with_reducible exact HA.out) | (with_reducible refine Blk.set_ne ?_ (by first | omega | (dsimp only; omega) | simp) _))) _ _ _ _ _ _ _
  · exact ⟨rfl, by (repeat (first | (with_reducible exact HF.out) | (with_reducible refine Fr.setCell ?_ (Or.inr (by first | omega | (dsimp only; omega) | simp)) _)))⟩
set_option maxRecDepth 100000 in
set_option maxHeartbeats 4000000 in
theorem dec_branchn (w : Nat) (hw : w < 4294967296) (W : World) (ck : fld w 0 7 = 99) (c :  brT (fld w 12 3) = 0) : Calls Try.prog 36 #[.int .u32 (w : Int)] W fun e w' => e = .returned (.tuple #[i7 (decP w).1, .bool (decP w).2]) ∧ Fr (fun _ => False) W w' := by
  have hf8 : fld w 12 3 < 8 := fld_lt w 12 3
  have hP : decP w = (i0, false) := by unfold decP kindP; rw [if_neg (by omega), if_neg (by omega), if_neg (by omega), if_pos ck]; exact size4_no c
  rw [hP]
  have H75 := insD_sq0 w hw
  have H123 := insD_sq1 w hw
  have H155 := insD_sq2 w hw
  have H205 := insD_sq3 w hw
  have H257 := insD_sq4 w hw
  have H07 := Lib.hid (show ∀ W, Calls Try.prog 44 #[.int .u32 (w : Int), .int .i64 0, .int .i64 7] W fun e w' => e = .returned (.int .i64 99) ∧ Fr (fun _ => False) W w' from fun W => by have g := field_fr w 0 7 hw (by decide) (by decide) W; rw [ck] at g; exact g)
  have HI := Lib.hid (show ∀ W, Calls Try.prog 48 #[.int .u32 (w : Int)] W fun e w' => e = .returned (.int .i64 (bP w)) ∧ Fr (fun _ => False) W w' from fun W => (bImm_any w hw W).mono fun _ _ g => ⟨g.1, Fr.drawn g.2⟩)
  have HT := Lib.hid (show ∀ W, Calls Try.prog 47 #[.int .i64 ((fld w 12 3 : Nat) : Int)] W fun e w' => e = .returned (.int .i64 (brT (fld w 12 3))) ∧ Fr (fun _ => False) W w' from fun W => (branches_any (fld w 12 3) hf8 W).mono fun _ _ g => ⟨g.1, Fr.drawn g.2⟩)
  clear hP hf8 ck
  generalize bP w = n at *
  generalize brT (fld w 12 3) = p at *
  generalize fld w 7 5 = rd at *
  generalize fld w 15 5 = r1 at *
  generalize fld w 20 5 = r2 at *
  generalize fld w 25 7 = s7 at *
  generalize fld w 12 3 = f3 at *
  have t0 : (p == 0) = true := beq_iff_eq.2 c
  clear c
  go_enter Try.func36, Try.ntmps36
  go_wp2_with fail
  have HA := Lib.hid (Blk.new W 25 #[.int .i64 0, .int .i64 0, .int .i64 0, .int .i64 0, .int .i64 0, .int .i64 0, .int .i64 0])
  have HF := Lib.hid ((Fr.refl (fun _ => False) W).alloc (.cells #[.int .i64 0, .int .i64 0, .int .i64 0, .int .i64 0, .int .i64 0, .int .i64 0, .int .i64 0] 25))
  generalize W.alloc (.cells #[.int .i64 0, .int .i64 0, .int .i64 0, .int .i64 0, .int .i64 0, .int .i64 0, .int .i64 0] 25) = wz at *
  refine (H75.out _).mono ?_
  rintro e u0 ⟨rfl, hf⟩
  have HA := Lib.hid (HA.out.fr hf id)
  have HF := Lib.hid (HF.out.trans hf (fun _ _ h => h))
  clear hf
  go_wp2_with fail
  refine (H123.out _).mono ?_
  rintro e u1 ⟨rfl, hf⟩
  have HA := Lib.hid (HA.out.fr hf id)
  have HF := Lib.hid (HF.out.trans hf (fun _ _ h => h))
  clear hf
  go_wp2_with fail
  refine (H155.out _).mono ?_
  rintro e u2 ⟨rfl, hf⟩
  have HA := Lib.hid (HA.out.fr hf id)
  have HF := Lib.hid (HF.out.trans hf (fun _ _ h => h))
  clear hf
  go_wp2_with fail
  refine (H205.out _).mono ?_
  rintro e u3 ⟨rfl, hf⟩
  have HA := Lib.hid (HA.out.fr hf id)
  have HF := Lib.hid (HF.out.trans hf (fun _ _ h => h))
  clear hf
  go_wp2_with fail
  refine (H257.out _).mono ?_
  rintro e u4 ⟨rfl, hf⟩
  have HA := Lib.hid (HA.out.fr hf id)
  have HF := Lib.hid (HF.out.trans hf (fun _ _ h => h))
  clear hf
  go_wp2_with fail
  have hlt := HA.out.lt
  have HB := Lib.hid (Blk.new u4 25 #[.int .i64 0, .int .i64 0, .int .i64 0, .int .i64 0, .int .i64 0, .int .i64 0, .int .i64 0])
  have HA := Lib.hid (HA.out.alloc (.cells #[.int .i64 0, .int .i64 0, .int .i64 0, .int .i64 0, .int .i64 0, .int .i64 0, .int .i64 0] 25))
  have HF := Lib.hid (HF.out.alloc (.cells #[.int .i64 0, .int .i64 0, .int .i64 0, .int .i64 0, .int .i64 0, .int .i64 0, .int .i64 0] 25))
  generalize u4.alloc (.cells #[.int .i64 0, .int .i64 0, .int .i64 0, .int .i64 0, .int .i64 0, .int .i64 0, .int .i64 0] 25) = vz at *
  generalize u4.heap.size = gb at *
  refine (H07.out _).mono ?_
  rintro e v0 ⟨rfl, hf⟩
  have HA := Lib.hid (HA.out.fr hf id)
  have HF := Lib.hid (HF.out.trans hf (fun _ _ h => h))
  have HB := Lib.hid (HB.out.fr hf id)
  clear hf
  go_wp2_with fail
  refine (HT.out _).mono ?_
  rintro e v1 ⟨rfl, hf⟩
  have HA := Lib.hid (HA.out.fr hf id)
  have HF := Lib.hid (HF.out.trans hf (fun _ _ h => h))
  have HB := Lib.hid (HB.out.fr hf id)
  clear hf
  go_wp2_with fail
  refine (HI.out _).mono ?_
  rintro e v2 ⟨rfl, hf⟩
  have HA := Lib.hid (HA.out.fr hf id)
  have HF := Lib.hid (HF.out.trans hf (fun _ _ h => h))
  have HB := Lib.hid (HB.out.fr hf id)
  clear hf
  obtain ⟨ka0, ka1, ka2, ka3, ka4, ka5, ka6, fa0, fa1, fa2, fa3, fa4, fa5, fa6⟩ := blkat7 HA.out
  obtain ⟨kb0, kb1, kb2, kb3, kb4, kb5, kb6, fb0, fb1, fb2, fb3, fb4, fb5, fb6⟩ := blkat7 HB.out
  have hne : ¬ gb = W.heap.size := by omega
  have hne' : ¬ W.heap.size = gb := by omega
  go_upto_region 26 with (fail)
  have HB' := Lib.hid (blk7 HB.out (.int .i64 (p)) (.int .i64 (0)) (.int .i64 ((r1 : Int))) (.int .i64 ((r2 : Int))) (.int .i64 (n)) (.int .i64 (0)) (.int .i64 (0)))
  have HA' := Lib.hid (show Blk (((((((v2.setCell ⟨gb, 0, none⟩ (.int .i64 (p))).setCell ⟨gb, 1, none⟩ (.int .i64 (0))).setCell ⟨gb, 2, none⟩ (.int .i64 ((r1 : Int)))).setCell ⟨gb, 3, none⟩ (.int .i64 ((r2 : Int)))).setCell ⟨gb, 4, none⟩ (.int .i64 (n))).setCell ⟨gb, 5, none⟩ (.int .i64 (0))).setCell ⟨gb, 6, none⟩ (.int .i64 (0))) W.heap.size 25 #[.int .i64 0, .int .i64 0, .int .i64 0, .int .i64 0, .int .i64 0, .int .i64 0, .int .i64 0] from by repeat (first | (with_reducible exact HA.out) | (with_reducible refine Blk.set_ne ?_ (by first | omega | (dsimp only; omega) | simp) _)))
  have HF' := Lib.hid (show Fr (fun _ => False) W (((((((v2.setCell ⟨gb, 0, none⟩ (.int .i64 (p))).setCell ⟨gb, 1, none⟩ (.int .i64 (0))).setCell ⟨gb, 2, none⟩ (.int .i64 ((r1 : Int)))).setCell ⟨gb, 3, none⟩ (.int .i64 ((r2 : Int)))).setCell ⟨gb, 4, none⟩ (.int .i64 (n))).setCell ⟨gb, 5, none⟩ (.int .i64 (0))).setCell ⟨gb, 6, none⟩ (.int .i64 (0))) from by (repeat (first | (with_reducible exact HF.out) | (with_reducible refine Fr.setCell ?_ (Or.inr (by first | omega | (dsimp only; omega) | simp)) _))))
  clear hne hne' ka0 fa0 ka1 fa1 ka2 fa2 ka3 fa3 ka4 fa4 ka5 fa5 ka6 fa6 kb0 fb0 kb1 fb1 kb2 fb2 kb3 fb3 kb4 fb4 kb5 fb5 kb6 fb6
  clear HA HB HF
  generalize (((((((v2.setCell ⟨gb, 0, none⟩ (.int .i64 (p))).setCell ⟨gb, 1, none⟩ (.int .i64 (0))).setCell ⟨gb, 2, none⟩ (.int .i64 ((r1 : Int)))).setCell ⟨gb, 3, none⟩ (.int .i64 ((r2 : Int)))).setCell ⟨gb, 4, none⟩ (.int .i64 (n))).setCell ⟨gb, 5, none⟩ (.int .i64 (0))).setCell ⟨gb, 6, none⟩ (.int .i64 (0))) = wx at *
  have HA := HA'
  have HB := HB'
  have HF := HF'
  clear HA' HB' HF'
  obtain ⟨ka0, ka1, ka2, ka3, ka4, ka5, ka6, fa0, fa1, fa2, fa3, fa4, fa5, fa6⟩ := blkat7 HA.out
  obtain ⟨kb0, kb1, kb2, kb3, kb4, kb5, kb6, fb0, fb1, fb2, fb3, fb4, fb5, fb6⟩ := blkat7 HB.out
  have hne : ¬ gb = W.heap.size := by omega
  have hne' : ¬ W.heap.size = gb := by omega
  go_wp2_with fail
  refine bodyPost_ret (results_ct rfl _ _ W.heap.size 25 #[.int .i64 (0), .int .i64 (0), .int .i64 (0), .int .i64 (0), .int .i64 (0), .int .i64 (0), .int .i64 (0)] (0, 0) _ rfl ?_ Try.underlying25 rfl (by kernel_rfl)) rfl ?_
  · exact blk7 (by repeat (first | (with_reducible exact HA.out) | (with_reducible refine Blk.set_ne ?_ (by first | omega | (dsimp only; omega) | simp) _))) _ _ _ _ _ _ _
  · exact ⟨rfl, by (repeat (first | (with_reducible exact HF.out) | (with_reducible refine Fr.setCell ?_ (Or.inr (by first | omega | (dsimp only; omega) | simp)) _)))⟩
set_option maxRecDepth 100000 in
set_option maxHeartbeats 4000000 in
theorem dec_store (w : Nat) (hw : w < 4294967296) (W : World) (ck : fld w 0 7 = 35) (c : ¬ stT (fld w 12 3) = 0) : Calls Try.prog 36 #[.int .u32 (w : Int)] W fun e w' => e = .returned (.tuple #[i7 (decP w).1, .bool (decP w).2]) ∧ Fr (fun _ => False) W w' := by
  have hf8 : fld w 12 3 < 8 := fld_lt w 12 3
  have hP : decP w = ((stT (fld w 12 3), 0, ((fld w 15 5 : Nat) : Int), ((fld w 20 5 : Nat) : Int), sP w, 0, 4), true) := by unfold decP kindP; rw [if_neg (by omega), if_neg (by omega), if_neg (by omega), if_neg (by omega), if_pos ck]; exact size4_yes (c)
  rw [hP]
  have H75 := insD_sq0 w hw
  have H123 := insD_sq1 w hw
  have H155 := insD_sq2 w hw
  have H205 := insD_sq3 w hw
  have H257 := insD_sq4 w hw
  have H07 := Lib.hid (show ∀ W, Calls Try.prog 44 #[.int .u32 (w : Int), .int .i64 0, .int .i64 7] W fun e w' => e = .returned (.int .i64 35) ∧ Fr (fun _ => False) W w' from fun W => by have g := field_fr w 0 7 hw (by decide) (by decide) W; rw [ck] at g; exact g)
  have HI := Lib.hid (show ∀ W, Calls Try.prog 50 #[.int .u32 (w : Int)] W fun e w' => e = .returned (.int .i64 (sP w)) ∧ Fr (fun _ => False) W w' from fun W => (sImm_any w hw W).mono fun _ _ g => ⟨g.1, Fr.drawn g.2⟩)
  have HT := Lib.hid (show ∀ W, Calls Try.prog 49 #[.int .i64 ((fld w 12 3 : Nat) : Int)] W fun e w' => e = .returned (.int .i64 (stT (fld w 12 3))) ∧ Fr (fun _ => False) W w' from fun W => (stores_any (fld w 12 3) hf8 W).mono fun _ _ g => ⟨g.1, Fr.drawn g.2⟩)
  clear hP hf8 ck
  generalize sP w = n at *
  generalize stT (fld w 12 3) = p at *
  generalize fld w 7 5 = rd at *
  generalize fld w 15 5 = r1 at *
  generalize fld w 20 5 = r2 at *
  generalize fld w 25 7 = s7 at *
  generalize fld w 12 3 = f3 at *
  have t0 : (p == 0) = false := beq_eq_false_iff_ne.2 c
  clear c
  go_enter Try.func36, Try.ntmps36
  go_wp2_with fail
  have HA := Lib.hid (Blk.new W 25 #[.int .i64 0, .int .i64 0, .int .i64 0, .int .i64 0, .int .i64 0, .int .i64 0, .int .i64 0])
  have HF := Lib.hid ((Fr.refl (fun _ => False) W).alloc (.cells #[.int .i64 0, .int .i64 0, .int .i64 0, .int .i64 0, .int .i64 0, .int .i64 0, .int .i64 0] 25))
  generalize W.alloc (.cells #[.int .i64 0, .int .i64 0, .int .i64 0, .int .i64 0, .int .i64 0, .int .i64 0, .int .i64 0] 25) = wz at *
  refine (H75.out _).mono ?_
  rintro e u0 ⟨rfl, hf⟩
  have HA := Lib.hid (HA.out.fr hf id)
  have HF := Lib.hid (HF.out.trans hf (fun _ _ h => h))
  clear hf
  go_wp2_with fail
  refine (H123.out _).mono ?_
  rintro e u1 ⟨rfl, hf⟩
  have HA := Lib.hid (HA.out.fr hf id)
  have HF := Lib.hid (HF.out.trans hf (fun _ _ h => h))
  clear hf
  go_wp2_with fail
  refine (H155.out _).mono ?_
  rintro e u2 ⟨rfl, hf⟩
  have HA := Lib.hid (HA.out.fr hf id)
  have HF := Lib.hid (HF.out.trans hf (fun _ _ h => h))
  clear hf
  go_wp2_with fail
  refine (H205.out _).mono ?_
  rintro e u3 ⟨rfl, hf⟩
  have HA := Lib.hid (HA.out.fr hf id)
  have HF := Lib.hid (HF.out.trans hf (fun _ _ h => h))
  clear hf
  go_wp2_with fail
  refine (H257.out _).mono ?_
  rintro e u4 ⟨rfl, hf⟩
  have HA := Lib.hid (HA.out.fr hf id)
  have HF := Lib.hid (HF.out.trans hf (fun _ _ h => h))
  clear hf
  go_wp2_with fail
  have hlt := HA.out.lt
  have HB := Lib.hid (Blk.new u4 25 #[.int .i64 0, .int .i64 0, .int .i64 0, .int .i64 0, .int .i64 0, .int .i64 0, .int .i64 0])
  have HA := Lib.hid (HA.out.alloc (.cells #[.int .i64 0, .int .i64 0, .int .i64 0, .int .i64 0, .int .i64 0, .int .i64 0, .int .i64 0] 25))
  have HF := Lib.hid (HF.out.alloc (.cells #[.int .i64 0, .int .i64 0, .int .i64 0, .int .i64 0, .int .i64 0, .int .i64 0, .int .i64 0] 25))
  generalize u4.alloc (.cells #[.int .i64 0, .int .i64 0, .int .i64 0, .int .i64 0, .int .i64 0, .int .i64 0, .int .i64 0] 25) = vz at *
  generalize u4.heap.size = gb at *
  refine (H07.out _).mono ?_
  rintro e v0 ⟨rfl, hf⟩
  have HA := Lib.hid (HA.out.fr hf id)
  have HF := Lib.hid (HF.out.trans hf (fun _ _ h => h))
  have HB := Lib.hid (HB.out.fr hf id)
  clear hf
  go_wp2_with fail
  refine (HT.out _).mono ?_
  rintro e v1 ⟨rfl, hf⟩
  have HA := Lib.hid (HA.out.fr hf id)
  have HF := Lib.hid (HF.out.trans hf (fun _ _ h => h))
  have HB := Lib.hid (HB.out.fr hf id)
  clear hf
  go_wp2_with fail
  refine (HI.out _).mono ?_
  rintro e v2 ⟨rfl, hf⟩
  have HA := Lib.hid (HA.out.fr hf id)
  have HF := Lib.hid (HF.out.trans hf (fun _ _ h => h))
  have HB := Lib.hid (HB.out.fr hf id)
  clear hf
  obtain ⟨ka0, ka1, ka2, ka3, ka4, ka5, ka6, fa0, fa1, fa2, fa3, fa4, fa5, fa6⟩ := blkat7 HA.out
  obtain ⟨kb0, kb1, kb2, kb3, kb4, kb5, kb6, fb0, fb1, fb2, fb3, fb4, fb5, fb6⟩ := blkat7 HB.out
  have hne : ¬ gb = W.heap.size := by omega
  have hne' : ¬ W.heap.size = gb := by omega
  go_upto_region 26 with (fail)
  have HB' := Lib.hid (blk7 HB.out (.int .i64 (p)) (.int .i64 (0)) (.int .i64 ((r1 : Int))) (.int .i64 ((r2 : Int))) (.int .i64 (n)) (.int .i64 (0)) (.int .i64 (0)))
  have HA' := Lib.hid (show Blk (((((((v2.setCell ⟨gb, 0, none⟩ (.int .i64 (p))).setCell ⟨gb, 1, none⟩ (.int .i64 (0))).setCell ⟨gb, 2, none⟩ (.int .i64 ((r1 : Int)))).setCell ⟨gb, 3, none⟩ (.int .i64 ((r2 : Int)))).setCell ⟨gb, 4, none⟩ (.int .i64 (n))).setCell ⟨gb, 5, none⟩ (.int .i64 (0))).setCell ⟨gb, 6, none⟩ (.int .i64 (0))) W.heap.size 25 #[.int .i64 0, .int .i64 0, .int .i64 0, .int .i64 0, .int .i64 0, .int .i64 0, .int .i64 0] from by repeat (first | (with_reducible exact HA.out) | (with_reducible refine Blk.set_ne ?_ (by first | omega | (dsimp only; omega) | simp) _)))
  have HF' := Lib.hid (show Fr (fun _ => False) W (((((((v2.setCell ⟨gb, 0, none⟩ (.int .i64 (p))).setCell ⟨gb, 1, none⟩ (.int .i64 (0))).setCell ⟨gb, 2, none⟩ (.int .i64 ((r1 : Int)))).setCell ⟨gb, 3, none⟩ (.int .i64 ((r2 : Int)))).setCell ⟨gb, 4, none⟩ (.int .i64 (n))).setCell ⟨gb, 5, none⟩ (.int .i64 (0))).setCell ⟨gb, 6, none⟩ (.int .i64 (0))) from by (repeat (first | (with_reducible exact HF.out) | (with_reducible refine Fr.setCell ?_ (Or.inr (by first | omega | (dsimp only; omega) | simp)) _))))
  clear hne hne' ka0 fa0 ka1 fa1 ka2 fa2 ka3 fa3 ka4 fa4 ka5 fa5 ka6 fa6 kb0 fb0 kb1 fb1 kb2 fb2 kb3 fb3 kb4 fb4 kb5 fb5 kb6 fb6
  clear HA HB HF
  generalize (((((((v2.setCell ⟨gb, 0, none⟩ (.int .i64 (p))).setCell ⟨gb, 1, none⟩ (.int .i64 (0))).setCell ⟨gb, 2, none⟩ (.int .i64 ((r1 : Int)))).setCell ⟨gb, 3, none⟩ (.int .i64 ((r2 : Int)))).setCell ⟨gb, 4, none⟩ (.int .i64 (n))).setCell ⟨gb, 5, none⟩ (.int .i64 (0))).setCell ⟨gb, 6, none⟩ (.int .i64 (0))) = wx at *
  have HA := HA'
  have HB := HB'
  have HF := HF'
  clear HA' HB' HF'
  obtain ⟨ka0, ka1, ka2, ka3, ka4, ka5, ka6, fa0, fa1, fa2, fa3, fa4, fa5, fa6⟩ := blkat7 HA.out
  obtain ⟨kb0, kb1, kb2, kb3, kb4, kb5, kb6, fb0, fb1, fb2, fb3, fb4, fb5, fb6⟩ := blkat7 HB.out
  have hne : ¬ gb = W.heap.size := by omega
  have hne' : ¬ W.heap.size = gb := by omega
  go_wp2_with fail
  refine bodyPost_ret (results_ct rfl _ _ W.heap.size 25 #[.int .i64 (p), .int .i64 (0), .int .i64 ((r1 : Int)), .int .i64 ((r2 : Int)), .int .i64 (n), .int .i64 (0), .int .i64 (4)] (0, 0) _ rfl ?_ Try.underlying25 rfl (by kernel_rfl)) rfl ?_
  · exact blk7 (by repeat (first | (with_reducible exact HA.out) | (with_reducible refine Blk.set_ne ?_ (by first | omega | (dsimp only; omega) | simp) _))) _ _ _ _ _ _ _
  · exact ⟨rfl, by (repeat (first | (with_reducible exact HF.out) | (with_reducible refine Fr.setCell ?_ (Or.inr (by first | omega | (dsimp only; omega) | simp)) _)))⟩
set_option maxRecDepth 100000 in
set_option maxHeartbeats 4000000 in
theorem dec_storen (w : Nat) (hw : w < 4294967296) (W : World) (ck : fld w 0 7 = 35) (c :  stT (fld w 12 3) = 0) : Calls Try.prog 36 #[.int .u32 (w : Int)] W fun e w' => e = .returned (.tuple #[i7 (decP w).1, .bool (decP w).2]) ∧ Fr (fun _ => False) W w' := by
  have hf8 : fld w 12 3 < 8 := fld_lt w 12 3
  have hP : decP w = (i0, false) := by unfold decP kindP; rw [if_neg (by omega), if_neg (by omega), if_neg (by omega), if_neg (by omega), if_pos ck]; exact size4_no c
  rw [hP]
  have H75 := insD_sq0 w hw
  have H123 := insD_sq1 w hw
  have H155 := insD_sq2 w hw
  have H205 := insD_sq3 w hw
  have H257 := insD_sq4 w hw
  have H07 := Lib.hid (show ∀ W, Calls Try.prog 44 #[.int .u32 (w : Int), .int .i64 0, .int .i64 7] W fun e w' => e = .returned (.int .i64 35) ∧ Fr (fun _ => False) W w' from fun W => by have g := field_fr w 0 7 hw (by decide) (by decide) W; rw [ck] at g; exact g)
  have HI := Lib.hid (show ∀ W, Calls Try.prog 50 #[.int .u32 (w : Int)] W fun e w' => e = .returned (.int .i64 (sP w)) ∧ Fr (fun _ => False) W w' from fun W => (sImm_any w hw W).mono fun _ _ g => ⟨g.1, Fr.drawn g.2⟩)
  have HT := Lib.hid (show ∀ W, Calls Try.prog 49 #[.int .i64 ((fld w 12 3 : Nat) : Int)] W fun e w' => e = .returned (.int .i64 (stT (fld w 12 3))) ∧ Fr (fun _ => False) W w' from fun W => (stores_any (fld w 12 3) hf8 W).mono fun _ _ g => ⟨g.1, Fr.drawn g.2⟩)
  clear hP hf8 ck
  generalize sP w = n at *
  generalize stT (fld w 12 3) = p at *
  generalize fld w 7 5 = rd at *
  generalize fld w 15 5 = r1 at *
  generalize fld w 20 5 = r2 at *
  generalize fld w 25 7 = s7 at *
  generalize fld w 12 3 = f3 at *
  have t0 : (p == 0) = true := beq_iff_eq.2 c
  clear c
  go_enter Try.func36, Try.ntmps36
  go_wp2_with fail
  have HA := Lib.hid (Blk.new W 25 #[.int .i64 0, .int .i64 0, .int .i64 0, .int .i64 0, .int .i64 0, .int .i64 0, .int .i64 0])
  have HF := Lib.hid ((Fr.refl (fun _ => False) W).alloc (.cells #[.int .i64 0, .int .i64 0, .int .i64 0, .int .i64 0, .int .i64 0, .int .i64 0, .int .i64 0] 25))
  generalize W.alloc (.cells #[.int .i64 0, .int .i64 0, .int .i64 0, .int .i64 0, .int .i64 0, .int .i64 0, .int .i64 0] 25) = wz at *
  refine (H75.out _).mono ?_
  rintro e u0 ⟨rfl, hf⟩
  have HA := Lib.hid (HA.out.fr hf id)
  have HF := Lib.hid (HF.out.trans hf (fun _ _ h => h))
  clear hf
  go_wp2_with fail
  refine (H123.out _).mono ?_
  rintro e u1 ⟨rfl, hf⟩
  have HA := Lib.hid (HA.out.fr hf id)
  have HF := Lib.hid (HF.out.trans hf (fun _ _ h => h))
  clear hf
  go_wp2_with fail
  refine (H155.out _).mono ?_
  rintro e u2 ⟨rfl, hf⟩
  have HA := Lib.hid (HA.out.fr hf id)
  have HF := Lib.hid (HF.out.trans hf (fun _ _ h => h))
  clear hf
  go_wp2_with fail
  refine (H205.out _).mono ?_
  rintro e u3 ⟨rfl, hf⟩
  have HA := Lib.hid (HA.out.fr hf id)
  have HF := Lib.hid (HF.out.trans hf (fun _ _ h => h))
  clear hf
  go_wp2_with fail
  refine (H257.out _).mono ?_
  rintro e u4 ⟨rfl, hf⟩
  have HA := Lib.hid (HA.out.fr hf id)
  have HF := Lib.hid (HF.out.trans hf (fun _ _ h => h))
  clear hf
  go_wp2_with fail
  have hlt := HA.out.lt
  have HB := Lib.hid (Blk.new u4 25 #[.int .i64 0, .int .i64 0, .int .i64 0, .int .i64 0, .int .i64 0, .int .i64 0, .int .i64 0])
  have HA := Lib.hid (HA.out.alloc (.cells #[.int .i64 0, .int .i64 0, .int .i64 0, .int .i64 0, .int .i64 0, .int .i64 0, .int .i64 0] 25))
  have HF := Lib.hid (HF.out.alloc (.cells #[.int .i64 0, .int .i64 0, .int .i64 0, .int .i64 0, .int .i64 0, .int .i64 0, .int .i64 0] 25))
  generalize u4.alloc (.cells #[.int .i64 0, .int .i64 0, .int .i64 0, .int .i64 0, .int .i64 0, .int .i64 0, .int .i64 0] 25) = vz at *
  generalize u4.heap.size = gb at *
  refine (H07.out _).mono ?_
  rintro e v0 ⟨rfl, hf⟩
  have HA := Lib.hid (HA.out.fr hf id)
  have HF := Lib.hid (HF.out.trans hf (fun _ _ h => h))
  have HB := Lib.hid (HB.out.fr hf id)
  clear hf
  go_wp2_with fail
  refine (HT.out _).mono ?_
  rintro e v1 ⟨rfl, hf⟩
  have HA := Lib.hid (HA.out.fr hf id)
  have HF := Lib.hid (HF.out.trans hf (fun _ _ h => h))
  have HB := Lib.hid (HB.out.fr hf id)
  clear hf
  go_wp2_with fail
  refine (HI.out _).mono ?_
  rintro e v2 ⟨rfl, hf⟩
  have HA := Lib.hid (HA.out.fr hf id)
  have HF := Lib.hid (HF.out.trans hf (fun _ _ h => h))
  have HB := Lib.hid (HB.out.fr hf id)
  clear hf
  obtain ⟨ka0, ka1, ka2, ka3, ka4, ka5, ka6, fa0, fa1, fa2, fa3, fa4, fa5, fa6⟩ := blkat7 HA.out
  obtain ⟨kb0, kb1, kb2, kb3, kb4, kb5, kb6, fb0, fb1, fb2, fb3, fb4, fb5, fb6⟩ := blkat7 HB.out
  have hne : ¬ gb = W.heap.size := by omega
  have hne' : ¬ W.heap.size = gb := by omega
  go_upto_region 26 with (fail)
  have HB' := Lib.hid (blk7 HB.out (.int .i64 (p)) (.int .i64 (0)) (.int .i64 ((r1 : Int))) (.int .i64 ((r2 : Int))) (.int .i64 (n)) (.int .i64 (0)) (.int .i64 (0)))
  have HA' := Lib.hid (show Blk (((((((v2.setCell ⟨gb, 0, none⟩ (.int .i64 (p))).setCell ⟨gb, 1, none⟩ (.int .i64 (0))).setCell ⟨gb, 2, none⟩ (.int .i64 ((r1 : Int)))).setCell ⟨gb, 3, none⟩ (.int .i64 ((r2 : Int)))).setCell ⟨gb, 4, none⟩ (.int .i64 (n))).setCell ⟨gb, 5, none⟩ (.int .i64 (0))).setCell ⟨gb, 6, none⟩ (.int .i64 (0))) W.heap.size 25 #[.int .i64 0, .int .i64 0, .int .i64 0, .int .i64 0, .int .i64 0, .int .i64 0, .int .i64 0] from by repeat (first | (with_reducible exact HA.out) | (with_reducible refine Blk.set_ne ?_ (by first | omega | (dsimp only; omega) | simp) _)))
  have HF' := Lib.hid (show Fr (fun _ => False) W (((((((v2.setCell ⟨gb, 0, none⟩ (.int .i64 (p))).setCell ⟨gb, 1, none⟩ (.int .i64 (0))).setCell ⟨gb, 2, none⟩ (.int .i64 ((r1 : Int)))).setCell ⟨gb, 3, none⟩ (.int .i64 ((r2 : Int)))).setCell ⟨gb, 4, none⟩ (.int .i64 (n))).setCell ⟨gb, 5, none⟩ (.int .i64 (0))).setCell ⟨gb, 6, none⟩ (.int .i64 (0))) from by (repeat (first | (with_reducible exact HF.out) | (with_reducible refine Fr.setCell ?_ (Or.inr (by first | omega | (dsimp only; omega) | simp)) _))))
  clear hne hne' ka0 fa0 ka1 fa1 ka2 fa2 ka3 fa3 ka4 fa4 ka5 fa5 ka6 fa6 kb0 fb0 kb1 fb1 kb2 fb2 kb3 fb3 kb4 fb4 kb5 fb5 kb6 fb6
  clear HA HB HF
  generalize (((((((v2.setCell ⟨gb, 0, none⟩ (.int .i64 (p))).setCell ⟨gb, 1, none⟩ (.int .i64 (0))).setCell ⟨gb, 2, none⟩ (.int .i64 ((r1 : Int)))).setCell ⟨gb, 3, none⟩ (.int .i64 ((r2 : Int)))).setCell ⟨gb, 4, none⟩ (.int .i64 (n))).setCell ⟨gb, 5, none⟩ (.int .i64 (0))).setCell ⟨gb, 6, none⟩ (.int .i64 (0))) = wx at *
  have HA := HA'
  have HB := HB'
  have HF := HF'
  clear HA' HB' HF'
  obtain ⟨ka0, ka1, ka2, ka3, ka4, ka5, ka6, fa0, fa1, fa2, fa3, fa4, fa5, fa6⟩ := blkat7 HA.out
  obtain ⟨kb0, kb1, kb2, kb3, kb4, kb5, kb6, fb0, fb1, fb2, fb3, fb4, fb5, fb6⟩ := blkat7 HB.out
  have hne : ¬ gb = W.heap.size := by omega
  have hne' : ¬ W.heap.size = gb := by omega
  go_wp2_with fail
  refine bodyPost_ret (results_ct rfl _ _ W.heap.size 25 #[.int .i64 (0), .int .i64 (0), .int .i64 (0), .int .i64 (0), .int .i64 (0), .int .i64 (0), .int .i64 (0)] (0, 0) _ rfl ?_ Try.underlying25 rfl (by kernel_rfl)) rfl ?_
  · exact blk7 (by repeat (first | (with_reducible exact HA.out) | (with_reducible refine Blk.set_ne ?_ (by first | omega | (dsimp only; omega) | simp) _))) _ _ _ _ _ _ _
  · exact ⟨rfl, by (repeat (first | (with_reducible exact HF.out) | (with_reducible refine Fr.setCell ?_ (Or.inr (by first | omega | (dsimp only; omega) | simp)) _)))⟩
set_option maxRecDepth 100000 in
set_option maxHeartbeats 4000000 in
theorem dec_reg (w : Nat) (hw : w < 4294967296) (W : World) (ck : fld w 0 7 = 51) (c : ¬ regT (fld w 25 7) (fld w 12 3) = 0) : Calls Try.prog 36 #[.int .u32 (w : Int)] W fun e w' => e = .returned (.tuple #[i7 (decP w).1, .bool (decP w).2]) ∧ Fr (fun _ => False) W w' := by
  have hf8 : fld w 12 3 < 8 := fld_lt w 12 3
  have hP : decP w = ((regT (fld w 25 7) (fld w 12 3), ((fld w 7 5 : Nat) : Int), ((fld w 15 5 : Nat) : Int), ((fld w 20 5 : Nat) : Int), 0, 0, 4), true) := by unfold decP kindP; rw [if_neg (by omega), if_neg (by omega), if_neg (by omega), if_neg (by omega), if_neg (by omega), if_pos ck]; exact size4_yes (c)
  rw [hP]
  have H75 := insD_sq0 w hw
  have H123 := insD_sq1 w hw
  have H155 := insD_sq2 w hw
  have H205 := insD_sq3 w hw
  have H257 := insD_sq4 w hw
  have H07 := Lib.hid (show ∀ W, Calls Try.prog 44 #[.int .u32 (w : Int), .int .i64 0, .int .i64 7] W fun e w' => e = .returned (.int .i64 51) ∧ Fr (fun _ => False) W w' from fun W => by have g := field_fr w 0 7 hw (by decide) (by decide) W; rw [ck] at g; exact g)
  have HT := Lib.hid (show ∀ W, Calls Try.prog 51 #[.int .i64 ((fld w 25 7 : Nat) : Int), .int .i64 ((fld w 12 3 : Nat) : Int)] W fun e w' => e = .returned (.int .i64 (regT (fld w 25 7) (fld w 12 3))) ∧ Fr (fun _ => False) W w' from fun W => (regOp_any (fld w 25 7) (fld w 12 3) hf8 W).mono fun _ _ g => ⟨g.1, Fr.drawn g.2⟩)
  clear hP hf8 ck
  generalize regT (fld w 25 7) (fld w 12 3) = p at *
  generalize fld w 7 5 = rd at *
  generalize fld w 15 5 = r1 at *
  generalize fld w 20 5 = r2 at *
  generalize fld w 25 7 = s7 at *
  generalize fld w 12 3 = f3 at *
  have t0 : (p == 0) = false := beq_eq_false_iff_ne.2 c
  clear c
  go_enter Try.func36, Try.ntmps36
  go_wp2_with fail
  have HA := Lib.hid (Blk.new W 25 #[.int .i64 0, .int .i64 0, .int .i64 0, .int .i64 0, .int .i64 0, .int .i64 0, .int .i64 0])
  have HF := Lib.hid ((Fr.refl (fun _ => False) W).alloc (.cells #[.int .i64 0, .int .i64 0, .int .i64 0, .int .i64 0, .int .i64 0, .int .i64 0, .int .i64 0] 25))
  generalize W.alloc (.cells #[.int .i64 0, .int .i64 0, .int .i64 0, .int .i64 0, .int .i64 0, .int .i64 0, .int .i64 0] 25) = wz at *
  refine (H75.out _).mono ?_
  rintro e u0 ⟨rfl, hf⟩
  have HA := Lib.hid (HA.out.fr hf id)
  have HF := Lib.hid (HF.out.trans hf (fun _ _ h => h))
  clear hf
  go_wp2_with fail
  refine (H123.out _).mono ?_
  rintro e u1 ⟨rfl, hf⟩
  have HA := Lib.hid (HA.out.fr hf id)
  have HF := Lib.hid (HF.out.trans hf (fun _ _ h => h))
  clear hf
  go_wp2_with fail
  refine (H155.out _).mono ?_
  rintro e u2 ⟨rfl, hf⟩
  have HA := Lib.hid (HA.out.fr hf id)
  have HF := Lib.hid (HF.out.trans hf (fun _ _ h => h))
  clear hf
  go_wp2_with fail
  refine (H205.out _).mono ?_
  rintro e u3 ⟨rfl, hf⟩
  have HA := Lib.hid (HA.out.fr hf id)
  have HF := Lib.hid (HF.out.trans hf (fun _ _ h => h))
  clear hf
  go_wp2_with fail
  refine (H257.out _).mono ?_
  rintro e u4 ⟨rfl, hf⟩
  have HA := Lib.hid (HA.out.fr hf id)
  have HF := Lib.hid (HF.out.trans hf (fun _ _ h => h))
  clear hf
  go_wp2_with fail
  have hlt := HA.out.lt
  have HB := Lib.hid (Blk.new u4 25 #[.int .i64 0, .int .i64 0, .int .i64 0, .int .i64 0, .int .i64 0, .int .i64 0, .int .i64 0])
  have HA := Lib.hid (HA.out.alloc (.cells #[.int .i64 0, .int .i64 0, .int .i64 0, .int .i64 0, .int .i64 0, .int .i64 0, .int .i64 0] 25))
  have HF := Lib.hid (HF.out.alloc (.cells #[.int .i64 0, .int .i64 0, .int .i64 0, .int .i64 0, .int .i64 0, .int .i64 0, .int .i64 0] 25))
  generalize u4.alloc (.cells #[.int .i64 0, .int .i64 0, .int .i64 0, .int .i64 0, .int .i64 0, .int .i64 0, .int .i64 0] 25) = vz at *
  generalize u4.heap.size = gb at *
  refine (H07.out _).mono ?_
  rintro e v0 ⟨rfl, hf⟩
  have HA := Lib.hid (HA.out.fr hf id)
  have HF := Lib.hid (HF.out.trans hf (fun _ _ h => h))
  have HB := Lib.hid (HB.out.fr hf id)
  clear hf
  go_wp2_with fail
  refine (HT.out _).mono ?_
  rintro e v1 ⟨rfl, hf⟩
  have HA := Lib.hid (HA.out.fr hf id)
  have HF := Lib.hid (HF.out.trans hf (fun _ _ h => h))
  have HB := Lib.hid (HB.out.fr hf id)
  clear hf
  obtain ⟨ka0, ka1, ka2, ka3, ka4, ka5, ka6, fa0, fa1, fa2, fa3, fa4, fa5, fa6⟩ := blkat7 HA.out
  obtain ⟨kb0, kb1, kb2, kb3, kb4, kb5, kb6, fb0, fb1, fb2, fb3, fb4, fb5, fb6⟩ := blkat7 HB.out
  have hne : ¬ gb = W.heap.size := by omega
  have hne' : ¬ W.heap.size = gb := by omega
  go_upto_region 26 with (fail)
  have HB' := Lib.hid (blk7 HB.out (.int .i64 (p)) (.int .i64 ((rd : Int))) (.int .i64 ((r1 : Int))) (.int .i64 ((r2 : Int))) (.int .i64 (0)) (.int .i64 (0)) (.int .i64 (0)))
  have HA' := Lib.hid (show Blk (((((((v1.setCell ⟨gb, 0, none⟩ (.int .i64 (p))).setCell ⟨gb, 1, none⟩ (.int .i64 ((rd : Int)))).setCell ⟨gb, 2, none⟩ (.int .i64 ((r1 : Int)))).setCell ⟨gb, 3, none⟩ (.int .i64 ((r2 : Int)))).setCell ⟨gb, 4, none⟩ (.int .i64 (0))).setCell ⟨gb, 5, none⟩ (.int .i64 (0))).setCell ⟨gb, 6, none⟩ (.int .i64 (0))) W.heap.size 25 #[.int .i64 0, .int .i64 0, .int .i64 0, .int .i64 0, .int .i64 0, .int .i64 0, .int .i64 0] from by repeat (first | (with_reducible exact HA.out) | (with_reducible refine Blk.set_ne ?_ (by first | omega | (dsimp only; omega) | simp) _)))
  have HF' := Lib.hid (show Fr (fun _ => False) W (((((((v1.setCell ⟨gb, 0, none⟩ (.int .i64 (p))).setCell ⟨gb, 1, none⟩ (.int .i64 ((rd : Int)))).setCell ⟨gb, 2, none⟩ (.int .i64 ((r1 : Int)))).setCell ⟨gb, 3, none⟩ (.int .i64 ((r2 : Int)))).setCell ⟨gb, 4, none⟩ (.int .i64 (0))).setCell ⟨gb, 5, none⟩ (.int .i64 (0))).setCell ⟨gb, 6, none⟩ (.int .i64 (0))) from by (repeat (first | (with_reducible exact HF.out) | (with_reducible refine Fr.setCell ?_ (Or.inr (by first | omega | (dsimp only; omega) | simp)) _))))
  clear hne hne' ka0 fa0 ka1 fa1 ka2 fa2 ka3 fa3 ka4 fa4 ka5 fa5 ka6 fa6 kb0 fb0 kb1 fb1 kb2 fb2 kb3 fb3 kb4 fb4 kb5 fb5 kb6 fb6
  clear HA HB HF
  generalize (((((((v1.setCell ⟨gb, 0, none⟩ (.int .i64 (p))).setCell ⟨gb, 1, none⟩ (.int .i64 ((rd : Int)))).setCell ⟨gb, 2, none⟩ (.int .i64 ((r1 : Int)))).setCell ⟨gb, 3, none⟩ (.int .i64 ((r2 : Int)))).setCell ⟨gb, 4, none⟩ (.int .i64 (0))).setCell ⟨gb, 5, none⟩ (.int .i64 (0))).setCell ⟨gb, 6, none⟩ (.int .i64 (0))) = wx at *
  have HA := HA'
  have HB := HB'
  have HF := HF'
  clear HA' HB' HF'
  obtain ⟨ka0, ka1, ka2, ka3, ka4, ka5, ka6, fa0, fa1, fa2, fa3, fa4, fa5, fa6⟩ := blkat7 HA.out
  obtain ⟨kb0, kb1, kb2, kb3, kb4, kb5, kb6, fb0, fb1, fb2, fb3, fb4, fb5, fb6⟩ := blkat7 HB.out
  have hne : ¬ gb = W.heap.size := by omega
  have hne' : ¬ W.heap.size = gb := by omega
  go_wp2_with fail
  refine bodyPost_ret (results_ct rfl _ _ W.heap.size 25 #[.int .i64 (p), .int .i64 ((rd : Int)), .int .i64 ((r1 : Int)), .int .i64 ((r2 : Int)), .int .i64 (0), .int .i64 (0), .int .i64 (4)] (0, 0) _ rfl ?_ Try.underlying25 rfl (by kernel_rfl)) rfl ?_
  · exact blk7 (by repeat (first | (with_reducible exact HA.out) | (with_reducible refine Blk.set_ne ?_ (by first | omega | (dsimp only; omega) | simp) _))) _ _ _ _ _ _ _
  · exact ⟨rfl, by (repeat (first | (with_reducible exact HF.out) | (with_reducible refine Fr.setCell ?_ (Or.inr (by first | omega | (dsimp only; omega) | simp)) _)))⟩
set_option maxRecDepth 100000 in
set_option maxHeartbeats 4000000 in
theorem dec_regn (w : Nat) (hw : w < 4294967296) (W : World) (ck : fld w 0 7 = 51) (c :  regT (fld w 25 7) (fld w 12 3) = 0) : Calls Try.prog 36 #[.int .u32 (w : Int)] W fun e w' => e = .returned (.tuple #[i7 (decP w).1, .bool (decP w).2]) ∧ Fr (fun _ => False) W w' := by
  have hf8 : fld w 12 3 < 8 := fld_lt w 12 3
  have hP : decP w = (i0, false) := by unfold decP kindP; rw [if_neg (by omega), if_neg (by omega), if_neg (by omega), if_neg (by omega), if_neg (by omega), if_pos ck]; exact size4_no c
  rw [hP]
  have H75 := insD_sq0 w hw
  have H123 := insD_sq1 w hw
  have H155 := insD_sq2 w hw
  have H205 := insD_sq3 w hw
  have H257 := insD_sq4 w hw
  have H07 := Lib.hid (show ∀ W, Calls Try.prog 44 #[.int .u32 (w : Int), .int .i64 0, .int .i64 7] W fun e w' => e = .returned (.int .i64 51) ∧ Fr (fun _ => False) W w' from fun W => by have g := field_fr w 0 7 hw (by decide) (by decide) W; rw [ck] at g; exact g)
  have HT := Lib.hid (show ∀ W, Calls Try.prog 51 #[.int .i64 ((fld w 25 7 : Nat) : Int), .int .i64 ((fld w 12 3 : Nat) : Int)] W fun e w' => e = .returned (.int .i64 (regT (fld w 25 7) (fld w 12 3))) ∧ Fr (fun _ => False) W w' from fun W => (regOp_any (fld w 25 7) (fld w 12 3) hf8 W).mono fun _ _ g => ⟨g.1, Fr.drawn g.2⟩)
  clear hP hf8 ck
  generalize regT (fld w 25 7) (fld w 12 3) = p at *
  generalize fld w 7 5 = rd at *
  generalize fld w 15 5 = r1 at *
  generalize fld w 20 5 = r2 at *
  generalize fld w 25 7 = s7 at *
  generalize fld w 12 3 = f3 at *
  have t0 : (p == 0) = true := beq_iff_eq.2 c
  clear c
  go_enter Try.func36, Try.ntmps36
  go_wp2_with fail
  have HA := Lib.hid (Blk.new W 25 #[.int .i64 0, .int .i64 0, .int .i64 0, .int .i64 0, .int .i64 0, .int .i64 0, .int .i64 0])
  have HF := Lib.hid ((Fr.refl (fun _ => False) W).alloc (.cells #[.int .i64 0, .int .i64 0, .int .i64 0, .int .i64 0, .int .i64 0, .int .i64 0, .int .i64 0] 25))
  generalize W.alloc (.cells #[.int .i64 0, .int .i64 0, .int .i64 0, .int .i64 0, .int .i64 0, .int .i64 0, .int .i64 0] 25) = wz at *
  refine (H75.out _).mono ?_
  rintro e u0 ⟨rfl, hf⟩
  have HA := Lib.hid (HA.out.fr hf id)
  have HF := Lib.hid (HF.out.trans hf (fun _ _ h => h))
  clear hf
  go_wp2_with fail
  refine (H123.out _).mono ?_
  rintro e u1 ⟨rfl, hf⟩
  have HA := Lib.hid (HA.out.fr hf id)
  have HF := Lib.hid (HF.out.trans hf (fun _ _ h => h))
  clear hf
  go_wp2_with fail
  refine (H155.out _).mono ?_
  rintro e u2 ⟨rfl, hf⟩
  have HA := Lib.hid (HA.out.fr hf id)
  have HF := Lib.hid (HF.out.trans hf (fun _ _ h => h))
  clear hf
  go_wp2_with fail
  refine (H205.out _).mono ?_
  rintro e u3 ⟨rfl, hf⟩
  have HA := Lib.hid (HA.out.fr hf id)
  have HF := Lib.hid (HF.out.trans hf (fun _ _ h => h))
  clear hf
  go_wp2_with fail
  refine (H257.out _).mono ?_
  rintro e u4 ⟨rfl, hf⟩
  have HA := Lib.hid (HA.out.fr hf id)
  have HF := Lib.hid (HF.out.trans hf (fun _ _ h => h))
  clear hf
  go_wp2_with fail
  have hlt := HA.out.lt
  have HB := Lib.hid (Blk.new u4 25 #[.int .i64 0, .int .i64 0, .int .i64 0, .int .i64 0, .int .i64 0, .int .i64 0, .int .i64 0])
  have HA := Lib.hid (HA.out.alloc (.cells #[.int .i64 0, .int .i64 0, .int .i64 0, .int .i64 0, .int .i64 0, .int .i64 0, .int .i64 0] 25))
  have HF := Lib.hid (HF.out.alloc (.cells #[.int .i64 0, .int .i64 0, .int .i64 0, .int .i64 0, .int .i64 0, .int .i64 0, .int .i64 0] 25))
  generalize u4.alloc (.cells #[.int .i64 0, .int .i64 0, .int .i64 0, .int .i64 0, .int .i64 0, .int .i64 0, .int .i64 0] 25) = vz at *
  generalize u4.heap.size = gb at *
  refine (H07.out _).mono ?_
  rintro e v0 ⟨rfl, hf⟩
  have HA := Lib.hid (HA.out.fr hf id)
  have HF := Lib.hid (HF.out.trans hf (fun _ _ h => h))
  have HB := Lib.hid (HB.out.fr hf id)
  clear hf
  go_wp2_with fail
  refine (HT.out _).mono ?_
  rintro e v1 ⟨rfl, hf⟩
  have HA := Lib.hid (HA.out.fr hf id)
  have HF := Lib.hid (HF.out.trans hf (fun _ _ h => h))
  have HB := Lib.hid (HB.out.fr hf id)
  clear hf
  obtain ⟨ka0, ka1, ka2, ka3, ka4, ka5, ka6, fa0, fa1, fa2, fa3, fa4, fa5, fa6⟩ := blkat7 HA.out
  obtain ⟨kb0, kb1, kb2, kb3, kb4, kb5, kb6, fb0, fb1, fb2, fb3, fb4, fb5, fb6⟩ := blkat7 HB.out
  have hne : ¬ gb = W.heap.size := by omega
  have hne' : ¬ W.heap.size = gb := by omega
  go_upto_region 26 with (fail)
  have HB' := Lib.hid (blk7 HB.out (.int .i64 (p)) (.int .i64 ((rd : Int))) (.int .i64 ((r1 : Int))) (.int .i64 ((r2 : Int))) (.int .i64 (0)) (.int .i64 (0)) (.int .i64 (0)))
  have HA' := Lib.hid (show Blk (((((((v1.setCell ⟨gb, 0, none⟩ (.int .i64 (p))).setCell ⟨gb, 1, none⟩ (.int .i64 ((rd : Int)))).setCell ⟨gb, 2, none⟩ (.int .i64 ((r1 : Int)))).setCell ⟨gb, 3, none⟩ (.int .i64 ((r2 : Int)))).setCell ⟨gb, 4, none⟩ (.int .i64 (0))).setCell ⟨gb, 5, none⟩ (.int .i64 (0))).setCell ⟨gb, 6, none⟩ (.int .i64 (0))) W.heap.size 25 #[.int .i64 0, .int .i64 0, .int .i64 0, .int .i64 0, .int .i64 0, .int .i64 0, .int .i64 0] from by repeat (first | (with_reducible exact HA.out) | (with_reducible refine Blk.set_ne ?_ (by first | omega | (dsimp only; omega) | simp) _)))
  have HF' := Lib.hid (show Fr (fun _ => False) W (((((((v1.setCell ⟨gb, 0, none⟩ (.int .i64 (p))).setCell ⟨gb, 1, none⟩ (.int .i64 ((rd : Int)))).setCell ⟨gb, 2, none⟩ (.int .i64 ((r1 : Int)))).setCell ⟨gb, 3, none⟩ (.int .i64 ((r2 : Int)))).setCell ⟨gb, 4, none⟩ (.int .i64 (0))).setCell ⟨gb, 5, none⟩ (.int .i64 (0))).setCell ⟨gb, 6, none⟩ (.int .i64 (0))) from by (repeat (first | (with_reducible exact HF.out) | (with_reducible refine Fr.setCell ?_ (Or.inr (by first | omega | (dsimp only; omega) | simp)) _))))
  clear hne hne' ka0 fa0 ka1 fa1 ka2 fa2 ka3 fa3 ka4 fa4 ka5 fa5 ka6 fa6 kb0 fb0 kb1 fb1 kb2 fb2 kb3 fb3 kb4 fb4 kb5 fb5 kb6 fb6
  clear HA HB HF
  generalize (((((((v1.setCell ⟨gb, 0, none⟩ (.int .i64 (p))).setCell ⟨gb, 1, none⟩ (.int .i64 ((rd : Int)))).setCell ⟨gb, 2, none⟩ (.int .i64 ((r1 : Int)))).setCell ⟨gb, 3, none⟩ (.int .i64 ((r2 : Int)))).setCell ⟨gb, 4, none⟩ (.int .i64 (0))).setCell ⟨gb, 5, none⟩ (.int .i64 (0))).setCell ⟨gb, 6, none⟩ (.int .i64 (0))) = wx at *
  have HA := HA'
  have HB := HB'
  have HF := HF'
  clear HA' HB' HF'
  obtain ⟨ka0, ka1, ka2, ka3, ka4, ka5, ka6, fa0, fa1, fa2, fa3, fa4, fa5, fa6⟩ := blkat7 HA.out
  obtain ⟨kb0, kb1, kb2, kb3, kb4, kb5, kb6, fb0, fb1, fb2, fb3, fb4, fb5, fb6⟩ := blkat7 HB.out
  have hne : ¬ gb = W.heap.size := by omega
  have hne' : ¬ W.heap.size = gb := by omega
  go_wp2_with fail
  refine bodyPost_ret (results_ct rfl _ _ W.heap.size 25 #[.int .i64 (0), .int .i64 (0), .int .i64 (0), .int .i64 (0), .int .i64 (0), .int .i64 (0), .int .i64 (0)] (0, 0) _ rfl ?_ Try.underlying25 rfl (by kernel_rfl)) rfl ?_
  · exact blk7 (by repeat (first | (with_reducible exact HA.out) | (with_reducible refine Blk.set_ne ?_ (by first | omega | (dsimp only; omega) | simp) _))) _ _ _ _ _ _ _
  · exact ⟨rfl, by (repeat (first | (with_reducible exact HF.out) | (with_reducible refine Fr.setCell ?_ (Or.inr (by first | omega | (dsimp only; omega) | simp)) _)))⟩
set_option maxRecDepth 100000 in
set_option maxHeartbeats 4000000 in
theorem dec_reg32 (w : Nat) (hw : w < 4294967296) (W : World) (ck : fld w 0 7 = 59) (c : ¬ r32T (fld w 25 7) (fld w 12 3) = 0) : Calls Try.prog 36 #[.int .u32 (w : Int)] W fun e w' => e = .returned (.tuple #[i7 (decP w).1, .bool (decP w).2]) ∧ Fr (fun _ => False) W w' := by
  have hf8 : fld w 12 3 < 8 := fld_lt w 12 3
  have hP : decP w = ((r32T (fld w 25 7) (fld w 12 3), ((fld w 7 5 : Nat) : Int), ((fld w 15 5 : Nat) : Int), ((fld w 20 5 : Nat) : Int), 0, 0, 4), true) := by unfold decP kindP; rw [if_neg (by omega), if_neg (by omega), if_neg (by omega), if_neg (by omega), if_neg (by omega), if_neg (by omega), if_pos ck]; exact size4_yes (c)
  rw [hP]
  have H75 := insD_sq0 w hw
  have H123 := insD_sq1 w hw
  have H155 := insD_sq2 w hw
  have H205 := insD_sq3 w hw
  have H257 := insD_sq4 w hw
  have H07 := Lib.hid (show ∀ W, Calls Try.prog 44 #[.int .u32 (w : Int), .int .i64 0, .int .i64 7] W fun e w' => e = .returned (.int .i64 59) ∧ Fr (fun _ => False) W w' from fun W => by have g := field_fr w 0 7 hw (by decide) (by decide) W; rw [ck] at g; exact g)
  have HT := Lib.hid (show ∀ W, Calls Try.prog 52 #[.int .i64 ((fld w 25 7 : Nat) : Int), .int .i64 ((fld w 12 3 : Nat) : Int)] W fun e w' => e = .returned (.int .i64 (r32T (fld w 25 7) (fld w 12 3))) ∧ Fr (fun _ => False) W w' from fun W => (reg32Op_any (fld w 25 7) (fld w 12 3) hf8 W).mono fun _ _ g => ⟨g.1, Fr.drawn g.2⟩)
  clear hP hf8 ck
  generalize r32T (fld w 25 7) (fld w 12 3) = p at *
  generalize fld w 7 5 = rd at *
  generalize fld w 15 5 = r1 at *
  generalize fld w 20 5 = r2 at *
  generalize fld w 25 7 = s7 at *
  generalize fld w 12 3 = f3 at *
  have t0 : (p == 0) = false := beq_eq_false_iff_ne.2 c
  clear c
  go_enter Try.func36, Try.ntmps36
  go_wp2_with fail
  have HA := Lib.hid (Blk.new W 25 #[.int .i64 0, .int .i64 0, .int .i64 0, .int .i64 0, .int .i64 0, .int .i64 0, .int .i64 0])
  have HF := Lib.hid ((Fr.refl (fun _ => False) W).alloc (.cells #[.int .i64 0, .int .i64 0, .int .i64 0, .int .i64 0, .int .i64 0, .int .i64 0, .int .i64 0] 25))
  generalize W.alloc (.cells #[.int .i64 0, .int .i64 0, .int .i64 0, .int .i64 0, .int .i64 0, .int .i64 0, .int .i64 0] 25) = wz at *
  refine (H75.out _).mono ?_
  rintro e u0 ⟨rfl, hf⟩
  have HA := Lib.hid (HA.out.fr hf id)
  have HF := Lib.hid (HF.out.trans hf (fun _ _ h => h))
  clear hf
  go_wp2_with fail
  refine (H123.out _).mono ?_
  rintro e u1 ⟨rfl, hf⟩
  have HA := Lib.hid (HA.out.fr hf id)
  have HF := Lib.hid (HF.out.trans hf (fun _ _ h => h))
  clear hf
  go_wp2_with fail
  refine (H155.out _).mono ?_
  rintro e u2 ⟨rfl, hf⟩
  have HA := Lib.hid (HA.out.fr hf id)
  have HF := Lib.hid (HF.out.trans hf (fun _ _ h => h))
  clear hf
  go_wp2_with fail
  refine (H205.out _).mono ?_
  rintro e u3 ⟨rfl, hf⟩
  have HA := Lib.hid (HA.out.fr hf id)
  have HF := Lib.hid (HF.out.trans hf (fun _ _ h => h))
  clear hf
  go_wp2_with fail
  refine (H257.out _).mono ?_
  rintro e u4 ⟨rfl, hf⟩
  have HA := Lib.hid (HA.out.fr hf id)
  have HF := Lib.hid (HF.out.trans hf (fun _ _ h => h))
  clear hf
  go_wp2_with fail
  have hlt := HA.out.lt
  have HB := Lib.hid (Blk.new u4 25 #[.int .i64 0, .int .i64 0, .int .i64 0, .int .i64 0, .int .i64 0, .int .i64 0, .int .i64 0])
  have HA := Lib.hid (HA.out.alloc (.cells #[.int .i64 0, .int .i64 0, .int .i64 0, .int .i64 0, .int .i64 0, .int .i64 0, .int .i64 0] 25))
  have HF := Lib.hid (HF.out.alloc (.cells #[.int .i64 0, .int .i64 0, .int .i64 0, .int .i64 0, .int .i64 0, .int .i64 0, .int .i64 0] 25))
  generalize u4.alloc (.cells #[.int .i64 0, .int .i64 0, .int .i64 0, .int .i64 0, .int .i64 0, .int .i64 0, .int .i64 0] 25) = vz at *
  generalize u4.heap.size = gb at *
  refine (H07.out _).mono ?_
  rintro e v0 ⟨rfl, hf⟩
  have HA := Lib.hid (HA.out.fr hf id)
  have HF := Lib.hid (HF.out.trans hf (fun _ _ h => h))
  have HB := Lib.hid (HB.out.fr hf id)
  clear hf
  go_wp2_with fail
  refine (HT.out _).mono ?_
  rintro e v1 ⟨rfl, hf⟩
  have HA := Lib.hid (HA.out.fr hf id)
  have HF := Lib.hid (HF.out.trans hf (fun _ _ h => h))
  have HB := Lib.hid (HB.out.fr hf id)
  clear hf
  obtain ⟨ka0, ka1, ka2, ka3, ka4, ka5, ka6, fa0, fa1, fa2, fa3, fa4, fa5, fa6⟩ := blkat7 HA.out
  obtain ⟨kb0, kb1, kb2, kb3, kb4, kb5, kb6, fb0, fb1, fb2, fb3, fb4, fb5, fb6⟩ := blkat7 HB.out
  have hne : ¬ gb = W.heap.size := by omega
  have hne' : ¬ W.heap.size = gb := by omega
  go_upto_region 26 with (fail)
  have HB' := Lib.hid (blk7 HB.out (.int .i64 (p)) (.int .i64 ((rd : Int))) (.int .i64 ((r1 : Int))) (.int .i64 ((r2 : Int))) (.int .i64 (0)) (.int .i64 (0)) (.int .i64 (0)))
  have HA' := Lib.hid (show Blk (((((((v1.setCell ⟨gb, 0, none⟩ (.int .i64 (p))).setCell ⟨gb, 1, none⟩ (.int .i64 ((rd : Int)))).setCell ⟨gb, 2, none⟩ (.int .i64 ((r1 : Int)))).setCell ⟨gb, 3, none⟩ (.int .i64 ((r2 : Int)))).setCell ⟨gb, 4, none⟩ (.int .i64 (0))).setCell ⟨gb, 5, none⟩ (.int .i64 (0))).setCell ⟨gb, 6, none⟩ (.int .i64 (0))) W.heap.size 25 #[.int .i64 0, .int .i64 0, .int .i64 0, .int .i64 0, .int .i64 0, .int .i64 0, .int .i64 0] from by repeat (first | (with_reducible exact HA.out) | (with_reducible refine Blk.set_ne ?_ (by first | omega | (dsimp only; omega) | simp) _)))
  have HF' := Lib.hid (show Fr (fun _ => False) W (((((((v1.setCell ⟨gb, 0, none⟩ (.int .i64 (p))).setCell ⟨gb, 1, none⟩ (.int .i64 ((rd : Int)))).setCell ⟨gb, 2, none⟩ (.int .i64 ((r1 : Int)))).setCell ⟨gb, 3, none⟩ (.int .i64 ((r2 : Int)))).setCell ⟨gb, 4, none⟩ (.int .i64 (0))).setCell ⟨gb, 5, none⟩ (.int .i64 (0))).setCell ⟨gb, 6, none⟩ (.int .i64 (0))) from by (repeat (first | (with_reducible exact HF.out) | (with_reducible refine Fr.setCell ?_ (Or.inr (by first | omega | (dsimp only; omega) | simp)) _))))
  clear hne hne' ka0 fa0 ka1 fa1 ka2 fa2 ka3 fa3 ka4 fa4 ka5 fa5 ka6 fa6 kb0 fb0 kb1 fb1 kb2 fb2 kb3 fb3 kb4 fb4 kb5 fb5 kb6 fb6
  clear HA HB HF
  generalize (((((((v1.setCell ⟨gb, 0, none⟩ (.int .i64 (p))).setCell ⟨gb, 1, none⟩ (.int .i64 ((rd : Int)))).setCell ⟨gb, 2, none⟩ (.int .i64 ((r1 : Int)))).setCell ⟨gb, 3, none⟩ (.int .i64 ((r2 : Int)))).setCell ⟨gb, 4, none⟩ (.int .i64 (0))).setCell ⟨gb, 5, none⟩ (.int .i64 (0))).setCell ⟨gb, 6, none⟩ (.int .i64 (0))) = wx at *
  have HA := HA'
  have HB := HB'
  have HF := HF'
  clear HA' HB' HF'
  obtain ⟨ka0, ka1, ka2, ka3, ka4, ka5, ka6, fa0, fa1, fa2, fa3, fa4, fa5, fa6⟩ := blkat7 HA.out
  obtain ⟨kb0, kb1, kb2, kb3, kb4, kb5, kb6, fb0, fb1, fb2, fb3, fb4, fb5, fb6⟩ := blkat7 HB.out
  have hne : ¬ gb = W.heap.size := by omega
  have hne' : ¬ W.heap.size = gb := by omega
  go_wp2_with fail
  refine bodyPost_ret (results_ct rfl _ _ W.heap.size 25 #[.int .i64 (p), .int .i64 ((rd : Int)), .int .i64 ((r1 : Int)), .int .i64 ((r2 : Int)), .int .i64 (0), .int .i64 (0), .int .i64 (4)] (0, 0) _ rfl ?_ Try.underlying25 rfl (by kernel_rfl)) rfl ?_
  · exact blk7 (by repeat (first | (with_reducible exact HA.out) | (with_reducible refine Blk.set_ne ?_ (by first | omega | (dsimp only; omega) | simp) _))) _ _ _ _ _ _ _
  · exact ⟨rfl, by (repeat (first | (with_reducible exact HF.out) | (with_reducible refine Fr.setCell ?_ (Or.inr (by first | omega | (dsimp only; omega) | simp)) _)))⟩
set_option maxRecDepth 100000 in
set_option maxHeartbeats 4000000 in
theorem dec_reg32n (w : Nat) (hw : w < 4294967296) (W : World) (ck : fld w 0 7 = 59) (c :  r32T (fld w 25 7) (fld w 12 3) = 0) : Calls Try.prog 36 #[.int .u32 (w : Int)] W fun e w' => e = .returned (.tuple #[i7 (decP w).1, .bool (decP w).2]) ∧ Fr (fun _ => False) W w' := by
  have hf8 : fld w 12 3 < 8 := fld_lt w 12 3
  have hP : decP w = (i0, false) := by unfold decP kindP; rw [if_neg (by omega), if_neg (by omega), if_neg (by omega), if_neg (by omega), if_neg (by omega), if_neg (by omega), if_pos ck]; exact size4_no c
  rw [hP]
  have H75 := insD_sq0 w hw
  have H123 := insD_sq1 w hw
  have H155 := insD_sq2 w hw
  have H205 := insD_sq3 w hw
  have H257 := insD_sq4 w hw
  have H07 := Lib.hid (show ∀ W, Calls Try.prog 44 #[.int .u32 (w : Int), .int .i64 0, .int .i64 7] W fun e w' => e = .returned (.int .i64 59) ∧ Fr (fun _ => False) W w' from fun W => by have g := field_fr w 0 7 hw (by decide) (by decide) W; rw [ck] at g; exact g)
  have HT := Lib.hid (show ∀ W, Calls Try.prog 52 #[.int .i64 ((fld w 25 7 : Nat) : Int), .int .i64 ((fld w 12 3 : Nat) : Int)] W fun e w' => e = .returned (.int .i64 (r32T (fld w 25 7) (fld w 12 3))) ∧ Fr (fun _ => False) W w' from fun W => (reg32Op_any (fld w 25 7) (fld w 12 3) hf8 W).mono fun _ _ g => ⟨g.1, Fr.drawn g.2⟩)
  clear hP hf8 ck
  generalize r32T (fld w 25 7) (fld w 12 3) = p at *
  generalize fld w 7 5 = rd at *
  generalize fld w 15 5 = r1 at *
  generalize fld w 20 5 = r2 at *
  generalize fld w 25 7 = s7 at *
  generalize fld w 12 3 = f3 at *
  have t0 : (p == 0) = true := beq_iff_eq.2 c
  clear c
  go_enter Try.func36, Try.ntmps36
  go_wp2_with fail
  have HA := Lib.hid (Blk.new W 25 #[.int .i64 0, .int .i64 0, .int .i64 0, .int .i64 0, .int .i64 0, .int .i64 0, .int .i64 0])
  have HF := Lib.hid ((Fr.refl (fun _ => False) W).alloc (.cells #[.int .i64 0, .int .i64 0, .int .i64 0, .int .i64 0, .int .i64 0, .int .i64 0, .int .i64 0] 25))
  generalize W.alloc (.cells #[.int .i64 0, .int .i64 0, .int .i64 0, .int .i64 0, .int .i64 0, .int .i64 0, .int .i64 0] 25) = wz at *
  refine (H75.out _).mono ?_
  rintro e u0 ⟨rfl, hf⟩
  have HA := Lib.hid (HA.out.fr hf id)
  have HF := Lib.hid (HF.out.trans hf (fun _ _ h => h))
  clear hf
  go_wp2_with fail
  refine (H123.out _).mono ?_
  rintro e u1 ⟨rfl, hf⟩
  have HA := Lib.hid (HA.out.fr hf id)
  have HF := Lib.hid (HF.out.trans hf (fun _ _ h => h))
  clear hf
  go_wp2_with fail
  refine (H155.out _).mono ?_
  rintro e u2 ⟨rfl, hf⟩
  have HA := Lib.hid (HA.out.fr hf id)
  have HF := Lib.hid (HF.out.trans hf (fun _ _ h => h))
  clear hf
  go_wp2_with fail
  refine (H205.out _).mono ?_
  rintro e u3 ⟨rfl, hf⟩
  have HA := Lib.hid (HA.out.fr hf id)
  have HF := Lib.hid (HF.out.trans hf (fun _ _ h => h))
  clear hf
  go_wp2_with fail
  refine (H257.out _).mono ?_
  rintro e u4 ⟨rfl, hf⟩
  have HA := Lib.hid (HA.out.fr hf id)
  have HF := Lib.hid (HF.out.trans hf (fun _ _ h => h))
  clear hf
  go_wp2_with fail
  have hlt := HA.out.lt
  have HB := Lib.hid (Blk.new u4 25 #[.int .i64 0, .int .i64 0, .int .i64 0, .int .i64 0, .int .i64 0, .int .i64 0, .int .i64 0])
  have HA := Lib.hid (HA.out.alloc (.cells #[.int .i64 0, .int .i64 0, .int .i64 0, .int .i64 0, .int .i64 0, .int .i64 0, .int .i64 0] 25))
  have HF := Lib.hid (HF.out.alloc (.cells #[.int .i64 0, .int .i64 0, .int .i64 0, .int .i64 0, .int .i64 0, .int .i64 0, .int .i64 0] 25))
  generalize u4.alloc (.cells #[.int .i64 0, .int .i64 0, .int .i64 0, .int .i64 0, .int .i64 0, .int .i64 0, .int .i64 0] 25) = vz at *
  generalize u4.heap.size = gb at *
  refine (H07.out _).mono ?_
  rintro e v0 ⟨rfl, hf⟩
  have HA := Lib.hid (HA.out.fr hf id)
  have HF := Lib.hid (HF.out.trans hf (fun _ _ h => h))
  have HB := Lib.hid (HB.out.fr hf id)
  clear hf
  go_wp2_with fail
  refine (HT.out _).mono ?_
  rintro e v1 ⟨rfl, hf⟩
  have HA := Lib.hid (HA.out.fr hf id)
  have HF := Lib.hid (HF.out.trans hf (fun _ _ h => h))
  have HB := Lib.hid (HB.out.fr hf id)
  clear hf
  obtain ⟨ka0, ka1, ka2, ka3, ka4, ka5, ka6, fa0, fa1, fa2, fa3, fa4, fa5, fa6⟩ := blkat7 HA.out
  obtain ⟨kb0, kb1, kb2, kb3, kb4, kb5, kb6, fb0, fb1, fb2, fb3, fb4, fb5, fb6⟩ := blkat7 HB.out
  have hne : ¬ gb = W.heap.size := by omega
  have hne' : ¬ W.heap.size = gb := by omega
  go_upto_region 26 with (fail)
  have HB' := Lib.hid (blk7 HB.out (.int .i64 (p)) (.int .i64 ((rd : Int))) (.int .i64 ((r1 : Int))) (.int .i64 ((r2 : Int))) (.int .i64 (0)) (.int .i64 (0)) (.int .i64 (0)))
  have HA' := Lib.hid (show Blk (((((((v1.setCell ⟨gb, 0, none⟩ (.int .i64 (p))).setCell ⟨gb, 1, none⟩ (.int .i64 ((rd : Int)))).setCell ⟨gb, 2, none⟩ (.int .i64 ((r1 : Int)))).setCell ⟨gb, 3, none⟩ (.int .i64 ((r2 : Int)))).setCell ⟨gb, 4, none⟩ (.int .i64 (0))).setCell ⟨gb, 5, none⟩ (.int .i64 (0))).setCell ⟨gb, 6, none⟩ (.int .i64 (0))) W.heap.size 25 #[.int .i64 0, .int .i64 0, .int .i64 0, .int .i64 0, .int .i64 0, .int .i64 0, .int .i64 0] from by repeat (first | (with_reducible exact HA.out) | (with_reducible refine Blk.set_ne ?_ (by first | omega | (dsimp only; omega) | simp) _)))
  have HF' := Lib.hid (show Fr (fun _ => False) W (((((((v1.setCell ⟨gb, 0, none⟩ (.int .i64 (p))).setCell ⟨gb, 1, none⟩ (.int .i64 ((rd : Int)))).setCell ⟨gb, 2, none⟩ (.int .i64 ((r1 : Int)))).setCell ⟨gb, 3, none⟩ (.int .i64 ((r2 : Int)))).setCell ⟨gb, 4, none⟩ (.int .i64 (0))).setCell ⟨gb, 5, none⟩ (.int .i64 (0))).setCell ⟨gb, 6, none⟩ (.int .i64 (0))) from by (repeat (first | (with_reducible exact HF.out) | (with_reducible refine Fr.setCell ?_ (Or.inr (by first | omega | (dsimp only; omega) | simp)) _))))
  clear hne hne' ka0 fa0 ka1 fa1 ka2 fa2 ka3 fa3 ka4 fa4 ka5 fa5 ka6 fa6 kb0 fb0 kb1 fb1 kb2 fb2 kb3 fb3 kb4 fb4 kb5 fb5 kb6 fb6
  clear HA HB HF
  generalize (((((((v1.setCell ⟨gb, 0, none⟩ (.int .i64 (p))).setCell ⟨gb, 1, none⟩ (.int .i64 ((rd : Int)))).setCell ⟨gb, 2, none⟩ (.int .i64 ((r1 : Int)))).setCell ⟨gb, 3, none⟩ (.int .i64 ((r2 : Int)))).setCell ⟨gb, 4, none⟩ (.int .i64 (0))).setCell ⟨gb, 5, none⟩ (.int .i64 (0))).setCell ⟨gb, 6, none⟩ (.int .i64 (0))) = wx at *
  have HA := HA'
  have HB := HB'
  have HF := HF'
  clear HA' HB' HF'
  obtain ⟨ka0, ka1, ka2, ka3, ka4, ka5, ka6, fa0, fa1, fa2, fa3, fa4, fa5, fa6⟩ := blkat7 HA.out
  obtain ⟨kb0, kb1, kb2, kb3, kb4, kb5, kb6, fb0, fb1, fb2, fb3, fb4, fb5, fb6⟩ := blkat7 HB.out
  have hne : ¬ gb = W.heap.size := by omega
  have hne' : ¬ W.heap.size = gb := by omega
  go_wp2_with fail
  refine bodyPost_ret (results_ct rfl _ _ W.heap.size 25 #[.int .i64 (0), .int .i64 (0), .int .i64 (0), .int .i64 (0), .int .i64 (0), .int .i64 (0), .int .i64 (0)] (0, 0) _ rfl ?_ Try.underlying25 rfl (by kernel_rfl)) rfl ?_
  · exact blk7 (by repeat (first | (with_reducible exact HA.out) | (with_reducible refine Blk.set_ne ?_ (by first | omega | (dsimp only; omega) | simp) _))) _ _ _ _ _ _ _
  · exact ⟨rfl, by (repeat (first | (with_reducible exact HF.out) | (with_reducible refine Fr.setCell ?_ (Or.inr (by first | omega | (dsimp only; omega) | simp)) _)))⟩
set_option maxRecDepth 100000 in
set_option maxHeartbeats 4000000 in
theorem dec_amo (w : Nat) (hw : w < 4294967296) (W : World) (ck : fld w 0 7 = 47) (i : I7) (hi : atomicP w = i) (c : ¬ i.1 = 0) : Calls Try.prog 36 #[.int .u32 (w : Int)] W fun e w' => e = .returned (.tuple #[i7 (decP w).1, .bool (decP w).2]) ∧ Fr (fun _ => False) W w' := by
  have hP : decP w = size4 (regsP w i) := by unfold decP kindP; rw [if_neg (by omega), if_neg (by omega), if_neg (by omega), if_neg (by omega), if_neg (by omega), if_neg (by omega), if_neg (by omega), if_pos ck, hi]
  have hQ : size4 (regsP w i) = ((i.1, ((fld w 7 5 : Nat) : Int), ((fld w 15 5 : Nat) : Int), i.2.2.2.1, i.2.2.2.2.1, i.2.2.2.2.2.1, 4), true) := size4_yes c
  rw [hP, hQ]
  have H75 := insD_sq0 w hw
  have H123 := insD_sq1 w hw
  have H155 := insD_sq2 w hw
  have H205 := insD_sq3 w hw
  have H257 := insD_sq4 w hw
  have H07 := Lib.hid (show ∀ W, Calls Try.prog 44 #[.int .u32 (w : Int), .int .i64 0, .int .i64 7] W fun e w' => e = .returned (.int .i64 47) ∧ Fr (fun _ => False) W w' from fun W => by have g := field_fr w 0 7 hw (by decide) (by decide) W; rw [ck] at g; exact g)
  have HC0 := atomic_any w hw
  rw [hi] at HC0
  clear hP hQ hi ck
  have t0 : (i.1 == 0) = false := beq_eq_false_iff_ne.2 c
  clear c
  obtain ⟨x0, x1, x2, x3, x4, x5, x6⟩ := i
  dsimp only at t0
  have HC := Lib.hid (show ∀ W, Calls Try.prog 53 #[.int .u32 (w : Int)] W fun e w' => e = .returned (.agg #[.int .i64 x0, .int .i64 x1, .int .i64 x2, .int .i64 x3, .int .i64 x4, .int .i64 x5, .int .i64 x6]) ∧ Fr (fun _ => False) W w' from HC0)
  clear HC0
  generalize fld w 7 5 = rd at *
  generalize fld w 15 5 = r1 at *
  generalize fld w 20 5 = r2 at *
  generalize fld w 25 7 = s7 at *
  generalize fld w 12 3 = f3 at *
  go_enter Try.func36, Try.ntmps36
  go_wp2_with fail
  have HA := Lib.hid (Blk.new W 25 #[.int .i64 0, .int .i64 0, .int .i64 0, .int .i64 0, .int .i64 0, .int .i64 0, .int .i64 0])
  have HF := Lib.hid ((Fr.refl (fun _ => False) W).alloc (.cells #[.int .i64 0, .int .i64 0, .int .i64 0, .int .i64 0, .int .i64 0, .int .i64 0, .int .i64 0] 25))
  generalize W.alloc (.cells #[.int .i64 0, .int .i64 0, .int .i64 0, .int .i64 0, .int .i64 0, .int .i64 0, .int .i64 0] 25) = wz at *
  refine (H75.out _).mono ?_
  rintro e u0 ⟨rfl, hf⟩
  have HA := Lib.hid (HA.out.fr hf id)
  have HF := Lib.hid (HF.out.trans hf (fun _ _ h => h))
  clear hf
  go_wp2_with fail
  refine (H123.out _).mono ?_
  rintro e u1 ⟨rfl, hf⟩
  have HA := Lib.hid (HA.out.fr hf id)
  have HF := Lib.hid (HF.out.trans hf (fun _ _ h => h))
  clear hf
  go_wp2_with fail
  refine (H155.out _).mono ?_
  rintro e u2 ⟨rfl, hf⟩
  have HA := Lib.hid (HA.out.fr hf id)
  have HF := Lib.hid (HF.out.trans hf (fun _ _ h => h))
  clear hf
  go_wp2_with fail
  refine (H205.out _).mono ?_
  rintro e u3 ⟨rfl, hf⟩
  have HA := Lib.hid (HA.out.fr hf id)
  have HF := Lib.hid (HF.out.trans hf (fun _ _ h => h))
  clear hf
  go_wp2_with fail
  refine (H257.out _).mono ?_
  rintro e u4 ⟨rfl, hf⟩
  have HA := Lib.hid (HA.out.fr hf id)
  have HF := Lib.hid (HF.out.trans hf (fun _ _ h => h))
  clear hf
  go_wp2_with fail
  have hlt := HA.out.lt
  have HB := Lib.hid (Blk.new u4 25 #[.int .i64 0, .int .i64 0, .int .i64 0, .int .i64 0, .int .i64 0, .int .i64 0, .int .i64 0])
  have HA := Lib.hid (HA.out.alloc (.cells #[.int .i64 0, .int .i64 0, .int .i64 0, .int .i64 0, .int .i64 0, .int .i64 0, .int .i64 0] 25))
  have HF := Lib.hid (HF.out.alloc (.cells #[.int .i64 0, .int .i64 0, .int .i64 0, .int .i64 0, .int .i64 0, .int .i64 0, .int .i64 0] 25))
  generalize u4.alloc (.cells #[.int .i64 0, .int .i64 0, .int .i64 0, .int .i64 0, .int .i64 0, .int .i64 0, .int .i64 0] 25) = vz at *
  generalize u4.heap.size = gb at *
  refine (H07.out _).mono ?_
  rintro e v0 ⟨rfl, hf⟩
  have HA := Lib.hid (HA.out.fr hf id)
  have HF := Lib.hid (HF.out.trans hf (fun _ _ h => h))
  have HB := Lib.hid (HB.out.fr hf id)
  clear hf
  go_wp2_with fail
  refine (HC.out _).mono ?_
  rintro e v1 ⟨rfl, hf⟩
  have HA := Lib.hid (HA.out.fr hf id)
  have HF := Lib.hid (HF.out.trans hf (fun _ _ h => h))
  have HB := Lib.hid (HB.out.fr hf id)
  clear hf
  obtain ⟨ka0, ka1, ka2, ka3, ka4, ka5, ka6, fa0, fa1, fa2, fa3, fa4, fa5, fa6⟩ := blkat7 HA.out
  obtain ⟨kb0, kb1, kb2, kb3, kb4, kb5, kb6, fb0, fb1, fb2, fb3, fb4, fb5, fb6⟩ := blkat7 HB.out
  have hne : ¬ gb = W.heap.size := by omega
  have hne' : ¬ W.heap.size = gb := by omega
  go_upto_region 26 with (fail)
  have HB' := Lib.hid (blk9 HB.out (.int .i64 (x0)) (.int .i64 (x1)) (.int .i64 (x2)) (.int .i64 (x3)) (.int .i64 (x4)) (.int .i64 (x5)) (.int .i64 (x6)) (.int .i64 (rd : Int)) (.int .i64 (r1 : Int)))
  have HA' := Lib.hid (show Blk (((((((((v1.setCell ⟨gb, 0, none⟩ (.int .i64 (x0))).setCell ⟨gb, 1, none⟩ (.int .i64 (x1))).setCell ⟨gb, 2, none⟩ (.int .i64 (x2))).setCell ⟨gb, 3, none⟩ (.int .i64 (x3))).setCell ⟨gb, 4, none⟩ (.int .i64 (x4))).setCell ⟨gb, 5, none⟩ (.int .i64 (x5))).setCell ⟨gb, 6, none⟩ (.int .i64 (x6))).setCell ⟨gb, 1, none⟩ (.int .i64 (rd : Int))).setCell ⟨gb, 2, none⟩ (.int .i64 (r1 : Int))) W.heap.size 25 #[.int .i64 0, .int .i64 0, .int .i64 0, .int .i64 0, .int .i64 0, .int .i64 0, .int .i64 0] from by repeat (first | (with_reducible exact HA.out) | (with_reducible refine Blk.set_ne ?_ (by first | omega | (dsimp only; omega) | simp) _)))
  have HF' := Lib.hid (show Fr (fun _ => False) W (((((((((v1.setCell ⟨gb, 0, none⟩ (.int .i64 (x0))).setCell ⟨gb, 1, none⟩ (.int .i64 (x1))).setCell ⟨gb, 2, none⟩ (.int .i64 (x2))).setCell ⟨gb, 3, none⟩ (.int .i64 (x3))).setCell ⟨gb, 4, none⟩ (.int .i64 (x4))).setCell ⟨gb, 5, none⟩ (.int .i64 (x5))).setCell ⟨gb, 6, none⟩ (.int .i64 (x6))).setCell ⟨gb, 1, none⟩ (.int .i64 (rd : Int))).setCell ⟨gb, 2, none⟩ (.int .i64 (r1 : Int))) from by (repeat (first | (with_reducible exact HF.out) | (with_reducible refine Fr.setCell ?_ (Or.inr (by first | omega | (dsimp only; omega) | simp)) _))))
  clear hne hne' ka0 fa0 ka1 fa1 ka2 fa2 ka3 fa3 ka4 fa4 ka5 fa5 ka6 fa6 kb0 fb0 kb1 fb1 kb2 fb2 kb3 fb3 kb4 fb4 kb5 fb5 kb6 fb6
  clear HA HB HF
  generalize (((((((((v1.setCell ⟨gb, 0, none⟩ (.int .i64 (x0))).setCell ⟨gb, 1, none⟩ (.int .i64 (x1))).setCell ⟨gb, 2, none⟩ (.int .i64 (x2))).setCell ⟨gb, 3, none⟩ (.int .i64 (x3))).setCell ⟨gb, 4, none⟩ (.int .i64 (x4))).setCell ⟨gb, 5, none⟩ (.int .i64 (x5))).setCell ⟨gb, 6, none⟩ (.int .i64 (x6))).setCell ⟨gb, 1, none⟩ (.int .i64 (rd : Int))).setCell ⟨gb, 2, none⟩ (.int .i64 (r1 : Int))) = wx at *
  have HA := HA'
  have HB := HB'
  have HF := HF'
  clear HA' HB' HF'
  obtain ⟨ka0, ka1, ka2, ka3, ka4, ka5, ka6, fa0, fa1, fa2, fa3, fa4, fa5, fa6⟩ := blkat7 HA.out
  obtain ⟨kb0, kb1, kb2, kb3, kb4, kb5, kb6, fb0, fb1, fb2, fb3, fb4, fb5, fb6⟩ := blkat7 HB.out
  have hne : ¬ gb = W.heap.size := by omega
  have hne' : ¬ W.heap.size = gb := by omega
  go_wp2_with fail
  refine bodyPost_ret (results_ct rfl _ _ W.heap.size 25 #[.int .i64 (x0), .int .i64 ((rd : Int)), .int .i64 ((r1 : Int)), .int .i64 (x3), .int .i64 (x4), .int .i64 (x5), .int .i64 (4)] (0, 0) _ rfl ?_ Try.underlying25 rfl (by kernel_rfl)) rfl ?_
  · exact blk7 (by repeat (first | (with_reducible exact HA.out) | (with_reducible refine Blk.set_ne ?_ (by first | omega | (dsimp only; omega) | simp) _))) _ _ _ _ _ _ _
  · exact ⟨rfl, by (repeat (first | (with_reducible exact HF.out) | (with_reducible refine Fr.setCell ?_ (Or.inr (by first | omega | (dsimp only; omega) | simp)) _)))⟩
set_option maxRecDepth 100000 in
set_option maxHeartbeats 4000000 in
theorem dec_amon (w : Nat) (hw : w < 4294967296) (W : World) (ck : fld w 0 7 = 47) (i : I7) (hi : atomicP w = i) (c :  i.1 = 0) : Calls Try.prog 36 #[.int .u32 (w : Int)] W fun e w' => e = .returned (.tuple #[i7 (decP w).1, .bool (decP w).2]) ∧ Fr (fun _ => False) W w' := by
  have hP : decP w = size4 (regsP w i) := by unfold decP kindP; rw [if_neg (by omega), if_neg (by omega), if_neg (by omega), if_neg (by omega), if_neg (by omega), if_neg (by omega), if_neg (by omega), if_pos ck, hi]
  have hQ : size4 (regsP w i) = (i0, false) := size4_no c
  rw [hP, hQ]
  have H75 := insD_sq0 w hw
  have H123 := insD_sq1 w hw
  have H155 := insD_sq2 w hw
  have H205 := insD_sq3 w hw
  have H257 := insD_sq4 w hw
  have H07 := Lib.hid (show ∀ W, Calls Try.prog 44 #[.int .u32 (w : Int), .int .i64 0, .int .i64 7] W fun e w' => e = .returned (.int .i64 47) ∧ Fr (fun _ => False) W w' from fun W => by have g := field_fr w 0 7 hw (by decide) (by decide) W; rw [ck] at g; exact g)
  have HC0 := atomic_any w hw
  rw [hi] at HC0
  clear hP hQ hi ck
  have t0 : (i.1 == 0) = true := beq_iff_eq.2 c
  clear c
  obtain ⟨x0, x1, x2, x3, x4, x5, x6⟩ := i
  dsimp only at t0
  have HC := Lib.hid (show ∀ W, Calls Try.prog 53 #[.int .u32 (w : Int)] W fun e w' => e = .returned (.agg #[.int .i64 x0, .int .i64 x1, .int .i64 x2, .int .i64 x3, .int .i64 x4, .int .i64 x5, .int .i64 x6]) ∧ Fr (fun _ => False) W w' from HC0)
  clear HC0
  generalize fld w 7 5 = rd at *
  generalize fld w 15 5 = r1 at *
  generalize fld w 20 5 = r2 at *
  generalize fld w 25 7 = s7 at *
  generalize fld w 12 3 = f3 at *
  go_enter Try.func36, Try.ntmps36
  go_wp2_with fail
  have HA := Lib.hid (Blk.new W 25 #[.int .i64 0, .int .i64 0, .int .i64 0, .int .i64 0, .int .i64 0, .int .i64 0, .int .i64 0])
  have HF := Lib.hid ((Fr.refl (fun _ => False) W).alloc (.cells #[.int .i64 0, .int .i64 0, .int .i64 0, .int .i64 0, .int .i64 0, .int .i64 0, .int .i64 0] 25))
  generalize W.alloc (.cells #[.int .i64 0, .int .i64 0, .int .i64 0, .int .i64 0, .int .i64 0, .int .i64 0, .int .i64 0] 25) = wz at *
  refine (H75.out _).mono ?_
  rintro e u0 ⟨rfl, hf⟩
  have HA := Lib.hid (HA.out.fr hf id)
  have HF := Lib.hid (HF.out.trans hf (fun _ _ h => h))
  clear hf
  go_wp2_with fail
  refine (H123.out _).mono ?_
  rintro e u1 ⟨rfl, hf⟩
  have HA := Lib.hid (HA.out.fr hf id)
  have HF := Lib.hid (HF.out.trans hf (fun _ _ h => h))
  clear hf
  go_wp2_with fail
  refine (H155.out _).mono ?_
  rintro e u2 ⟨rfl, hf⟩
  have HA := Lib.hid (HA.out.fr hf id)
  have HF := Lib.hid (HF.out.trans hf (fun _ _ h => h))
  clear hf
  go_wp2_with fail
  refine (H205.out _).mono ?_
  rintro e u3 ⟨rfl, hf⟩
  have HA := Lib.hid (HA.out.fr hf id)
  have HF := Lib.hid (HF.out.trans hf (fun _ _ h => h))
  clear hf
  go_wp2_with fail
  refine (H257.out _).mono ?_
  rintro e u4 ⟨rfl, hf⟩
  have HA := Lib.hid (HA.out.fr hf id)
  have HF := Lib.hid (HF.out.trans hf (fun _ _ h => h))
  clear hf
  go_wp2_with fail
  have hlt := HA.out.lt
  have HB := Lib.hid (Blk.new u4 25 #[.int .i64 0, .int .i64 0, .int .i64 0, .int .i64 0, .int .i64 0, .int .i64 0, .int .i64 0])
  have HA := Lib.hid (HA.out.alloc (.cells #[.int .i64 0, .int .i64 0, .int .i64 0, .int .i64 0, .int .i64 0, .int .i64 0, .int .i64 0] 25))
  have HF := Lib.hid (HF.out.alloc (.cells #[.int .i64 0, .int .i64 0, .int .i64 0, .int .i64 0, .int .i64 0, .int .i64 0, .int .i64 0] 25))
  generalize u4.alloc (.cells #[.int .i64 0, .int .i64 0, .int .i64 0, .int .i64 0, .int .i64 0, .int .i64 0, .int .i64 0] 25) = vz at *
  generalize u4.heap.size = gb at *
  refine (H07.out _).mono ?_
  rintro e v0 ⟨rfl, hf⟩
  have HA := Lib.hid (HA.out.fr hf id)
  have HF := Lib.hid (HF.out.trans hf (fun _ _ h => h))
  have HB := Lib.hid (HB.out.fr hf id)
  clear hf
  go_wp2_with fail
  refine (HC.out _).mono ?_
  rintro e v1 ⟨rfl, hf⟩
  have HA := Lib.hid (HA.out.fr hf id)
  have HF := Lib.hid (HF.out.trans hf (fun _ _ h => h))
  have HB := Lib.hid (HB.out.fr hf id)
  clear hf
  obtain ⟨ka0, ka1, ka2, ka3, ka4, ka5, ka6, fa0, fa1, fa2, fa3, fa4, fa5, fa6⟩ := blkat7 HA.out
  obtain ⟨kb0, kb1, kb2, kb3, kb4, kb5, kb6, fb0, fb1, fb2, fb3, fb4, fb5, fb6⟩ := blkat7 HB.out
  have hne : ¬ gb = W.heap.size := by omega
  have hne' : ¬ W.heap.size = gb := by omega
  go_upto_region 26 with (fail)
  have HB' := Lib.hid (blk9 HB.out (.int .i64 (x0)) (.int .i64 (x1)) (.int .i64 (x2)) (.int .i64 (x3)) (.int .i64 (x4)) (.int .i64 (x5)) (.int .i64 (x6)) (.int .i64 (rd : Int)) (.int .i64 (r1 : Int)))
  have HA' := Lib.hid (show Blk (((((((((v1.setCell ⟨gb, 0, none⟩ (.int .i64 (x0))).setCell ⟨gb, 1, none⟩ (.int .i64 (x1))).setCell ⟨gb, 2, none⟩ (.int .i64 (x2))).setCell ⟨gb, 3, none⟩ (.int .i64 (x3))).setCell ⟨gb, 4, none⟩ (.int .i64 (x4))).setCell ⟨gb, 5, none⟩ (.int .i64 (x5))).setCell ⟨gb, 6, none⟩ (.int .i64 (x6))).setCell ⟨gb, 1, none⟩ (.int .i64 (rd : Int))).setCell ⟨gb, 2, none⟩ (.int .i64 (r1 : Int))) W.heap.size 25 #[.int .i64 0, .int .i64 0, .int .i64 0, .int .i64 0, .int .i64 0, .int .i64 0, .int .i64 0] from by repeat (first | (with_reducible exact HA.out) | (with_reducible refine Blk.set_ne ?_ (by first | omega | (dsimp only; omega) | simp) _)))
  have HF' := Lib.hid (show Fr (fun _ => False) W (((((((((v1.setCell ⟨gb, 0, none⟩ (.int .i64 (x0))).setCell ⟨gb, 1, none⟩ (.int .i64 (x1))).setCell ⟨gb, 2, none⟩ (.int .i64 (x2))).setCell ⟨gb, 3, none⟩ (.int .i64 (x3))).setCell ⟨gb, 4, none⟩ (.int .i64 (x4))).setCell ⟨gb, 5, none⟩ (.int .i64 (x5))).setCell ⟨gb, 6, none⟩ (.int .i64 (x6))).setCell ⟨gb, 1, none⟩ (.int .i64 (rd : Int))).setCell ⟨gb, 2, none⟩ (.int .i64 (r1 : Int))) from by (repeat (first | (with_reducible exact HF.out) | (with_reducible refine Fr.setCell ?_ (Or.inr (by first | omega | (dsimp only; omega) | simp)) _))))
  clear hne hne' ka0 fa0 ka1 fa1 ka2 fa2 ka3 fa3 ka4 fa4 ka5 fa5 ka6 fa6 kb0 fb0 kb1 fb1 kb2 fb2 kb3 fb3 kb4 fb4 kb5 fb5 kb6 fb6
  clear HA HB HF
  generalize (((((((((v1.setCell ⟨gb, 0, none⟩ (.int .i64 (x0))).setCell ⟨gb, 1, none⟩ (.int .i64 (x1))).setCell ⟨gb, 2, none⟩ (.int .i64 (x2))).setCell ⟨gb, 3, none⟩ (.int .i64 (x3))).setCell ⟨gb, 4, none⟩ (.int .i64 (x4))).setCell ⟨gb, 5, none⟩ (.int .i64 (x5))).setCell ⟨gb, 6, none⟩ (.int .i64 (x6))).setCell ⟨gb, 1, none⟩ (.int .i64 (rd : Int))).setCell ⟨gb, 2, none⟩ (.int .i64 (r1 : Int))) = wx at *
  have HA := HA'
  have HB := HB'
  have HF := HF'
  clear HA' HB' HF'
  obtain ⟨ka0, ka1, ka2, ka3, ka4, ka5, ka6, fa0, fa1, fa2, fa3, fa4, fa5, fa6⟩ := blkat7 HA.out
  obtain ⟨kb0, kb1, kb2, kb3, kb4, kb5, kb6, fb0, fb1, fb2, fb3, fb4, fb5, fb6⟩ := blkat7 HB.out
  have hne : ¬ gb = W.heap.size := by omega
  have hne' : ¬ W.heap.size = gb := by omega
  go_wp2_with fail
  refine bodyPost_ret (results_ct rfl _ _ W.heap.size 25 #[.int .i64 (0), .int .i64 (0), .int .i64 (0), .int .i64 (0), .int .i64 (0), .int .i64 (0), .int .i64 (0)] (0, 0) _ rfl ?_ Try.underlying25 rfl (by kernel_rfl)) rfl ?_
  · exact blk7 (by repeat (first | (with_reducible exact HA.out) | (with_reducible refine Blk.set_ne ?_ (by first | omega | (dsimp only; omega) | simp) _))) _ _ _ _ _ _ _
  · exact ⟨rfl, by (repeat (first | (with_reducible exact HF.out) | (with_reducible refine Fr.setCell ?_ (Or.inr (by first | omega | (dsimp only; omega) | simp)) _)))⟩
set_option maxRecDepth 100000 in
set_option maxHeartbeats 4000000 in
theorem dec_fence (w : Nat) (hw : w < 4294967296) (W : World) (ck : fld w 0 7 = 15) (i : I7) (hi : otherP w = i) (c : ¬ i.1 = 0) : Calls Try.prog 36 #[.int .u32 (w : Int)] W fun e w' => e = .returned (.tuple #[i7 (decP w).1, .bool (decP w).2]) ∧ Fr (fun _ => False) W w' := by
  have hP : decP w = size4 (i) := by unfold decP kindP; rw [if_neg (by omega), if_neg (by omega), if_neg (by omega), if_neg (by omega), if_neg (by omega), if_neg (by omega), if_neg (by omega), if_neg (by omega), if_pos (by omega), hi]
  have hQ : size4 (i) = ((i.1, i.2.1, i.2.2.1, i.2.2.2.1, i.2.2.2.2.1, i.2.2.2.2.2.1, 4), true) := size4_yes c
  rw [hP, hQ]
  have H75 := insD_sq0 w hw
  have H123 := insD_sq1 w hw
  have H155 := insD_sq2 w hw
  have H205 := insD_sq3 w hw
  have H257 := insD_sq4 w hw
  have H07 := Lib.hid (show ∀ W, Calls Try.prog 44 #[.int .u32 (w : Int), .int .i64 0, .int .i64 7] W fun e w' => e = .returned (.int .i64 15) ∧ Fr (fun _ => False) W w' from fun W => by have g := field_fr w 0 7 hw (by decide) (by decide) W; rw [ck] at g; exact g)
  have HC0 := other_any w hw
  rw [hi] at HC0
  clear hP hQ hi ck
  have t0 : (i.1 == 0) = false := beq_eq_false_iff_ne.2 c
  clear c
  obtain ⟨x0, x1, x2, x3, x4, x5, x6⟩ := i
  dsimp only at t0
  have HC := Lib.hid (show ∀ W, Calls Try.prog 54 #[.int .u32 (w : Int)] W fun e w' => e = .returned (.agg #[.int .i64 x0, .int .i64 x1, .int .i64 x2, .int .i64 x3, .int .i64 x4, .int .i64 x5, .int .i64 x6]) ∧ Fr (fun _ => False) W w' from HC0)
  clear HC0
  generalize fld w 7 5 = rd at *
  generalize fld w 15 5 = r1 at *
  generalize fld w 20 5 = r2 at *
  generalize fld w 25 7 = s7 at *
  generalize fld w 12 3 = f3 at *
  go_enter Try.func36, Try.ntmps36
  go_wp2_with fail
  have HA := Lib.hid (Blk.new W 25 #[.int .i64 0, .int .i64 0, .int .i64 0, .int .i64 0, .int .i64 0, .int .i64 0, .int .i64 0])
  have HF := Lib.hid ((Fr.refl (fun _ => False) W).alloc (.cells #[.int .i64 0, .int .i64 0, .int .i64 0, .int .i64 0, .int .i64 0, .int .i64 0, .int .i64 0] 25))
  generalize W.alloc (.cells #[.int .i64 0, .int .i64 0, .int .i64 0, .int .i64 0, .int .i64 0, .int .i64 0, .int .i64 0] 25) = wz at *
  refine (H75.out _).mono ?_
  rintro e u0 ⟨rfl, hf⟩
  have HA := Lib.hid (HA.out.fr hf id)
  have HF := Lib.hid (HF.out.trans hf (fun _ _ h => h))
  clear hf
  go_wp2_with fail
  refine (H123.out _).mono ?_
  rintro e u1 ⟨rfl, hf⟩
  have HA := Lib.hid (HA.out.fr hf id)
  have HF := Lib.hid (HF.out.trans hf (fun _ _ h => h))
  clear hf
  go_wp2_with fail
  refine (H155.out _).mono ?_
  rintro e u2 ⟨rfl, hf⟩
  have HA := Lib.hid (HA.out.fr hf id)
  have HF := Lib.hid (HF.out.trans hf (fun _ _ h => h))
  clear hf
  go_wp2_with fail
  refine (H205.out _).mono ?_
  rintro e u3 ⟨rfl, hf⟩
  have HA := Lib.hid (HA.out.fr hf id)
  have HF := Lib.hid (HF.out.trans hf (fun _ _ h => h))
  clear hf
  go_wp2_with fail
  refine (H257.out _).mono ?_
  rintro e u4 ⟨rfl, hf⟩
  have HA := Lib.hid (HA.out.fr hf id)
  have HF := Lib.hid (HF.out.trans hf (fun _ _ h => h))
  clear hf
  go_wp2_with fail
  have hlt := HA.out.lt
  have HB := Lib.hid (Blk.new u4 25 #[.int .i64 0, .int .i64 0, .int .i64 0, .int .i64 0, .int .i64 0, .int .i64 0, .int .i64 0])
  have HA := Lib.hid (HA.out.alloc (.cells #[.int .i64 0, .int .i64 0, .int .i64 0, .int .i64 0, .int .i64 0, .int .i64 0, .int .i64 0] 25))
  have HF := Lib.hid (HF.out.alloc (.cells #[.int .i64 0, .int .i64 0, .int .i64 0, .int .i64 0, .int .i64 0, .int .i64 0, .int .i64 0] 25))
  generalize u4.alloc (.cells #[.int .i64 0, .int .i64 0, .int .i64 0, .int .i64 0, .int .i64 0, .int .i64 0, .int .i64 0] 25) = vz at *
  generalize u4.heap.size = gb at *
  refine (H07.out _).mono ?_
  rintro e v0 ⟨rfl, hf⟩
  have HA := Lib.hid (HA.out.fr hf id)
  have HF := Lib.hid (HF.out.trans hf (fun _ _ h => h))
  have HB := Lib.hid (HB.out.fr hf id)
  clear hf
  go_wp2_with fail
  refine (HC.out _).mono ?_
  rintro e v1 ⟨rfl, hf⟩
  have HA := Lib.hid (HA.out.fr hf id)
  have HF := Lib.hid (HF.out.trans hf (fun _ _ h => h))
  have HB := Lib.hid (HB.out.fr hf id)
  clear hf
  obtain ⟨ka0, ka1, ka2, ka3, ka4, ka5, ka6, fa0, fa1, fa2, fa3, fa4, fa5, fa6⟩ := blkat7 HA.out
  obtain ⟨kb0, kb1, kb2, kb3, kb4, kb5, kb6, fb0, fb1, fb2, fb3, fb4, fb5, fb6⟩ := blkat7 HB.out
  have hne : ¬ gb = W.heap.size := by omega
  have hne' : ¬ W.heap.size = gb := by omega
  go_upto_region 26 with (fail)
  have HB' := Lib.hid (blk7 HB.out (.int .i64 (x0)) (.int .i64 (x1)) (.int .i64 (x2)) (.int .i64 (x3)) (.int .i64 (x4)) (.int .i64 (x5)) (.int .i64 (x6)))
  have HA' := Lib.hid (show Blk (((((((v1.setCell ⟨gb, 0, none⟩ (.int .i64 (x0))).setCell ⟨gb, 1, none⟩ (.int .i64 (x1))).setCell ⟨gb, 2, none⟩ (.int .i64 (x2))).setCell ⟨gb, 3, none⟩ (.int .i64 (x3))).setCell ⟨gb, 4, none⟩ (.int .i64 (x4))).setCell ⟨gb, 5, none⟩ (.int .i64 (x5))).setCell ⟨gb, 6, none⟩ (.int .i64 (x6))) W.heap.size 25 #[.int .i64 0, .int .i64 0, .int .i64 0, .int .i64 0, .int .i64 0, .int .i64 0, .int .i64 0] from by repeat (first | (with_reducible exact HA.out) | (with_reducible refine Blk.set_ne ?_ (by first | omega | (dsimp only; omega) | simp) _)))
  have HF' := Lib.hid (show Fr (fun _ => False) W (((((((v1.setCell ⟨gb, 0, none⟩ (.int .i64 (x0))).setCell ⟨gb, 1, none⟩ (.int .i64 (x1))).setCell ⟨gb, 2, none⟩ (.int .i64 (x2))).setCell ⟨gb, 3, none⟩ (.int .i64 (x3))).setCell ⟨gb, 4, none⟩ (.int .i64 (x4))).setCell ⟨gb, 5, none⟩ (.int .i64 (x5))).setCell ⟨gb, 6, none⟩ (.int .i64 (x6))) from by (repeat (first | (with_reducible exact HF.out) | (with_reducible refine Fr.setCell ?_ (Or.inr (by first | omega | (dsimp only; omega) | simp)) _))))
  clear hne hne' ka0 fa0 ka1 fa1 ka2 fa2 ka3 fa3 ka4 fa4 ka5 fa5 ka6 fa6 kb0 fb0 kb1 fb1 kb2 fb2 kb3 fb3 kb4 fb4 kb5 fb5 kb6 fb6
  clear HA HB HF
  generalize (((((((v1.setCell ⟨gb, 0, none⟩ (.int .i64 (x0))).setCell ⟨gb, 1, none⟩ (.int .i64 (x1))).setCell ⟨gb, 2, none⟩ (.int .i64 (x2))).setCell ⟨gb, 3, none⟩ (.int .i64 (x3))).setCell ⟨gb, 4, none⟩ (.int .i64 (x4))).setCell ⟨gb, 5, none⟩ (.int .i64 (x5))).setCell ⟨gb, 6, none⟩ (.int .i64 (x6))) = wx at *
  have HA := HA'
  have HB := HB'
  have HF := HF'
  clear HA' HB' HF'
  obtain ⟨ka0, ka1, ka2, ka3, ka4, ka5, ka6, fa0, fa1, fa2, fa3, fa4, fa5, fa6⟩ := blkat7 HA.out
  obtain ⟨kb0, kb1, kb2, kb3, kb4, kb5, kb6, fb0, fb1, fb2, fb3, fb4, fb5, fb6⟩ := blkat7 HB.out
  have hne : ¬ gb = W.heap.size := by omega
  have hne' : ¬ W.heap.size = gb := by omega
  go_wp2_with fail
  refine bodyPost_ret (results_ct rfl _ _ W.heap.size 25 #[.int .i64 (x0), .int .i64 (x1), .int .i64 (x2), .int .i64 (x3), .int .i64 (x4), .int .i64 (x5), .int .i64 (4)] (0, 0) _ rfl ?_ Try.underlying25 rfl (by kernel_rfl)) rfl ?_
  · exact blk7 (by repeat (first | (with_reducible exact HA.out) | (with_reducible refine Blk.set_ne ?_ (by first | omega | (dsimp only; omega) | simp) _))) _ _ _ _ _ _ _
  · exact ⟨rfl, by (repeat (first | (with_reducible exact HF.out) | (with_reducible refine Fr.setCell ?_ (Or.inr (by first | omega | (dsimp only; omega) | simp)) _)))⟩
set_option maxRecDepth 100000 in
set_option maxHeartbeats 4000000 in
theorem dec_fencen (w : Nat) (hw : w < 4294967296) (W : World) (ck : fld w 0 7 = 15) (i : I7) (hi : otherP w = i) (c :  i.1 = 0) : Calls Try.prog 36 #[.int .u32 (w : Int)] W fun e w' => e = .returned (.tuple #[i7 (decP w).1, .bool (decP w).2]) ∧ Fr (fun _ => False) W w' := by
  have hP : decP w = size4 (i) := by unfold decP kindP; rw [if_neg (by omega), if_neg (by omega), if_neg (by omega), if_neg (by omega), if_neg (by omega), if_neg (by omega), if_neg (by omega), if_neg (by omega), if_pos (by omega), hi]
  have hQ : size4 (i) = (i0, false) := size4_no c
  rw [hP, hQ]
  have H75 := insD_sq0 w hw
  have H123 := insD_sq1 w hw
  have H155 := insD_sq2 w hw
  have H205 := insD_sq3 w hw
  have H257 := insD_sq4 w hw
  have H07 := Lib.hid (show ∀ W, Calls Try.prog 44 #[.int .u32 (w : Int), .int .i64 0, .int .i64 7] W fun e w' => e = .returned (.int .i64 15) ∧ Fr (fun _ => False) W w' from fun W => by have g := field_fr w 0 7 hw (by decide) (by decide) W; rw [ck] at g; exact g)
  have HC0 := other_any w hw
  rw [hi] at HC0
  clear hP hQ hi ck
  have t0 : (i.1 == 0) = true := beq_iff_eq.2 c
  clear c
  obtain ⟨x0, x1, x2, x3, x4, x5, x6⟩ := i
  dsimp only at t0
  have HC := Lib.hid (show ∀ W, Calls Try.prog 54 #[.int .u32 (w : Int)] W fun e w' => e = .returned (.agg #[.int .i64 x0, .int .i64 x1, .int .i64 x2, .int .i64 x3, .int .i64 x4, .int .i64 x5, .int .i64 x6]) ∧ Fr (fun _ => False) W w' from HC0)
  clear HC0
  generalize fld w 7 5 = rd at *
  generalize fld w 15 5 = r1 at *
  generalize fld w 20 5 = r2 at *
  generalize fld w 25 7 = s7 at *
  generalize fld w 12 3 = f3 at *
  go_enter Try.func36, Try.ntmps36
  go_wp2_with fail
  have HA := Lib.hid (Blk.new W 25 #[.int .i64 0, .int .i64 0, .int .i64 0, .int .i64 0, .int .i64 0, .int .i64 0, .int .i64 0])
  have HF := Lib.hid ((Fr.refl (fun _ => False) W).alloc (.cells #[.int .i64 0, .int .i64 0, .int .i64 0, .int .i64 0, .int .i64 0, .int .i64 0, .int .i64 0] 25))
  generalize W.alloc (.cells #[.int .i64 0, .int .i64 0, .int .i64 0, .int .i64 0, .int .i64 0, .int .i64 0, .int .i64 0] 25) = wz at *
  refine (H75.out _).mono ?_
  rintro e u0 ⟨rfl, hf⟩
  have HA := Lib.hid (HA.out.fr hf id)
  have HF := Lib.hid (HF.out.trans hf (fun _ _ h => h))
  clear hf
  go_wp2_with fail
  refine (H123.out _).mono ?_
  rintro e u1 ⟨rfl, hf⟩
  have HA := Lib.hid (HA.out.fr hf id)
  have HF := Lib.hid (HF.out.trans hf (fun _ _ h => h))
  clear hf
  go_wp2_with fail
  refine (H155.out _).mono ?_
  rintro e u2 ⟨rfl, hf⟩
  have HA := Lib.hid (HA.out.fr hf id)
  have HF := Lib.hid (HF.out.trans hf (fun _ _ h => h))
  clear hf
  go_wp2_with fail
  refine (H205.out _).mono ?_
  rintro e u3 ⟨rfl, hf⟩
  have HA := Lib.hid (HA.out.fr hf id)
  have HF := Lib.hid (HF.out.trans hf (fun _ _ h => h))
  clear hf
  go_wp2_with fail
  refine (H257.out _).mono ?_
  rintro e u4 ⟨rfl, hf⟩
  have HA := Lib.hid (HA.out.fr hf id)
  have HF := Lib.hid (HF.out.trans hf (fun _ _ h => h))
  clear hf
  go_wp2_with fail
  have hlt := HA.out.lt
  have HB := Lib.hid (Blk.new u4 25 #[.int .i64 0, .int .i64 0, .int .i64 0, .int .i64 0, .int .i64 0, .int .i64 0, .int .i64 0])
  have HA := Lib.hid (HA.out.alloc (.cells #[.int .i64 0, .int .i64 0, .int .i64 0, .int .i64 0, .int .i64 0, .int .i64 0, .int .i64 0] 25))
  have HF := Lib.hid (HF.out.alloc (.cells #[.int .i64 0, .int .i64 0, .int .i64 0, .int .i64 0, .int .i64 0, .int .i64 0, .int .i64 0] 25))
  generalize u4.alloc (.cells #[.int .i64 0, .int .i64 0, .int .i64 0, .int .i64 0, .int .i64 0, .int .i64 0, .int .i64 0] 25) = vz at *
  generalize u4.heap.size = gb at *
  refine (H07.out _).mono ?_
  rintro e v0 ⟨rfl, hf⟩
  have HA := Lib.hid (HA.out.fr hf id)
  have HF := Lib.hid (HF.out.trans hf (fun _ _ h => h))
  have HB := Lib.hid (HB.out.fr hf id)
  clear hf
  go_wp2_with fail
  refine (HC.out _).mono ?_
  rintro e v1 ⟨rfl, hf⟩
  have HA := Lib.hid (HA.out.fr hf id)
  have HF := Lib.hid (HF.out.trans hf (fun _ _ h => h))
  have HB := Lib.hid (HB.out.fr hf id)
  clear hf
  obtain ⟨ka0, ka1, ka2, ka3, ka4, ka5, ka6, fa0, fa1, fa2, fa3, fa4, fa5, fa6⟩ := blkat7 HA.out
  obtain ⟨kb0, kb1, kb2, kb3, kb4, kb5, kb6, fb0, fb1, fb2, fb3, fb4, fb5, fb6⟩ := blkat7 HB.out
  have hne : ¬ gb = W.heap.size := by omega
  have hne' : ¬ W.heap.size = gb := by omega
  go_upto_region 26 with (fail)
  have HB' := Lib.hid (blk7 HB.out (.int .i64 (x0)) (.int .i64 (x1)) (.int .i64 (x2)) (.int .i64 (x3)) (.int .i64 (x4)) (.int .i64 (x5)) (.int .i64 (x6)))
  have HA' := Lib.hid (show Blk (((((((v1.setCell ⟨gb, 0, none⟩ (.int .i64 (x0))).setCell ⟨gb, 1, none⟩ (.int .i64 (x1))).setCell ⟨gb, 2, none⟩ (.int .i64 (x2))).setCell ⟨gb, 3, none⟩ (.int .i64 (x3))).setCell ⟨gb, 4, none⟩ (.int .i64 (x4))).setCell ⟨gb, 5, none⟩ (.int .i64 (x5))).setCell ⟨gb, 6, none⟩ (.int .i64 (x6))) W.heap.size 25 #[.int .i64 0, .int .i64 0, .int .i64 0, .int .i64 0, .int .i64 0, .int .i64 0, .int .i64 0] from by repeat (first | (with_reducible exact HA.out) | (with_reducible refine Blk.set_ne ?_ (by first | omega | (dsimp only; omega) | simp) _)))
  have HF' := Lib.hid (show Fr (fun _ => False) W (((((((v1.setCell ⟨gb, 0, none⟩ (.int .i64 (x0))).setCell ⟨gb, 1, none⟩ (.int .i64 (x1))).setCell ⟨gb, 2, none⟩ (.int .i64 (x2))).setCell ⟨gb, 3, none⟩ (.int .i64 (x3))).setCell ⟨gb, 4, none⟩ (.int .i64 (x4))).setCell ⟨gb, 5, none⟩ (.int .i64 (x5))).setCell ⟨gb, 6, none⟩ (.int .i64 (x6))) from by (repeat (first | (with_reducible exact HF.out) | (with_reducible refine Fr.setCell ?_ (Or.inr (by first | omega | (dsimp only; omega) | simp)) _))))
  clear hne hne' ka0 fa0 ka1 fa1 ka2 fa2 ka3 fa3 ka4 fa4 ka5 fa5 ka6 fa6 kb0 fb0 kb1 fb1 kb2 fb2 kb3 fb3 kb4 fb4 kb5 fb5 kb6 fb6
  clear HA HB HF
  generalize (((((((v1.setCell ⟨gb, 0, none⟩ (.int .i64 (x0))).setCell ⟨gb, 1, none⟩ (.int .i64 (x1))).setCell ⟨gb, 2, none⟩ (.int .i64 (x2))).setCell ⟨gb, 3, none⟩ (.int .i64 (x3))).setCell ⟨gb, 4, none⟩ (.int .i64 (x4))).setCell ⟨gb, 5, none⟩ (.int .i64 (x5))).setCell ⟨gb, 6, none⟩ (.int .i64 (x6))) = wx at *
  have HA := HA'
  have HB := HB'
  have HF := HF'
  clear HA' HB' HF'
  obtain ⟨ka0, ka1, ka2, ka3, ka4, ka5, ka6, fa0, fa1, fa2, fa3, fa4, fa5, fa6⟩ := blkat7 HA.out
  obtain ⟨kb0, kb1, kb2, kb3, kb4, kb5, kb6, fb0, fb1, fb2, fb3, fb4, fb5, fb6⟩ := blkat7 HB.out
  have hne : ¬ gb = W.heap.size := by omega
  have hne' : ¬ W.heap.size = gb := by omega
  go_wp2_with fail
  refine bodyPost_ret (results_ct rfl _ _ W.heap.size 25 #[.int .i64 (0), .int .i64 (0), .int .i64 (0), .int .i64 (0), .int .i64 (0), .int .i64 (0), .int .i64 (0)] (0, 0) _ rfl ?_ Try.underlying25 rfl (by kernel_rfl)) rfl ?_
  · exact blk7 (by repeat (first | (with_reducible exact HA.out) | (with_reducible refine Blk.set_ne ?_ (by first | omega | (dsimp only; omega) | simp) _))) _ _ _ _ _ _ _
  · exact ⟨rfl, by (repeat (first | (with_reducible exact HF.out) | (with_reducible refine Fr.setCell ?_ (Or.inr (by first | omega | (dsimp only; omega) | simp)) _)))⟩
set_option maxRecDepth 100000 in
set_option maxHeartbeats 4000000 in
theorem dec_system (w : Nat) (hw : w < 4294967296) (W : World) (ck : fld w 0 7 = 115) (i : I7) (hi : otherP w = i) (c : ¬ i.1 = 0) : Calls Try.prog 36 #[.int .u32 (w : Int)] W fun e w' => e = .returned (.tuple #[i7 (decP w).1, .bool (decP w).2]) ∧ Fr (fun _ => False) W w' := by
  have hP : decP w = size4 (i) := by unfold decP kindP; rw [if_neg (by omega), if_neg (by omega), if_neg (by omega), if_neg (by omega), if_neg (by omega), if_neg (by omega), if_neg (by omega), if_neg (by omega), if_pos (by omega), hi]
  have hQ : size4 (i) = ((i.1, i.2.1, i.2.2.1, i.2.2.2.1, i.2.2.2.2.1, i.2.2.2.2.2.1, 4), true) := size4_yes c
  rw [hP, hQ]
  have H75 := insD_sq0 w hw
  have H123 := insD_sq1 w hw
  have H155 := insD_sq2 w hw
  have H205 := insD_sq3 w hw
  have H257 := insD_sq4 w hw
  have H07 := Lib.hid (show ∀ W, Calls Try.prog 44 #[.int .u32 (w : Int), .int .i64 0, .int .i64 7] W fun e w' => e = .returned (.int .i64 115) ∧ Fr (fun _ => False) W w' from fun W => by have g := field_fr w 0 7 hw (by decide) (by decide) W; rw [ck] at g; exact g)
  have HC0 := other_any w hw
  rw [hi] at HC0
  clear hP hQ hi ck
  have t0 : (i.1 == 0) = false := beq_eq_false_iff_ne.2 c
  clear c
  obtain ⟨x0, x1, x2, x3, x4, x5, x6⟩ := i
  dsimp only at t0
  have HC := Lib.hid (show ∀ W, Calls Try.prog 54 #[.int .u32 (w : Int)] W fun e w' => e = .returned (.agg #[.int .i64 x0, .int .i64 x1, .int .i64 x2, .int .i64 x3, .int .i64 x4, .int .i64 x5, .int .i64 x6]) ∧ Fr (fun _ => False) W w' from HC0)
  clear HC0
  generalize fld w 7 5 = rd at *
  generalize fld w 15 5 = r1 at *
  generalize fld w 20 5 = r2 at *
  generalize fld w 25 7 = s7 at *
  generalize fld w 12 3 = f3 at *
  go_enter Try.func36, Try.ntmps36
  go_wp2_with fail
  have HA := Lib.hid (Blk.new W 25 #[.int .i64 0, .int .i64 0, .int .i64 0, .int .i64 0, .int .i64 0, .int .i64 0, .int .i64 0])
  have HF := Lib.hid ((Fr.refl (fun _ => False) W).alloc (.cells #[.int .i64 0, .int .i64 0, .int .i64 0, .int .i64 0, .int .i64 0, .int .i64 0, .int .i64 0] 25))
  generalize W.alloc (.cells #[.int .i64 0, .int .i64 0, .int .i64 0, .int .i64 0, .int .i64 0, .int .i64 0, .int .i64 0] 25) = wz at *
  refine (H75.out _).mono ?_
  rintro e u0 ⟨rfl, hf⟩
  have HA := Lib.hid (HA.out.fr hf id)
  have HF := Lib.hid (HF.out.trans hf (fun _ _ h => h))
  clear hf
  go_wp2_with fail
  refine (H123.out _).mono ?_
  rintro e u1 ⟨rfl, hf⟩
  have HA := Lib.hid (HA.out.fr hf id)
  have HF := Lib.hid (HF.out.trans hf (fun _ _ h => h))
  clear hf
  go_wp2_with fail
  refine (H155.out _).mono ?_
  rintro e u2 ⟨rfl, hf⟩
  have HA := Lib.hid (HA.out.fr hf id)
  have HF := Lib.hid (HF.out.trans hf (fun _ _ h => h))
  clear hf
  go_wp2_with fail
  refine (H205.out _).mono ?_
  rintro e u3 ⟨rfl, hf⟩
  have HA := Lib.hid (HA.out.fr hf id)
  have HF := Lib.hid (HF.out.trans hf (fun _ _ h => h))
  clear hf
  go_wp2_with fail
  refine (H257.out _).mono ?_
  rintro e u4 ⟨rfl, hf⟩
  have HA := Lib.hid (HA.out.fr hf id)
  have HF := Lib.hid (HF.out.trans hf (fun _ _ h => h))
  clear hf
  go_wp2_with fail
  have hlt := HA.out.lt
  have HB := Lib.hid (Blk.new u4 25 #[.int .i64 0, .int .i64 0, .int .i64 0, .int .i64 0, .int .i64 0, .int .i64 0, .int .i64 0])
  have HA := Lib.hid (HA.out.alloc (.cells #[.int .i64 0, .int .i64 0, .int .i64 0, .int .i64 0, .int .i64 0, .int .i64 0, .int .i64 0] 25))
  have HF := Lib.hid (HF.out.alloc (.cells #[.int .i64 0, .int .i64 0, .int .i64 0, .int .i64 0, .int .i64 0, .int .i64 0, .int .i64 0] 25))
  generalize u4.alloc (.cells #[.int .i64 0, .int .i64 0, .int .i64 0, .int .i64 0, .int .i64 0, .int .i64 0, .int .i64 0] 25) = vz at *
  generalize u4.heap.size = gb at *
  refine (H07.out _).mono ?_
  rintro e v0 ⟨rfl, hf⟩
  have HA := Lib.hid (HA.out.fr hf id)
  have HF := Lib.hid (HF.out.trans hf (fun _ _ h => h))
  have HB := Lib.hid (HB.out.fr hf id)
  clear hf
  go_wp2_with fail
  refine (HC.out _).mono ?_
  rintro e v1 ⟨rfl, hf⟩
  have HA := Lib.hid (HA.out.fr hf id)
  have HF := Lib.hid (HF.out.trans hf (fun _ _ h => h))
  have HB := Lib.hid (HB.out.fr hf id)
  clear hf
  obtain ⟨ka0, ka1, ka2, ka3, ka4, ka5, ka6, fa0, fa1, fa2, fa3, fa4, fa5, fa6⟩ := blkat7 HA.out
  obtain ⟨kb0, kb1, kb2, kb3, kb4, kb5, kb6, fb0, fb1, fb2, fb3, fb4, fb5, fb6⟩ := blkat7 HB.out
  have hne : ¬ gb = W.heap.size := by omega
  have hne' : ¬ W.heap.size = gb := by omega
  go_upto_region 26 with (fail)
  have HB' := Lib.hid (blk7 HB.out (.int .i64 (x0)) (.int .i64 (x1)) (.int .i64 (x2)) (.int .i64 (x3)) (.int .i64 (x4)) (.int .i64 (x5)) (.int .i64 (x6)))
  have HA' := Lib.hid (show Blk (((((((v1.setCell ⟨gb, 0, none⟩ (.int .i64 (x0))).setCell ⟨gb, 1, none⟩ (.int .i64 (x1))).setCell ⟨gb, 2, none⟩ (.int .i64 (x2))).setCell ⟨gb, 3, none⟩ (.int .i64 (x3))).setCell ⟨gb, 4, none⟩ (.int .i64 (x4))).setCell ⟨gb, 5, none⟩ (.int .i64 (x5))).setCell ⟨gb, 6, none⟩ (.int .i64 (x6))) W.heap.size 25 #[.int .i64 0, .int .i64 0, .int .i64 0, .int .i64 0, .int .i64 0, .int .i64 0, .int .i64 0] from by repeat (first | (with_reducible exact HA.out) | (with_reducible refine Blk.set_ne ?_ (by first | omega | (dsimp only; omega) | simp) _)))
  have HF' := Lib.hid (show Fr (fun _ => False) W (((((((v1.setCell ⟨gb, 0, none⟩ (.int .i64 (x0))).setCell ⟨gb, 1, none⟩ (.int .i64 (x1))).setCell ⟨gb, 2, none⟩ (.int .i64 (x2))).setCell ⟨gb, 3, none⟩ (.int .i64 (x3))).setCell ⟨gb, 4, none⟩ (.int .i64 (x4))).setCell ⟨gb, 5, none⟩ (.int .i64 (x5))).setCell ⟨gb, 6, none⟩ (.int .i64 (x6))) from by (repeat (first | (with_reducible exact HF.out) | (with_reducible refine Fr.setCell ?_ (Or.inr (by first | omega | (dsimp only; omega) | simp)) _))))
  clear hne hne' ka0 fa0 ka1 fa1 ka2 fa2 ka3 fa3 ka4 fa4 ka5 fa5 ka6 fa6 kb0 fb0 kb1 fb1 kb2 fb2 kb3 fb3 kb4 fb4 kb5 fb5 kb6 fb6
  clear HA HB HF
  generalize (((((((v1.setCell ⟨gb, 0, none⟩ (.int .i64 (x0))).setCell ⟨gb, 1, none⟩ (.int .i64 (x1))).setCell ⟨gb, 2, none⟩ (.int .i64 (x2))).setCell ⟨gb, 3, none⟩ (.int .i64 (x3))).setCell ⟨gb, 4, none⟩ (.int .i64 (x4))).setCell ⟨gb, 5, none⟩ (.int .i64 (x5))).setCell ⟨gb, 6, none⟩ (.int .i64 (x6))) = wx at *
  have HA := HA'
  have HB := HB'
  have HF := HF'
  clear HA' HB' HF'
  obtain ⟨ka0, ka1, ka2, ka3, ka4, ka5, ka6, fa0, fa1, fa2, fa3, fa4, fa5, fa6⟩ := blkat7 HA.out
  obtain ⟨kb0, kb1, kb2, kb3, kb4, kb5, kb6, fb0, fb1, fb2, fb3, fb4, fb5, fb6⟩ := blkat7 HB.out
  have hne : ¬ gb = W.heap.size := by omega
  have hne' : ¬ W.heap.size = gb := by omega
  go_wp2_with fail
  refine bodyPost_ret (results_ct rfl _ _ W.heap.size 25 #[.int .i64 (x0), .int .i64 (x1), .int .i64 (x2), .int .i64 (x3), .int .i64 (x4), .int .i64 (x5), .int .i64 (4)] (0, 0) _ rfl ?_ Try.underlying25 rfl (by kernel_rfl)) rfl ?_
  · exact blk7 (by repeat (first | (with_reducible exact HA.out) | (with_reducible refine Blk.set_ne ?_ (by first | omega | (dsimp only; omega) | simp) _))) _ _ _ _ _ _ _
  · exact ⟨rfl, by (repeat (first | (with_reducible exact HF.out) | (with_reducible refine Fr.setCell ?_ (Or.inr (by first | omega | (dsimp only; omega) | simp)) _)))⟩
set_option maxRecDepth 100000 in
set_option maxHeartbeats 4000000 in
theorem dec_systemn (w : Nat) (hw : w < 4294967296) (W : World) (ck : fld w 0 7 = 115) (i : I7) (hi : otherP w = i) (c :  i.1 = 0) : Calls Try.prog 36 #[.int .u32 (w : Int)] W fun e w' => e = .returned (.tuple #[i7 (decP w).1, .bool (decP w).2]) ∧ Fr (fun _ => False) W w' := by
  have hP : decP w = size4 (i) := by unfold decP kindP; rw [if_neg (by omega), if_neg (by omega), if_neg (by omega), if_neg (by omega), if_neg (by omega), if_neg (by omega), if_neg (by omega), if_neg (by omega), if_pos (by omega), hi]
  have hQ : size4 (i) = (i0, false) := size4_no c
  rw [hP, hQ]
  have H75 := insD_sq0 w hw
  have H123 := insD_sq1 w hw
  have H155 := insD_sq2 w hw
  have H205 := insD_sq3 w hw
  have H257 := insD_sq4 w hw
  have H07 := Lib.hid (show ∀ W, Calls Try.prog 44 #[.int .u32 (w : Int), .int .i64 0, .int .i64 7] W fun e w' => e = .returned (.int .i64 115) ∧ Fr (fun _ => False) W w' from fun W => by have g := field_fr w 0 7 hw (by decide) (by decide) W; rw [ck] at g; exact g)
  have HC0 := other_any w hw
  rw [hi] at HC0
  clear hP hQ hi ck
  have t0 : (i.1 == 0) = true := beq_iff_eq.2 c
  clear c
  obtain ⟨x0, x1, x2, x3, x4, x5, x6⟩ := i
  dsimp only at t0
  have HC := Lib.hid (show ∀ W, Calls Try.prog 54 #[.int .u32 (w : Int)] W fun e w' => e = .returned (.agg #[.int .i64 x0, .int .i64 x1, .int .i64 x2, .int .i64 x3, .int .i64 x4, .int .i64 x5, .int .i64 x6]) ∧ Fr (fun _ => False) W w' from HC0)
  clear HC0
  generalize fld w 7 5 = rd at *
  generalize fld w 15 5 = r1 at *
  generalize fld w 20 5 = r2 at *
  generalize fld w 25 7 = s7 at *
  generalize fld w 12 3 = f3 at *
  go_enter Try.func36, Try.ntmps36
  go_wp2_with fail
  have HA := Lib.hid (Blk.new W 25 #[.int .i64 0, .int .i64 0, .int .i64 0, .int .i64 0, .int .i64 0, .int .i64 0, .int .i64 0])
  have HF := Lib.hid ((Fr.refl (fun _ => False) W).alloc (.cells #[.int .i64 0, .int .i64 0, .int .i64 0, .int .i64 0, .int .i64 0, .int .i64 0, .int .i64 0] 25))
  generalize W.alloc (.cells #[.int .i64 0, .int .i64 0, .int .i64 0, .int .i64 0, .int .i64 0, .int .i64 0, .int .i64 0] 25) = wz at *
  refine (H75.out _).mono ?_
  rintro e u0 ⟨rfl, hf⟩
  have HA := Lib.hid (HA.out.fr hf id)
  have HF := Lib.hid (HF.out.trans hf (fun _ _ h => h))
  clear hf
  go_wp2_with fail
  refine (H123.out _).mono ?_
  rintro e u1 ⟨rfl, hf⟩
  have HA := Lib.hid (HA.out.fr hf id)
  have HF := Lib.hid (HF.out.trans hf (fun _ _ h => h))
  clear hf
  go_wp2_with fail
  refine (H155.out _).mono ?_
  rintro e u2 ⟨rfl, hf⟩
  have HA := Lib.hid (HA.out.fr hf id)
  have HF := Lib.hid (HF.out.trans hf (fun _ _ h => h))
  clear hf
  go_wp2_with fail
  refine (H205.out _).mono ?_
  rintro e u3 ⟨rfl, hf⟩
  have HA := Lib.hid (HA.out.fr hf id)
  have HF := Lib.hid (HF.out.trans hf (fun _ _ h => h))
  clear hf
  go_wp2_with fail
  refine (H257.out _).mono ?_
  rintro e u4 ⟨rfl, hf⟩
  have HA := Lib.hid (HA.out.fr hf id)
  have HF := Lib.hid (HF.out.trans hf (fun _ _ h => h))
  clear hf
  go_wp2_with fail
  have hlt := HA.out.lt
  have HB := Lib.hid (Blk.new u4 25 #[.int .i64 0, .int .i64 0, .int .i64 0, .int .i64 0, .int .i64 0, .int .i64 0, .int .i64 0])
  have HA := Lib.hid (HA.out.alloc (.cells #[.int .i64 0, .int .i64 0, .int .i64 0, .int .i64 0, .int .i64 0, .int .i64 0, .int .i64 0] 25))
  have HF := Lib.hid (HF.out.alloc (.cells #[.int .i64 0, .int .i64 0, .int .i64 0, .int .i64 0, .int .i64 0, .int .i64 0, .int .i64 0] 25))
  generalize u4.alloc (.cells #[.int .i64 0, .int .i64 0, .int .i64 0, .int .i64 0, .int .i64 0, .int .i64 0, .int .i64 0] 25) = vz at *
  generalize u4.heap.size = gb at *
  refine (H07.out _).mono ?_
  rintro e v0 ⟨rfl, hf⟩
  have HA := Lib.hid (HA.out.fr hf id)
  have HF := Lib.hid (HF.out.trans hf (fun _ _ h => h))
  have HB := Lib.hid (HB.out.fr hf id)
  clear hf
  go_wp2_with fail
  refine (HC.out _).mono ?_
  rintro e v1 ⟨rfl, hf⟩
  have HA := Lib.hid (HA.out.fr hf id)
  have HF := Lib.hid (HF.out.trans hf (fun _ _ h => h))
  have HB := Lib.hid (HB.out.fr hf id)
  clear hf
  obtain ⟨ka0, ka1, ka2, ka3, ka4, ka5, ka6, fa0, fa1, fa2, fa3, fa4, fa5, fa6⟩ := blkat7 HA.out
  obtain ⟨kb0, kb1, kb2, kb3, kb4, kb5, kb6, fb0, fb1, fb2, fb3, fb4, fb5, fb6⟩ := blkat7 HB.out
  have hne : ¬ gb = W.heap.size := by omega
  have hne' : ¬ W.heap.size = gb := by omega
  go_upto_region 26 with (fail)
  have HB' := Lib.hid (blk7 HB.out (.int .i64 (x0)) (.int .i64 (x1)) (.int .i64 (x2)) (.int .i64 (x3)) (.int .i64 (x4)) (.int .i64 (x5)) (.int .i64 (x6)))
  have HA' := Lib.hid (show Blk (((((((v1.setCell ⟨gb, 0, none⟩ (.int .i64 (x0))).setCell ⟨gb, 1, none⟩ (.int .i64 (x1))).setCell ⟨gb, 2, none⟩ (.int .i64 (x2))).setCell ⟨gb, 3, none⟩ (.int .i64 (x3))).setCell ⟨gb, 4, none⟩ (.int .i64 (x4))).setCell ⟨gb, 5, none⟩ (.int .i64 (x5))).setCell ⟨gb, 6, none⟩ (.int .i64 (x6))) W.heap.size 25 #[.int .i64 0, .int .i64 0, .int .i64 0, .int .i64 0, .int .i64 0, .int .i64 0, .int .i64 0] from by repeat (first | (with_reducible exact HA.out) | (with_reducible refine Blk.set_ne ?_ (by first | omega | (dsimp only; omega) | simp) _)))
  have HF' := Lib.hid (show Fr (fun _ => False) W (((((((v1.setCell ⟨gb, 0, none⟩ (.int .i64 (x0))).setCell ⟨gb, 1, none⟩ (.int .i64 (x1))).setCell ⟨gb, 2, none⟩ (.int .i64 (x2))).setCell ⟨gb, 3, none⟩ (.int .i64 (x3))).setCell ⟨gb, 4, none⟩ (.int .i64 (x4))).setCell ⟨gb, 5, none⟩ (.int .i64 (x5))).setCell ⟨gb, 6, none⟩ (.int .i64 (x6))) from by (repeat (first | (with_reducible exact HF.out) | (with_reducible refine Fr.setCell ?_ (Or.inr (by first | omega | (dsimp only; omega) | simp)) _))))
  clear hne hne' ka0 fa0 ka1 fa1 ka2 fa2 ka3 fa3 ka4 fa4 ka5 fa5 ka6 fa6 kb0 fb0 kb1 fb1 kb2 fb2 kb3 fb3 kb4 fb4 kb5 fb5 kb6 fb6
  clear HA HB HF
  generalize (((((((v1.setCell ⟨gb, 0, none⟩ (.int .i64 (x0))).setCell ⟨gb, 1, none⟩ (.int .i64 (x1))).setCell ⟨gb, 2, none⟩ (.int .i64 (x2))).setCell ⟨gb, 3, none⟩ (.int .i64 (x3))).setCell ⟨gb, 4, none⟩ (.int .i64 (x4))).setCell ⟨gb, 5, none⟩ (.int .i64 (x5))).setCell ⟨gb, 6, none⟩ (.int .i64 (x6))) = wx at *
  have HA := HA'
  have HB := HB'
  have HF := HF'
  clear HA' HB' HF'
  obtain ⟨ka0, ka1, ka2, ka3, ka4, ka5, ka6, fa0, fa1, fa2, fa3, fa4, fa5, fa6⟩ := blkat7 HA.out
  obtain ⟨kb0, kb1, kb2, kb3, kb4, kb5, kb6, fb0, fb1, fb2, fb3, fb4, fb5, fb6⟩ := blkat7 HB.out
  have hne : ¬ gb = W.heap.size := by omega
  have hne' : ¬ W.heap.size = gb := by omega
  go_wp2_with fail
  refine bodyPost_ret (results_ct rfl _ _ W.heap.size 25 #[.int .i64 (0), .int .i64 (0), .int .i64 (0), .int .i64 (0), .int .i64 (0), .int .i64 (0), .int .i64 (0)] (0, 0) _ rfl ?_ Try.underlying25 rfl (by kernel_rfl)) rfl ?_
  · exact blk7 (by repeat (first | (with_reducible exact HA.out) | (with_reducible refine Blk.set_ne ?_ (by first | omega | (dsimp only; omega) | simp) _))) _ _ _ _ _ _ _
  · exact ⟨rfl, by (repeat (first | (with_reducible exact HF.out) | (with_reducible refine Fr.setCell ?_ (Or.inr (by first | omega | (dsimp only; omega) | simp)) _)))⟩
set_option maxRecDepth 100000 in
set_option maxHeartbeats 4000000 in
theorem dec_imm (w : Nat) (hw : w < 4294967296) (W : World) (c55 : fld w 0 7 ≠ 55) (c23 : fld w 0 7 ≠ 23) (c111 : fld w 0 7 ≠ 111) (c99 : fld w 0 7 ≠ 99) (c35 : fld w 0 7 ≠ 35) (c51 : fld w 0 7 ≠ 51) (c59 : fld w 0 7 ≠ 59) (c47 : fld w 0 7 ≠ 47) (c15 : fld w 0 7 ≠ 15) (c115 : fld w 0 7 ≠ 115) (i : I7) (hi : withImmP w = i) (c : ¬ i.1 = 0) : Calls Try.prog 36 #[.int .u32 (w : Int)] W fun e w' => e = .returned (.tuple #[i7 (decP w).1, .bool (decP w).2]) ∧ Fr (fun _ => False) W w' := by
  have hP : decP w = size4 (regsP w i) := by unfold decP kindP; rw [if_neg (by omega), if_neg (by omega), if_neg (by omega), if_neg (by omega), if_neg (by omega), if_neg (by omega), if_neg (by omega), if_neg (by omega), if_neg (by omega), hi]
  have hQ : size4 (regsP w i) = ((i.1, ((fld w 7 5 : Nat) : Int), ((fld w 15 5 : Nat) : Int), i.2.2.2.1, i.2.2.2.2.1, i.2.2.2.2.2.1, 4), true) := size4_yes c
  rw [hP, hQ]
  have H75 := insD_sq0 w hw
  have H123 := insD_sq1 w hw
  have H155 := insD_sq2 w hw
  have H205 := insD_sq3 w hw
  have H257 := insD_sq4 w hw
  have H07 := Lib.hid (show ∀ W, Calls Try.prog 44 #[.int .u32 (w : Int), .int .i64 0, .int .i64 7] W fun e w' => e = .returned (.int .i64 ((fld w 0 7 : Nat) : Int)) ∧ Fr (fun _ => False) W w' from field_fr w 0 7 hw (by decide) (by decide))
  have t55 : (((fld w 0 7 : Nat) : Int) == 55) = false := beq_eq_false_iff_ne.2 (by omega)
  have t23 : (((fld w 0 7 : Nat) : Int) == 23) = false := beq_eq_false_iff_ne.2 (by omega)
  have t111 : (((fld w 0 7 : Nat) : Int) == 111) = false := beq_eq_false_iff_ne.2 (by omega)
  have t99 : (((fld w 0 7 : Nat) : Int) == 99) = false := beq_eq_false_iff_ne.2 (by omega)
  have t35 : (((fld w 0 7 : Nat) : Int) == 35) = false := beq_eq_false_iff_ne.2 (by omega)
  have t51 : (((fld w 0 7 : Nat) : Int) == 51) = false := beq_eq_false_iff_ne.2 (by omega)
  have t59 : (((fld w 0 7 : Nat) : Int) == 59) = false := beq_eq_false_iff_ne.2 (by omega)
  have t47 : (((fld w 0 7 : Nat) : Int) == 47) = false := beq_eq_false_iff_ne.2 (by omega)
  have t15 : (((fld w 0 7 : Nat) : Int) == 15) = false := beq_eq_false_iff_ne.2 (by omega)
  have t115 : (((fld w 0 7 : Nat) : Int) == 115) = false := beq_eq_false_iff_ne.2 (by omega)
  have HC0 := withImm_any w hw
  rw [hi] at HC0
  clear hP hQ hi c55 c23 c111 c99 c35 c51 c59 c47 c15 c115
  have t0 : (i.1 == 0) = false := beq_eq_false_iff_ne.2 c
  clear c
  obtain ⟨x0, x1, x2, x3, x4, x5, x6⟩ := i
  dsimp only at t0
  have HC := Lib.hid (show ∀ W, Calls Try.prog 55 #[.int .u32 (w : Int)] W fun e w' => e = .returned (.agg #[.int .i64 x0, .int .i64 x1, .int .i64 x2, .int .i64 x3, .int .i64 x4, .int .i64 x5, .int .i64 x6]) ∧ Fr (fun _ => False) W w' from HC0)
  clear HC0
  generalize fld w 7 5 = rd at *
  generalize fld w 15 5 = r1 at *
  generalize fld w 20 5 = r2 at *
  generalize fld w 25 7 = s7 at *
  generalize fld w 12 3 = f3 at *
  generalize fld w 0 7 = p7 at *
  generalize (p7 : Int) = y7 at *
  go_enter Try.func36, Try.ntmps36
  go_wp2_with fail
  have HA := Lib.hid (Blk.new W 25 #[.int .i64 0, .int .i64 0, .int .i64 0, .int .i64 0, .int .i64 0, .int .i64 0, .int .i64 0])
  have HF := Lib.hid ((Fr.refl (fun _ => False) W).alloc (.cells #[.int .i64 0, .int .i64 0, .int .i64 0, .int .i64 0, .int .i64 0, .int .i64 0, .int .i64 0] 25))
  generalize W.alloc (.cells #[.int .i64 0, .int .i64 0, .int .i64 0, .int .i64 0, .int .i64 0, .int .i64 0, .int .i64 0] 25) = wz at *
  refine (H75.out _).mono ?_
  rintro e u0 ⟨rfl, hf⟩
  have HA := Lib.hid (HA.out.fr hf id)
  have HF := Lib.hid (HF.out.trans hf (fun _ _ h => h))
  clear hf
  go_wp2_with fail
  refine (H123.out _).mono ?_
  rintro e u1 ⟨rfl, hf⟩
  have HA := Lib.hid (HA.out.fr hf id)
  have HF := Lib.hid (HF.out.trans hf (fun _ _ h => h))
  clear hf
  go_wp2_with fail
  refine (H155.out _).mono ?_
  rintro e u2 ⟨rfl, hf⟩
  have HA := Lib.hid (HA.out.fr hf id)
  have HF := Lib.hid (HF.out.trans hf (fun _ _ h => h))
  clear hf
  go_wp2_with fail
  refine (H205.out _).mono ?_
  rintro e u3 ⟨rfl, hf⟩
  have HA := Lib.hid (HA.out.fr hf id)
  have HF := Lib.hid (HF.out.trans hf (fun _ _ h => h))
  clear hf
  go_wp2_with fail
  refine (H257.out _).mono ?_
  rintro e u4 ⟨rfl, hf⟩
  have HA := Lib.hid (HA.out.fr hf id)
  have HF := Lib.hid (HF.out.trans hf (fun _ _ h => h))
  clear hf
  go_wp2_with fail
  have hlt := HA.out.lt
  have HB := Lib.hid (Blk.new u4 25 #[.int .i64 0, .int .i64 0, .int .i64 0, .int .i64 0, .int .i64 0, .int .i64 0, .int .i64 0])
  have HA := Lib.hid (HA.out.alloc (.cells #[.int .i64 0, .int .i64 0, .int .i64 0, .int .i64 0, .int .i64 0, .int .i64 0, .int .i64 0] 25))
  have HF := Lib.hid (HF.out.alloc (.cells #[.int .i64 0, .int .i64 0, .int .i64 0, .int .i64 0, .int .i64 0, .int .i64 0, .int .i64 0] 25))
  generalize u4.alloc (.cells #[.int .i64 0, .int .i64 0, .int .i64 0, .int .i64 0, .int .i64 0, .int .i64 0, .int .i64 0] 25) = vz at *
  generalize u4.heap.size = gb at *
  refine (H07.out _).mono ?_
  rintro e v0 ⟨rfl, hf⟩
  have HA := Lib.hid (HA.out.fr hf id)
  have HF := Lib.hid (HF.out.trans hf (fun _ _ h => h))
  have HB := Lib.hid (HB.out.fr hf id)
  clear hf
  go_wp2_with fail
  refine (HC.out _).mono ?_
  rintro e v1 ⟨rfl, hf⟩
  have HA := Lib.hid (HA.out.fr hf id)
  have HF := Lib.hid (HF.out.trans hf (fun _ _ h => h))
  have HB := Lib.hid (HB.out.fr hf id)
  clear hf
  obtain ⟨ka0, ka1, ka2, ka3, ka4, ka5, ka6, fa0, fa1, fa2, fa3, fa4, fa5, fa6⟩ := blkat7 HA.out
  obtain ⟨kb0, kb1, kb2, kb3, kb4, kb5, kb6, fb0, fb1, fb2, fb3, fb4, fb5, fb6⟩ := blkat7 HB.out
  have hne : ¬ gb = W.heap.size := by omega
  have hne' : ¬ W.heap.size = gb := by omega
  go_upto_region 26 with (fail)
  have HB' := Lib.hid (blk9 HB.out (.int .i64 (x0)) (.int .i64 (x1)) (.int .i64 (x2)) (.int .i64 (x3)) (.int .i64 (x4)) (.int .i64 (x5)) (.int .i64 (x6)) (.int .i64 (rd : Int)) (.int .i64 (r1 : Int)))
  have HA' := Lib.hid (show Blk (((((((((v1.setCell ⟨gb, 0, none⟩ (.int .i64 (x0))).setCell ⟨gb, 1, none⟩ (.int .i64 (x1))).setCell ⟨gb, 2, none⟩ (.int .i64 (x2))).setCell ⟨gb, 3, none⟩ (.int .i64 (x3))).setCell ⟨gb, 4, none⟩ (.int .i64 (x4))).setCell ⟨gb, 5, none⟩ (.int .i64 (x5))).setCell ⟨gb, 6, none⟩ (.int .i64 (x6))).setCell ⟨gb, 1, none⟩ (.int .i64 (rd : Int))).setCell ⟨gb, 2, none⟩ (.int .i64 (r1 : Int))) W.heap.size 25 #[.int .i64 0, .int .i64 0, .int .i64 0, .int .i64 0, .int .i64 0, .int .i64 0, .int .i64 0] from by repeat (first | (with_reducible exact HA.out) | (with_reducible refine Blk.set_ne ?_ (by first | omega | (dsimp only; omega) | simp) _)))
  have HF' := Lib.hid (show Fr (fun _ => False) W (((((((((v1.setCell ⟨gb, 0, none⟩ (.int .i64 (x0))).setCell ⟨gb, 1, none⟩ (.int .i64 (x1))).setCell ⟨gb, 2, none⟩ (.int .i64 (x2))).setCell ⟨gb, 3, none⟩ (.int .i64 (x3))).setCell ⟨gb, 4, none⟩ (.int .i64 (x4))).setCell ⟨gb, 5, none⟩ (.int .i64 (x5))).setCell ⟨gb, 6, none⟩ (.int .i64 (x6))).setCell ⟨gb, 1, none⟩ (.int .i64 (rd : Int))).setCell ⟨gb, 2, none⟩ (.int .i64 (r1 : Int))) from by (repeat (first | (with_reducible exact HF.out) | (with_reducible refine Fr.setCell ?_ (Or.inr (by first | omega | (dsimp only; omega) | simp)) _))))
  clear hne hne' ka0 fa0 ka1 fa1 ka2 fa2 ka3 fa3 ka4 fa4 ka5 fa5 ka6 fa6 kb0 fb0 kb1 fb1 kb2 fb2 kb3 fb3 kb4 fb4 kb5 fb5 kb6 fb6
  clear HA HB HF
  generalize (((((((((v1.setCell ⟨gb, 0, none⟩ (.int .i64 (x0))).setCell ⟨gb, 1, none⟩ (.int .i64 (x1))).setCell ⟨gb, 2, none⟩ (.int .i64 (x2))).setCell ⟨gb, 3, none⟩ (.int .i64 (x3))).setCell ⟨gb, 4, none⟩ (.int .i64 (x4))).setCell ⟨gb, 5, none⟩ (.int .i64 (x5))).setCell ⟨gb, 6, none⟩ (.int .i64 (x6))).setCell ⟨gb, 1, none⟩ (.int .i64 (rd : Int))).setCell ⟨gb, 2, none⟩ (.int .i64 (r1 : Int))) = wx at *
  have HA := HA'
  have HB := HB'
  have HF := HF'
  clear HA' HB' HF'
  obtain ⟨ka0, ka1, ka2, ka3, ka4, ka5, ka6, fa0, fa1, fa2, fa3, fa4, fa5, fa6⟩ := blkat7 HA.out
  obtain ⟨kb0, kb1, kb2, kb3, kb4, kb5, kb6, fb0, fb1, fb2, fb3, fb4, fb5, fb6⟩ := blkat7 HB.out
  have hne : ¬ gb = W.heap.size := by omega
  have hne' : ¬ W.heap.size = gb := by omega
  go_wp2_with fail
  refine bodyPost_ret (results_ct rfl _ _ W.heap.size 25 #[.int .i64 (x0), .int .i64 ((rd : Int)), .int .i64 ((r1 : Int)), .int .i64 (x3), .int .i64 (x4), .int .i64 (x5), .int .i64 (4)] (0, 0) _ rfl ?_ Try.underlying25 rfl (by kernel_rfl)) rfl ?_
  · exact blk7 (by repeat (first | (with_reducible exact HA.out) | (with_reducible refine Blk.set_ne ?_ (by first | omega | (dsimp only; omega) | simp) _))) _ _ _ _ _ _ _
  · exact ⟨rfl, by (repeat (first | (with_reducible exact HF.out) | (with_reducible refine Fr.setCell ?_ (Or.inr (by first | omega | (dsimp only; omega) | simp)) _)))⟩
set_option maxRecDepth 100000 in
set_option maxHeartbeats 4000000 in
theorem dec_immn (w : Nat) (hw : w < 4294967296) (W : World) (c55 : fld w 0 7 ≠ 55) (c23 : fld w 0 7 ≠ 23) (c111 : fld w 0 7 ≠ 111) (c99 : fld w 0 7 ≠ 99) (c35 : fld w 0 7 ≠ 35) (c51 : fld w 0 7 ≠ 51) (c59 : fld w 0 7 ≠ 59) (c47 : fld w 0 7 ≠ 47) (c15 : fld w 0 7 ≠ 15) (c115 : fld w 0 7 ≠ 115) (i : I7) (hi : withImmP w = i) (c :  i.1 = 0) : Calls Try.prog 36 #[.int .u32 (w : Int)] W fun e w' => e = .returned (.tuple #[i7 (decP w).1, .bool (decP w).2]) ∧ Fr (fun _ => False) W w' := by
  have hP : decP w = size4 (regsP w i) := by unfold decP kindP; rw [if_neg (by omega), if_neg (by omega), if_neg (by omega), if_neg (by omega), if_neg (by omega), if_neg (by omega), if_neg (by omega), if_neg (by omega), if_neg (by omega), hi]
  have hQ : size4 (regsP w i) = (i0, false) := size4_no c
  rw [hP, hQ]
  have H75 := insD_sq0 w hw
  have H123 := insD_sq1 w hw
  have H155 := insD_sq2 w hw
  have H205 := insD_sq3 w hw
  have H257 := insD_sq4 w hw
  have H07 := Lib.hid (show ∀ W, Calls Try.prog 44 #[.int .u32 (w : Int), .int .i64 0, .int .i64 7] W fun e w' => e = .returned (.int .i64 ((fld w 0 7 : Nat) : Int)) ∧ Fr (fun _ => False) W w' from field_fr w 0 7 hw (by decide) (by decide))
  have t55 : (((fld w 0 7 : Nat) : Int) == 55) = false := beq_eq_false_iff_ne.2 (by omega)
  have t23 : (((fld w 0 7 : Nat) : Int) == 23) = false := beq_eq_false_iff_ne.2 (by omega)
  have t111 : (((fld w 0 7 : Nat) : Int) == 111) = false := beq_eq_false_iff_ne.2 (by omega)
  have t99 : (((fld w 0 7 : Nat) : Int) == 99) = false := beq_eq_false_iff_ne.2 (by omega)
  have t35 : (((fld w 0 7 : Nat) : Int) == 35) = false := beq_eq_false_iff_ne.2 (by omega)
  have t51 : (((fld w 0 7 : Nat) : Int) == 51) = false := beq_eq_false_iff_ne.2 (by omega)
  have t59 : (((fld w 0 7 : Nat) : Int) == 59) = false := beq_eq_false_iff_ne.2 (by omega)
  have t47 : (((fld w 0 7 : Nat) : Int) == 47) = false := beq_eq_false_iff_ne.2 (by omega)
  have t15 : (((fld w 0 7 : Nat) : Int) == 15) = false := beq_eq_false_iff_ne.2 (by omega)
  have t115 : (((fld w 0 7 : Nat) : Int) == 115) = false := beq_eq_false_iff_ne.2 (by omega)
  have HC0 := withImm_any w hw
  rw [hi] at HC0
  clear hP hQ hi c55 c23 c111 c99 c35 c51 c59 c47 c15 c115
  have t0 : (i.1 == 0) = true := beq_iff_eq.2 c
  clear c
  obtain ⟨x0, x1, x2, x3, x4, x5, x6⟩ := i
  dsimp only at t0
  have HC := Lib.hid (show ∀ W, Calls Try.prog 55 #[.int .u32 (w : Int)] W fun e w' => e = .returned (.agg #[.int .i64 x0, .int .i64 x1, .int .i64 x2, .int .i64 x3, .int .i64 x4, .int .i64 x5, .int .i64 x6]) ∧ Fr (fun _ => False) W w' from HC0)
  clear HC0
  generalize fld w 7 5 = rd at *
  generalize fld w 15 5 = r1 at *
  generalize fld w 20 5 = r2 at *
  generalize fld w 25 7 = s7 at *
  generalize fld w 12 3 = f3 at *
  generalize fld w 0 7 = p7 at *
  generalize (p7 : Int) = y7 at *
  go_enter Try.func36, Try.ntmps36
  go_wp2_with fail
  have HA := Lib.hid (Blk.new W 25 #[.int .i64 0, .int .i64 0, .int .i64 0, .int .i64 0, .int .i64 0, .int .i64 0, .int .i64 0])
  have HF := Lib.hid ((Fr.refl (fun _ => False) W).alloc (.cells #[.int .i64 0, .int .i64 0, .int .i64 0, .int .i64 0, .int .i64 0, .int .i64 0, .int .i64 0] 25))
  generalize W.alloc (.cells #[.int .i64 0, .int .i64 0, .int .i64 0, .int .i64 0, .int .i64 0, .int .i64 0, .int .i64 0] 25) = wz at *
  refine (H75.out _).mono ?_
  rintro e u0 ⟨rfl, hf⟩
  have HA := Lib.hid (HA.out.fr hf id)
  have HF := Lib.hid (HF.out.trans hf (fun _ _ h => h))
  clear hf
  go_wp2_with fail
  refine (H123.out _).mono ?_
  rintro e u1 ⟨rfl, hf⟩
  have HA := Lib.hid (HA.out.fr hf id)
  have HF := Lib.hid (HF.out.trans hf (fun _ _ h => h))
  clear hf
  go_wp2_with fail
  refine (H155.out _).mono ?_
  rintro e u2 ⟨rfl, hf⟩
  have HA := Lib.hid (HA.out.fr hf id)
  have HF := Lib.hid (HF.out.trans hf (fun _ _ h => h))
  clear hf
  go_wp2_with fail
  refine (H205.out _).mono ?_
  rintro e u3 ⟨rfl, hf⟩
  have HA := Lib.hid (HA.out.fr hf id)
  have HF := Lib.hid (HF.out.trans hf (fun _ _ h => h))
  clear hf
  go_wp2_with fail
  refine (H257.out _).mono ?_
  rintro e u4 ⟨rfl, hf⟩
  have HA := Lib.hid (HA.out.fr hf id)
  have HF := Lib.hid (HF.out.trans hf (fun _ _ h => h))
  clear hf
  go_wp2_with fail
  have hlt := HA.out.lt
  have HB := Lib.hid (Blk.new u4 25 #[.int .i64 0, .int .i64 0, .int .i64 0, .int .i64 0, .int .i64 0, .int .i64 0, .int .i64 0])
  have HA := Lib.hid (HA.out.alloc (.cells #[.int .i64 0, .int .i64 0, .int .i64 0, .int .i64 0, .int .i64 0, .int .i64 0, .int .i64 0] 25))
  have HF := Lib.hid (HF.out.alloc (.cells #[.int .i64 0, .int .i64 0, .int .i64 0, .int .i64 0, .int .i64 0, .int .i64 0, .int .i64 0] 25))
  generalize u4.alloc (.cells #[.int .i64 0, .int .i64 0, .int .i64 0, .int .i64 0, .int .i64 0, .int .i64 0, .int .i64 0] 25) = vz at *
  generalize u4.heap.size = gb at *
  refine (H07.out _).mono ?_
  rintro e v0 ⟨rfl, hf⟩
  have HA := Lib.hid (HA.out.fr hf id)
  have HF := Lib.hid (HF.out.trans hf (fun _ _ h => h))
  have HB := Lib.hid (HB.out.fr hf id)
  clear hf
  go_wp2_with fail
  refine (HC.out _).mono ?_
  rintro e v1 ⟨rfl, hf⟩
  have HA := Lib.hid (HA.out.fr hf id)
  have HF := Lib.hid (HF.out.trans hf (fun _ _ h => h))
  have HB := Lib.hid (HB.out.fr hf id)
  clear hf
  obtain ⟨ka0, ka1, ka2, ka3, ka4, ka5, ka6, fa0, fa1, fa2, fa3, fa4, fa5, fa6⟩ := blkat7 HA.out
  obtain ⟨kb0, kb1, kb2, kb3, kb4, kb5, kb6, fb0, fb1, fb2, fb3, fb4, fb5, fb6⟩ := blkat7 HB.out
  have hne : ¬ gb = W.heap.size := by omega
  have hne' : ¬ W.heap.size = gb := by omega
  go_upto_region 26 with (fail)
  have HB' := Lib.hid (blk9 HB.out (.int .i64 (x0)) (.int .i64 (x1)) (.int .i64 (x2)) (.int .i64 (x3)) (.int .i64 (x4)) (.int .i64 (x5)) (.int .i64 (x6)) (.int .i64 (rd : Int)) (.int .i64 (r1 : Int)))
  have HA' := Lib.hid (show Blk (((((((((v1.setCell ⟨gb, 0, none⟩ (.int .i64 (x0))).setCell ⟨gb, 1, none⟩ (.int .i64 (x1))).setCell ⟨gb, 2, none⟩ (.int .i64 (x2))).setCell ⟨gb, 3, none⟩ (.int .i64 (x3))).setCell ⟨gb, 4, none⟩ (.int .i64 (x4))).setCell ⟨gb, 5, none⟩ (.int .i64 (x5))).setCell ⟨gb, 6, none⟩ (.int .i64 (x6))).setCell ⟨gb, 1, none⟩ (.int .i64 (rd : Int))).setCell ⟨gb, 2, none⟩ (.int .i64 (r1 : Int))) W.heap.size 25 #[.int .i64 0, .int .i64 0, .int .i64 0, .int .i64 0, .int .i64 0, .int .i64 0, .int .i64 0] from by repeat (first | (with_reducible exact HA.out) | (with_reducible refine Blk.set_ne ?_ (by first | omega | (dsimp only; omega) | simp) _)))
  have HF' := Lib.hid (show Fr (fun _ => False) W (((((((((v1.setCell ⟨gb, 0, none⟩ (.int .i64 (x0))).setCell ⟨gb, 1, none⟩ (.int .i64 (x1))).setCell ⟨gb, 2, none⟩ (.int .i64 (x2))).setCell ⟨gb, 3, none⟩ (.int .i64 (x3))).setCell ⟨gb, 4, none⟩ (.int .i64 (x4))).setCell ⟨gb, 5, none⟩ (.int .i64 (x5))).setCell ⟨gb, 6, none⟩ (.int .i64 (x6))).setCell ⟨gb, 1, none⟩ (.int .i64 (rd : Int))).setCell ⟨gb, 2, none⟩ (.int .i64 (r1 : Int))) from by (repeat (first | (with_reducible exact HF.out) | (with_reducible refine Fr.setCell ?_ (Or.inr (by first | omega | (dsimp only; omega) | simp)) _))))
  clear hne hne' ka0 fa0 ka1 fa1 ka2 fa2 ka3 fa3 ka4 fa4 ka5 fa5 ka6 fa6 kb0 fb0 kb1 fb1 kb2 fb2 kb3 fb3 kb4 fb4 kb5 fb5 kb6 fb6
  clear HA HB HF
  generalize (((((((((v1.setCell ⟨gb, 0, none⟩ (.int .i64 (x0))).setCell ⟨gb, 1, none⟩ (.int .i64 (x1))).setCell ⟨gb, 2, none⟩ (.int .i64 (x2))).setCell ⟨gb, 3, none⟩ (.int .i64 (x3))).setCell ⟨gb, 4, none⟩ (.int .i64 (x4))).setCell ⟨gb, 5, none⟩ (.int .i64 (x5))).setCell ⟨gb, 6, none⟩ (.int .i64 (x6))).setCell ⟨gb, 1, none⟩ (.int .i64 (rd : Int))).setCell ⟨gb, 2, none⟩ (.int .i64 (r1 : Int))) = wx at *
  have HA := HA'
  have HB := HB'
  have HF := HF'
  clear HA' HB' HF'
  obtain ⟨ka0, ka1, ka2, ka3, ka4, ka5, ka6, fa0, fa1, fa2, fa3, fa4, fa5, fa6⟩ := blkat7 HA.out
  obtain ⟨kb0, kb1, kb2, kb3, kb4, kb5, kb6, fb0, fb1, fb2, fb3, fb4, fb5, fb6⟩ := blkat7 HB.out
  have hne : ¬ gb = W.heap.size := by omega
  have hne' : ¬ W.heap.size = gb := by omega
  go_wp2_with fail
  refine bodyPost_ret (results_ct rfl _ _ W.heap.size 25 #[.int .i64 (0), .int .i64 (0), .int .i64 (0), .int .i64 (0), .int .i64 (0), .int .i64 (0), .int .i64 (0)] (0, 0) _ rfl ?_ Try.underlying25 rfl (by kernel_rfl)) rfl ?_
  · exact blk7 (by repeat (first | (with_reducible exact HA.out) | (with_reducible refine Blk.set_ne ?_ (by first | omega | (dsimp only; omega) | simp) _))) _ _ _ _ _ _ _
  · exact ⟨rfl, by (repeat (first | (with_reducible exact HF.out) | (with_reducible refine Fr.setCell ?_ (Or.inr (by first | omega | (dsimp only; omega) | simp)) _)))⟩
theorem dec_any (w : Nat) (hw : w < 4294967296) (W : World) : Calls Try.prog 36 #[.int .u32 (w : Int)] W fun e w' => e = .returned (.tuple #[i7 (decP w).1, .bool (decP w).2]) ∧ Fr (fun _ => False) W w' := by
  by_cases c55 : fld w 0 7 = 55
  · exact dec_lui w hw W c55
  by_cases c23 : fld w 0 7 = 23
  · exact dec_auipc w hw W c23
  by_cases c111 : fld w 0 7 = 111
  · exact dec_jal w hw W c111
  by_cases c99 : fld w 0 7 = 99
  · by_cases c : brT (fld w 12 3) = 0
    · exact dec_branchn w hw W c99 c
    · exact dec_branch w hw W c99 c
  by_cases c35 : fld w 0 7 = 35
  · by_cases c : stT (fld w 12 3) = 0
    · exact dec_storen w hw W c35 c
    · exact dec_store w hw W c35 c
  by_cases c51 : fld w 0 7 = 51
  · by_cases c : regT (fld w 25 7) (fld w 12 3) = 0
    · exact dec_regn w hw W c51 c
    · exact dec_reg w hw W c51 c
  by_cases c59 : fld w 0 7 = 59
  · by_cases c : r32T (fld w 25 7) (fld w 12 3) = 0
    · exact dec_reg32n w hw W c59 c
    · exact dec_reg32 w hw W c59 c
  by_cases c47 : fld w 0 7 = 47
  · by_cases c : (atomicP w).1 = 0
    · exact dec_amon w hw W c47 _ rfl c
    · exact dec_amo w hw W c47 _ rfl c
  by_cases c15 : fld w 0 7 = 15
  · by_cases c : (otherP w).1 = 0
    · exact dec_fencen w hw W c15 _ rfl c
    · exact dec_fence w hw W c15 _ rfl c
  by_cases c115 : fld w 0 7 = 115
  · by_cases c : (otherP w).1 = 0
    · exact dec_systemn w hw W c115 _ rfl c
    · exact dec_system w hw W c115 _ rfl c
  by_cases c : (withImmP w).1 = 0
  · exact dec_immn w hw W c55 c23 c111 c99 c35 c51 c59 c47 c15 c115 _ rfl c
  · exact dec_imm w hw W c55 c23 c111 c99 c35 c51 c59 c47 c15 c115 _ rfl c
end Go.Proofs.Ytgefhoikpjiamaa.Ins
