/- The document's Decode of words of 32 bits: the instruction, or that it is none, as its plain twin says. -/
import Derived.Test.YtnopppamfleniaaInsT
import Derived.Deep.Cut
namespace Go.Proofs.Ytnopppamfleniaa.Ins
open Go Go.RowKit Go.Proofs.YtnopppamfleniaaW.PrintWords Go.Proofs.YtnopppamfleniaaW.PrintLast Go.Proofs.YtnopppamfleniaaW.PrintMore
open Go.Proofs.Ytnopppamfleniaa.Hp Go.Proofs.Ytnopppamfleniaa.Bv
attribute [local go_sem] max2_int min2_int max_two min_two max_three min_three max_four min_four
set_option linter.unusedVariables false
set_option linter.unusedSimpArgs false
/-- What is known of the world at a point of Decode: the result's block, the instruction's, and that nothing else was touched. -/
structure DS (W v : World) (x0 x1 x2 x3 x4 x5 x6 : Int) : Prop where
  a : Blk v W.heap.size 24 #[.int .i64 0, .int .i64 0, .int .i64 0, .int .i64 0, .int .i64 0, .int .i64 0, .int .i64 0]
  b : Blk v (W.heap.size + 1) 24 #[.int .i64 x0, .int .i64 x1, .int .i64 x2, .int .i64 x3, .int .i64 x4, .int .i64 x5, .int .i64 x6]
  f : Fr (fun _ => False) W v
theorem DS.fr {W v v' : World} {x0 x1 x2 x3 x4 x5 x6 : Int} (t : DS W v x0 x1 x2 x3 x4 x5 x6) (k : Fr (fun _ => False) v v') : DS W v' x0 x1 x2 x3 x4 x5 x6 := ⟨t.a.fr k id, t.b.fr k id, t.f.trans k (fun _ _ h => h)⟩
theorem DS.al {W v : World} {x0 x1 x2 x3 x4 x5 x6 : Int} (t : DS W v x0 x1 x2 x3 x4 x5 x6) (ob : Obj) : DS W (v.alloc ob) x0 x1 x2 x3 x4 x5 x6 := ⟨t.a.alloc ob, t.b.alloc ob, t.f.alloc ob⟩
theorem DS.ps {W v v' : World} {x0 x1 x2 x3 x4 x5 x6 : Int} {y0 y1 y2 y3 y4 y5 y6 : Int} (t : DS W v x0 x1 x2 x3 x4 x5 x6) (k : PS v v' (W.heap.size + 1) y0 y1 y2 y3 y4 y5 y6) : DS W v' y0 y1 y2 y3 y4 y5 y6 :=
  ⟨t.a.fr k.f (by omega), k.b, t.f.trans k.f (fun i hi e => by subst e; omega)⟩
theorem DS.start (W : World) : DS W ((W.alloc (.cells #[.int .i64 0, .int .i64 0, .int .i64 0, .int .i64 0, .int .i64 0, .int .i64 0, .int .i64 0] 24)).alloc (.cells #[.int .i64 0, .int .i64 0, .int .i64 0, .int .i64 0, .int .i64 0, .int .i64 0, .int .i64 4] 24)) 0 0 0 0 0 0 4 := by
  refine ⟨(Blk.new W _ _).alloc _, ?_, ((Fr.refl _ W).alloc _).alloc _⟩
  have g := Blk.new (W.alloc (.cells #[.int .i64 0, .int .i64 0, .int .i64 0, .int .i64 0, .int .i64 0, .int .i64 0, .int .i64 0] 24)) 24 #[.int .i64 0, .int .i64 0, .int .i64 0, .int .i64 0, .int .i64 0, .int .i64 0, .int .i64 4]
  simpa [Blk] using g
theorem DS.s0 {W v : World} {x0 x1 x2 x3 x4 x5 x6 : Int} (t : DS W v x0 x1 x2 x3 x4 x5 x6) (u : Int) : DS W (v.setCell ⟨W.heap.size + 1, 0, none⟩ (.int .i64 u)) u x1 x2 x3 x4 x5 x6 := ⟨t.a.set_ne (by simp) _, by have e := t.b.set 0 (.int .i64 u); simpa [Blk] using e, t.f.setCell (Or.inr (by simp)) _⟩
theorem DS.s1 {W v : World} {x0 x1 x2 x3 x4 x5 x6 : Int} (t : DS W v x0 x1 x2 x3 x4 x5 x6) (u : Int) : DS W (v.setCell ⟨W.heap.size + 1, 1, none⟩ (.int .i64 u)) x0 u x2 x3 x4 x5 x6 := ⟨t.a.set_ne (by simp) _, by have e := t.b.set 1 (.int .i64 u); simpa [Blk] using e, t.f.setCell (Or.inr (by simp)) _⟩
theorem DS.s2 {W v : World} {x0 x1 x2 x3 x4 x5 x6 : Int} (t : DS W v x0 x1 x2 x3 x4 x5 x6) (u : Int) : DS W (v.setCell ⟨W.heap.size + 1, 2, none⟩ (.int .i64 u)) x0 x1 u x3 x4 x5 x6 := ⟨t.a.set_ne (by simp) _, by have e := t.b.set 2 (.int .i64 u); simpa [Blk] using e, t.f.setCell (Or.inr (by simp)) _⟩
theorem DS.s3 {W v : World} {x0 x1 x2 x3 x4 x5 x6 : Int} (t : DS W v x0 x1 x2 x3 x4 x5 x6) (u : Int) : DS W (v.setCell ⟨W.heap.size + 1, 3, none⟩ (.int .i64 u)) x0 x1 x2 u x4 x5 x6 := ⟨t.a.set_ne (by simp) _, by have e := t.b.set 3 (.int .i64 u); simpa [Blk] using e, t.f.setCell (Or.inr (by simp)) _⟩
theorem DS.s4 {W v : World} {x0 x1 x2 x3 x4 x5 x6 : Int} (t : DS W v x0 x1 x2 x3 x4 x5 x6) (u : Int) : DS W (v.setCell ⟨W.heap.size + 1, 4, none⟩ (.int .i64 u)) x0 x1 x2 x3 u x5 x6 := ⟨t.a.set_ne (by simp) _, by have e := t.b.set 4 (.int .i64 u); simpa [Blk] using e, t.f.setCell (Or.inr (by simp)) _⟩
theorem DS.s5 {W v : World} {x0 x1 x2 x3 x4 x5 x6 : Int} (t : DS W v x0 x1 x2 x3 x4 x5 x6) (u : Int) : DS W (v.setCell ⟨W.heap.size + 1, 5, none⟩ (.int .i64 u)) x0 x1 x2 x3 x4 u x6 := ⟨t.a.set_ne (by simp) _, by have e := t.b.set 5 (.int .i64 u); simpa [Blk] using e, t.f.setCell (Or.inr (by simp)) _⟩
theorem sgb (n w : Nat) (hw : 2 ≤ w ∧ w ≤ 20) (hn : n < 2 ^ w) : -524288 ≤ sg n w ∧ sg n w < 524288 := by
  have e : 2 ^ w = 2 ^ (w - 1) * 2 := by rw [← Nat.pow_succ]; congr 1; omega
  have g : 2 ^ (w - 1) ≤ 2 ^ 19 := Nat.pow_le_pow_right (by decide) (by omega)
  unfold sg
  rw [e] at hn ⊢
  clear e
  generalize 2 ^ (w - 1) = p at *
  split <;> constructor <;> omega
theorem rimm_shape (w : Nat) : rimmP w = ((rimmP w).1, ((fld w 7 5 : Nat) : Int), ((fld w 15 5 : Nat) : Int), 0, (rimmP w).2.2.2.2.1, 0, 4) := by
  unfold rimmP
  by_cases a : fld w 0 7 = 19
  · simp only [if_pos a]
    by_cases b : fld w 12 3 = 1 ∨ fld w 12 3 = 5
    · simp only [if_pos b]
    · simp only [if_neg b]
  · simp only [if_neg a]
    by_cases b : fld w 12 3 = 1 ∨ fld w 12 3 = 5
    · simp only [if_pos b]
    · simp only [if_neg b]
theorem rdec_no {w : Nat} (h : (rkindP w).1 = 0) : rdecP w = (i0, false) := by unfold rdecP; rw [if_pos h]
theorem rdec_yes {w : Nat} (h : ¬ (rkindP w).1 = 0) : rdecP w = (rkindP w, true) := by unfold rdecP; rw [if_neg h]
theorem insU_sq0 (w : Nat) (hw : w < 4294967296) : Hid (∀ W, Calls Try.prog 26 #[.int .u32 (w : Int), .int .i64 11, .int .i64 7] W fun e w' => e = .returned (.int .i64 (((fld w 7 5 : Nat) : Int))) ∧ Fr (fun _ => False) W w') := Lib.hid (F_fr w 11 7 5 hw (by decide) (by decide) rfl)
theorem insU_sq1 (w : Nat) (hw : w < 4294967296) : Hid (∀ W, Calls Try.prog 26 #[.int .u32 (w : Int), .int .i64 14, .int .i64 12] W fun e w' => e = .returned (.int .i64 (((fld w 12 3 : Nat) : Int))) ∧ Fr (fun _ => False) W w') := Lib.hid (F_fr w 14 12 3 hw (by decide) (by decide) rfl)
theorem insU_sq2 (w : Nat) (hw : w < 4294967296) : Hid (∀ W, Calls Try.prog 26 #[.int .u32 (w : Int), .int .i64 19, .int .i64 15] W fun e w' => e = .returned (.int .i64 (((fld w 15 5 : Nat) : Int))) ∧ Fr (fun _ => False) W w') := Lib.hid (F_fr w 19 15 5 hw (by decide) (by decide) rfl)
theorem insU_sq3 (w : Nat) (hw : w < 4294967296) : Hid (∀ W, Calls Try.prog 26 #[.int .u32 (w : Int), .int .i64 24, .int .i64 20] W fun e w' => e = .returned (.int .i64 (((fld w 20 5 : Nat) : Int))) ∧ Fr (fun _ => False) W w') := Lib.hid (F_fr w 24 20 5 hw (by decide) (by decide) rfl)
theorem insU_sq4 (w : Nat) (hw : w < 4294967296) : Hid (∀ W, Calls Try.prog 26 #[.int .u32 (w : Int), .int .i64 31, .int .i64 25] W fun e w' => e = .returned (.int .i64 (((fld w 25 7 : Nat) : Int))) ∧ Fr (fun _ => False) W w') := Lib.hid (F_fr w 31 25 7 hw (by decide) (by decide) rfl)
theorem insU_sq5 (w : Nat) (hw : w < 4294967296) : Hid (∀ W, Calls Try.prog 26 #[.int .u32 (w : Int), .int .i64 31, .int .i64 20] W fun e w' => e = .returned (.int .i64 (((fld w 20 12 : Nat) : Int))) ∧ Fr (fun _ => False) W w') := Lib.hid (F_fr w 31 20 12 hw (by decide) (by decide) rfl)
theorem insU_sq6 (w : Nat) (hw : w < 4294967296) : Hid (∀ W, Calls Try.prog 26 #[.int .u32 (w : Int), .int .i64 31, .int .i64 31] W fun e w' => e = .returned (.int .i64 (((fld w 31 1 : Nat) : Int))) ∧ Fr (fun _ => False) W w') := Lib.hid (F_fr w 31 31 1 hw (by decide) (by decide) rfl)
set_option maxRecDepth 100000 in
set_option maxHeartbeats 4000000 in
theorem rdec_lui (w : Nat) (hw : w < 4294967296) (W : World) (ck : fld w 0 7 = 55) : Calls Try.prog 10 #[.int .u32 (w : Int)] W fun e w' => e = .returned (.tuple #[i7 (rdecP w).1, .bool (rdecP w).2]) ∧ Fr (fun _ => False) W w' := by
  have hK : rkindP w = (1, ((fld w 7 5 : Nat) : Int), 0, 0, sg (fld w 12 20) 20 * 4096, 0, 4) := by unfold rkindP; rw [if_pos ck]
  have hP : rdecP w = ((1, ((fld w 7 5 : Nat) : Int), 0, 0, sg (fld w 12 20) 20 * 4096, 0, 4), true) := by rw [rdec_yes (by rw [hK]; exact (show ¬ ((1 : Int) = 0) by decide)), hK]
  rw [hP]
  have H117 := insU_sq0 w hw
  have H1412 := insU_sq1 w hw
  have H1915 := insU_sq2 w hw
  have H2420 := insU_sq3 w hw
  have H3125 := insU_sq4 w hw
  have H3120 := insU_sq5 w hw
  have HSI := Lib.hid (show ∀ W, Calls Try.prog 27 #[.int .i64 ((fld w 20 12 : Nat) : Int), .int .i64 12] W fun e w' => e = .returned (.int .i64 (iP w)) ∧ Fr (fun _ => False) W w' from S_fr (fld w 20 12) 12 (by decide) (by decide) (by have := fld_lt w 20 12; omega))
  have H60 := Lib.hid (show ∀ W, Calls Try.prog 26 #[.int .u32 (w : Int), .int .i64 6, .int .i64 0] W fun e w' => e = .returned (.int .i64 (55)) ∧ Fr (fun _ => False) W w' from fun W => by have g := F_fr w 6 0 7 hw (by decide) (by decide) rfl W; rw [ck] at g; exact g)
  have HF1 := Lib.hid (show ∀ W, Calls Try.prog 26 #[.int .u32 (w : Int), .int .i64 31, .int .i64 12] W fun e w' => e = .returned (.int .i64 (((fld w 12 20 : Nat) : Int))) ∧ Fr (fun _ => False) W w' from F_fr w 31 12 20 hw (by decide) (by decide) rfl)
  have HS1 := Lib.hid (show ∀ W, Calls Try.prog 27 #[.int .i64 (((fld w 12 20 : Nat) : Int)), .int .i64 20] W fun e w' => e = .returned (.int .i64 (sg (fld w 12 20) 20)) ∧ Fr (fun _ => False) W w' from S_fr (fld w 12 20) 20 (by decide) (by decide) (by have := fld_lt w 12 20; omega))
  have bn := sgb (fld w 12 20) 20 (by decide) (fld_lt w 12 20)
  clear hP hK ck
  generalize sg (fld w 12 20) 20 = n at *
  generalize fld w 12 20 = q at *
  generalize fld w 7 5 = rd at *
  generalize fld w 15 5 = r1 at *
  generalize fld w 20 5 = r2 at *
  go_enter Try.func10, Try.ntmps10
  go_wp2_with fail
  have HS := Lib.hid (DS.start W)
  generalize (W.alloc (.cells #[.int .i64 0, .int .i64 0, .int .i64 0, .int .i64 0, .int .i64 0, .int .i64 0, .int .i64 0] 24)).alloc (.cells #[.int .i64 0, .int .i64 0, .int .i64 0, .int .i64 0, .int .i64 0, .int .i64 0, .int .i64 4] 24) = wz at *
  refine (H117.out _).mono ?_
  rintro e v1 ⟨rfl, hf⟩
  have HS := Lib.hid (HS.out.fr hf)
  clear hf
  go_wp2_with fail
  refine (H1412.out _).mono ?_
  rintro e v2 ⟨rfl, hf⟩
  have HS := Lib.hid (HS.out.fr hf)
  clear hf
  go_wp2_with fail
  refine (H1915.out _).mono ?_
  rintro e v3 ⟨rfl, hf⟩
  have HS := Lib.hid (HS.out.fr hf)
  clear hf
  go_wp2_with fail
  refine (H2420.out _).mono ?_
  rintro e v4 ⟨rfl, hf⟩
  have HS := Lib.hid (HS.out.fr hf)
  clear hf
  go_wp2_with fail
  refine (H3125.out _).mono ?_
  rintro e v5 ⟨rfl, hf⟩
  have HS := Lib.hid (HS.out.fr hf)
  clear hf
  go_wp2_with fail
  refine (H3120.out _).mono ?_
  rintro e v6 ⟨rfl, hf⟩
  have HS := Lib.hid (HS.out.fr hf)
  clear hf
  go_wp2_with fail
  refine (HSI.out _).mono ?_
  rintro e v7 ⟨rfl, hf⟩
  have HS := Lib.hid (HS.out.fr hf)
  clear hf
  go_wp2_with fail
  refine (H60.out _).mono ?_
  rintro e v8 ⟨rfl, hf⟩
  have HS := Lib.hid (HS.out.fr hf)
  clear hf
  obtain ⟨kb0, kb1, kb2, kb3, kb4, kb5, kb6, fb0, fb1, fb2, fb3, fb4, fb5, fb6⟩ := blkat7 HS.out.b
  go_upto_region 12 with (fail)
  have HS' := Lib.hid (HS.out.s0 (1))
  clear kb0 fb0 kb1 fb1 kb2 fb2 kb3 fb3 kb4 fb4 kb5 fb5 kb6 fb6
  clear HS
  generalize v8.setCell ⟨W.heap.size + 1, 0, none⟩ (.int .i64 (1)) = v9 at *
  have HS := HS'
  clear HS'
  go_wp2_with fail
  refine (H60.out _).mono ?_
  rintro e v10 ⟨rfl, hf⟩
  have HS := Lib.hid (HS.out.fr hf)
  clear hf
  go_upto_region 14 with (fail)
  obtain ⟨kb0, kb1, kb2, kb3, kb4, kb5, kb6, fb0, fb1, fb2, fb3, fb4, fb5, fb6⟩ := blkat7 HS.out.b
  go_upto_region 15 with (fail)
  have HS' := Lib.hid (HS.out.s1 ((rd : Int)))
  clear kb0 fb0 kb1 fb1 kb2 fb2 kb3 fb3 kb4 fb4 kb5 fb5 kb6 fb6
  clear HS
  generalize v10.setCell ⟨W.heap.size + 1, 1, none⟩ (.int .i64 ((rd : Int))) = v11 at *
  have HS := HS'
  clear HS'
  go_wp2_with fail
  refine (HF1.out _).mono ?_
  rintro e v12 ⟨rfl, hf⟩
  have HS := Lib.hid (HS.out.fr hf)
  clear hf
  go_wp2_with fail
  refine (HS1.out _).mono ?_
  rintro e v13 ⟨rfl, hf⟩
  have HS := Lib.hid (HS.out.fr hf)
  clear hf
  obtain ⟨kb0, kb1, kb2, kb3, kb4, kb5, kb6, fb0, fb1, fb2, fb3, fb4, fb5, fb6⟩ := blkat7 HS.out.b
  go_upto_region 79 with (fail)
  have HS' := Lib.hid (HS.out.s4 (n * 4096))
  clear kb0 fb0 kb1 fb1 kb2 fb2 kb3 fb3 kb4 fb4 kb5 fb5 kb6 fb6
  clear HS
  generalize v13.setCell ⟨W.heap.size + 1, 4, none⟩ (.int .i64 (n * 4096)) = v14 at *
  have HS := HS'
  clear HS'
  obtain ⟨ka0, ka1, ka2, ka3, ka4, ka5, ka6, fa0, fa1, fa2, fa3, fa4, fa5, fa6⟩ := blkat7 HS.out.a
  obtain ⟨kb0, kb1, kb2, kb3, kb4, kb5, kb6, fb0, fb1, fb2, fb3, fb4, fb5, fb6⟩ := blkat7 HS.out.b
  go_wp2_with fail
  refine bodyPost_ret (results_ct rfl _ _ W.heap.size 24 #[.int .i64 (1), .int .i64 ((rd : Int)), .int .i64 (0), .int .i64 (0), .int .i64 (n * 4096), .int .i64 (0), .int .i64 (4)] (0, 0) _ rfl ?_ Try.underlying24 rfl (by kernel_rfl)) rfl ?_
  · exact blk7 HS.out.a _ _ _ _ _ _ _
  · exact ⟨rfl, by (repeat (first | (with_reducible exact HS.out.f) | (with_reducible refine Fr.setCell ?_ (Or.inr (by simp)) _)))⟩
set_option maxRecDepth 100000 in
set_option maxHeartbeats 4000000 in
theorem rdec_auipc (w : Nat) (hw : w < 4294967296) (W : World) (ck : fld w 0 7 = 23) : Calls Try.prog 10 #[.int .u32 (w : Int)] W fun e w' => e = .returned (.tuple #[i7 (rdecP w).1, .bool (rdecP w).2]) ∧ Fr (fun _ => False) W w' := by
  have hK : rkindP w = (2, ((fld w 7 5 : Nat) : Int), 0, 0, sg (fld w 12 20) 20 * 4096, 0, 4) := by unfold rkindP; rw [if_neg (by omega), if_pos ck]
  have hP : rdecP w = ((2, ((fld w 7 5 : Nat) : Int), 0, 0, sg (fld w 12 20) 20 * 4096, 0, 4), true) := by rw [rdec_yes (by rw [hK]; exact (show ¬ ((2 : Int) = 0) by decide)), hK]
  rw [hP]
  have H117 := insU_sq0 w hw
  have H1412 := insU_sq1 w hw
  have H1915 := insU_sq2 w hw
  have H2420 := insU_sq3 w hw
  have H3125 := insU_sq4 w hw
  have H3120 := insU_sq5 w hw
  have HSI := Lib.hid (show ∀ W, Calls Try.prog 27 #[.int .i64 ((fld w 20 12 : Nat) : Int), .int .i64 12] W fun e w' => e = .returned (.int .i64 (iP w)) ∧ Fr (fun _ => False) W w' from S_fr (fld w 20 12) 12 (by decide) (by decide) (by have := fld_lt w 20 12; omega))
  have H60 := Lib.hid (show ∀ W, Calls Try.prog 26 #[.int .u32 (w : Int), .int .i64 6, .int .i64 0] W fun e w' => e = .returned (.int .i64 (23)) ∧ Fr (fun _ => False) W w' from fun W => by have g := F_fr w 6 0 7 hw (by decide) (by decide) rfl W; rw [ck] at g; exact g)
  have HF1 := Lib.hid (show ∀ W, Calls Try.prog 26 #[.int .u32 (w : Int), .int .i64 31, .int .i64 12] W fun e w' => e = .returned (.int .i64 (((fld w 12 20 : Nat) : Int))) ∧ Fr (fun _ => False) W w' from F_fr w 31 12 20 hw (by decide) (by decide) rfl)
  have HS1 := Lib.hid (show ∀ W, Calls Try.prog 27 #[.int .i64 (((fld w 12 20 : Nat) : Int)), .int .i64 20] W fun e w' => e = .returned (.int .i64 (sg (fld w 12 20) 20)) ∧ Fr (fun _ => False) W w' from S_fr (fld w 12 20) 20 (by decide) (by decide) (by have := fld_lt w 12 20; omega))
  have bn := sgb (fld w 12 20) 20 (by decide) (fld_lt w 12 20)
  clear hP hK ck
  generalize sg (fld w 12 20) 20 = n at *
  generalize fld w 12 20 = q at *
  generalize fld w 7 5 = rd at *
  generalize fld w 15 5 = r1 at *
  generalize fld w 20 5 = r2 at *
  go_enter Try.func10, Try.ntmps10
  go_wp2_with fail
  have HS := Lib.hid (DS.start W)
  generalize (W.alloc (.cells #[.int .i64 0, .int .i64 0, .int .i64 0, .int .i64 0, .int .i64 0, .int .i64 0, .int .i64 0] 24)).alloc (.cells #[.int .i64 0, .int .i64 0, .int .i64 0, .int .i64 0, .int .i64 0, .int .i64 0, .int .i64 4] 24) = wz at *
  refine (H117.out _).mono ?_
  rintro e v1 ⟨rfl, hf⟩
  have HS := Lib.hid (HS.out.fr hf)
  clear hf
  go_wp2_with fail
  refine (H1412.out _).mono ?_
  rintro e v2 ⟨rfl, hf⟩
  have HS := Lib.hid (HS.out.fr hf)
  clear hf
  go_wp2_with fail
  refine (H1915.out _).mono ?_
  rintro e v3 ⟨rfl, hf⟩
  have HS := Lib.hid (HS.out.fr hf)
  clear hf
  go_wp2_with fail
  refine (H2420.out _).mono ?_
  rintro e v4 ⟨rfl, hf⟩
  have HS := Lib.hid (HS.out.fr hf)
  clear hf
  go_wp2_with fail
  refine (H3125.out _).mono ?_
  rintro e v5 ⟨rfl, hf⟩
  have HS := Lib.hid (HS.out.fr hf)
  clear hf
  go_wp2_with fail
  refine (H3120.out _).mono ?_
  rintro e v6 ⟨rfl, hf⟩
  have HS := Lib.hid (HS.out.fr hf)
  clear hf
  go_wp2_with fail
  refine (HSI.out _).mono ?_
  rintro e v7 ⟨rfl, hf⟩
  have HS := Lib.hid (HS.out.fr hf)
  clear hf
  go_wp2_with fail
  refine (H60.out _).mono ?_
  rintro e v8 ⟨rfl, hf⟩
  have HS := Lib.hid (HS.out.fr hf)
  clear hf
  obtain ⟨kb0, kb1, kb2, kb3, kb4, kb5, kb6, fb0, fb1, fb2, fb3, fb4, fb5, fb6⟩ := blkat7 HS.out.b
  go_upto_region 12 with (fail)
  have HS' := Lib.hid (HS.out.s0 (1))
  clear kb0 fb0 kb1 fb1 kb2 fb2 kb3 fb3 kb4 fb4 kb5 fb5 kb6 fb6
  clear HS
  generalize v8.setCell ⟨W.heap.size + 1, 0, none⟩ (.int .i64 (1)) = v9 at *
  have HS := HS'
  clear HS'
  go_wp2_with fail
  refine (H60.out _).mono ?_
  rintro e v10 ⟨rfl, hf⟩
  have HS := Lib.hid (HS.out.fr hf)
  clear hf
  obtain ⟨kb0, kb1, kb2, kb3, kb4, kb5, kb6, fb0, fb1, fb2, fb3, fb4, fb5, fb6⟩ := blkat7 HS.out.b
  go_upto_region 14 with (fail)
  have HS' := Lib.hid (HS.out.s0 (2))
  clear kb0 fb0 kb1 fb1 kb2 fb2 kb3 fb3 kb4 fb4 kb5 fb5 kb6 fb6
  clear HS
  generalize v10.setCell ⟨W.heap.size + 1, 0, none⟩ (.int .i64 (2)) = v11 at *
  have HS := HS'
  clear HS'
  obtain ⟨kb0, kb1, kb2, kb3, kb4, kb5, kb6, fb0, fb1, fb2, fb3, fb4, fb5, fb6⟩ := blkat7 HS.out.b
  go_upto_region 15 with (fail)
  have HS' := Lib.hid (HS.out.s1 ((rd : Int)))
  clear kb0 fb0 kb1 fb1 kb2 fb2 kb3 fb3 kb4 fb4 kb5 fb5 kb6 fb6
  clear HS
  generalize v11.setCell ⟨W.heap.size + 1, 1, none⟩ (.int .i64 ((rd : Int))) = v12 at *
  have HS := HS'
  clear HS'
  go_wp2_with fail
  refine (HF1.out _).mono ?_
  rintro e v13 ⟨rfl, hf⟩
  have HS := Lib.hid (HS.out.fr hf)
  clear hf
  go_wp2_with fail
  refine (HS1.out _).mono ?_
  rintro e v14 ⟨rfl, hf⟩
  have HS := Lib.hid (HS.out.fr hf)
  clear hf
  obtain ⟨kb0, kb1, kb2, kb3, kb4, kb5, kb6, fb0, fb1, fb2, fb3, fb4, fb5, fb6⟩ := blkat7 HS.out.b
  go_upto_region 79 with (fail)
  have HS' := Lib.hid (HS.out.s4 (n * 4096))
  clear kb0 fb0 kb1 fb1 kb2 fb2 kb3 fb3 kb4 fb4 kb5 fb5 kb6 fb6
  clear HS
  generalize v14.setCell ⟨W.heap.size + 1, 4, none⟩ (.int .i64 (n * 4096)) = v15 at *
  have HS := HS'
  clear HS'
  obtain ⟨ka0, ka1, ka2, ka3, ka4, ka5, ka6, fa0, fa1, fa2, fa3, fa4, fa5, fa6⟩ := blkat7 HS.out.a
  obtain ⟨kb0, kb1, kb2, kb3, kb4, kb5, kb6, fb0, fb1, fb2, fb3, fb4, fb5, fb6⟩ := blkat7 HS.out.b
  go_wp2_with fail
  refine bodyPost_ret (results_ct rfl _ _ W.heap.size 24 #[.int .i64 (2), .int .i64 ((rd : Int)), .int .i64 (0), .int .i64 (0), .int .i64 (n * 4096), .int .i64 (0), .int .i64 (4)] (0, 0) _ rfl ?_ Try.underlying24 rfl (by kernel_rfl)) rfl ?_
  · exact blk7 HS.out.a _ _ _ _ _ _ _
  · exact ⟨rfl, by (repeat (first | (with_reducible exact HS.out.f) | (with_reducible refine Fr.setCell ?_ (Or.inr (by simp)) _)))⟩
set_option maxRecDepth 100000 in
set_option maxHeartbeats 4000000 in
theorem rdec_jal (w : Nat) (hw : w < 4294967296) (W : World) (ck : fld w 0 7 = 111) : Calls Try.prog 10 #[.int .u32 (w : Int)] W fun e w' => e = .returned (.tuple #[i7 (rdecP w).1, .bool (rdecP w).2]) ∧ Fr (fun _ => False) W w' := by
  have hK : rkindP w = (3, ((fld w 7 5 : Nat) : Int), 0, 0, sg (((fld w 31 1 * 256 + fld w 12 8) * 2 + fld w 20 1) * 1024 + fld w 21 10) 20 * 2, 0, 4) := by unfold rkindP; rw [if_neg (by omega), if_neg (by omega), if_pos ck]
  have hP : rdecP w = ((3, ((fld w 7 5 : Nat) : Int), 0, 0, sg (((fld w 31 1 * 256 + fld w 12 8) * 2 + fld w 20 1) * 1024 + fld w 21 10) 20 * 2, 0, 4), true) := by rw [rdec_yes (by rw [hK]; exact (show ¬ ((3 : Int) = 0) by decide)), hK]
  rw [hP]
  have H117 := insU_sq0 w hw
  have H1412 := insU_sq1 w hw
  have H1915 := insU_sq2 w hw
  have H2420 := insU_sq3 w hw
  have H3125 := insU_sq4 w hw
  have H3120 := insU_sq5 w hw
  have HSI := Lib.hid (show ∀ W, Calls Try.prog 27 #[.int .i64 ((fld w 20 12 : Nat) : Int), .int .i64 12] W fun e w' => e = .returned (.int .i64 (iP w)) ∧ Fr (fun _ => False) W w' from S_fr (fld w 20 12) 12 (by decide) (by decide) (by have := fld_lt w 20 12; omega))
  have H60 := Lib.hid (show ∀ W, Calls Try.prog 26 #[.int .u32 (w : Int), .int .i64 6, .int .i64 0] W fun e w' => e = .returned (.int .i64 (111)) ∧ Fr (fun _ => False) W w' from fun W => by have g := F_fr w 6 0 7 hw (by decide) (by decide) rfl W; rw [ck] at g; exact g)
  have b1 : fld w 31 1 < 2 := fld_lt w 31 1
  have b2 : fld w 12 8 < 256 := fld_lt w 12 8
  have b3 : fld w 20 1 < 2 := fld_lt w 20 1
  have b4 : fld w 21 10 < 1024 := fld_lt w 21 10
  have HF1 := insU_sq6 w hw
  have HF2 := Lib.hid (show ∀ W, Calls Try.prog 26 #[.int .u32 (w : Int), .int .i64 19, .int .i64 12] W fun e w' => e = .returned (.int .i64 (((fld w 12 8 : Nat) : Int))) ∧ Fr (fun _ => False) W w' from F_fr w 19 12 8 hw (by decide) (by decide) rfl)
  have HF3 := Lib.hid (show ∀ W, Calls Try.prog 26 #[.int .u32 (w : Int), .int .i64 20, .int .i64 20] W fun e w' => e = .returned (.int .i64 (((fld w 20 1 : Nat) : Int))) ∧ Fr (fun _ => False) W w' from F_fr w 20 20 1 hw (by decide) (by decide) rfl)
  have HF4 := Lib.hid (show ∀ W, Calls Try.prog 26 #[.int .u32 (w : Int), .int .i64 30, .int .i64 21] W fun e w' => e = .returned (.int .i64 (((fld w 21 10 : Nat) : Int))) ∧ Fr (fun _ => False) W w' from F_fr w 30 21 10 hw (by decide) (by decide) rfl)
  have HS1 := Lib.hid (show ∀ W, Calls Try.prog 27 #[.int .i64 (((((fld w 31 1 : Nat) : Int) * 256 + ((fld w 12 8 : Nat) : Int)) * 2 + ((fld w 20 1 : Nat) : Int)) * 1024 + ((fld w 21 10 : Nat) : Int)), .int .i64 20] W fun e w' => e = .returned (.int .i64 (sg (((fld w 31 1 * 256 + fld w 12 8) * 2 + fld w 20 1) * 1024 + fld w 21 10) 20)) ∧ Fr (fun _ => False) W w' from S_fr (((fld w 31 1 * 256 + fld w 12 8) * 2 + fld w 20 1) * 1024 + fld w 21 10) 20 (by decide) (by decide) (by skip; omega))
  have bn := sgb (((fld w 31 1 * 256 + fld w 12 8) * 2 + fld w 20 1) * 1024 + fld w 21 10) 20 (by decide) (by show _ < 1048576; omega)
  clear hP hK ck
  generalize sg (((fld w 31 1 * 256 + fld w 12 8) * 2 + fld w 20 1) * 1024 + fld w 21 10) 20 = n at *
  generalize fld w 31 1 = j1 at *
  generalize fld w 12 8 = j2 at *
  generalize fld w 20 1 = j3 at *
  generalize fld w 21 10 = j4 at *
  generalize fld w 7 5 = rd at *
  generalize fld w 15 5 = r1 at *
  generalize fld w 20 5 = r2 at *
  go_enter Try.func10, Try.ntmps10
  go_wp2_with fail
  have HS := Lib.hid (DS.start W)
  generalize (W.alloc (.cells #[.int .i64 0, .int .i64 0, .int .i64 0, .int .i64 0, .int .i64 0, .int .i64 0, .int .i64 0] 24)).alloc (.cells #[.int .i64 0, .int .i64 0, .int .i64 0, .int .i64 0, .int .i64 0, .int .i64 0, .int .i64 4] 24) = wz at *
  refine (H117.out _).mono ?_
  rintro e v1 ⟨rfl, hf⟩
  have HS := Lib.hid (HS.out.fr hf)
  clear hf
  go_wp2_with fail
  refine (H1412.out _).mono ?_
  rintro e v2 ⟨rfl, hf⟩
  have HS := Lib.hid (HS.out.fr hf)
  clear hf
  go_wp2_with fail
  refine (H1915.out _).mono ?_
  rintro e v3 ⟨rfl, hf⟩
  have HS := Lib.hid (HS.out.fr hf)
  clear hf
  go_wp2_with fail
  refine (H2420.out _).mono ?_
  rintro e v4 ⟨rfl, hf⟩
  have HS := Lib.hid (HS.out.fr hf)
  clear hf
  go_wp2_with fail
  refine (H3125.out _).mono ?_
  rintro e v5 ⟨rfl, hf⟩
  have HS := Lib.hid (HS.out.fr hf)
  clear hf
  go_wp2_with fail
  refine (H3120.out _).mono ?_
  rintro e v6 ⟨rfl, hf⟩
  have HS := Lib.hid (HS.out.fr hf)
  clear hf
  go_wp2_with fail
  refine (HSI.out _).mono ?_
  rintro e v7 ⟨rfl, hf⟩
  have HS := Lib.hid (HS.out.fr hf)
  clear hf
  go_wp2_with fail
  refine (H60.out _).mono ?_
  rintro e v8 ⟨rfl, hf⟩
  have HS := Lib.hid (HS.out.fr hf)
  clear hf
  obtain ⟨kb0, kb1, kb2, kb3, kb4, kb5, kb6, fb0, fb1, fb2, fb3, fb4, fb5, fb6⟩ := blkat7 HS.out.b
  go_upto_region 18 with (fail)
  have HS' := Lib.hid (HS.out.s0 (3))
  clear kb0 fb0 kb1 fb1 kb2 fb2 kb3 fb3 kb4 fb4 kb5 fb5 kb6 fb6
  clear HS
  generalize v8.setCell ⟨W.heap.size + 1, 0, none⟩ (.int .i64 (3)) = v9 at *
  have HS := HS'
  clear HS'
  obtain ⟨kb0, kb1, kb2, kb3, kb4, kb5, kb6, fb0, fb1, fb2, fb3, fb4, fb5, fb6⟩ := blkat7 HS.out.b
  go_upto_region 19 with (fail)
  have HS' := Lib.hid (HS.out.s1 ((rd : Int)))
  clear kb0 fb0 kb1 fb1 kb2 fb2 kb3 fb3 kb4 fb4 kb5 fb5 kb6 fb6
  clear HS
  generalize v9.setCell ⟨W.heap.size + 1, 1, none⟩ (.int .i64 ((rd : Int))) = v10 at *
  have HS := HS'
  clear HS'
  go_wp2_with fail
  refine (HF1.out _).mono ?_
  rintro e v11 ⟨rfl, hf⟩
  have HS := Lib.hid (HS.out.fr hf)
  clear hf
  go_wp2_with fail
  refine (HF2.out _).mono ?_
  rintro e v12 ⟨rfl, hf⟩
  have HS := Lib.hid (HS.out.fr hf)
  clear hf
  go_wp2_with fail
  refine (HF3.out _).mono ?_
  rintro e v13 ⟨rfl, hf⟩
  have HS := Lib.hid (HS.out.fr hf)
  clear hf
  go_wp2_with fail
  refine (HF4.out _).mono ?_
  rintro e v14 ⟨rfl, hf⟩
  have HS := Lib.hid (HS.out.fr hf)
  clear hf
  go_wp2_with fail
  refine (HS1.out _).mono ?_
  rintro e v15 ⟨rfl, hf⟩
  have HS := Lib.hid (HS.out.fr hf)
  clear hf
  obtain ⟨kb0, kb1, kb2, kb3, kb4, kb5, kb6, fb0, fb1, fb2, fb3, fb4, fb5, fb6⟩ := blkat7 HS.out.b
  go_upto_region 79 with (fail)
  have HS' := Lib.hid (HS.out.s4 (n * 2))
  clear kb0 fb0 kb1 fb1 kb2 fb2 kb3 fb3 kb4 fb4 kb5 fb5 kb6 fb6
  clear HS
  generalize v15.setCell ⟨W.heap.size + 1, 4, none⟩ (.int .i64 (n * 2)) = v16 at *
  have HS := HS'
  clear HS'
  obtain ⟨ka0, ka1, ka2, ka3, ka4, ka5, ka6, fa0, fa1, fa2, fa3, fa4, fa5, fa6⟩ := blkat7 HS.out.a
  obtain ⟨kb0, kb1, kb2, kb3, kb4, kb5, kb6, fb0, fb1, fb2, fb3, fb4, fb5, fb6⟩ := blkat7 HS.out.b
  go_wp2_with fail
  refine bodyPost_ret (results_ct rfl _ _ W.heap.size 24 #[.int .i64 (3), .int .i64 ((rd : Int)), .int .i64 (0), .int .i64 (0), .int .i64 (n * 2), .int .i64 (0), .int .i64 (4)] (0, 0) _ rfl ?_ Try.underlying24 rfl (by kernel_rfl)) rfl ?_
  · exact blk7 HS.out.a _ _ _ _ _ _ _
  · exact ⟨rfl, by (repeat (first | (with_reducible exact HS.out.f) | (with_reducible refine Fr.setCell ?_ (Or.inr (by simp)) _)))⟩
set_option maxRecDepth 100000 in
set_option maxHeartbeats 4000000 in
theorem rdec_jalr (w : Nat) (hw : w < 4294967296) (W : World) (ck : fld w 0 7 = 103) (c : ¬ oneP [4] (fld w 12 3) = 0) : Calls Try.prog 10 #[.int .u32 (w : Int)] W fun e w' => e = .returned (.tuple #[i7 (rdecP w).1, .bool (rdecP w).2]) ∧ Fr (fun _ => False) W w' := by
  have hK : rkindP w = (oneP [4] (fld w 12 3), ((fld w 7 5 : Nat) : Int), ((fld w 15 5 : Nat) : Int), 0, iP w, 0, 4) := by unfold rkindP; rw [if_neg (by omega), if_neg (by omega), if_neg (by omega), if_pos ck]
  have hP : rdecP w = ((oneP [4] (fld w 12 3), ((fld w 7 5 : Nat) : Int), ((fld w 15 5 : Nat) : Int), 0, iP w, 0, 4), true) := by rw [rdec_yes (by rw [hK]; exact c), hK]
  rw [hP]
  have H117 := insU_sq0 w hw
  have H1412 := insU_sq1 w hw
  have H1915 := insU_sq2 w hw
  have H2420 := insU_sq3 w hw
  have H3125 := insU_sq4 w hw
  have H3120 := insU_sq5 w hw
  have HSI := Lib.hid (show ∀ W, Calls Try.prog 27 #[.int .i64 ((fld w 20 12 : Nat) : Int), .int .i64 12] W fun e w' => e = .returned (.int .i64 (iP w)) ∧ Fr (fun _ => False) W w' from S_fr (fld w 20 12) 12 (by decide) (by decide) (by have := fld_lt w 20 12; omega))
  have H60 := Lib.hid (show ∀ W, Calls Try.prog 26 #[.int .u32 (w : Int), .int .i64 6, .int .i64 0] W fun e w' => e = .returned (.int .i64 (103)) ∧ Fr (fun _ => False) W w' from fun W => by have g := F_fr w 6 0 7 hw (by decide) (by decide) rfl W; rw [ck] at g; exact g)
  have HO7 := Lib.hid (show ∀ g W, Blk W g 3 #[.int .i64 11, .int .i64 12, .int .i64 13, .int .i64 14, .int .i64 15, .int .i64 16, .int .i64 17] → Calls Try.prog 28 #[.slice (some ⟨g, 0, none⟩) 7 7, .int .i64 ((fld w 12 3 : Nat) : Int)] W fun e w' => e = .returned (.int .i64 (oneP [11, 12, 13, 14, 15, 16, 17] (fld w 12 3))) ∧ Fr (fun _ => False) W w' from fun g W hb => one_fr [11, 12, 13, 14, 15, 16, 17] (by decide) (fld w 12 3) g 7 (by decide) 3 W hb)
  have HO1 := Lib.hid (show ∀ g W, Blk W g 3 #[.int .i64 4] → Calls Try.prog 28 #[.slice (some ⟨g, 0, none⟩) 1 1, .int .i64 ((fld w 12 3 : Nat) : Int)] W fun e w' => e = .returned (.int .i64 (oneP [4] (fld w 12 3))) ∧ Fr (fun _ => False) W w' from fun g W hb => one_fr [4] (by decide) (fld w 12 3) g 1 (by decide) 3 W hb)
  clear hP hK ck
  generalize oneP [4] (fld w 12 3) = p at *
  generalize oneP [11, 12, 13, 14, 15, 16, 17] (fld w 12 3) = p7 at *
  generalize iP w = m at *
  generalize fld w 12 3 = f3 at *
  generalize fld w 7 5 = rd at *
  generalize fld w 15 5 = r1 at *
  generalize fld w 20 5 = r2 at *
  have t0 : (p == 0) = false := beq_eq_false_iff_ne.2 c
  clear c
  go_enter Try.func10, Try.ntmps10
  go_wp2_with fail
  have HS := Lib.hid (DS.start W)
  generalize (W.alloc (.cells #[.int .i64 0, .int .i64 0, .int .i64 0, .int .i64 0, .int .i64 0, .int .i64 0, .int .i64 0] 24)).alloc (.cells #[.int .i64 0, .int .i64 0, .int .i64 0, .int .i64 0, .int .i64 0, .int .i64 0, .int .i64 4] 24) = wz at *
  refine (H117.out _).mono ?_
  rintro e v1 ⟨rfl, hf⟩
  have HS := Lib.hid (HS.out.fr hf)
  clear hf
  go_wp2_with fail
  refine (H1412.out _).mono ?_
  rintro e v2 ⟨rfl, hf⟩
  have HS := Lib.hid (HS.out.fr hf)
  clear hf
  go_wp2_with fail
  refine (H1915.out _).mono ?_
  rintro e v3 ⟨rfl, hf⟩
  have HS := Lib.hid (HS.out.fr hf)
  clear hf
  go_wp2_with fail
  refine (H2420.out _).mono ?_
  rintro e v4 ⟨rfl, hf⟩
  have HS := Lib.hid (HS.out.fr hf)
  clear hf
  go_wp2_with fail
  refine (H3125.out _).mono ?_
  rintro e v5 ⟨rfl, hf⟩
  have HS := Lib.hid (HS.out.fr hf)
  clear hf
  go_wp2_with fail
  refine (H3120.out _).mono ?_
  rintro e v6 ⟨rfl, hf⟩
  have HS := Lib.hid (HS.out.fr hf)
  clear hf
  go_wp2_with fail
  refine (HSI.out _).mono ?_
  rintro e v7 ⟨rfl, hf⟩
  have HS := Lib.hid (HS.out.fr hf)
  clear hf
  go_wp2_with fail
  refine (H60.out _).mono ?_
  rintro e v8 ⟨rfl, hf⟩
  have HS := Lib.hid (HS.out.fr hf)
  clear hf
  go_wp2_with fail
  refine (HO7.out _ _ (Blk.new _ _ _)).mono ?_
  rintro e v9 ⟨rfl, hf⟩
  have HS := Lib.hid ((HS.out.al (.cells #[.int .i64 11, .int .i64 12, .int .i64 13, .int .i64 14, .int .i64 15, .int .i64 16, .int .i64 17] 3)).fr hf)
  clear hf
  obtain ⟨kb0, kb1, kb2, kb3, kb4, kb5, kb6, fb0, fb1, fb2, fb3, fb4, fb5, fb6⟩ := blkat7 HS.out.b
  go_upto_region 23 with (fail)
  have HS' := Lib.hid (HS.out.s0 (p7))
  clear kb0 fb0 kb1 fb1 kb2 fb2 kb3 fb3 kb4 fb4 kb5 fb5 kb6 fb6
  clear HS
  generalize v9.setCell ⟨W.heap.size + 1, 0, none⟩ (.int .i64 (p7)) = v10 at *
  have HS := HS'
  clear HS'
  go_wp2_with fail
  refine (H60.out _).mono ?_
  rintro e v11 ⟨rfl, hf⟩
  have HS := Lib.hid (HS.out.fr hf)
  clear hf
  go_wp2_with fail
  refine (HO1.out _ _ (Blk.new _ _ _)).mono ?_
  rintro e v12 ⟨rfl, hf⟩
  have HS := Lib.hid ((HS.out.al (.cells #[.int .i64 4] 3)).fr hf)
  clear hf
  obtain ⟨kb0, kb1, kb2, kb3, kb4, kb5, kb6, fb0, fb1, fb2, fb3, fb4, fb5, fb6⟩ := blkat7 HS.out.b
  go_upto_region 25 with (fail)
  have HS' := Lib.hid (HS.out.s0 (p))
  clear kb0 fb0 kb1 fb1 kb2 fb2 kb3 fb3 kb4 fb4 kb5 fb5 kb6 fb6
  clear HS
  generalize v12.setCell ⟨W.heap.size + 1, 0, none⟩ (.int .i64 (p)) = v13 at *
  have HS := HS'
  clear HS'
  obtain ⟨kb0, kb1, kb2, kb3, kb4, kb5, kb6, fb0, fb1, fb2, fb3, fb4, fb5, fb6⟩ := blkat7 HS.out.b
  go_upto_region 26 with (fail)
  have HS' := Lib.hid (HS.out.s1 ((rd : Int)))
  clear kb0 fb0 kb1 fb1 kb2 fb2 kb3 fb3 kb4 fb4 kb5 fb5 kb6 fb6
  clear HS
  generalize v13.setCell ⟨W.heap.size + 1, 1, none⟩ (.int .i64 ((rd : Int))) = v14 at *
  have HS := HS'
  clear HS'
  obtain ⟨kb0, kb1, kb2, kb3, kb4, kb5, kb6, fb0, fb1, fb2, fb3, fb4, fb5, fb6⟩ := blkat7 HS.out.b
  go_upto_region 27 with (fail)
  have HS' := Lib.hid (HS.out.s2 ((r1 : Int)))
  clear kb0 fb0 kb1 fb1 kb2 fb2 kb3 fb3 kb4 fb4 kb5 fb5 kb6 fb6
  clear HS
  generalize v14.setCell ⟨W.heap.size + 1, 2, none⟩ (.int .i64 ((r1 : Int))) = v15 at *
  have HS := HS'
  clear HS'
  obtain ⟨kb0, kb1, kb2, kb3, kb4, kb5, kb6, fb0, fb1, fb2, fb3, fb4, fb5, fb6⟩ := blkat7 HS.out.b
  go_upto_region 79 with (fail)
  have HS' := Lib.hid (HS.out.s4 (m))
  clear kb0 fb0 kb1 fb1 kb2 fb2 kb3 fb3 kb4 fb4 kb5 fb5 kb6 fb6
  clear HS
  generalize v15.setCell ⟨W.heap.size + 1, 4, none⟩ (.int .i64 (m)) = v16 at *
  have HS := HS'
  clear HS'
  obtain ⟨ka0, ka1, ka2, ka3, ka4, ka5, ka6, fa0, fa1, fa2, fa3, fa4, fa5, fa6⟩ := blkat7 HS.out.a
  obtain ⟨kb0, kb1, kb2, kb3, kb4, kb5, kb6, fb0, fb1, fb2, fb3, fb4, fb5, fb6⟩ := blkat7 HS.out.b
  go_wp2_with fail
  refine bodyPost_ret (results_ct rfl _ _ W.heap.size 24 #[.int .i64 (p), .int .i64 ((rd : Int)), .int .i64 ((r1 : Int)), .int .i64 (0), .int .i64 (m), .int .i64 (0), .int .i64 (4)] (0, 0) _ rfl ?_ Try.underlying24 rfl (by kernel_rfl)) rfl ?_
  · exact blk7 HS.out.a _ _ _ _ _ _ _
  · exact ⟨rfl, by (repeat (first | (with_reducible exact HS.out.f) | (with_reducible refine Fr.setCell ?_ (Or.inr (by simp)) _)))⟩
set_option maxRecDepth 100000 in
set_option maxHeartbeats 4000000 in
theorem rdec_jalrn (w : Nat) (hw : w < 4294967296) (W : World) (ck : fld w 0 7 = 103) (c :  oneP [4] (fld w 12 3) = 0) : Calls Try.prog 10 #[.int .u32 (w : Int)] W fun e w' => e = .returned (.tuple #[i7 (rdecP w).1, .bool (rdecP w).2]) ∧ Fr (fun _ => False) W w' := by
  have hK : rkindP w = (oneP [4] (fld w 12 3), ((fld w 7 5 : Nat) : Int), ((fld w 15 5 : Nat) : Int), 0, iP w, 0, 4) := by unfold rkindP; rw [if_neg (by omega), if_neg (by omega), if_neg (by omega), if_pos ck]
  have hP : rdecP w = (i0, false) := rdec_no (by rw [hK]; exact c)
  rw [hP]
  have H117 := insU_sq0 w hw
  have H1412 := insU_sq1 w hw
  have H1915 := insU_sq2 w hw
  have H2420 := insU_sq3 w hw
  have H3125 := insU_sq4 w hw
  have H3120 := insU_sq5 w hw
  have HSI := Lib.hid (show ∀ W, Calls Try.prog 27 #[.int .i64 ((fld w 20 12 : Nat) : Int), .int .i64 12] W fun e w' => e = .returned (.int .i64 (iP w)) ∧ Fr (fun _ => False) W w' from S_fr (fld w 20 12) 12 (by decide) (by decide) (by have := fld_lt w 20 12; omega))
  have H60 := Lib.hid (show ∀ W, Calls Try.prog 26 #[.int .u32 (w : Int), .int .i64 6, .int .i64 0] W fun e w' => e = .returned (.int .i64 (103)) ∧ Fr (fun _ => False) W w' from fun W => by have g := F_fr w 6 0 7 hw (by decide) (by decide) rfl W; rw [ck] at g; exact g)
  have HO7 := Lib.hid (show ∀ g W, Blk W g 3 #[.int .i64 11, .int .i64 12, .int .i64 13, .int .i64 14, .int .i64 15, .int .i64 16, .int .i64 17] → Calls Try.prog 28 #[.slice (some ⟨g, 0, none⟩) 7 7, .int .i64 ((fld w 12 3 : Nat) : Int)] W fun e w' => e = .returned (.int .i64 (oneP [11, 12, 13, 14, 15, 16, 17] (fld w 12 3))) ∧ Fr (fun _ => False) W w' from fun g W hb => one_fr [11, 12, 13, 14, 15, 16, 17] (by decide) (fld w 12 3) g 7 (by decide) 3 W hb)
  have HO1 := Lib.hid (show ∀ g W, Blk W g 3 #[.int .i64 4] → Calls Try.prog 28 #[.slice (some ⟨g, 0, none⟩) 1 1, .int .i64 ((fld w 12 3 : Nat) : Int)] W fun e w' => e = .returned (.int .i64 (oneP [4] (fld w 12 3))) ∧ Fr (fun _ => False) W w' from fun g W hb => one_fr [4] (by decide) (fld w 12 3) g 1 (by decide) 3 W hb)
  clear hP hK ck
  generalize oneP [4] (fld w 12 3) = p at *
  generalize oneP [11, 12, 13, 14, 15, 16, 17] (fld w 12 3) = p7 at *
  generalize iP w = m at *
  generalize fld w 12 3 = f3 at *
  generalize fld w 7 5 = rd at *
  generalize fld w 15 5 = r1 at *
  generalize fld w 20 5 = r2 at *
  have t0 : (p == 0) = true := beq_iff_eq.2 c
  clear c
  go_enter Try.func10, Try.ntmps10
  go_wp2_with fail
  have HS := Lib.hid (DS.start W)
  generalize (W.alloc (.cells #[.int .i64 0, .int .i64 0, .int .i64 0, .int .i64 0, .int .i64 0, .int .i64 0, .int .i64 0] 24)).alloc (.cells #[.int .i64 0, .int .i64 0, .int .i64 0, .int .i64 0, .int .i64 0, .int .i64 0, .int .i64 4] 24) = wz at *
  refine (H117.out _).mono ?_
  rintro e v1 ⟨rfl, hf⟩
  have HS := Lib.hid (HS.out.fr hf)
  clear hf
  go_wp2_with fail
  refine (H1412.out _).mono ?_
  rintro e v2 ⟨rfl, hf⟩
  have HS := Lib.hid (HS.out.fr hf)
  clear hf
  go_wp2_with fail
  refine (H1915.out _).mono ?_
  rintro e v3 ⟨rfl, hf⟩
  have HS := Lib.hid (HS.out.fr hf)
  clear hf
  go_wp2_with fail
  refine (H2420.out _).mono ?_
  rintro e v4 ⟨rfl, hf⟩
  have HS := Lib.hid (HS.out.fr hf)
  clear hf
  go_wp2_with fail
  refine (H3125.out _).mono ?_
  rintro e v5 ⟨rfl, hf⟩
  have HS := Lib.hid (HS.out.fr hf)
  clear hf
  go_wp2_with fail
  refine (H3120.out _).mono ?_
  rintro e v6 ⟨rfl, hf⟩
  have HS := Lib.hid (HS.out.fr hf)
  clear hf
  go_wp2_with fail
  refine (HSI.out _).mono ?_
  rintro e v7 ⟨rfl, hf⟩
  have HS := Lib.hid (HS.out.fr hf)
  clear hf
  go_wp2_with fail
  refine (H60.out _).mono ?_
  rintro e v8 ⟨rfl, hf⟩
  have HS := Lib.hid (HS.out.fr hf)
  clear hf
  go_wp2_with fail
  refine (HO7.out _ _ (Blk.new _ _ _)).mono ?_
  rintro e v9 ⟨rfl, hf⟩
  have HS := Lib.hid ((HS.out.al (.cells #[.int .i64 11, .int .i64 12, .int .i64 13, .int .i64 14, .int .i64 15, .int .i64 16, .int .i64 17] 3)).fr hf)
  clear hf
  obtain ⟨kb0, kb1, kb2, kb3, kb4, kb5, kb6, fb0, fb1, fb2, fb3, fb4, fb5, fb6⟩ := blkat7 HS.out.b
  go_upto_region 23 with (fail)
  have HS' := Lib.hid (HS.out.s0 (p7))
  clear kb0 fb0 kb1 fb1 kb2 fb2 kb3 fb3 kb4 fb4 kb5 fb5 kb6 fb6
  clear HS
  generalize v9.setCell ⟨W.heap.size + 1, 0, none⟩ (.int .i64 (p7)) = v10 at *
  have HS := HS'
  clear HS'
  go_wp2_with fail
  refine (H60.out _).mono ?_
  rintro e v11 ⟨rfl, hf⟩
  have HS := Lib.hid (HS.out.fr hf)
  clear hf
  go_wp2_with fail
  refine (HO1.out _ _ (Blk.new _ _ _)).mono ?_
  rintro e v12 ⟨rfl, hf⟩
  have HS := Lib.hid ((HS.out.al (.cells #[.int .i64 4] 3)).fr hf)
  clear hf
  obtain ⟨kb0, kb1, kb2, kb3, kb4, kb5, kb6, fb0, fb1, fb2, fb3, fb4, fb5, fb6⟩ := blkat7 HS.out.b
  go_upto_region 25 with (fail)
  have HS' := Lib.hid (HS.out.s0 (p))
  clear kb0 fb0 kb1 fb1 kb2 fb2 kb3 fb3 kb4 fb4 kb5 fb5 kb6 fb6
  clear HS
  generalize v12.setCell ⟨W.heap.size + 1, 0, none⟩ (.int .i64 (p)) = v13 at *
  have HS := HS'
  clear HS'
  obtain ⟨kb0, kb1, kb2, kb3, kb4, kb5, kb6, fb0, fb1, fb2, fb3, fb4, fb5, fb6⟩ := blkat7 HS.out.b
  go_upto_region 26 with (fail)
  have HS' := Lib.hid (HS.out.s1 ((rd : Int)))
  clear kb0 fb0 kb1 fb1 kb2 fb2 kb3 fb3 kb4 fb4 kb5 fb5 kb6 fb6
  clear HS
  generalize v13.setCell ⟨W.heap.size + 1, 1, none⟩ (.int .i64 ((rd : Int))) = v14 at *
  have HS := HS'
  clear HS'
  obtain ⟨kb0, kb1, kb2, kb3, kb4, kb5, kb6, fb0, fb1, fb2, fb3, fb4, fb5, fb6⟩ := blkat7 HS.out.b
  go_upto_region 27 with (fail)
  have HS' := Lib.hid (HS.out.s2 ((r1 : Int)))
  clear kb0 fb0 kb1 fb1 kb2 fb2 kb3 fb3 kb4 fb4 kb5 fb5 kb6 fb6
  clear HS
  generalize v14.setCell ⟨W.heap.size + 1, 2, none⟩ (.int .i64 ((r1 : Int))) = v15 at *
  have HS := HS'
  clear HS'
  obtain ⟨kb0, kb1, kb2, kb3, kb4, kb5, kb6, fb0, fb1, fb2, fb3, fb4, fb5, fb6⟩ := blkat7 HS.out.b
  go_upto_region 79 with (fail)
  have HS' := Lib.hid (HS.out.s4 (m))
  clear kb0 fb0 kb1 fb1 kb2 fb2 kb3 fb3 kb4 fb4 kb5 fb5 kb6 fb6
  clear HS
  generalize v15.setCell ⟨W.heap.size + 1, 4, none⟩ (.int .i64 (m)) = v16 at *
  have HS := HS'
  clear HS'
  obtain ⟨ka0, ka1, ka2, ka3, ka4, ka5, ka6, fa0, fa1, fa2, fa3, fa4, fa5, fa6⟩ := blkat7 HS.out.a
  obtain ⟨kb0, kb1, kb2, kb3, kb4, kb5, kb6, fb0, fb1, fb2, fb3, fb4, fb5, fb6⟩ := blkat7 HS.out.b
  go_wp2_with fail
  refine bodyPost_ret (results_ct rfl _ _ W.heap.size 24 #[.int .i64 (0), .int .i64 (0), .int .i64 (0), .int .i64 (0), .int .i64 (0), .int .i64 (0), .int .i64 (0)] (0, 0) _ rfl ?_ Try.underlying24 rfl (by kernel_rfl)) rfl ?_
  · exact blk7 HS.out.a _ _ _ _ _ _ _
  · exact ⟨rfl, by (repeat (first | (with_reducible exact HS.out.f) | (with_reducible refine Fr.setCell ?_ (Or.inr (by simp)) _)))⟩
set_option maxRecDepth 100000 in
set_option maxHeartbeats 4000000 in
theorem rdec_load (w : Nat) (hw : w < 4294967296) (W : World) (ck : fld w 0 7 = 3) (c : ¬ oneP [11, 12, 13, 14, 15, 16, 17] (fld w 12 3) = 0) : Calls Try.prog 10 #[.int .u32 (w : Int)] W fun e w' => e = .returned (.tuple #[i7 (rdecP w).1, .bool (rdecP w).2]) ∧ Fr (fun _ => False) W w' := by
  have hK : rkindP w = (oneP [11, 12, 13, 14, 15, 16, 17] (fld w 12 3), ((fld w 7 5 : Nat) : Int), ((fld w 15 5 : Nat) : Int), 0, iP w, 0, 4) := by unfold rkindP; rw [if_neg (by omega), if_neg (by omega), if_neg (by omega), if_neg (by omega), if_pos ck]
  have hP : rdecP w = ((oneP [11, 12, 13, 14, 15, 16, 17] (fld w 12 3), ((fld w 7 5 : Nat) : Int), ((fld w 15 5 : Nat) : Int), 0, iP w, 0, 4), true) := by rw [rdec_yes (by rw [hK]; exact c), hK]
  rw [hP]
  have H117 := insU_sq0 w hw
  have H1412 := insU_sq1 w hw
  have H1915 := insU_sq2 w hw
  have H2420 := insU_sq3 w hw
  have H3125 := insU_sq4 w hw
  have H3120 := insU_sq5 w hw
  have HSI := Lib.hid (show ∀ W, Calls Try.prog 27 #[.int .i64 ((fld w 20 12 : Nat) : Int), .int .i64 12] W fun e w' => e = .returned (.int .i64 (iP w)) ∧ Fr (fun _ => False) W w' from S_fr (fld w 20 12) 12 (by decide) (by decide) (by have := fld_lt w 20 12; omega))
  have H60 := Lib.hid (show ∀ W, Calls Try.prog 26 #[.int .u32 (w : Int), .int .i64 6, .int .i64 0] W fun e w' => e = .returned (.int .i64 (3)) ∧ Fr (fun _ => False) W w' from fun W => by have g := F_fr w 6 0 7 hw (by decide) (by decide) rfl W; rw [ck] at g; exact g)
  have HO7 := Lib.hid (show ∀ g W, Blk W g 3 #[.int .i64 11, .int .i64 12, .int .i64 13, .int .i64 14, .int .i64 15, .int .i64 16, .int .i64 17] → Calls Try.prog 28 #[.slice (some ⟨g, 0, none⟩) 7 7, .int .i64 ((fld w 12 3 : Nat) : Int)] W fun e w' => e = .returned (.int .i64 (oneP [11, 12, 13, 14, 15, 16, 17] (fld w 12 3))) ∧ Fr (fun _ => False) W w' from fun g W hb => one_fr [11, 12, 13, 14, 15, 16, 17] (by decide) (fld w 12 3) g 7 (by decide) 3 W hb)
  clear hP hK ck
  generalize oneP [11, 12, 13, 14, 15, 16, 17] (fld w 12 3) = p at *
  generalize iP w = m at *
  generalize fld w 12 3 = f3 at *
  generalize fld w 7 5 = rd at *
  generalize fld w 15 5 = r1 at *
  generalize fld w 20 5 = r2 at *
  have t0 : (p == 0) = false := beq_eq_false_iff_ne.2 c
  clear c
  go_enter Try.func10, Try.ntmps10
  go_wp2_with fail
  have HS := Lib.hid (DS.start W)
  generalize (W.alloc (.cells #[.int .i64 0, .int .i64 0, .int .i64 0, .int .i64 0, .int .i64 0, .int .i64 0, .int .i64 0] 24)).alloc (.cells #[.int .i64 0, .int .i64 0, .int .i64 0, .int .i64 0, .int .i64 0, .int .i64 0, .int .i64 4] 24) = wz at *
  refine (H117.out _).mono ?_
  rintro e v1 ⟨rfl, hf⟩
  have HS := Lib.hid (HS.out.fr hf)
  clear hf
  go_wp2_with fail
  refine (H1412.out _).mono ?_
  rintro e v2 ⟨rfl, hf⟩
  have HS := Lib.hid (HS.out.fr hf)
  clear hf
  go_wp2_with fail
  refine (H1915.out _).mono ?_
  rintro e v3 ⟨rfl, hf⟩
  have HS := Lib.hid (HS.out.fr hf)
  clear hf
  go_wp2_with fail
  refine (H2420.out _).mono ?_
  rintro e v4 ⟨rfl, hf⟩
  have HS := Lib.hid (HS.out.fr hf)
  clear hf
  go_wp2_with fail
  refine (H3125.out _).mono ?_
  rintro e v5 ⟨rfl, hf⟩
  have HS := Lib.hid (HS.out.fr hf)
  clear hf
  go_wp2_with fail
  refine (H3120.out _).mono ?_
  rintro e v6 ⟨rfl, hf⟩
  have HS := Lib.hid (HS.out.fr hf)
  clear hf
  go_wp2_with fail
  refine (HSI.out _).mono ?_
  rintro e v7 ⟨rfl, hf⟩
  have HS := Lib.hid (HS.out.fr hf)
  clear hf
  go_wp2_with fail
  refine (H60.out _).mono ?_
  rintro e v8 ⟨rfl, hf⟩
  have HS := Lib.hid (HS.out.fr hf)
  clear hf
  go_wp2_with fail
  refine (HO7.out _ _ (Blk.new _ _ _)).mono ?_
  rintro e v9 ⟨rfl, hf⟩
  have HS := Lib.hid ((HS.out.al (.cells #[.int .i64 11, .int .i64 12, .int .i64 13, .int .i64 14, .int .i64 15, .int .i64 16, .int .i64 17] 3)).fr hf)
  clear hf
  obtain ⟨kb0, kb1, kb2, kb3, kb4, kb5, kb6, fb0, fb1, fb2, fb3, fb4, fb5, fb6⟩ := blkat7 HS.out.b
  go_upto_region 23 with (fail)
  have HS' := Lib.hid (HS.out.s0 (p))
  clear kb0 fb0 kb1 fb1 kb2 fb2 kb3 fb3 kb4 fb4 kb5 fb5 kb6 fb6
  clear HS
  generalize v9.setCell ⟨W.heap.size + 1, 0, none⟩ (.int .i64 (p)) = v10 at *
  have HS := HS'
  clear HS'
  go_wp2_with fail
  refine (H60.out _).mono ?_
  rintro e v11 ⟨rfl, hf⟩
  have HS := Lib.hid (HS.out.fr hf)
  clear hf
  go_upto_region 25 with (fail)
  obtain ⟨kb0, kb1, kb2, kb3, kb4, kb5, kb6, fb0, fb1, fb2, fb3, fb4, fb5, fb6⟩ := blkat7 HS.out.b
  go_upto_region 26 with (fail)
  have HS' := Lib.hid (HS.out.s1 ((rd : Int)))
  clear kb0 fb0 kb1 fb1 kb2 fb2 kb3 fb3 kb4 fb4 kb5 fb5 kb6 fb6
  clear HS
  generalize v11.setCell ⟨W.heap.size + 1, 1, none⟩ (.int .i64 ((rd : Int))) = v12 at *
  have HS := HS'
  clear HS'
  obtain ⟨kb0, kb1, kb2, kb3, kb4, kb5, kb6, fb0, fb1, fb2, fb3, fb4, fb5, fb6⟩ := blkat7 HS.out.b
  go_upto_region 27 with (fail)
  have HS' := Lib.hid (HS.out.s2 ((r1 : Int)))
  clear kb0 fb0 kb1 fb1 kb2 fb2 kb3 fb3 kb4 fb4 kb5 fb5 kb6 fb6
  clear HS
  generalize v12.setCell ⟨W.heap.size + 1, 2, none⟩ (.int .i64 ((r1 : Int))) = v13 at *
  have HS := HS'
  clear HS'
  obtain ⟨kb0, kb1, kb2, kb3, kb4, kb5, kb6, fb0, fb1, fb2, fb3, fb4, fb5, fb6⟩ := blkat7 HS.out.b
  go_upto_region 79 with (fail)
  have HS' := Lib.hid (HS.out.s4 (m))
  clear kb0 fb0 kb1 fb1 kb2 fb2 kb3 fb3 kb4 fb4 kb5 fb5 kb6 fb6
  clear HS
  generalize v13.setCell ⟨W.heap.size + 1, 4, none⟩ (.int .i64 (m)) = v14 at *
  have HS := HS'
  clear HS'
  obtain ⟨ka0, ka1, ka2, ka3, ka4, ka5, ka6, fa0, fa1, fa2, fa3, fa4, fa5, fa6⟩ := blkat7 HS.out.a
  obtain ⟨kb0, kb1, kb2, kb3, kb4, kb5, kb6, fb0, fb1, fb2, fb3, fb4, fb5, fb6⟩ := blkat7 HS.out.b
  go_wp2_with fail
  refine bodyPost_ret (results_ct rfl _ _ W.heap.size 24 #[.int .i64 (p), .int .i64 ((rd : Int)), .int .i64 ((r1 : Int)), .int .i64 (0), .int .i64 (m), .int .i64 (0), .int .i64 (4)] (0, 0) _ rfl ?_ Try.underlying24 rfl (by kernel_rfl)) rfl ?_
  · exact blk7 HS.out.a _ _ _ _ _ _ _
  · exact ⟨rfl, by (repeat (first | (with_reducible exact HS.out.f) | (with_reducible refine Fr.setCell ?_ (Or.inr (by simp)) _)))⟩
set_option maxRecDepth 100000 in
set_option maxHeartbeats 4000000 in
theorem rdec_loadn (w : Nat) (hw : w < 4294967296) (W : World) (ck : fld w 0 7 = 3) (c :  oneP [11, 12, 13, 14, 15, 16, 17] (fld w 12 3) = 0) : Calls Try.prog 10 #[.int .u32 (w : Int)] W fun e w' => e = .returned (.tuple #[i7 (rdecP w).1, .bool (rdecP w).2]) ∧ Fr (fun _ => False) W w' := by
  have hK : rkindP w = (oneP [11, 12, 13, 14, 15, 16, 17] (fld w 12 3), ((fld w 7 5 : Nat) : Int), ((fld w 15 5 : Nat) : Int), 0, iP w, 0, 4) := by unfold rkindP; rw [if_neg (by omega), if_neg (by omega), if_neg (by omega), if_neg (by omega), if_pos ck]
  have hP : rdecP w = (i0, false) := rdec_no (by rw [hK]; exact c)
  rw [hP]
  have H117 := insU_sq0 w hw
  have H1412 := insU_sq1 w hw
  have H1915 := insU_sq2 w hw
  have H2420 := insU_sq3 w hw
  have H3125 := insU_sq4 w hw
  have H3120 := insU_sq5 w hw
  have HSI := Lib.hid (show ∀ W, Calls Try.prog 27 #[.int .i64 ((fld w 20 12 : Nat) : Int), .int .i64 12] W fun e w' => e = .returned (.int .i64 (iP w)) ∧ Fr (fun _ => False) W w' from S_fr (fld w 20 12) 12 (by decide) (by decide) (by have := fld_lt w 20 12; omega))
  have H60 := Lib.hid (show ∀ W, Calls Try.prog 26 #[.int .u32 (w : Int), .int .i64 6, .int .i64 0] W fun e w' => e = .returned (.int .i64 (3)) ∧ Fr (fun _ => False) W w' from fun W => by have g := F_fr w 6 0 7 hw (by decide) (by decide) rfl W; rw [ck] at g; exact g)
  have HO7 := Lib.hid (show ∀ g W, Blk W g 3 #[.int .i64 11, .int .i64 12, .int .i64 13, .int .i64 14, .int .i64 15, .int .i64 16, .int .i64 17] → Calls Try.prog 28 #[.slice (some ⟨g, 0, none⟩) 7 7, .int .i64 ((fld w 12 3 : Nat) : Int)] W fun e w' => e = .returned (.int .i64 (oneP [11, 12, 13, 14, 15, 16, 17] (fld w 12 3))) ∧ Fr (fun _ => False) W w' from fun g W hb => one_fr [11, 12, 13, 14, 15, 16, 17] (by decide) (fld w 12 3) g 7 (by decide) 3 W hb)
  clear hP hK ck
  generalize oneP [11, 12, 13, 14, 15, 16, 17] (fld w 12 3) = p at *
  generalize iP w = m at *
  generalize fld w 12 3 = f3 at *
  generalize fld w 7 5 = rd at *
  generalize fld w 15 5 = r1 at *
  generalize fld w 20 5 = r2 at *
  have t0 : (p == 0) = true := beq_iff_eq.2 c
  clear c
  go_enter Try.func10, Try.ntmps10
  go_wp2_with fail
  have HS := Lib.hid (DS.start W)
  generalize (W.alloc (.cells #[.int .i64 0, .int .i64 0, .int .i64 0, .int .i64 0, .int .i64 0, .int .i64 0, .int .i64 0] 24)).alloc (.cells #[.int .i64 0, .int .i64 0, .int .i64 0, .int .i64 0, .int .i64 0, .int .i64 0, .int .i64 4] 24) = wz at *
  refine (H117.out _).mono ?_
  rintro e v1 ⟨rfl, hf⟩
  have HS := Lib.hid (HS.out.fr hf)
  clear hf
  go_wp2_with fail
  refine (H1412.out _).mono ?_
  rintro e v2 ⟨rfl, hf⟩
  have HS := Lib.hid (HS.out.fr hf)
  clear hf
  go_wp2_with fail
  refine (H1915.out _).mono ?_
  rintro e v3 ⟨rfl, hf⟩
  have HS := Lib.hid (HS.out.fr hf)
  clear hf
  go_wp2_with fail
  refine (H2420.out _).mono ?_
  rintro e v4 ⟨rfl, hf⟩
  have HS := Lib.hid (HS.out.fr hf)
  clear hf
  go_wp2_with fail
  refine (H3125.out _).mono ?_
  rintro e v5 ⟨rfl, hf⟩
  have HS := Lib.hid (HS.out.fr hf)
  clear hf
  go_wp2_with fail
  refine (H3120.out _).mono ?_
  rintro e v6 ⟨rfl, hf⟩
  have HS := Lib.hid (HS.out.fr hf)
  clear hf
  go_wp2_with fail
  refine (HSI.out _).mono ?_
  rintro e v7 ⟨rfl, hf⟩
  have HS := Lib.hid (HS.out.fr hf)
  clear hf
  go_wp2_with fail
  refine (H60.out _).mono ?_
  rintro e v8 ⟨rfl, hf⟩
  have HS := Lib.hid (HS.out.fr hf)
  clear hf
  go_wp2_with fail
  refine (HO7.out _ _ (Blk.new _ _ _)).mono ?_
  rintro e v9 ⟨rfl, hf⟩
  have HS := Lib.hid ((HS.out.al (.cells #[.int .i64 11, .int .i64 12, .int .i64 13, .int .i64 14, .int .i64 15, .int .i64 16, .int .i64 17] 3)).fr hf)
  clear hf
  obtain ⟨kb0, kb1, kb2, kb3, kb4, kb5, kb6, fb0, fb1, fb2, fb3, fb4, fb5, fb6⟩ := blkat7 HS.out.b
  go_upto_region 23 with (fail)
  have HS' := Lib.hid (HS.out.s0 (p))
  clear kb0 fb0 kb1 fb1 kb2 fb2 kb3 fb3 kb4 fb4 kb5 fb5 kb6 fb6
  clear HS
  generalize v9.setCell ⟨W.heap.size + 1, 0, none⟩ (.int .i64 (p)) = v10 at *
  have HS := HS'
  clear HS'
  go_wp2_with fail
  refine (H60.out _).mono ?_
  rintro e v11 ⟨rfl, hf⟩
  have HS := Lib.hid (HS.out.fr hf)
  clear hf
  go_upto_region 25 with (fail)
  obtain ⟨kb0, kb1, kb2, kb3, kb4, kb5, kb6, fb0, fb1, fb2, fb3, fb4, fb5, fb6⟩ := blkat7 HS.out.b
  go_upto_region 26 with (fail)
  have HS' := Lib.hid (HS.out.s1 ((rd : Int)))
  clear kb0 fb0 kb1 fb1 kb2 fb2 kb3 fb3 kb4 fb4 kb5 fb5 kb6 fb6
  clear HS
  generalize v11.setCell ⟨W.heap.size + 1, 1, none⟩ (.int .i64 ((rd : Int))) = v12 at *
  have HS := HS'
  clear HS'
  obtain ⟨kb0, kb1, kb2, kb3, kb4, kb5, kb6, fb0, fb1, fb2, fb3, fb4, fb5, fb6⟩ := blkat7 HS.out.b
  go_upto_region 27 with (fail)
  have HS' := Lib.hid (HS.out.s2 ((r1 : Int)))
  clear kb0 fb0 kb1 fb1 kb2 fb2 kb3 fb3 kb4 fb4 kb5 fb5 kb6 fb6
  clear HS
  generalize v12.setCell ⟨W.heap.size + 1, 2, none⟩ (.int .i64 ((r1 : Int))) = v13 at *
  have HS := HS'
  clear HS'
  obtain ⟨kb0, kb1, kb2, kb3, kb4, kb5, kb6, fb0, fb1, fb2, fb3, fb4, fb5, fb6⟩ := blkat7 HS.out.b
  go_upto_region 79 with (fail)
  have HS' := Lib.hid (HS.out.s4 (m))
  clear kb0 fb0 kb1 fb1 kb2 fb2 kb3 fb3 kb4 fb4 kb5 fb5 kb6 fb6
  clear HS
  generalize v13.setCell ⟨W.heap.size + 1, 4, none⟩ (.int .i64 (m)) = v14 at *
  have HS := HS'
  clear HS'
  obtain ⟨ka0, ka1, ka2, ka3, ka4, ka5, ka6, fa0, fa1, fa2, fa3, fa4, fa5, fa6⟩ := blkat7 HS.out.a
  obtain ⟨kb0, kb1, kb2, kb3, kb4, kb5, kb6, fb0, fb1, fb2, fb3, fb4, fb5, fb6⟩ := blkat7 HS.out.b
  go_wp2_with fail
  refine bodyPost_ret (results_ct rfl _ _ W.heap.size 24 #[.int .i64 (0), .int .i64 (0), .int .i64 (0), .int .i64 (0), .int .i64 (0), .int .i64 (0), .int .i64 (0)] (0, 0) _ rfl ?_ Try.underlying24 rfl (by kernel_rfl)) rfl ?_
  · exact blk7 HS.out.a _ _ _ _ _ _ _
  · exact ⟨rfl, by (repeat (first | (with_reducible exact HS.out.f) | (with_reducible refine Fr.setCell ?_ (Or.inr (by simp)) _)))⟩
set_option maxRecDepth 100000 in
set_option maxHeartbeats 4000000 in
theorem rdec_branch (w : Nat) (hw : w < 4294967296) (W : World) (ck : fld w 0 7 = 99) (c : ¬ oneP [5, 6, 0, 0, 7, 8, 9, 10] (fld w 12 3) = 0) : Calls Try.prog 10 #[.int .u32 (w : Int)] W fun e w' => e = .returned (.tuple #[i7 (rdecP w).1, .bool (rdecP w).2]) ∧ Fr (fun _ => False) W w' := by
  have hK : rkindP w = (oneP [5, 6, 0, 0, 7, 8, 9, 10] (fld w 12 3), 0, ((fld w 15 5 : Nat) : Int), ((fld w 20 5 : Nat) : Int), sg (((fld w 31 1 * 2 + fld w 7 1) * 64 + fld w 25 6) * 16 + fld w 8 4) 12 * 2, 0, 4) := by unfold rkindP; rw [if_neg (by omega), if_neg (by omega), if_neg (by omega), if_neg (by omega), if_neg (by omega), if_pos ck]
  have hP : rdecP w = ((oneP [5, 6, 0, 0, 7, 8, 9, 10] (fld w 12 3), 0, ((fld w 15 5 : Nat) : Int), ((fld w 20 5 : Nat) : Int), sg (((fld w 31 1 * 2 + fld w 7 1) * 64 + fld w 25 6) * 16 + fld w 8 4) 12 * 2, 0, 4), true) := by rw [rdec_yes (by rw [hK]; exact c), hK]
  rw [hP]
  have H117 := insU_sq0 w hw
  have H1412 := insU_sq1 w hw
  have H1915 := insU_sq2 w hw
  have H2420 := insU_sq3 w hw
  have H3125 := insU_sq4 w hw
  have H3120 := insU_sq5 w hw
  have HSI := Lib.hid (show ∀ W, Calls Try.prog 27 #[.int .i64 ((fld w 20 12 : Nat) : Int), .int .i64 12] W fun e w' => e = .returned (.int .i64 (iP w)) ∧ Fr (fun _ => False) W w' from S_fr (fld w 20 12) 12 (by decide) (by decide) (by have := fld_lt w 20 12; omega))
  have H60 := Lib.hid (show ∀ W, Calls Try.prog 26 #[.int .u32 (w : Int), .int .i64 6, .int .i64 0] W fun e w' => e = .returned (.int .i64 (99)) ∧ Fr (fun _ => False) W w' from fun W => by have g := F_fr w 6 0 7 hw (by decide) (by decide) rfl W; rw [ck] at g; exact g)
  have b1 : fld w 31 1 < 2 := fld_lt w 31 1
  have b2 : fld w 7 1 < 2 := fld_lt w 7 1
  have b3 : fld w 25 6 < 64 := fld_lt w 25 6
  have b4 : fld w 8 4 < 16 := fld_lt w 8 4
  have HO := Lib.hid (show ∀ g W, Blk W g 3 #[.int .i64 5, .int .i64 6, .int .i64 0, .int .i64 0, .int .i64 7, .int .i64 8, .int .i64 9, .int .i64 10] → Calls Try.prog 28 #[.slice (some ⟨g, 0, none⟩) 8 8, .int .i64 ((fld w 12 3 : Nat) : Int)] W fun e w' => e = .returned (.int .i64 (oneP [5, 6, 0, 0, 7, 8, 9, 10] (fld w 12 3))) ∧ Fr (fun _ => False) W w' from fun g W hb => one_fr [5, 6, 0, 0, 7, 8, 9, 10] (by decide) (fld w 12 3) g 8 (by decide) 3 W hb)
  have HF1 := insU_sq6 w hw
  have HF2 := Lib.hid (show ∀ W, Calls Try.prog 26 #[.int .u32 (w : Int), .int .i64 7, .int .i64 7] W fun e w' => e = .returned (.int .i64 (((fld w 7 1 : Nat) : Int))) ∧ Fr (fun _ => False) W w' from F_fr w 7 7 1 hw (by decide) (by decide) rfl)
  have HF3 := Lib.hid (show ∀ W, Calls Try.prog 26 #[.int .u32 (w : Int), .int .i64 30, .int .i64 25] W fun e w' => e = .returned (.int .i64 (((fld w 25 6 : Nat) : Int))) ∧ Fr (fun _ => False) W w' from F_fr w 30 25 6 hw (by decide) (by decide) rfl)
  have HF4 := Lib.hid (show ∀ W, Calls Try.prog 26 #[.int .u32 (w : Int), .int .i64 11, .int .i64 8] W fun e w' => e = .returned (.int .i64 (((fld w 8 4 : Nat) : Int))) ∧ Fr (fun _ => False) W w' from F_fr w 11 8 4 hw (by decide) (by decide) rfl)
  have HS1 := Lib.hid (show ∀ W, Calls Try.prog 27 #[.int .i64 (((((fld w 31 1 : Nat) : Int) * 2 + ((fld w 7 1 : Nat) : Int)) * 64 + ((fld w 25 6 : Nat) : Int)) * 16 + ((fld w 8 4 : Nat) : Int)), .int .i64 12] W fun e w' => e = .returned (.int .i64 (sg (((fld w 31 1 * 2 + fld w 7 1) * 64 + fld w 25 6) * 16 + fld w 8 4) 12)) ∧ Fr (fun _ => False) W w' from S_fr (((fld w 31 1 * 2 + fld w 7 1) * 64 + fld w 25 6) * 16 + fld w 8 4) 12 (by decide) (by decide) (by skip; omega))
  have bn := sgb (((fld w 31 1 * 2 + fld w 7 1) * 64 + fld w 25 6) * 16 + fld w 8 4) 12 (by decide) (by show _ < 4096; omega)
  clear hP hK ck
  generalize oneP [5, 6, 0, 0, 7, 8, 9, 10] (fld w 12 3) = p at *
  generalize sg (((fld w 31 1 * 2 + fld w 7 1) * 64 + fld w 25 6) * 16 + fld w 8 4) 12 = n at *
  generalize fld w 12 3 = f3 at *
  generalize fld w 31 1 = j1 at *
  generalize fld w 7 1 = j2 at *
  generalize fld w 25 6 = j3 at *
  generalize fld w 8 4 = j4 at *
  generalize fld w 7 5 = rd at *
  generalize fld w 15 5 = r1 at *
  generalize fld w 20 5 = r2 at *
  have t0 : (p == 0) = false := beq_eq_false_iff_ne.2 c
  clear c
  go_enter Try.func10, Try.ntmps10
  go_wp2_with fail
  have HS := Lib.hid (DS.start W)
  generalize (W.alloc (.cells #[.int .i64 0, .int .i64 0, .int .i64 0, .int .i64 0, .int .i64 0, .int .i64 0, .int .i64 0] 24)).alloc (.cells #[.int .i64 0, .int .i64 0, .int .i64 0, .int .i64 0, .int .i64 0, .int .i64 0, .int .i64 4] 24) = wz at *
  refine (H117.out _).mono ?_
  rintro e v1 ⟨rfl, hf⟩
  have HS := Lib.hid (HS.out.fr hf)
  clear hf
  go_wp2_with fail
  refine (H1412.out _).mono ?_
  rintro e v2 ⟨rfl, hf⟩
  have HS := Lib.hid (HS.out.fr hf)
  clear hf
  go_wp2_with fail
  refine (H1915.out _).mono ?_
  rintro e v3 ⟨rfl, hf⟩
  have HS := Lib.hid (HS.out.fr hf)
  clear hf
  go_wp2_with fail
  refine (H2420.out _).mono ?_
  rintro e v4 ⟨rfl, hf⟩
  have HS := Lib.hid (HS.out.fr hf)
  clear hf
  go_wp2_with fail
  refine (H3125.out _).mono ?_
  rintro e v5 ⟨rfl, hf⟩
  have HS := Lib.hid (HS.out.fr hf)
  clear hf
  go_wp2_with fail
  refine (H3120.out _).mono ?_
  rintro e v6 ⟨rfl, hf⟩
  have HS := Lib.hid (HS.out.fr hf)
  clear hf
  go_wp2_with fail
  refine (HSI.out _).mono ?_
  rintro e v7 ⟨rfl, hf⟩
  have HS := Lib.hid (HS.out.fr hf)
  clear hf
  go_wp2_with fail
  refine (H60.out _).mono ?_
  rintro e v8 ⟨rfl, hf⟩
  have HS := Lib.hid (HS.out.fr hf)
  clear hf
  go_wp2_with fail
  refine (HO.out _ _ (Blk.new _ _ _)).mono ?_
  rintro e v9 ⟨rfl, hf⟩
  have HS := Lib.hid ((HS.out.al (.cells #[.int .i64 5, .int .i64 6, .int .i64 0, .int .i64 0, .int .i64 7, .int .i64 8, .int .i64 9, .int .i64 10] 3)).fr hf)
  clear hf
  obtain ⟨kb0, kb1, kb2, kb3, kb4, kb5, kb6, fb0, fb1, fb2, fb3, fb4, fb5, fb6⟩ := blkat7 HS.out.b
  go_upto_region 30 with (fail)
  have HS' := Lib.hid (HS.out.s0 (p))
  clear kb0 fb0 kb1 fb1 kb2 fb2 kb3 fb3 kb4 fb4 kb5 fb5 kb6 fb6
  clear HS
  generalize v9.setCell ⟨W.heap.size + 1, 0, none⟩ (.int .i64 (p)) = v10 at *
  have HS := HS'
  clear HS'
  obtain ⟨kb0, kb1, kb2, kb3, kb4, kb5, kb6, fb0, fb1, fb2, fb3, fb4, fb5, fb6⟩ := blkat7 HS.out.b
  go_upto_region 31 with (fail)
  have HS' := Lib.hid (HS.out.s2 ((r1 : Int)))
  clear kb0 fb0 kb1 fb1 kb2 fb2 kb3 fb3 kb4 fb4 kb5 fb5 kb6 fb6
  clear HS
  generalize v10.setCell ⟨W.heap.size + 1, 2, none⟩ (.int .i64 ((r1 : Int))) = v11 at *
  have HS := HS'
  clear HS'
  obtain ⟨kb0, kb1, kb2, kb3, kb4, kb5, kb6, fb0, fb1, fb2, fb3, fb4, fb5, fb6⟩ := blkat7 HS.out.b
  go_upto_region 32 with (fail)
  have HS' := Lib.hid (HS.out.s3 ((r2 : Int)))
  clear kb0 fb0 kb1 fb1 kb2 fb2 kb3 fb3 kb4 fb4 kb5 fb5 kb6 fb6
  clear HS
  generalize v11.setCell ⟨W.heap.size + 1, 3, none⟩ (.int .i64 ((r2 : Int))) = v12 at *
  have HS := HS'
  clear HS'
  go_wp2_with fail
  refine (HF1.out _).mono ?_
  rintro e v13 ⟨rfl, hf⟩
  have HS := Lib.hid (HS.out.fr hf)
  clear hf
  go_wp2_with fail
  refine (HF2.out _).mono ?_
  rintro e v14 ⟨rfl, hf⟩
  have HS := Lib.hid (HS.out.fr hf)
  clear hf
  go_wp2_with fail
  refine (HF3.out _).mono ?_
  rintro e v15 ⟨rfl, hf⟩
  have HS := Lib.hid (HS.out.fr hf)
  clear hf
  go_wp2_with fail
  refine (HF4.out _).mono ?_
  rintro e v16 ⟨rfl, hf⟩
  have HS := Lib.hid (HS.out.fr hf)
  clear hf
  go_wp2_with fail
  refine (HS1.out _).mono ?_
  rintro e v17 ⟨rfl, hf⟩
  have HS := Lib.hid (HS.out.fr hf)
  clear hf
  obtain ⟨kb0, kb1, kb2, kb3, kb4, kb5, kb6, fb0, fb1, fb2, fb3, fb4, fb5, fb6⟩ := blkat7 HS.out.b
  go_upto_region 79 with (fail)
  have HS' := Lib.hid (HS.out.s4 (n * 2))
  clear kb0 fb0 kb1 fb1 kb2 fb2 kb3 fb3 kb4 fb4 kb5 fb5 kb6 fb6
  clear HS
  generalize v17.setCell ⟨W.heap.size + 1, 4, none⟩ (.int .i64 (n * 2)) = v18 at *
  have HS := HS'
  clear HS'
  obtain ⟨ka0, ka1, ka2, ka3, ka4, ka5, ka6, fa0, fa1, fa2, fa3, fa4, fa5, fa6⟩ := blkat7 HS.out.a
  obtain ⟨kb0, kb1, kb2, kb3, kb4, kb5, kb6, fb0, fb1, fb2, fb3, fb4, fb5, fb6⟩ := blkat7 HS.out.b
  go_wp2_with fail
  refine bodyPost_ret (results_ct rfl _ _ W.heap.size 24 #[.int .i64 (p), .int .i64 (0), .int .i64 ((r1 : Int)), .int .i64 ((r2 : Int)), .int .i64 (n * 2), .int .i64 (0), .int .i64 (4)] (0, 0) _ rfl ?_ Try.underlying24 rfl (by kernel_rfl)) rfl ?_
  · exact blk7 HS.out.a _ _ _ _ _ _ _
  · exact ⟨rfl, by (repeat (first | (with_reducible exact HS.out.f) | (with_reducible refine Fr.setCell ?_ (Or.inr (by simp)) _)))⟩
set_option maxRecDepth 100000 in
set_option maxHeartbeats 4000000 in
theorem rdec_branchn (w : Nat) (hw : w < 4294967296) (W : World) (ck : fld w 0 7 = 99) (c :  oneP [5, 6, 0, 0, 7, 8, 9, 10] (fld w 12 3) = 0) : Calls Try.prog 10 #[.int .u32 (w : Int)] W fun e w' => e = .returned (.tuple #[i7 (rdecP w).1, .bool (rdecP w).2]) ∧ Fr (fun _ => False) W w' := by
  have hK : rkindP w = (oneP [5, 6, 0, 0, 7, 8, 9, 10] (fld w 12 3), 0, ((fld w 15 5 : Nat) : Int), ((fld w 20 5 : Nat) : Int), sg (((fld w 31 1 * 2 + fld w 7 1) * 64 + fld w 25 6) * 16 + fld w 8 4) 12 * 2, 0, 4) := by unfold rkindP; rw [if_neg (by omega), if_neg (by omega), if_neg (by omega), if_neg (by omega), if_neg (by omega), if_pos ck]
  have hP : rdecP w = (i0, false) := rdec_no (by rw [hK]; exact c)
  rw [hP]
  have H117 := insU_sq0 w hw
  have H1412 := insU_sq1 w hw
  have H1915 := insU_sq2 w hw
  have H2420 := insU_sq3 w hw
  have H3125 := insU_sq4 w hw
  have H3120 := insU_sq5 w hw
  have HSI := Lib.hid (show ∀ W, Calls Try.prog 27 #[.int .i64 ((fld w 20 12 : Nat) : Int), .int .i64 12] W fun e w' => e = .returned (.int .i64 (iP w)) ∧ Fr (fun _ => False) W w' from S_fr (fld w 20 12) 12 (by decide) (by decide) (by have := fld_lt w 20 12; omega))
  have H60 := Lib.hid (show ∀ W, Calls Try.prog 26 #[.int .u32 (w : Int), .int .i64 6, .int .i64 0] W fun e w' => e = .returned (.int .i64 (99)) ∧ Fr (fun _ => False) W w' from fun W => by have g := F_fr w 6 0 7 hw (by decide) (by decide) rfl W; rw [ck] at g; exact g)
  have b1 : fld w 31 1 < 2 := fld_lt w 31 1
  have b2 : fld w 7 1 < 2 := fld_lt w 7 1
  have b3 : fld w 25 6 < 64 := fld_lt w 25 6
  have b4 : fld w 8 4 < 16 := fld_lt w 8 4
  have HO := Lib.hid (show ∀ g W, Blk W g 3 #[.int .i64 5, .int .i64 6, .int .i64 0, .int .i64 0, .int .i64 7, .int .i64 8, .int .i64 9, .int .i64 10] → Calls Try.prog 28 #[.slice (some ⟨g, 0, none⟩) 8 8, .int .i64 ((fld w 12 3 : Nat) : Int)] W fun e w' => e = .returned (.int .i64 (oneP [5, 6, 0, 0, 7, 8, 9, 10] (fld w 12 3))) ∧ Fr (fun _ => False) W w' from fun g W hb => one_fr [5, 6, 0, 0, 7, 8, 9, 10] (by decide) (fld w 12 3) g 8 (by decide) 3 W hb)
  have HF1 := insU_sq6 w hw
  have HF2 := Lib.hid (show ∀ W, Calls Try.prog 26 #[.int .u32 (w : Int), .int .i64 7, .int .i64 7] W fun e w' => e = .returned (.int .i64 (((fld w 7 1 : Nat) : Int))) ∧ Fr (fun _ => False) W w' from F_fr w 7 7 1 hw (by decide) (by decide) rfl)
  have HF3 := Lib.hid (show ∀ W, Calls Try.prog 26 #[.int .u32 (w : Int), .int .i64 30, .int .i64 25] W fun e w' => e = .returned (.int .i64 (((fld w 25 6 : Nat) : Int))) ∧ Fr (fun _ => False) W w' from F_fr w 30 25 6 hw (by decide) (by decide) rfl)
  have HF4 := Lib.hid (show ∀ W, Calls Try.prog 26 #[.int .u32 (w : Int), .int .i64 11, .int .i64 8] W fun e w' => e = .returned (.int .i64 (((fld w 8 4 : Nat) : Int))) ∧ Fr (fun _ => False) W w' from F_fr w 11 8 4 hw (by decide) (by decide) rfl)
  have HS1 := Lib.hid (show ∀ W, Calls Try.prog 27 #[.int .i64 (((((fld w 31 1 : Nat) : Int) * 2 + ((fld w 7 1 : Nat) : Int)) * 64 + ((fld w 25 6 : Nat) : Int)) * 16 + ((fld w 8 4 : Nat) : Int)), .int .i64 12] W fun e w' => e = .returned (.int .i64 (sg (((fld w 31 1 * 2 + fld w 7 1) * 64 + fld w 25 6) * 16 + fld w 8 4) 12)) ∧ Fr (fun _ => False) W w' from S_fr (((fld w 31 1 * 2 + fld w 7 1) * 64 + fld w 25 6) * 16 + fld w 8 4) 12 (by decide) (by decide) (by skip; omega))
  have bn := sgb (((fld w 31 1 * 2 + fld w 7 1) * 64 + fld w 25 6) * 16 + fld w 8 4) 12 (by decide) (by show _ < 4096; omega)
  clear hP hK ck
  generalize oneP [5, 6, 0, 0, 7, 8, 9, 10] (fld w 12 3) = p at *
  generalize sg (((fld w 31 1 * 2 + fld w 7 1) * 64 + fld w 25 6) * 16 + fld w 8 4) 12 = n at *
  generalize fld w 12 3 = f3 at *
  generalize fld w 31 1 = j1 at *
  generalize fld w 7 1 = j2 at *
  generalize fld w 25 6 = j3 at *
  generalize fld w 8 4 = j4 at *
  generalize fld w 7 5 = rd at *
  generalize fld w 15 5 = r1 at *
  generalize fld w 20 5 = r2 at *
  have t0 : (p == 0) = true := beq_iff_eq.2 c
  clear c
  go_enter Try.func10, Try.ntmps10
  go_wp2_with fail
  have HS := Lib.hid (DS.start W)
  generalize (W.alloc (.cells #[.int .i64 0, .int .i64 0, .int .i64 0, .int .i64 0, .int .i64 0, .int .i64 0, .int .i64 0] 24)).alloc (.cells #[.int .i64 0, .int .i64 0, .int .i64 0, .int .i64 0, .int .i64 0, .int .i64 0, .int .i64 4] 24) = wz at *
  refine (H117.out _).mono ?_
  rintro e v1 ⟨rfl, hf⟩
  have HS := Lib.hid (HS.out.fr hf)
  clear hf
  go_wp2_with fail
  refine (H1412.out _).mono ?_
  rintro e v2 ⟨rfl, hf⟩
  have HS := Lib.hid (HS.out.fr hf)
  clear hf
  go_wp2_with fail
  refine (H1915.out _).mono ?_
  rintro e v3 ⟨rfl, hf⟩
  have HS := Lib.hid (HS.out.fr hf)
  clear hf
  go_wp2_with fail
  refine (H2420.out _).mono ?_
  rintro e v4 ⟨rfl, hf⟩
  have HS := Lib.hid (HS.out.fr hf)
  clear hf
  go_wp2_with fail
  refine (H3125.out _).mono ?_
  rintro e v5 ⟨rfl, hf⟩
  have HS := Lib.hid (HS.out.fr hf)
  clear hf
  go_wp2_with fail
  refine (H3120.out _).mono ?_
  rintro e v6 ⟨rfl, hf⟩
  have HS := Lib.hid (HS.out.fr hf)
  clear hf
  go_wp2_with fail
  refine (HSI.out _).mono ?_
  rintro e v7 ⟨rfl, hf⟩
  have HS := Lib.hid (HS.out.fr hf)
  clear hf
  go_wp2_with fail
  refine (H60.out _).mono ?_
  rintro e v8 ⟨rfl, hf⟩
  have HS := Lib.hid (HS.out.fr hf)
  clear hf
  go_wp2_with fail
  refine (HO.out _ _ (Blk.new _ _ _)).mono ?_
  rintro e v9 ⟨rfl, hf⟩
  have HS := Lib.hid ((HS.out.al (.cells #[.int .i64 5, .int .i64 6, .int .i64 0, .int .i64 0, .int .i64 7, .int .i64 8, .int .i64 9, .int .i64 10] 3)).fr hf)
  clear hf
  obtain ⟨kb0, kb1, kb2, kb3, kb4, kb5, kb6, fb0, fb1, fb2, fb3, fb4, fb5, fb6⟩ := blkat7 HS.out.b
  go_upto_region 30 with (fail)
  have HS' := Lib.hid (HS.out.s0 (p))
  clear kb0 fb0 kb1 fb1 kb2 fb2 kb3 fb3 kb4 fb4 kb5 fb5 kb6 fb6
  clear HS
  generalize v9.setCell ⟨W.heap.size + 1, 0, none⟩ (.int .i64 (p)) = v10 at *
  have HS := HS'
  clear HS'
  obtain ⟨kb0, kb1, kb2, kb3, kb4, kb5, kb6, fb0, fb1, fb2, fb3, fb4, fb5, fb6⟩ := blkat7 HS.out.b
  go_upto_region 31 with (fail)
  have HS' := Lib.hid (HS.out.s2 ((r1 : Int)))
  clear kb0 fb0 kb1 fb1 kb2 fb2 kb3 fb3 kb4 fb4 kb5 fb5 kb6 fb6
  clear HS
  generalize v10.setCell ⟨W.heap.size + 1, 2, none⟩ (.int .i64 ((r1 : Int))) = v11 at *
  have HS := HS'
  clear HS'
  obtain ⟨kb0, kb1, kb2, kb3, kb4, kb5, kb6, fb0, fb1, fb2, fb3, fb4, fb5, fb6⟩ := blkat7 HS.out.b
  go_upto_region 32 with (fail)
  have HS' := Lib.hid (HS.out.s3 ((r2 : Int)))
  clear kb0 fb0 kb1 fb1 kb2 fb2 kb3 fb3 kb4 fb4 kb5 fb5 kb6 fb6
  clear HS
  generalize v11.setCell ⟨W.heap.size + 1, 3, none⟩ (.int .i64 ((r2 : Int))) = v12 at *
  have HS := HS'
  clear HS'
  go_wp2_with fail
  refine (HF1.out _).mono ?_
  rintro e v13 ⟨rfl, hf⟩
  have HS := Lib.hid (HS.out.fr hf)
  clear hf
  go_wp2_with fail
  refine (HF2.out _).mono ?_
  rintro e v14 ⟨rfl, hf⟩
  have HS := Lib.hid (HS.out.fr hf)
  clear hf
  go_wp2_with fail
  refine (HF3.out _).mono ?_
  rintro e v15 ⟨rfl, hf⟩
  have HS := Lib.hid (HS.out.fr hf)
  clear hf
  go_wp2_with fail
  refine (HF4.out _).mono ?_
  rintro e v16 ⟨rfl, hf⟩
  have HS := Lib.hid (HS.out.fr hf)
  clear hf
  go_wp2_with fail
  refine (HS1.out _).mono ?_
  rintro e v17 ⟨rfl, hf⟩
  have HS := Lib.hid (HS.out.fr hf)
  clear hf
  obtain ⟨kb0, kb1, kb2, kb3, kb4, kb5, kb6, fb0, fb1, fb2, fb3, fb4, fb5, fb6⟩ := blkat7 HS.out.b
  go_upto_region 79 with (fail)
  have HS' := Lib.hid (HS.out.s4 (n * 2))
  clear kb0 fb0 kb1 fb1 kb2 fb2 kb3 fb3 kb4 fb4 kb5 fb5 kb6 fb6
  clear HS
  generalize v17.setCell ⟨W.heap.size + 1, 4, none⟩ (.int .i64 (n * 2)) = v18 at *
  have HS := HS'
  clear HS'
  obtain ⟨ka0, ka1, ka2, ka3, ka4, ka5, ka6, fa0, fa1, fa2, fa3, fa4, fa5, fa6⟩ := blkat7 HS.out.a
  obtain ⟨kb0, kb1, kb2, kb3, kb4, kb5, kb6, fb0, fb1, fb2, fb3, fb4, fb5, fb6⟩ := blkat7 HS.out.b
  go_wp2_with fail
  refine bodyPost_ret (results_ct rfl _ _ W.heap.size 24 #[.int .i64 (0), .int .i64 (0), .int .i64 (0), .int .i64 (0), .int .i64 (0), .int .i64 (0), .int .i64 (0)] (0, 0) _ rfl ?_ Try.underlying24 rfl (by kernel_rfl)) rfl ?_
  · exact blk7 HS.out.a _ _ _ _ _ _ _
  · exact ⟨rfl, by (repeat (first | (with_reducible exact HS.out.f) | (with_reducible refine Fr.setCell ?_ (Or.inr (by simp)) _)))⟩
set_option maxRecDepth 100000 in
set_option maxHeartbeats 4000000 in
theorem rdec_store (w : Nat) (hw : w < 4294967296) (W : World) (ck : fld w 0 7 = 35) (c : ¬ oneP [18, 19, 20, 21] (fld w 12 3) = 0) : Calls Try.prog 10 #[.int .u32 (w : Int)] W fun e w' => e = .returned (.tuple #[i7 (rdecP w).1, .bool (rdecP w).2]) ∧ Fr (fun _ => False) W w' := by
  have hK : rkindP w = (oneP [18, 19, 20, 21] (fld w 12 3), 0, ((fld w 15 5 : Nat) : Int), ((fld w 20 5 : Nat) : Int), sg (fld w 25 7 * 32 + fld w 7 5) 12, 0, 4) := by unfold rkindP; rw [if_neg (by omega), if_neg (by omega), if_neg (by omega), if_neg (by omega), if_neg (by omega), if_neg (by omega), if_pos ck]
  have hP : rdecP w = ((oneP [18, 19, 20, 21] (fld w 12 3), 0, ((fld w 15 5 : Nat) : Int), ((fld w 20 5 : Nat) : Int), sg (fld w 25 7 * 32 + fld w 7 5) 12, 0, 4), true) := by rw [rdec_yes (by rw [hK]; exact c), hK]
  rw [hP]
  have H117 := insU_sq0 w hw
  have H1412 := insU_sq1 w hw
  have H1915 := insU_sq2 w hw
  have H2420 := insU_sq3 w hw
  have H3125 := insU_sq4 w hw
  have H3120 := insU_sq5 w hw
  have HSI := Lib.hid (show ∀ W, Calls Try.prog 27 #[.int .i64 ((fld w 20 12 : Nat) : Int), .int .i64 12] W fun e w' => e = .returned (.int .i64 (iP w)) ∧ Fr (fun _ => False) W w' from S_fr (fld w 20 12) 12 (by decide) (by decide) (by have := fld_lt w 20 12; omega))
  have H60 := Lib.hid (show ∀ W, Calls Try.prog 26 #[.int .u32 (w : Int), .int .i64 6, .int .i64 0] W fun e w' => e = .returned (.int .i64 (35)) ∧ Fr (fun _ => False) W w' from fun W => by have g := F_fr w 6 0 7 hw (by decide) (by decide) rfl W; rw [ck] at g; exact g)
  have b1 : fld w 25 7 < 128 := fld_lt w 25 7
  have b2 : fld w 7 5 < 32 := fld_lt w 7 5
  have HO := Lib.hid (show ∀ g W, Blk W g 3 #[.int .i64 18, .int .i64 19, .int .i64 20, .int .i64 21] → Calls Try.prog 28 #[.slice (some ⟨g, 0, none⟩) 4 4, .int .i64 ((fld w 12 3 : Nat) : Int)] W fun e w' => e = .returned (.int .i64 (oneP [18, 19, 20, 21] (fld w 12 3))) ∧ Fr (fun _ => False) W w' from fun g W hb => one_fr [18, 19, 20, 21] (by decide) (fld w 12 3) g 4 (by decide) 3 W hb)
  have HS1 := Lib.hid (show ∀ W, Calls Try.prog 27 #[.int .i64 (((fld w 25 7 : Nat) : Int) * 32 + ((fld w 7 5 : Nat) : Int)), .int .i64 12] W fun e w' => e = .returned (.int .i64 (sg (fld w 25 7 * 32 + fld w 7 5) 12)) ∧ Fr (fun _ => False) W w' from S_fr (fld w 25 7 * 32 + fld w 7 5) 12 (by decide) (by decide) (by skip; omega))
  clear hP hK ck
  generalize oneP [18, 19, 20, 21] (fld w 12 3) = p at *
  generalize sg (fld w 25 7 * 32 + fld w 7 5) 12 = n at *
  generalize fld w 12 3 = f3 at *
  generalize fld w 25 7 = s7 at *
  generalize fld w 7 5 = rd at *
  generalize fld w 15 5 = r1 at *
  generalize fld w 20 5 = r2 at *
  have t0 : (p == 0) = false := beq_eq_false_iff_ne.2 c
  clear c
  go_enter Try.func10, Try.ntmps10
  go_wp2_with fail
  have HS := Lib.hid (DS.start W)
  generalize (W.alloc (.cells #[.int .i64 0, .int .i64 0, .int .i64 0, .int .i64 0, .int .i64 0, .int .i64 0, .int .i64 0] 24)).alloc (.cells #[.int .i64 0, .int .i64 0, .int .i64 0, .int .i64 0, .int .i64 0, .int .i64 0, .int .i64 4] 24) = wz at *
  refine (H117.out _).mono ?_
  rintro e v1 ⟨rfl, hf⟩
  have HS := Lib.hid (HS.out.fr hf)
  clear hf
  go_wp2_with fail
  refine (H1412.out _).mono ?_
  rintro e v2 ⟨rfl, hf⟩
  have HS := Lib.hid (HS.out.fr hf)
  clear hf
  go_wp2_with fail
  refine (H1915.out _).mono ?_
  rintro e v3 ⟨rfl, hf⟩
  have HS := Lib.hid (HS.out.fr hf)
  clear hf
  go_wp2_with fail
  refine (H2420.out _).mono ?_
  rintro e v4 ⟨rfl, hf⟩
  have HS := Lib.hid (HS.out.fr hf)
  clear hf
  go_wp2_with fail
  refine (H3125.out _).mono ?_
  rintro e v5 ⟨rfl, hf⟩
  have HS := Lib.hid (HS.out.fr hf)
  clear hf
  go_wp2_with fail
  refine (H3120.out _).mono ?_
  rintro e v6 ⟨rfl, hf⟩
  have HS := Lib.hid (HS.out.fr hf)
  clear hf
  go_wp2_with fail
  refine (HSI.out _).mono ?_
  rintro e v7 ⟨rfl, hf⟩
  have HS := Lib.hid (HS.out.fr hf)
  clear hf
  go_wp2_with fail
  refine (H60.out _).mono ?_
  rintro e v8 ⟨rfl, hf⟩
  have HS := Lib.hid (HS.out.fr hf)
  clear hf
  go_wp2_with fail
  refine (HO.out _ _ (Blk.new _ _ _)).mono ?_
  rintro e v9 ⟨rfl, hf⟩
  have HS := Lib.hid ((HS.out.al (.cells #[.int .i64 18, .int .i64 19, .int .i64 20, .int .i64 21] 3)).fr hf)
  clear hf
  obtain ⟨kb0, kb1, kb2, kb3, kb4, kb5, kb6, fb0, fb1, fb2, fb3, fb4, fb5, fb6⟩ := blkat7 HS.out.b
  go_upto_region 35 with (fail)
  have HS' := Lib.hid (HS.out.s0 (p))
  clear kb0 fb0 kb1 fb1 kb2 fb2 kb3 fb3 kb4 fb4 kb5 fb5 kb6 fb6
  clear HS
  generalize v9.setCell ⟨W.heap.size + 1, 0, none⟩ (.int .i64 (p)) = v10 at *
  have HS := HS'
  clear HS'
  obtain ⟨kb0, kb1, kb2, kb3, kb4, kb5, kb6, fb0, fb1, fb2, fb3, fb4, fb5, fb6⟩ := blkat7 HS.out.b
  go_upto_region 36 with (fail)
  have HS' := Lib.hid (HS.out.s2 ((r1 : Int)))
  clear kb0 fb0 kb1 fb1 kb2 fb2 kb3 fb3 kb4 fb4 kb5 fb5 kb6 fb6
  clear HS
  generalize v10.setCell ⟨W.heap.size + 1, 2, none⟩ (.int .i64 ((r1 : Int))) = v11 at *
  have HS := HS'
  clear HS'
  obtain ⟨kb0, kb1, kb2, kb3, kb4, kb5, kb6, fb0, fb1, fb2, fb3, fb4, fb5, fb6⟩ := blkat7 HS.out.b
  go_upto_region 37 with (fail)
  have HS' := Lib.hid (HS.out.s3 ((r2 : Int)))
  clear kb0 fb0 kb1 fb1 kb2 fb2 kb3 fb3 kb4 fb4 kb5 fb5 kb6 fb6
  clear HS
  generalize v11.setCell ⟨W.heap.size + 1, 3, none⟩ (.int .i64 ((r2 : Int))) = v12 at *
  have HS := HS'
  clear HS'
  go_wp2_with fail
  refine (H3125.out _).mono ?_
  rintro e v13 ⟨rfl, hf⟩
  have HS := Lib.hid (HS.out.fr hf)
  clear hf
  go_wp2_with fail
  refine (H117.out _).mono ?_
  rintro e v14 ⟨rfl, hf⟩
  have HS := Lib.hid (HS.out.fr hf)
  clear hf
  go_wp2_with fail
  refine (HS1.out _).mono ?_
  rintro e v15 ⟨rfl, hf⟩
  have HS := Lib.hid (HS.out.fr hf)
  clear hf
  obtain ⟨kb0, kb1, kb2, kb3, kb4, kb5, kb6, fb0, fb1, fb2, fb3, fb4, fb5, fb6⟩ := blkat7 HS.out.b
  go_upto_region 79 with (fail)
  have HS' := Lib.hid (HS.out.s4 (n))
  clear kb0 fb0 kb1 fb1 kb2 fb2 kb3 fb3 kb4 fb4 kb5 fb5 kb6 fb6
  clear HS
  generalize v15.setCell ⟨W.heap.size + 1, 4, none⟩ (.int .i64 (n)) = v16 at *
  have HS := HS'
  clear HS'
  obtain ⟨ka0, ka1, ka2, ka3, ka4, ka5, ka6, fa0, fa1, fa2, fa3, fa4, fa5, fa6⟩ := blkat7 HS.out.a
  obtain ⟨kb0, kb1, kb2, kb3, kb4, kb5, kb6, fb0, fb1, fb2, fb3, fb4, fb5, fb6⟩ := blkat7 HS.out.b
  go_wp2_with fail
  refine bodyPost_ret (results_ct rfl _ _ W.heap.size 24 #[.int .i64 (p), .int .i64 (0), .int .i64 ((r1 : Int)), .int .i64 ((r2 : Int)), .int .i64 (n), .int .i64 (0), .int .i64 (4)] (0, 0) _ rfl ?_ Try.underlying24 rfl (by kernel_rfl)) rfl ?_
  · exact blk7 HS.out.a _ _ _ _ _ _ _
  · exact ⟨rfl, by (repeat (first | (with_reducible exact HS.out.f) | (with_reducible refine Fr.setCell ?_ (Or.inr (by simp)) _)))⟩
set_option maxRecDepth 100000 in
set_option maxHeartbeats 4000000 in
theorem rdec_storen (w : Nat) (hw : w < 4294967296) (W : World) (ck : fld w 0 7 = 35) (c :  oneP [18, 19, 20, 21] (fld w 12 3) = 0) : Calls Try.prog 10 #[.int .u32 (w : Int)] W fun e w' => e = .returned (.tuple #[i7 (rdecP w).1, .bool (rdecP w).2]) ∧ Fr (fun _ => False) W w' := by
  have hK : rkindP w = (oneP [18, 19, 20, 21] (fld w 12 3), 0, ((fld w 15 5 : Nat) : Int), ((fld w 20 5 : Nat) : Int), sg (fld w 25 7 * 32 + fld w 7 5) 12, 0, 4) := by unfold rkindP; rw [if_neg (by omega), if_neg (by omega), if_neg (by omega), if_neg (by omega), if_neg (by omega), if_neg (by omega), if_pos ck]
  have hP : rdecP w = (i0, false) := rdec_no (by rw [hK]; exact c)
  rw [hP]
  have H117 := insU_sq0 w hw
  have H1412 := insU_sq1 w hw
  have H1915 := insU_sq2 w hw
  have H2420 := insU_sq3 w hw
  have H3125 := insU_sq4 w hw
  have H3120 := insU_sq5 w hw
  have HSI := Lib.hid (show ∀ W, Calls Try.prog 27 #[.int .i64 ((fld w 20 12 : Nat) : Int), .int .i64 12] W fun e w' => e = .returned (.int .i64 (iP w)) ∧ Fr (fun _ => False) W w' from S_fr (fld w 20 12) 12 (by decide) (by decide) (by have := fld_lt w 20 12; omega))
  have H60 := Lib.hid (show ∀ W, Calls Try.prog 26 #[.int .u32 (w : Int), .int .i64 6, .int .i64 0] W fun e w' => e = .returned (.int .i64 (35)) ∧ Fr (fun _ => False) W w' from fun W => by have g := F_fr w 6 0 7 hw (by decide) (by decide) rfl W; rw [ck] at g; exact g)
  have b1 : fld w 25 7 < 128 := fld_lt w 25 7
  have b2 : fld w 7 5 < 32 := fld_lt w 7 5
  have HO := Lib.hid (show ∀ g W, Blk W g 3 #[.int .i64 18, .int .i64 19, .int .i64 20, .int .i64 21] → Calls Try.prog 28 #[.slice (some ⟨g, 0, none⟩) 4 4, .int .i64 ((fld w 12 3 : Nat) : Int)] W fun e w' => e = .returned (.int .i64 (oneP [18, 19, 20, 21] (fld w 12 3))) ∧ Fr (fun _ => False) W w' from fun g W hb => one_fr [18, 19, 20, 21] (by decide) (fld w 12 3) g 4 (by decide) 3 W hb)
  have HS1 := Lib.hid (show ∀ W, Calls Try.prog 27 #[.int .i64 (((fld w 25 7 : Nat) : Int) * 32 + ((fld w 7 5 : Nat) : Int)), .int .i64 12] W fun e w' => e = .returned (.int .i64 (sg (fld w 25 7 * 32 + fld w 7 5) 12)) ∧ Fr (fun _ => False) W w' from S_fr (fld w 25 7 * 32 + fld w 7 5) 12 (by decide) (by decide) (by skip; omega))
  clear hP hK ck
  generalize oneP [18, 19, 20, 21] (fld w 12 3) = p at *
  generalize sg (fld w 25 7 * 32 + fld w 7 5) 12 = n at *
  generalize fld w 12 3 = f3 at *
  generalize fld w 25 7 = s7 at *
  generalize fld w 7 5 = rd at *
  generalize fld w 15 5 = r1 at *
  generalize fld w 20 5 = r2 at *
  have t0 : (p == 0) = true := beq_iff_eq.2 c
  clear c
  go_enter Try.func10, Try.ntmps10
  go_wp2_with fail
  have HS := Lib.hid (DS.start W)
  generalize (W.alloc (.cells #[.int .i64 0, .int .i64 0, .int .i64 0, .int .i64 0, .int .i64 0, .int .i64 0, .int .i64 0] 24)).alloc (.cells #[.int .i64 0, .int .i64 0, .int .i64 0, .int .i64 0, .int .i64 0, .int .i64 0, .int .i64 4] 24) = wz at *
  refine (H117.out _).mono ?_
  rintro e v1 ⟨rfl, hf⟩
  have HS := Lib.hid (HS.out.fr hf)
  clear hf
  go_wp2_with fail
  refine (H1412.out _).mono ?_
  rintro e v2 ⟨rfl, hf⟩
  have HS := Lib.hid (HS.out.fr hf)
  clear hf
  go_wp2_with fail
  refine (H1915.out _).mono ?_
  rintro e v3 ⟨rfl, hf⟩
  have HS := Lib.hid (HS.out.fr hf)
  clear hf
  go_wp2_with fail
  refine (H2420.out _).mono ?_
  rintro e v4 ⟨rfl, hf⟩
  have HS := Lib.hid (HS.out.fr hf)
  clear hf
  go_wp2_with fail
  refine (H3125.out _).mono ?_
  rintro e v5 ⟨rfl, hf⟩
  have HS := Lib.hid (HS.out.fr hf)
  clear hf
  go_wp2_with fail
  refine (H3120.out _).mono ?_
  rintro e v6 ⟨rfl, hf⟩
  have HS := Lib.hid (HS.out.fr hf)
  clear hf
  go_wp2_with fail
  refine (HSI.out _).mono ?_
  rintro e v7 ⟨rfl, hf⟩
  have HS := Lib.hid (HS.out.fr hf)
  clear hf
  go_wp2_with fail
  refine (H60.out _).mono ?_
  rintro e v8 ⟨rfl, hf⟩
  have HS := Lib.hid (HS.out.fr hf)
  clear hf
  go_wp2_with fail
  refine (HO.out _ _ (Blk.new _ _ _)).mono ?_
  rintro e v9 ⟨rfl, hf⟩
  have HS := Lib.hid ((HS.out.al (.cells #[.int .i64 18, .int .i64 19, .int .i64 20, .int .i64 21] 3)).fr hf)
  clear hf
  obtain ⟨kb0, kb1, kb2, kb3, kb4, kb5, kb6, fb0, fb1, fb2, fb3, fb4, fb5, fb6⟩ := blkat7 HS.out.b
  go_upto_region 35 with (fail)
  have HS' := Lib.hid (HS.out.s0 (p))
  clear kb0 fb0 kb1 fb1 kb2 fb2 kb3 fb3 kb4 fb4 kb5 fb5 kb6 fb6
  clear HS
  generalize v9.setCell ⟨W.heap.size + 1, 0, none⟩ (.int .i64 (p)) = v10 at *
  have HS := HS'
  clear HS'
  obtain ⟨kb0, kb1, kb2, kb3, kb4, kb5, kb6, fb0, fb1, fb2, fb3, fb4, fb5, fb6⟩ := blkat7 HS.out.b
  go_upto_region 36 with (fail)
  have HS' := Lib.hid (HS.out.s2 ((r1 : Int)))
  clear kb0 fb0 kb1 fb1 kb2 fb2 kb3 fb3 kb4 fb4 kb5 fb5 kb6 fb6
  clear HS
  generalize v10.setCell ⟨W.heap.size + 1, 2, none⟩ (.int .i64 ((r1 : Int))) = v11 at *
  have HS := HS'
  clear HS'
  obtain ⟨kb0, kb1, kb2, kb3, kb4, kb5, kb6, fb0, fb1, fb2, fb3, fb4, fb5, fb6⟩ := blkat7 HS.out.b
  go_upto_region 37 with (fail)
  have HS' := Lib.hid (HS.out.s3 ((r2 : Int)))
  clear kb0 fb0 kb1 fb1 kb2 fb2 kb3 fb3 kb4 fb4 kb5 fb5 kb6 fb6
  clear HS
  generalize v11.setCell ⟨W.heap.size + 1, 3, none⟩ (.int .i64 ((r2 : Int))) = v12 at *
  have HS := HS'
  clear HS'
  go_wp2_with fail
  refine (H3125.out _).mono ?_
  rintro e v13 ⟨rfl, hf⟩
  have HS := Lib.hid (HS.out.fr hf)
  clear hf
  go_wp2_with fail
  refine (H117.out _).mono ?_
  rintro e v14 ⟨rfl, hf⟩
  have HS := Lib.hid (HS.out.fr hf)
  clear hf
  go_wp2_with fail
  refine (HS1.out _).mono ?_
  rintro e v15 ⟨rfl, hf⟩
  have HS := Lib.hid (HS.out.fr hf)
  clear hf
  obtain ⟨kb0, kb1, kb2, kb3, kb4, kb5, kb6, fb0, fb1, fb2, fb3, fb4, fb5, fb6⟩ := blkat7 HS.out.b
  go_upto_region 79 with (fail)
  have HS' := Lib.hid (HS.out.s4 (n))
  clear kb0 fb0 kb1 fb1 kb2 fb2 kb3 fb3 kb4 fb4 kb5 fb5 kb6 fb6
  clear HS
  generalize v15.setCell ⟨W.heap.size + 1, 4, none⟩ (.int .i64 (n)) = v16 at *
  have HS := HS'
  clear HS'
  obtain ⟨ka0, ka1, ka2, ka3, ka4, ka5, ka6, fa0, fa1, fa2, fa3, fa4, fa5, fa6⟩ := blkat7 HS.out.a
  obtain ⟨kb0, kb1, kb2, kb3, kb4, kb5, kb6, fb0, fb1, fb2, fb3, fb4, fb5, fb6⟩ := blkat7 HS.out.b
  go_wp2_with fail
  refine bodyPost_ret (results_ct rfl _ _ W.heap.size 24 #[.int .i64 (0), .int .i64 (0), .int .i64 (0), .int .i64 (0), .int .i64 (0), .int .i64 (0), .int .i64 (0)] (0, 0) _ rfl ?_ Try.underlying24 rfl (by kernel_rfl)) rfl ?_
  · exact blk7 HS.out.a _ _ _ _ _ _ _
  · exact ⟨rfl, by (repeat (first | (with_reducible exact HS.out.f) | (with_reducible refine Fr.setCell ?_ (Or.inr (by simp)) _)))⟩
set_option maxRecDepth 100000 in
set_option maxHeartbeats 4000000 in
theorem rdec_imm (w : Nat) (hw : w < 4294967296) (W : World) (ck : fld w 0 7 = 19) (c : ¬ (rimmP w).1 = 0) : Calls Try.prog 10 #[.int .u32 (w : Int)] W fun e w' => e = .returned (.tuple #[i7 (rdecP w).1, .bool (rdecP w).2]) ∧ Fr (fun _ => False) W w' := by
  have hK : rkindP w = ((rimmP w).1, ((fld w 7 5 : Nat) : Int), ((fld w 15 5 : Nat) : Int), 0, (rimmP w).2.2.2.2.1, 0, 4) := by unfold rkindP; rw [if_neg (by omega), if_neg (by omega), if_neg (by omega), if_neg (by omega), if_neg (by omega), if_neg (by omega), if_neg (by omega), if_pos (by omega)]; exact rimm_shape w
  have hP : rdecP w = (((rimmP w).1, ((fld w 7 5 : Nat) : Int), ((fld w 15 5 : Nat) : Int), 0, (rimmP w).2.2.2.2.1, 0, 4), true) := by rw [rdec_yes (by rw [hK]; exact c), hK]
  rw [hP]
  have H117 := insU_sq0 w hw
  have H1412 := insU_sq1 w hw
  have H1915 := insU_sq2 w hw
  have H2420 := insU_sq3 w hw
  have H3125 := insU_sq4 w hw
  have H3120 := insU_sq5 w hw
  have HSI := Lib.hid (show ∀ W, Calls Try.prog 27 #[.int .i64 ((fld w 20 12 : Nat) : Int), .int .i64 12] W fun e w' => e = .returned (.int .i64 (iP w)) ∧ Fr (fun _ => False) W w' from S_fr (fld w 20 12) 12 (by decide) (by decide) (by have := fld_lt w 20 12; omega))
  have H60 := Lib.hid (show ∀ W, Calls Try.prog 26 #[.int .u32 (w : Int), .int .i64 6, .int .i64 0] W fun e w' => e = .returned (.int .i64 (19)) ∧ Fr (fun _ => False) W w' from fun W => by have g := F_fr w 6 0 7 hw (by decide) (by decide) rfl W; rw [ck] at g; exact g)
  have HW := Lib.hid (show ∀ g W, Blk W g 24 #[.int .i64 0, .int .i64 (((fld w 7 5 : Nat) : Int)), .int .i64 (((fld w 15 5 : Nat) : Int)), .int .i64 0, .int .i64 (iP w), .int .i64 0, .int .i64 4] → Calls Try.prog 29 #[.int .u32 (w : Int), .int .i64 (((fld w 12 3 : Nat) : Int)), .pointer (some ⟨g, 0, none⟩)] W fun e w' => e = .returned (.tuple #[]) ∧ PS W w' g (rimmP w).1 (((fld w 7 5 : Nat) : Int)) (((fld w 15 5 : Nat) : Int)) 0 (rimmP w).2.2.2.2.1 0 4 from fun g W hb => rwith_fr w hw g _ _ _ _ _ W (by omega) hb)
  clear hP hK ck
  generalize (rimmP w).1 = p at *
  generalize (rimmP w).2.2.2.2.1 = n at *
  generalize iP w = m at *
  generalize fld w 12 3 = f3 at *
  generalize fld w 7 5 = rd at *
  generalize fld w 15 5 = r1 at *
  generalize fld w 20 5 = r2 at *
  have t0 : (p == 0) = false := beq_eq_false_iff_ne.2 c
  clear c
  go_enter Try.func10, Try.ntmps10
  go_wp2_with fail
  have HS := Lib.hid (DS.start W)
  generalize (W.alloc (.cells #[.int .i64 0, .int .i64 0, .int .i64 0, .int .i64 0, .int .i64 0, .int .i64 0, .int .i64 0] 24)).alloc (.cells #[.int .i64 0, .int .i64 0, .int .i64 0, .int .i64 0, .int .i64 0, .int .i64 0, .int .i64 4] 24) = wz at *
  refine (H117.out _).mono ?_
  rintro e v1 ⟨rfl, hf⟩
  have HS := Lib.hid (HS.out.fr hf)
  clear hf
  go_wp2_with fail
  refine (H1412.out _).mono ?_
  rintro e v2 ⟨rfl, hf⟩
  have HS := Lib.hid (HS.out.fr hf)
  clear hf
  go_wp2_with fail
  refine (H1915.out _).mono ?_
  rintro e v3 ⟨rfl, hf⟩
  have HS := Lib.hid (HS.out.fr hf)
  clear hf
  go_wp2_with fail
  refine (H2420.out _).mono ?_
  rintro e v4 ⟨rfl, hf⟩
  have HS := Lib.hid (HS.out.fr hf)
  clear hf
  go_wp2_with fail
  refine (H3125.out _).mono ?_
  rintro e v5 ⟨rfl, hf⟩
  have HS := Lib.hid (HS.out.fr hf)
  clear hf
  go_wp2_with fail
  refine (H3120.out _).mono ?_
  rintro e v6 ⟨rfl, hf⟩
  have HS := Lib.hid (HS.out.fr hf)
  clear hf
  go_wp2_with fail
  refine (HSI.out _).mono ?_
  rintro e v7 ⟨rfl, hf⟩
  have HS := Lib.hid (HS.out.fr hf)
  clear hf
  go_wp2_with fail
  refine (H60.out _).mono ?_
  rintro e v8 ⟨rfl, hf⟩
  have HS := Lib.hid (HS.out.fr hf)
  clear hf
  obtain ⟨kb0, kb1, kb2, kb3, kb4, kb5, kb6, fb0, fb1, fb2, fb3, fb4, fb5, fb6⟩ := blkat7 HS.out.b
  go_upto_region 41 with (fail)
  have HS' := Lib.hid (HS.out.s1 ((rd : Int)))
  clear kb0 fb0 kb1 fb1 kb2 fb2 kb3 fb3 kb4 fb4 kb5 fb5 kb6 fb6
  clear HS
  generalize v8.setCell ⟨W.heap.size + 1, 1, none⟩ (.int .i64 ((rd : Int))) = v9 at *
  have HS := HS'
  clear HS'
  obtain ⟨kb0, kb1, kb2, kb3, kb4, kb5, kb6, fb0, fb1, fb2, fb3, fb4, fb5, fb6⟩ := blkat7 HS.out.b
  go_upto_region 42 with (fail)
  have HS' := Lib.hid (HS.out.s2 ((r1 : Int)))
  clear kb0 fb0 kb1 fb1 kb2 fb2 kb3 fb3 kb4 fb4 kb5 fb5 kb6 fb6
  clear HS
  generalize v9.setCell ⟨W.heap.size + 1, 2, none⟩ (.int .i64 ((r1 : Int))) = v10 at *
  have HS := HS'
  clear HS'
  obtain ⟨kb0, kb1, kb2, kb3, kb4, kb5, kb6, fb0, fb1, fb2, fb3, fb4, fb5, fb6⟩ := blkat7 HS.out.b
  go_upto_region 43 with (fail)
  have HS' := Lib.hid (HS.out.s4 (m))
  clear kb0 fb0 kb1 fb1 kb2 fb2 kb3 fb3 kb4 fb4 kb5 fb5 kb6 fb6
  clear HS
  generalize v10.setCell ⟨W.heap.size + 1, 4, none⟩ (.int .i64 (m)) = v11 at *
  have HS := HS'
  clear HS'
  go_wp2_with fail
  refine (HW.out _ _ HS.out.b).mono ?_
  rintro e v12 ⟨rfl, hf⟩
  have HS := Lib.hid (HS.out.ps hf)
  clear hf
  obtain ⟨ka0, ka1, ka2, ka3, ka4, ka5, ka6, fa0, fa1, fa2, fa3, fa4, fa5, fa6⟩ := blkat7 HS.out.a
  obtain ⟨kb0, kb1, kb2, kb3, kb4, kb5, kb6, fb0, fb1, fb2, fb3, fb4, fb5, fb6⟩ := blkat7 HS.out.b
  go_wp2_with fail
  refine bodyPost_ret (results_ct rfl _ _ W.heap.size 24 #[.int .i64 (p), .int .i64 ((rd : Int)), .int .i64 ((r1 : Int)), .int .i64 (0), .int .i64 (n), .int .i64 (0), .int .i64 (4)] (0, 0) _ rfl ?_ Try.underlying24 rfl (by kernel_rfl)) rfl ?_
  · exact blk7 HS.out.a _ _ _ _ _ _ _
  · exact ⟨rfl, by (repeat (first | (with_reducible exact HS.out.f) | (with_reducible refine Fr.setCell ?_ (Or.inr (by simp)) _)))⟩
set_option maxRecDepth 100000 in
set_option maxHeartbeats 4000000 in
theorem rdec_immn (w : Nat) (hw : w < 4294967296) (W : World) (ck : fld w 0 7 = 19) (c :  (rimmP w).1 = 0) : Calls Try.prog 10 #[.int .u32 (w : Int)] W fun e w' => e = .returned (.tuple #[i7 (rdecP w).1, .bool (rdecP w).2]) ∧ Fr (fun _ => False) W w' := by
  have hK : rkindP w = ((rimmP w).1, ((fld w 7 5 : Nat) : Int), ((fld w 15 5 : Nat) : Int), 0, (rimmP w).2.2.2.2.1, 0, 4) := by unfold rkindP; rw [if_neg (by omega), if_neg (by omega), if_neg (by omega), if_neg (by omega), if_neg (by omega), if_neg (by omega), if_neg (by omega), if_pos (by omega)]; exact rimm_shape w
  have hP : rdecP w = (i0, false) := rdec_no (by rw [hK]; exact c)
  rw [hP]
  have H117 := insU_sq0 w hw
  have H1412 := insU_sq1 w hw
  have H1915 := insU_sq2 w hw
  have H2420 := insU_sq3 w hw
  have H3125 := insU_sq4 w hw
  have H3120 := insU_sq5 w hw
  have HSI := Lib.hid (show ∀ W, Calls Try.prog 27 #[.int .i64 ((fld w 20 12 : Nat) : Int), .int .i64 12] W fun e w' => e = .returned (.int .i64 (iP w)) ∧ Fr (fun _ => False) W w' from S_fr (fld w 20 12) 12 (by decide) (by decide) (by have := fld_lt w 20 12; omega))
  have H60 := Lib.hid (show ∀ W, Calls Try.prog 26 #[.int .u32 (w : Int), .int .i64 6, .int .i64 0] W fun e w' => e = .returned (.int .i64 (19)) ∧ Fr (fun _ => False) W w' from fun W => by have g := F_fr w 6 0 7 hw (by decide) (by decide) rfl W; rw [ck] at g; exact g)
  have HW := Lib.hid (show ∀ g W, Blk W g 24 #[.int .i64 0, .int .i64 (((fld w 7 5 : Nat) : Int)), .int .i64 (((fld w 15 5 : Nat) : Int)), .int .i64 0, .int .i64 (iP w), .int .i64 0, .int .i64 4] → Calls Try.prog 29 #[.int .u32 (w : Int), .int .i64 (((fld w 12 3 : Nat) : Int)), .pointer (some ⟨g, 0, none⟩)] W fun e w' => e = .returned (.tuple #[]) ∧ PS W w' g (rimmP w).1 (((fld w 7 5 : Nat) : Int)) (((fld w 15 5 : Nat) : Int)) 0 (rimmP w).2.2.2.2.1 0 4 from fun g W hb => rwith_fr w hw g _ _ _ _ _ W (by omega) hb)
  clear hP hK ck
  generalize (rimmP w).1 = p at *
  generalize (rimmP w).2.2.2.2.1 = n at *
  generalize iP w = m at *
  generalize fld w 12 3 = f3 at *
  generalize fld w 7 5 = rd at *
  generalize fld w 15 5 = r1 at *
  generalize fld w 20 5 = r2 at *
  have t0 : (p == 0) = true := beq_iff_eq.2 c
  clear c
  go_enter Try.func10, Try.ntmps10
  go_wp2_with fail
  have HS := Lib.hid (DS.start W)
  generalize (W.alloc (.cells #[.int .i64 0, .int .i64 0, .int .i64 0, .int .i64 0, .int .i64 0, .int .i64 0, .int .i64 0] 24)).alloc (.cells #[.int .i64 0, .int .i64 0, .int .i64 0, .int .i64 0, .int .i64 0, .int .i64 0, .int .i64 4] 24) = wz at *
  refine (H117.out _).mono ?_
  rintro e v1 ⟨rfl, hf⟩
  have HS := Lib.hid (HS.out.fr hf)
  clear hf
  go_wp2_with fail
  refine (H1412.out _).mono ?_
  rintro e v2 ⟨rfl, hf⟩
  have HS := Lib.hid (HS.out.fr hf)
  clear hf
  go_wp2_with fail
  refine (H1915.out _).mono ?_
  rintro e v3 ⟨rfl, hf⟩
  have HS := Lib.hid (HS.out.fr hf)
  clear hf
  go_wp2_with fail
  refine (H2420.out _).mono ?_
  rintro e v4 ⟨rfl, hf⟩
  have HS := Lib.hid (HS.out.fr hf)
  clear hf
  go_wp2_with fail
  refine (H3125.out _).mono ?_
  rintro e v5 ⟨rfl, hf⟩
  have HS := Lib.hid (HS.out.fr hf)
  clear hf
  go_wp2_with fail
  refine (H3120.out _).mono ?_
  rintro e v6 ⟨rfl, hf⟩
  have HS := Lib.hid (HS.out.fr hf)
  clear hf
  go_wp2_with fail
  refine (HSI.out _).mono ?_
  rintro e v7 ⟨rfl, hf⟩
  have HS := Lib.hid (HS.out.fr hf)
  clear hf
  go_wp2_with fail
  refine (H60.out _).mono ?_
  rintro e v8 ⟨rfl, hf⟩
  have HS := Lib.hid (HS.out.fr hf)
  clear hf
  obtain ⟨kb0, kb1, kb2, kb3, kb4, kb5, kb6, fb0, fb1, fb2, fb3, fb4, fb5, fb6⟩ := blkat7 HS.out.b
  go_upto_region 41 with (fail)
  have HS' := Lib.hid (HS.out.s1 ((rd : Int)))
  clear kb0 fb0 kb1 fb1 kb2 fb2 kb3 fb3 kb4 fb4 kb5 fb5 kb6 fb6
  clear HS
  generalize v8.setCell ⟨W.heap.size + 1, 1, none⟩ (.int .i64 ((rd : Int))) = v9 at *
  have HS := HS'
  clear HS'
  obtain ⟨kb0, kb1, kb2, kb3, kb4, kb5, kb6, fb0, fb1, fb2, fb3, fb4, fb5, fb6⟩ := blkat7 HS.out.b
  go_upto_region 42 with (fail)
  have HS' := Lib.hid (HS.out.s2 ((r1 : Int)))
  clear kb0 fb0 kb1 fb1 kb2 fb2 kb3 fb3 kb4 fb4 kb5 fb5 kb6 fb6
  clear HS
  generalize v9.setCell ⟨W.heap.size + 1, 2, none⟩ (.int .i64 ((r1 : Int))) = v10 at *
  have HS := HS'
  clear HS'
  obtain ⟨kb0, kb1, kb2, kb3, kb4, kb5, kb6, fb0, fb1, fb2, fb3, fb4, fb5, fb6⟩ := blkat7 HS.out.b
  go_upto_region 43 with (fail)
  have HS' := Lib.hid (HS.out.s4 (m))
  clear kb0 fb0 kb1 fb1 kb2 fb2 kb3 fb3 kb4 fb4 kb5 fb5 kb6 fb6
  clear HS
  generalize v10.setCell ⟨W.heap.size + 1, 4, none⟩ (.int .i64 (m)) = v11 at *
  have HS := HS'
  clear HS'
  go_wp2_with fail
  refine (HW.out _ _ HS.out.b).mono ?_
  rintro e v12 ⟨rfl, hf⟩
  have HS := Lib.hid (HS.out.ps hf)
  clear hf
  obtain ⟨ka0, ka1, ka2, ka3, ka4, ka5, ka6, fa0, fa1, fa2, fa3, fa4, fa5, fa6⟩ := blkat7 HS.out.a
  obtain ⟨kb0, kb1, kb2, kb3, kb4, kb5, kb6, fb0, fb1, fb2, fb3, fb4, fb5, fb6⟩ := blkat7 HS.out.b
  go_wp2_with fail
  refine bodyPost_ret (results_ct rfl _ _ W.heap.size 24 #[.int .i64 (0), .int .i64 (0), .int .i64 (0), .int .i64 (0), .int .i64 (0), .int .i64 (0), .int .i64 (0)] (0, 0) _ rfl ?_ Try.underlying24 rfl (by kernel_rfl)) rfl ?_
  · exact blk7 HS.out.a _ _ _ _ _ _ _
  · exact ⟨rfl, by (repeat (first | (with_reducible exact HS.out.f) | (with_reducible refine Fr.setCell ?_ (Or.inr (by simp)) _)))⟩
set_option maxRecDepth 100000 in
set_option maxHeartbeats 4000000 in
theorem rdec_imm32 (w : Nat) (hw : w < 4294967296) (W : World) (ck : fld w 0 7 = 27) (c : ¬ (rimmP w).1 = 0) : Calls Try.prog 10 #[.int .u32 (w : Int)] W fun e w' => e = .returned (.tuple #[i7 (rdecP w).1, .bool (rdecP w).2]) ∧ Fr (fun _ => False) W w' := by
  have hK : rkindP w = ((rimmP w).1, ((fld w 7 5 : Nat) : Int), ((fld w 15 5 : Nat) : Int), 0, (rimmP w).2.2.2.2.1, 0, 4) := by unfold rkindP; rw [if_neg (by omega), if_neg (by omega), if_neg (by omega), if_neg (by omega), if_neg (by omega), if_neg (by omega), if_neg (by omega), if_pos (by omega)]; exact rimm_shape w
  have hP : rdecP w = (((rimmP w).1, ((fld w 7 5 : Nat) : Int), ((fld w 15 5 : Nat) : Int), 0, (rimmP w).2.2.2.2.1, 0, 4), true) := by rw [rdec_yes (by rw [hK]; exact c), hK]
  rw [hP]
  have H117 := insU_sq0 w hw
  have H1412 := insU_sq1 w hw
  have H1915 := insU_sq2 w hw
  have H2420 := insU_sq3 w hw
  have H3125 := insU_sq4 w hw
  have H3120 := insU_sq5 w hw
  have HSI := Lib.hid (show ∀ W, Calls Try.prog 27 #[.int .i64 ((fld w 20 12 : Nat) : Int), .int .i64 12] W fun e w' => e = .returned (.int .i64 (iP w)) ∧ Fr (fun _ => False) W w' from S_fr (fld w 20 12) 12 (by decide) (by decide) (by have := fld_lt w 20 12; omega))
  have H60 := Lib.hid (show ∀ W, Calls Try.prog 26 #[.int .u32 (w : Int), .int .i64 6, .int .i64 0] W fun e w' => e = .returned (.int .i64 (27)) ∧ Fr (fun _ => False) W w' from fun W => by have g := F_fr w 6 0 7 hw (by decide) (by decide) rfl W; rw [ck] at g; exact g)
  have HW := Lib.hid (show ∀ g W, Blk W g 24 #[.int .i64 0, .int .i64 (((fld w 7 5 : Nat) : Int)), .int .i64 (((fld w 15 5 : Nat) : Int)), .int .i64 0, .int .i64 (iP w), .int .i64 0, .int .i64 4] → Calls Try.prog 29 #[.int .u32 (w : Int), .int .i64 (((fld w 12 3 : Nat) : Int)), .pointer (some ⟨g, 0, none⟩)] W fun e w' => e = .returned (.tuple #[]) ∧ PS W w' g (rimmP w).1 (((fld w 7 5 : Nat) : Int)) (((fld w 15 5 : Nat) : Int)) 0 (rimmP w).2.2.2.2.1 0 4 from fun g W hb => rwith_fr w hw g _ _ _ _ _ W (by omega) hb)
  clear hP hK ck
  generalize (rimmP w).1 = p at *
  generalize (rimmP w).2.2.2.2.1 = n at *
  generalize iP w = m at *
  generalize fld w 12 3 = f3 at *
  generalize fld w 7 5 = rd at *
  generalize fld w 15 5 = r1 at *
  generalize fld w 20 5 = r2 at *
  have t0 : (p == 0) = false := beq_eq_false_iff_ne.2 c
  clear c
  go_enter Try.func10, Try.ntmps10
  go_wp2_with fail
  have HS := Lib.hid (DS.start W)
  generalize (W.alloc (.cells #[.int .i64 0, .int .i64 0, .int .i64 0, .int .i64 0, .int .i64 0, .int .i64 0, .int .i64 0] 24)).alloc (.cells #[.int .i64 0, .int .i64 0, .int .i64 0, .int .i64 0, .int .i64 0, .int .i64 0, .int .i64 4] 24) = wz at *
  refine (H117.out _).mono ?_
  rintro e v1 ⟨rfl, hf⟩
  have HS := Lib.hid (HS.out.fr hf)
  clear hf
  go_wp2_with fail
  refine (H1412.out _).mono ?_
  rintro e v2 ⟨rfl, hf⟩
  have HS := Lib.hid (HS.out.fr hf)
  clear hf
  go_wp2_with fail
  refine (H1915.out _).mono ?_
  rintro e v3 ⟨rfl, hf⟩
  have HS := Lib.hid (HS.out.fr hf)
  clear hf
  go_wp2_with fail
  refine (H2420.out _).mono ?_
  rintro e v4 ⟨rfl, hf⟩
  have HS := Lib.hid (HS.out.fr hf)
  clear hf
  go_wp2_with fail
  refine (H3125.out _).mono ?_
  rintro e v5 ⟨rfl, hf⟩
  have HS := Lib.hid (HS.out.fr hf)
  clear hf
  go_wp2_with fail
  refine (H3120.out _).mono ?_
  rintro e v6 ⟨rfl, hf⟩
  have HS := Lib.hid (HS.out.fr hf)
  clear hf
  go_wp2_with fail
  refine (HSI.out _).mono ?_
  rintro e v7 ⟨rfl, hf⟩
  have HS := Lib.hid (HS.out.fr hf)
  clear hf
  go_wp2_with fail
  refine (H60.out _).mono ?_
  rintro e v8 ⟨rfl, hf⟩
  have HS := Lib.hid (HS.out.fr hf)
  clear hf
  obtain ⟨kb0, kb1, kb2, kb3, kb4, kb5, kb6, fb0, fb1, fb2, fb3, fb4, fb5, fb6⟩ := blkat7 HS.out.b
  go_upto_region 41 with (fail)
  have HS' := Lib.hid (HS.out.s1 ((rd : Int)))
  clear kb0 fb0 kb1 fb1 kb2 fb2 kb3 fb3 kb4 fb4 kb5 fb5 kb6 fb6
  clear HS
  generalize v8.setCell ⟨W.heap.size + 1, 1, none⟩ (.int .i64 ((rd : Int))) = v9 at *
  have HS := HS'
  clear HS'
  obtain ⟨kb0, kb1, kb2, kb3, kb4, kb5, kb6, fb0, fb1, fb2, fb3, fb4, fb5, fb6⟩ := blkat7 HS.out.b
  go_upto_region 42 with (fail)
  have HS' := Lib.hid (HS.out.s2 ((r1 : Int)))
  clear kb0 fb0 kb1 fb1 kb2 fb2 kb3 fb3 kb4 fb4 kb5 fb5 kb6 fb6
  clear HS
  generalize v9.setCell ⟨W.heap.size + 1, 2, none⟩ (.int .i64 ((r1 : Int))) = v10 at *
  have HS := HS'
  clear HS'
  obtain ⟨kb0, kb1, kb2, kb3, kb4, kb5, kb6, fb0, fb1, fb2, fb3, fb4, fb5, fb6⟩ := blkat7 HS.out.b
  go_upto_region 43 with (fail)
  have HS' := Lib.hid (HS.out.s4 (m))
  clear kb0 fb0 kb1 fb1 kb2 fb2 kb3 fb3 kb4 fb4 kb5 fb5 kb6 fb6
  clear HS
  generalize v10.setCell ⟨W.heap.size + 1, 4, none⟩ (.int .i64 (m)) = v11 at *
  have HS := HS'
  clear HS'
  go_wp2_with fail
  refine (HW.out _ _ HS.out.b).mono ?_
  rintro e v12 ⟨rfl, hf⟩
  have HS := Lib.hid (HS.out.ps hf)
  clear hf
  obtain ⟨ka0, ka1, ka2, ka3, ka4, ka5, ka6, fa0, fa1, fa2, fa3, fa4, fa5, fa6⟩ := blkat7 HS.out.a
  obtain ⟨kb0, kb1, kb2, kb3, kb4, kb5, kb6, fb0, fb1, fb2, fb3, fb4, fb5, fb6⟩ := blkat7 HS.out.b
  go_wp2_with fail
  refine bodyPost_ret (results_ct rfl _ _ W.heap.size 24 #[.int .i64 (p), .int .i64 ((rd : Int)), .int .i64 ((r1 : Int)), .int .i64 (0), .int .i64 (n), .int .i64 (0), .int .i64 (4)] (0, 0) _ rfl ?_ Try.underlying24 rfl (by kernel_rfl)) rfl ?_
  · exact blk7 HS.out.a _ _ _ _ _ _ _
  · exact ⟨rfl, by (repeat (first | (with_reducible exact HS.out.f) | (with_reducible refine Fr.setCell ?_ (Or.inr (by simp)) _)))⟩
set_option maxRecDepth 100000 in
set_option maxHeartbeats 4000000 in
theorem rdec_imm32n (w : Nat) (hw : w < 4294967296) (W : World) (ck : fld w 0 7 = 27) (c :  (rimmP w).1 = 0) : Calls Try.prog 10 #[.int .u32 (w : Int)] W fun e w' => e = .returned (.tuple #[i7 (rdecP w).1, .bool (rdecP w).2]) ∧ Fr (fun _ => False) W w' := by
  have hK : rkindP w = ((rimmP w).1, ((fld w 7 5 : Nat) : Int), ((fld w 15 5 : Nat) : Int), 0, (rimmP w).2.2.2.2.1, 0, 4) := by unfold rkindP; rw [if_neg (by omega), if_neg (by omega), if_neg (by omega), if_neg (by omega), if_neg (by omega), if_neg (by omega), if_neg (by omega), if_pos (by omega)]; exact rimm_shape w
  have hP : rdecP w = (i0, false) := rdec_no (by rw [hK]; exact c)
  rw [hP]
  have H117 := insU_sq0 w hw
  have H1412 := insU_sq1 w hw
  have H1915 := insU_sq2 w hw
  have H2420 := insU_sq3 w hw
  have H3125 := insU_sq4 w hw
  have H3120 := insU_sq5 w hw
  have HSI := Lib.hid (show ∀ W, Calls Try.prog 27 #[.int .i64 ((fld w 20 12 : Nat) : Int), .int .i64 12] W fun e w' => e = .returned (.int .i64 (iP w)) ∧ Fr (fun _ => False) W w' from S_fr (fld w 20 12) 12 (by decide) (by decide) (by have := fld_lt w 20 12; omega))
  have H60 := Lib.hid (show ∀ W, Calls Try.prog 26 #[.int .u32 (w : Int), .int .i64 6, .int .i64 0] W fun e w' => e = .returned (.int .i64 (27)) ∧ Fr (fun _ => False) W w' from fun W => by have g := F_fr w 6 0 7 hw (by decide) (by decide) rfl W; rw [ck] at g; exact g)
  have HW := Lib.hid (show ∀ g W, Blk W g 24 #[.int .i64 0, .int .i64 (((fld w 7 5 : Nat) : Int)), .int .i64 (((fld w 15 5 : Nat) : Int)), .int .i64 0, .int .i64 (iP w), .int .i64 0, .int .i64 4] → Calls Try.prog 29 #[.int .u32 (w : Int), .int .i64 (((fld w 12 3 : Nat) : Int)), .pointer (some ⟨g, 0, none⟩)] W fun e w' => e = .returned (.tuple #[]) ∧ PS W w' g (rimmP w).1 (((fld w 7 5 : Nat) : Int)) (((fld w 15 5 : Nat) : Int)) 0 (rimmP w).2.2.2.2.1 0 4 from fun g W hb => rwith_fr w hw g _ _ _ _ _ W (by omega) hb)
  clear hP hK ck
  generalize (rimmP w).1 = p at *
  generalize (rimmP w).2.2.2.2.1 = n at *
  generalize iP w = m at *
  generalize fld w 12 3 = f3 at *
  generalize fld w 7 5 = rd at *
  generalize fld w 15 5 = r1 at *
  generalize fld w 20 5 = r2 at *
  have t0 : (p == 0) = true := beq_iff_eq.2 c
  clear c
  go_enter Try.func10, Try.ntmps10
  go_wp2_with fail
  have HS := Lib.hid (DS.start W)
  generalize (W.alloc (.cells #[.int .i64 0, .int .i64 0, .int .i64 0, .int .i64 0, .int .i64 0, .int .i64 0, .int .i64 0] 24)).alloc (.cells #[.int .i64 0, .int .i64 0, .int .i64 0, .int .i64 0, .int .i64 0, .int .i64 0, .int .i64 4] 24) = wz at *
  refine (H117.out _).mono ?_
  rintro e v1 ⟨rfl, hf⟩
  have HS := Lib.hid (HS.out.fr hf)
  clear hf
  go_wp2_with fail
  refine (H1412.out _).mono ?_
  rintro e v2 ⟨rfl, hf⟩
  have HS := Lib.hid (HS.out.fr hf)
  clear hf
  go_wp2_with fail
  refine (H1915.out _).mono ?_
  rintro e v3 ⟨rfl, hf⟩
  have HS := Lib.hid (HS.out.fr hf)
  clear hf
  go_wp2_with fail
  refine (H2420.out _).mono ?_
  rintro e v4 ⟨rfl, hf⟩
  have HS := Lib.hid (HS.out.fr hf)
  clear hf
  go_wp2_with fail
  refine (H3125.out _).mono ?_
  rintro e v5 ⟨rfl, hf⟩
  have HS := Lib.hid (HS.out.fr hf)
  clear hf
  go_wp2_with fail
  refine (H3120.out _).mono ?_
  rintro e v6 ⟨rfl, hf⟩
  have HS := Lib.hid (HS.out.fr hf)
  clear hf
  go_wp2_with fail
  refine (HSI.out _).mono ?_
  rintro e v7 ⟨rfl, hf⟩
  have HS := Lib.hid (HS.out.fr hf)
  clear hf
  go_wp2_with fail
  refine (H60.out _).mono ?_
  rintro e v8 ⟨rfl, hf⟩
  have HS := Lib.hid (HS.out.fr hf)
  clear hf
  obtain ⟨kb0, kb1, kb2, kb3, kb4, kb5, kb6, fb0, fb1, fb2, fb3, fb4, fb5, fb6⟩ := blkat7 HS.out.b
  go_upto_region 41 with (fail)
  have HS' := Lib.hid (HS.out.s1 ((rd : Int)))
  clear kb0 fb0 kb1 fb1 kb2 fb2 kb3 fb3 kb4 fb4 kb5 fb5 kb6 fb6
  clear HS
  generalize v8.setCell ⟨W.heap.size + 1, 1, none⟩ (.int .i64 ((rd : Int))) = v9 at *
  have HS := HS'
  clear HS'
  obtain ⟨kb0, kb1, kb2, kb3, kb4, kb5, kb6, fb0, fb1, fb2, fb3, fb4, fb5, fb6⟩ := blkat7 HS.out.b
  go_upto_region 42 with (fail)
  have HS' := Lib.hid (HS.out.s2 ((r1 : Int)))
  clear kb0 fb0 kb1 fb1 kb2 fb2 kb3 fb3 kb4 fb4 kb5 fb5 kb6 fb6
  clear HS
  generalize v9.setCell ⟨W.heap.size + 1, 2, none⟩ (.int .i64 ((r1 : Int))) = v10 at *
  have HS := HS'
  clear HS'
  obtain ⟨kb0, kb1, kb2, kb3, kb4, kb5, kb6, fb0, fb1, fb2, fb3, fb4, fb5, fb6⟩ := blkat7 HS.out.b
  go_upto_region 43 with (fail)
  have HS' := Lib.hid (HS.out.s4 (m))
  clear kb0 fb0 kb1 fb1 kb2 fb2 kb3 fb3 kb4 fb4 kb5 fb5 kb6 fb6
  clear HS
  generalize v10.setCell ⟨W.heap.size + 1, 4, none⟩ (.int .i64 (m)) = v11 at *
  have HS := HS'
  clear HS'
  go_wp2_with fail
  refine (HW.out _ _ HS.out.b).mono ?_
  rintro e v12 ⟨rfl, hf⟩
  have HS := Lib.hid (HS.out.ps hf)
  clear hf
  obtain ⟨ka0, ka1, ka2, ka3, ka4, ka5, ka6, fa0, fa1, fa2, fa3, fa4, fa5, fa6⟩ := blkat7 HS.out.a
  obtain ⟨kb0, kb1, kb2, kb3, kb4, kb5, kb6, fb0, fb1, fb2, fb3, fb4, fb5, fb6⟩ := blkat7 HS.out.b
  go_wp2_with fail
  refine bodyPost_ret (results_ct rfl _ _ W.heap.size 24 #[.int .i64 (0), .int .i64 (0), .int .i64 (0), .int .i64 (0), .int .i64 (0), .int .i64 (0), .int .i64 (0)] (0, 0) _ rfl ?_ Try.underlying24 rfl (by kernel_rfl)) rfl ?_
  · exact blk7 HS.out.a _ _ _ _ _ _ _
  · exact ⟨rfl, by (repeat (first | (with_reducible exact HS.out.f) | (with_reducible refine Fr.setCell ?_ (Or.inr (by simp)) _)))⟩
set_option maxRecDepth 100000 in
set_option maxHeartbeats 4000000 in
theorem rdec_reg0 (w : Nat) (hw : w < 4294967296) (W : World) (ck : fld w 0 7 = 51) (d : fld w 25 7 = 0) (c : ¬ oneP [31, 33, 34, 35, 36, 37, 39, 40] (fld w 12 3) = 0) : Calls Try.prog 10 #[.int .u32 (w : Int)] W fun e w' => e = .returned (.tuple #[i7 (rdecP w).1, .bool (rdecP w).2]) ∧ Fr (fun _ => False) W w' := by
  have hK : rkindP w = (oneP [31, 33, 34, 35, 36, 37, 39, 40] (fld w 12 3), ((fld w 7 5 : Nat) : Int), ((fld w 15 5 : Nat) : Int), ((fld w 20 5 : Nat) : Int), 0, 0, 4) := by unfold rkindP; rw [if_neg (by omega), if_neg (by omega), if_neg (by omega), if_neg (by omega), if_neg (by omega), if_neg (by omega), if_neg (by omega), if_neg (by omega), if_pos ck, if_pos d]
  have hP : rdecP w = ((oneP [31, 33, 34, 35, 36, 37, 39, 40] (fld w 12 3), ((fld w 7 5 : Nat) : Int), ((fld w 15 5 : Nat) : Int), ((fld w 20 5 : Nat) : Int), 0, 0, 4), true) := by rw [rdec_yes (by rw [hK]; exact c), hK]
  rw [hP]
  have H117 := insU_sq0 w hw
  have H1412 := insU_sq1 w hw
  have H1915 := insU_sq2 w hw
  have H2420 := insU_sq3 w hw
  have H3125 := insU_sq4 w hw
  have H3120 := insU_sq5 w hw
  have HSI := Lib.hid (show ∀ W, Calls Try.prog 27 #[.int .i64 ((fld w 20 12 : Nat) : Int), .int .i64 12] W fun e w' => e = .returned (.int .i64 (iP w)) ∧ Fr (fun _ => False) W w' from S_fr (fld w 20 12) 12 (by decide) (by decide) (by have := fld_lt w 20 12; omega))
  have H60 := Lib.hid (show ∀ W, Calls Try.prog 26 #[.int .u32 (w : Int), .int .i64 6, .int .i64 0] W fun e w' => e = .returned (.int .i64 (51)) ∧ Fr (fun _ => False) W w' from fun W => by have g := F_fr w 6 0 7 hw (by decide) (by decide) rfl W; rw [ck] at g; exact g)
  have HO := Lib.hid (show ∀ g W, Blk W g 3 #[.int .i64 31, .int .i64 33, .int .i64 34, .int .i64 35, .int .i64 36, .int .i64 37, .int .i64 39, .int .i64 40] → Calls Try.prog 28 #[.slice (some ⟨g, 0, none⟩) 8 8, .int .i64 ((fld w 12 3 : Nat) : Int)] W fun e w' => e = .returned (.int .i64 (oneP [31, 33, 34, 35, 36, 37, 39, 40] (fld w 12 3))) ∧ Fr (fun _ => False) W w' from fun g W hb => one_fr [31, 33, 34, 35, 36, 37, 39, 40] (by decide) (fld w 12 3) g 8 (by decide) 3 W hb)
  rw [d] at H3125
  have H3125 := Lib.hid (show ∀ W, Calls Try.prog 26 #[.int .u32 (w : Int), .int .i64 31, .int .i64 25] W fun e w' => e = .returned (.int .i64 0) ∧ Fr (fun _ => False) W w' from H3125.out)
  clear hP hK ck d
  generalize oneP [31, 33, 34, 35, 36, 37, 39, 40] (fld w 12 3) = p at *
  generalize fld w 12 3 = f3 at *
  generalize fld w 7 5 = rd at *
  generalize fld w 15 5 = r1 at *
  generalize fld w 20 5 = r2 at *
  have t0 : (p == 0) = false := beq_eq_false_iff_ne.2 c
  clear c
  go_enter Try.func10, Try.ntmps10
  go_wp2_with fail
  have HS := Lib.hid (DS.start W)
  generalize (W.alloc (.cells #[.int .i64 0, .int .i64 0, .int .i64 0, .int .i64 0, .int .i64 0, .int .i64 0, .int .i64 0] 24)).alloc (.cells #[.int .i64 0, .int .i64 0, .int .i64 0, .int .i64 0, .int .i64 0, .int .i64 0, .int .i64 4] 24) = wz at *
  refine (H117.out _).mono ?_
  rintro e v1 ⟨rfl, hf⟩
  have HS := Lib.hid (HS.out.fr hf)
  clear hf
  go_wp2_with fail
  refine (H1412.out _).mono ?_
  rintro e v2 ⟨rfl, hf⟩
  have HS := Lib.hid (HS.out.fr hf)
  clear hf
  go_wp2_with fail
  refine (H1915.out _).mono ?_
  rintro e v3 ⟨rfl, hf⟩
  have HS := Lib.hid (HS.out.fr hf)
  clear hf
  go_wp2_with fail
  refine (H2420.out _).mono ?_
  rintro e v4 ⟨rfl, hf⟩
  have HS := Lib.hid (HS.out.fr hf)
  clear hf
  go_wp2_with fail
  refine (H3125.out _).mono ?_
  rintro e v5 ⟨rfl, hf⟩
  have HS := Lib.hid (HS.out.fr hf)
  clear hf
  go_wp2_with fail
  refine (H3120.out _).mono ?_
  rintro e v6 ⟨rfl, hf⟩
  have HS := Lib.hid (HS.out.fr hf)
  clear hf
  go_wp2_with fail
  refine (HSI.out _).mono ?_
  rintro e v7 ⟨rfl, hf⟩
  have HS := Lib.hid (HS.out.fr hf)
  clear hf
  go_wp2_with fail
  refine (H60.out _).mono ?_
  rintro e v8 ⟨rfl, hf⟩
  have HS := Lib.hid (HS.out.fr hf)
  clear hf
  obtain ⟨kb0, kb1, kb2, kb3, kb4, kb5, kb6, fb0, fb1, fb2, fb3, fb4, fb5, fb6⟩ := blkat7 HS.out.b
  go_upto_region 46 with (fail)
  have HS' := Lib.hid (HS.out.s1 ((rd : Int)))
  clear kb0 fb0 kb1 fb1 kb2 fb2 kb3 fb3 kb4 fb4 kb5 fb5 kb6 fb6
  clear HS
  generalize v8.setCell ⟨W.heap.size + 1, 1, none⟩ (.int .i64 ((rd : Int))) = v9 at *
  have HS := HS'
  clear HS'
  obtain ⟨kb0, kb1, kb2, kb3, kb4, kb5, kb6, fb0, fb1, fb2, fb3, fb4, fb5, fb6⟩ := blkat7 HS.out.b
  go_upto_region 47 with (fail)
  have HS' := Lib.hid (HS.out.s2 ((r1 : Int)))
  clear kb0 fb0 kb1 fb1 kb2 fb2 kb3 fb3 kb4 fb4 kb5 fb5 kb6 fb6
  clear HS
  generalize v9.setCell ⟨W.heap.size + 1, 2, none⟩ (.int .i64 ((r1 : Int))) = v10 at *
  have HS := HS'
  clear HS'
  obtain ⟨kb0, kb1, kb2, kb3, kb4, kb5, kb6, fb0, fb1, fb2, fb3, fb4, fb5, fb6⟩ := blkat7 HS.out.b
  go_upto_region 48 with (fail)
  have HS' := Lib.hid (HS.out.s3 ((r2 : Int)))
  clear kb0 fb0 kb1 fb1 kb2 fb2 kb3 fb3 kb4 fb4 kb5 fb5 kb6 fb6
  clear HS
  generalize v10.setCell ⟨W.heap.size + 1, 3, none⟩ (.int .i64 ((r2 : Int))) = v11 at *
  have HS := HS'
  clear HS'
  go_wp2_with fail
  refine (HO.out _ _ (Blk.new _ _ _)).mono ?_
  rintro e v12 ⟨rfl, hf⟩
  have HS := Lib.hid ((HS.out.al (.cells #[.int .i64 31, .int .i64 33, .int .i64 34, .int .i64 35, .int .i64 36, .int .i64 37, .int .i64 39, .int .i64 40] 3)).fr hf)
  clear hf
  obtain ⟨kb0, kb1, kb2, kb3, kb4, kb5, kb6, fb0, fb1, fb2, fb3, fb4, fb5, fb6⟩ := blkat7 HS.out.b
  go_upto_region 79 with (fail)
  have HS' := Lib.hid (HS.out.s0 (p))
  clear kb0 fb0 kb1 fb1 kb2 fb2 kb3 fb3 kb4 fb4 kb5 fb5 kb6 fb6
  clear HS
  generalize v12.setCell ⟨W.heap.size + 1, 0, none⟩ (.int .i64 (p)) = v13 at *
  have HS := HS'
  clear HS'
  obtain ⟨ka0, ka1, ka2, ka3, ka4, ka5, ka6, fa0, fa1, fa2, fa3, fa4, fa5, fa6⟩ := blkat7 HS.out.a
  obtain ⟨kb0, kb1, kb2, kb3, kb4, kb5, kb6, fb0, fb1, fb2, fb3, fb4, fb5, fb6⟩ := blkat7 HS.out.b
  go_wp2_with fail
  refine bodyPost_ret (results_ct rfl _ _ W.heap.size 24 #[.int .i64 (p), .int .i64 ((rd : Int)), .int .i64 ((r1 : Int)), .int .i64 ((r2 : Int)), .int .i64 (0), .int .i64 (0), .int .i64 (4)] (0, 0) _ rfl ?_ Try.underlying24 rfl (by kernel_rfl)) rfl ?_
  · exact blk7 HS.out.a _ _ _ _ _ _ _
  · exact ⟨rfl, by (repeat (first | (with_reducible exact HS.out.f) | (with_reducible refine Fr.setCell ?_ (Or.inr (by simp)) _)))⟩
set_option maxRecDepth 100000 in
set_option maxHeartbeats 4000000 in
theorem rdec_reg0n (w : Nat) (hw : w < 4294967296) (W : World) (ck : fld w 0 7 = 51) (d : fld w 25 7 = 0) (c :  oneP [31, 33, 34, 35, 36, 37, 39, 40] (fld w 12 3) = 0) : Calls Try.prog 10 #[.int .u32 (w : Int)] W fun e w' => e = .returned (.tuple #[i7 (rdecP w).1, .bool (rdecP w).2]) ∧ Fr (fun _ => False) W w' := by
  have hK : rkindP w = (oneP [31, 33, 34, 35, 36, 37, 39, 40] (fld w 12 3), ((fld w 7 5 : Nat) : Int), ((fld w 15 5 : Nat) : Int), ((fld w 20 5 : Nat) : Int), 0, 0, 4) := by unfold rkindP; rw [if_neg (by omega), if_neg (by omega), if_neg (by omega), if_neg (by omega), if_neg (by omega), if_neg (by omega), if_neg (by omega), if_neg (by omega), if_pos ck, if_pos d]
  have hP : rdecP w = (i0, false) := rdec_no (by rw [hK]; exact c)
  rw [hP]
  have H117 := insU_sq0 w hw
  have H1412 := insU_sq1 w hw
  have H1915 := insU_sq2 w hw
  have H2420 := insU_sq3 w hw
  have H3125 := insU_sq4 w hw
  have H3120 := insU_sq5 w hw
  have HSI := Lib.hid (show ∀ W, Calls Try.prog 27 #[.int .i64 ((fld w 20 12 : Nat) : Int), .int .i64 12] W fun e w' => e = .returned (.int .i64 (iP w)) ∧ Fr (fun _ => False) W w' from S_fr (fld w 20 12) 12 (by decide) (by decide) (by have := fld_lt w 20 12; omega))
  have H60 := Lib.hid (show ∀ W, Calls Try.prog 26 #[.int .u32 (w : Int), .int .i64 6, .int .i64 0] W fun e w' => e = .returned (.int .i64 (51)) ∧ Fr (fun _ => False) W w' from fun W => by have g := F_fr w 6 0 7 hw (by decide) (by decide) rfl W; rw [ck] at g; exact g)
  have HO := Lib.hid (show ∀ g W, Blk W g 3 #[.int .i64 31, .int .i64 33, .int .i64 34, .int .i64 35, .int .i64 36, .int .i64 37, .int .i64 39, .int .i64 40] → Calls Try.prog 28 #[.slice (some ⟨g, 0, none⟩) 8 8, .int .i64 ((fld w 12 3 : Nat) : Int)] W fun e w' => e = .returned (.int .i64 (oneP [31, 33, 34, 35, 36, 37, 39, 40] (fld w 12 3))) ∧ Fr (fun _ => False) W w' from fun g W hb => one_fr [31, 33, 34, 35, 36, 37, 39, 40] (by decide) (fld w 12 3) g 8 (by decide) 3 W hb)
  rw [d] at H3125
  have H3125 := Lib.hid (show ∀ W, Calls Try.prog 26 #[.int .u32 (w : Int), .int .i64 31, .int .i64 25] W fun e w' => e = .returned (.int .i64 0) ∧ Fr (fun _ => False) W w' from H3125.out)
  clear hP hK ck d
  generalize oneP [31, 33, 34, 35, 36, 37, 39, 40] (fld w 12 3) = p at *
  generalize fld w 12 3 = f3 at *
  generalize fld w 7 5 = rd at *
  generalize fld w 15 5 = r1 at *
  generalize fld w 20 5 = r2 at *
  have t0 : (p == 0) = true := beq_iff_eq.2 c
  clear c
  go_enter Try.func10, Try.ntmps10
  go_wp2_with fail
  have HS := Lib.hid (DS.start W)
  generalize (W.alloc (.cells #[.int .i64 0, .int .i64 0, .int .i64 0, .int .i64 0, .int .i64 0, .int .i64 0, .int .i64 0] 24)).alloc (.cells #[.int .i64 0, .int .i64 0, .int .i64 0, .int .i64 0, .int .i64 0, .int .i64 0, .int .i64 4] 24) = wz at *
  refine (H117.out _).mono ?_
  rintro e v1 ⟨rfl, hf⟩
  have HS := Lib.hid (HS.out.fr hf)
  clear hf
  go_wp2_with fail
  refine (H1412.out _).mono ?_
  rintro e v2 ⟨rfl, hf⟩
  have HS := Lib.hid (HS.out.fr hf)
  clear hf
  go_wp2_with fail
  refine (H1915.out _).mono ?_
  rintro e v3 ⟨rfl, hf⟩
  have HS := Lib.hid (HS.out.fr hf)
  clear hf
  go_wp2_with fail
  refine (H2420.out _).mono ?_
  rintro e v4 ⟨rfl, hf⟩
  have HS := Lib.hid (HS.out.fr hf)
  clear hf
  go_wp2_with fail
  refine (H3125.out _).mono ?_
  rintro e v5 ⟨rfl, hf⟩
  have HS := Lib.hid (HS.out.fr hf)
  clear hf
  go_wp2_with fail
  refine (H3120.out _).mono ?_
  rintro e v6 ⟨rfl, hf⟩
  have HS := Lib.hid (HS.out.fr hf)
  clear hf
  go_wp2_with fail
  refine (HSI.out _).mono ?_
  rintro e v7 ⟨rfl, hf⟩
  have HS := Lib.hid (HS.out.fr hf)
  clear hf
  go_wp2_with fail
  refine (H60.out _).mono ?_
  rintro e v8 ⟨rfl, hf⟩
  have HS := Lib.hid (HS.out.fr hf)
  clear hf
  obtain ⟨kb0, kb1, kb2, kb3, kb4, kb5, kb6, fb0, fb1, fb2, fb3, fb4, fb5, fb6⟩ := blkat7 HS.out.b
  go_upto_region 46 with (fail)
  have HS' := Lib.hid (HS.out.s1 ((rd : Int)))
  clear kb0 fb0 kb1 fb1 kb2 fb2 kb3 fb3 kb4 fb4 kb5 fb5 kb6 fb6
  clear HS
  generalize v8.setCell ⟨W.heap.size + 1, 1, none⟩ (.int .i64 ((rd : Int))) = v9 at *
  have HS := HS'
  clear HS'
  obtain ⟨kb0, kb1, kb2, kb3, kb4, kb5, kb6, fb0, fb1, fb2, fb3, fb4, fb5, fb6⟩ := blkat7 HS.out.b
  go_upto_region 47 with (fail)
  have HS' := Lib.hid (HS.out.s2 ((r1 : Int)))
  clear kb0 fb0 kb1 fb1 kb2 fb2 kb3 fb3 kb4 fb4 kb5 fb5 kb6 fb6
  clear HS
  generalize v9.setCell ⟨W.heap.size + 1, 2, none⟩ (.int .i64 ((r1 : Int))) = v10 at *
  have HS := HS'
  clear HS'
  obtain ⟨kb0, kb1, kb2, kb3, kb4, kb5, kb6, fb0, fb1, fb2, fb3, fb4, fb5, fb6⟩ := blkat7 HS.out.b
  go_upto_region 48 with (fail)
  have HS' := Lib.hid (HS.out.s3 ((r2 : Int)))
  clear kb0 fb0 kb1 fb1 kb2 fb2 kb3 fb3 kb4 fb4 kb5 fb5 kb6 fb6
  clear HS
  generalize v10.setCell ⟨W.heap.size + 1, 3, none⟩ (.int .i64 ((r2 : Int))) = v11 at *
  have HS := HS'
  clear HS'
  go_wp2_with fail
  refine (HO.out _ _ (Blk.new _ _ _)).mono ?_
  rintro e v12 ⟨rfl, hf⟩
  have HS := Lib.hid ((HS.out.al (.cells #[.int .i64 31, .int .i64 33, .int .i64 34, .int .i64 35, .int .i64 36, .int .i64 37, .int .i64 39, .int .i64 40] 3)).fr hf)
  clear hf
  obtain ⟨kb0, kb1, kb2, kb3, kb4, kb5, kb6, fb0, fb1, fb2, fb3, fb4, fb5, fb6⟩ := blkat7 HS.out.b
  go_upto_region 79 with (fail)
  have HS' := Lib.hid (HS.out.s0 (p))
  clear kb0 fb0 kb1 fb1 kb2 fb2 kb3 fb3 kb4 fb4 kb5 fb5 kb6 fb6
  clear HS
  generalize v12.setCell ⟨W.heap.size + 1, 0, none⟩ (.int .i64 (p)) = v13 at *
  have HS := HS'
  clear HS'
  obtain ⟨ka0, ka1, ka2, ka3, ka4, ka5, ka6, fa0, fa1, fa2, fa3, fa4, fa5, fa6⟩ := blkat7 HS.out.a
  obtain ⟨kb0, kb1, kb2, kb3, kb4, kb5, kb6, fb0, fb1, fb2, fb3, fb4, fb5, fb6⟩ := blkat7 HS.out.b
  go_wp2_with fail
  refine bodyPost_ret (results_ct rfl _ _ W.heap.size 24 #[.int .i64 (0), .int .i64 (0), .int .i64 (0), .int .i64 (0), .int .i64 (0), .int .i64 (0), .int .i64 (0)] (0, 0) _ rfl ?_ Try.underlying24 rfl (by kernel_rfl)) rfl ?_
  · exact blk7 HS.out.a _ _ _ _ _ _ _
  · exact ⟨rfl, by (repeat (first | (with_reducible exact HS.out.f) | (with_reducible refine Fr.setCell ?_ (Or.inr (by simp)) _)))⟩
set_option maxRecDepth 100000 in
set_option maxHeartbeats 4000000 in
theorem rdec_reg32 (w : Nat) (hw : w < 4294967296) (W : World) (ck : fld w 0 7 = 51) (d : fld w 25 7 = 32) (c : ¬ oneP [32, 0, 0, 0, 0, 38] (fld w 12 3) = 0) : Calls Try.prog 10 #[.int .u32 (w : Int)] W fun e w' => e = .returned (.tuple #[i7 (rdecP w).1, .bool (rdecP w).2]) ∧ Fr (fun _ => False) W w' := by
  have hK : rkindP w = (oneP [32, 0, 0, 0, 0, 38] (fld w 12 3), ((fld w 7 5 : Nat) : Int), ((fld w 15 5 : Nat) : Int), ((fld w 20 5 : Nat) : Int), 0, 0, 4) := by unfold rkindP; rw [if_neg (by omega), if_neg (by omega), if_neg (by omega), if_neg (by omega), if_neg (by omega), if_neg (by omega), if_neg (by omega), if_neg (by omega), if_pos ck, if_neg (by omega), if_pos d]
  have hP : rdecP w = ((oneP [32, 0, 0, 0, 0, 38] (fld w 12 3), ((fld w 7 5 : Nat) : Int), ((fld w 15 5 : Nat) : Int), ((fld w 20 5 : Nat) : Int), 0, 0, 4), true) := by rw [rdec_yes (by rw [hK]; exact c), hK]
  rw [hP]
  have H117 := insU_sq0 w hw
  have H1412 := insU_sq1 w hw
  have H1915 := insU_sq2 w hw
  have H2420 := insU_sq3 w hw
  have H3125 := insU_sq4 w hw
  have H3120 := insU_sq5 w hw
  have HSI := Lib.hid (show ∀ W, Calls Try.prog 27 #[.int .i64 ((fld w 20 12 : Nat) : Int), .int .i64 12] W fun e w' => e = .returned (.int .i64 (iP w)) ∧ Fr (fun _ => False) W w' from S_fr (fld w 20 12) 12 (by decide) (by decide) (by have := fld_lt w 20 12; omega))
  have H60 := Lib.hid (show ∀ W, Calls Try.prog 26 #[.int .u32 (w : Int), .int .i64 6, .int .i64 0] W fun e w' => e = .returned (.int .i64 (51)) ∧ Fr (fun _ => False) W w' from fun W => by have g := F_fr w 6 0 7 hw (by decide) (by decide) rfl W; rw [ck] at g; exact g)
  have HO := Lib.hid (show ∀ g W, Blk W g 3 #[.int .i64 32, .int .i64 0, .int .i64 0, .int .i64 0, .int .i64 0, .int .i64 38] → Calls Try.prog 28 #[.slice (some ⟨g, 0, none⟩) 6 6, .int .i64 ((fld w 12 3 : Nat) : Int)] W fun e w' => e = .returned (.int .i64 (oneP [32, 0, 0, 0, 0, 38] (fld w 12 3))) ∧ Fr (fun _ => False) W w' from fun g W hb => one_fr [32, 0, 0, 0, 0, 38] (by decide) (fld w 12 3) g 6 (by decide) 3 W hb)
  rw [d] at H3125
  have H3125 := Lib.hid (show ∀ W, Calls Try.prog 26 #[.int .u32 (w : Int), .int .i64 31, .int .i64 25] W fun e w' => e = .returned (.int .i64 32) ∧ Fr (fun _ => False) W w' from H3125.out)
  clear hP hK ck d
  generalize oneP [32, 0, 0, 0, 0, 38] (fld w 12 3) = p at *
  generalize fld w 12 3 = f3 at *
  generalize fld w 7 5 = rd at *
  generalize fld w 15 5 = r1 at *
  generalize fld w 20 5 = r2 at *
  have t0 : (p == 0) = false := beq_eq_false_iff_ne.2 c
  clear c
  go_enter Try.func10, Try.ntmps10
  go_wp2_with fail
  have HS := Lib.hid (DS.start W)
  generalize (W.alloc (.cells #[.int .i64 0, .int .i64 0, .int .i64 0, .int .i64 0, .int .i64 0, .int .i64 0, .int .i64 0] 24)).alloc (.cells #[.int .i64 0, .int .i64 0, .int .i64 0, .int .i64 0, .int .i64 0, .int .i64 0, .int .i64 4] 24) = wz at *
  refine (H117.out _).mono ?_
  rintro e v1 ⟨rfl, hf⟩
  have HS := Lib.hid (HS.out.fr hf)
  clear hf
  go_wp2_with fail
  refine (H1412.out _).mono ?_
  rintro e v2 ⟨rfl, hf⟩
  have HS := Lib.hid (HS.out.fr hf)
  clear hf
  go_wp2_with fail
  refine (H1915.out _).mono ?_
  rintro e v3 ⟨rfl, hf⟩
  have HS := Lib.hid (HS.out.fr hf)
  clear hf
  go_wp2_with fail
  refine (H2420.out _).mono ?_
  rintro e v4 ⟨rfl, hf⟩
  have HS := Lib.hid (HS.out.fr hf)
  clear hf
  go_wp2_with fail
  refine (H3125.out _).mono ?_
  rintro e v5 ⟨rfl, hf⟩
  have HS := Lib.hid (HS.out.fr hf)
  clear hf
  go_wp2_with fail
  refine (H3120.out _).mono ?_
  rintro e v6 ⟨rfl, hf⟩
  have HS := Lib.hid (HS.out.fr hf)
  clear hf
  go_wp2_with fail
  refine (HSI.out _).mono ?_
  rintro e v7 ⟨rfl, hf⟩
  have HS := Lib.hid (HS.out.fr hf)
  clear hf
  go_wp2_with fail
  refine (H60.out _).mono ?_
  rintro e v8 ⟨rfl, hf⟩
  have HS := Lib.hid (HS.out.fr hf)
  clear hf
  obtain ⟨kb0, kb1, kb2, kb3, kb4, kb5, kb6, fb0, fb1, fb2, fb3, fb4, fb5, fb6⟩ := blkat7 HS.out.b
  go_upto_region 46 with (fail)
  have HS' := Lib.hid (HS.out.s1 ((rd : Int)))
  clear kb0 fb0 kb1 fb1 kb2 fb2 kb3 fb3 kb4 fb4 kb5 fb5 kb6 fb6
  clear HS
  generalize v8.setCell ⟨W.heap.size + 1, 1, none⟩ (.int .i64 ((rd : Int))) = v9 at *
  have HS := HS'
  clear HS'
  obtain ⟨kb0, kb1, kb2, kb3, kb4, kb5, kb6, fb0, fb1, fb2, fb3, fb4, fb5, fb6⟩ := blkat7 HS.out.b
  go_upto_region 47 with (fail)
  have HS' := Lib.hid (HS.out.s2 ((r1 : Int)))
  clear kb0 fb0 kb1 fb1 kb2 fb2 kb3 fb3 kb4 fb4 kb5 fb5 kb6 fb6
  clear HS
  generalize v9.setCell ⟨W.heap.size + 1, 2, none⟩ (.int .i64 ((r1 : Int))) = v10 at *
  have HS := HS'
  clear HS'
  obtain ⟨kb0, kb1, kb2, kb3, kb4, kb5, kb6, fb0, fb1, fb2, fb3, fb4, fb5, fb6⟩ := blkat7 HS.out.b
  go_upto_region 48 with (fail)
  have HS' := Lib.hid (HS.out.s3 ((r2 : Int)))
  clear kb0 fb0 kb1 fb1 kb2 fb2 kb3 fb3 kb4 fb4 kb5 fb5 kb6 fb6
  clear HS
  generalize v10.setCell ⟨W.heap.size + 1, 3, none⟩ (.int .i64 ((r2 : Int))) = v11 at *
  have HS := HS'
  clear HS'
  go_wp2_with fail
  refine (HO.out _ _ (Blk.new _ _ _)).mono ?_
  rintro e v12 ⟨rfl, hf⟩
  have HS := Lib.hid ((HS.out.al (.cells #[.int .i64 32, .int .i64 0, .int .i64 0, .int .i64 0, .int .i64 0, .int .i64 38] 3)).fr hf)
  clear hf
  obtain ⟨kb0, kb1, kb2, kb3, kb4, kb5, kb6, fb0, fb1, fb2, fb3, fb4, fb5, fb6⟩ := blkat7 HS.out.b
  go_upto_region 79 with (fail)
  have HS' := Lib.hid (HS.out.s0 (p))
  clear kb0 fb0 kb1 fb1 kb2 fb2 kb3 fb3 kb4 fb4 kb5 fb5 kb6 fb6
  clear HS
  generalize v12.setCell ⟨W.heap.size + 1, 0, none⟩ (.int .i64 (p)) = v13 at *
  have HS := HS'
  clear HS'
  obtain ⟨ka0, ka1, ka2, ka3, ka4, ka5, ka6, fa0, fa1, fa2, fa3, fa4, fa5, fa6⟩ := blkat7 HS.out.a
  obtain ⟨kb0, kb1, kb2, kb3, kb4, kb5, kb6, fb0, fb1, fb2, fb3, fb4, fb5, fb6⟩ := blkat7 HS.out.b
  go_wp2_with fail
  refine bodyPost_ret (results_ct rfl _ _ W.heap.size 24 #[.int .i64 (p), .int .i64 ((rd : Int)), .int .i64 ((r1 : Int)), .int .i64 ((r2 : Int)), .int .i64 (0), .int .i64 (0), .int .i64 (4)] (0, 0) _ rfl ?_ Try.underlying24 rfl (by kernel_rfl)) rfl ?_
  · exact blk7 HS.out.a _ _ _ _ _ _ _
  · exact ⟨rfl, by (repeat (first | (with_reducible exact HS.out.f) | (with_reducible refine Fr.setCell ?_ (Or.inr (by simp)) _)))⟩
set_option maxRecDepth 100000 in
set_option maxHeartbeats 4000000 in
theorem rdec_reg32n (w : Nat) (hw : w < 4294967296) (W : World) (ck : fld w 0 7 = 51) (d : fld w 25 7 = 32) (c :  oneP [32, 0, 0, 0, 0, 38] (fld w 12 3) = 0) : Calls Try.prog 10 #[.int .u32 (w : Int)] W fun e w' => e = .returned (.tuple #[i7 (rdecP w).1, .bool (rdecP w).2]) ∧ Fr (fun _ => False) W w' := by
  have hK : rkindP w = (oneP [32, 0, 0, 0, 0, 38] (fld w 12 3), ((fld w 7 5 : Nat) : Int), ((fld w 15 5 : Nat) : Int), ((fld w 20 5 : Nat) : Int), 0, 0, 4) := by unfold rkindP; rw [if_neg (by omega), if_neg (by omega), if_neg (by omega), if_neg (by omega), if_neg (by omega), if_neg (by omega), if_neg (by omega), if_neg (by omega), if_pos ck, if_neg (by omega), if_pos d]
  have hP : rdecP w = (i0, false) := rdec_no (by rw [hK]; exact c)
  rw [hP]
  have H117 := insU_sq0 w hw
  have H1412 := insU_sq1 w hw
  have H1915 := insU_sq2 w hw
  have H2420 := insU_sq3 w hw
  have H3125 := insU_sq4 w hw
  have H3120 := insU_sq5 w hw
  have HSI := Lib.hid (show ∀ W, Calls Try.prog 27 #[.int .i64 ((fld w 20 12 : Nat) : Int), .int .i64 12] W fun e w' => e = .returned (.int .i64 (iP w)) ∧ Fr (fun _ => False) W w' from S_fr (fld w 20 12) 12 (by decide) (by decide) (by have := fld_lt w 20 12; omega))
  have H60 := Lib.hid (show ∀ W, Calls Try.prog 26 #[.int .u32 (w : Int), .int .i64 6, .int .i64 0] W fun e w' => e = .returned (.int .i64 (51)) ∧ Fr (fun _ => False) W w' from fun W => by have g := F_fr w 6 0 7 hw (by decide) (by decide) rfl W; rw [ck] at g; exact g)
  have HO := Lib.hid (show ∀ g W, Blk W g 3 #[.int .i64 32, .int .i64 0, .int .i64 0, .int .i64 0, .int .i64 0, .int .i64 38] → Calls Try.prog 28 #[.slice (some ⟨g, 0, none⟩) 6 6, .int .i64 ((fld w 12 3 : Nat) : Int)] W fun e w' => e = .returned (.int .i64 (oneP [32, 0, 0, 0, 0, 38] (fld w 12 3))) ∧ Fr (fun _ => False) W w' from fun g W hb => one_fr [32, 0, 0, 0, 0, 38] (by decide) (fld w 12 3) g 6 (by decide) 3 W hb)
  rw [d] at H3125
  have H3125 := Lib.hid (show ∀ W, Calls Try.prog 26 #[.int .u32 (w : Int), .int .i64 31, .int .i64 25] W fun e w' => e = .returned (.int .i64 32) ∧ Fr (fun _ => False) W w' from H3125.out)
  clear hP hK ck d
  generalize oneP [32, 0, 0, 0, 0, 38] (fld w 12 3) = p at *
  generalize fld w 12 3 = f3 at *
  generalize fld w 7 5 = rd at *
  generalize fld w 15 5 = r1 at *
  generalize fld w 20 5 = r2 at *
  have t0 : (p == 0) = true := beq_iff_eq.2 c
  clear c
  go_enter Try.func10, Try.ntmps10
  go_wp2_with fail
  have HS := Lib.hid (DS.start W)
  generalize (W.alloc (.cells #[.int .i64 0, .int .i64 0, .int .i64 0, .int .i64 0, .int .i64 0, .int .i64 0, .int .i64 0] 24)).alloc (.cells #[.int .i64 0, .int .i64 0, .int .i64 0, .int .i64 0, .int .i64 0, .int .i64 0, .int .i64 4] 24) = wz at *
  refine (H117.out _).mono ?_
  rintro e v1 ⟨rfl, hf⟩
  have HS := Lib.hid (HS.out.fr hf)
  clear hf
  go_wp2_with fail
  refine (H1412.out _).mono ?_
  rintro e v2 ⟨rfl, hf⟩
  have HS := Lib.hid (HS.out.fr hf)
  clear hf
  go_wp2_with fail
  refine (H1915.out _).mono ?_
  rintro e v3 ⟨rfl, hf⟩
  have HS := Lib.hid (HS.out.fr hf)
  clear hf
  go_wp2_with fail
  refine (H2420.out _).mono ?_
  rintro e v4 ⟨rfl, hf⟩
  have HS := Lib.hid (HS.out.fr hf)
  clear hf
  go_wp2_with fail
  refine (H3125.out _).mono ?_
  rintro e v5 ⟨rfl, hf⟩
  have HS := Lib.hid (HS.out.fr hf)
  clear hf
  go_wp2_with fail
  refine (H3120.out _).mono ?_
  rintro e v6 ⟨rfl, hf⟩
  have HS := Lib.hid (HS.out.fr hf)
  clear hf
  go_wp2_with fail
  refine (HSI.out _).mono ?_
  rintro e v7 ⟨rfl, hf⟩
  have HS := Lib.hid (HS.out.fr hf)
  clear hf
  go_wp2_with fail
  refine (H60.out _).mono ?_
  rintro e v8 ⟨rfl, hf⟩
  have HS := Lib.hid (HS.out.fr hf)
  clear hf
  obtain ⟨kb0, kb1, kb2, kb3, kb4, kb5, kb6, fb0, fb1, fb2, fb3, fb4, fb5, fb6⟩ := blkat7 HS.out.b
  go_upto_region 46 with (fail)
  have HS' := Lib.hid (HS.out.s1 ((rd : Int)))
  clear kb0 fb0 kb1 fb1 kb2 fb2 kb3 fb3 kb4 fb4 kb5 fb5 kb6 fb6
  clear HS
  generalize v8.setCell ⟨W.heap.size + 1, 1, none⟩ (.int .i64 ((rd : Int))) = v9 at *
  have HS := HS'
  clear HS'
  obtain ⟨kb0, kb1, kb2, kb3, kb4, kb5, kb6, fb0, fb1, fb2, fb3, fb4, fb5, fb6⟩ := blkat7 HS.out.b
  go_upto_region 47 with (fail)
  have HS' := Lib.hid (HS.out.s2 ((r1 : Int)))
  clear kb0 fb0 kb1 fb1 kb2 fb2 kb3 fb3 kb4 fb4 kb5 fb5 kb6 fb6
  clear HS
  generalize v9.setCell ⟨W.heap.size + 1, 2, none⟩ (.int .i64 ((r1 : Int))) = v10 at *
  have HS := HS'
  clear HS'
  obtain ⟨kb0, kb1, kb2, kb3, kb4, kb5, kb6, fb0, fb1, fb2, fb3, fb4, fb5, fb6⟩ := blkat7 HS.out.b
  go_upto_region 48 with (fail)
  have HS' := Lib.hid (HS.out.s3 ((r2 : Int)))
  clear kb0 fb0 kb1 fb1 kb2 fb2 kb3 fb3 kb4 fb4 kb5 fb5 kb6 fb6
  clear HS
  generalize v10.setCell ⟨W.heap.size + 1, 3, none⟩ (.int .i64 ((r2 : Int))) = v11 at *
  have HS := HS'
  clear HS'
  go_wp2_with fail
  refine (HO.out _ _ (Blk.new _ _ _)).mono ?_
  rintro e v12 ⟨rfl, hf⟩
  have HS := Lib.hid ((HS.out.al (.cells #[.int .i64 32, .int .i64 0, .int .i64 0, .int .i64 0, .int .i64 0, .int .i64 38] 3)).fr hf)
  clear hf
  obtain ⟨kb0, kb1, kb2, kb3, kb4, kb5, kb6, fb0, fb1, fb2, fb3, fb4, fb5, fb6⟩ := blkat7 HS.out.b
  go_upto_region 79 with (fail)
  have HS' := Lib.hid (HS.out.s0 (p))
  clear kb0 fb0 kb1 fb1 kb2 fb2 kb3 fb3 kb4 fb4 kb5 fb5 kb6 fb6
  clear HS
  generalize v12.setCell ⟨W.heap.size + 1, 0, none⟩ (.int .i64 (p)) = v13 at *
  have HS := HS'
  clear HS'
  obtain ⟨ka0, ka1, ka2, ka3, ka4, ka5, ka6, fa0, fa1, fa2, fa3, fa4, fa5, fa6⟩ := blkat7 HS.out.a
  obtain ⟨kb0, kb1, kb2, kb3, kb4, kb5, kb6, fb0, fb1, fb2, fb3, fb4, fb5, fb6⟩ := blkat7 HS.out.b
  go_wp2_with fail
  refine bodyPost_ret (results_ct rfl _ _ W.heap.size 24 #[.int .i64 (0), .int .i64 (0), .int .i64 (0), .int .i64 (0), .int .i64 (0), .int .i64 (0), .int .i64 (0)] (0, 0) _ rfl ?_ Try.underlying24 rfl (by kernel_rfl)) rfl ?_
  · exact blk7 HS.out.a _ _ _ _ _ _ _
  · exact ⟨rfl, by (repeat (first | (with_reducible exact HS.out.f) | (with_reducible refine Fr.setCell ?_ (Or.inr (by simp)) _)))⟩
set_option maxRecDepth 100000 in
set_option maxHeartbeats 4000000 in
theorem rdec_reg1 (w : Nat) (hw : w < 4294967296) (W : World) (ck : fld w 0 7 = 51) (d : fld w 25 7 = 1) (c : ¬ oneP [50, 51, 52, 53, 54, 55, 56, 57] (fld w 12 3) = 0) : Calls Try.prog 10 #[.int .u32 (w : Int)] W fun e w' => e = .returned (.tuple #[i7 (rdecP w).1, .bool (rdecP w).2]) ∧ Fr (fun _ => False) W w' := by
  have hK : rkindP w = (oneP [50, 51, 52, 53, 54, 55, 56, 57] (fld w 12 3), ((fld w 7 5 : Nat) : Int), ((fld w 15 5 : Nat) : Int), ((fld w 20 5 : Nat) : Int), 0, 0, 4) := by unfold rkindP; rw [if_neg (by omega), if_neg (by omega), if_neg (by omega), if_neg (by omega), if_neg (by omega), if_neg (by omega), if_neg (by omega), if_neg (by omega), if_pos ck, if_neg (by omega), if_neg (by omega), if_pos d]
  have hP : rdecP w = ((oneP [50, 51, 52, 53, 54, 55, 56, 57] (fld w 12 3), ((fld w 7 5 : Nat) : Int), ((fld w 15 5 : Nat) : Int), ((fld w 20 5 : Nat) : Int), 0, 0, 4), true) := by rw [rdec_yes (by rw [hK]; exact c), hK]
  rw [hP]
  have H117 := insU_sq0 w hw
  have H1412 := insU_sq1 w hw
  have H1915 := insU_sq2 w hw
  have H2420 := insU_sq3 w hw
  have H3125 := insU_sq4 w hw
  have H3120 := insU_sq5 w hw
  have HSI := Lib.hid (show ∀ W, Calls Try.prog 27 #[.int .i64 ((fld w 20 12 : Nat) : Int), .int .i64 12] W fun e w' => e = .returned (.int .i64 (iP w)) ∧ Fr (fun _ => False) W w' from S_fr (fld w 20 12) 12 (by decide) (by decide) (by have := fld_lt w 20 12; omega))
  have H60 := Lib.hid (show ∀ W, Calls Try.prog 26 #[.int .u32 (w : Int), .int .i64 6, .int .i64 0] W fun e w' => e = .returned (.int .i64 (51)) ∧ Fr (fun _ => False) W w' from fun W => by have g := F_fr w 6 0 7 hw (by decide) (by decide) rfl W; rw [ck] at g; exact g)
  have HO := Lib.hid (show ∀ g W, Blk W g 3 #[.int .i64 50, .int .i64 51, .int .i64 52, .int .i64 53, .int .i64 54, .int .i64 55, .int .i64 56, .int .i64 57] → Calls Try.prog 28 #[.slice (some ⟨g, 0, none⟩) 8 8, .int .i64 ((fld w 12 3 : Nat) : Int)] W fun e w' => e = .returned (.int .i64 (oneP [50, 51, 52, 53, 54, 55, 56, 57] (fld w 12 3))) ∧ Fr (fun _ => False) W w' from fun g W hb => one_fr [50, 51, 52, 53, 54, 55, 56, 57] (by decide) (fld w 12 3) g 8 (by decide) 3 W hb)
  rw [d] at H3125
  have H3125 := Lib.hid (show ∀ W, Calls Try.prog 26 #[.int .u32 (w : Int), .int .i64 31, .int .i64 25] W fun e w' => e = .returned (.int .i64 1) ∧ Fr (fun _ => False) W w' from H3125.out)
  clear hP hK ck d
  generalize oneP [50, 51, 52, 53, 54, 55, 56, 57] (fld w 12 3) = p at *
  generalize fld w 12 3 = f3 at *
  generalize fld w 7 5 = rd at *
  generalize fld w 15 5 = r1 at *
  generalize fld w 20 5 = r2 at *
  have t0 : (p == 0) = false := beq_eq_false_iff_ne.2 c
  clear c
  go_enter Try.func10, Try.ntmps10
  go_wp2_with fail
  have HS := Lib.hid (DS.start W)
  generalize (W.alloc (.cells #[.int .i64 0, .int .i64 0, .int .i64 0, .int .i64 0, .int .i64 0, .int .i64 0, .int .i64 0] 24)).alloc (.cells #[.int .i64 0, .int .i64 0, .int .i64 0, .int .i64 0, .int .i64 0, .int .i64 0, .int .i64 4] 24) = wz at *
  refine (H117.out _).mono ?_
  rintro e v1 ⟨rfl, hf⟩
  have HS := Lib.hid (HS.out.fr hf)
  clear hf
  go_wp2_with fail
  refine (H1412.out _).mono ?_
  rintro e v2 ⟨rfl, hf⟩
  have HS := Lib.hid (HS.out.fr hf)
  clear hf
  go_wp2_with fail
  refine (H1915.out _).mono ?_
  rintro e v3 ⟨rfl, hf⟩
  have HS := Lib.hid (HS.out.fr hf)
  clear hf
  go_wp2_with fail
  refine (H2420.out _).mono ?_
  rintro e v4 ⟨rfl, hf⟩
  have HS := Lib.hid (HS.out.fr hf)
  clear hf
  go_wp2_with fail
  refine (H3125.out _).mono ?_
  rintro e v5 ⟨rfl, hf⟩
  have HS := Lib.hid (HS.out.fr hf)
  clear hf
  go_wp2_with fail
  refine (H3120.out _).mono ?_
  rintro e v6 ⟨rfl, hf⟩
  have HS := Lib.hid (HS.out.fr hf)
  clear hf
  go_wp2_with fail
  refine (HSI.out _).mono ?_
  rintro e v7 ⟨rfl, hf⟩
  have HS := Lib.hid (HS.out.fr hf)
  clear hf
  go_wp2_with fail
  refine (H60.out _).mono ?_
  rintro e v8 ⟨rfl, hf⟩
  have HS := Lib.hid (HS.out.fr hf)
  clear hf
  obtain ⟨kb0, kb1, kb2, kb3, kb4, kb5, kb6, fb0, fb1, fb2, fb3, fb4, fb5, fb6⟩ := blkat7 HS.out.b
  go_upto_region 46 with (fail)
  have HS' := Lib.hid (HS.out.s1 ((rd : Int)))
  clear kb0 fb0 kb1 fb1 kb2 fb2 kb3 fb3 kb4 fb4 kb5 fb5 kb6 fb6
  clear HS
  generalize v8.setCell ⟨W.heap.size + 1, 1, none⟩ (.int .i64 ((rd : Int))) = v9 at *
  have HS := HS'
  clear HS'
  obtain ⟨kb0, kb1, kb2, kb3, kb4, kb5, kb6, fb0, fb1, fb2, fb3, fb4, fb5, fb6⟩ := blkat7 HS.out.b
  go_upto_region 47 with (fail)
  have HS' := Lib.hid (HS.out.s2 ((r1 : Int)))
  clear kb0 fb0 kb1 fb1 kb2 fb2 kb3 fb3 kb4 fb4 kb5 fb5 kb6 fb6
  clear HS
  generalize v9.setCell ⟨W.heap.size + 1, 2, none⟩ (.int .i64 ((r1 : Int))) = v10 at *
  have HS := HS'
  clear HS'
  obtain ⟨kb0, kb1, kb2, kb3, kb4, kb5, kb6, fb0, fb1, fb2, fb3, fb4, fb5, fb6⟩ := blkat7 HS.out.b
  go_upto_region 48 with (fail)
  have HS' := Lib.hid (HS.out.s3 ((r2 : Int)))
  clear kb0 fb0 kb1 fb1 kb2 fb2 kb3 fb3 kb4 fb4 kb5 fb5 kb6 fb6
  clear HS
  generalize v10.setCell ⟨W.heap.size + 1, 3, none⟩ (.int .i64 ((r2 : Int))) = v11 at *
  have HS := HS'
  clear HS'
  go_wp2_with fail
  refine (HO.out _ _ (Blk.new _ _ _)).mono ?_
  rintro e v12 ⟨rfl, hf⟩
  have HS := Lib.hid ((HS.out.al (.cells #[.int .i64 50, .int .i64 51, .int .i64 52, .int .i64 53, .int .i64 54, .int .i64 55, .int .i64 56, .int .i64 57] 3)).fr hf)
  clear hf
  obtain ⟨kb0, kb1, kb2, kb3, kb4, kb5, kb6, fb0, fb1, fb2, fb3, fb4, fb5, fb6⟩ := blkat7 HS.out.b
  go_upto_region 79 with (fail)
  have HS' := Lib.hid (HS.out.s0 (p))
  clear kb0 fb0 kb1 fb1 kb2 fb2 kb3 fb3 kb4 fb4 kb5 fb5 kb6 fb6
  clear HS
  generalize v12.setCell ⟨W.heap.size + 1, 0, none⟩ (.int .i64 (p)) = v13 at *
  have HS := HS'
  clear HS'
  obtain ⟨ka0, ka1, ka2, ka3, ka4, ka5, ka6, fa0, fa1, fa2, fa3, fa4, fa5, fa6⟩ := blkat7 HS.out.a
  obtain ⟨kb0, kb1, kb2, kb3, kb4, kb5, kb6, fb0, fb1, fb2, fb3, fb4, fb5, fb6⟩ := blkat7 HS.out.b
  go_wp2_with fail
  refine bodyPost_ret (results_ct rfl _ _ W.heap.size 24 #[.int .i64 (p), .int .i64 ((rd : Int)), .int .i64 ((r1 : Int)), .int .i64 ((r2 : Int)), .int .i64 (0), .int .i64 (0), .int .i64 (4)] (0, 0) _ rfl ?_ Try.underlying24 rfl (by kernel_rfl)) rfl ?_
  · exact blk7 HS.out.a _ _ _ _ _ _ _
  · exact ⟨rfl, by (repeat (first | (with_reducible exact HS.out.f) | (with_reducible refine Fr.setCell ?_ (Or.inr (by simp)) _)))⟩
set_option maxRecDepth 100000 in
set_option maxHeartbeats 4000000 in
theorem rdec_reg1n (w : Nat) (hw : w < 4294967296) (W : World) (ck : fld w 0 7 = 51) (d : fld w 25 7 = 1) (c :  oneP [50, 51, 52, 53, 54, 55, 56, 57] (fld w 12 3) = 0) : Calls Try.prog 10 #[.int .u32 (w : Int)] W fun e w' => e = .returned (.tuple #[i7 (rdecP w).1, .bool (rdecP w).2]) ∧ Fr (fun _ => False) W w' := by
  have hK : rkindP w = (oneP [50, 51, 52, 53, 54, 55, 56, 57] (fld w 12 3), ((fld w 7 5 : Nat) : Int), ((fld w 15 5 : Nat) : Int), ((fld w 20 5 : Nat) : Int), 0, 0, 4) := by unfold rkindP; rw [if_neg (by omega), if_neg (by omega), if_neg (by omega), if_neg (by omega), if_neg (by omega), if_neg (by omega), if_neg (by omega), if_neg (by omega), if_pos ck, if_neg (by omega), if_neg (by omega), if_pos d]
  have hP : rdecP w = (i0, false) := rdec_no (by rw [hK]; exact c)
  rw [hP]
  have H117 := insU_sq0 w hw
  have H1412 := insU_sq1 w hw
  have H1915 := insU_sq2 w hw
  have H2420 := insU_sq3 w hw
  have H3125 := insU_sq4 w hw
  have H3120 := insU_sq5 w hw
  have HSI := Lib.hid (show ∀ W, Calls Try.prog 27 #[.int .i64 ((fld w 20 12 : Nat) : Int), .int .i64 12] W fun e w' => e = .returned (.int .i64 (iP w)) ∧ Fr (fun _ => False) W w' from S_fr (fld w 20 12) 12 (by decide) (by decide) (by have := fld_lt w 20 12; omega))
  have H60 := Lib.hid (show ∀ W, Calls Try.prog 26 #[.int .u32 (w : Int), .int .i64 6, .int .i64 0] W fun e w' => e = .returned (.int .i64 (51)) ∧ Fr (fun _ => False) W w' from fun W => by have g := F_fr w 6 0 7 hw (by decide) (by decide) rfl W; rw [ck] at g; exact g)
  have HO := Lib.hid (show ∀ g W, Blk W g 3 #[.int .i64 50, .int .i64 51, .int .i64 52, .int .i64 53, .int .i64 54, .int .i64 55, .int .i64 56, .int .i64 57] → Calls Try.prog 28 #[.slice (some ⟨g, 0, none⟩) 8 8, .int .i64 ((fld w 12 3 : Nat) : Int)] W fun e w' => e = .returned (.int .i64 (oneP [50, 51, 52, 53, 54, 55, 56, 57] (fld w 12 3))) ∧ Fr (fun _ => False) W w' from fun g W hb => one_fr [50, 51, 52, 53, 54, 55, 56, 57] (by decide) (fld w 12 3) g 8 (by decide) 3 W hb)
  rw [d] at H3125
  have H3125 := Lib.hid (show ∀ W, Calls Try.prog 26 #[.int .u32 (w : Int), .int .i64 31, .int .i64 25] W fun e w' => e = .returned (.int .i64 1) ∧ Fr (fun _ => False) W w' from H3125.out)
  clear hP hK ck d
  generalize oneP [50, 51, 52, 53, 54, 55, 56, 57] (fld w 12 3) = p at *
  generalize fld w 12 3 = f3 at *
  generalize fld w 7 5 = rd at *
  generalize fld w 15 5 = r1 at *
  generalize fld w 20 5 = r2 at *
  have t0 : (p == 0) = true := beq_iff_eq.2 c
  clear c
  go_enter Try.func10, Try.ntmps10
  go_wp2_with fail
  have HS := Lib.hid (DS.start W)
  generalize (W.alloc (.cells #[.int .i64 0, .int .i64 0, .int .i64 0, .int .i64 0, .int .i64 0, .int .i64 0, .int .i64 0] 24)).alloc (.cells #[.int .i64 0, .int .i64 0, .int .i64 0, .int .i64 0, .int .i64 0, .int .i64 0, .int .i64 4] 24) = wz at *
  refine (H117.out _).mono ?_
  rintro e v1 ⟨rfl, hf⟩
  have HS := Lib.hid (HS.out.fr hf)
  clear hf
  go_wp2_with fail
  refine (H1412.out _).mono ?_
  rintro e v2 ⟨rfl, hf⟩
  have HS := Lib.hid (HS.out.fr hf)
  clear hf
  go_wp2_with fail
  refine (H1915.out _).mono ?_
  rintro e v3 ⟨rfl, hf⟩
  have HS := Lib.hid (HS.out.fr hf)
  clear hf
  go_wp2_with fail
  refine (H2420.out _).mono ?_
  rintro e v4 ⟨rfl, hf⟩
  have HS := Lib.hid (HS.out.fr hf)
  clear hf
  go_wp2_with fail
  refine (H3125.out _).mono ?_
  rintro e v5 ⟨rfl, hf⟩
  have HS := Lib.hid (HS.out.fr hf)
  clear hf
  go_wp2_with fail
  refine (H3120.out _).mono ?_
  rintro e v6 ⟨rfl, hf⟩
  have HS := Lib.hid (HS.out.fr hf)
  clear hf
  go_wp2_with fail
  refine (HSI.out _).mono ?_
  rintro e v7 ⟨rfl, hf⟩
  have HS := Lib.hid (HS.out.fr hf)
  clear hf
  go_wp2_with fail
  refine (H60.out _).mono ?_
  rintro e v8 ⟨rfl, hf⟩
  have HS := Lib.hid (HS.out.fr hf)
  clear hf
  obtain ⟨kb0, kb1, kb2, kb3, kb4, kb5, kb6, fb0, fb1, fb2, fb3, fb4, fb5, fb6⟩ := blkat7 HS.out.b
  go_upto_region 46 with (fail)
  have HS' := Lib.hid (HS.out.s1 ((rd : Int)))
  clear kb0 fb0 kb1 fb1 kb2 fb2 kb3 fb3 kb4 fb4 kb5 fb5 kb6 fb6
  clear HS
  generalize v8.setCell ⟨W.heap.size + 1, 1, none⟩ (.int .i64 ((rd : Int))) = v9 at *
  have HS := HS'
  clear HS'
  obtain ⟨kb0, kb1, kb2, kb3, kb4, kb5, kb6, fb0, fb1, fb2, fb3, fb4, fb5, fb6⟩ := blkat7 HS.out.b
  go_upto_region 47 with (fail)
  have HS' := Lib.hid (HS.out.s2 ((r1 : Int)))
  clear kb0 fb0 kb1 fb1 kb2 fb2 kb3 fb3 kb4 fb4 kb5 fb5 kb6 fb6
  clear HS
  generalize v9.setCell ⟨W.heap.size + 1, 2, none⟩ (.int .i64 ((r1 : Int))) = v10 at *
  have HS := HS'
  clear HS'
  obtain ⟨kb0, kb1, kb2, kb3, kb4, kb5, kb6, fb0, fb1, fb2, fb3, fb4, fb5, fb6⟩ := blkat7 HS.out.b
  go_upto_region 48 with (fail)
  have HS' := Lib.hid (HS.out.s3 ((r2 : Int)))
  clear kb0 fb0 kb1 fb1 kb2 fb2 kb3 fb3 kb4 fb4 kb5 fb5 kb6 fb6
  clear HS
  generalize v10.setCell ⟨W.heap.size + 1, 3, none⟩ (.int .i64 ((r2 : Int))) = v11 at *
  have HS := HS'
  clear HS'
  go_wp2_with fail
  refine (HO.out _ _ (Blk.new _ _ _)).mono ?_
  rintro e v12 ⟨rfl, hf⟩
  have HS := Lib.hid ((HS.out.al (.cells #[.int .i64 50, .int .i64 51, .int .i64 52, .int .i64 53, .int .i64 54, .int .i64 55, .int .i64 56, .int .i64 57] 3)).fr hf)
  clear hf
  obtain ⟨kb0, kb1, kb2, kb3, kb4, kb5, kb6, fb0, fb1, fb2, fb3, fb4, fb5, fb6⟩ := blkat7 HS.out.b
  go_upto_region 79 with (fail)
  have HS' := Lib.hid (HS.out.s0 (p))
  clear kb0 fb0 kb1 fb1 kb2 fb2 kb3 fb3 kb4 fb4 kb5 fb5 kb6 fb6
  clear HS
  generalize v12.setCell ⟨W.heap.size + 1, 0, none⟩ (.int .i64 (p)) = v13 at *
  have HS := HS'
  clear HS'
  obtain ⟨ka0, ka1, ka2, ka3, ka4, ka5, ka6, fa0, fa1, fa2, fa3, fa4, fa5, fa6⟩ := blkat7 HS.out.a
  obtain ⟨kb0, kb1, kb2, kb3, kb4, kb5, kb6, fb0, fb1, fb2, fb3, fb4, fb5, fb6⟩ := blkat7 HS.out.b
  go_wp2_with fail
  refine bodyPost_ret (results_ct rfl _ _ W.heap.size 24 #[.int .i64 (0), .int .i64 (0), .int .i64 (0), .int .i64 (0), .int .i64 (0), .int .i64 (0), .int .i64 (0)] (0, 0) _ rfl ?_ Try.underlying24 rfl (by kernel_rfl)) rfl ?_
  · exact blk7 HS.out.a _ _ _ _ _ _ _
  · exact ⟨rfl, by (repeat (first | (with_reducible exact HS.out.f) | (with_reducible refine Fr.setCell ?_ (Or.inr (by simp)) _)))⟩
set_option maxRecDepth 100000 in
set_option maxHeartbeats 4000000 in
theorem rdec_regx (w : Nat) (hw : w < 4294967296) (W : World) (ck : fld w 0 7 = 51) (e0 : fld w 25 7 ≠ 0) (e32 : fld w 25 7 ≠ 32) (e1 : fld w 25 7 ≠ 1) : Calls Try.prog 10 #[.int .u32 (w : Int)] W fun e w' => e = .returned (.tuple #[i7 (rdecP w).1, .bool (rdecP w).2]) ∧ Fr (fun _ => False) W w' := by
  have hK : rkindP w = (0, ((fld w 7 5 : Nat) : Int), ((fld w 15 5 : Nat) : Int), ((fld w 20 5 : Nat) : Int), 0, 0, 4) := by unfold rkindP; rw [if_neg (by omega), if_neg (by omega), if_neg (by omega), if_neg (by omega), if_neg (by omega), if_neg (by omega), if_neg (by omega), if_neg (by omega), if_pos ck, if_neg e0, if_neg e32, if_neg e1]
  have hP : rdecP w = (i0, false) := rdec_no (by rw [hK])
  rw [hP]
  have H117 := insU_sq0 w hw
  have H1412 := insU_sq1 w hw
  have H1915 := insU_sq2 w hw
  have H2420 := insU_sq3 w hw
  have H3125 := insU_sq4 w hw
  have H3120 := insU_sq5 w hw
  have HSI := Lib.hid (show ∀ W, Calls Try.prog 27 #[.int .i64 ((fld w 20 12 : Nat) : Int), .int .i64 12] W fun e w' => e = .returned (.int .i64 (iP w)) ∧ Fr (fun _ => False) W w' from S_fr (fld w 20 12) 12 (by decide) (by decide) (by have := fld_lt w 20 12; omega))
  have H60 := Lib.hid (show ∀ W, Calls Try.prog 26 #[.int .u32 (w : Int), .int .i64 6, .int .i64 0] W fun e w' => e = .returned (.int .i64 (51)) ∧ Fr (fun _ => False) W w' from fun W => by have g := F_fr w 6 0 7 hw (by decide) (by decide) rfl W; rw [ck] at g; exact g)
  have d0 : (((fld w 25 7 : Nat) : Int) == 0) = false := beq_eq_false_iff_ne.2 (by omega)
  have d32 : (((fld w 25 7 : Nat) : Int) == 32) = false := beq_eq_false_iff_ne.2 (by omega)
  have d1 : (((fld w 25 7 : Nat) : Int) == 1) = false := beq_eq_false_iff_ne.2 (by omega)
  clear hP hK ck e0 e32 e1
  generalize fld w 12 3 = f3 at *
  generalize fld w 25 7 = s7 at *
  generalize fld w 7 5 = rd at *
  generalize fld w 15 5 = r1 at *
  generalize fld w 20 5 = r2 at *
  generalize (s7 : Int) = y7 at *
  go_enter Try.func10, Try.ntmps10
  go_wp2_with fail
  have HS := Lib.hid (DS.start W)
  generalize (W.alloc (.cells #[.int .i64 0, .int .i64 0, .int .i64 0, .int .i64 0, .int .i64 0, .int .i64 0, .int .i64 0] 24)).alloc (.cells #[.int .i64 0, .int .i64 0, .int .i64 0, .int .i64 0, .int .i64 0, .int .i64 0, .int .i64 4] 24) = wz at *
  refine (H117.out _).mono ?_
  rintro e v1 ⟨rfl, hf⟩
  have HS := Lib.hid (HS.out.fr hf)
  clear hf
  go_wp2_with fail
  refine (H1412.out _).mono ?_
  rintro e v2 ⟨rfl, hf⟩
  have HS := Lib.hid (HS.out.fr hf)
  clear hf
  go_wp2_with fail
  refine (H1915.out _).mono ?_
  rintro e v3 ⟨rfl, hf⟩
  have HS := Lib.hid (HS.out.fr hf)
  clear hf
  go_wp2_with fail
  refine (H2420.out _).mono ?_
  rintro e v4 ⟨rfl, hf⟩
  have HS := Lib.hid (HS.out.fr hf)
  clear hf
  go_wp2_with fail
  refine (H3125.out _).mono ?_
  rintro e v5 ⟨rfl, hf⟩
  have HS := Lib.hid (HS.out.fr hf)
  clear hf
  go_wp2_with fail
  refine (H3120.out _).mono ?_
  rintro e v6 ⟨rfl, hf⟩
  have HS := Lib.hid (HS.out.fr hf)
  clear hf
  go_wp2_with fail
  refine (HSI.out _).mono ?_
  rintro e v7 ⟨rfl, hf⟩
  have HS := Lib.hid (HS.out.fr hf)
  clear hf
  go_wp2_with fail
  refine (H60.out _).mono ?_
  rintro e v8 ⟨rfl, hf⟩
  have HS := Lib.hid (HS.out.fr hf)
  clear hf
  obtain ⟨kb0, kb1, kb2, kb3, kb4, kb5, kb6, fb0, fb1, fb2, fb3, fb4, fb5, fb6⟩ := blkat7 HS.out.b
  go_upto_region 46 with (fail)
  have HS' := Lib.hid (HS.out.s1 ((rd : Int)))
  clear kb0 fb0 kb1 fb1 kb2 fb2 kb3 fb3 kb4 fb4 kb5 fb5 kb6 fb6
  clear HS
  generalize v8.setCell ⟨W.heap.size + 1, 1, none⟩ (.int .i64 ((rd : Int))) = v9 at *
  have HS := HS'
  clear HS'
  obtain ⟨kb0, kb1, kb2, kb3, kb4, kb5, kb6, fb0, fb1, fb2, fb3, fb4, fb5, fb6⟩ := blkat7 HS.out.b
  go_upto_region 47 with (fail)
  have HS' := Lib.hid (HS.out.s2 ((r1 : Int)))
  clear kb0 fb0 kb1 fb1 kb2 fb2 kb3 fb3 kb4 fb4 kb5 fb5 kb6 fb6
  clear HS
  generalize v9.setCell ⟨W.heap.size + 1, 2, none⟩ (.int .i64 ((r1 : Int))) = v10 at *
  have HS := HS'
  clear HS'
  obtain ⟨kb0, kb1, kb2, kb3, kb4, kb5, kb6, fb0, fb1, fb2, fb3, fb4, fb5, fb6⟩ := blkat7 HS.out.b
  go_upto_region 48 with (fail)
  have HS' := Lib.hid (HS.out.s3 ((r2 : Int)))
  clear kb0 fb0 kb1 fb1 kb2 fb2 kb3 fb3 kb4 fb4 kb5 fb5 kb6 fb6
  clear HS
  generalize v10.setCell ⟨W.heap.size + 1, 3, none⟩ (.int .i64 ((r2 : Int))) = v11 at *
  have HS := HS'
  clear HS'
  obtain ⟨ka0, ka1, ka2, ka3, ka4, ka5, ka6, fa0, fa1, fa2, fa3, fa4, fa5, fa6⟩ := blkat7 HS.out.a
  obtain ⟨kb0, kb1, kb2, kb3, kb4, kb5, kb6, fb0, fb1, fb2, fb3, fb4, fb5, fb6⟩ := blkat7 HS.out.b
  go_wp2_with fail
  refine bodyPost_ret (results_ct rfl _ _ W.heap.size 24 #[.int .i64 (0), .int .i64 (0), .int .i64 (0), .int .i64 (0), .int .i64 (0), .int .i64 (0), .int .i64 (0)] (0, 0) _ rfl ?_ Try.underlying24 rfl (by kernel_rfl)) rfl ?_
  · exact blk7 HS.out.a _ _ _ _ _ _ _
  · exact ⟨rfl, by (repeat (first | (with_reducible exact HS.out.f) | (with_reducible refine Fr.setCell ?_ (Or.inr (by simp)) _)))⟩
set_option maxRecDepth 100000 in
set_option maxHeartbeats 4000000 in
theorem rdec_regw0 (w : Nat) (hw : w < 4294967296) (W : World) (ck : fld w 0 7 = 59) (d : fld w 25 7 = 0) (c : ¬ oneP [45, 47, 0, 0, 0, 48] (fld w 12 3) = 0) : Calls Try.prog 10 #[.int .u32 (w : Int)] W fun e w' => e = .returned (.tuple #[i7 (rdecP w).1, .bool (rdecP w).2]) ∧ Fr (fun _ => False) W w' := by
  have hK : rkindP w = (oneP [45, 47, 0, 0, 0, 48] (fld w 12 3), ((fld w 7 5 : Nat) : Int), ((fld w 15 5 : Nat) : Int), ((fld w 20 5 : Nat) : Int), 0, 0, 4) := by unfold rkindP; rw [if_neg (by omega), if_neg (by omega), if_neg (by omega), if_neg (by omega), if_neg (by omega), if_neg (by omega), if_neg (by omega), if_neg (by omega), if_neg (by omega), if_pos ck, if_pos d]
  have hP : rdecP w = ((oneP [45, 47, 0, 0, 0, 48] (fld w 12 3), ((fld w 7 5 : Nat) : Int), ((fld w 15 5 : Nat) : Int), ((fld w 20 5 : Nat) : Int), 0, 0, 4), true) := by rw [rdec_yes (by rw [hK]; exact c), hK]
  rw [hP]
  have H117 := insU_sq0 w hw
  have H1412 := insU_sq1 w hw
  have H1915 := insU_sq2 w hw
  have H2420 := insU_sq3 w hw
  have H3125 := insU_sq4 w hw
  have H3120 := insU_sq5 w hw
  have HSI := Lib.hid (show ∀ W, Calls Try.prog 27 #[.int .i64 ((fld w 20 12 : Nat) : Int), .int .i64 12] W fun e w' => e = .returned (.int .i64 (iP w)) ∧ Fr (fun _ => False) W w' from S_fr (fld w 20 12) 12 (by decide) (by decide) (by have := fld_lt w 20 12; omega))
  have H60 := Lib.hid (show ∀ W, Calls Try.prog 26 #[.int .u32 (w : Int), .int .i64 6, .int .i64 0] W fun e w' => e = .returned (.int .i64 (59)) ∧ Fr (fun _ => False) W w' from fun W => by have g := F_fr w 6 0 7 hw (by decide) (by decide) rfl W; rw [ck] at g; exact g)
  have HO := Lib.hid (show ∀ g W, Blk W g 3 #[.int .i64 45, .int .i64 47, .int .i64 0, .int .i64 0, .int .i64 0, .int .i64 48] → Calls Try.prog 28 #[.slice (some ⟨g, 0, none⟩) 6 6, .int .i64 ((fld w 12 3 : Nat) : Int)] W fun e w' => e = .returned (.int .i64 (oneP [45, 47, 0, 0, 0, 48] (fld w 12 3))) ∧ Fr (fun _ => False) W w' from fun g W hb => one_fr [45, 47, 0, 0, 0, 48] (by decide) (fld w 12 3) g 6 (by decide) 3 W hb)
  rw [d] at H3125
  have H3125 := Lib.hid (show ∀ W, Calls Try.prog 26 #[.int .u32 (w : Int), .int .i64 31, .int .i64 25] W fun e w' => e = .returned (.int .i64 0) ∧ Fr (fun _ => False) W w' from H3125.out)
  clear hP hK ck d
  generalize oneP [45, 47, 0, 0, 0, 48] (fld w 12 3) = p at *
  generalize fld w 12 3 = f3 at *
  generalize fld w 7 5 = rd at *
  generalize fld w 15 5 = r1 at *
  generalize fld w 20 5 = r2 at *
  have t0 : (p == 0) = false := beq_eq_false_iff_ne.2 c
  clear c
  go_enter Try.func10, Try.ntmps10
  go_wp2_with fail
  have HS := Lib.hid (DS.start W)
  generalize (W.alloc (.cells #[.int .i64 0, .int .i64 0, .int .i64 0, .int .i64 0, .int .i64 0, .int .i64 0, .int .i64 0] 24)).alloc (.cells #[.int .i64 0, .int .i64 0, .int .i64 0, .int .i64 0, .int .i64 0, .int .i64 0, .int .i64 4] 24) = wz at *
  refine (H117.out _).mono ?_
  rintro e v1 ⟨rfl, hf⟩
  have HS := Lib.hid (HS.out.fr hf)
  clear hf
  go_wp2_with fail
  refine (H1412.out _).mono ?_
  rintro e v2 ⟨rfl, hf⟩
  have HS := Lib.hid (HS.out.fr hf)
  clear hf
  go_wp2_with fail
  refine (H1915.out _).mono ?_
  rintro e v3 ⟨rfl, hf⟩
  have HS := Lib.hid (HS.out.fr hf)
  clear hf
  go_wp2_with fail
  refine (H2420.out _).mono ?_
  rintro e v4 ⟨rfl, hf⟩
  have HS := Lib.hid (HS.out.fr hf)
  clear hf
  go_wp2_with fail
  refine (H3125.out _).mono ?_
  rintro e v5 ⟨rfl, hf⟩
  have HS := Lib.hid (HS.out.fr hf)
  clear hf
  go_wp2_with fail
  refine (H3120.out _).mono ?_
  rintro e v6 ⟨rfl, hf⟩
  have HS := Lib.hid (HS.out.fr hf)
  clear hf
  go_wp2_with fail
  refine (HSI.out _).mono ?_
  rintro e v7 ⟨rfl, hf⟩
  have HS := Lib.hid (HS.out.fr hf)
  clear hf
  go_wp2_with fail
  refine (H60.out _).mono ?_
  rintro e v8 ⟨rfl, hf⟩
  have HS := Lib.hid (HS.out.fr hf)
  clear hf
  obtain ⟨kb0, kb1, kb2, kb3, kb4, kb5, kb6, fb0, fb1, fb2, fb3, fb4, fb5, fb6⟩ := blkat7 HS.out.b
  go_upto_region 57 with (fail)
  have HS' := Lib.hid (HS.out.s1 ((rd : Int)))
  clear kb0 fb0 kb1 fb1 kb2 fb2 kb3 fb3 kb4 fb4 kb5 fb5 kb6 fb6
  clear HS
  generalize v8.setCell ⟨W.heap.size + 1, 1, none⟩ (.int .i64 ((rd : Int))) = v9 at *
  have HS := HS'
  clear HS'
  obtain ⟨kb0, kb1, kb2, kb3, kb4, kb5, kb6, fb0, fb1, fb2, fb3, fb4, fb5, fb6⟩ := blkat7 HS.out.b
  go_upto_region 58 with (fail)
  have HS' := Lib.hid (HS.out.s2 ((r1 : Int)))
  clear kb0 fb0 kb1 fb1 kb2 fb2 kb3 fb3 kb4 fb4 kb5 fb5 kb6 fb6
  clear HS
  generalize v9.setCell ⟨W.heap.size + 1, 2, none⟩ (.int .i64 ((r1 : Int))) = v10 at *
  have HS := HS'
  clear HS'
  obtain ⟨kb0, kb1, kb2, kb3, kb4, kb5, kb6, fb0, fb1, fb2, fb3, fb4, fb5, fb6⟩ := blkat7 HS.out.b
  go_upto_region 59 with (fail)
  have HS' := Lib.hid (HS.out.s3 ((r2 : Int)))
  clear kb0 fb0 kb1 fb1 kb2 fb2 kb3 fb3 kb4 fb4 kb5 fb5 kb6 fb6
  clear HS
  generalize v10.setCell ⟨W.heap.size + 1, 3, none⟩ (.int .i64 ((r2 : Int))) = v11 at *
  have HS := HS'
  clear HS'
  go_wp2_with fail
  refine (HO.out _ _ (Blk.new _ _ _)).mono ?_
  rintro e v12 ⟨rfl, hf⟩
  have HS := Lib.hid ((HS.out.al (.cells #[.int .i64 45, .int .i64 47, .int .i64 0, .int .i64 0, .int .i64 0, .int .i64 48] 3)).fr hf)
  clear hf
  obtain ⟨kb0, kb1, kb2, kb3, kb4, kb5, kb6, fb0, fb1, fb2, fb3, fb4, fb5, fb6⟩ := blkat7 HS.out.b
  go_upto_region 79 with (fail)
  have HS' := Lib.hid (HS.out.s0 (p))
  clear kb0 fb0 kb1 fb1 kb2 fb2 kb3 fb3 kb4 fb4 kb5 fb5 kb6 fb6
  clear HS
  generalize v12.setCell ⟨W.heap.size + 1, 0, none⟩ (.int .i64 (p)) = v13 at *
  have HS := HS'
  clear HS'
  obtain ⟨ka0, ka1, ka2, ka3, ka4, ka5, ka6, fa0, fa1, fa2, fa3, fa4, fa5, fa6⟩ := blkat7 HS.out.a
  obtain ⟨kb0, kb1, kb2, kb3, kb4, kb5, kb6, fb0, fb1, fb2, fb3, fb4, fb5, fb6⟩ := blkat7 HS.out.b
  go_wp2_with fail
  refine bodyPost_ret (results_ct rfl _ _ W.heap.size 24 #[.int .i64 (p), .int .i64 ((rd : Int)), .int .i64 ((r1 : Int)), .int .i64 ((r2 : Int)), .int .i64 (0), .int .i64 (0), .int .i64 (4)] (0, 0) _ rfl ?_ Try.underlying24 rfl (by kernel_rfl)) rfl ?_
  · exact blk7 HS.out.a _ _ _ _ _ _ _
  · exact ⟨rfl, by (repeat (first | (with_reducible exact HS.out.f) | (with_reducible refine Fr.setCell ?_ (Or.inr (by simp)) _)))⟩
set_option maxRecDepth 100000 in
set_option maxHeartbeats 4000000 in
theorem rdec_regw0n (w : Nat) (hw : w < 4294967296) (W : World) (ck : fld w 0 7 = 59) (d : fld w 25 7 = 0) (c :  oneP [45, 47, 0, 0, 0, 48] (fld w 12 3) = 0) : Calls Try.prog 10 #[.int .u32 (w : Int)] W fun e w' => e = .returned (.tuple #[i7 (rdecP w).1, .bool (rdecP w).2]) ∧ Fr (fun _ => False) W w' := by
  have hK : rkindP w = (oneP [45, 47, 0, 0, 0, 48] (fld w 12 3), ((fld w 7 5 : Nat) : Int), ((fld w 15 5 : Nat) : Int), ((fld w 20 5 : Nat) : Int), 0, 0, 4) := by unfold rkindP; rw [if_neg (by omega), if_neg (by omega), if_neg (by omega), if_neg (by omega), if_neg (by omega), if_neg (by omega), if_neg (by omega), if_neg (by omega), if_neg (by omega), if_pos ck, if_pos d]
  have hP : rdecP w = (i0, false) := rdec_no (by rw [hK]; exact c)
  rw [hP]
  have H117 := insU_sq0 w hw
  have H1412 := insU_sq1 w hw
  have H1915 := insU_sq2 w hw
  have H2420 := insU_sq3 w hw
  have H3125 := insU_sq4 w hw
  have H3120 := insU_sq5 w hw
  have HSI := Lib.hid (show ∀ W, Calls Try.prog 27 #[.int .i64 ((fld w 20 12 : Nat) : Int), .int .i64 12] W fun e w' => e = .returned (.int .i64 (iP w)) ∧ Fr (fun _ => False) W w' from S_fr (fld w 20 12) 12 (by decide) (by decide) (by have := fld_lt w 20 12; omega))
  have H60 := Lib.hid (show ∀ W, Calls Try.prog 26 #[.int .u32 (w : Int), .int .i64 6, .int .i64 0] W fun e w' => e = .returned (.int .i64 (59)) ∧ Fr (fun _ => False) W w' from fun W => by have g := F_fr w 6 0 7 hw (by decide) (by decide) rfl W; rw [ck] at g; exact g)
  have HO := Lib.hid (show ∀ g W, Blk W g 3 #[.int .i64 45, .int .i64 47, .int .i64 0, .int .i64 0, .int .i64 0, .int .i64 48] → Calls Try.prog 28 #[.slice (some ⟨g, 0, none⟩) 6 6, .int .i64 ((fld w 12 3 : Nat) : Int)] W fun e w' => e = .returned (.int .i64 (oneP [45, 47, 0, 0, 0, 48] (fld w 12 3))) ∧ Fr (fun _ => False) W w' from fun g W hb => one_fr [45, 47, 0, 0, 0, 48] (by decide) (fld w 12 3) g 6 (by decide) 3 W hb)
  rw [d] at H3125
  have H3125 := Lib.hid (show ∀ W, Calls Try.prog 26 #[.int .u32 (w : Int), .int .i64 31, .int .i64 25] W fun e w' => e = .returned (.int .i64 0) ∧ Fr (fun _ => False) W w' from H3125.out)
  clear hP hK ck d
  generalize oneP [45, 47, 0, 0, 0, 48] (fld w 12 3) = p at *
  generalize fld w 12 3 = f3 at *
  generalize fld w 7 5 = rd at *
  generalize fld w 15 5 = r1 at *
  generalize fld w 20 5 = r2 at *
  have t0 : (p == 0) = true := beq_iff_eq.2 c
  clear c
  go_enter Try.func10, Try.ntmps10
  go_wp2_with fail
  have HS := Lib.hid (DS.start W)
  generalize (W.alloc (.cells #[.int .i64 0, .int .i64 0, .int .i64 0, .int .i64 0, .int .i64 0, .int .i64 0, .int .i64 0] 24)).alloc (.cells #[.int .i64 0, .int .i64 0, .int .i64 0, .int .i64 0, .int .i64 0, .int .i64 0, .int .i64 4] 24) = wz at *
  refine (H117.out _).mono ?_
  rintro e v1 ⟨rfl, hf⟩
  have HS := Lib.hid (HS.out.fr hf)
  clear hf
  go_wp2_with fail
  refine (H1412.out _).mono ?_
  rintro e v2 ⟨rfl, hf⟩
  have HS := Lib.hid (HS.out.fr hf)
  clear hf
  go_wp2_with fail
  refine (H1915.out _).mono ?_
  rintro e v3 ⟨rfl, hf⟩
  have HS := Lib.hid (HS.out.fr hf)
  clear hf
  go_wp2_with fail
  refine (H2420.out _).mono ?_
  rintro e v4 ⟨rfl, hf⟩
  have HS := Lib.hid (HS.out.fr hf)
  clear hf
  go_wp2_with fail
  refine (H3125.out _).mono ?_
  rintro e v5 ⟨rfl, hf⟩
  have HS := Lib.hid (HS.out.fr hf)
  clear hf
  go_wp2_with fail
  refine (H3120.out _).mono ?_
  rintro e v6 ⟨rfl, hf⟩
  have HS := Lib.hid (HS.out.fr hf)
  clear hf
  go_wp2_with fail
  refine (HSI.out _).mono ?_
  rintro e v7 ⟨rfl, hf⟩
  have HS := Lib.hid (HS.out.fr hf)
  clear hf
  go_wp2_with fail
  refine (H60.out _).mono ?_
  rintro e v8 ⟨rfl, hf⟩
  have HS := Lib.hid (HS.out.fr hf)
  clear hf
  obtain ⟨kb0, kb1, kb2, kb3, kb4, kb5, kb6, fb0, fb1, fb2, fb3, fb4, fb5, fb6⟩ := blkat7 HS.out.b
  go_upto_region 57 with (fail)
  have HS' := Lib.hid (HS.out.s1 ((rd : Int)))
  clear kb0 fb0 kb1 fb1 kb2 fb2 kb3 fb3 kb4 fb4 kb5 fb5 kb6 fb6
  clear HS
  generalize v8.setCell ⟨W.heap.size + 1, 1, none⟩ (.int .i64 ((rd : Int))) = v9 at *
  have HS := HS'
  clear HS'
  obtain ⟨kb0, kb1, kb2, kb3, kb4, kb5, kb6, fb0, fb1, fb2, fb3, fb4, fb5, fb6⟩ := blkat7 HS.out.b
  go_upto_region 58 with (fail)
  have HS' := Lib.hid (HS.out.s2 ((r1 : Int)))
  clear kb0 fb0 kb1 fb1 kb2 fb2 kb3 fb3 kb4 fb4 kb5 fb5 kb6 fb6
  clear HS
  generalize v9.setCell ⟨W.heap.size + 1, 2, none⟩ (.int .i64 ((r1 : Int))) = v10 at *
  have HS := HS'
  clear HS'
  obtain ⟨kb0, kb1, kb2, kb3, kb4, kb5, kb6, fb0, fb1, fb2, fb3, fb4, fb5, fb6⟩ := blkat7 HS.out.b
  go_upto_region 59 with (fail)
  have HS' := Lib.hid (HS.out.s3 ((r2 : Int)))
  clear kb0 fb0 kb1 fb1 kb2 fb2 kb3 fb3 kb4 fb4 kb5 fb5 kb6 fb6
  clear HS
  generalize v10.setCell ⟨W.heap.size + 1, 3, none⟩ (.int .i64 ((r2 : Int))) = v11 at *
  have HS := HS'
  clear HS'
  go_wp2_with fail
  refine (HO.out _ _ (Blk.new _ _ _)).mono ?_
  rintro e v12 ⟨rfl, hf⟩
  have HS := Lib.hid ((HS.out.al (.cells #[.int .i64 45, .int .i64 47, .int .i64 0, .int .i64 0, .int .i64 0, .int .i64 48] 3)).fr hf)
  clear hf
  obtain ⟨kb0, kb1, kb2, kb3, kb4, kb5, kb6, fb0, fb1, fb2, fb3, fb4, fb5, fb6⟩ := blkat7 HS.out.b
  go_upto_region 79 with (fail)
  have HS' := Lib.hid (HS.out.s0 (p))
  clear kb0 fb0 kb1 fb1 kb2 fb2 kb3 fb3 kb4 fb4 kb5 fb5 kb6 fb6
  clear HS
  generalize v12.setCell ⟨W.heap.size + 1, 0, none⟩ (.int .i64 (p)) = v13 at *
  have HS := HS'
  clear HS'
  obtain ⟨ka0, ka1, ka2, ka3, ka4, ka5, ka6, fa0, fa1, fa2, fa3, fa4, fa5, fa6⟩ := blkat7 HS.out.a
  obtain ⟨kb0, kb1, kb2, kb3, kb4, kb5, kb6, fb0, fb1, fb2, fb3, fb4, fb5, fb6⟩ := blkat7 HS.out.b
  go_wp2_with fail
  refine bodyPost_ret (results_ct rfl _ _ W.heap.size 24 #[.int .i64 (0), .int .i64 (0), .int .i64 (0), .int .i64 (0), .int .i64 (0), .int .i64 (0), .int .i64 (0)] (0, 0) _ rfl ?_ Try.underlying24 rfl (by kernel_rfl)) rfl ?_
  · exact blk7 HS.out.a _ _ _ _ _ _ _
  · exact ⟨rfl, by (repeat (first | (with_reducible exact HS.out.f) | (with_reducible refine Fr.setCell ?_ (Or.inr (by simp)) _)))⟩
set_option maxRecDepth 100000 in
set_option maxHeartbeats 4000000 in
theorem rdec_regw32 (w : Nat) (hw : w < 4294967296) (W : World) (ck : fld w 0 7 = 59) (d : fld w 25 7 = 32) (c : ¬ oneP [46, 0, 0, 0, 0, 49] (fld w 12 3) = 0) : Calls Try.prog 10 #[.int .u32 (w : Int)] W fun e w' => e = .returned (.tuple #[i7 (rdecP w).1, .bool (rdecP w).2]) ∧ Fr (fun _ => False) W w' := by
  have hK : rkindP w = (oneP [46, 0, 0, 0, 0, 49] (fld w 12 3), ((fld w 7 5 : Nat) : Int), ((fld w 15 5 : Nat) : Int), ((fld w 20 5 : Nat) : Int), 0, 0, 4) := by unfold rkindP; rw [if_neg (by omega), if_neg (by omega), if_neg (by omega), if_neg (by omega), if_neg (by omega), if_neg (by omega), if_neg (by omega), if_neg (by omega), if_neg (by omega), if_pos ck, if_neg (by omega), if_pos d]
  have hP : rdecP w = ((oneP [46, 0, 0, 0, 0, 49] (fld w 12 3), ((fld w 7 5 : Nat) : Int), ((fld w 15 5 : Nat) : Int), ((fld w 20 5 : Nat) : Int), 0, 0, 4), true) := by rw [rdec_yes (by rw [hK]; exact c), hK]
  rw [hP]
  have H117 := insU_sq0 w hw
  have H1412 := insU_sq1 w hw
  have H1915 := insU_sq2 w hw
  have H2420 := insU_sq3 w hw
  have H3125 := insU_sq4 w hw
  have H3120 := insU_sq5 w hw
  have HSI := Lib.hid (show ∀ W, Calls Try.prog 27 #[.int .i64 ((fld w 20 12 : Nat) : Int), .int .i64 12] W fun e w' => e = .returned (.int .i64 (iP w)) ∧ Fr (fun _ => False) W w' from S_fr (fld w 20 12) 12 (by decide) (by decide) (by have := fld_lt w 20 12; omega))
  have H60 := Lib.hid (show ∀ W, Calls Try.prog 26 #[.int .u32 (w : Int), .int .i64 6, .int .i64 0] W fun e w' => e = .returned (.int .i64 (59)) ∧ Fr (fun _ => False) W w' from fun W => by have g := F_fr w 6 0 7 hw (by decide) (by decide) rfl W; rw [ck] at g; exact g)
  have HO := Lib.hid (show ∀ g W, Blk W g 3 #[.int .i64 46, .int .i64 0, .int .i64 0, .int .i64 0, .int .i64 0, .int .i64 49] → Calls Try.prog 28 #[.slice (some ⟨g, 0, none⟩) 6 6, .int .i64 ((fld w 12 3 : Nat) : Int)] W fun e w' => e = .returned (.int .i64 (oneP [46, 0, 0, 0, 0, 49] (fld w 12 3))) ∧ Fr (fun _ => False) W w' from fun g W hb => one_fr [46, 0, 0, 0, 0, 49] (by decide) (fld w 12 3) g 6 (by decide) 3 W hb)
  rw [d] at H3125
  have H3125 := Lib.hid (show ∀ W, Calls Try.prog 26 #[.int .u32 (w : Int), .int .i64 31, .int .i64 25] W fun e w' => e = .returned (.int .i64 32) ∧ Fr (fun _ => False) W w' from H3125.out)
  clear hP hK ck d
  generalize oneP [46, 0, 0, 0, 0, 49] (fld w 12 3) = p at *
  generalize fld w 12 3 = f3 at *
  generalize fld w 7 5 = rd at *
  generalize fld w 15 5 = r1 at *
  generalize fld w 20 5 = r2 at *
  have t0 : (p == 0) = false := beq_eq_false_iff_ne.2 c
  clear c
  go_enter Try.func10, Try.ntmps10
  go_wp2_with fail
  have HS := Lib.hid (DS.start W)
  generalize (W.alloc (.cells #[.int .i64 0, .int .i64 0, .int .i64 0, .int .i64 0, .int .i64 0, .int .i64 0, .int .i64 0] 24)).alloc (.cells #[.int .i64 0, .int .i64 0, .int .i64 0, .int .i64 0, .int .i64 0, .int .i64 0, .int .i64 4] 24) = wz at *
  refine (H117.out _).mono ?_
  rintro e v1 ⟨rfl, hf⟩
  have HS := Lib.hid (HS.out.fr hf)
  clear hf
  go_wp2_with fail
  refine (H1412.out _).mono ?_
  rintro e v2 ⟨rfl, hf⟩
  have HS := Lib.hid (HS.out.fr hf)
  clear hf
  go_wp2_with fail
  refine (H1915.out _).mono ?_
  rintro e v3 ⟨rfl, hf⟩
  have HS := Lib.hid (HS.out.fr hf)
  clear hf
  go_wp2_with fail
  refine (H2420.out _).mono ?_
  rintro e v4 ⟨rfl, hf⟩
  have HS := Lib.hid (HS.out.fr hf)
  clear hf
  go_wp2_with fail
  refine (H3125.out _).mono ?_
  rintro e v5 ⟨rfl, hf⟩
  have HS := Lib.hid (HS.out.fr hf)
  clear hf
  go_wp2_with fail
  refine (H3120.out _).mono ?_
  rintro e v6 ⟨rfl, hf⟩
  have HS := Lib.hid (HS.out.fr hf)
  clear hf
  go_wp2_with fail
  refine (HSI.out _).mono ?_
  rintro e v7 ⟨rfl, hf⟩
  have HS := Lib.hid (HS.out.fr hf)
  clear hf
  go_wp2_with fail
  refine (H60.out _).mono ?_
  rintro e v8 ⟨rfl, hf⟩
  have HS := Lib.hid (HS.out.fr hf)
  clear hf
  obtain ⟨kb0, kb1, kb2, kb3, kb4, kb5, kb6, fb0, fb1, fb2, fb3, fb4, fb5, fb6⟩ := blkat7 HS.out.b
  go_upto_region 57 with (fail)
  have HS' := Lib.hid (HS.out.s1 ((rd : Int)))
  clear kb0 fb0 kb1 fb1 kb2 fb2 kb3 fb3 kb4 fb4 kb5 fb5 kb6 fb6
  clear HS
  generalize v8.setCell ⟨W.heap.size + 1, 1, none⟩ (.int .i64 ((rd : Int))) = v9 at *
  have HS := HS'
  clear HS'
  obtain ⟨kb0, kb1, kb2, kb3, kb4, kb5, kb6, fb0, fb1, fb2, fb3, fb4, fb5, fb6⟩ := blkat7 HS.out.b
  go_upto_region 58 with (fail)
  have HS' := Lib.hid (HS.out.s2 ((r1 : Int)))
  clear kb0 fb0 kb1 fb1 kb2 fb2 kb3 fb3 kb4 fb4 kb5 fb5 kb6 fb6
  clear HS
  generalize v9.setCell ⟨W.heap.size + 1, 2, none⟩ (.int .i64 ((r1 : Int))) = v10 at *
  have HS := HS'
  clear HS'
  obtain ⟨kb0, kb1, kb2, kb3, kb4, kb5, kb6, fb0, fb1, fb2, fb3, fb4, fb5, fb6⟩ := blkat7 HS.out.b
  go_upto_region 59 with (fail)
  have HS' := Lib.hid (HS.out.s3 ((r2 : Int)))
  clear kb0 fb0 kb1 fb1 kb2 fb2 kb3 fb3 kb4 fb4 kb5 fb5 kb6 fb6
  clear HS
  generalize v10.setCell ⟨W.heap.size + 1, 3, none⟩ (.int .i64 ((r2 : Int))) = v11 at *
  have HS := HS'
  clear HS'
  go_wp2_with fail
  refine (HO.out _ _ (Blk.new _ _ _)).mono ?_
  rintro e v12 ⟨rfl, hf⟩
  have HS := Lib.hid ((HS.out.al (.cells #[.int .i64 46, .int .i64 0, .int .i64 0, .int .i64 0, .int .i64 0, .int .i64 49] 3)).fr hf)
  clear hf
  obtain ⟨kb0, kb1, kb2, kb3, kb4, kb5, kb6, fb0, fb1, fb2, fb3, fb4, fb5, fb6⟩ := blkat7 HS.out.b
  go_upto_region 79 with (fail)
  have HS' := Lib.hid (HS.out.s0 (p))
  clear kb0 fb0 kb1 fb1 kb2 fb2 kb3 fb3 kb4 fb4 kb5 fb5 kb6 fb6
  clear HS
  generalize v12.setCell ⟨W.heap.size + 1, 0, none⟩ (.int .i64 (p)) = v13 at *
  have HS := HS'
  clear HS'
  obtain ⟨ka0, ka1, ka2, ka3, ka4, ka5, ka6, fa0, fa1, fa2, fa3, fa4, fa5, fa6⟩ := blkat7 HS.out.a
  obtain ⟨kb0, kb1, kb2, kb3, kb4, kb5, kb6, fb0, fb1, fb2, fb3, fb4, fb5, fb6⟩ := blkat7 HS.out.b
  go_wp2_with fail
  refine bodyPost_ret (results_ct rfl _ _ W.heap.size 24 #[.int .i64 (p), .int .i64 ((rd : Int)), .int .i64 ((r1 : Int)), .int .i64 ((r2 : Int)), .int .i64 (0), .int .i64 (0), .int .i64 (4)] (0, 0) _ rfl ?_ Try.underlying24 rfl (by kernel_rfl)) rfl ?_
  · exact blk7 HS.out.a _ _ _ _ _ _ _
  · exact ⟨rfl, by (repeat (first | (with_reducible exact HS.out.f) | (with_reducible refine Fr.setCell ?_ (Or.inr (by simp)) _)))⟩
set_option maxRecDepth 100000 in
set_option maxHeartbeats 4000000 in
theorem rdec_regw32n (w : Nat) (hw : w < 4294967296) (W : World) (ck : fld w 0 7 = 59) (d : fld w 25 7 = 32) (c :  oneP [46, 0, 0, 0, 0, 49] (fld w 12 3) = 0) : Calls Try.prog 10 #[.int .u32 (w : Int)] W fun e w' => e = .returned (.tuple #[i7 (rdecP w).1, .bool (rdecP w).2]) ∧ Fr (fun _ => False) W w' := by
  have hK : rkindP w = (oneP [46, 0, 0, 0, 0, 49] (fld w 12 3), ((fld w 7 5 : Nat) : Int), ((fld w 15 5 : Nat) : Int), ((fld w 20 5 : Nat) : Int), 0, 0, 4) := by unfold rkindP; rw [if_neg (by omega), if_neg (by omega), if_neg (by omega), if_neg (by omega), if_neg (by omega), if_neg (by omega), if_neg (by omega), if_neg (by omega), if_neg (by omega), if_pos ck, if_neg (by omega), if_pos d]
  have hP : rdecP w = (i0, false) := rdec_no (by rw [hK]; exact c)
  rw [hP]
  have H117 := insU_sq0 w hw
  have H1412 := insU_sq1 w hw
  have H1915 := insU_sq2 w hw
  have H2420 := insU_sq3 w hw
  have H3125 := insU_sq4 w hw
  have H3120 := insU_sq5 w hw
  have HSI := Lib.hid (show ∀ W, Calls Try.prog 27 #[.int .i64 ((fld w 20 12 : Nat) : Int), .int .i64 12] W fun e w' => e = .returned (.int .i64 (iP w)) ∧ Fr (fun _ => False) W w' from S_fr (fld w 20 12) 12 (by decide) (by decide) (by have := fld_lt w 20 12; omega))
  have H60 := Lib.hid (show ∀ W, Calls Try.prog 26 #[.int .u32 (w : Int), .int .i64 6, .int .i64 0] W fun e w' => e = .returned (.int .i64 (59)) ∧ Fr (fun _ => False) W w' from fun W => by have g := F_fr w 6 0 7 hw (by decide) (by decide) rfl W; rw [ck] at g; exact g)
  have HO := Lib.hid (show ∀ g W, Blk W g 3 #[.int .i64 46, .int .i64 0, .int .i64 0, .int .i64 0, .int .i64 0, .int .i64 49] → Calls Try.prog 28 #[.slice (some ⟨g, 0, none⟩) 6 6, .int .i64 ((fld w 12 3 : Nat) : Int)] W fun e w' => e = .returned (.int .i64 (oneP [46, 0, 0, 0, 0, 49] (fld w 12 3))) ∧ Fr (fun _ => False) W w' from fun g W hb => one_fr [46, 0, 0, 0, 0, 49] (by decide) (fld w 12 3) g 6 (by decide) 3 W hb)
  rw [d] at H3125
  have H3125 := Lib.hid (show ∀ W, Calls Try.prog 26 #[.int .u32 (w : Int), .int .i64 31, .int .i64 25] W fun e w' => e = .returned (.int .i64 32) ∧ Fr (fun _ => False) W w' from H3125.out)
  clear hP hK ck d
  generalize oneP [46, 0, 0, 0, 0, 49] (fld w 12 3) = p at *
  generalize fld w 12 3 = f3 at *
  generalize fld w 7 5 = rd at *
  generalize fld w 15 5 = r1 at *
  generalize fld w 20 5 = r2 at *
  have t0 : (p == 0) = true := beq_iff_eq.2 c
  clear c
  go_enter Try.func10, Try.ntmps10
  go_wp2_with fail
  have HS := Lib.hid (DS.start W)
  generalize (W.alloc (.cells #[.int .i64 0, .int .i64 0, .int .i64 0, .int .i64 0, .int .i64 0, .int .i64 0, .int .i64 0] 24)).alloc (.cells #[.int .i64 0, .int .i64 0, .int .i64 0, .int .i64 0, .int .i64 0, .int .i64 0, .int .i64 4] 24) = wz at *
  refine (H117.out _).mono ?_
  rintro e v1 ⟨rfl, hf⟩
  have HS := Lib.hid (HS.out.fr hf)
  clear hf
  go_wp2_with fail
  refine (H1412.out _).mono ?_
  rintro e v2 ⟨rfl, hf⟩
  have HS := Lib.hid (HS.out.fr hf)
  clear hf
  go_wp2_with fail
  refine (H1915.out _).mono ?_
  rintro e v3 ⟨rfl, hf⟩
  have HS := Lib.hid (HS.out.fr hf)
  clear hf
  go_wp2_with fail
  refine (H2420.out _).mono ?_
  rintro e v4 ⟨rfl, hf⟩
  have HS := Lib.hid (HS.out.fr hf)
  clear hf
  go_wp2_with fail
  refine (H3125.out _).mono ?_
  rintro e v5 ⟨rfl, hf⟩
  have HS := Lib.hid (HS.out.fr hf)
  clear hf
  go_wp2_with fail
  refine (H3120.out _).mono ?_
  rintro e v6 ⟨rfl, hf⟩
  have HS := Lib.hid (HS.out.fr hf)
  clear hf
  go_wp2_with fail
  refine (HSI.out _).mono ?_
  rintro e v7 ⟨rfl, hf⟩
  have HS := Lib.hid (HS.out.fr hf)
  clear hf
  go_wp2_with fail
  refine (H60.out _).mono ?_
  rintro e v8 ⟨rfl, hf⟩
  have HS := Lib.hid (HS.out.fr hf)
  clear hf
  obtain ⟨kb0, kb1, kb2, kb3, kb4, kb5, kb6, fb0, fb1, fb2, fb3, fb4, fb5, fb6⟩ := blkat7 HS.out.b
  go_upto_region 57 with (fail)
  have HS' := Lib.hid (HS.out.s1 ((rd : Int)))
  clear kb0 fb0 kb1 fb1 kb2 fb2 kb3 fb3 kb4 fb4 kb5 fb5 kb6 fb6
  clear HS
  generalize v8.setCell ⟨W.heap.size + 1, 1, none⟩ (.int .i64 ((rd : Int))) = v9 at *
  have HS := HS'
  clear HS'
  obtain ⟨kb0, kb1, kb2, kb3, kb4, kb5, kb6, fb0, fb1, fb2, fb3, fb4, fb5, fb6⟩ := blkat7 HS.out.b
  go_upto_region 58 with (fail)
  have HS' := Lib.hid (HS.out.s2 ((r1 : Int)))
  clear kb0 fb0 kb1 fb1 kb2 fb2 kb3 fb3 kb4 fb4 kb5 fb5 kb6 fb6
  clear HS
  generalize v9.setCell ⟨W.heap.size + 1, 2, none⟩ (.int .i64 ((r1 : Int))) = v10 at *
  have HS := HS'
  clear HS'
  obtain ⟨kb0, kb1, kb2, kb3, kb4, kb5, kb6, fb0, fb1, fb2, fb3, fb4, fb5, fb6⟩ := blkat7 HS.out.b
  go_upto_region 59 with (fail)
  have HS' := Lib.hid (HS.out.s3 ((r2 : Int)))
  clear kb0 fb0 kb1 fb1 kb2 fb2 kb3 fb3 kb4 fb4 kb5 fb5 kb6 fb6
  clear HS
  generalize v10.setCell ⟨W.heap.size + 1, 3, none⟩ (.int .i64 ((r2 : Int))) = v11 at *
  have HS := HS'
  clear HS'
  go_wp2_with fail
  refine (HO.out _ _ (Blk.new _ _ _)).mono ?_
  rintro e v12 ⟨rfl, hf⟩
  have HS := Lib.hid ((HS.out.al (.cells #[.int .i64 46, .int .i64 0, .int .i64 0, .int .i64 0, .int .i64 0, .int .i64 49] 3)).fr hf)
  clear hf
  obtain ⟨kb0, kb1, kb2, kb3, kb4, kb5, kb6, fb0, fb1, fb2, fb3, fb4, fb5, fb6⟩ := blkat7 HS.out.b
  go_upto_region 79 with (fail)
  have HS' := Lib.hid (HS.out.s0 (p))
  clear kb0 fb0 kb1 fb1 kb2 fb2 kb3 fb3 kb4 fb4 kb5 fb5 kb6 fb6
  clear HS
  generalize v12.setCell ⟨W.heap.size + 1, 0, none⟩ (.int .i64 (p)) = v13 at *
  have HS := HS'
  clear HS'
  obtain ⟨ka0, ka1, ka2, ka3, ka4, ka5, ka6, fa0, fa1, fa2, fa3, fa4, fa5, fa6⟩ := blkat7 HS.out.a
  obtain ⟨kb0, kb1, kb2, kb3, kb4, kb5, kb6, fb0, fb1, fb2, fb3, fb4, fb5, fb6⟩ := blkat7 HS.out.b
  go_wp2_with fail
  refine bodyPost_ret (results_ct rfl _ _ W.heap.size 24 #[.int .i64 (0), .int .i64 (0), .int .i64 (0), .int .i64 (0), .int .i64 (0), .int .i64 (0), .int .i64 (0)] (0, 0) _ rfl ?_ Try.underlying24 rfl (by kernel_rfl)) rfl ?_
  · exact blk7 HS.out.a _ _ _ _ _ _ _
  · exact ⟨rfl, by (repeat (first | (with_reducible exact HS.out.f) | (with_reducible refine Fr.setCell ?_ (Or.inr (by simp)) _)))⟩
set_option maxRecDepth 100000 in
set_option maxHeartbeats 4000000 in
theorem rdec_regw1 (w : Nat) (hw : w < 4294967296) (W : World) (ck : fld w 0 7 = 59) (d : fld w 25 7 = 1) (c : ¬ oneP [58, 0, 0, 0, 59, 60, 61, 62] (fld w 12 3) = 0) : Calls Try.prog 10 #[.int .u32 (w : Int)] W fun e w' => e = .returned (.tuple #[i7 (rdecP w).1, .bool (rdecP w).2]) ∧ Fr (fun _ => False) W w' := by
  have hK : rkindP w = (oneP [58, 0, 0, 0, 59, 60, 61, 62] (fld w 12 3), ((fld w 7 5 : Nat) : Int), ((fld w 15 5 : Nat) : Int), ((fld w 20 5 : Nat) : Int), 0, 0, 4) := by unfold rkindP; rw [if_neg (by omega), if_neg (by omega), if_neg (by omega), if_neg (by omega), if_neg (by omega), if_neg (by omega), if_neg (by omega), if_neg (by omega), if_neg (by omega), if_pos ck, if_neg (by omega), if_neg (by omega), if_pos d]
  have hP : rdecP w = ((oneP [58, 0, 0, 0, 59, 60, 61, 62] (fld w 12 3), ((fld w 7 5 : Nat) : Int), ((fld w 15 5 : Nat) : Int), ((fld w 20 5 : Nat) : Int), 0, 0, 4), true) := by rw [rdec_yes (by rw [hK]; exact c), hK]
  rw [hP]
  have H117 := insU_sq0 w hw
  have H1412 := insU_sq1 w hw
  have H1915 := insU_sq2 w hw
  have H2420 := insU_sq3 w hw
  have H3125 := insU_sq4 w hw
  have H3120 := insU_sq5 w hw
  have HSI := Lib.hid (show ∀ W, Calls Try.prog 27 #[.int .i64 ((fld w 20 12 : Nat) : Int), .int .i64 12] W fun e w' => e = .returned (.int .i64 (iP w)) ∧ Fr (fun _ => False) W w' from S_fr (fld w 20 12) 12 (by decide) (by decide) (by have := fld_lt w 20 12; omega))
  have H60 := Lib.hid (show ∀ W, Calls Try.prog 26 #[.int .u32 (w : Int), .int .i64 6, .int .i64 0] W fun e w' => e = .returned (.int .i64 (59)) ∧ Fr (fun _ => False) W w' from fun W => by have g := F_fr w 6 0 7 hw (by decide) (by decide) rfl W; rw [ck] at g; exact g)
  have HO := Lib.hid (show ∀ g W, Blk W g 3 #[.int .i64 58, .int .i64 0, .int .i64 0, .int .i64 0, .int .i64 59, .int .i64 60, .int .i64 61, .int .i64 62] → Calls Try.prog 28 #[.slice (some ⟨g, 0, none⟩) 8 8, .int .i64 ((fld w 12 3 : Nat) : Int)] W fun e w' => e = .returned (.int .i64 (oneP [58, 0, 0, 0, 59, 60, 61, 62] (fld w 12 3))) ∧ Fr (fun _ => False) W w' from fun g W hb => one_fr [58, 0, 0, 0, 59, 60, 61, 62] (by decide) (fld w 12 3) g 8 (by decide) 3 W hb)
  rw [d] at H3125
  have H3125 := Lib.hid (show ∀ W, Calls Try.prog 26 #[.int .u32 (w : Int), .int .i64 31, .int .i64 25] W fun e w' => e = .returned (.int .i64 1) ∧ Fr (fun _ => False) W w' from H3125.out)
  clear hP hK ck d
  generalize oneP [58, 0, 0, 0, 59, 60, 61, 62] (fld w 12 3) = p at *
  generalize fld w 12 3 = f3 at *
  generalize fld w 7 5 = rd at *
  generalize fld w 15 5 = r1 at *
  generalize fld w 20 5 = r2 at *
  have t0 : (p == 0) = false := beq_eq_false_iff_ne.2 c
  clear c
  go_enter Try.func10, Try.ntmps10
  go_wp2_with fail
  have HS := Lib.hid (DS.start W)
  generalize (W.alloc (.cells #[.int .i64 0, .int .i64 0, .int .i64 0, .int .i64 0, .int .i64 0, .int .i64 0, .int .i64 0] 24)).alloc (.cells #[.int .i64 0, .int .i64 0, .int .i64 0, .int .i64 0, .int .i64 0, .int .i64 0, .int .i64 4] 24) = wz at *
  refine (H117.out _).mono ?_
  rintro e v1 ⟨rfl, hf⟩
  have HS := Lib.hid (HS.out.fr hf)
  clear hf
  go_wp2_with fail
  refine (H1412.out _).mono ?_
  rintro e v2 ⟨rfl, hf⟩
  have HS := Lib.hid (HS.out.fr hf)
  clear hf
  go_wp2_with fail
  refine (H1915.out _).mono ?_
  rintro e v3 ⟨rfl, hf⟩
  have HS := Lib.hid (HS.out.fr hf)
  clear hf
  go_wp2_with fail
  refine (H2420.out _).mono ?_
  rintro e v4 ⟨rfl, hf⟩
  have HS := Lib.hid (HS.out.fr hf)
  clear hf
  go_wp2_with fail
  refine (H3125.out _).mono ?_
  rintro e v5 ⟨rfl, hf⟩
  have HS := Lib.hid (HS.out.fr hf)
  clear hf
  go_wp2_with fail
  refine (H3120.out _).mono ?_
  rintro e v6 ⟨rfl, hf⟩
  have HS := Lib.hid (HS.out.fr hf)
  clear hf
  go_wp2_with fail
  refine (HSI.out _).mono ?_
  rintro e v7 ⟨rfl, hf⟩
  have HS := Lib.hid (HS.out.fr hf)
  clear hf
  go_wp2_with fail
  refine (H60.out _).mono ?_
  rintro e v8 ⟨rfl, hf⟩
  have HS := Lib.hid (HS.out.fr hf)
  clear hf
  obtain ⟨kb0, kb1, kb2, kb3, kb4, kb5, kb6, fb0, fb1, fb2, fb3, fb4, fb5, fb6⟩ := blkat7 HS.out.b
  go_upto_region 57 with (fail)
  have HS' := Lib.hid (HS.out.s1 ((rd : Int)))
  clear kb0 fb0 kb1 fb1 kb2 fb2 kb3 fb3 kb4 fb4 kb5 fb5 kb6 fb6
  clear HS
  generalize v8.setCell ⟨W.heap.size + 1, 1, none⟩ (.int .i64 ((rd : Int))) = v9 at *
  have HS := HS'
  clear HS'
  obtain ⟨kb0, kb1, kb2, kb3, kb4, kb5, kb6, fb0, fb1, fb2, fb3, fb4, fb5, fb6⟩ := blkat7 HS.out.b
  go_upto_region 58 with (fail)
  have HS' := Lib.hid (HS.out.s2 ((r1 : Int)))
  clear kb0 fb0 kb1 fb1 kb2 fb2 kb3 fb3 kb4 fb4 kb5 fb5 kb6 fb6
  clear HS
  generalize v9.setCell ⟨W.heap.size + 1, 2, none⟩ (.int .i64 ((r1 : Int))) = v10 at *
  have HS := HS'
  clear HS'
  obtain ⟨kb0, kb1, kb2, kb3, kb4, kb5, kb6, fb0, fb1, fb2, fb3, fb4, fb5, fb6⟩ := blkat7 HS.out.b
  go_upto_region 59 with (fail)
  have HS' := Lib.hid (HS.out.s3 ((r2 : Int)))
  clear kb0 fb0 kb1 fb1 kb2 fb2 kb3 fb3 kb4 fb4 kb5 fb5 kb6 fb6
  clear HS
  generalize v10.setCell ⟨W.heap.size + 1, 3, none⟩ (.int .i64 ((r2 : Int))) = v11 at *
  have HS := HS'
  clear HS'
  go_wp2_with fail
  refine (HO.out _ _ (Blk.new _ _ _)).mono ?_
  rintro e v12 ⟨rfl, hf⟩
  have HS := Lib.hid ((HS.out.al (.cells #[.int .i64 58, .int .i64 0, .int .i64 0, .int .i64 0, .int .i64 59, .int .i64 60, .int .i64 61, .int .i64 62] 3)).fr hf)
  clear hf
  obtain ⟨kb0, kb1, kb2, kb3, kb4, kb5, kb6, fb0, fb1, fb2, fb3, fb4, fb5, fb6⟩ := blkat7 HS.out.b
  go_upto_region 79 with (fail)
  have HS' := Lib.hid (HS.out.s0 (p))
  clear kb0 fb0 kb1 fb1 kb2 fb2 kb3 fb3 kb4 fb4 kb5 fb5 kb6 fb6
  clear HS
  generalize v12.setCell ⟨W.heap.size + 1, 0, none⟩ (.int .i64 (p)) = v13 at *
  have HS := HS'
  clear HS'
  obtain ⟨ka0, ka1, ka2, ka3, ka4, ka5, ka6, fa0, fa1, fa2, fa3, fa4, fa5, fa6⟩ := blkat7 HS.out.a
  obtain ⟨kb0, kb1, kb2, kb3, kb4, kb5, kb6, fb0, fb1, fb2, fb3, fb4, fb5, fb6⟩ := blkat7 HS.out.b
  go_wp2_with fail
  refine bodyPost_ret (results_ct rfl _ _ W.heap.size 24 #[.int .i64 (p), .int .i64 ((rd : Int)), .int .i64 ((r1 : Int)), .int .i64 ((r2 : Int)), .int .i64 (0), .int .i64 (0), .int .i64 (4)] (0, 0) _ rfl ?_ Try.underlying24 rfl (by kernel_rfl)) rfl ?_
  · exact blk7 HS.out.a _ _ _ _ _ _ _
  · exact ⟨rfl, by (repeat (first | (with_reducible exact HS.out.f) | (with_reducible refine Fr.setCell ?_ (Or.inr (by simp)) _)))⟩
set_option maxRecDepth 100000 in
set_option maxHeartbeats 4000000 in
theorem rdec_regw1n (w : Nat) (hw : w < 4294967296) (W : World) (ck : fld w 0 7 = 59) (d : fld w 25 7 = 1) (c :  oneP [58, 0, 0, 0, 59, 60, 61, 62] (fld w 12 3) = 0) : Calls Try.prog 10 #[.int .u32 (w : Int)] W fun e w' => e = .returned (.tuple #[i7 (rdecP w).1, .bool (rdecP w).2]) ∧ Fr (fun _ => False) W w' := by
  have hK : rkindP w = (oneP [58, 0, 0, 0, 59, 60, 61, 62] (fld w 12 3), ((fld w 7 5 : Nat) : Int), ((fld w 15 5 : Nat) : Int), ((fld w 20 5 : Nat) : Int), 0, 0, 4) := by unfold rkindP; rw [if_neg (by omega), if_neg (by omega), if_neg (by omega), if_neg (by omega), if_neg (by omega), if_neg (by omega), if_neg (by omega), if_neg (by omega), if_neg (by omega), if_pos ck, if_neg (by omega), if_neg (by omega), if_pos d]
  have hP : rdecP w = (i0, false) := rdec_no (by rw [hK]; exact c)
  rw [hP]
  have H117 := insU_sq0 w hw
  have H1412 := insU_sq1 w hw
  have H1915 := insU_sq2 w hw
  have H2420 := insU_sq3 w hw
  have H3125 := insU_sq4 w hw
  have H3120 := insU_sq5 w hw
  have HSI := Lib.hid (show ∀ W, Calls Try.prog 27 #[.int .i64 ((fld w 20 12 : Nat) : Int), .int .i64 12] W fun e w' => e = .returned (.int .i64 (iP w)) ∧ Fr (fun _ => False) W w' from S_fr (fld w 20 12) 12 (by decide) (by decide) (by have := fld_lt w 20 12; omega))
  have H60 := Lib.hid (show ∀ W, Calls Try.prog 26 #[.int .u32 (w : Int), .int .i64 6, .int .i64 0] W fun e w' => e = .returned (.int .i64 (59)) ∧ Fr (fun _ => False) W w' from fun W => by have g := F_fr w 6 0 7 hw (by decide) (by decide) rfl W; rw [ck] at g; exact g)
  have HO := Lib.hid (show ∀ g W, Blk W g 3 #[.int .i64 58, .int .i64 0, .int .i64 0, .int .i64 0, .int .i64 59, .int .i64 60, .int .i64 61, .int .i64 62] → Calls Try.prog 28 #[.slice (some ⟨g, 0, none⟩) 8 8, .int .i64 ((fld w 12 3 : Nat) : Int)] W fun e w' => e = .returned (.int .i64 (oneP [58, 0, 0, 0, 59, 60, 61, 62] (fld w 12 3))) ∧ Fr (fun _ => False) W w' from fun g W hb => one_fr [58, 0, 0, 0, 59, 60, 61, 62] (by decide) (fld w 12 3) g 8 (by decide) 3 W hb)
  rw [d] at H3125
  have H3125 := Lib.hid (show ∀ W, Calls Try.prog 26 #[.int .u32 (w : Int), .int .i64 31, .int .i64 25] W fun e w' => e = .returned (.int .i64 1) ∧ Fr (fun _ => False) W w' from H3125.out)
  clear hP hK ck d
  generalize oneP [58, 0, 0, 0, 59, 60, 61, 62] (fld w 12 3) = p at *
  generalize fld w 12 3 = f3 at *
  generalize fld w 7 5 = rd at *
  generalize fld w 15 5 = r1 at *
  generalize fld w 20 5 = r2 at *
  have t0 : (p == 0) = true := beq_iff_eq.2 c
  clear c
  go_enter Try.func10, Try.ntmps10
  go_wp2_with fail
  have HS := Lib.hid (DS.start W)
  generalize (W.alloc (.cells #[.int .i64 0, .int .i64 0, .int .i64 0, .int .i64 0, .int .i64 0, .int .i64 0, .int .i64 0] 24)).alloc (.cells #[.int .i64 0, .int .i64 0, .int .i64 0, .int .i64 0, .int .i64 0, .int .i64 0, .int .i64 4] 24) = wz at *
  refine (H117.out _).mono ?_
  rintro e v1 ⟨rfl, hf⟩
  have HS := Lib.hid (HS.out.fr hf)
  clear hf
  go_wp2_with fail
  refine (H1412.out _).mono ?_
  rintro e v2 ⟨rfl, hf⟩
  have HS := Lib.hid (HS.out.fr hf)
  clear hf
  go_wp2_with fail
  refine (H1915.out _).mono ?_
  rintro e v3 ⟨rfl, hf⟩
  have HS := Lib.hid (HS.out.fr hf)
  clear hf
  go_wp2_with fail
  refine (H2420.out _).mono ?_
  rintro e v4 ⟨rfl, hf⟩
  have HS := Lib.hid (HS.out.fr hf)
  clear hf
  go_wp2_with fail
  refine (H3125.out _).mono ?_
  rintro e v5 ⟨rfl, hf⟩
  have HS := Lib.hid (HS.out.fr hf)
  clear hf
  go_wp2_with fail
  refine (H3120.out _).mono ?_
  rintro e v6 ⟨rfl, hf⟩
  have HS := Lib.hid (HS.out.fr hf)
  clear hf
  go_wp2_with fail
  refine (HSI.out _).mono ?_
  rintro e v7 ⟨rfl, hf⟩
  have HS := Lib.hid (HS.out.fr hf)
  clear hf
  go_wp2_with fail
  refine (H60.out _).mono ?_
  rintro e v8 ⟨rfl, hf⟩
  have HS := Lib.hid (HS.out.fr hf)
  clear hf
  obtain ⟨kb0, kb1, kb2, kb3, kb4, kb5, kb6, fb0, fb1, fb2, fb3, fb4, fb5, fb6⟩ := blkat7 HS.out.b
  go_upto_region 57 with (fail)
  have HS' := Lib.hid (HS.out.s1 ((rd : Int)))
  clear kb0 fb0 kb1 fb1 kb2 fb2 kb3 fb3 kb4 fb4 kb5 fb5 kb6 fb6
  clear HS
  generalize v8.setCell ⟨W.heap.size + 1, 1, none⟩ (.int .i64 ((rd : Int))) = v9 at *
  have HS := HS'
  clear HS'
  obtain ⟨kb0, kb1, kb2, kb3, kb4, kb5, kb6, fb0, fb1, fb2, fb3, fb4, fb5, fb6⟩ := blkat7 HS.out.b
  go_upto_region 58 with (fail)
  have HS' := Lib.hid (HS.out.s2 ((r1 : Int)))
  clear kb0 fb0 kb1 fb1 kb2 fb2 kb3 fb3 kb4 fb4 kb5 fb5 kb6 fb6
  clear HS
  generalize v9.setCell ⟨W.heap.size + 1, 2, none⟩ (.int .i64 ((r1 : Int))) = v10 at *
  have HS := HS'
  clear HS'
  obtain ⟨kb0, kb1, kb2, kb3, kb4, kb5, kb6, fb0, fb1, fb2, fb3, fb4, fb5, fb6⟩ := blkat7 HS.out.b
  go_upto_region 59 with (fail)
  have HS' := Lib.hid (HS.out.s3 ((r2 : Int)))
  clear kb0 fb0 kb1 fb1 kb2 fb2 kb3 fb3 kb4 fb4 kb5 fb5 kb6 fb6
  clear HS
  generalize v10.setCell ⟨W.heap.size + 1, 3, none⟩ (.int .i64 ((r2 : Int))) = v11 at *
  have HS := HS'
  clear HS'
  go_wp2_with fail
  refine (HO.out _ _ (Blk.new _ _ _)).mono ?_
  rintro e v12 ⟨rfl, hf⟩
  have HS := Lib.hid ((HS.out.al (.cells #[.int .i64 58, .int .i64 0, .int .i64 0, .int .i64 0, .int .i64 59, .int .i64 60, .int .i64 61, .int .i64 62] 3)).fr hf)
  clear hf
  obtain ⟨kb0, kb1, kb2, kb3, kb4, kb5, kb6, fb0, fb1, fb2, fb3, fb4, fb5, fb6⟩ := blkat7 HS.out.b
  go_upto_region 79 with (fail)
  have HS' := Lib.hid (HS.out.s0 (p))
  clear kb0 fb0 kb1 fb1 kb2 fb2 kb3 fb3 kb4 fb4 kb5 fb5 kb6 fb6
  clear HS
  generalize v12.setCell ⟨W.heap.size + 1, 0, none⟩ (.int .i64 (p)) = v13 at *
  have HS := HS'
  clear HS'
  obtain ⟨ka0, ka1, ka2, ka3, ka4, ka5, ka6, fa0, fa1, fa2, fa3, fa4, fa5, fa6⟩ := blkat7 HS.out.a
  obtain ⟨kb0, kb1, kb2, kb3, kb4, kb5, kb6, fb0, fb1, fb2, fb3, fb4, fb5, fb6⟩ := blkat7 HS.out.b
  go_wp2_with fail
  refine bodyPost_ret (results_ct rfl _ _ W.heap.size 24 #[.int .i64 (0), .int .i64 (0), .int .i64 (0), .int .i64 (0), .int .i64 (0), .int .i64 (0), .int .i64 (0)] (0, 0) _ rfl ?_ Try.underlying24 rfl (by kernel_rfl)) rfl ?_
  · exact blk7 HS.out.a _ _ _ _ _ _ _
  · exact ⟨rfl, by (repeat (first | (with_reducible exact HS.out.f) | (with_reducible refine Fr.setCell ?_ (Or.inr (by simp)) _)))⟩
set_option maxRecDepth 100000 in
set_option maxHeartbeats 4000000 in
theorem rdec_regwx (w : Nat) (hw : w < 4294967296) (W : World) (ck : fld w 0 7 = 59) (e0 : fld w 25 7 ≠ 0) (e32 : fld w 25 7 ≠ 32) (e1 : fld w 25 7 ≠ 1) : Calls Try.prog 10 #[.int .u32 (w : Int)] W fun e w' => e = .returned (.tuple #[i7 (rdecP w).1, .bool (rdecP w).2]) ∧ Fr (fun _ => False) W w' := by
  have hK : rkindP w = (0, ((fld w 7 5 : Nat) : Int), ((fld w 15 5 : Nat) : Int), ((fld w 20 5 : Nat) : Int), 0, 0, 4) := by unfold rkindP; rw [if_neg (by omega), if_neg (by omega), if_neg (by omega), if_neg (by omega), if_neg (by omega), if_neg (by omega), if_neg (by omega), if_neg (by omega), if_neg (by omega), if_pos ck, if_neg e0, if_neg e32, if_neg e1]
  have hP : rdecP w = (i0, false) := rdec_no (by rw [hK])
  rw [hP]
  have H117 := insU_sq0 w hw
  have H1412 := insU_sq1 w hw
  have H1915 := insU_sq2 w hw
  have H2420 := insU_sq3 w hw
  have H3125 := insU_sq4 w hw
  have H3120 := insU_sq5 w hw
  have HSI := Lib.hid (show ∀ W, Calls Try.prog 27 #[.int .i64 ((fld w 20 12 : Nat) : Int), .int .i64 12] W fun e w' => e = .returned (.int .i64 (iP w)) ∧ Fr (fun _ => False) W w' from S_fr (fld w 20 12) 12 (by decide) (by decide) (by have := fld_lt w 20 12; omega))
  have H60 := Lib.hid (show ∀ W, Calls Try.prog 26 #[.int .u32 (w : Int), .int .i64 6, .int .i64 0] W fun e w' => e = .returned (.int .i64 (59)) ∧ Fr (fun _ => False) W w' from fun W => by have g := F_fr w 6 0 7 hw (by decide) (by decide) rfl W; rw [ck] at g; exact g)
  have d0 : (((fld w 25 7 : Nat) : Int) == 0) = false := beq_eq_false_iff_ne.2 (by omega)
  have d32 : (((fld w 25 7 : Nat) : Int) == 32) = false := beq_eq_false_iff_ne.2 (by omega)
  have d1 : (((fld w 25 7 : Nat) : Int) == 1) = false := beq_eq_false_iff_ne.2 (by omega)
  clear hP hK ck e0 e32 e1
  generalize fld w 12 3 = f3 at *
  generalize fld w 25 7 = s7 at *
  generalize fld w 7 5 = rd at *
  generalize fld w 15 5 = r1 at *
  generalize fld w 20 5 = r2 at *
  generalize (s7 : Int) = y7 at *
  go_enter Try.func10, Try.ntmps10
  go_wp2_with fail
  have HS := Lib.hid (DS.start W)
  generalize (W.alloc (.cells #[.int .i64 0, .int .i64 0, .int .i64 0, .int .i64 0, .int .i64 0, .int .i64 0, .int .i64 0] 24)).alloc (.cells #[.int .i64 0, .int .i64 0, .int .i64 0, .int .i64 0, .int .i64 0, .int .i64 0, .int .i64 4] 24) = wz at *
  refine (H117.out _).mono ?_
  rintro e v1 ⟨rfl, hf⟩
  have HS := Lib.hid (HS.out.fr hf)
  clear hf
  go_wp2_with fail
  refine (H1412.out _).mono ?_
  rintro e v2 ⟨rfl, hf⟩
  have HS := Lib.hid (HS.out.fr hf)
  clear hf
  go_wp2_with fail
  refine (H1915.out _).mono ?_
  rintro e v3 ⟨rfl, hf⟩
  have HS := Lib.hid (HS.out.fr hf)
  clear hf
  go_wp2_with fail
  refine (H2420.out _).mono ?_
  rintro e v4 ⟨rfl, hf⟩
  have HS := Lib.hid (HS.out.fr hf)
  clear hf
  go_wp2_with fail
  refine (H3125.out _).mono ?_
  rintro e v5 ⟨rfl, hf⟩
  have HS := Lib.hid (HS.out.fr hf)
  clear hf
  go_wp2_with fail
  refine (H3120.out _).mono ?_
  rintro e v6 ⟨rfl, hf⟩
  have HS := Lib.hid (HS.out.fr hf)
  clear hf
  go_wp2_with fail
  refine (HSI.out _).mono ?_
  rintro e v7 ⟨rfl, hf⟩
  have HS := Lib.hid (HS.out.fr hf)
  clear hf
  go_wp2_with fail
  refine (H60.out _).mono ?_
  rintro e v8 ⟨rfl, hf⟩
  have HS := Lib.hid (HS.out.fr hf)
  clear hf
  obtain ⟨kb0, kb1, kb2, kb3, kb4, kb5, kb6, fb0, fb1, fb2, fb3, fb4, fb5, fb6⟩ := blkat7 HS.out.b
  go_upto_region 57 with (fail)
  have HS' := Lib.hid (HS.out.s1 ((rd : Int)))
  clear kb0 fb0 kb1 fb1 kb2 fb2 kb3 fb3 kb4 fb4 kb5 fb5 kb6 fb6
  clear HS
  generalize v8.setCell ⟨W.heap.size + 1, 1, none⟩ (.int .i64 ((rd : Int))) = v9 at *
  have HS := HS'
  clear HS'
  obtain ⟨kb0, kb1, kb2, kb3, kb4, kb5, kb6, fb0, fb1, fb2, fb3, fb4, fb5, fb6⟩ := blkat7 HS.out.b
  go_upto_region 58 with (fail)
  have HS' := Lib.hid (HS.out.s2 ((r1 : Int)))
  clear kb0 fb0 kb1 fb1 kb2 fb2 kb3 fb3 kb4 fb4 kb5 fb5 kb6 fb6
  clear HS
  generalize v9.setCell ⟨W.heap.size + 1, 2, none⟩ (.int .i64 ((r1 : Int))) = v10 at *
  have HS := HS'
  clear HS'
  obtain ⟨kb0, kb1, kb2, kb3, kb4, kb5, kb6, fb0, fb1, fb2, fb3, fb4, fb5, fb6⟩ := blkat7 HS.out.b
  go_upto_region 59 with (fail)
  have HS' := Lib.hid (HS.out.s3 ((r2 : Int)))
  clear kb0 fb0 kb1 fb1 kb2 fb2 kb3 fb3 kb4 fb4 kb5 fb5 kb6 fb6
  clear HS
  generalize v10.setCell ⟨W.heap.size + 1, 3, none⟩ (.int .i64 ((r2 : Int))) = v11 at *
  have HS := HS'
  clear HS'
  obtain ⟨ka0, ka1, ka2, ka3, ka4, ka5, ka6, fa0, fa1, fa2, fa3, fa4, fa5, fa6⟩ := blkat7 HS.out.a
  obtain ⟨kb0, kb1, kb2, kb3, kb4, kb5, kb6, fb0, fb1, fb2, fb3, fb4, fb5, fb6⟩ := blkat7 HS.out.b
  go_wp2_with fail
  refine bodyPost_ret (results_ct rfl _ _ W.heap.size 24 #[.int .i64 (0), .int .i64 (0), .int .i64 (0), .int .i64 (0), .int .i64 (0), .int .i64 (0), .int .i64 (0)] (0, 0) _ rfl ?_ Try.underlying24 rfl (by kernel_rfl)) rfl ?_
  · exact blk7 HS.out.a _ _ _ _ _ _ _
  · exact ⟨rfl, by (repeat (first | (with_reducible exact HS.out.f) | (with_reducible refine Fr.setCell ?_ (Or.inr (by simp)) _)))⟩
set_option maxRecDepth 100000 in
set_option maxHeartbeats 4000000 in
theorem rdec_amo (w : Nat) (hw : w < 4294967296) (W : World) (ck : fld w 0 7 = 47) (c : ¬ amoR (fld w 27 5) (fld w 20 5) (fld w 12 3) = 0) : Calls Try.prog 10 #[.int .u32 (w : Int)] W fun e w' => e = .returned (.tuple #[i7 (rdecP w).1, .bool (rdecP w).2]) ∧ Fr (fun _ => False) W w' := by
  have hK : rkindP w = (amoR (fld w 27 5) (fld w 20 5) (fld w 12 3), ((fld w 7 5 : Nat) : Int), ((fld w 15 5 : Nat) : Int), ((fld w 20 5 : Nat) : Int), 0, ((fld w 25 2 : Nat) : Int), 4) := by unfold rkindP; rw [if_neg (by omega), if_neg (by omega), if_neg (by omega), if_neg (by omega), if_neg (by omega), if_neg (by omega), if_neg (by omega), if_neg (by omega), if_neg (by omega), if_neg (by omega), if_pos ck]
  have hP : rdecP w = ((amoR (fld w 27 5) (fld w 20 5) (fld w 12 3), ((fld w 7 5 : Nat) : Int), ((fld w 15 5 : Nat) : Int), ((fld w 20 5 : Nat) : Int), 0, ((fld w 25 2 : Nat) : Int), 4), true) := by rw [rdec_yes (by rw [hK]; exact c), hK]
  rw [hP]
  have H117 := insU_sq0 w hw
  have H1412 := insU_sq1 w hw
  have H1915 := insU_sq2 w hw
  have H2420 := insU_sq3 w hw
  have H3125 := insU_sq4 w hw
  have H3120 := insU_sq5 w hw
  have HSI := Lib.hid (show ∀ W, Calls Try.prog 27 #[.int .i64 ((fld w 20 12 : Nat) : Int), .int .i64 12] W fun e w' => e = .returned (.int .i64 (iP w)) ∧ Fr (fun _ => False) W w' from S_fr (fld w 20 12) 12 (by decide) (by decide) (by have := fld_lt w 20 12; omega))
  have H60 := Lib.hid (show ∀ W, Calls Try.prog 26 #[.int .u32 (w : Int), .int .i64 6, .int .i64 0] W fun e w' => e = .returned (.int .i64 (47)) ∧ Fr (fun _ => False) W w' from fun W => by have g := F_fr w 6 0 7 hw (by decide) (by decide) rfl W; rw [ck] at g; exact g)
  have HF1 := Lib.hid (show ∀ W, Calls Try.prog 26 #[.int .u32 (w : Int), .int .i64 26, .int .i64 25] W fun e w' => e = .returned (.int .i64 (((fld w 25 2 : Nat) : Int))) ∧ Fr (fun _ => False) W w' from F_fr w 26 25 2 hw (by decide) (by decide) rfl)
  have HF2 := Lib.hid (show ∀ W, Calls Try.prog 26 #[.int .u32 (w : Int), .int .i64 31, .int .i64 27] W fun e w' => e = .returned (.int .i64 (((fld w 27 5 : Nat) : Int))) ∧ Fr (fun _ => False) W w' from F_fr w 31 27 5 hw (by decide) (by decide) rfl)
  have HW := Lib.hid (show ∀ g W, Blk W g 24 #[.int .i64 0, .int .i64 (((fld w 7 5 : Nat) : Int)), .int .i64 (((fld w 15 5 : Nat) : Int)), .int .i64 (((fld w 20 5 : Nat) : Int)), .int .i64 0, .int .i64 (((fld w 25 2 : Nat) : Int)), .int .i64 4] → Calls Try.prog 30 #[.int .i64 (((fld w 27 5 : Nat) : Int)), .int .i64 (((fld w 12 3 : Nat) : Int)), .pointer (some ⟨g, 0, none⟩)] W fun e w' => e = .returned (.tuple #[]) ∧ PS W w' g (amoR (fld w 27 5) (fld w 20 5) (fld w 12 3)) (((fld w 7 5 : Nat) : Int)) (((fld w 15 5 : Nat) : Int)) (((fld w 20 5 : Nat) : Int)) 0 (((fld w 25 2 : Nat) : Int)) 4 from fun g W hb => ratomic_fr (fld w 27 5) (fld w 12 3) (fld w 20 5) (fld_lt w 27 5) (fld_lt w 12 3) _ _ _ _ _ g W hb)
  clear hP hK ck
  generalize amoR (fld w 27 5) (fld w 20 5) (fld w 12 3) = p at *
  generalize fld w 12 3 = f3 at *
  generalize fld w 27 5 = f5 at *
  generalize fld w 25 2 = q at *
  generalize fld w 7 5 = rd at *
  generalize fld w 15 5 = r1 at *
  generalize fld w 20 5 = r2 at *
  have t0 : (p == 0) = false := beq_eq_false_iff_ne.2 c
  clear c
  go_enter Try.func10, Try.ntmps10
  go_wp2_with fail
  have HS := Lib.hid (DS.start W)
  generalize (W.alloc (.cells #[.int .i64 0, .int .i64 0, .int .i64 0, .int .i64 0, .int .i64 0, .int .i64 0, .int .i64 0] 24)).alloc (.cells #[.int .i64 0, .int .i64 0, .int .i64 0, .int .i64 0, .int .i64 0, .int .i64 0, .int .i64 4] 24) = wz at *
  refine (H117.out _).mono ?_
  rintro e v1 ⟨rfl, hf⟩
  have HS := Lib.hid (HS.out.fr hf)
  clear hf
  go_wp2_with fail
  refine (H1412.out _).mono ?_
  rintro e v2 ⟨rfl, hf⟩
  have HS := Lib.hid (HS.out.fr hf)
  clear hf
  go_wp2_with fail
  refine (H1915.out _).mono ?_
  rintro e v3 ⟨rfl, hf⟩
  have HS := Lib.hid (HS.out.fr hf)
  clear hf
  go_wp2_with fail
  refine (H2420.out _).mono ?_
  rintro e v4 ⟨rfl, hf⟩
  have HS := Lib.hid (HS.out.fr hf)
  clear hf
  go_wp2_with fail
  refine (H3125.out _).mono ?_
  rintro e v5 ⟨rfl, hf⟩
  have HS := Lib.hid (HS.out.fr hf)
  clear hf
  go_wp2_with fail
  refine (H3120.out _).mono ?_
  rintro e v6 ⟨rfl, hf⟩
  have HS := Lib.hid (HS.out.fr hf)
  clear hf
  go_wp2_with fail
  refine (HSI.out _).mono ?_
  rintro e v7 ⟨rfl, hf⟩
  have HS := Lib.hid (HS.out.fr hf)
  clear hf
  go_wp2_with fail
  refine (H60.out _).mono ?_
  rintro e v8 ⟨rfl, hf⟩
  have HS := Lib.hid (HS.out.fr hf)
  clear hf
  obtain ⟨kb0, kb1, kb2, kb3, kb4, kb5, kb6, fb0, fb1, fb2, fb3, fb4, fb5, fb6⟩ := blkat7 HS.out.b
  go_upto_region 68 with (fail)
  have HS' := Lib.hid (HS.out.s1 ((rd : Int)))
  clear kb0 fb0 kb1 fb1 kb2 fb2 kb3 fb3 kb4 fb4 kb5 fb5 kb6 fb6
  clear HS
  generalize v8.setCell ⟨W.heap.size + 1, 1, none⟩ (.int .i64 ((rd : Int))) = v9 at *
  have HS := HS'
  clear HS'
  obtain ⟨kb0, kb1, kb2, kb3, kb4, kb5, kb6, fb0, fb1, fb2, fb3, fb4, fb5, fb6⟩ := blkat7 HS.out.b
  go_upto_region 69 with (fail)
  have HS' := Lib.hid (HS.out.s2 ((r1 : Int)))
  clear kb0 fb0 kb1 fb1 kb2 fb2 kb3 fb3 kb4 fb4 kb5 fb5 kb6 fb6
  clear HS
  generalize v9.setCell ⟨W.heap.size + 1, 2, none⟩ (.int .i64 ((r1 : Int))) = v10 at *
  have HS := HS'
  clear HS'
  obtain ⟨kb0, kb1, kb2, kb3, kb4, kb5, kb6, fb0, fb1, fb2, fb3, fb4, fb5, fb6⟩ := blkat7 HS.out.b
  go_upto_region 70 with (fail)
  have HS' := Lib.hid (HS.out.s3 ((r2 : Int)))
  clear kb0 fb0 kb1 fb1 kb2 fb2 kb3 fb3 kb4 fb4 kb5 fb5 kb6 fb6
  clear HS
  generalize v10.setCell ⟨W.heap.size + 1, 3, none⟩ (.int .i64 ((r2 : Int))) = v11 at *
  have HS := HS'
  clear HS'
  go_wp2_with fail
  refine (HF1.out _).mono ?_
  rintro e v12 ⟨rfl, hf⟩
  have HS := Lib.hid (HS.out.fr hf)
  clear hf
  obtain ⟨kb0, kb1, kb2, kb3, kb4, kb5, kb6, fb0, fb1, fb2, fb3, fb4, fb5, fb6⟩ := blkat7 HS.out.b
  go_upto_region 71 with (fail)
  have HS' := Lib.hid (HS.out.s5 ((q : Int)))
  clear kb0 fb0 kb1 fb1 kb2 fb2 kb3 fb3 kb4 fb4 kb5 fb5 kb6 fb6
  clear HS
  generalize v12.setCell ⟨W.heap.size + 1, 5, none⟩ (.int .i64 ((q : Int))) = v13 at *
  have HS := HS'
  clear HS'
  go_wp2_with fail
  refine (HF2.out _).mono ?_
  rintro e v14 ⟨rfl, hf⟩
  have HS := Lib.hid (HS.out.fr hf)
  clear hf
  go_wp2_with fail
  refine (HW.out _ _ HS.out.b).mono ?_
  rintro e v15 ⟨rfl, hf⟩
  have HS := Lib.hid (HS.out.ps hf)
  clear hf
  obtain ⟨ka0, ka1, ka2, ka3, ka4, ka5, ka6, fa0, fa1, fa2, fa3, fa4, fa5, fa6⟩ := blkat7 HS.out.a
  obtain ⟨kb0, kb1, kb2, kb3, kb4, kb5, kb6, fb0, fb1, fb2, fb3, fb4, fb5, fb6⟩ := blkat7 HS.out.b
  go_wp2_with fail
  refine bodyPost_ret (results_ct rfl _ _ W.heap.size 24 #[.int .i64 (p), .int .i64 ((rd : Int)), .int .i64 ((r1 : Int)), .int .i64 ((r2 : Int)), .int .i64 (0), .int .i64 ((q : Int)), .int .i64 (4)] (0, 0) _ rfl ?_ Try.underlying24 rfl (by kernel_rfl)) rfl ?_
  · exact blk7 HS.out.a _ _ _ _ _ _ _
  · exact ⟨rfl, by (repeat (first | (with_reducible exact HS.out.f) | (with_reducible refine Fr.setCell ?_ (Or.inr (by simp)) _)))⟩
set_option maxRecDepth 100000 in
set_option maxHeartbeats 4000000 in
theorem rdec_amon (w : Nat) (hw : w < 4294967296) (W : World) (ck : fld w 0 7 = 47) (c :  amoR (fld w 27 5) (fld w 20 5) (fld w 12 3) = 0) : Calls Try.prog 10 #[.int .u32 (w : Int)] W fun e w' => e = .returned (.tuple #[i7 (rdecP w).1, .bool (rdecP w).2]) ∧ Fr (fun _ => False) W w' := by
  have hK : rkindP w = (amoR (fld w 27 5) (fld w 20 5) (fld w 12 3), ((fld w 7 5 : Nat) : Int), ((fld w 15 5 : Nat) : Int), ((fld w 20 5 : Nat) : Int), 0, ((fld w 25 2 : Nat) : Int), 4) := by unfold rkindP; rw [if_neg (by omega), if_neg (by omega), if_neg (by omega), if_neg (by omega), if_neg (by omega), if_neg (by omega), if_neg (by omega), if_neg (by omega), if_neg (by omega), if_neg (by omega), if_pos ck]
  have hP : rdecP w = (i0, false) := rdec_no (by rw [hK]; exact c)
  rw [hP]
  have H117 := insU_sq0 w hw
  have H1412 := insU_sq1 w hw
  have H1915 := insU_sq2 w hw
  have H2420 := insU_sq3 w hw
  have H3125 := insU_sq4 w hw
  have H3120 := insU_sq5 w hw
  have HSI := Lib.hid (show ∀ W, Calls Try.prog 27 #[.int .i64 ((fld w 20 12 : Nat) : Int), .int .i64 12] W fun e w' => e = .returned (.int .i64 (iP w)) ∧ Fr (fun _ => False) W w' from S_fr (fld w 20 12) 12 (by decide) (by decide) (by have := fld_lt w 20 12; omega))
  have H60 := Lib.hid (show ∀ W, Calls Try.prog 26 #[.int .u32 (w : Int), .int .i64 6, .int .i64 0] W fun e w' => e = .returned (.int .i64 (47)) ∧ Fr (fun _ => False) W w' from fun W => by have g := F_fr w 6 0 7 hw (by decide) (by decide) rfl W; rw [ck] at g; exact g)
  have HF1 := Lib.hid (show ∀ W, Calls Try.prog 26 #[.int .u32 (w : Int), .int .i64 26, .int .i64 25] W fun e w' => e = .returned (.int .i64 (((fld w 25 2 : Nat) : Int))) ∧ Fr (fun _ => False) W w' from F_fr w 26 25 2 hw (by decide) (by decide) rfl)
  have HF2 := Lib.hid (show ∀ W, Calls Try.prog 26 #[.int .u32 (w : Int), .int .i64 31, .int .i64 27] W fun e w' => e = .returned (.int .i64 (((fld w 27 5 : Nat) : Int))) ∧ Fr (fun _ => False) W w' from F_fr w 31 27 5 hw (by decide) (by decide) rfl)
  have HW := Lib.hid (show ∀ g W, Blk W g 24 #[.int .i64 0, .int .i64 (((fld w 7 5 : Nat) : Int)), .int .i64 (((fld w 15 5 : Nat) : Int)), .int .i64 (((fld w 20 5 : Nat) : Int)), .int .i64 0, .int .i64 (((fld w 25 2 : Nat) : Int)), .int .i64 4] → Calls Try.prog 30 #[.int .i64 (((fld w 27 5 : Nat) : Int)), .int .i64 (((fld w 12 3 : Nat) : Int)), .pointer (some ⟨g, 0, none⟩)] W fun e w' => e = .returned (.tuple #[]) ∧ PS W w' g (amoR (fld w 27 5) (fld w 20 5) (fld w 12 3)) (((fld w 7 5 : Nat) : Int)) (((fld w 15 5 : Nat) : Int)) (((fld w 20 5 : Nat) : Int)) 0 (((fld w 25 2 : Nat) : Int)) 4 from fun g W hb => ratomic_fr (fld w 27 5) (fld w 12 3) (fld w 20 5) (fld_lt w 27 5) (fld_lt w 12 3) _ _ _ _ _ g W hb)
  clear hP hK ck
  generalize amoR (fld w 27 5) (fld w 20 5) (fld w 12 3) = p at *
  generalize fld w 12 3 = f3 at *
  generalize fld w 27 5 = f5 at *
  generalize fld w 25 2 = q at *
  generalize fld w 7 5 = rd at *
  generalize fld w 15 5 = r1 at *
  generalize fld w 20 5 = r2 at *
  have t0 : (p == 0) = true := beq_iff_eq.2 c
  clear c
  go_enter Try.func10, Try.ntmps10
  go_wp2_with fail
  have HS := Lib.hid (DS.start W)
  generalize (W.alloc (.cells #[.int .i64 0, .int .i64 0, .int .i64 0, .int .i64 0, .int .i64 0, .int .i64 0, .int .i64 0] 24)).alloc (.cells #[.int .i64 0, .int .i64 0, .int .i64 0, .int .i64 0, .int .i64 0, .int .i64 0, .int .i64 4] 24) = wz at *
  refine (H117.out _).mono ?_
  rintro e v1 ⟨rfl, hf⟩
  have HS := Lib.hid (HS.out.fr hf)
  clear hf
  go_wp2_with fail
  refine (H1412.out _).mono ?_
  rintro e v2 ⟨rfl, hf⟩
  have HS := Lib.hid (HS.out.fr hf)
  clear hf
  go_wp2_with fail
  refine (H1915.out _).mono ?_
  rintro e v3 ⟨rfl, hf⟩
  have HS := Lib.hid (HS.out.fr hf)
  clear hf
  go_wp2_with fail
  refine (H2420.out _).mono ?_
  rintro e v4 ⟨rfl, hf⟩
  have HS := Lib.hid (HS.out.fr hf)
  clear hf
  go_wp2_with fail
  refine (H3125.out _).mono ?_
  rintro e v5 ⟨rfl, hf⟩
  have HS := Lib.hid (HS.out.fr hf)
  clear hf
  go_wp2_with fail
  refine (H3120.out _).mono ?_
  rintro e v6 ⟨rfl, hf⟩
  have HS := Lib.hid (HS.out.fr hf)
  clear hf
  go_wp2_with fail
  refine (HSI.out _).mono ?_
  rintro e v7 ⟨rfl, hf⟩
  have HS := Lib.hid (HS.out.fr hf)
  clear hf
  go_wp2_with fail
  refine (H60.out _).mono ?_
  rintro e v8 ⟨rfl, hf⟩
  have HS := Lib.hid (HS.out.fr hf)
  clear hf
  obtain ⟨kb0, kb1, kb2, kb3, kb4, kb5, kb6, fb0, fb1, fb2, fb3, fb4, fb5, fb6⟩ := blkat7 HS.out.b
  go_upto_region 68 with (fail)
  have HS' := Lib.hid (HS.out.s1 ((rd : Int)))
  clear kb0 fb0 kb1 fb1 kb2 fb2 kb3 fb3 kb4 fb4 kb5 fb5 kb6 fb6
  clear HS
  generalize v8.setCell ⟨W.heap.size + 1, 1, none⟩ (.int .i64 ((rd : Int))) = v9 at *
  have HS := HS'
  clear HS'
  obtain ⟨kb0, kb1, kb2, kb3, kb4, kb5, kb6, fb0, fb1, fb2, fb3, fb4, fb5, fb6⟩ := blkat7 HS.out.b
  go_upto_region 69 with (fail)
  have HS' := Lib.hid (HS.out.s2 ((r1 : Int)))
  clear kb0 fb0 kb1 fb1 kb2 fb2 kb3 fb3 kb4 fb4 kb5 fb5 kb6 fb6
  clear HS
  generalize v9.setCell ⟨W.heap.size + 1, 2, none⟩ (.int .i64 ((r1 : Int))) = v10 at *
  have HS := HS'
  clear HS'
  obtain ⟨kb0, kb1, kb2, kb3, kb4, kb5, kb6, fb0, fb1, fb2, fb3, fb4, fb5, fb6⟩ := blkat7 HS.out.b
  go_upto_region 70 with (fail)
  have HS' := Lib.hid (HS.out.s3 ((r2 : Int)))
  clear kb0 fb0 kb1 fb1 kb2 fb2 kb3 fb3 kb4 fb4 kb5 fb5 kb6 fb6
  clear HS
  generalize v10.setCell ⟨W.heap.size + 1, 3, none⟩ (.int .i64 ((r2 : Int))) = v11 at *
  have HS := HS'
  clear HS'
  go_wp2_with fail
  refine (HF1.out _).mono ?_
  rintro e v12 ⟨rfl, hf⟩
  have HS := Lib.hid (HS.out.fr hf)
  clear hf
  obtain ⟨kb0, kb1, kb2, kb3, kb4, kb5, kb6, fb0, fb1, fb2, fb3, fb4, fb5, fb6⟩ := blkat7 HS.out.b
  go_upto_region 71 with (fail)
  have HS' := Lib.hid (HS.out.s5 ((q : Int)))
  clear kb0 fb0 kb1 fb1 kb2 fb2 kb3 fb3 kb4 fb4 kb5 fb5 kb6 fb6
  clear HS
  generalize v12.setCell ⟨W.heap.size + 1, 5, none⟩ (.int .i64 ((q : Int))) = v13 at *
  have HS := HS'
  clear HS'
  go_wp2_with fail
  refine (HF2.out _).mono ?_
  rintro e v14 ⟨rfl, hf⟩
  have HS := Lib.hid (HS.out.fr hf)
  clear hf
  go_wp2_with fail
  refine (HW.out _ _ HS.out.b).mono ?_
  rintro e v15 ⟨rfl, hf⟩
  have HS := Lib.hid (HS.out.ps hf)
  clear hf
  obtain ⟨ka0, ka1, ka2, ka3, ka4, ka5, ka6, fa0, fa1, fa2, fa3, fa4, fa5, fa6⟩ := blkat7 HS.out.a
  obtain ⟨kb0, kb1, kb2, kb3, kb4, kb5, kb6, fb0, fb1, fb2, fb3, fb4, fb5, fb6⟩ := blkat7 HS.out.b
  go_wp2_with fail
  refine bodyPost_ret (results_ct rfl _ _ W.heap.size 24 #[.int .i64 (0), .int .i64 (0), .int .i64 (0), .int .i64 (0), .int .i64 (0), .int .i64 (0), .int .i64 (0)] (0, 0) _ rfl ?_ Try.underlying24 rfl (by kernel_rfl)) rfl ?_
  · exact blk7 HS.out.a _ _ _ _ _ _ _
  · exact ⟨rfl, by (repeat (first | (with_reducible exact HS.out.f) | (with_reducible refine Fr.setCell ?_ (Or.inr (by simp)) _)))⟩
set_option maxRecDepth 100000 in
set_option maxHeartbeats 4000000 in
theorem rdec_fence (w : Nat) (hw : w < 4294967296) (W : World) (ck : fld w 0 7 = 15) (c : ¬ oneP [85, 86] (fld w 12 3) = 0) : Calls Try.prog 10 #[.int .u32 (w : Int)] W fun e w' => e = .returned (.tuple #[i7 (rdecP w).1, .bool (rdecP w).2]) ∧ Fr (fun _ => False) W w' := by
  have hK : rkindP w = (oneP [85, 86] (fld w 12 3), 0, 0, 0, 0, 0, 4) := by unfold rkindP; rw [if_neg (by omega), if_neg (by omega), if_neg (by omega), if_neg (by omega), if_neg (by omega), if_neg (by omega), if_neg (by omega), if_neg (by omega), if_neg (by omega), if_neg (by omega), if_neg (by omega), if_pos ck]
  have hP : rdecP w = ((oneP [85, 86] (fld w 12 3), 0, 0, 0, 0, 0, 4), true) := by rw [rdec_yes (by rw [hK]; exact c), hK]
  rw [hP]
  have H117 := insU_sq0 w hw
  have H1412 := insU_sq1 w hw
  have H1915 := insU_sq2 w hw
  have H2420 := insU_sq3 w hw
  have H3125 := insU_sq4 w hw
  have H3120 := insU_sq5 w hw
  have HSI := Lib.hid (show ∀ W, Calls Try.prog 27 #[.int .i64 ((fld w 20 12 : Nat) : Int), .int .i64 12] W fun e w' => e = .returned (.int .i64 (iP w)) ∧ Fr (fun _ => False) W w' from S_fr (fld w 20 12) 12 (by decide) (by decide) (by have := fld_lt w 20 12; omega))
  have H60 := Lib.hid (show ∀ W, Calls Try.prog 26 #[.int .u32 (w : Int), .int .i64 6, .int .i64 0] W fun e w' => e = .returned (.int .i64 (15)) ∧ Fr (fun _ => False) W w' from fun W => by have g := F_fr w 6 0 7 hw (by decide) (by decide) rfl W; rw [ck] at g; exact g)
  have HO := Lib.hid (show ∀ g W, Blk W g 3 #[.int .i64 85, .int .i64 86] → Calls Try.prog 28 #[.slice (some ⟨g, 0, none⟩) 2 2, .int .i64 ((fld w 12 3 : Nat) : Int)] W fun e w' => e = .returned (.int .i64 (oneP [85, 86] (fld w 12 3))) ∧ Fr (fun _ => False) W w' from fun g W hb => one_fr [85, 86] (by decide) (fld w 12 3) g 2 (by decide) 3 W hb)
  clear hP hK ck
  generalize oneP [85, 86] (fld w 12 3) = p at *
  generalize fld w 12 3 = f3 at *
  generalize fld w 7 5 = rd at *
  generalize fld w 15 5 = r1 at *
  generalize fld w 20 5 = r2 at *
  have t0 : (p == 0) = false := beq_eq_false_iff_ne.2 c
  clear c
  go_enter Try.func10, Try.ntmps10
  go_wp2_with fail
  have HS := Lib.hid (DS.start W)
  generalize (W.alloc (.cells #[.int .i64 0, .int .i64 0, .int .i64 0, .int .i64 0, .int .i64 0, .int .i64 0, .int .i64 0] 24)).alloc (.cells #[.int .i64 0, .int .i64 0, .int .i64 0, .int .i64 0, .int .i64 0, .int .i64 0, .int .i64 4] 24) = wz at *
  refine (H117.out _).mono ?_
  rintro e v1 ⟨rfl, hf⟩
  have HS := Lib.hid (HS.out.fr hf)
  clear hf
  go_wp2_with fail
  refine (H1412.out _).mono ?_
  rintro e v2 ⟨rfl, hf⟩
  have HS := Lib.hid (HS.out.fr hf)
  clear hf
  go_wp2_with fail
  refine (H1915.out _).mono ?_
  rintro e v3 ⟨rfl, hf⟩
  have HS := Lib.hid (HS.out.fr hf)
  clear hf
  go_wp2_with fail
  refine (H2420.out _).mono ?_
  rintro e v4 ⟨rfl, hf⟩
  have HS := Lib.hid (HS.out.fr hf)
  clear hf
  go_wp2_with fail
  refine (H3125.out _).mono ?_
  rintro e v5 ⟨rfl, hf⟩
  have HS := Lib.hid (HS.out.fr hf)
  clear hf
  go_wp2_with fail
  refine (H3120.out _).mono ?_
  rintro e v6 ⟨rfl, hf⟩
  have HS := Lib.hid (HS.out.fr hf)
  clear hf
  go_wp2_with fail
  refine (HSI.out _).mono ?_
  rintro e v7 ⟨rfl, hf⟩
  have HS := Lib.hid (HS.out.fr hf)
  clear hf
  go_wp2_with fail
  refine (H60.out _).mono ?_
  rintro e v8 ⟨rfl, hf⟩
  have HS := Lib.hid (HS.out.fr hf)
  clear hf
  go_wp2_with fail
  refine (HO.out _ _ (Blk.new _ _ _)).mono ?_
  rintro e v9 ⟨rfl, hf⟩
  have HS := Lib.hid ((HS.out.al (.cells #[.int .i64 85, .int .i64 86] 3)).fr hf)
  clear hf
  obtain ⟨kb0, kb1, kb2, kb3, kb4, kb5, kb6, fb0, fb1, fb2, fb3, fb4, fb5, fb6⟩ := blkat7 HS.out.b
  go_upto_region 79 with (fail)
  have HS' := Lib.hid (HS.out.s0 (p))
  clear kb0 fb0 kb1 fb1 kb2 fb2 kb3 fb3 kb4 fb4 kb5 fb5 kb6 fb6
  clear HS
  generalize v9.setCell ⟨W.heap.size + 1, 0, none⟩ (.int .i64 (p)) = v10 at *
  have HS := HS'
  clear HS'
  obtain ⟨ka0, ka1, ka2, ka3, ka4, ka5, ka6, fa0, fa1, fa2, fa3, fa4, fa5, fa6⟩ := blkat7 HS.out.a
  obtain ⟨kb0, kb1, kb2, kb3, kb4, kb5, kb6, fb0, fb1, fb2, fb3, fb4, fb5, fb6⟩ := blkat7 HS.out.b
  go_wp2_with fail
  refine bodyPost_ret (results_ct rfl _ _ W.heap.size 24 #[.int .i64 (p), .int .i64 (0), .int .i64 (0), .int .i64 (0), .int .i64 (0), .int .i64 (0), .int .i64 (4)] (0, 0) _ rfl ?_ Try.underlying24 rfl (by kernel_rfl)) rfl ?_
  · exact blk7 HS.out.a _ _ _ _ _ _ _
  · exact ⟨rfl, by (repeat (first | (with_reducible exact HS.out.f) | (with_reducible refine Fr.setCell ?_ (Or.inr (by simp)) _)))⟩
set_option maxRecDepth 100000 in
set_option maxHeartbeats 4000000 in
theorem rdec_fencen (w : Nat) (hw : w < 4294967296) (W : World) (ck : fld w 0 7 = 15) (c :  oneP [85, 86] (fld w 12 3) = 0) : Calls Try.prog 10 #[.int .u32 (w : Int)] W fun e w' => e = .returned (.tuple #[i7 (rdecP w).1, .bool (rdecP w).2]) ∧ Fr (fun _ => False) W w' := by
  have hK : rkindP w = (oneP [85, 86] (fld w 12 3), 0, 0, 0, 0, 0, 4) := by unfold rkindP; rw [if_neg (by omega), if_neg (by omega), if_neg (by omega), if_neg (by omega), if_neg (by omega), if_neg (by omega), if_neg (by omega), if_neg (by omega), if_neg (by omega), if_neg (by omega), if_neg (by omega), if_pos ck]
  have hP : rdecP w = (i0, false) := rdec_no (by rw [hK]; exact c)
  rw [hP]
  have H117 := insU_sq0 w hw
  have H1412 := insU_sq1 w hw
  have H1915 := insU_sq2 w hw
  have H2420 := insU_sq3 w hw
  have H3125 := insU_sq4 w hw
  have H3120 := insU_sq5 w hw
  have HSI := Lib.hid (show ∀ W, Calls Try.prog 27 #[.int .i64 ((fld w 20 12 : Nat) : Int), .int .i64 12] W fun e w' => e = .returned (.int .i64 (iP w)) ∧ Fr (fun _ => False) W w' from S_fr (fld w 20 12) 12 (by decide) (by decide) (by have := fld_lt w 20 12; omega))
  have H60 := Lib.hid (show ∀ W, Calls Try.prog 26 #[.int .u32 (w : Int), .int .i64 6, .int .i64 0] W fun e w' => e = .returned (.int .i64 (15)) ∧ Fr (fun _ => False) W w' from fun W => by have g := F_fr w 6 0 7 hw (by decide) (by decide) rfl W; rw [ck] at g; exact g)
  have HO := Lib.hid (show ∀ g W, Blk W g 3 #[.int .i64 85, .int .i64 86] → Calls Try.prog 28 #[.slice (some ⟨g, 0, none⟩) 2 2, .int .i64 ((fld w 12 3 : Nat) : Int)] W fun e w' => e = .returned (.int .i64 (oneP [85, 86] (fld w 12 3))) ∧ Fr (fun _ => False) W w' from fun g W hb => one_fr [85, 86] (by decide) (fld w 12 3) g 2 (by decide) 3 W hb)
  clear hP hK ck
  generalize oneP [85, 86] (fld w 12 3) = p at *
  generalize fld w 12 3 = f3 at *
  generalize fld w 7 5 = rd at *
  generalize fld w 15 5 = r1 at *
  generalize fld w 20 5 = r2 at *
  have t0 : (p == 0) = true := beq_iff_eq.2 c
  clear c
  go_enter Try.func10, Try.ntmps10
  go_wp2_with fail
  have HS := Lib.hid (DS.start W)
  generalize (W.alloc (.cells #[.int .i64 0, .int .i64 0, .int .i64 0, .int .i64 0, .int .i64 0, .int .i64 0, .int .i64 0] 24)).alloc (.cells #[.int .i64 0, .int .i64 0, .int .i64 0, .int .i64 0, .int .i64 0, .int .i64 0, .int .i64 4] 24) = wz at *
  refine (H117.out _).mono ?_
  rintro e v1 ⟨rfl, hf⟩
  have HS := Lib.hid (HS.out.fr hf)
  clear hf
  go_wp2_with fail
  refine (H1412.out _).mono ?_
  rintro e v2 ⟨rfl, hf⟩
  have HS := Lib.hid (HS.out.fr hf)
  clear hf
  go_wp2_with fail
  refine (H1915.out _).mono ?_
  rintro e v3 ⟨rfl, hf⟩
  have HS := Lib.hid (HS.out.fr hf)
  clear hf
  go_wp2_with fail
  refine (H2420.out _).mono ?_
  rintro e v4 ⟨rfl, hf⟩
  have HS := Lib.hid (HS.out.fr hf)
  clear hf
  go_wp2_with fail
  refine (H3125.out _).mono ?_
  rintro e v5 ⟨rfl, hf⟩
  have HS := Lib.hid (HS.out.fr hf)
  clear hf
  go_wp2_with fail
  refine (H3120.out _).mono ?_
  rintro e v6 ⟨rfl, hf⟩
  have HS := Lib.hid (HS.out.fr hf)
  clear hf
  go_wp2_with fail
  refine (HSI.out _).mono ?_
  rintro e v7 ⟨rfl, hf⟩
  have HS := Lib.hid (HS.out.fr hf)
  clear hf
  go_wp2_with fail
  refine (H60.out _).mono ?_
  rintro e v8 ⟨rfl, hf⟩
  have HS := Lib.hid (HS.out.fr hf)
  clear hf
  go_wp2_with fail
  refine (HO.out _ _ (Blk.new _ _ _)).mono ?_
  rintro e v9 ⟨rfl, hf⟩
  have HS := Lib.hid ((HS.out.al (.cells #[.int .i64 85, .int .i64 86] 3)).fr hf)
  clear hf
  obtain ⟨kb0, kb1, kb2, kb3, kb4, kb5, kb6, fb0, fb1, fb2, fb3, fb4, fb5, fb6⟩ := blkat7 HS.out.b
  go_upto_region 79 with (fail)
  have HS' := Lib.hid (HS.out.s0 (p))
  clear kb0 fb0 kb1 fb1 kb2 fb2 kb3 fb3 kb4 fb4 kb5 fb5 kb6 fb6
  clear HS
  generalize v9.setCell ⟨W.heap.size + 1, 0, none⟩ (.int .i64 (p)) = v10 at *
  have HS := HS'
  clear HS'
  obtain ⟨ka0, ka1, ka2, ka3, ka4, ka5, ka6, fa0, fa1, fa2, fa3, fa4, fa5, fa6⟩ := blkat7 HS.out.a
  obtain ⟨kb0, kb1, kb2, kb3, kb4, kb5, kb6, fb0, fb1, fb2, fb3, fb4, fb5, fb6⟩ := blkat7 HS.out.b
  go_wp2_with fail
  refine bodyPost_ret (results_ct rfl _ _ W.heap.size 24 #[.int .i64 (0), .int .i64 (0), .int .i64 (0), .int .i64 (0), .int .i64 (0), .int .i64 (0), .int .i64 (0)] (0, 0) _ rfl ?_ Try.underlying24 rfl (by kernel_rfl)) rfl ?_
  · exact blk7 HS.out.a _ _ _ _ _ _ _
  · exact ⟨rfl, by (repeat (first | (with_reducible exact HS.out.f) | (with_reducible refine Fr.setCell ?_ (Or.inr (by simp)) _)))⟩
set_option maxRecDepth 100000 in
set_option maxHeartbeats 4000000 in
theorem rdec_ecall (w : Nat) (hw : w < 4294967296) (W : World) (ck : fld w 0 7 = 115) (d : w = 115) : Calls Try.prog 10 #[.int .u32 (w : Int)] W fun e w' => e = .returned (.tuple #[i7 (rdecP w).1, .bool (rdecP w).2]) ∧ Fr (fun _ => False) W w' := by
  have hK : rkindP w = (87, 0, 0, 0, 0, 0, 4) := by unfold rkindP; rw [if_neg (by omega), if_neg (by omega), if_neg (by omega), if_neg (by omega), if_neg (by omega), if_neg (by omega), if_neg (by omega), if_neg (by omega), if_neg (by omega), if_neg (by omega), if_neg (by omega), if_neg (by omega), if_pos ck, if_neg (by omega), if_pos d]
  have hP : rdecP w = ((87, 0, 0, 0, 0, 0, 4), true) := by rw [rdec_yes (by rw [hK]; exact (show ¬ ((87 : Int) = 0) by decide)), hK]
  rw [hP]
  have H117 := insU_sq0 w hw
  have H1412 := insU_sq1 w hw
  have H1915 := insU_sq2 w hw
  have H2420 := insU_sq3 w hw
  have H3125 := insU_sq4 w hw
  have H3120 := insU_sq5 w hw
  have HSI := Lib.hid (show ∀ W, Calls Try.prog 27 #[.int .i64 ((fld w 20 12 : Nat) : Int), .int .i64 12] W fun e w' => e = .returned (.int .i64 (iP w)) ∧ Fr (fun _ => False) W w' from S_fr (fld w 20 12) 12 (by decide) (by decide) (by have := fld_lt w 20 12; omega))
  have H60 := Lib.hid (show ∀ W, Calls Try.prog 26 #[.int .u32 (w : Int), .int .i64 6, .int .i64 0] W fun e w' => e = .returned (.int .i64 (115)) ∧ Fr (fun _ => False) W w' from fun W => by have g := F_fr w 6 0 7 hw (by decide) (by decide) rfl W; rw [ck] at g; exact g)
  have u0 : ((w : Int) == 115) = true := beq_iff_eq.2 (by omega)
  have u1 : ((w : Int) == 1048691) = false := beq_eq_false_iff_ne.2 (by omega)
  clear hP hK ck d hw
  generalize fld w 12 3 = f3 at *
  generalize fld w 25 7 = s7 at *
  generalize fld w 7 5 = rd at *
  generalize fld w 15 5 = r1 at *
  generalize fld w 20 5 = r2 at *
  generalize fld w 20 12 = i12 at *
  generalize iP w = m at *
  generalize (w : Int) = yw at *
  go_enter Try.func10, Try.ntmps10
  go_wp2_with fail
  have HS := Lib.hid (DS.start W)
  generalize (W.alloc (.cells #[.int .i64 0, .int .i64 0, .int .i64 0, .int .i64 0, .int .i64 0, .int .i64 0, .int .i64 0] 24)).alloc (.cells #[.int .i64 0, .int .i64 0, .int .i64 0, .int .i64 0, .int .i64 0, .int .i64 0, .int .i64 4] 24) = wz at *
  refine (H117.out _).mono ?_
  rintro e v1 ⟨rfl, hf⟩
  have HS := Lib.hid (HS.out.fr hf)
  clear hf
  go_wp2_with fail
  refine (H1412.out _).mono ?_
  rintro e v2 ⟨rfl, hf⟩
  have HS := Lib.hid (HS.out.fr hf)
  clear hf
  go_wp2_with fail
  refine (H1915.out _).mono ?_
  rintro e v3 ⟨rfl, hf⟩
  have HS := Lib.hid (HS.out.fr hf)
  clear hf
  go_wp2_with fail
  refine (H2420.out _).mono ?_
  rintro e v4 ⟨rfl, hf⟩
  have HS := Lib.hid (HS.out.fr hf)
  clear hf
  go_wp2_with fail
  refine (H3125.out _).mono ?_
  rintro e v5 ⟨rfl, hf⟩
  have HS := Lib.hid (HS.out.fr hf)
  clear hf
  go_wp2_with fail
  refine (H3120.out _).mono ?_
  rintro e v6 ⟨rfl, hf⟩
  have HS := Lib.hid (HS.out.fr hf)
  clear hf
  go_wp2_with fail
  refine (HSI.out _).mono ?_
  rintro e v7 ⟨rfl, hf⟩
  have HS := Lib.hid (HS.out.fr hf)
  clear hf
  go_wp2_with fail
  refine (H60.out _).mono ?_
  rintro e v8 ⟨rfl, hf⟩
  have HS := Lib.hid (HS.out.fr hf)
  clear hf
  obtain ⟨kb0, kb1, kb2, kb3, kb4, kb5, kb6, fb0, fb1, fb2, fb3, fb4, fb5, fb6⟩ := blkat7 HS.out.b
  go_upto_region 77 with (fail)
  have HS' := Lib.hid (HS.out.s0 (87))
  clear kb0 fb0 kb1 fb1 kb2 fb2 kb3 fb3 kb4 fb4 kb5 fb5 kb6 fb6
  clear HS
  generalize v8.setCell ⟨W.heap.size + 1, 0, none⟩ (.int .i64 (87)) = v9 at *
  have HS := HS'
  clear HS'
  go_upto_region 79 with (fail)
  obtain ⟨ka0, ka1, ka2, ka3, ka4, ka5, ka6, fa0, fa1, fa2, fa3, fa4, fa5, fa6⟩ := blkat7 HS.out.a
  obtain ⟨kb0, kb1, kb2, kb3, kb4, kb5, kb6, fb0, fb1, fb2, fb3, fb4, fb5, fb6⟩ := blkat7 HS.out.b
  go_wp2_with fail
  refine bodyPost_ret (results_ct rfl _ _ W.heap.size 24 #[.int .i64 (87), .int .i64 (0), .int .i64 (0), .int .i64 (0), .int .i64 (0), .int .i64 (0), .int .i64 (4)] (0, 0) _ rfl ?_ Try.underlying24 rfl (by kernel_rfl)) rfl ?_
  · exact blk7 HS.out.a _ _ _ _ _ _ _
  · exact ⟨rfl, by (repeat (first | (with_reducible exact HS.out.f) | (with_reducible refine Fr.setCell ?_ (Or.inr (by simp)) _)))⟩
set_option maxRecDepth 100000 in
set_option maxHeartbeats 4000000 in
theorem rdec_ebreak (w : Nat) (hw : w < 4294967296) (W : World) (ck : fld w 0 7 = 115) (d : w = 1048691) : Calls Try.prog 10 #[.int .u32 (w : Int)] W fun e w' => e = .returned (.tuple #[i7 (rdecP w).1, .bool (rdecP w).2]) ∧ Fr (fun _ => False) W w' := by
  have hK : rkindP w = (88, 0, 0, 0, 0, 0, 4) := by unfold rkindP; rw [if_neg (by omega), if_neg (by omega), if_neg (by omega), if_neg (by omega), if_neg (by omega), if_neg (by omega), if_neg (by omega), if_neg (by omega), if_neg (by omega), if_neg (by omega), if_neg (by omega), if_neg (by omega), if_pos ck, if_pos d]
  have hP : rdecP w = ((88, 0, 0, 0, 0, 0, 4), true) := by rw [rdec_yes (by rw [hK]; exact (show ¬ ((88 : Int) = 0) by decide)), hK]
  rw [hP]
  have H117 := insU_sq0 w hw
  have H1412 := insU_sq1 w hw
  have H1915 := insU_sq2 w hw
  have H2420 := insU_sq3 w hw
  have H3125 := insU_sq4 w hw
  have H3120 := insU_sq5 w hw
  have HSI := Lib.hid (show ∀ W, Calls Try.prog 27 #[.int .i64 ((fld w 20 12 : Nat) : Int), .int .i64 12] W fun e w' => e = .returned (.int .i64 (iP w)) ∧ Fr (fun _ => False) W w' from S_fr (fld w 20 12) 12 (by decide) (by decide) (by have := fld_lt w 20 12; omega))
  have H60 := Lib.hid (show ∀ W, Calls Try.prog 26 #[.int .u32 (w : Int), .int .i64 6, .int .i64 0] W fun e w' => e = .returned (.int .i64 (115)) ∧ Fr (fun _ => False) W w' from fun W => by have g := F_fr w 6 0 7 hw (by decide) (by decide) rfl W; rw [ck] at g; exact g)
  have u0 : ((w : Int) == 115) = false := beq_eq_false_iff_ne.2 (by omega)
  have u1 : ((w : Int) == 1048691) = true := beq_iff_eq.2 (by omega)
  clear hP hK ck d hw
  generalize fld w 12 3 = f3 at *
  generalize fld w 25 7 = s7 at *
  generalize fld w 7 5 = rd at *
  generalize fld w 15 5 = r1 at *
  generalize fld w 20 5 = r2 at *
  generalize fld w 20 12 = i12 at *
  generalize iP w = m at *
  generalize (w : Int) = yw at *
  go_enter Try.func10, Try.ntmps10
  go_wp2_with fail
  have HS := Lib.hid (DS.start W)
  generalize (W.alloc (.cells #[.int .i64 0, .int .i64 0, .int .i64 0, .int .i64 0, .int .i64 0, .int .i64 0, .int .i64 0] 24)).alloc (.cells #[.int .i64 0, .int .i64 0, .int .i64 0, .int .i64 0, .int .i64 0, .int .i64 0, .int .i64 4] 24) = wz at *
  refine (H117.out _).mono ?_
  rintro e v1 ⟨rfl, hf⟩
  have HS := Lib.hid (HS.out.fr hf)
  clear hf
  go_wp2_with fail
  refine (H1412.out _).mono ?_
  rintro e v2 ⟨rfl, hf⟩
  have HS := Lib.hid (HS.out.fr hf)
  clear hf
  go_wp2_with fail
  refine (H1915.out _).mono ?_
  rintro e v3 ⟨rfl, hf⟩
  have HS := Lib.hid (HS.out.fr hf)
  clear hf
  go_wp2_with fail
  refine (H2420.out _).mono ?_
  rintro e v4 ⟨rfl, hf⟩
  have HS := Lib.hid (HS.out.fr hf)
  clear hf
  go_wp2_with fail
  refine (H3125.out _).mono ?_
  rintro e v5 ⟨rfl, hf⟩
  have HS := Lib.hid (HS.out.fr hf)
  clear hf
  go_wp2_with fail
  refine (H3120.out _).mono ?_
  rintro e v6 ⟨rfl, hf⟩
  have HS := Lib.hid (HS.out.fr hf)
  clear hf
  go_wp2_with fail
  refine (HSI.out _).mono ?_
  rintro e v7 ⟨rfl, hf⟩
  have HS := Lib.hid (HS.out.fr hf)
  clear hf
  go_wp2_with fail
  refine (H60.out _).mono ?_
  rintro e v8 ⟨rfl, hf⟩
  have HS := Lib.hid (HS.out.fr hf)
  clear hf
  obtain ⟨kb0, kb1, kb2, kb3, kb4, kb5, kb6, fb0, fb1, fb2, fb3, fb4, fb5, fb6⟩ := blkat7 HS.out.b
  go_upto_region 79 with (fail)
  have HS' := Lib.hid (HS.out.s0 (88))
  clear kb0 fb0 kb1 fb1 kb2 fb2 kb3 fb3 kb4 fb4 kb5 fb5 kb6 fb6
  clear HS
  generalize v8.setCell ⟨W.heap.size + 1, 0, none⟩ (.int .i64 (88)) = v9 at *
  have HS := HS'
  clear HS'
  obtain ⟨ka0, ka1, ka2, ka3, ka4, ka5, ka6, fa0, fa1, fa2, fa3, fa4, fa5, fa6⟩ := blkat7 HS.out.a
  obtain ⟨kb0, kb1, kb2, kb3, kb4, kb5, kb6, fb0, fb1, fb2, fb3, fb4, fb5, fb6⟩ := blkat7 HS.out.b
  go_wp2_with fail
  refine bodyPost_ret (results_ct rfl _ _ W.heap.size 24 #[.int .i64 (88), .int .i64 (0), .int .i64 (0), .int .i64 (0), .int .i64 (0), .int .i64 (0), .int .i64 (4)] (0, 0) _ rfl ?_ Try.underlying24 rfl (by kernel_rfl)) rfl ?_
  · exact blk7 HS.out.a _ _ _ _ _ _ _
  · exact ⟨rfl, by (repeat (first | (with_reducible exact HS.out.f) | (with_reducible refine Fr.setCell ?_ (Or.inr (by simp)) _)))⟩
set_option maxRecDepth 100000 in
set_option maxHeartbeats 4000000 in
theorem rdec_sysx (w : Nat) (hw : w < 4294967296) (W : World) (ck : fld w 0 7 = 115) (d1 : w ≠ 115) (d2 : w ≠ 1048691) : Calls Try.prog 10 #[.int .u32 (w : Int)] W fun e w' => e = .returned (.tuple #[i7 (rdecP w).1, .bool (rdecP w).2]) ∧ Fr (fun _ => False) W w' := by
  have hK : rkindP w = (0, 0, 0, 0, 0, 0, 4) := by unfold rkindP; rw [if_neg (by omega), if_neg (by omega), if_neg (by omega), if_neg (by omega), if_neg (by omega), if_neg (by omega), if_neg (by omega), if_neg (by omega), if_neg (by omega), if_neg (by omega), if_neg (by omega), if_neg (by omega), if_pos ck, if_neg d2, if_neg d1]
  have hP : rdecP w = (i0, false) := rdec_no (by rw [hK])
  rw [hP]
  have H117 := insU_sq0 w hw
  have H1412 := insU_sq1 w hw
  have H1915 := insU_sq2 w hw
  have H2420 := insU_sq3 w hw
  have H3125 := insU_sq4 w hw
  have H3120 := insU_sq5 w hw
  have HSI := Lib.hid (show ∀ W, Calls Try.prog 27 #[.int .i64 ((fld w 20 12 : Nat) : Int), .int .i64 12] W fun e w' => e = .returned (.int .i64 (iP w)) ∧ Fr (fun _ => False) W w' from S_fr (fld w 20 12) 12 (by decide) (by decide) (by have := fld_lt w 20 12; omega))
  have H60 := Lib.hid (show ∀ W, Calls Try.prog 26 #[.int .u32 (w : Int), .int .i64 6, .int .i64 0] W fun e w' => e = .returned (.int .i64 (115)) ∧ Fr (fun _ => False) W w' from fun W => by have g := F_fr w 6 0 7 hw (by decide) (by decide) rfl W; rw [ck] at g; exact g)
  have u0 : ((w : Int) == 115) = false := beq_eq_false_iff_ne.2 (by omega)
  have u1 : ((w : Int) == 1048691) = false := beq_eq_false_iff_ne.2 (by omega)
  clear hP hK ck d1 d2 hw
  generalize fld w 12 3 = f3 at *
  generalize fld w 25 7 = s7 at *
  generalize fld w 7 5 = rd at *
  generalize fld w 15 5 = r1 at *
  generalize fld w 20 5 = r2 at *
  generalize fld w 20 12 = i12 at *
  generalize iP w = m at *
  generalize (w : Int) = yw at *
  go_enter Try.func10, Try.ntmps10
  go_wp2_with fail
  have HS := Lib.hid (DS.start W)
  generalize (W.alloc (.cells #[.int .i64 0, .int .i64 0, .int .i64 0, .int .i64 0, .int .i64 0, .int .i64 0, .int .i64 0] 24)).alloc (.cells #[.int .i64 0, .int .i64 0, .int .i64 0, .int .i64 0, .int .i64 0, .int .i64 0, .int .i64 4] 24) = wz at *
  refine (H117.out _).mono ?_
  rintro e v1 ⟨rfl, hf⟩
  have HS := Lib.hid (HS.out.fr hf)
  clear hf
  go_wp2_with fail
  refine (H1412.out _).mono ?_
  rintro e v2 ⟨rfl, hf⟩
  have HS := Lib.hid (HS.out.fr hf)
  clear hf
  go_wp2_with fail
  refine (H1915.out _).mono ?_
  rintro e v3 ⟨rfl, hf⟩
  have HS := Lib.hid (HS.out.fr hf)
  clear hf
  go_wp2_with fail
  refine (H2420.out _).mono ?_
  rintro e v4 ⟨rfl, hf⟩
  have HS := Lib.hid (HS.out.fr hf)
  clear hf
  go_wp2_with fail
  refine (H3125.out _).mono ?_
  rintro e v5 ⟨rfl, hf⟩
  have HS := Lib.hid (HS.out.fr hf)
  clear hf
  go_wp2_with fail
  refine (H3120.out _).mono ?_
  rintro e v6 ⟨rfl, hf⟩
  have HS := Lib.hid (HS.out.fr hf)
  clear hf
  go_wp2_with fail
  refine (HSI.out _).mono ?_
  rintro e v7 ⟨rfl, hf⟩
  have HS := Lib.hid (HS.out.fr hf)
  clear hf
  go_wp2_with fail
  refine (H60.out _).mono ?_
  rintro e v8 ⟨rfl, hf⟩
  have HS := Lib.hid (HS.out.fr hf)
  clear hf
  obtain ⟨ka0, ka1, ka2, ka3, ka4, ka5, ka6, fa0, fa1, fa2, fa3, fa4, fa5, fa6⟩ := blkat7 HS.out.a
  obtain ⟨kb0, kb1, kb2, kb3, kb4, kb5, kb6, fb0, fb1, fb2, fb3, fb4, fb5, fb6⟩ := blkat7 HS.out.b
  go_wp2_with fail
  refine bodyPost_ret (results_ct rfl _ _ W.heap.size 24 #[.int .i64 (0), .int .i64 (0), .int .i64 (0), .int .i64 (0), .int .i64 (0), .int .i64 (0), .int .i64 (0)] (0, 0) _ rfl ?_ Try.underlying24 rfl (by kernel_rfl)) rfl ?_
  · exact blk7 HS.out.a _ _ _ _ _ _ _
  · exact ⟨rfl, by (repeat (first | (with_reducible exact HS.out.f) | (with_reducible refine Fr.setCell ?_ (Or.inr (by simp)) _)))⟩
set_option maxRecDepth 100000 in
set_option maxHeartbeats 4000000 in
theorem rdec_none (w : Nat) (hw : w < 4294967296) (W : World) (c55 : fld w 0 7 ≠ 55) (c23 : fld w 0 7 ≠ 23) (c111 : fld w 0 7 ≠ 111) (c103 : fld w 0 7 ≠ 103) (c3 : fld w 0 7 ≠ 3) (c99 : fld w 0 7 ≠ 99) (c35 : fld w 0 7 ≠ 35) (c19 : fld w 0 7 ≠ 19) (c27 : fld w 0 7 ≠ 27) (c51 : fld w 0 7 ≠ 51) (c59 : fld w 0 7 ≠ 59) (c47 : fld w 0 7 ≠ 47) (c15 : fld w 0 7 ≠ 15) (c115 : fld w 0 7 ≠ 115) : Calls Try.prog 10 #[.int .u32 (w : Int)] W fun e w' => e = .returned (.tuple #[i7 (rdecP w).1, .bool (rdecP w).2]) ∧ Fr (fun _ => False) W w' := by
  have hK : rkindP w = (0, 0, 0, 0, 0, 0, 4) := by unfold rkindP; rw [if_neg (by omega), if_neg (by omega), if_neg (by omega), if_neg (by omega), if_neg (by omega), if_neg (by omega), if_neg (by omega), if_neg (by omega), if_neg (by omega), if_neg (by omega), if_neg (by omega), if_neg (by omega), if_neg (by omega)]
  have hP : rdecP w = (i0, false) := rdec_no (by rw [hK])
  rw [hP]
  have H117 := insU_sq0 w hw
  have H1412 := insU_sq1 w hw
  have H1915 := insU_sq2 w hw
  have H2420 := insU_sq3 w hw
  have H3125 := insU_sq4 w hw
  have H3120 := insU_sq5 w hw
  have HSI := Lib.hid (show ∀ W, Calls Try.prog 27 #[.int .i64 ((fld w 20 12 : Nat) : Int), .int .i64 12] W fun e w' => e = .returned (.int .i64 (iP w)) ∧ Fr (fun _ => False) W w' from S_fr (fld w 20 12) 12 (by decide) (by decide) (by have := fld_lt w 20 12; omega))
  have H60 := Lib.hid (show ∀ W, Calls Try.prog 26 #[.int .u32 (w : Int), .int .i64 6, .int .i64 0] W fun e w' => e = .returned (.int .i64 (((fld w 0 7 : Nat) : Int))) ∧ Fr (fun _ => False) W w' from F_fr w 6 0 7 hw (by decide) (by decide) rfl)
  have u55 : (((fld w 0 7 : Nat) : Int) == 55) = false := beq_eq_false_iff_ne.2 (by omega)
  have u23 : (((fld w 0 7 : Nat) : Int) == 23) = false := beq_eq_false_iff_ne.2 (by omega)
  have u111 : (((fld w 0 7 : Nat) : Int) == 111) = false := beq_eq_false_iff_ne.2 (by omega)
  have u103 : (((fld w 0 7 : Nat) : Int) == 103) = false := beq_eq_false_iff_ne.2 (by omega)
  have u3 : (((fld w 0 7 : Nat) : Int) == 3) = false := beq_eq_false_iff_ne.2 (by omega)
  have u99 : (((fld w 0 7 : Nat) : Int) == 99) = false := beq_eq_false_iff_ne.2 (by omega)
  have u35 : (((fld w 0 7 : Nat) : Int) == 35) = false := beq_eq_false_iff_ne.2 (by omega)
  have u19 : (((fld w 0 7 : Nat) : Int) == 19) = false := beq_eq_false_iff_ne.2 (by omega)
  have u27 : (((fld w 0 7 : Nat) : Int) == 27) = false := beq_eq_false_iff_ne.2 (by omega)
  have u51 : (((fld w 0 7 : Nat) : Int) == 51) = false := beq_eq_false_iff_ne.2 (by omega)
  have u59 : (((fld w 0 7 : Nat) : Int) == 59) = false := beq_eq_false_iff_ne.2 (by omega)
  have u47 : (((fld w 0 7 : Nat) : Int) == 47) = false := beq_eq_false_iff_ne.2 (by omega)
  have u15 : (((fld w 0 7 : Nat) : Int) == 15) = false := beq_eq_false_iff_ne.2 (by omega)
  have u115 : (((fld w 0 7 : Nat) : Int) == 115) = false := beq_eq_false_iff_ne.2 (by omega)
  clear hP hK c55 c23 c111 c103 c3 c99 c35 c19 c27 c51 c59 c47 c15 c115
  generalize fld w 12 3 = f3 at *
  generalize fld w 25 7 = s7 at *
  generalize fld w 0 7 = p7 at *
  generalize fld w 7 5 = rd at *
  generalize fld w 15 5 = r1 at *
  generalize fld w 20 5 = r2 at *
  generalize (p7 : Int) = yp at *
  go_enter Try.func10, Try.ntmps10
  go_wp2_with fail
  have HS := Lib.hid (DS.start W)
  generalize (W.alloc (.cells #[.int .i64 0, .int .i64 0, .int .i64 0, .int .i64 0, .int .i64 0, .int .i64 0, .int .i64 0] 24)).alloc (.cells #[.int .i64 0, .int .i64 0, .int .i64 0, .int .i64 0, .int .i64 0, .int .i64 0, .int .i64 4] 24) = wz at *
  refine (H117.out _).mono ?_
  rintro e v1 ⟨rfl, hf⟩
  have HS := Lib.hid (HS.out.fr hf)
  clear hf
  go_wp2_with fail
  refine (H1412.out _).mono ?_
  rintro e v2 ⟨rfl, hf⟩
  have HS := Lib.hid (HS.out.fr hf)
  clear hf
  go_wp2_with fail
  refine (H1915.out _).mono ?_
  rintro e v3 ⟨rfl, hf⟩
  have HS := Lib.hid (HS.out.fr hf)
  clear hf
  go_wp2_with fail
  refine (H2420.out _).mono ?_
  rintro e v4 ⟨rfl, hf⟩
  have HS := Lib.hid (HS.out.fr hf)
  clear hf
  go_wp2_with fail
  refine (H3125.out _).mono ?_
  rintro e v5 ⟨rfl, hf⟩
  have HS := Lib.hid (HS.out.fr hf)
  clear hf
  go_wp2_with fail
  refine (H3120.out _).mono ?_
  rintro e v6 ⟨rfl, hf⟩
  have HS := Lib.hid (HS.out.fr hf)
  clear hf
  go_wp2_with fail
  refine (HSI.out _).mono ?_
  rintro e v7 ⟨rfl, hf⟩
  have HS := Lib.hid (HS.out.fr hf)
  clear hf
  go_wp2_with fail
  refine (H60.out _).mono ?_
  rintro e v8 ⟨rfl, hf⟩
  have HS := Lib.hid (HS.out.fr hf)
  clear hf
  obtain ⟨ka0, ka1, ka2, ka3, ka4, ka5, ka6, fa0, fa1, fa2, fa3, fa4, fa5, fa6⟩ := blkat7 HS.out.a
  obtain ⟨kb0, kb1, kb2, kb3, kb4, kb5, kb6, fb0, fb1, fb2, fb3, fb4, fb5, fb6⟩ := blkat7 HS.out.b
  go_wp2_with fail
  refine bodyPost_ret (results_ct rfl _ _ W.heap.size 24 #[.int .i64 (0), .int .i64 (0), .int .i64 (0), .int .i64 (0), .int .i64 (0), .int .i64 (0), .int .i64 (0)] (0, 0) _ rfl ?_ Try.underlying24 rfl (by kernel_rfl)) rfl ?_
  · exact blk7 HS.out.a _ _ _ _ _ _ _
  · exact ⟨rfl, by (repeat (first | (with_reducible exact HS.out.f) | (with_reducible refine Fr.setCell ?_ (Or.inr (by simp)) _)))⟩
theorem rdec_any (w : Nat) (hw : w < 4294967296) (W : World) : Calls Try.prog 10 #[.int .u32 (w : Int)] W fun e w' => e = .returned (.tuple #[i7 (rdecP w).1, .bool (rdecP w).2]) ∧ Fr (fun _ => False) W w' := by
  by_cases c55 : fld w 0 7 = 55
  · exact rdec_lui w hw W c55
  by_cases c23 : fld w 0 7 = 23
  · exact rdec_auipc w hw W c23
  by_cases c111 : fld w 0 7 = 111
  · exact rdec_jal w hw W c111
  by_cases c103 : fld w 0 7 = 103
  · by_cases c : oneP [4] (fld w 12 3) = 0
    · exact rdec_jalrn w hw W c103 c
    · exact rdec_jalr w hw W c103 c
  by_cases c3 : fld w 0 7 = 3
  · by_cases c : oneP [11, 12, 13, 14, 15, 16, 17] (fld w 12 3) = 0
    · exact rdec_loadn w hw W c3 c
    · exact rdec_load w hw W c3 c
  by_cases c99 : fld w 0 7 = 99
  · by_cases c : oneP [5, 6, 0, 0, 7, 8, 9, 10] (fld w 12 3) = 0
    · exact rdec_branchn w hw W c99 c
    · exact rdec_branch w hw W c99 c
  by_cases c35 : fld w 0 7 = 35
  · by_cases c : oneP [18, 19, 20, 21] (fld w 12 3) = 0
    · exact rdec_storen w hw W c35 c
    · exact rdec_store w hw W c35 c
  by_cases c19 : fld w 0 7 = 19
  · by_cases c : (rimmP w).1 = 0
    · exact rdec_immn w hw W c19 c
    · exact rdec_imm w hw W c19 c
  by_cases c27 : fld w 0 7 = 27
  · by_cases c : (rimmP w).1 = 0
    · exact rdec_imm32n w hw W c27 c
    · exact rdec_imm32 w hw W c27 c
  by_cases c47 : fld w 0 7 = 47
  · by_cases c : amoR (fld w 27 5) (fld w 20 5) (fld w 12 3) = 0
    · exact rdec_amon w hw W c47 c
    · exact rdec_amo w hw W c47 c
  by_cases c15 : fld w 0 7 = 15
  · by_cases c : oneP [85, 86] (fld w 12 3) = 0
    · exact rdec_fencen w hw W c15 c
    · exact rdec_fence w hw W c15 c
  by_cases c51 : fld w 0 7 = 51
  · by_cases d0 : fld w 25 7 = 0
    · by_cases c : oneP [31, 33, 34, 35, 36, 37, 39, 40] (fld w 12 3) = 0
      · exact rdec_reg0n w hw W c51 d0 c
      · exact rdec_reg0 w hw W c51 d0 c
    by_cases d32 : fld w 25 7 = 32
    · by_cases c : oneP [32, 0, 0, 0, 0, 38] (fld w 12 3) = 0
      · exact rdec_reg32n w hw W c51 d32 c
      · exact rdec_reg32 w hw W c51 d32 c
    by_cases d1 : fld w 25 7 = 1
    · by_cases c : oneP [50, 51, 52, 53, 54, 55, 56, 57] (fld w 12 3) = 0
      · exact rdec_reg1n w hw W c51 d1 c
      · exact rdec_reg1 w hw W c51 d1 c
    exact rdec_regx w hw W c51 d0 d32 d1
  by_cases c59 : fld w 0 7 = 59
  · by_cases d0 : fld w 25 7 = 0
    · by_cases c : oneP [45, 47, 0, 0, 0, 48] (fld w 12 3) = 0
      · exact rdec_regw0n w hw W c59 d0 c
      · exact rdec_regw0 w hw W c59 d0 c
    by_cases d32 : fld w 25 7 = 32
    · by_cases c : oneP [46, 0, 0, 0, 0, 49] (fld w 12 3) = 0
      · exact rdec_regw32n w hw W c59 d32 c
      · exact rdec_regw32 w hw W c59 d32 c
    by_cases d1 : fld w 25 7 = 1
    · by_cases c : oneP [58, 0, 0, 0, 59, 60, 61, 62] (fld w 12 3) = 0
      · exact rdec_regw1n w hw W c59 d1 c
      · exact rdec_regw1 w hw W c59 d1 c
    exact rdec_regwx w hw W c59 d0 d32 d1
  by_cases c115 : fld w 0 7 = 115
  · by_cases d : w = 115
    · exact rdec_ecall w hw W c115 d
    by_cases e : w = 1048691
    · exact rdec_ebreak w hw W c115 e
    · exact rdec_sysx w hw W c115 d e
  exact rdec_none w hw W c55 c23 c111 c103 c3 c99 c35 c19 c27 c51 c59 c47 c15 c115
end Go.Proofs.Ytnopppamfleniaa.Ins
