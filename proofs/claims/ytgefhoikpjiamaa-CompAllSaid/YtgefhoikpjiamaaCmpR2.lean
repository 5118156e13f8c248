/- The document's Expand, walked (3). -/
import Derived.Test.YtgefhoikpjiamaaCmpJ
namespace Go.Proofs.Ytgefhoikpjiamaa.Cmp
open Go Go.RowKit Go.Proofs.YtgefhoikpjiamaaW.PrintWords Go.Proofs.YtgefhoikpjiamaaW.PrintLast Go.Proofs.YtgefhoikpjiamaaW.PrintMore
open Go.Proofs.Ytgefhoikpjiamaa.Hp Go.Proofs.Ytgefhoikpjiamaa.Bv
attribute [local go_sem] max2_int min2_int max_two min_two max_three min_three max_four min_four
set_option linter.unusedVariables false
set_option linter.unusedSimpArgs false
set_option maxRecDepth 100000 in
set_option maxHeartbeats 8000000 in
theorem rexpand_12n (h : Nat) (hh : h < 65536) (w : World) (ck : fN h 1 0 * 8 + fN h 15 13 = 12) (i : I7) (hi : reight h = i) (c :  i.1 = 0) : Calls Try.prog 8 #[.int .u16 (h : Int)] w fun e w' => e = .returned (.tuple #[i7 (rexpandP h).1, .bool (rexpandP h).2]) ∧ Fr (fun _ => False) w w' := by
  have hP : rexpandP h = size2 i := by unfold rexpandP; rw [ck]; show size2 (reight h) = _; rw [hi]
  rw [hP, size2_no c]
  clear hP
  have H117 := Lib.hid (cx1 h hh)
  have H62 := Lib.hid (cx2 h hh)
  have H97 := Lib.hid (cx3 h hh)
  have H42 := Lib.hid (cx4 h hh)
  have HP6 := Lib.hid (cx5 h hh)
  have HS6 := Lib.hid (cx6 h hh)
  have HPW := Lib.hid (cx7 h hh)
  have HPD := Lib.hid (cx8 h hh)
  have HPB := Lib.hid (cx9 h hh)
  have HSB := Lib.hid (cx10 h hh)
  have em : (h : Int) % 4294967296 = (h : Int) := by omega
  have hab : fN h 1 0 = 1 ∧ fN h 15 13 = 4 := by have a1 : fN h 1 0 < 4 := Nat.mod_lt _ (by decide); have a2 : fN h 15 13 < 8 := Nat.mod_lt _ (by decide); omega
  have H10 := Lib.hid (h10_1 h hh hab.1)
  have H153 := Lib.hid (h153_4 h hh hab.2)
  have b97 := fN_s h 9 7 3 rfl (by decide)
  have b42 := fN_s h 4 2 3 rfl (by decide)
  have b117 := fN_s h 11 7 5 rfl (by decide)
  have bsh := rshort_bd h
  clear hab
  have HE := Lib.hid (show ∀ W, Calls Try.prog 18 #[.int .u16 (h : Int), .int .i64 (((fN h 9 7 : Nat) : Int) + 8), .int .i64 (((fN h 4 2 : Nat) : Int) + 8), .int .i64 ((rsix h : Nat) : Int)] W fun e w' => e = .returned (i7 (reight h)) ∧ Fr (fun _ => False) W w' from eight_fr h hh)
  rw [hi] at HE
  clear ck hi
  obtain ⟨x0, x1, x2, x3, x4, x5, x6⟩ := i
  dsimp only [i7] at HE
  have t0 : (x0 == 0) = true := beq_iff_eq.2 c
  clear c
  generalize fN h 11 7 = rd at *
  generalize fN h 6 2 = rs2 at *
  generalize fN h 9 7 = a at *
  generalize fN h 4 2 = b at *
  generalize rsix h = six at *
  generalize rshort h = sh at *
  generalize rwords h = wo at *
  generalize rdoubles h = db at *
  generalize rbr h = br at *
  generalize rbranch h = bn at *
  go_enter Try.func8, Try.ntmps8
  go_wp2_with fail
  have HS := Lib.hid (RS.start w)
  generalize (w.alloc (.cells #[.int .i64 0, .int .i64 0, .int .i64 0, .int .i64 0, .int .i64 0, .int .i64 0, .int .i64 0] 25)).alloc (.cells #[.int .i64 0, .int .i64 0, .int .i64 0, .int .i64 0, .int .i64 0, .int .i64 0, .int .i64 2] 25) = wz at *
  refine (H117.out _).mono ?_
  rintro e v1 ⟨rfl, hf⟩
  have HS := Lib.hid (HS.out.fr hf)
  clear hf
  go_wp2_with fail
  refine (H62.out _).mono ?_
  rintro e v2 ⟨rfl, hf⟩
  have HS := Lib.hid (HS.out.fr hf)
  clear hf
  go_wp2_with fail
  refine (H97.out _).mono ?_
  rintro e v3 ⟨rfl, hf⟩
  have HS := Lib.hid (HS.out.fr hf)
  clear hf
  go_wp2_with fail
  refine (H42.out _).mono ?_
  rintro e v4 ⟨rfl, hf⟩
  have HS := Lib.hid (HS.out.fr hf)
  clear hf
  go_wp2_with fail
  refine (HP6.out _ _ (Blk.new _ _ _)).mono ?_
  rintro e v5 ⟨rfl, hf⟩
  have HS := Lib.hid (HS.out.al hf)
  clear hf
  go_wp2_with fail
  refine (HS6.out _).mono ?_
  rintro e v6 ⟨rfl, hf⟩
  have HS := Lib.hid (HS.out.fr hf)
  clear hf
  go_wp2_with fail
  refine (HPW.out _ _ (Blk.new _ _ _)).mono ?_
  rintro e v7 ⟨rfl, hf⟩
  have HS := Lib.hid (HS.out.al hf)
  clear hf
  go_wp2_with fail
  refine (HPD.out _ _ (Blk.new _ _ _)).mono ?_
  rintro e v8 ⟨rfl, hf⟩
  have HS := Lib.hid (HS.out.al hf)
  clear hf
  go_wp2_with fail
  refine (HPB.out _ _ (Blk.new _ _ _)).mono ?_
  rintro e v9 ⟨rfl, hf⟩
  have HS := Lib.hid (HS.out.al hf)
  clear hf
  go_wp2_with fail
  refine (HSB.out _).mono ?_
  rintro e v10 ⟨rfl, hf⟩
  have HS := Lib.hid (HS.out.fr hf)
  clear hf
  go_wp2_with fail
  refine (H10.out _).mono ?_
  rintro e v11 ⟨rfl, hf⟩
  have HS := Lib.hid (HS.out.fr hf)
  clear hf
  go_wp2_with fail
  refine (H153.out _).mono ?_
  rintro e v12 ⟨rfl, hf⟩
  have HS := Lib.hid (HS.out.fr hf)
  clear hf
  go_wp2_with fail
  refine (HE.out _).mono ?_
  rintro e v13 ⟨rfl, hf⟩
  have HS := Lib.hid (HS.out.fr hf)
  clear hf
  have HB2 := Lib.hid HS.out.b2
  have HB5 := Lib.hid HS.out.b5
  have HF := Lib.hid HS.out.f
  clear HS
  obtain ⟨ka0, ka1, ka2, ka3, ka4, ka5, ka6, fa0, fa1, fa2, fa3, fa4, fa5, fa6⟩ := blkat7 HB2.out
  obtain ⟨kb0, kb1, kb2, kb3, kb4, kb5, kb6, fb0, fb1, fb2, fb3, fb4, fb5, fb6⟩ := blkat7 HB5.out
  have hlt : w.heap.size + 1 < v13.heap.size := HB5.out.lt
  go_upto_region 60 with (fail)
  have HB5' := Lib.hid (blk7 HB5.out (.int .i64 (x0)) (.int .i64 (x1)) (.int .i64 (x2)) (.int .i64 (x3)) (.int .i64 (x4)) (.int .i64 (x5)) (.int .i64 (x6)))
  have HB2' := Lib.hid (show Blk (((((((v13.setCell ⟨w.heap.size + 1, 0, none⟩ (.int .i64 (x0))).setCell ⟨w.heap.size + 1, 1, none⟩ (.int .i64 (x1))).setCell ⟨w.heap.size + 1, 2, none⟩ (.int .i64 (x2))).setCell ⟨w.heap.size + 1, 3, none⟩ (.int .i64 (x3))).setCell ⟨w.heap.size + 1, 4, none⟩ (.int .i64 (x4))).setCell ⟨w.heap.size + 1, 5, none⟩ (.int .i64 (x5))).setCell ⟨w.heap.size + 1, 6, none⟩ (.int .i64 (x6))) w.heap.size 25 #[.int .i64 0, .int .i64 0, .int .i64 0, .int .i64 0, .int .i64 0, .int .i64 0, .int .i64 0] from by repeat (first | (with_reducible exact HB2.out) | (with_reducible refine Blk.set_ne ?_ (by simp) _)))
  have HF' := Lib.hid (show Fr (fun _ => False) w (((((((v13.setCell ⟨w.heap.size + 1, 0, none⟩ (.int .i64 (x0))).setCell ⟨w.heap.size + 1, 1, none⟩ (.int .i64 (x1))).setCell ⟨w.heap.size + 1, 2, none⟩ (.int .i64 (x2))).setCell ⟨w.heap.size + 1, 3, none⟩ (.int .i64 (x3))).setCell ⟨w.heap.size + 1, 4, none⟩ (.int .i64 (x4))).setCell ⟨w.heap.size + 1, 5, none⟩ (.int .i64 (x5))).setCell ⟨w.heap.size + 1, 6, none⟩ (.int .i64 (x6))) from by (repeat (first | (with_reducible exact HF.out) | (with_reducible refine Fr.setCell ?_ (Or.inr (by simp)) _))))
  clear hlt ka0 fa0 ka1 fa1 ka2 fa2 ka3 fa3 ka4 fa4 ka5 fa5 ka6 fa6 kb0 fb0 kb1 fb1 kb2 fb2 kb3 fb3 kb4 fb4 kb5 fb5 kb6 fb6
  clear HB2 HB5 HF
  generalize (((((((v13.setCell ⟨w.heap.size + 1, 0, none⟩ (.int .i64 (x0))).setCell ⟨w.heap.size + 1, 1, none⟩ (.int .i64 (x1))).setCell ⟨w.heap.size + 1, 2, none⟩ (.int .i64 (x2))).setCell ⟨w.heap.size + 1, 3, none⟩ (.int .i64 (x3))).setCell ⟨w.heap.size + 1, 4, none⟩ (.int .i64 (x4))).setCell ⟨w.heap.size + 1, 5, none⟩ (.int .i64 (x5))).setCell ⟨w.heap.size + 1, 6, none⟩ (.int .i64 (x6))) = wx at *
  have HB2 := HB2'
  have HB5 := HB5'
  have HF := HF'
  clear HB2' HB5' HF'
  obtain ⟨ka0, ka1, ka2, ka3, ka4, ka5, ka6, fa0, fa1, fa2, fa3, fa4, fa5, fa6⟩ := blkat7 HB2.out
  obtain ⟨kb0, kb1, kb2, kb3, kb4, kb5, kb6, fb0, fb1, fb2, fb3, fb4, fb5, fb6⟩ := blkat7 HB5.out
  have hlt : w.heap.size + 1 < wx.heap.size := HB5.out.lt
  go_wp2_with fail
  refine bodyPost_ret (results_ct rfl _ _ w.heap.size 25 #[.int .i64 (0), .int .i64 (0), .int .i64 (0), .int .i64 (0), .int .i64 (0), .int .i64 (0), .int .i64 (0)] (0, 0) _ rfl ?_ Try.underlying25 rfl (by kernel_rfl)) rfl ?_
  · exact blk7 (by repeat (first | (with_reducible exact HB2.out) | (with_reducible refine Blk.set_ne ?_ (by simp) _))) _ _ _ _ _ _ _
  · exact ⟨rfl, by (repeat (first | (with_reducible exact HF.out) | (with_reducible refine Fr.setCell ?_ (Or.inr (by simp)) _)))⟩
set_option maxRecDepth 100000 in
set_option maxHeartbeats 8000000 in
theorem rexpand_12y (h : Nat) (hh : h < 65536) (w : World) (ck : fN h 1 0 * 8 + fN h 15 13 = 12) (i : I7) (hi : reight h = i) (c : ¬ i.1 = 0) : Calls Try.prog 8 #[.int .u16 (h : Int)] w fun e w' => e = .returned (.tuple #[i7 (rexpandP h).1, .bool (rexpandP h).2]) ∧ Fr (fun _ => False) w w' := by
  have hP : rexpandP h = size2 i := by unfold rexpandP; rw [ck]; show size2 (reight h) = _; rw [hi]
  rw [hP, size2_yes c]
  clear hP
  have H117 := Lib.hid (cx1 h hh)
  have H62 := Lib.hid (cx2 h hh)
  have H97 := Lib.hid (cx3 h hh)
  have H42 := Lib.hid (cx4 h hh)
  have HP6 := Lib.hid (cx5 h hh)
  have HS6 := Lib.hid (cx6 h hh)
  have HPW := Lib.hid (cx7 h hh)
  have HPD := Lib.hid (cx8 h hh)
  have HPB := Lib.hid (cx9 h hh)
  have HSB := Lib.hid (cx10 h hh)
  have em : (h : Int) % 4294967296 = (h : Int) := by omega
  have hab : fN h 1 0 = 1 ∧ fN h 15 13 = 4 := by have a1 : fN h 1 0 < 4 := Nat.mod_lt _ (by decide); have a2 : fN h 15 13 < 8 := Nat.mod_lt _ (by decide); omega
  have H10 := Lib.hid (h10_1 h hh hab.1)
  have H153 := Lib.hid (h153_4 h hh hab.2)
  have b97 := fN_s h 9 7 3 rfl (by decide)
  have b42 := fN_s h 4 2 3 rfl (by decide)
  have b117 := fN_s h 11 7 5 rfl (by decide)
  have bsh := rshort_bd h
  clear hab
  have HE := Lib.hid (show ∀ W, Calls Try.prog 18 #[.int .u16 (h : Int), .int .i64 (((fN h 9 7 : Nat) : Int) + 8), .int .i64 (((fN h 4 2 : Nat) : Int) + 8), .int .i64 ((rsix h : Nat) : Int)] W fun e w' => e = .returned (i7 (reight h)) ∧ Fr (fun _ => False) W w' from eight_fr h hh)
  rw [hi] at HE
  clear ck hi
  obtain ⟨x0, x1, x2, x3, x4, x5, x6⟩ := i
  dsimp only [i7] at HE
  have t0 : (x0 == 0) = false := beq_eq_false_iff_ne.2 c
  clear c
  generalize fN h 11 7 = rd at *
  generalize fN h 6 2 = rs2 at *
  generalize fN h 9 7 = a at *
  generalize fN h 4 2 = b at *
  generalize rsix h = six at *
  generalize rshort h = sh at *
  generalize rwords h = wo at *
  generalize rdoubles h = db at *
  generalize rbr h = br at *
  generalize rbranch h = bn at *
  go_enter Try.func8, Try.ntmps8
  go_wp2_with fail
  have HS := Lib.hid (RS.start w)
  generalize (w.alloc (.cells #[.int .i64 0, .int .i64 0, .int .i64 0, .int .i64 0, .int .i64 0, .int .i64 0, .int .i64 0] 25)).alloc (.cells #[.int .i64 0, .int .i64 0, .int .i64 0, .int .i64 0, .int .i64 0, .int .i64 0, .int .i64 2] 25) = wz at *
  refine (H117.out _).mono ?_
  rintro e v1 ⟨rfl, hf⟩
  have HS := Lib.hid (HS.out.fr hf)
  clear hf
  go_wp2_with fail
  refine (H62.out _).mono ?_
  rintro e v2 ⟨rfl, hf⟩
  have HS := Lib.hid (HS.out.fr hf)
  clear hf
  go_wp2_with fail
  refine (H97.out _).mono ?_
  rintro e v3 ⟨rfl, hf⟩
  have HS := Lib.hid (HS.out.fr hf)
  clear hf
  go_wp2_with fail
  refine (H42.out _).mono ?_
  rintro e v4 ⟨rfl, hf⟩
  have HS := Lib.hid (HS.out.fr hf)
  clear hf
  go_wp2_with fail
  refine (HP6.out _ _ (Blk.new _ _ _)).mono ?_
  rintro e v5 ⟨rfl, hf⟩
  have HS := Lib.hid (HS.out.al hf)
  clear hf
  go_wp2_with fail
  refine (HS6.out _).mono ?_
  rintro e v6 ⟨rfl, hf⟩
  have HS := Lib.hid (HS.out.fr hf)
  clear hf
  go_wp2_with fail
  refine (HPW.out _ _ (Blk.new _ _ _)).mono ?_
  rintro e v7 ⟨rfl, hf⟩
  have HS := Lib.hid (HS.out.al hf)
  clear hf
  go_wp2_with fail
  refine (HPD.out _ _ (Blk.new _ _ _)).mono ?_
  rintro e v8 ⟨rfl, hf⟩
  have HS := Lib.hid (HS.out.al hf)
  clear hf
  go_wp2_with fail
  refine (HPB.out _ _ (Blk.new _ _ _)).mono ?_
  rintro e v9 ⟨rfl, hf⟩
  have HS := Lib.hid (HS.out.al hf)
  clear hf
  go_wp2_with fail
  refine (HSB.out _).mono ?_
  rintro e v10 ⟨rfl, hf⟩
  have HS := Lib.hid (HS.out.fr hf)
  clear hf
  go_wp2_with fail
  refine (H10.out _).mono ?_
  rintro e v11 ⟨rfl, hf⟩
  have HS := Lib.hid (HS.out.fr hf)
  clear hf
  go_wp2_with fail
  refine (H153.out _).mono ?_
  rintro e v12 ⟨rfl, hf⟩
  have HS := Lib.hid (HS.out.fr hf)
  clear hf
  go_wp2_with fail
  refine (HE.out _).mono ?_
  rintro e v13 ⟨rfl, hf⟩
  have HS := Lib.hid (HS.out.fr hf)
  clear hf
  have HB2 := Lib.hid HS.out.b2
  have HB5 := Lib.hid HS.out.b5
  have HF := Lib.hid HS.out.f
  clear HS
  obtain ⟨ka0, ka1, ka2, ka3, ka4, ka5, ka6, fa0, fa1, fa2, fa3, fa4, fa5, fa6⟩ := blkat7 HB2.out
  obtain ⟨kb0, kb1, kb2, kb3, kb4, kb5, kb6, fb0, fb1, fb2, fb3, fb4, fb5, fb6⟩ := blkat7 HB5.out
  have hlt : w.heap.size + 1 < v13.heap.size := HB5.out.lt
  go_upto_region 60 with (fail)
  have HB5' := Lib.hid (blk7 HB5.out (.int .i64 (x0)) (.int .i64 (x1)) (.int .i64 (x2)) (.int .i64 (x3)) (.int .i64 (x4)) (.int .i64 (x5)) (.int .i64 (x6)))
  have HB2' := Lib.hid (show Blk (((((((v13.setCell ⟨w.heap.size + 1, 0, none⟩ (.int .i64 (x0))).setCell ⟨w.heap.size + 1, 1, none⟩ (.int .i64 (x1))).setCell ⟨w.heap.size + 1, 2, none⟩ (.int .i64 (x2))).setCell ⟨w.heap.size + 1, 3, none⟩ (.int .i64 (x3))).setCell ⟨w.heap.size + 1, 4, none⟩ (.int .i64 (x4))).setCell ⟨w.heap.size + 1, 5, none⟩ (.int .i64 (x5))).setCell ⟨w.heap.size + 1, 6, none⟩ (.int .i64 (x6))) w.heap.size 25 #[.int .i64 0, .int .i64 0, .int .i64 0, .int .i64 0, .int .i64 0, .int .i64 0, .int .i64 0] from by repeat (first | (with_reducible exact HB2.out) | (with_reducible refine Blk.set_ne ?_ (by simp) _)))
  have HF' := Lib.hid (show Fr (fun _ => False) w (((((((v13.setCell ⟨w.heap.size + 1, 0, none⟩ (.int .i64 (x0))).setCell ⟨w.heap.size + 1, 1, none⟩ (.int .i64 (x1))).setCell ⟨w.heap.size + 1, 2, none⟩ (.int .i64 (x2))).setCell ⟨w.heap.size + 1, 3, none⟩ (.int .i64 (x3))).setCell ⟨w.heap.size + 1, 4, none⟩ (.int .i64 (x4))).setCell ⟨w.heap.size + 1, 5, none⟩ (.int .i64 (x5))).setCell ⟨w.heap.size + 1, 6, none⟩ (.int .i64 (x6))) from by (repeat (first | (with_reducible exact HF.out) | (with_reducible refine Fr.setCell ?_ (Or.inr (by simp)) _))))
  clear hlt ka0 fa0 ka1 fa1 ka2 fa2 ka3 fa3 ka4 fa4 ka5 fa5 ka6 fa6 kb0 fb0 kb1 fb1 kb2 fb2 kb3 fb3 kb4 fb4 kb5 fb5 kb6 fb6
  clear HB2 HB5 HF
  generalize (((((((v13.setCell ⟨w.heap.size + 1, 0, none⟩ (.int .i64 (x0))).setCell ⟨w.heap.size + 1, 1, none⟩ (.int .i64 (x1))).setCell ⟨w.heap.size + 1, 2, none⟩ (.int .i64 (x2))).setCell ⟨w.heap.size + 1, 3, none⟩ (.int .i64 (x3))).setCell ⟨w.heap.size + 1, 4, none⟩ (.int .i64 (x4))).setCell ⟨w.heap.size + 1, 5, none⟩ (.int .i64 (x5))).setCell ⟨w.heap.size + 1, 6, none⟩ (.int .i64 (x6))) = wx at *
  have HB2 := HB2'
  have HB5 := HB5'
  have HF := HF'
  clear HB2' HB5' HF'
  obtain ⟨ka0, ka1, ka2, ka3, ka4, ka5, ka6, fa0, fa1, fa2, fa3, fa4, fa5, fa6⟩ := blkat7 HB2.out
  obtain ⟨kb0, kb1, kb2, kb3, kb4, kb5, kb6, fb0, fb1, fb2, fb3, fb4, fb5, fb6⟩ := blkat7 HB5.out
  have hlt : w.heap.size + 1 < wx.heap.size := HB5.out.lt
  go_wp2_with fail
  refine bodyPost_ret (results_ct rfl _ _ w.heap.size 25 #[.int .i64 (x0), .int .i64 (x1), .int .i64 (x2), .int .i64 (x3), .int .i64 (x4), .int .i64 (x5), .int .i64 (2)] (0, 0) _ rfl ?_ Try.underlying25 rfl (by kernel_rfl)) rfl ?_
  · exact blk7 (by repeat (first | (with_reducible exact HB2.out) | (with_reducible refine Blk.set_ne ?_ (by simp) _))) _ _ _ _ _ _ _
  · exact ⟨rfl, by (repeat (first | (with_reducible exact HF.out) | (with_reducible refine Fr.setCell ?_ (Or.inr (by simp)) _)))⟩
theorem rexpand_12 (h : Nat) (hh : h < 65536) (w : World) (ck : fN h 1 0 * 8 + fN h 15 13 = 12) : Calls Try.prog 8 #[.int .u16 (h : Int)] w fun e w' => e = .returned (.tuple #[i7 (rexpandP h).1, .bool (rexpandP h).2]) ∧ Fr (fun _ => False) w w' := by
  by_cases c : (reight h).1 = 0
  · exact rexpand_12n h hh w ck _ rfl c
  · exact rexpand_12y h hh w ck _ rfl c
set_option maxRecDepth 100000 in
set_option maxHeartbeats 8000000 in
theorem rexpand_13 (h : Nat) (hh : h < 65536) (w : World) (ck : fN h 1 0 * 8 + fN h 15 13 = 13) : Calls Try.prog 8 #[.int .u16 (h : Int)] w fun e w' => e = .returned (.tuple #[i7 (rexpandP h).1, .bool (rexpandP h).2]) ∧ Fr (fun _ => False) w w' := by
  have hP : rexpandP h = ((3, 0, 0, 0, rjump h, 0, 2), true) := by unfold rexpandP; rw [ck]; rfl
  rw [hP]
  clear hP
  have H117 := Lib.hid (cx1 h hh)
  have H62 := Lib.hid (cx2 h hh)
  have H97 := Lib.hid (cx3 h hh)
  have H42 := Lib.hid (cx4 h hh)
  have HP6 := Lib.hid (cx5 h hh)
  have HS6 := Lib.hid (cx6 h hh)
  have HPW := Lib.hid (cx7 h hh)
  have HPD := Lib.hid (cx8 h hh)
  have HPB := Lib.hid (cx9 h hh)
  have HSB := Lib.hid (cx10 h hh)
  have em : (h : Int) % 4294967296 = (h : Int) := by omega
  have hab : fN h 1 0 = 1 ∧ fN h 15 13 = 5 := by have a1 : fN h 1 0 < 4 := Nat.mod_lt _ (by decide); have a2 : fN h 15 13 < 8 := Nat.mod_lt _ (by decide); omega
  have H10 := Lib.hid (h10_1 h hh hab.1)
  have H153 := Lib.hid (h153_5 h hh hab.2)
  have b97 := fN_s h 9 7 3 rfl (by decide)
  have b42 := fN_s h 4 2 3 rfl (by decide)
  have b117 := fN_s h 11 7 5 rfl (by decide)
  have bsh := rshort_bd h
  clear hab
  have HPX := Lib.hid (cx14 h hh)
  have HSX := Lib.hid (cx15 h hh)
  clear ck
  generalize fN h 11 7 = rd at *
  generalize fN h 6 2 = rs2 at *
  generalize fN h 9 7 = a at *
  generalize fN h 4 2 = b at *
  generalize rsix h = six at *
  generalize rshort h = sh at *
  generalize rwords h = wo at *
  generalize rdoubles h = db at *
  generalize rbr h = br at *
  generalize rbranch h = bn at *
  generalize rjm h = jm at *
  generalize rjump h = jn at *
  go_enter Try.func8, Try.ntmps8
  go_wp2_with fail
  have HS := Lib.hid (RS.start w)
  generalize (w.alloc (.cells #[.int .i64 0, .int .i64 0, .int .i64 0, .int .i64 0, .int .i64 0, .int .i64 0, .int .i64 0] 25)).alloc (.cells #[.int .i64 0, .int .i64 0, .int .i64 0, .int .i64 0, .int .i64 0, .int .i64 0, .int .i64 2] 25) = wz at *
  refine (H117.out _).mono ?_
  rintro e v14 ⟨rfl, hf⟩
  have HS := Lib.hid (HS.out.fr hf)
  clear hf
  go_wp2_with fail
  refine (H62.out _).mono ?_
  rintro e v15 ⟨rfl, hf⟩
  have HS := Lib.hid (HS.out.fr hf)
  clear hf
  go_wp2_with fail
  refine (H97.out _).mono ?_
  rintro e v16 ⟨rfl, hf⟩
  have HS := Lib.hid (HS.out.fr hf)
  clear hf
  go_wp2_with fail
  refine (H42.out _).mono ?_
  rintro e v17 ⟨rfl, hf⟩
  have HS := Lib.hid (HS.out.fr hf)
  clear hf
  go_wp2_with fail
  refine (HP6.out _ _ (Blk.new _ _ _)).mono ?_
  rintro e v18 ⟨rfl, hf⟩
  have HS := Lib.hid (HS.out.al hf)
  clear hf
  go_wp2_with fail
  refine (HS6.out _).mono ?_
  rintro e v19 ⟨rfl, hf⟩
  have HS := Lib.hid (HS.out.fr hf)
  clear hf
  go_wp2_with fail
  refine (HPW.out _ _ (Blk.new _ _ _)).mono ?_
  rintro e v20 ⟨rfl, hf⟩
  have HS := Lib.hid (HS.out.al hf)
  clear hf
  go_wp2_with fail
  refine (HPD.out _ _ (Blk.new _ _ _)).mono ?_
  rintro e v21 ⟨rfl, hf⟩
  have HS := Lib.hid (HS.out.al hf)
  clear hf
  go_wp2_with fail
  refine (HPB.out _ _ (Blk.new _ _ _)).mono ?_
  rintro e v22 ⟨rfl, hf⟩
  have HS := Lib.hid (HS.out.al hf)
  clear hf
  go_wp2_with fail
  refine (HSB.out _).mono ?_
  rintro e v23 ⟨rfl, hf⟩
  have HS := Lib.hid (HS.out.fr hf)
  clear hf
  go_wp2_with fail
  refine (H10.out _).mono ?_
  rintro e v24 ⟨rfl, hf⟩
  have HS := Lib.hid (HS.out.fr hf)
  clear hf
  go_wp2_with fail
  refine (H153.out _).mono ?_
  rintro e v25 ⟨rfl, hf⟩
  have HS := Lib.hid (HS.out.fr hf)
  clear hf
  go_wp2_with fail
  refine (HPX.out _ _ (Blk.new _ _ _)).mono ?_
  rintro e v26 ⟨rfl, hf⟩
  have HS := Lib.hid (HS.out.al hf)
  clear hf
  go_wp2_with fail
  refine (HSX.out _).mono ?_
  rintro e v27 ⟨rfl, hf⟩
  have HS := Lib.hid (HS.out.fr hf)
  clear hf
  have HB2 := Lib.hid HS.out.b2
  have HB5 := Lib.hid HS.out.b5
  have HF := Lib.hid HS.out.f
  clear HS
  obtain ⟨ka0, ka1, ka2, ka3, ka4, ka5, ka6, fa0, fa1, fa2, fa3, fa4, fa5, fa6⟩ := blkat7 HB2.out
  obtain ⟨kb0, kb1, kb2, kb3, kb4, kb5, kb6, fb0, fb1, fb2, fb3, fb4, fb5, fb6⟩ := blkat7 HB5.out
  have hlt : w.heap.size + 1 < v27.heap.size := HB5.out.lt
  go_upto_region 60 with (fail)
  have HB5' := Lib.hid (blk7 HB5.out (.int .i64 (3)) (.int .i64 (0)) (.int .i64 (0)) (.int .i64 (0)) (.int .i64 (jn)) (.int .i64 (0)) (.int .i64 (0)))
  have HB2' := Lib.hid (show Blk (((((((v27.setCell ⟨w.heap.size + 1, 0, none⟩ (.int .i64 (3))).setCell ⟨w.heap.size + 1, 1, none⟩ (.int .i64 (0))).setCell ⟨w.heap.size + 1, 2, none⟩ (.int .i64 (0))).setCell ⟨w.heap.size + 1, 3, none⟩ (.int .i64 (0))).setCell ⟨w.heap.size + 1, 4, none⟩ (.int .i64 (jn))).setCell ⟨w.heap.size + 1, 5, none⟩ (.int .i64 (0))).setCell ⟨w.heap.size + 1, 6, none⟩ (.int .i64 (0))) w.heap.size 25 #[.int .i64 0, .int .i64 0, .int .i64 0, .int .i64 0, .int .i64 0, .int .i64 0, .int .i64 0] from by repeat (first | (with_reducible exact HB2.out) | (with_reducible refine Blk.set_ne ?_ (by simp) _)))
  have HF' := Lib.hid (show Fr (fun _ => False) w (((((((v27.setCell ⟨w.heap.size + 1, 0, none⟩ (.int .i64 (3))).setCell ⟨w.heap.size + 1, 1, none⟩ (.int .i64 (0))).setCell ⟨w.heap.size + 1, 2, none⟩ (.int .i64 (0))).setCell ⟨w.heap.size + 1, 3, none⟩ (.int .i64 (0))).setCell ⟨w.heap.size + 1, 4, none⟩ (.int .i64 (jn))).setCell ⟨w.heap.size + 1, 5, none⟩ (.int .i64 (0))).setCell ⟨w.heap.size + 1, 6, none⟩ (.int .i64 (0))) from by (repeat (first | (with_reducible exact HF.out) | (with_reducible refine Fr.setCell ?_ (Or.inr (by simp)) _))))
  clear hlt ka0 fa0 ka1 fa1 ka2 fa2 ka3 fa3 ka4 fa4 ka5 fa5 ka6 fa6 kb0 fb0 kb1 fb1 kb2 fb2 kb3 fb3 kb4 fb4 kb5 fb5 kb6 fb6
  clear HB2 HB5 HF
  generalize (((((((v27.setCell ⟨w.heap.size + 1, 0, none⟩ (.int .i64 (3))).setCell ⟨w.heap.size + 1, 1, none⟩ (.int .i64 (0))).setCell ⟨w.heap.size + 1, 2, none⟩ (.int .i64 (0))).setCell ⟨w.heap.size + 1, 3, none⟩ (.int .i64 (0))).setCell ⟨w.heap.size + 1, 4, none⟩ (.int .i64 (jn))).setCell ⟨w.heap.size + 1, 5, none⟩ (.int .i64 (0))).setCell ⟨w.heap.size + 1, 6, none⟩ (.int .i64 (0))) = wx at *
  have HB2 := HB2'
  have HB5 := HB5'
  have HF := HF'
  clear HB2' HB5' HF'
  obtain ⟨ka0, ka1, ka2, ka3, ka4, ka5, ka6, fa0, fa1, fa2, fa3, fa4, fa5, fa6⟩ := blkat7 HB2.out
  obtain ⟨kb0, kb1, kb2, kb3, kb4, kb5, kb6, fb0, fb1, fb2, fb3, fb4, fb5, fb6⟩ := blkat7 HB5.out
  have hlt : w.heap.size + 1 < wx.heap.size := HB5.out.lt
  go_wp2_with fail
  refine bodyPost_ret (results_ct rfl _ _ w.heap.size 25 #[.int .i64 (3), .int .i64 (0), .int .i64 (0), .int .i64 (0), .int .i64 (jn), .int .i64 (0), .int .i64 (2)] (0, 0) _ rfl ?_ Try.underlying25 rfl (by kernel_rfl)) rfl ?_
  · exact blk7 (by repeat (first | (with_reducible exact HB2.out) | (with_reducible refine Blk.set_ne ?_ (by simp) _))) _ _ _ _ _ _ _
  · exact ⟨rfl, by (repeat (first | (with_reducible exact HF.out) | (with_reducible refine Fr.setCell ?_ (Or.inr (by simp)) _)))⟩
set_option maxRecDepth 100000 in
set_option maxHeartbeats 8000000 in
theorem rexpand_14 (h : Nat) (hh : h < 65536) (w : World) (ck : fN h 1 0 * 8 + fN h 15 13 = 14) : Calls Try.prog 8 #[.int .u16 (h : Int)] w fun e w' => e = .returned (.tuple #[i7 (rexpandP h).1, .bool (rexpandP h).2]) ∧ Fr (fun _ => False) w w' := by
  have hP : rexpandP h = ((5, 0, ((fN h 9 7 + 8 : Nat) : Int), 0, rbranch h, 0, 2), true) := by unfold rexpandP; rw [ck]; rfl
  rw [hP]
  clear hP
  have H117 := Lib.hid (cx1 h hh)
  have H62 := Lib.hid (cx2 h hh)
  have H97 := Lib.hid (cx3 h hh)
  have H42 := Lib.hid (cx4 h hh)
  have HP6 := Lib.hid (cx5 h hh)
  have HS6 := Lib.hid (cx6 h hh)
  have HPW := Lib.hid (cx7 h hh)
  have HPD := Lib.hid (cx8 h hh)
  have HPB := Lib.hid (cx9 h hh)
  have HSB := Lib.hid (cx10 h hh)
  have em : (h : Int) % 4294967296 = (h : Int) := by omega
  have hab : fN h 1 0 = 1 ∧ fN h 15 13 = 6 := by have a1 : fN h 1 0 < 4 := Nat.mod_lt _ (by decide); have a2 : fN h 15 13 < 8 := Nat.mod_lt _ (by decide); omega
  have H10 := Lib.hid (h10_1 h hh hab.1)
  have H153 := Lib.hid (h153_6 h hh hab.2)
  have b97 := fN_s h 9 7 3 rfl (by decide)
  have b42 := fN_s h 4 2 3 rfl (by decide)
  have b117 := fN_s h 11 7 5 rfl (by decide)
  have bsh := rshort_bd h
  clear hab
  clear ck
  generalize fN h 11 7 = rd at *
  generalize fN h 6 2 = rs2 at *
  generalize fN h 9 7 = a at *
  generalize fN h 4 2 = b at *
  generalize rsix h = six at *
  generalize rshort h = sh at *
  generalize rwords h = wo at *
  generalize rdoubles h = db at *
  generalize rbr h = br at *
  generalize rbranch h = bn at *
  go_enter Try.func8, Try.ntmps8
  go_wp2_with fail
  have HS := Lib.hid (RS.start w)
  generalize (w.alloc (.cells #[.int .i64 0, .int .i64 0, .int .i64 0, .int .i64 0, .int .i64 0, .int .i64 0, .int .i64 0] 25)).alloc (.cells #[.int .i64 0, .int .i64 0, .int .i64 0, .int .i64 0, .int .i64 0, .int .i64 0, .int .i64 2] 25) = wz at *
  refine (H117.out _).mono ?_
  rintro e v28 ⟨rfl, hf⟩
  have HS := Lib.hid (HS.out.fr hf)
  clear hf
  go_wp2_with fail
  refine (H62.out _).mono ?_
  rintro e v29 ⟨rfl, hf⟩
  have HS := Lib.hid (HS.out.fr hf)
  clear hf
  go_wp2_with fail
  refine (H97.out _).mono ?_
  rintro e v30 ⟨rfl, hf⟩
  have HS := Lib.hid (HS.out.fr hf)
  clear hf
  go_wp2_with fail
  refine (H42.out _).mono ?_
  rintro e v31 ⟨rfl, hf⟩
  have HS := Lib.hid (HS.out.fr hf)
  clear hf
  go_wp2_with fail
  refine (HP6.out _ _ (Blk.new _ _ _)).mono ?_
  rintro e v32 ⟨rfl, hf⟩
  have HS := Lib.hid (HS.out.al hf)
  clear hf
  go_wp2_with fail
  refine (HS6.out _).mono ?_
  rintro e v33 ⟨rfl, hf⟩
  have HS := Lib.hid (HS.out.fr hf)
  clear hf
  go_wp2_with fail
  refine (HPW.out _ _ (Blk.new _ _ _)).mono ?_
  rintro e v34 ⟨rfl, hf⟩
  have HS := Lib.hid (HS.out.al hf)
  clear hf
  go_wp2_with fail
  refine (HPD.out _ _ (Blk.new _ _ _)).mono ?_
  rintro e v35 ⟨rfl, hf⟩
  have HS := Lib.hid (HS.out.al hf)
  clear hf
  go_wp2_with fail
  refine (HPB.out _ _ (Blk.new _ _ _)).mono ?_
  rintro e v36 ⟨rfl, hf⟩
  have HS := Lib.hid (HS.out.al hf)
  clear hf
  go_wp2_with fail
  refine (HSB.out _).mono ?_
  rintro e v37 ⟨rfl, hf⟩
  have HS := Lib.hid (HS.out.fr hf)
  clear hf
  go_wp2_with fail
  refine (H10.out _).mono ?_
  rintro e v38 ⟨rfl, hf⟩
  have HS := Lib.hid (HS.out.fr hf)
  clear hf
  go_wp2_with fail
  refine (H153.out _).mono ?_
  rintro e v39 ⟨rfl, hf⟩
  have HS := Lib.hid (HS.out.fr hf)
  clear hf
  have HB2 := Lib.hid HS.out.b2
  have HB5 := Lib.hid HS.out.b5
  have HF := Lib.hid HS.out.f
  clear HS
  obtain ⟨ka0, ka1, ka2, ka3, ka4, ka5, ka6, fa0, fa1, fa2, fa3, fa4, fa5, fa6⟩ := blkat7 HB2.out
  obtain ⟨kb0, kb1, kb2, kb3, kb4, kb5, kb6, fb0, fb1, fb2, fb3, fb4, fb5, fb6⟩ := blkat7 HB5.out
  have hlt : w.heap.size + 1 < v39.heap.size := HB5.out.lt
  go_upto_region 60 with (fail)
  have HB5' := Lib.hid (blk7 HB5.out (.int .i64 (5)) (.int .i64 (0)) (.int .i64 ((a : Int) + 8)) (.int .i64 (0)) (.int .i64 (bn)) (.int .i64 (0)) (.int .i64 (0)))
  have HB2' := Lib.hid (show Blk (((((((v39.setCell ⟨w.heap.size + 1, 0, none⟩ (.int .i64 (5))).setCell ⟨w.heap.size + 1, 1, none⟩ (.int .i64 (0))).setCell ⟨w.heap.size + 1, 2, none⟩ (.int .i64 ((a : Int) + 8))).setCell ⟨w.heap.size + 1, 3, none⟩ (.int .i64 (0))).setCell ⟨w.heap.size + 1, 4, none⟩ (.int .i64 (bn))).setCell ⟨w.heap.size + 1, 5, none⟩ (.int .i64 (0))).setCell ⟨w.heap.size + 1, 6, none⟩ (.int .i64 (0))) w.heap.size 25 #[.int .i64 0, .int .i64 0, .int .i64 0, .int .i64 0, .int .i64 0, .int .i64 0, .int .i64 0] from by repeat (first | (with_reducible exact HB2.out) | (with_reducible refine Blk.set_ne ?_ (by simp) _)))
  have HF' := Lib.hid (show Fr (fun _ => False) w (((((((v39.setCell ⟨w.heap.size + 1, 0, none⟩ (.int .i64 (5))).setCell ⟨w.heap.size + 1, 1, none⟩ (.int .i64 (0))).setCell ⟨w.heap.size + 1, 2, none⟩ (.int .i64 ((a : Int) + 8))).setCell ⟨w.heap.size + 1, 3, none⟩ (.int .i64 (0))).setCell ⟨w.heap.size + 1, 4, none⟩ (.int .i64 (bn))).setCell ⟨w.heap.size + 1, 5, none⟩ (.int .i64 (0))).setCell ⟨w.heap.size + 1, 6, none⟩ (.int .i64 (0))) from by (repeat (first | (with_reducible exact HF.out) | (with_reducible refine Fr.setCell ?_ (Or.inr (by simp)) _))))
  clear hlt ka0 fa0 ka1 fa1 ka2 fa2 ka3 fa3 ka4 fa4 ka5 fa5 ka6 fa6 kb0 fb0 kb1 fb1 kb2 fb2 kb3 fb3 kb4 fb4 kb5 fb5 kb6 fb6
  clear HB2 HB5 HF
  generalize (((((((v39.setCell ⟨w.heap.size + 1, 0, none⟩ (.int .i64 (5))).setCell ⟨w.heap.size + 1, 1, none⟩ (.int .i64 (0))).setCell ⟨w.heap.size + 1, 2, none⟩ (.int .i64 ((a : Int) + 8))).setCell ⟨w.heap.size + 1, 3, none⟩ (.int .i64 (0))).setCell ⟨w.heap.size + 1, 4, none⟩ (.int .i64 (bn))).setCell ⟨w.heap.size + 1, 5, none⟩ (.int .i64 (0))).setCell ⟨w.heap.size + 1, 6, none⟩ (.int .i64 (0))) = wx at *
  have HB2 := HB2'
  have HB5 := HB5'
  have HF := HF'
  clear HB2' HB5' HF'
  obtain ⟨ka0, ka1, ka2, ka3, ka4, ka5, ka6, fa0, fa1, fa2, fa3, fa4, fa5, fa6⟩ := blkat7 HB2.out
  obtain ⟨kb0, kb1, kb2, kb3, kb4, kb5, kb6, fb0, fb1, fb2, fb3, fb4, fb5, fb6⟩ := blkat7 HB5.out
  have hlt : w.heap.size + 1 < wx.heap.size := HB5.out.lt
  go_wp2_with fail
  refine bodyPost_ret (results_ct rfl _ _ w.heap.size 25 #[.int .i64 (5), .int .i64 (0), .int .i64 ((a : Int) + 8), .int .i64 (0), .int .i64 (bn), .int .i64 (0), .int .i64 (2)] (0, 0) _ rfl ?_ Try.underlying25 rfl (by kernel_rfl)) rfl ?_
  · exact blk7 (by repeat (first | (with_reducible exact HB2.out) | (with_reducible refine Blk.set_ne ?_ (by simp) _))) _ _ _ _ _ _ _
  · exact ⟨rfl, by (repeat (first | (with_reducible exact HF.out) | (with_reducible refine Fr.setCell ?_ (Or.inr (by simp)) _)))⟩
set_option maxRecDepth 100000 in
set_option maxHeartbeats 8000000 in
theorem rexpand_15 (h : Nat) (hh : h < 65536) (w : World) (ck : fN h 1 0 * 8 + fN h 15 13 = 15) : Calls Try.prog 8 #[.int .u16 (h : Int)] w fun e w' => e = .returned (.tuple #[i7 (rexpandP h).1, .bool (rexpandP h).2]) ∧ Fr (fun _ => False) w w' := by
  have hP : rexpandP h = ((6, 0, ((fN h 9 7 + 8 : Nat) : Int), 0, rbranch h, 0, 2), true) := by unfold rexpandP; rw [ck]; rfl
  rw [hP]
  clear hP
  have H117 := Lib.hid (cx1 h hh)
  have H62 := Lib.hid (cx2 h hh)
  have H97 := Lib.hid (cx3 h hh)
  have H42 := Lib.hid (cx4 h hh)
  have HP6 := Lib.hid (cx5 h hh)
  have HS6 := Lib.hid (cx6 h hh)
  have HPW := Lib.hid (cx7 h hh)
  have HPD := Lib.hid (cx8 h hh)
  have HPB := Lib.hid (cx9 h hh)
  have HSB := Lib.hid (cx10 h hh)
  have em : (h : Int) % 4294967296 = (h : Int) := by omega
  have hab : fN h 1 0 = 1 ∧ fN h 15 13 = 7 := by have a1 : fN h 1 0 < 4 := Nat.mod_lt _ (by decide); have a2 : fN h 15 13 < 8 := Nat.mod_lt _ (by decide); omega
  have H10 := Lib.hid (h10_1 h hh hab.1)
  have H153 := Lib.hid (h153_7 h hh hab.2)
  have b97 := fN_s h 9 7 3 rfl (by decide)
  have b42 := fN_s h 4 2 3 rfl (by decide)
  have b117 := fN_s h 11 7 5 rfl (by decide)
  have bsh := rshort_bd h
  clear hab
  clear ck
  generalize fN h 11 7 = rd at *
  generalize fN h 6 2 = rs2 at *
  generalize fN h 9 7 = a at *
  generalize fN h 4 2 = b at *
  generalize rsix h = six at *
  generalize rshort h = sh at *
  generalize rwords h = wo at *
  generalize rdoubles h = db at *
  generalize rbr h = br at *
  generalize rbranch h = bn at *
  go_enter Try.func8, Try.ntmps8
  go_wp2_with fail
  have HS := Lib.hid (RS.start w)
  generalize (w.alloc (.cells #[.int .i64 0, .int .i64 0, .int .i64 0, .int .i64 0, .int .i64 0, .int .i64 0, .int .i64 0] 25)).alloc (.cells #[.int .i64 0, .int .i64 0, .int .i64 0, .int .i64 0, .int .i64 0, .int .i64 0, .int .i64 2] 25) = wz at *
  refine (H117.out _).mono ?_
  rintro e v40 ⟨rfl, hf⟩
  have HS := Lib.hid (HS.out.fr hf)
  clear hf
  go_wp2_with fail
  refine (H62.out _).mono ?_
  rintro e v41 ⟨rfl, hf⟩
  have HS := Lib.hid (HS.out.fr hf)
  clear hf
  go_wp2_with fail
  refine (H97.out _).mono ?_
  rintro e v42 ⟨rfl, hf⟩
  have HS := Lib.hid (HS.out.fr hf)
  clear hf
  go_wp2_with fail
  refine (H42.out _).mono ?_
  rintro e v43 ⟨rfl, hf⟩
  have HS := Lib.hid (HS.out.fr hf)
  clear hf
  go_wp2_with fail
  refine (HP6.out _ _ (Blk.new _ _ _)).mono ?_
  rintro e v44 ⟨rfl, hf⟩
  have HS := Lib.hid (HS.out.al hf)
  clear hf
  go_wp2_with fail
  refine (HS6.out _).mono ?_
  rintro e v45 ⟨rfl, hf⟩
  have HS := Lib.hid (HS.out.fr hf)
  clear hf
  go_wp2_with fail
  refine (HPW.out _ _ (Blk.new _ _ _)).mono ?_
  rintro e v46 ⟨rfl, hf⟩
  have HS := Lib.hid (HS.out.al hf)
  clear hf
  go_wp2_with fail
  refine (HPD.out _ _ (Blk.new _ _ _)).mono ?_
  rintro e v47 ⟨rfl, hf⟩
  have HS := Lib.hid (HS.out.al hf)
  clear hf
  go_wp2_with fail
  refine (HPB.out _ _ (Blk.new _ _ _)).mono ?_
  rintro e v48 ⟨rfl, hf⟩
  have HS := Lib.hid (HS.out.al hf)
  clear hf
  go_wp2_with fail
  refine (HSB.out _).mono ?_
  rintro e v49 ⟨rfl, hf⟩
  have HS := Lib.hid (HS.out.fr hf)
  clear hf
  go_wp2_with fail
  refine (H10.out _).mono ?_
  rintro e v50 ⟨rfl, hf⟩
  have HS := Lib.hid (HS.out.fr hf)
  clear hf
  go_wp2_with fail
  refine (H153.out _).mono ?_
  rintro e v51 ⟨rfl, hf⟩
  have HS := Lib.hid (HS.out.fr hf)
  clear hf
  have HB2 := Lib.hid HS.out.b2
  have HB5 := Lib.hid HS.out.b5
  have HF := Lib.hid HS.out.f
  clear HS
  obtain ⟨ka0, ka1, ka2, ka3, ka4, ka5, ka6, fa0, fa1, fa2, fa3, fa4, fa5, fa6⟩ := blkat7 HB2.out
  obtain ⟨kb0, kb1, kb2, kb3, kb4, kb5, kb6, fb0, fb1, fb2, fb3, fb4, fb5, fb6⟩ := blkat7 HB5.out
  have hlt : w.heap.size + 1 < v51.heap.size := HB5.out.lt
  go_upto_region 60 with (fail)
  have HB5' := Lib.hid (blk7 HB5.out (.int .i64 (6)) (.int .i64 (0)) (.int .i64 ((a : Int) + 8)) (.int .i64 (0)) (.int .i64 (bn)) (.int .i64 (0)) (.int .i64 (0)))
  have HB2' := Lib.hid (show Blk (((((((v51.setCell ⟨w.heap.size + 1, 0, none⟩ (.int .i64 (6))).setCell ⟨w.heap.size + 1, 1, none⟩ (.int .i64 (0))).setCell ⟨w.heap.size + 1, 2, none⟩ (.int .i64 ((a : Int) + 8))).setCell ⟨w.heap.size + 1, 3, none⟩ (.int .i64 (0))).setCell ⟨w.heap.size + 1, 4, none⟩ (.int .i64 (bn))).setCell ⟨w.heap.size + 1, 5, none⟩ (.int .i64 (0))).setCell ⟨w.heap.size + 1, 6, none⟩ (.int .i64 (0))) w.heap.size 25 #[.int .i64 0, .int .i64 0, .int .i64 0, .int .i64 0, .int .i64 0, .int .i64 0, .int .i64 0] from by repeat (first | (with_reducible exact HB2.out) | (with_reducible refine Blk.set_ne ?_ (by simp) _)))
  have HF' := Lib.hid (show Fr (fun _ => False) w (((((((v51.setCell ⟨w.heap.size + 1, 0, none⟩ (.int .i64 (6))).setCell ⟨w.heap.size + 1, 1, none⟩ (.int .i64 (0))).setCell ⟨w.heap.size + 1, 2, none⟩ (.int .i64 ((a : Int) + 8))).setCell ⟨w.heap.size + 1, 3, none⟩ (.int .i64 (0))).setCell ⟨w.heap.size + 1, 4, none⟩ (.int .i64 (bn))).setCell ⟨w.heap.size + 1, 5, none⟩ (.int .i64 (0))).setCell ⟨w.heap.size + 1, 6, none⟩ (.int .i64 (0))) from by (repeat (first | (with_reducible exact HF.out) | (with_reducible refine Fr.setCell ?_ (Or.inr (by simp)) _))))
  clear hlt ka0 fa0 ka1 fa1 ka2 fa2 ka3 fa3 ka4 fa4 ka5 fa5 ka6 fa6 kb0 fb0 kb1 fb1 kb2 fb2 kb3 fb3 kb4 fb4 kb5 fb5 kb6 fb6
  clear HB2 HB5 HF
  generalize (((((((v51.setCell ⟨w.heap.size + 1, 0, none⟩ (.int .i64 (6))).setCell ⟨w.heap.size + 1, 1, none⟩ (.int .i64 (0))).setCell ⟨w.heap.size + 1, 2, none⟩ (.int .i64 ((a : Int) + 8))).setCell ⟨w.heap.size + 1, 3, none⟩ (.int .i64 (0))).setCell ⟨w.heap.size + 1, 4, none⟩ (.int .i64 (bn))).setCell ⟨w.heap.size + 1, 5, none⟩ (.int .i64 (0))).setCell ⟨w.heap.size + 1, 6, none⟩ (.int .i64 (0))) = wx at *
  have HB2 := HB2'
  have HB5 := HB5'
  have HF := HF'
  clear HB2' HB5' HF'
  obtain ⟨ka0, ka1, ka2, ka3, ka4, ka5, ka6, fa0, fa1, fa2, fa3, fa4, fa5, fa6⟩ := blkat7 HB2.out
  obtain ⟨kb0, kb1, kb2, kb3, kb4, kb5, kb6, fb0, fb1, fb2, fb3, fb4, fb5, fb6⟩ := blkat7 HB5.out
  have hlt : w.heap.size + 1 < wx.heap.size := HB5.out.lt
  go_wp2_with fail
  refine bodyPost_ret (results_ct rfl _ _ w.heap.size 25 #[.int .i64 (6), .int .i64 (0), .int .i64 ((a : Int) + 8), .int .i64 (0), .int .i64 (bn), .int .i64 (0), .int .i64 (2)] (0, 0) _ rfl ?_ Try.underlying25 rfl (by kernel_rfl)) rfl ?_
  · exact blk7 (by repeat (first | (with_reducible exact HB2.out) | (with_reducible refine Blk.set_ne ?_ (by simp) _))) _ _ _ _ _ _ _
  · exact ⟨rfl, by (repeat (first | (with_reducible exact HF.out) | (with_reducible refine Fr.setCell ?_ (Or.inr (by simp)) _)))⟩
set_option maxRecDepth 100000 in
set_option maxHeartbeats 8000000 in
theorem rexpand_16 (h : Nat) (hh : h < 65536) (w : World) (ck : fN h 1 0 * 8 + fN h 15 13 = 16) : Calls Try.prog 8 #[.int .u16 (h : Int)] w fun e w' => e = .returned (.tuple #[i7 (rexpandP h).1, .bool (rexpandP h).2]) ∧ Fr (fun _ => False) w w' := by
  have hP : rexpandP h = ((28, ((fN h 11 7 : Nat) : Int), ((fN h 11 7 : Nat) : Int), 0, ((rsix h : Nat) : Int), 0, 2), true) := by unfold rexpandP; rw [ck]; rfl
  rw [hP]
  clear hP
  have H117 := Lib.hid (cx1 h hh)
  have H62 := Lib.hid (cx2 h hh)
  have H97 := Lib.hid (cx3 h hh)
  have H42 := Lib.hid (cx4 h hh)
  have HP6 := Lib.hid (cx5 h hh)
  have HS6 := Lib.hid (cx6 h hh)
  have HPW := Lib.hid (cx7 h hh)
  have HPD := Lib.hid (cx8 h hh)
  have HPB := Lib.hid (cx9 h hh)
  have HSB := Lib.hid (cx10 h hh)
  have em : (h : Int) % 4294967296 = (h : Int) := by omega
  have hab : fN h 1 0 = 2 ∧ fN h 15 13 = 0 := by have a1 : fN h 1 0 < 4 := Nat.mod_lt _ (by decide); have a2 : fN h 15 13 < 8 := Nat.mod_lt _ (by decide); omega
  have H10 := Lib.hid (h10_2 h hh hab.1)
  have H153 := Lib.hid (h153_0 h hh hab.2)
  have b97 := fN_s h 9 7 3 rfl (by decide)
  have b42 := fN_s h 4 2 3 rfl (by decide)
  have b117 := fN_s h 11 7 5 rfl (by decide)
  have bsh := rshort_bd h
  clear hab
  clear ck
  generalize fN h 11 7 = rd at *
  generalize fN h 6 2 = rs2 at *
  generalize fN h 9 7 = a at *
  generalize fN h 4 2 = b at *
  generalize rsix h = six at *
  generalize rshort h = sh at *
  generalize rwords h = wo at *
  generalize rdoubles h = db at *
  generalize rbr h = br at *
  generalize rbranch h = bn at *
  go_enter Try.func8, Try.ntmps8
  go_wp2_with fail
  have HS := Lib.hid (RS.start w)
  generalize (w.alloc (.cells #[.int .i64 0, .int .i64 0, .int .i64 0, .int .i64 0, .int .i64 0, .int .i64 0, .int .i64 0] 25)).alloc (.cells #[.int .i64 0, .int .i64 0, .int .i64 0, .int .i64 0, .int .i64 0, .int .i64 0, .int .i64 2] 25) = wz at *
  refine (H117.out _).mono ?_
  rintro e v52 ⟨rfl, hf⟩
  have HS := Lib.hid (HS.out.fr hf)
  clear hf
  go_wp2_with fail
  refine (H62.out _).mono ?_
  rintro e v53 ⟨rfl, hf⟩
  have HS := Lib.hid (HS.out.fr hf)
  clear hf
  go_wp2_with fail
  refine (H97.out _).mono ?_
  rintro e v54 ⟨rfl, hf⟩
  have HS := Lib.hid (HS.out.fr hf)
  clear hf
  go_wp2_with fail
  refine (H42.out _).mono ?_
  rintro e v55 ⟨rfl, hf⟩
  have HS := Lib.hid (HS.out.fr hf)
  clear hf
  go_wp2_with fail
  refine (HP6.out _ _ (Blk.new _ _ _)).mono ?_
  rintro e v56 ⟨rfl, hf⟩
  have HS := Lib.hid (HS.out.al hf)
  clear hf
  go_wp2_with fail
  refine (HS6.out _).mono ?_
  rintro e v57 ⟨rfl, hf⟩
  have HS := Lib.hid (HS.out.fr hf)
  clear hf
  go_wp2_with fail
  refine (HPW.out _ _ (Blk.new _ _ _)).mono ?_
  rintro e v58 ⟨rfl, hf⟩
  have HS := Lib.hid (HS.out.al hf)
  clear hf
  go_wp2_with fail
  refine (HPD.out _ _ (Blk.new _ _ _)).mono ?_
  rintro e v59 ⟨rfl, hf⟩
  have HS := Lib.hid (HS.out.al hf)
  clear hf
  go_wp2_with fail
  refine (HPB.out _ _ (Blk.new _ _ _)).mono ?_
  rintro e v60 ⟨rfl, hf⟩
  have HS := Lib.hid (HS.out.al hf)
  clear hf
  go_wp2_with fail
  refine (HSB.out _).mono ?_
  rintro e v61 ⟨rfl, hf⟩
  have HS := Lib.hid (HS.out.fr hf)
  clear hf
  go_wp2_with fail
  refine (H10.out _).mono ?_
  rintro e v62 ⟨rfl, hf⟩
  have HS := Lib.hid (HS.out.fr hf)
  clear hf
  go_wp2_with fail
  refine (H153.out _).mono ?_
  rintro e v63 ⟨rfl, hf⟩
  have HS := Lib.hid (HS.out.fr hf)
  clear hf
  have HB2 := Lib.hid HS.out.b2
  have HB5 := Lib.hid HS.out.b5
  have HF := Lib.hid HS.out.f
  clear HS
  obtain ⟨ka0, ka1, ka2, ka3, ka4, ka5, ka6, fa0, fa1, fa2, fa3, fa4, fa5, fa6⟩ := blkat7 HB2.out
  obtain ⟨kb0, kb1, kb2, kb3, kb4, kb5, kb6, fb0, fb1, fb2, fb3, fb4, fb5, fb6⟩ := blkat7 HB5.out
  have hlt : w.heap.size + 1 < v63.heap.size := HB5.out.lt
  go_upto_region 60 with (fail)
  have HB5' := Lib.hid (blk7 HB5.out (.int .i64 (28)) (.int .i64 ((rd : Int))) (.int .i64 ((rd : Int))) (.int .i64 (0)) (.int .i64 ((six : Int))) (.int .i64 (0)) (.int .i64 (0)))
  have HB2' := Lib.hid (show Blk (((((((v63.setCell ⟨w.heap.size + 1, 0, none⟩ (.int .i64 (28))).setCell ⟨w.heap.size + 1, 1, none⟩ (.int .i64 ((rd : Int)))).setCell ⟨w.heap.size + 1, 2, none⟩ (.int .i64 ((rd : Int)))).setCell ⟨w.heap.size + 1, 3, none⟩ (.int .i64 (0))).setCell ⟨w.heap.size + 1, 4, none⟩ (.int .i64 ((six : Int)))).setCell ⟨w.heap.size + 1, 5, none⟩ (.int .i64 (0))).setCell ⟨w.heap.size + 1, 6, none⟩ (.int .i64 (0))) w.heap.size 25 #[.int .i64 0, .int .i64 0, .int .i64 0, .int .i64 0, .int .i64 0, .int .i64 0, .int .i64 0] from by repeat (first | (with_reducible exact HB2.out) | (with_reducible refine Blk.set_ne ?_ (by simp) _)))
  have HF' := Lib.hid (show Fr (fun _ => False) w (((((((v63.setCell ⟨w.heap.size + 1, 0, none⟩ (.int .i64 (28))).setCell ⟨w.heap.size + 1, 1, none⟩ (.int .i64 ((rd : Int)))).setCell ⟨w.heap.size + 1, 2, none⟩ (.int .i64 ((rd : Int)))).setCell ⟨w.heap.size + 1, 3, none⟩ (.int .i64 (0))).setCell ⟨w.heap.size + 1, 4, none⟩ (.int .i64 ((six : Int)))).setCell ⟨w.heap.size + 1, 5, none⟩ (.int .i64 (0))).setCell ⟨w.heap.size + 1, 6, none⟩ (.int .i64 (0))) from by (repeat (first | (with_reducible exact HF.out) | (with_reducible refine Fr.setCell ?_ (Or.inr (by simp)) _))))
  clear hlt ka0 fa0 ka1 fa1 ka2 fa2 ka3 fa3 ka4 fa4 ka5 fa5 ka6 fa6 kb0 fb0 kb1 fb1 kb2 fb2 kb3 fb3 kb4 fb4 kb5 fb5 kb6 fb6
  clear HB2 HB5 HF
  generalize (((((((v63.setCell ⟨w.heap.size + 1, 0, none⟩ (.int .i64 (28))).setCell ⟨w.heap.size + 1, 1, none⟩ (.int .i64 ((rd : Int)))).setCell ⟨w.heap.size + 1, 2, none⟩ (.int .i64 ((rd : Int)))).setCell ⟨w.heap.size + 1, 3, none⟩ (.int .i64 (0))).setCell ⟨w.heap.size + 1, 4, none⟩ (.int .i64 ((six : Int)))).setCell ⟨w.heap.size + 1, 5, none⟩ (.int .i64 (0))).setCell ⟨w.heap.size + 1, 6, none⟩ (.int .i64 (0))) = wx at *
  have HB2 := HB2'
  have HB5 := HB5'
  have HF := HF'
  clear HB2' HB5' HF'
  obtain ⟨ka0, ka1, ka2, ka3, ka4, ka5, ka6, fa0, fa1, fa2, fa3, fa4, fa5, fa6⟩ := blkat7 HB2.out
  obtain ⟨kb0, kb1, kb2, kb3, kb4, kb5, kb6, fb0, fb1, fb2, fb3, fb4, fb5, fb6⟩ := blkat7 HB5.out
  have hlt : w.heap.size + 1 < wx.heap.size := HB5.out.lt
  go_wp2_with fail
  refine bodyPost_ret (results_ct rfl _ _ w.heap.size 25 #[.int .i64 (28), .int .i64 ((rd : Int)), .int .i64 ((rd : Int)), .int .i64 (0), .int .i64 ((six : Int)), .int .i64 (0), .int .i64 (2)] (0, 0) _ rfl ?_ Try.underlying25 rfl (by kernel_rfl)) rfl ?_
  · exact blk7 (by repeat (first | (with_reducible exact HB2.out) | (with_reducible refine Blk.set_ne ?_ (by simp) _))) _ _ _ _ _ _ _
  · exact ⟨rfl, by (repeat (first | (with_reducible exact HF.out) | (with_reducible refine Fr.setCell ?_ (Or.inr (by simp)) _)))⟩
set_option maxRecDepth 100000 in
set_option maxHeartbeats 8000000 in
theorem rexpand_17 (h : Nat) (hh : h < 65536) (w : World) (ck : fN h 1 0 * 8 + fN h 15 13 = 17) : Calls Try.prog 8 #[.int .u16 (h : Int)] w fun e w' => e = .returned (.tuple #[i7 (rexpandP h).1, .bool (rexpandP h).2]) ∧ Fr (fun _ => False) w w' := by
  have hP : rexpandP h = (i0, false) := by unfold rexpandP; rw [ck]; rfl
  rw [hP]
  clear hP
  have H117 := Lib.hid (cx1 h hh)
  have H62 := Lib.hid (cx2 h hh)
  have H97 := Lib.hid (cx3 h hh)
  have H42 := Lib.hid (cx4 h hh)
  have HP6 := Lib.hid (cx5 h hh)
  have HS6 := Lib.hid (cx6 h hh)
  have HPW := Lib.hid (cx7 h hh)
  have HPD := Lib.hid (cx8 h hh)
  have HPB := Lib.hid (cx9 h hh)
  have HSB := Lib.hid (cx10 h hh)
  have em : (h : Int) % 4294967296 = (h : Int) := by omega
  have hab : fN h 1 0 = 2 ∧ fN h 15 13 = 1 := by have a1 : fN h 1 0 < 4 := Nat.mod_lt _ (by decide); have a2 : fN h 15 13 < 8 := Nat.mod_lt _ (by decide); omega
  have H10 := Lib.hid (h10_2 h hh hab.1)
  have H153 := Lib.hid (h153_1 h hh hab.2)
  have b97 := fN_s h 9 7 3 rfl (by decide)
  have b42 := fN_s h 4 2 3 rfl (by decide)
  have b117 := fN_s h 11 7 5 rfl (by decide)
  have bsh := rshort_bd h
  clear hab
  clear ck
  generalize fN h 11 7 = rd at *
  generalize fN h 6 2 = rs2 at *
  generalize fN h 9 7 = a at *
  generalize fN h 4 2 = b at *
  generalize rsix h = six at *
  generalize rshort h = sh at *
  generalize rwords h = wo at *
  generalize rdoubles h = db at *
  generalize rbr h = br at *
  generalize rbranch h = bn at *
  go_enter Try.func8, Try.ntmps8
  go_wp2_with fail
  have HS := Lib.hid (RS.start w)
  generalize (w.alloc (.cells #[.int .i64 0, .int .i64 0, .int .i64 0, .int .i64 0, .int .i64 0, .int .i64 0, .int .i64 0] 25)).alloc (.cells #[.int .i64 0, .int .i64 0, .int .i64 0, .int .i64 0, .int .i64 0, .int .i64 0, .int .i64 2] 25) = wz at *
  refine (H117.out _).mono ?_
  rintro e v64 ⟨rfl, hf⟩
  have HS := Lib.hid (HS.out.fr hf)
  clear hf
  go_wp2_with fail
  refine (H62.out _).mono ?_
  rintro e v65 ⟨rfl, hf⟩
  have HS := Lib.hid (HS.out.fr hf)
  clear hf
  go_wp2_with fail
  refine (H97.out _).mono ?_
  rintro e v66 ⟨rfl, hf⟩
  have HS := Lib.hid (HS.out.fr hf)
  clear hf
  go_wp2_with fail
  refine (H42.out _).mono ?_
  rintro e v67 ⟨rfl, hf⟩
  have HS := Lib.hid (HS.out.fr hf)
  clear hf
  go_wp2_with fail
  refine (HP6.out _ _ (Blk.new _ _ _)).mono ?_
  rintro e v68 ⟨rfl, hf⟩
  have HS := Lib.hid (HS.out.al hf)
  clear hf
  go_wp2_with fail
  refine (HS6.out _).mono ?_
  rintro e v69 ⟨rfl, hf⟩
  have HS := Lib.hid (HS.out.fr hf)
  clear hf
  go_wp2_with fail
  refine (HPW.out _ _ (Blk.new _ _ _)).mono ?_
  rintro e v70 ⟨rfl, hf⟩
  have HS := Lib.hid (HS.out.al hf)
  clear hf
  go_wp2_with fail
  refine (HPD.out _ _ (Blk.new _ _ _)).mono ?_
  rintro e v71 ⟨rfl, hf⟩
  have HS := Lib.hid (HS.out.al hf)
  clear hf
  go_wp2_with fail
  refine (HPB.out _ _ (Blk.new _ _ _)).mono ?_
  rintro e v72 ⟨rfl, hf⟩
  have HS := Lib.hid (HS.out.al hf)
  clear hf
  go_wp2_with fail
  refine (HSB.out _).mono ?_
  rintro e v73 ⟨rfl, hf⟩
  have HS := Lib.hid (HS.out.fr hf)
  clear hf
  go_wp2_with fail
  refine (H10.out _).mono ?_
  rintro e v74 ⟨rfl, hf⟩
  have HS := Lib.hid (HS.out.fr hf)
  clear hf
  go_wp2_with fail
  refine (H153.out _).mono ?_
  rintro e v75 ⟨rfl, hf⟩
  have HS := Lib.hid (HS.out.fr hf)
  clear hf
  have HB2 := Lib.hid HS.out.b2
  have HB5 := Lib.hid HS.out.b5
  have HF := Lib.hid HS.out.f
  clear HS
  obtain ⟨ka0, ka1, ka2, ka3, ka4, ka5, ka6, fa0, fa1, fa2, fa3, fa4, fa5, fa6⟩ := blkat7 HB2.out
  obtain ⟨kb0, kb1, kb2, kb3, kb4, kb5, kb6, fb0, fb1, fb2, fb3, fb4, fb5, fb6⟩ := blkat7 HB5.out
  have hlt : w.heap.size + 1 < v75.heap.size := HB5.out.lt
  go_wp2_with fail
  refine bodyPost_ret (results_ct rfl _ _ w.heap.size 25 #[.int .i64 (0), .int .i64 (0), .int .i64 (0), .int .i64 (0), .int .i64 (0), .int .i64 (0), .int .i64 (0)] (0, 0) _ rfl ?_ Try.underlying25 rfl (by kernel_rfl)) rfl ?_
  · exact blk7 (by repeat (first | (with_reducible exact HB2.out) | (with_reducible refine Blk.set_ne ?_ (by simp) _))) _ _ _ _ _ _ _
  · exact ⟨rfl, by (repeat (first | (with_reducible exact HF.out) | (with_reducible refine Fr.setCell ?_ (Or.inr (by simp)) _)))⟩
set_option maxRecDepth 100000 in
set_option maxHeartbeats 8000000 in
theorem rexpand_20n (h : Nat) (hh : h < 65536) (w : World) (ck : fN h 1 0 * 8 + fN h 15 13 = 20) (i : I7) (hi : rmoves (fN h 12 12) (fN h 11 7) (fN h 6 2) = i) (c :  i.1 = 0) : Calls Try.prog 8 #[.int .u16 (h : Int)] w fun e w' => e = .returned (.tuple #[i7 (rexpandP h).1, .bool (rexpandP h).2]) ∧ Fr (fun _ => False) w w' := by
  have hP : rexpandP h = size2 i := by unfold rexpandP; rw [ck]; show size2 (rmoves (fN h 12 12) (fN h 11 7) (fN h 6 2)) = _; rw [hi]
  rw [hP, size2_no c]
  clear hP
  have H117 := Lib.hid (cx1 h hh)
  have H62 := Lib.hid (cx2 h hh)
  have H97 := Lib.hid (cx3 h hh)
  have H42 := Lib.hid (cx4 h hh)
  have HP6 := Lib.hid (cx5 h hh)
  have HS6 := Lib.hid (cx6 h hh)
  have HPW := Lib.hid (cx7 h hh)
  have HPD := Lib.hid (cx8 h hh)
  have HPB := Lib.hid (cx9 h hh)
  have HSB := Lib.hid (cx10 h hh)
  have em : (h : Int) % 4294967296 = (h : Int) := by omega
  have hab : fN h 1 0 = 2 ∧ fN h 15 13 = 4 := by have a1 : fN h 1 0 < 4 := Nat.mod_lt _ (by decide); have a2 : fN h 15 13 < 8 := Nat.mod_lt _ (by decide); omega
  have H10 := Lib.hid (h10_2 h hh hab.1)
  have H153 := Lib.hid (h153_4 h hh hab.2)
  have b97 := fN_s h 9 7 3 rfl (by decide)
  have b42 := fN_s h 4 2 3 rfl (by decide)
  have b117 := fN_s h 11 7 5 rfl (by decide)
  have bsh := rshort_bd h
  clear hab
  have H1212 := Lib.hid (cx0 h hh)
  have HE := Lib.hid (show ∀ W, Calls Try.prog 19 #[.int .i64 ((fN h 12 12 : Nat) : Int), .int .i64 ((fN h 11 7 : Nat) : Int), .int .i64 ((fN h 6 2 : Nat) : Int)] W fun e w' => e = .returned (i7 (rmoves (fN h 12 12) (fN h 11 7) (fN h 6 2))) ∧ Fr (fun _ => False) W w' from rmoves_fr _ _ _)
  rw [hi] at HE
  clear ck hi
  obtain ⟨x0, x1, x2, x3, x4, x5, x6⟩ := i
  dsimp only [i7] at HE
  have t0 : (x0 == 0) = true := beq_iff_eq.2 c
  clear c
  generalize fN h 11 7 = rd at *
  generalize fN h 6 2 = rs2 at *
  generalize fN h 9 7 = a at *
  generalize fN h 4 2 = b at *
  generalize rsix h = six at *
  generalize rshort h = sh at *
  generalize rwords h = wo at *
  generalize rdoubles h = db at *
  generalize rbr h = br at *
  generalize rbranch h = bn at *
  generalize fN h 12 12 = u at *
  go_enter Try.func8, Try.ntmps8
  go_wp2_with fail
  have HS := Lib.hid (RS.start w)
  generalize (w.alloc (.cells #[.int .i64 0, .int .i64 0, .int .i64 0, .int .i64 0, .int .i64 0, .int .i64 0, .int .i64 0] 25)).alloc (.cells #[.int .i64 0, .int .i64 0, .int .i64 0, .int .i64 0, .int .i64 0, .int .i64 0, .int .i64 2] 25) = wz at *
  refine (H117.out _).mono ?_
  rintro e v1 ⟨rfl, hf⟩
  have HS := Lib.hid (HS.out.fr hf)
  clear hf
  go_wp2_with fail
  refine (H62.out _).mono ?_
  rintro e v2 ⟨rfl, hf⟩
  have HS := Lib.hid (HS.out.fr hf)
  clear hf
  go_wp2_with fail
  refine (H97.out _).mono ?_
  rintro e v3 ⟨rfl, hf⟩
  have HS := Lib.hid (HS.out.fr hf)
  clear hf
  go_wp2_with fail
  refine (H42.out _).mono ?_
  rintro e v4 ⟨rfl, hf⟩
  have HS := Lib.hid (HS.out.fr hf)
  clear hf
  go_wp2_with fail
  refine (HP6.out _ _ (Blk.new _ _ _)).mono ?_
  rintro e v5 ⟨rfl, hf⟩
  have HS := Lib.hid (HS.out.al hf)
  clear hf
  go_wp2_with fail
  refine (HS6.out _).mono ?_
  rintro e v6 ⟨rfl, hf⟩
  have HS := Lib.hid (HS.out.fr hf)
  clear hf
  go_wp2_with fail
  refine (HPW.out _ _ (Blk.new _ _ _)).mono ?_
  rintro e v7 ⟨rfl, hf⟩
  have HS := Lib.hid (HS.out.al hf)
  clear hf
  go_wp2_with fail
  refine (HPD.out _ _ (Blk.new _ _ _)).mono ?_
  rintro e v8 ⟨rfl, hf⟩
  have HS := Lib.hid (HS.out.al hf)
  clear hf
  go_wp2_with fail
  refine (HPB.out _ _ (Blk.new _ _ _)).mono ?_
  rintro e v9 ⟨rfl, hf⟩
  have HS := Lib.hid (HS.out.al hf)
  clear hf
  go_wp2_with fail
  refine (HSB.out _).mono ?_
  rintro e v10 ⟨rfl, hf⟩
  have HS := Lib.hid (HS.out.fr hf)
  clear hf
  go_wp2_with fail
  refine (H10.out _).mono ?_
  rintro e v11 ⟨rfl, hf⟩
  have HS := Lib.hid (HS.out.fr hf)
  clear hf
  go_wp2_with fail
  refine (H153.out _).mono ?_
  rintro e v12 ⟨rfl, hf⟩
  have HS := Lib.hid (HS.out.fr hf)
  clear hf
  go_wp2_with fail
  refine (H1212.out _).mono ?_
  rintro e v13 ⟨rfl, hf⟩
  have HS := Lib.hid (HS.out.fr hf)
  clear hf
  go_wp2_with fail
  refine (HE.out _).mono ?_
  rintro e v14 ⟨rfl, hf⟩
  have HS := Lib.hid (HS.out.fr hf)
  clear hf
  have HB2 := Lib.hid HS.out.b2
  have HB5 := Lib.hid HS.out.b5
  have HF := Lib.hid HS.out.f
  clear HS
  obtain ⟨ka0, ka1, ka2, ka3, ka4, ka5, ka6, fa0, fa1, fa2, fa3, fa4, fa5, fa6⟩ := blkat7 HB2.out
  obtain ⟨kb0, kb1, kb2, kb3, kb4, kb5, kb6, fb0, fb1, fb2, fb3, fb4, fb5, fb6⟩ := blkat7 HB5.out
  have hlt : w.heap.size + 1 < v14.heap.size := HB5.out.lt
  go_upto_region 60 with (fail)
  have HB5' := Lib.hid (blk7 HB5.out (.int .i64 (x0)) (.int .i64 (x1)) (.int .i64 (x2)) (.int .i64 (x3)) (.int .i64 (x4)) (.int .i64 (x5)) (.int .i64 (x6)))
  have HB2' := Lib.hid (show Blk (((((((v14.setCell ⟨w.heap.size + 1, 0, none⟩ (.int .i64 (x0))).setCell ⟨w.heap.size + 1, 1, none⟩ (.int .i64 (x1))).setCell ⟨w.heap.size + 1, 2, none⟩ (.int .i64 (x2))).setCell ⟨w.heap.size + 1, 3, none⟩ (.int .i64 (x3))).setCell ⟨w.heap.size + 1, 4, none⟩ (.int .i64 (x4))).setCell ⟨w.heap.size + 1, 5, none⟩ (.int .i64 (x5))).setCell ⟨w.heap.size + 1, 6, none⟩ (.int .i64 (x6))) w.heap.size 25 #[.int .i64 0, .int .i64 0, .int .i64 0, .int .i64 0, .int .i64 0, .int .i64 0, .int .i64 0] from by repeat (first | (with_reducible exact HB2.out) | (with_reducible refine Blk.set_ne ?_ (by simp) _)))
  have HF' := Lib.hid (show Fr (fun _ => False) w (((((((v14.setCell ⟨w.heap.size + 1, 0, none⟩ (.int .i64 (x0))).setCell ⟨w.heap.size + 1, 1, none⟩ (.int .i64 (x1))).setCell ⟨w.heap.size + 1, 2, none⟩ (.int .i64 (x2))).setCell ⟨w.heap.size + 1, 3, none⟩ (.int .i64 (x3))).setCell ⟨w.heap.size + 1, 4, none⟩ (.int .i64 (x4))).setCell ⟨w.heap.size + 1, 5, none⟩ (.int .i64 (x5))).setCell ⟨w.heap.size + 1, 6, none⟩ (.int .i64 (x6))) from by (repeat (first | (with_reducible exact HF.out) | (with_reducible refine Fr.setCell ?_ (Or.inr (by simp)) _))))
  clear hlt ka0 fa0 ka1 fa1 ka2 fa2 ka3 fa3 ka4 fa4 ka5 fa5 ka6 fa6 kb0 fb0 kb1 fb1 kb2 fb2 kb3 fb3 kb4 fb4 kb5 fb5 kb6 fb6
  clear HB2 HB5 HF
  generalize (((((((v14.setCell ⟨w.heap.size + 1, 0, none⟩ (.int .i64 (x0))).setCell ⟨w.heap.size + 1, 1, none⟩ (.int .i64 (x1))).setCell ⟨w.heap.size + 1, 2, none⟩ (.int .i64 (x2))).setCell ⟨w.heap.size + 1, 3, none⟩ (.int .i64 (x3))).setCell ⟨w.heap.size + 1, 4, none⟩ (.int .i64 (x4))).setCell ⟨w.heap.size + 1, 5, none⟩ (.int .i64 (x5))).setCell ⟨w.heap.size + 1, 6, none⟩ (.int .i64 (x6))) = wx at *
  have HB2 := HB2'
  have HB5 := HB5'
  have HF := HF'
  clear HB2' HB5' HF'
  obtain ⟨ka0, ka1, ka2, ka3, ka4, ka5, ka6, fa0, fa1, fa2, fa3, fa4, fa5, fa6⟩ := blkat7 HB2.out
  obtain ⟨kb0, kb1, kb2, kb3, kb4, kb5, kb6, fb0, fb1, fb2, fb3, fb4, fb5, fb6⟩ := blkat7 HB5.out
  have hlt : w.heap.size + 1 < wx.heap.size := HB5.out.lt
  go_wp2_with fail
  refine bodyPost_ret (results_ct rfl _ _ w.heap.size 25 #[.int .i64 (0), .int .i64 (0), .int .i64 (0), .int .i64 (0), .int .i64 (0), .int .i64 (0), .int .i64 (0)] (0, 0) _ rfl ?_ Try.underlying25 rfl (by kernel_rfl)) rfl ?_
  · exact blk7 (by repeat (first | (with_reducible exact HB2.out) | (with_reducible refine Blk.set_ne ?_ (by simp) _))) _ _ _ _ _ _ _
  · exact ⟨rfl, by (repeat (first | (with_reducible exact HF.out) | (with_reducible refine Fr.setCell ?_ (Or.inr (by simp)) _)))⟩
set_option maxRecDepth 100000 in
set_option maxHeartbeats 8000000 in
theorem rexpand_20y (h : Nat) (hh : h < 65536) (w : World) (ck : fN h 1 0 * 8 + fN h 15 13 = 20) (i : I7) (hi : rmoves (fN h 12 12) (fN h 11 7) (fN h 6 2) = i) (c : ¬ i.1 = 0) : Calls Try.prog 8 #[.int .u16 (h : Int)] w fun e w' => e = .returned (.tuple #[i7 (rexpandP h).1, .bool (rexpandP h).2]) ∧ Fr (fun _ => False) w w' := by
  have hP : rexpandP h = size2 i := by unfold rexpandP; rw [ck]; show size2 (rmoves (fN h 12 12) (fN h 11 7) (fN h 6 2)) = _; rw [hi]
  rw [hP, size2_yes c]
  clear hP
  have H117 := Lib.hid (cx1 h hh)
  have H62 := Lib.hid (cx2 h hh)
  have H97 := Lib.hid (cx3 h hh)
  have H42 := Lib.hid (cx4 h hh)
  have HP6 := Lib.hid (cx5 h hh)
  have HS6 := Lib.hid (cx6 h hh)
  have HPW := Lib.hid (cx7 h hh)
  have HPD := Lib.hid (cx8 h hh)
  have HPB := Lib.hid (cx9 h hh)
  have HSB := Lib.hid (cx10 h hh)
  have em : (h : Int) % 4294967296 = (h : Int) := by omega
  have hab : fN h 1 0 = 2 ∧ fN h 15 13 = 4 := by have a1 : fN h 1 0 < 4 := Nat.mod_lt _ (by decide); have a2 : fN h 15 13 < 8 := Nat.mod_lt _ (by decide); omega
  have H10 := Lib.hid (h10_2 h hh hab.1)
  have H153 := Lib.hid (h153_4 h hh hab.2)
  have b97 := fN_s h 9 7 3 rfl (by decide)
  have b42 := fN_s h 4 2 3 rfl (by decide)
  have b117 := fN_s h 11 7 5 rfl (by decide)
  have bsh := rshort_bd h
  clear hab
  have H1212 := Lib.hid (cx0 h hh)
  have HE := Lib.hid (show ∀ W, Calls Try.prog 19 #[.int .i64 ((fN h 12 12 : Nat) : Int), .int .i64 ((fN h 11 7 : Nat) : Int), .int .i64 ((fN h 6 2 : Nat) : Int)] W fun e w' => e = .returned (i7 (rmoves (fN h 12 12) (fN h 11 7) (fN h 6 2))) ∧ Fr (fun _ => False) W w' from rmoves_fr _ _ _)
  rw [hi] at HE
  clear ck hi
  obtain ⟨x0, x1, x2, x3, x4, x5, x6⟩ := i
  dsimp only [i7] at HE
  have t0 : (x0 == 0) = false := beq_eq_false_iff_ne.2 c
  clear c
  generalize fN h 11 7 = rd at *
  generalize fN h 6 2 = rs2 at *
  generalize fN h 9 7 = a at *
  generalize fN h 4 2 = b at *
  generalize rsix h = six at *
  generalize rshort h = sh at *
  generalize rwords h = wo at *
  generalize rdoubles h = db at *
  generalize rbr h = br at *
  generalize rbranch h = bn at *
  generalize fN h 12 12 = u at *
  go_enter Try.func8, Try.ntmps8
  go_wp2_with fail
  have HS := Lib.hid (RS.start w)
  generalize (w.alloc (.cells #[.int .i64 0, .int .i64 0, .int .i64 0, .int .i64 0, .int .i64 0, .int .i64 0, .int .i64 0] 25)).alloc (.cells #[.int .i64 0, .int .i64 0, .int .i64 0, .int .i64 0, .int .i64 0, .int .i64 0, .int .i64 2] 25) = wz at *
  refine (H117.out _).mono ?_
  rintro e v1 ⟨rfl, hf⟩
  have HS := Lib.hid (HS.out.fr hf)
  clear hf
  go_wp2_with fail
  refine (H62.out _).mono ?_
  rintro e v2 ⟨rfl, hf⟩
  have HS := Lib.hid (HS.out.fr hf)
  clear hf
  go_wp2_with fail
  refine (H97.out _).mono ?_
  rintro e v3 ⟨rfl, hf⟩
  have HS := Lib.hid (HS.out.fr hf)
  clear hf
  go_wp2_with fail
  refine (H42.out _).mono ?_
  rintro e v4 ⟨rfl, hf⟩
  have HS := Lib.hid (HS.out.fr hf)
  clear hf
  go_wp2_with fail
  refine (HP6.out _ _ (Blk.new _ _ _)).mono ?_
  rintro e v5 ⟨rfl, hf⟩
  have HS := Lib.hid (HS.out.al hf)
  clear hf
  go_wp2_with fail
  refine (HS6.out _).mono ?_
  rintro e v6 ⟨rfl, hf⟩
  have HS := Lib.hid (HS.out.fr hf)
  clear hf
  go_wp2_with fail
  refine (HPW.out _ _ (Blk.new _ _ _)).mono ?_
  rintro e v7 ⟨rfl, hf⟩
  have HS := Lib.hid (HS.out.al hf)
  clear hf
  go_wp2_with fail
  refine (HPD.out _ _ (Blk.new _ _ _)).mono ?_
  rintro e v8 ⟨rfl, hf⟩
  have HS := Lib.hid (HS.out.al hf)
  clear hf
  go_wp2_with fail
  refine (HPB.out _ _ (Blk.new _ _ _)).mono ?_
  rintro e v9 ⟨rfl, hf⟩
  have HS := Lib.hid (HS.out.al hf)
  clear hf
  go_wp2_with fail
  refine (HSB.out _).mono ?_
  rintro e v10 ⟨rfl, hf⟩
  have HS := Lib.hid (HS.out.fr hf)
  clear hf
  go_wp2_with fail
  refine (H10.out _).mono ?_
  rintro e v11 ⟨rfl, hf⟩
  have HS := Lib.hid (HS.out.fr hf)
  clear hf
  go_wp2_with fail
  refine (H153.out _).mono ?_
  rintro e v12 ⟨rfl, hf⟩
  have HS := Lib.hid (HS.out.fr hf)
  clear hf
  go_wp2_with fail
  refine (H1212.out _).mono ?_
  rintro e v13 ⟨rfl, hf⟩
  have HS := Lib.hid (HS.out.fr hf)
  clear hf
  go_wp2_with fail
  refine (HE.out _).mono ?_
  rintro e v14 ⟨rfl, hf⟩
  have HS := Lib.hid (HS.out.fr hf)
  clear hf
  have HB2 := Lib.hid HS.out.b2
  have HB5 := Lib.hid HS.out.b5
  have HF := Lib.hid HS.out.f
  clear HS
  obtain ⟨ka0, ka1, ka2, ka3, ka4, ka5, ka6, fa0, fa1, fa2, fa3, fa4, fa5, fa6⟩ := blkat7 HB2.out
  obtain ⟨kb0, kb1, kb2, kb3, kb4, kb5, kb6, fb0, fb1, fb2, fb3, fb4, fb5, fb6⟩ := blkat7 HB5.out
  have hlt : w.heap.size + 1 < v14.heap.size := HB5.out.lt
  go_upto_region 60 with (fail)
  have HB5' := Lib.hid (blk7 HB5.out (.int .i64 (x0)) (.int .i64 (x1)) (.int .i64 (x2)) (.int .i64 (x3)) (.int .i64 (x4)) (.int .i64 (x5)) (.int .i64 (x6)))
  have HB2' := Lib.hid (show Blk (((((((v14.setCell ⟨w.heap.size + 1, 0, none⟩ (.int .i64 (x0))).setCell ⟨w.heap.size + 1, 1, none⟩ (.int .i64 (x1))).setCell ⟨w.heap.size + 1, 2, none⟩ (.int .i64 (x2))).setCell ⟨w.heap.size + 1, 3, none⟩ (.int .i64 (x3))).setCell ⟨w.heap.size + 1, 4, none⟩ (.int .i64 (x4))).setCell ⟨w.heap.size + 1, 5, none⟩ (.int .i64 (x5))).setCell ⟨w.heap.size + 1, 6, none⟩ (.int .i64 (x6))) w.heap.size 25 #[.int .i64 0, .int .i64 0, .int .i64 0, .int .i64 0, .int .i64 0, .int .i64 0, .int .i64 0] from by repeat (first | (with_reducible exact HB2.out) | (with_reducible refine Blk.set_ne ?_ (by simp) _)))
  have HF' := Lib.hid (show Fr (fun _ => False) w (((((((v14.setCell ⟨w.heap.size + 1, 0, none⟩ (.int .i64 (x0))).setCell ⟨w.heap.size + 1, 1, none⟩ (.int .i64 (x1))).setCell ⟨w.heap.size + 1, 2, none⟩ (.int .i64 (x2))).setCell ⟨w.heap.size + 1, 3, none⟩ (.int .i64 (x3))).setCell ⟨w.heap.size + 1, 4, none⟩ (.int .i64 (x4))).setCell ⟨w.heap.size + 1, 5, none⟩ (.int .i64 (x5))).setCell ⟨w.heap.size + 1, 6, none⟩ (.int .i64 (x6))) from by (repeat (first | (with_reducible exact HF.out) | (with_reducible refine Fr.setCell ?_ (Or.inr (by simp)) _))))
  clear hlt ka0 fa0 ka1 fa1 ka2 fa2 ka3 fa3 ka4 fa4 ka5 fa5 ka6 fa6 kb0 fb0 kb1 fb1 kb2 fb2 kb3 fb3 kb4 fb4 kb5 fb5 kb6 fb6
  clear HB2 HB5 HF
  generalize (((((((v14.setCell ⟨w.heap.size + 1, 0, none⟩ (.int .i64 (x0))).setCell ⟨w.heap.size + 1, 1, none⟩ (.int .i64 (x1))).setCell ⟨w.heap.size + 1, 2, none⟩ (.int .i64 (x2))).setCell ⟨w.heap.size + 1, 3, none⟩ (.int .i64 (x3))).setCell ⟨w.heap.size + 1, 4, none⟩ (.int .i64 (x4))).setCell ⟨w.heap.size + 1, 5, none⟩ (.int .i64 (x5))).setCell ⟨w.heap.size + 1, 6, none⟩ (.int .i64 (x6))) = wx at *
  have HB2 := HB2'
  have HB5 := HB5'
  have HF := HF'
  clear HB2' HB5' HF'
  obtain ⟨ka0, ka1, ka2, ka3, ka4, ka5, ka6, fa0, fa1, fa2, fa3, fa4, fa5, fa6⟩ := blkat7 HB2.out
  obtain ⟨kb0, kb1, kb2, kb3, kb4, kb5, kb6, fb0, fb1, fb2, fb3, fb4, fb5, fb6⟩ := blkat7 HB5.out
  have hlt : w.heap.size + 1 < wx.heap.size := HB5.out.lt
  go_wp2_with fail
  refine bodyPost_ret (results_ct rfl _ _ w.heap.size 25 #[.int .i64 (x0), .int .i64 (x1), .int .i64 (x2), .int .i64 (x3), .int .i64 (x4), .int .i64 (x5), .int .i64 (2)] (0, 0) _ rfl ?_ Try.underlying25 rfl (by kernel_rfl)) rfl ?_
  · exact blk7 (by repeat (first | (with_reducible exact HB2.out) | (with_reducible refine Blk.set_ne ?_ (by simp) _))) _ _ _ _ _ _ _
  · exact ⟨rfl, by (repeat (first | (with_reducible exact HF.out) | (with_reducible refine Fr.setCell ?_ (Or.inr (by simp)) _)))⟩
theorem rexpand_20 (h : Nat) (hh : h < 65536) (w : World) (ck : fN h 1 0 * 8 + fN h 15 13 = 20) : Calls Try.prog 8 #[.int .u16 (h : Int)] w fun e w' => e = .returned (.tuple #[i7 (rexpandP h).1, .bool (rexpandP h).2]) ∧ Fr (fun _ => False) w w' := by
  by_cases c : (rmoves (fN h 12 12) (fN h 11 7) (fN h 6 2)).1 = 0
  · exact rexpand_20n h hh w ck _ rfl c
  · exact rexpand_20y h hh w ck _ rfl c
end Go.Proofs.Ytgefhoikpjiamaa.Cmp
