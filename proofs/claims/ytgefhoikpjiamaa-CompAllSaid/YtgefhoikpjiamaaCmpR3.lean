/- The document's Expand, walked (4). -/
import Derived.Test.YtgefhoikpjiamaaCmpJ
namespace Go.Proofs.Ytgefhoikpjiamaa.Cmp
open Go Go.RowKit Go.Proofs.YtgefhoikpjiamaaW.PrintWords Go.Proofs.YtgefhoikpjiamaaW.PrintLast Go.Proofs.YtgefhoikpjiamaaW.PrintMore
open Go.Proofs.Ytgefhoikpjiamaa.Hp Go.Proofs.Ytgefhoikpjiamaa.Bv
attribute [local go_sem] max2_int min2_int max_two min_two max_three min_three max_four min_four
set_option linter.unusedVariables false
set_option linter.unusedSimpArgs false
set_option maxRecDepth 100000 in
set_option maxHeartbeats 8000000 in
theorem rexpand_18 (h : Nat) (hh : h < 65536) (w : World) (ck : fN h 1 0 * 8 + fN h 15 13 = 18) : Calls Try.prog 8 #[.int .u16 (h : Int)] w fun e w' => e = .returned (.tuple #[i7 (rexpandP h).1, .bool (rexpandP h).2]) ∧ Fr (fun _ => False) w w' := by
  by_cases c : 0 < fN h 11 7
  · have hP : rexpandP h = ((13, ((fN h 11 7 : Nat) : Int), 2, 0, ((pc h [(3, 2), (12, 12), (6, 4)] 0 * 4 : Nat) : Int), 0, 2), true) := by unfold rexpandP; rw [ck]; show size2 (if 0 < fN h 11 7 then _ else _) = _; rw [if_pos c]; rfl
    rw [hP]
    clear hP
    have H117 := Lib.hid (cx1 h hh)
    have H62 := Lib.hid (cx2 h hh)
    have H97 := Lib.hid (cx3 h hh)
    have H42 := Lib.hid (cx4 h hh)
    have HP6 := Lib.hid (cx5 h hh)
    have HS6 := Lib.hid (cx6 h hh)
    have HPW := Lib.hid (cx7 h hh)
    have HPD := Lib.hid (cx8 h hh)
    have HPB := Lib.hid (cx9 h hh)
    have HSB := Lib.hid (cx10 h hh)
    have em : (h : Int) % 4294967296 = (h : Int) := by omega
    have hab : fN h 1 0 = 2 ∧ fN h 15 13 = 2 := by have a1 : fN h 1 0 < 4 := Nat.mod_lt _ (by decide); have a2 : fN h 15 13 < 8 := Nat.mod_lt _ (by decide); omega
    have H10 := Lib.hid (h10_2 h hh hab.1)
    have H153 := Lib.hid (h153_2 h hh hab.2)
    have b97 := fN_s h 9 7 3 rfl (by decide)
    have b42 := fN_s h 4 2 3 rfl (by decide)
    have b117 := fN_s h 11 7 5 rfl (by decide)
    have bsh := rshort_bd h
    clear hab
    have HPX := Lib.hid (cx16 h hh)
    clear ck
    generalize fN h 11 7 = rd at *
    generalize fN h 6 2 = rs2 at *
    generalize fN h 9 7 = a at *
    generalize fN h 4 2 = b at *
    generalize rsix h = six at *
    generalize rshort h = sh at *
    generalize rwords h = wo at *
    generalize rdoubles h = db at *
    generalize rbr h = br at *
    generalize rbranch h = bn at *
    generalize (pc h [(3, 2), (12, 12), (6, 4)] 0 * 4) = n at *
    obtain ⟨t1, n1⟩ := nat_pos c
    clear c
    go_enter Try.func8, Try.ntmps8
    go_wp2_with fail
    have HS := Lib.hid (RS.start w)
    generalize (w.alloc (.cells #[.int .i64 0, .int .i64 0, .int .i64 0, .int .i64 0, .int .i64 0, .int .i64 0, .int .i64 0] 25)).alloc (.cells #[.int .i64 0, .int .i64 0, .int .i64 0, .int .i64 0, .int .i64 0, .int .i64 0, .int .i64 2] 25) = wz at *
    refine (H117.out _).mono ?_
    rintro e v1 ⟨rfl, hf⟩
    have HS := Lib.hid (HS.out.fr hf)
    clear hf
    go_wp2_with fail
    refine (H62.out _).mono ?_
    rintro e v2 ⟨rfl, hf⟩
    have HS := Lib.hid (HS.out.fr hf)
    clear hf
    go_wp2_with fail
    refine (H97.out _).mono ?_
    rintro e v3 ⟨rfl, hf⟩
    have HS := Lib.hid (HS.out.fr hf)
    clear hf
    go_wp2_with fail
    refine (H42.out _).mono ?_
    rintro e v4 ⟨rfl, hf⟩
    have HS := Lib.hid (HS.out.fr hf)
    clear hf
    go_wp2_with fail
    refine (HP6.out _ _ (Blk.new _ _ _)).mono ?_
    rintro e v5 ⟨rfl, hf⟩
    have HS := Lib.hid (HS.out.al hf)
    clear hf
    go_wp2_with fail
    refine (HS6.out _).mono ?_
    rintro e v6 ⟨rfl, hf⟩
    have HS := Lib.hid (HS.out.fr hf)
    clear hf
    go_wp2_with fail
    refine (HPW.out _ _ (Blk.new _ _ _)).mono ?_
    rintro e v7 ⟨rfl, hf⟩
    have HS := Lib.hid (HS.out.al hf)
    clear hf
    go_wp2_with fail
    refine (HPD.out _ _ (Blk.new _ _ _)).mono ?_
    rintro e v8 ⟨rfl, hf⟩
    have HS := Lib.hid (HS.out.al hf)
    clear hf
    go_wp2_with fail
    refine (HPB.out _ _ (Blk.new _ _ _)).mono ?_
    rintro e v9 ⟨rfl, hf⟩
    have HS := Lib.hid (HS.out.al hf)
    clear hf
    go_wp2_with fail
    refine (HSB.out _).mono ?_
    rintro e v10 ⟨rfl, hf⟩
    have HS := Lib.hid (HS.out.fr hf)
    clear hf
    go_wp2_with fail
    refine (H10.out _).mono ?_
    rintro e v11 ⟨rfl, hf⟩
    have HS := Lib.hid (HS.out.fr hf)
    clear hf
    go_wp2_with fail
    refine (H153.out _).mono ?_
    rintro e v12 ⟨rfl, hf⟩
    have HS := Lib.hid (HS.out.fr hf)
    clear hf
    go_wp2_with fail
    refine (HPX.out _ _ (Blk.new _ _ _)).mono ?_
    rintro e v13 ⟨rfl, hf⟩
    have HS := Lib.hid (HS.out.al hf)
    clear hf
    have HB2 := Lib.hid HS.out.b2
    have HB5 := Lib.hid HS.out.b5
    have HF := Lib.hid HS.out.f
    clear HS
    obtain ⟨ka0, ka1, ka2, ka3, ka4, ka5, ka6, fa0, fa1, fa2, fa3, fa4, fa5, fa6⟩ := blkat7 HB2.out
    obtain ⟨kb0, kb1, kb2, kb3, kb4, kb5, kb6, fb0, fb1, fb2, fb3, fb4, fb5, fb6⟩ := blkat7 HB5.out
    have hlt : w.heap.size + 1 < v13.heap.size := HB5.out.lt
    go_upto_region 60 with (fail)
    have HB5' := Lib.hid (blk7 HB5.out (.int .i64 (13)) (.int .i64 ((rd : Int))) (.int .i64 (2)) (.int .i64 (0)) (.int .i64 ((n : Int))) (.int .i64 (0)) (.int .i64 (0)))
    have HB2' := Lib.hid (show Blk (((((((v13.setCell ⟨w.heap.size + 1, 0, none⟩ (.int .i64 (13))).setCell ⟨w.heap.size + 1, 1, none⟩ (.int .i64 ((rd : Int)))).setCell ⟨w.heap.size + 1, 2, none⟩ (.int .i64 (2))).setCell ⟨w.heap.size + 1, 3, none⟩ (.int .i64 (0))).setCell ⟨w.heap.size + 1, 4, none⟩ (.int .i64 ((n : Int)))).setCell ⟨w.heap.size + 1, 5, none⟩ (.int .i64 (0))).setCell ⟨w.heap.size + 1, 6, none⟩ (.int .i64 (0))) w.heap.size 25 #[.int .i64 0, .int .i64 0, .int .i64 0, .int .i64 0, .int .i64 0, .int .i64 0, .int .i64 0] from by repeat (first | (with_reducible exact HB2.out) | (with_reducible refine Blk.set_ne ?_ (by simp) _)))
    have HF' := Lib.hid (show Fr (fun _ => False) w (((((((v13.setCell ⟨w.heap.size + 1, 0, none⟩ (.int .i64 (13))).setCell ⟨w.heap.size + 1, 1, none⟩ (.int .i64 ((rd : Int)))).setCell ⟨w.heap.size + 1, 2, none⟩ (.int .i64 (2))).setCell ⟨w.heap.size + 1, 3, none⟩ (.int .i64 (0))).setCell ⟨w.heap.size + 1, 4, none⟩ (.int .i64 ((n : Int)))).setCell ⟨w.heap.size + 1, 5, none⟩ (.int .i64 (0))).setCell ⟨w.heap.size + 1, 6, none⟩ (.int .i64 (0))) from by (repeat (first | (with_reducible exact HF.out) | (with_reducible refine Fr.setCell ?_ (Or.inr (by simp)) _))))
    clear hlt ka0 fa0 ka1 fa1 ka2 fa2 ka3 fa3 ka4 fa4 ka5 fa5 ka6 fa6 kb0 fb0 kb1 fb1 kb2 fb2 kb3 fb3 kb4 fb4 kb5 fb5 kb6 fb6
    clear HB2 HB5 HF
    generalize (((((((v13.setCell ⟨w.heap.size + 1, 0, none⟩ (.int .i64 (13))).setCell ⟨w.heap.size + 1, 1, none⟩ (.int .i64 ((rd : Int)))).setCell ⟨w.heap.size + 1, 2, none⟩ (.int .i64 (2))).setCell ⟨w.heap.size + 1, 3, none⟩ (.int .i64 (0))).setCell ⟨w.heap.size + 1, 4, none⟩ (.int .i64 ((n : Int)))).setCell ⟨w.heap.size + 1, 5, none⟩ (.int .i64 (0))).setCell ⟨w.heap.size + 1, 6, none⟩ (.int .i64 (0))) = wx at *
    have HB2 := HB2'
    have HB5 := HB5'
    have HF := HF'
    clear HB2' HB5' HF'
    obtain ⟨ka0, ka1, ka2, ka3, ka4, ka5, ka6, fa0, fa1, fa2, fa3, fa4, fa5, fa6⟩ := blkat7 HB2.out
    obtain ⟨kb0, kb1, kb2, kb3, kb4, kb5, kb6, fb0, fb1, fb2, fb3, fb4, fb5, fb6⟩ := blkat7 HB5.out
    have hlt : w.heap.size + 1 < wx.heap.size := HB5.out.lt
    go_wp2_with fail
    refine bodyPost_ret (results_ct rfl _ _ w.heap.size 25 #[.int .i64 (13), .int .i64 ((rd : Int)), .int .i64 (2), .int .i64 (0), .int .i64 ((n : Int)), .int .i64 (0), .int .i64 (2)] (0, 0) _ rfl ?_ Try.underlying25 rfl (by kernel_rfl)) rfl ?_
    · exact blk7 (by repeat (first | (with_reducible exact HB2.out) | (with_reducible refine Blk.set_ne ?_ (by simp) _))) _ _ _ _ _ _ _
    · exact ⟨rfl, by (repeat (first | (with_reducible exact HF.out) | (with_reducible refine Fr.setCell ?_ (Or.inr (by simp)) _)))⟩
  · have hP : rexpandP h = (i0, false) := by unfold rexpandP; rw [ck]; show size2 (if 0 < fN h 11 7 then _ else _) = _; rw [if_neg c]; rfl
    rw [hP]
    clear hP
    have H117 := Lib.hid (cx1 h hh)
    have H62 := Lib.hid (cx2 h hh)
    have H97 := Lib.hid (cx3 h hh)
    have H42 := Lib.hid (cx4 h hh)
    have HP6 := Lib.hid (cx5 h hh)
    have HS6 := Lib.hid (cx6 h hh)
    have HPW := Lib.hid (cx7 h hh)
    have HPD := Lib.hid (cx8 h hh)
    have HPB := Lib.hid (cx9 h hh)
    have HSB := Lib.hid (cx10 h hh)
    have em : (h : Int) % 4294967296 = (h : Int) := by omega
    have hab : fN h 1 0 = 2 ∧ fN h 15 13 = 2 := by have a1 : fN h 1 0 < 4 := Nat.mod_lt _ (by decide); have a2 : fN h 15 13 < 8 := Nat.mod_lt _ (by decide); omega
    have H10 := Lib.hid (h10_2 h hh hab.1)
    have H153 := Lib.hid (h153_2 h hh hab.2)
    have b97 := fN_s h 9 7 3 rfl (by decide)
    have b42 := fN_s h 4 2 3 rfl (by decide)
    have b117 := fN_s h 11 7 5 rfl (by decide)
    have bsh := rshort_bd h
    clear hab
    clear ck
    generalize fN h 11 7 = rd at *
    generalize fN h 6 2 = rs2 at *
    generalize fN h 9 7 = a at *
    generalize fN h 4 2 = b at *
    generalize rsix h = six at *
    generalize rshort h = sh at *
    generalize rwords h = wo at *
    generalize rdoubles h = db at *
    generalize rbr h = br at *
    generalize rbranch h = bn at *
    obtain ⟨t1, n1⟩ := nat_npos c
    clear c
    go_enter Try.func8, Try.ntmps8
    go_wp2_with fail
    have HS := Lib.hid (RS.start w)
    generalize (w.alloc (.cells #[.int .i64 0, .int .i64 0, .int .i64 0, .int .i64 0, .int .i64 0, .int .i64 0, .int .i64 0] 25)).alloc (.cells #[.int .i64 0, .int .i64 0, .int .i64 0, .int .i64 0, .int .i64 0, .int .i64 0, .int .i64 2] 25) = wz at *
    refine (H117.out _).mono ?_
    rintro e v1 ⟨rfl, hf⟩
    have HS := Lib.hid (HS.out.fr hf)
    clear hf
    go_wp2_with fail
    refine (H62.out _).mono ?_
    rintro e v2 ⟨rfl, hf⟩
    have HS := Lib.hid (HS.out.fr hf)
    clear hf
    go_wp2_with fail
    refine (H97.out _).mono ?_
    rintro e v3 ⟨rfl, hf⟩
    have HS := Lib.hid (HS.out.fr hf)
    clear hf
    go_wp2_with fail
    refine (H42.out _).mono ?_
    rintro e v4 ⟨rfl, hf⟩
    have HS := Lib.hid (HS.out.fr hf)
    clear hf
    go_wp2_with fail
    refine (HP6.out _ _ (Blk.new _ _ _)).mono ?_
    rintro e v5 ⟨rfl, hf⟩
    have HS := Lib.hid (HS.out.al hf)
    clear hf
    go_wp2_with fail
    refine (HS6.out _).mono ?_
    rintro e v6 ⟨rfl, hf⟩
    have HS := Lib.hid (HS.out.fr hf)
    clear hf
    go_wp2_with fail
    refine (HPW.out _ _ (Blk.new _ _ _)).mono ?_
    rintro e v7 ⟨rfl, hf⟩
    have HS := Lib.hid (HS.out.al hf)
    clear hf
    go_wp2_with fail
    refine (HPD.out _ _ (Blk.new _ _ _)).mono ?_
    rintro e v8 ⟨rfl, hf⟩
    have HS := Lib.hid (HS.out.al hf)
    clear hf
    go_wp2_with fail
    refine (HPB.out _ _ (Blk.new _ _ _)).mono ?_
    rintro e v9 ⟨rfl, hf⟩
    have HS := Lib.hid (HS.out.al hf)
    clear hf
    go_wp2_with fail
    refine (HSB.out _).mono ?_
    rintro e v10 ⟨rfl, hf⟩
    have HS := Lib.hid (HS.out.fr hf)
    clear hf
    go_wp2_with fail
    refine (H10.out _).mono ?_
    rintro e v11 ⟨rfl, hf⟩
    have HS := Lib.hid (HS.out.fr hf)
    clear hf
    go_wp2_with fail
    refine (H153.out _).mono ?_
    rintro e v12 ⟨rfl, hf⟩
    have HS := Lib.hid (HS.out.fr hf)
    clear hf
    have HB2 := Lib.hid HS.out.b2
    have HB5 := Lib.hid HS.out.b5
    have HF := Lib.hid HS.out.f
    clear HS
    obtain ⟨ka0, ka1, ka2, ka3, ka4, ka5, ka6, fa0, fa1, fa2, fa3, fa4, fa5, fa6⟩ := blkat7 HB2.out
    obtain ⟨kb0, kb1, kb2, kb3, kb4, kb5, kb6, fb0, fb1, fb2, fb3, fb4, fb5, fb6⟩ := blkat7 HB5.out
    have hlt : w.heap.size + 1 < v12.heap.size := HB5.out.lt
    go_wp2_with fail
    refine bodyPost_ret (results_ct rfl _ _ w.heap.size 25 #[.int .i64 (0), .int .i64 (0), .int .i64 (0), .int .i64 (0), .int .i64 (0), .int .i64 (0), .int .i64 (0)] (0, 0) _ rfl ?_ Try.underlying25 rfl (by kernel_rfl)) rfl ?_
    · exact blk7 (by repeat (first | (with_reducible exact HB2.out) | (with_reducible refine Blk.set_ne ?_ (by simp) _))) _ _ _ _ _ _ _
    · exact ⟨rfl, by (repeat (first | (with_reducible exact HF.out) | (with_reducible refine Fr.setCell ?_ (Or.inr (by simp)) _)))⟩
set_option maxRecDepth 100000 in
set_option maxHeartbeats 8000000 in
theorem rexpand_19 (h : Nat) (hh : h < 65536) (w : World) (ck : fN h 1 0 * 8 + fN h 15 13 = 19) : Calls Try.prog 8 #[.int .u16 (h : Int)] w fun e w' => e = .returned (.tuple #[i7 (rexpandP h).1, .bool (rexpandP h).2]) ∧ Fr (fun _ => False) w w' := by
  by_cases c : 0 < fN h 11 7
  · have hP : rexpandP h = ((14, ((fN h 11 7 : Nat) : Int), 2, 0, ((pc h [(4, 2), (12, 12), (6, 5)] 0 * 8 : Nat) : Int), 0, 2), true) := by unfold rexpandP; rw [ck]; show size2 (if 0 < fN h 11 7 then _ else _) = _; rw [if_pos c]; rfl
    rw [hP]
    clear hP
    have H117 := Lib.hid (cx1 h hh)
    have H62 := Lib.hid (cx2 h hh)
    have H97 := Lib.hid (cx3 h hh)
    have H42 := Lib.hid (cx4 h hh)
    have HP6 := Lib.hid (cx5 h hh)
    have HS6 := Lib.hid (cx6 h hh)
    have HPW := Lib.hid (cx7 h hh)
    have HPD := Lib.hid (cx8 h hh)
    have HPB := Lib.hid (cx9 h hh)
    have HSB := Lib.hid (cx10 h hh)
    have em : (h : Int) % 4294967296 = (h : Int) := by omega
    have hab : fN h 1 0 = 2 ∧ fN h 15 13 = 3 := by have a1 : fN h 1 0 < 4 := Nat.mod_lt _ (by decide); have a2 : fN h 15 13 < 8 := Nat.mod_lt _ (by decide); omega
    have H10 := Lib.hid (h10_2 h hh hab.1)
    have H153 := Lib.hid (h153_3 h hh hab.2)
    have b97 := fN_s h 9 7 3 rfl (by decide)
    have b42 := fN_s h 4 2 3 rfl (by decide)
    have b117 := fN_s h 11 7 5 rfl (by decide)
    have bsh := rshort_bd h
    clear hab
    have HPX := Lib.hid (cx17 h hh)
    clear ck
    generalize fN h 11 7 = rd at *
    generalize fN h 6 2 = rs2 at *
    generalize fN h 9 7 = a at *
    generalize fN h 4 2 = b at *
    generalize rsix h = six at *
    generalize rshort h = sh at *
    generalize rwords h = wo at *
    generalize rdoubles h = db at *
    generalize rbr h = br at *
    generalize rbranch h = bn at *
    generalize (pc h [(4, 2), (12, 12), (6, 5)] 0 * 8) = n at *
    obtain ⟨t1, n1⟩ := nat_pos c
    clear c
    go_enter Try.func8, Try.ntmps8
    go_wp2_with fail
    have HS := Lib.hid (RS.start w)
    generalize (w.alloc (.cells #[.int .i64 0, .int .i64 0, .int .i64 0, .int .i64 0, .int .i64 0, .int .i64 0, .int .i64 0] 25)).alloc (.cells #[.int .i64 0, .int .i64 0, .int .i64 0, .int .i64 0, .int .i64 0, .int .i64 0, .int .i64 2] 25) = wz at *
    refine (H117.out _).mono ?_
    rintro e v1 ⟨rfl, hf⟩
    have HS := Lib.hid (HS.out.fr hf)
    clear hf
    go_wp2_with fail
    refine (H62.out _).mono ?_
    rintro e v2 ⟨rfl, hf⟩
    have HS := Lib.hid (HS.out.fr hf)
    clear hf
    go_wp2_with fail
    refine (H97.out _).mono ?_
    rintro e v3 ⟨rfl, hf⟩
    have HS := Lib.hid (HS.out.fr hf)
    clear hf
    go_wp2_with fail
    refine (H42.out _).mono ?_
    rintro e v4 ⟨rfl, hf⟩
    have HS := Lib.hid (HS.out.fr hf)
    clear hf
    go_wp2_with fail
    refine (HP6.out _ _ (Blk.new _ _ _)).mono ?_
    rintro e v5 ⟨rfl, hf⟩
    have HS := Lib.hid (HS.out.al hf)
    clear hf
    go_wp2_with fail
    refine (HS6.out _).mono ?_
    rintro e v6 ⟨rfl, hf⟩
    have HS := Lib.hid (HS.out.fr hf)
    clear hf
    go_wp2_with fail
    refine (HPW.out _ _ (Blk.new _ _ _)).mono ?_
    rintro e v7 ⟨rfl, hf⟩
    have HS := Lib.hid (HS.out.al hf)
    clear hf
    go_wp2_with fail
    refine (HPD.out _ _ (Blk.new _ _ _)).mono ?_
    rintro e v8 ⟨rfl, hf⟩
    have HS := Lib.hid (HS.out.al hf)
    clear hf
    go_wp2_with fail
    refine (HPB.out _ _ (Blk.new _ _ _)).mono ?_
    rintro e v9 ⟨rfl, hf⟩
    have HS := Lib.hid (HS.out.al hf)
    clear hf
    go_wp2_with fail
    refine (HSB.out _).mono ?_
    rintro e v10 ⟨rfl, hf⟩
    have HS := Lib.hid (HS.out.fr hf)
    clear hf
    go_wp2_with fail
    refine (H10.out _).mono ?_
    rintro e v11 ⟨rfl, hf⟩
    have HS := Lib.hid (HS.out.fr hf)
    clear hf
    go_wp2_with fail
    refine (H153.out _).mono ?_
    rintro e v12 ⟨rfl, hf⟩
    have HS := Lib.hid (HS.out.fr hf)
    clear hf
    go_wp2_with fail
    refine (HPX.out _ _ (Blk.new _ _ _)).mono ?_
    rintro e v13 ⟨rfl, hf⟩
    have HS := Lib.hid (HS.out.al hf)
    clear hf
    have HB2 := Lib.hid HS.out.b2
    have HB5 := Lib.hid HS.out.b5
    have HF := Lib.hid HS.out.f
    clear HS
    obtain ⟨ka0, ka1, ka2, ka3, ka4, ka5, ka6, fa0, fa1, fa2, fa3, fa4, fa5, fa6⟩ := blkat7 HB2.out
    obtain ⟨kb0, kb1, kb2, kb3, kb4, kb5, kb6, fb0, fb1, fb2, fb3, fb4, fb5, fb6⟩ := blkat7 HB5.out
    have hlt : w.heap.size + 1 < v13.heap.size := HB5.out.lt
    go_upto_region 60 with (fail)
    have HB5' := Lib.hid (blk7 HB5.out (.int .i64 (14)) (.int .i64 ((rd : Int))) (.int .i64 (2)) (.int .i64 (0)) (.int .i64 ((n : Int))) (.int .i64 (0)) (.int .i64 (0)))
    have HB2' := Lib.hid (show Blk (((((((v13.setCell ⟨w.heap.size + 1, 0, none⟩ (.int .i64 (14))).setCell ⟨w.heap.size + 1, 1, none⟩ (.int .i64 ((rd : Int)))).setCell ⟨w.heap.size + 1, 2, none⟩ (.int .i64 (2))).setCell ⟨w.heap.size + 1, 3, none⟩ (.int .i64 (0))).setCell ⟨w.heap.size + 1, 4, none⟩ (.int .i64 ((n : Int)))).setCell ⟨w.heap.size + 1, 5, none⟩ (.int .i64 (0))).setCell ⟨w.heap.size + 1, 6, none⟩ (.int .i64 (0))) w.heap.size 25 #[.int .i64 0, .int .i64 0, .int .i64 0, .int .i64 0, .int .i64 0, .int .i64 0, .int .i64 0] from by repeat (first | (with_reducible exact HB2.out) | (with_reducible refine Blk.set_ne ?_ (by simp) _)))
    have HF' := Lib.hid (show Fr (fun _ => False) w (((((((v13.setCell ⟨w.heap.size + 1, 0, none⟩ (.int .i64 (14))).setCell ⟨w.heap.size + 1, 1, none⟩ (.int .i64 ((rd : Int)))).setCell ⟨w.heap.size + 1, 2, none⟩ (.int .i64 (2))).setCell ⟨w.heap.size + 1, 3, none⟩ (.int .i64 (0))).setCell ⟨w.heap.size + 1, 4, none⟩ (.int .i64 ((n : Int)))).setCell ⟨w.heap.size + 1, 5, none⟩ (.int .i64 (0))).setCell ⟨w.heap.size + 1, 6, none⟩ (.int .i64 (0))) from by (repeat (first | (with_reducible exact HF.out) | (with_reducible refine Fr.setCell ?_ (Or.inr (by simp)) _))))
    clear hlt ka0 fa0 ka1 fa1 ka2 fa2 ka3 fa3 ka4 fa4 ka5 fa5 ka6 fa6 kb0 fb0 kb1 fb1 kb2 fb2 kb3 fb3 kb4 fb4 kb5 fb5 kb6 fb6
    clear HB2 HB5 HF
    generalize (((((((v13.setCell ⟨w.heap.size + 1, 0, none⟩ (.int .i64 (14))).setCell ⟨w.heap.size + 1, 1, none⟩ (.int .i64 ((rd : Int)))).setCell ⟨w.heap.size + 1, 2, none⟩ (.int .i64 (2))).setCell ⟨w.heap.size + 1, 3, none⟩ (.int .i64 (0))).setCell ⟨w.heap.size + 1, 4, none⟩ (.int .i64 ((n : Int)))).setCell ⟨w.heap.size + 1, 5, none⟩ (.int .i64 (0))).setCell ⟨w.heap.size + 1, 6, none⟩ (.int .i64 (0))) = wx at *
    have HB2 := HB2'
    have HB5 := HB5'
    have HF := HF'
    clear HB2' HB5' HF'
    obtain ⟨ka0, ka1, ka2, ka3, ka4, ka5, ka6, fa0, fa1, fa2, fa3, fa4, fa5, fa6⟩ := blkat7 HB2.out
    obtain ⟨kb0, kb1, kb2, kb3, kb4, kb5, kb6, fb0, fb1, fb2, fb3, fb4, fb5, fb6⟩ := blkat7 HB5.out
    have hlt : w.heap.size + 1 < wx.heap.size := HB5.out.lt
    go_wp2_with fail
    refine bodyPost_ret (results_ct rfl _ _ w.heap.size 25 #[.int .i64 (14), .int .i64 ((rd : Int)), .int .i64 (2), .int .i64 (0), .int .i64 ((n : Int)), .int .i64 (0), .int .i64 (2)] (0, 0) _ rfl ?_ Try.underlying25 rfl (by kernel_rfl)) rfl ?_
    · exact blk7 (by repeat (first | (with_reducible exact HB2.out) | (with_reducible refine Blk.set_ne ?_ (by simp) _))) _ _ _ _ _ _ _
    · exact ⟨rfl, by (repeat (first | (with_reducible exact HF.out) | (with_reducible refine Fr.setCell ?_ (Or.inr (by simp)) _)))⟩
  · have hP : rexpandP h = (i0, false) := by unfold rexpandP; rw [ck]; show size2 (if 0 < fN h 11 7 then _ else _) = _; rw [if_neg c]; rfl
    rw [hP]
    clear hP
    have H117 := Lib.hid (cx1 h hh)
    have H62 := Lib.hid (cx2 h hh)
    have H97 := Lib.hid (cx3 h hh)
    have H42 := Lib.hid (cx4 h hh)
    have HP6 := Lib.hid (cx5 h hh)
    have HS6 := Lib.hid (cx6 h hh)
    have HPW := Lib.hid (cx7 h hh)
    have HPD := Lib.hid (cx8 h hh)
    have HPB := Lib.hid (cx9 h hh)
    have HSB := Lib.hid (cx10 h hh)
    have em : (h : Int) % 4294967296 = (h : Int) := by omega
    have hab : fN h 1 0 = 2 ∧ fN h 15 13 = 3 := by have a1 : fN h 1 0 < 4 := Nat.mod_lt _ (by decide); have a2 : fN h 15 13 < 8 := Nat.mod_lt _ (by decide); omega
    have H10 := Lib.hid (h10_2 h hh hab.1)
    have H153 := Lib.hid (h153_3 h hh hab.2)
    have b97 := fN_s h 9 7 3 rfl (by decide)
    have b42 := fN_s h 4 2 3 rfl (by decide)
    have b117 := fN_s h 11 7 5 rfl (by decide)
    have bsh := rshort_bd h
    clear hab
    clear ck
    generalize fN h 11 7 = rd at *
    generalize fN h 6 2 = rs2 at *
    generalize fN h 9 7 = a at *
    generalize fN h 4 2 = b at *
    generalize rsix h = six at *
    generalize rshort h = sh at *
    generalize rwords h = wo at *
    generalize rdoubles h = db at *
    generalize rbr h = br at *
    generalize rbranch h = bn at *
    obtain ⟨t1, n1⟩ := nat_npos c
    clear c
    go_enter Try.func8, Try.ntmps8
    go_wp2_with fail
    have HS := Lib.hid (RS.start w)
    generalize (w.alloc (.cells #[.int .i64 0, .int .i64 0, .int .i64 0, .int .i64 0, .int .i64 0, .int .i64 0, .int .i64 0] 25)).alloc (.cells #[.int .i64 0, .int .i64 0, .int .i64 0, .int .i64 0, .int .i64 0, .int .i64 0, .int .i64 2] 25) = wz at *
    refine (H117.out _).mono ?_
    rintro e v1 ⟨rfl, hf⟩
    have HS := Lib.hid (HS.out.fr hf)
    clear hf
    go_wp2_with fail
    refine (H62.out _).mono ?_
    rintro e v2 ⟨rfl, hf⟩
    have HS := Lib.hid (HS.out.fr hf)
    clear hf
    go_wp2_with fail
    refine (H97.out _).mono ?_
    rintro e v3 ⟨rfl, hf⟩
    have HS := Lib.hid (HS.out.fr hf)
    clear hf
    go_wp2_with fail
    refine (H42.out _).mono ?_
    rintro e v4 ⟨rfl, hf⟩
    have HS := Lib.hid (HS.out.fr hf)
    clear hf
    go_wp2_with fail
    refine (HP6.out _ _ (Blk.new _ _ _)).mono ?_
    rintro e v5 ⟨rfl, hf⟩
    have HS := Lib.hid (HS.out.al hf)
    clear hf
    go_wp2_with fail
    refine (HS6.out _).mono ?_
    rintro e v6 ⟨rfl, hf⟩
    have HS := Lib.hid (HS.out.fr hf)
    clear hf
    go_wp2_with fail
    refine (HPW.out _ _ (Blk.new _ _ _)).mono ?_
    rintro e v7 ⟨rfl, hf⟩
    have HS := Lib.hid (HS.out.al hf)
    clear hf
    go_wp2_with fail
    refine (HPD.out _ _ (Blk.new _ _ _)).mono ?_
    rintro e v8 ⟨rfl, hf⟩
    have HS := Lib.hid (HS.out.al hf)
    clear hf
    go_wp2_with fail
    refine (HPB.out _ _ (Blk.new _ _ _)).mono ?_
    rintro e v9 ⟨rfl, hf⟩
    have HS := Lib.hid (HS.out.al hf)
    clear hf
    go_wp2_with fail
    refine (HSB.out _).mono ?_
    rintro e v10 ⟨rfl, hf⟩
    have HS := Lib.hid (HS.out.fr hf)
    clear hf
    go_wp2_with fail
    refine (H10.out _).mono ?_
    rintro e v11 ⟨rfl, hf⟩
    have HS := Lib.hid (HS.out.fr hf)
    clear hf
    go_wp2_with fail
    refine (H153.out _).mono ?_
    rintro e v12 ⟨rfl, hf⟩
    have HS := Lib.hid (HS.out.fr hf)
    clear hf
    have HB2 := Lib.hid HS.out.b2
    have HB5 := Lib.hid HS.out.b5
    have HF := Lib.hid HS.out.f
    clear HS
    obtain ⟨ka0, ka1, ka2, ka3, ka4, ka5, ka6, fa0, fa1, fa2, fa3, fa4, fa5, fa6⟩ := blkat7 HB2.out
    obtain ⟨kb0, kb1, kb2, kb3, kb4, kb5, kb6, fb0, fb1, fb2, fb3, fb4, fb5, fb6⟩ := blkat7 HB5.out
    have hlt : w.heap.size + 1 < v12.heap.size := HB5.out.lt
    go_wp2_with fail
    refine bodyPost_ret (results_ct rfl _ _ w.heap.size 25 #[.int .i64 (0), .int .i64 (0), .int .i64 (0), .int .i64 (0), .int .i64 (0), .int .i64 (0), .int .i64 (0)] (0, 0) _ rfl ?_ Try.underlying25 rfl (by kernel_rfl)) rfl ?_
    · exact blk7 (by repeat (first | (with_reducible exact HB2.out) | (with_reducible refine Blk.set_ne ?_ (by simp) _))) _ _ _ _ _ _ _
    · exact ⟨rfl, by (repeat (first | (with_reducible exact HF.out) | (with_reducible refine Fr.setCell ?_ (Or.inr (by simp)) _)))⟩
set_option maxRecDepth 100000 in
set_option maxHeartbeats 8000000 in
theorem rexpand_21 (h : Nat) (hh : h < 65536) (w : World) (ck : fN h 1 0 * 8 + fN h 15 13 = 21) : Calls Try.prog 8 #[.int .u16 (h : Int)] w fun e w' => e = .returned (.tuple #[i7 (rexpandP h).1, .bool (rexpandP h).2]) ∧ Fr (fun _ => False) w w' := by
  have hP : rexpandP h = (i0, false) := by unfold rexpandP; rw [ck]; rfl
  rw [hP]
  clear hP
  have H117 := Lib.hid (cx1 h hh)
  have H62 := Lib.hid (cx2 h hh)
  have H97 := Lib.hid (cx3 h hh)
  have H42 := Lib.hid (cx4 h hh)
  have HP6 := Lib.hid (cx5 h hh)
  have HS6 := Lib.hid (cx6 h hh)
  have HPW := Lib.hid (cx7 h hh)
  have HPD := Lib.hid (cx8 h hh)
  have HPB := Lib.hid (cx9 h hh)
  have HSB := Lib.hid (cx10 h hh)
  have em : (h : Int) % 4294967296 = (h : Int) := by omega
  have hab : fN h 1 0 = 2 ∧ fN h 15 13 = 5 := by have a1 : fN h 1 0 < 4 := Nat.mod_lt _ (by decide); have a2 : fN h 15 13 < 8 := Nat.mod_lt _ (by decide); omega
  have H10 := Lib.hid (h10_2 h hh hab.1)
  have H153 := Lib.hid (h153_5 h hh hab.2)
  have b97 := fN_s h 9 7 3 rfl (by decide)
  have b42 := fN_s h 4 2 3 rfl (by decide)
  have b117 := fN_s h 11 7 5 rfl (by decide)
  have bsh := rshort_bd h
  clear hab
  clear ck
  generalize fN h 11 7 = rd at *
  generalize fN h 6 2 = rs2 at *
  generalize fN h 9 7 = a at *
  generalize fN h 4 2 = b at *
  generalize rsix h = six at *
  generalize rshort h = sh at *
  generalize rwords h = wo at *
  generalize rdoubles h = db at *
  generalize rbr h = br at *
  generalize rbranch h = bn at *
  go_enter Try.func8, Try.ntmps8
  go_wp2_with fail
  have HS := Lib.hid (RS.start w)
  generalize (w.alloc (.cells #[.int .i64 0, .int .i64 0, .int .i64 0, .int .i64 0, .int .i64 0, .int .i64 0, .int .i64 0] 25)).alloc (.cells #[.int .i64 0, .int .i64 0, .int .i64 0, .int .i64 0, .int .i64 0, .int .i64 0, .int .i64 2] 25) = wz at *
  refine (H117.out _).mono ?_
  rintro e v15 ⟨rfl, hf⟩
  have HS := Lib.hid (HS.out.fr hf)
  clear hf
  go_wp2_with fail
  refine (H62.out _).mono ?_
  rintro e v16 ⟨rfl, hf⟩
  have HS := Lib.hid (HS.out.fr hf)
  clear hf
  go_wp2_with fail
  refine (H97.out _).mono ?_
  rintro e v17 ⟨rfl, hf⟩
  have HS := Lib.hid (HS.out.fr hf)
  clear hf
  go_wp2_with fail
  refine (H42.out _).mono ?_
  rintro e v18 ⟨rfl, hf⟩
  have HS := Lib.hid (HS.out.fr hf)
  clear hf
  go_wp2_with fail
  refine (HP6.out _ _ (Blk.new _ _ _)).mono ?_
  rintro e v19 ⟨rfl, hf⟩
  have HS := Lib.hid (HS.out.al hf)
  clear hf
  go_wp2_with fail
  refine (HS6.out _).mono ?_
  rintro e v20 ⟨rfl, hf⟩
  have HS := Lib.hid (HS.out.fr hf)
  clear hf
  go_wp2_with fail
  refine (HPW.out _ _ (Blk.new _ _ _)).mono ?_
  rintro e v21 ⟨rfl, hf⟩
  have HS := Lib.hid (HS.out.al hf)
  clear hf
  go_wp2_with fail
  refine (HPD.out _ _ (Blk.new _ _ _)).mono ?_
  rintro e v22 ⟨rfl, hf⟩
  have HS := Lib.hid (HS.out.al hf)
  clear hf
  go_wp2_with fail
  refine (HPB.out _ _ (Blk.new _ _ _)).mono ?_
  rintro e v23 ⟨rfl, hf⟩
  have HS := Lib.hid (HS.out.al hf)
  clear hf
  go_wp2_with fail
  refine (HSB.out _).mono ?_
  rintro e v24 ⟨rfl, hf⟩
  have HS := Lib.hid (HS.out.fr hf)
  clear hf
  go_wp2_with fail
  refine (H10.out _).mono ?_
  rintro e v25 ⟨rfl, hf⟩
  have HS := Lib.hid (HS.out.fr hf)
  clear hf
  go_wp2_with fail
  refine (H153.out _).mono ?_
  rintro e v26 ⟨rfl, hf⟩
  have HS := Lib.hid (HS.out.fr hf)
  clear hf
  have HB2 := Lib.hid HS.out.b2
  have HB5 := Lib.hid HS.out.b5
  have HF := Lib.hid HS.out.f
  clear HS
  obtain ⟨ka0, ka1, ka2, ka3, ka4, ka5, ka6, fa0, fa1, fa2, fa3, fa4, fa5, fa6⟩ := blkat7 HB2.out
  obtain ⟨kb0, kb1, kb2, kb3, kb4, kb5, kb6, fb0, fb1, fb2, fb3, fb4, fb5, fb6⟩ := blkat7 HB5.out
  have hlt : w.heap.size + 1 < v26.heap.size := HB5.out.lt
  go_wp2_with fail
  refine bodyPost_ret (results_ct rfl _ _ w.heap.size 25 #[.int .i64 (0), .int .i64 (0), .int .i64 (0), .int .i64 (0), .int .i64 (0), .int .i64 (0), .int .i64 (0)] (0, 0) _ rfl ?_ Try.underlying25 rfl (by kernel_rfl)) rfl ?_
  · exact blk7 (by repeat (first | (with_reducible exact HB2.out) | (with_reducible refine Blk.set_ne ?_ (by simp) _))) _ _ _ _ _ _ _
  · exact ⟨rfl, by (repeat (first | (with_reducible exact HF.out) | (with_reducible refine Fr.setCell ?_ (Or.inr (by simp)) _)))⟩
set_option maxRecDepth 100000 in
set_option maxHeartbeats 8000000 in
theorem rexpand_22 (h : Nat) (hh : h < 65536) (w : World) (ck : fN h 1 0 * 8 + fN h 15 13 = 22) : Calls Try.prog 8 #[.int .u16 (h : Int)] w fun e w' => e = .returned (.tuple #[i7 (rexpandP h).1, .bool (rexpandP h).2]) ∧ Fr (fun _ => False) w w' := by
  have hP : rexpandP h = ((20, 0, 2, ((fN h 6 2 : Nat) : Int), ((pc h [(8, 7), (12, 9)] 0 * 4 : Nat) : Int), 0, 2), true) := by unfold rexpandP; rw [ck]; rfl
  rw [hP]
  clear hP
  have H117 := Lib.hid (cx1 h hh)
  have H62 := Lib.hid (cx2 h hh)
  have H97 := Lib.hid (cx3 h hh)
  have H42 := Lib.hid (cx4 h hh)
  have HP6 := Lib.hid (cx5 h hh)
  have HS6 := Lib.hid (cx6 h hh)
  have HPW := Lib.hid (cx7 h hh)
  have HPD := Lib.hid (cx8 h hh)
  have HPB := Lib.hid (cx9 h hh)
  have HSB := Lib.hid (cx10 h hh)
  have em : (h : Int) % 4294967296 = (h : Int) := by omega
  have hab : fN h 1 0 = 2 ∧ fN h 15 13 = 6 := by have a1 : fN h 1 0 < 4 := Nat.mod_lt _ (by decide); have a2 : fN h 15 13 < 8 := Nat.mod_lt _ (by decide); omega
  have H10 := Lib.hid (h10_2 h hh hab.1)
  have H153 := Lib.hid (h153_6 h hh hab.2)
  have b97 := fN_s h 9 7 3 rfl (by decide)
  have b42 := fN_s h 4 2 3 rfl (by decide)
  have b117 := fN_s h 11 7 5 rfl (by decide)
  have bsh := rshort_bd h
  clear hab
  have HPX := Lib.hid (cx18 h hh)
  clear ck
  generalize fN h 11 7 = rd at *
  generalize fN h 6 2 = rs2 at *
  generalize fN h 9 7 = a at *
  generalize fN h 4 2 = b at *
  generalize rsix h = six at *
  generalize rshort h = sh at *
  generalize rwords h = wo at *
  generalize rdoubles h = db at *
  generalize rbr h = br at *
  generalize rbranch h = bn at *
  generalize (pc h [(8, 7), (12, 9)] 0 * 4) = n at *
  go_enter Try.func8, Try.ntmps8
  go_wp2_with fail
  have HS := Lib.hid (RS.start w)
  generalize (w.alloc (.cells #[.int .i64 0, .int .i64 0, .int .i64 0, .int .i64 0, .int .i64 0, .int .i64 0, .int .i64 0] 25)).alloc (.cells #[.int .i64 0, .int .i64 0, .int .i64 0, .int .i64 0, .int .i64 0, .int .i64 0, .int .i64 2] 25) = wz at *
  refine (H117.out _).mono ?_
  rintro e v27 ⟨rfl, hf⟩
  have HS := Lib.hid (HS.out.fr hf)
  clear hf
  go_wp2_with fail
  refine (H62.out _).mono ?_
  rintro e v28 ⟨rfl, hf⟩
  have HS := Lib.hid (HS.out.fr hf)
  clear hf
  go_wp2_with fail
  refine (H97.out _).mono ?_
  rintro e v29 ⟨rfl, hf⟩
  have HS := Lib.hid (HS.out.fr hf)
  clear hf
  go_wp2_with fail
  refine (H42.out _).mono ?_
  rintro e v30 ⟨rfl, hf⟩
  have HS := Lib.hid (HS.out.fr hf)
  clear hf
  go_wp2_with fail
  refine (HP6.out _ _ (Blk.new _ _ _)).mono ?_
  rintro e v31 ⟨rfl, hf⟩
  have HS := Lib.hid (HS.out.al hf)
  clear hf
  go_wp2_with fail
  refine (HS6.out _).mono ?_
  rintro e v32 ⟨rfl, hf⟩
  have HS := Lib.hid (HS.out.fr hf)
  clear hf
  go_wp2_with fail
  refine (HPW.out _ _ (Blk.new _ _ _)).mono ?_
  rintro e v33 ⟨rfl, hf⟩
  have HS := Lib.hid (HS.out.al hf)
  clear hf
  go_wp2_with fail
  refine (HPD.out _ _ (Blk.new _ _ _)).mono ?_
  rintro e v34 ⟨rfl, hf⟩
  have HS := Lib.hid (HS.out.al hf)
  clear hf
  go_wp2_with fail
  refine (HPB.out _ _ (Blk.new _ _ _)).mono ?_
  rintro e v35 ⟨rfl, hf⟩
  have HS := Lib.hid (HS.out.al hf)
  clear hf
  go_wp2_with fail
  refine (HSB.out _).mono ?_
  rintro e v36 ⟨rfl, hf⟩
  have HS := Lib.hid (HS.out.fr hf)
  clear hf
  go_wp2_with fail
  refine (H10.out _).mono ?_
  rintro e v37 ⟨rfl, hf⟩
  have HS := Lib.hid (HS.out.fr hf)
  clear hf
  go_wp2_with fail
  refine (H153.out _).mono ?_
  rintro e v38 ⟨rfl, hf⟩
  have HS := Lib.hid (HS.out.fr hf)
  clear hf
  go_wp2_with fail
  refine (HPX.out _ _ (Blk.new _ _ _)).mono ?_
  rintro e v39 ⟨rfl, hf⟩
  have HS := Lib.hid (HS.out.al hf)
  clear hf
  have HB2 := Lib.hid HS.out.b2
  have HB5 := Lib.hid HS.out.b5
  have HF := Lib.hid HS.out.f
  clear HS
  obtain ⟨ka0, ka1, ka2, ka3, ka4, ka5, ka6, fa0, fa1, fa2, fa3, fa4, fa5, fa6⟩ := blkat7 HB2.out
  obtain ⟨kb0, kb1, kb2, kb3, kb4, kb5, kb6, fb0, fb1, fb2, fb3, fb4, fb5, fb6⟩ := blkat7 HB5.out
  have hlt : w.heap.size + 1 < v39.heap.size := HB5.out.lt
  go_upto_region 60 with (fail)
  have HB5' := Lib.hid (blk7 HB5.out (.int .i64 (20)) (.int .i64 (0)) (.int .i64 (2)) (.int .i64 ((rs2 : Int))) (.int .i64 ((n : Int))) (.int .i64 (0)) (.int .i64 (0)))
  have HB2' := Lib.hid (show Blk (((((((v39.setCell ⟨w.heap.size + 1, 0, none⟩ (.int .i64 (20))).setCell ⟨w.heap.size + 1, 1, none⟩ (.int .i64 (0))).setCell ⟨w.heap.size + 1, 2, none⟩ (.int .i64 (2))).setCell ⟨w.heap.size + 1, 3, none⟩ (.int .i64 ((rs2 : Int)))).setCell ⟨w.heap.size + 1, 4, none⟩ (.int .i64 ((n : Int)))).setCell ⟨w.heap.size + 1, 5, none⟩ (.int .i64 (0))).setCell ⟨w.heap.size + 1, 6, none⟩ (.int .i64 (0))) w.heap.size 25 #[.int .i64 0, .int .i64 0, .int .i64 0, .int .i64 0, .int .i64 0, .int .i64 0, .int .i64 0] from by repeat (first | (with_reducible exact HB2.out) | (with_reducible refine Blk.set_ne ?_ (by simp) _)))
  have HF' := Lib.hid (show Fr (fun _ => False) w (((((((v39.setCell ⟨w.heap.size + 1, 0, none⟩ (.int .i64 (20))).setCell ⟨w.heap.size + 1, 1, none⟩ (.int .i64 (0))).setCell ⟨w.heap.size + 1, 2, none⟩ (.int .i64 (2))).setCell ⟨w.heap.size + 1, 3, none⟩ (.int .i64 ((rs2 : Int)))).setCell ⟨w.heap.size + 1, 4, none⟩ (.int .i64 ((n : Int)))).setCell ⟨w.heap.size + 1, 5, none⟩ (.int .i64 (0))).setCell ⟨w.heap.size + 1, 6, none⟩ (.int .i64 (0))) from by (repeat (first | (with_reducible exact HF.out) | (with_reducible refine Fr.setCell ?_ (Or.inr (by simp)) _))))
  clear hlt ka0 fa0 ka1 fa1 ka2 fa2 ka3 fa3 ka4 fa4 ka5 fa5 ka6 fa6 kb0 fb0 kb1 fb1 kb2 fb2 kb3 fb3 kb4 fb4 kb5 fb5 kb6 fb6
  clear HB2 HB5 HF
  generalize (((((((v39.setCell ⟨w.heap.size + 1, 0, none⟩ (.int .i64 (20))).setCell ⟨w.heap.size + 1, 1, none⟩ (.int .i64 (0))).setCell ⟨w.heap.size + 1, 2, none⟩ (.int .i64 (2))).setCell ⟨w.heap.size + 1, 3, none⟩ (.int .i64 ((rs2 : Int)))).setCell ⟨w.heap.size + 1, 4, none⟩ (.int .i64 ((n : Int)))).setCell ⟨w.heap.size + 1, 5, none⟩ (.int .i64 (0))).setCell ⟨w.heap.size + 1, 6, none⟩ (.int .i64 (0))) = wx at *
  have HB2 := HB2'
  have HB5 := HB5'
  have HF := HF'
  clear HB2' HB5' HF'
  obtain ⟨ka0, ka1, ka2, ka3, ka4, ka5, ka6, fa0, fa1, fa2, fa3, fa4, fa5, fa6⟩ := blkat7 HB2.out
  obtain ⟨kb0, kb1, kb2, kb3, kb4, kb5, kb6, fb0, fb1, fb2, fb3, fb4, fb5, fb6⟩ := blkat7 HB5.out
  have hlt : w.heap.size + 1 < wx.heap.size := HB5.out.lt
  go_wp2_with fail
  refine bodyPost_ret (results_ct rfl _ _ w.heap.size 25 #[.int .i64 (20), .int .i64 (0), .int .i64 (2), .int .i64 ((rs2 : Int)), .int .i64 ((n : Int)), .int .i64 (0), .int .i64 (2)] (0, 0) _ rfl ?_ Try.underlying25 rfl (by kernel_rfl)) rfl ?_
  · exact blk7 (by repeat (first | (with_reducible exact HB2.out) | (with_reducible refine Blk.set_ne ?_ (by simp) _))) _ _ _ _ _ _ _
  · exact ⟨rfl, by (repeat (first | (with_reducible exact HF.out) | (with_reducible refine Fr.setCell ?_ (Or.inr (by simp)) _)))⟩
set_option maxRecDepth 100000 in
set_option maxHeartbeats 8000000 in
theorem rexpand_23 (h : Nat) (hh : h < 65536) (w : World) (ck : fN h 1 0 * 8 + fN h 15 13 = 23) : Calls Try.prog 8 #[.int .u16 (h : Int)] w fun e w' => e = .returned (.tuple #[i7 (rexpandP h).1, .bool (rexpandP h).2]) ∧ Fr (fun _ => False) w w' := by
  have hP : rexpandP h = ((21, 0, 2, ((fN h 6 2 : Nat) : Int), ((pc h [(9, 7), (12, 10)] 0 * 8 : Nat) : Int), 0, 2), true) := by unfold rexpandP; rw [ck]; rfl
  rw [hP]
  clear hP
  have H117 := Lib.hid (cx1 h hh)
  have H62 := Lib.hid (cx2 h hh)
  have H97 := Lib.hid (cx3 h hh)
  have H42 := Lib.hid (cx4 h hh)
  have HP6 := Lib.hid (cx5 h hh)
  have HS6 := Lib.hid (cx6 h hh)
  have HPW := Lib.hid (cx7 h hh)
  have HPD := Lib.hid (cx8 h hh)
  have HPB := Lib.hid (cx9 h hh)
  have HSB := Lib.hid (cx10 h hh)
  have em : (h : Int) % 4294967296 = (h : Int) := by omega
  have hab : fN h 1 0 = 2 ∧ fN h 15 13 = 7 := by have a1 : fN h 1 0 < 4 := Nat.mod_lt _ (by decide); have a2 : fN h 15 13 < 8 := Nat.mod_lt _ (by decide); omega
  have H10 := Lib.hid (h10_2 h hh hab.1)
  have H153 := Lib.hid (h153_7 h hh hab.2)
  have b97 := fN_s h 9 7 3 rfl (by decide)
  have b42 := fN_s h 4 2 3 rfl (by decide)
  have b117 := fN_s h 11 7 5 rfl (by decide)
  have bsh := rshort_bd h
  clear hab
  have HPX := Lib.hid (cx19 h hh)
  clear ck
  generalize fN h 11 7 = rd at *
  generalize fN h 6 2 = rs2 at *
  generalize fN h 9 7 = a at *
  generalize fN h 4 2 = b at *
  generalize rsix h = six at *
  generalize rshort h = sh at *
  generalize rwords h = wo at *
  generalize rdoubles h = db at *
  generalize rbr h = br at *
  generalize rbranch h = bn at *
  generalize (pc h [(9, 7), (12, 10)] 0 * 8) = n at *
  go_enter Try.func8, Try.ntmps8
  go_wp2_with fail
  have HS := Lib.hid (RS.start w)
  generalize (w.alloc (.cells #[.int .i64 0, .int .i64 0, .int .i64 0, .int .i64 0, .int .i64 0, .int .i64 0, .int .i64 0] 25)).alloc (.cells #[.int .i64 0, .int .i64 0, .int .i64 0, .int .i64 0, .int .i64 0, .int .i64 0, .int .i64 2] 25) = wz at *
  refine (H117.out _).mono ?_
  rintro e v40 ⟨rfl, hf⟩
  have HS := Lib.hid (HS.out.fr hf)
  clear hf
  go_wp2_with fail
  refine (H62.out _).mono ?_
  rintro e v41 ⟨rfl, hf⟩
  have HS := Lib.hid (HS.out.fr hf)
  clear hf
  go_wp2_with fail
  refine (H97.out _).mono ?_
  rintro e v42 ⟨rfl, hf⟩
  have HS := Lib.hid (HS.out.fr hf)
  clear hf
  go_wp2_with fail
  refine (H42.out _).mono ?_
  rintro e v43 ⟨rfl, hf⟩
  have HS := Lib.hid (HS.out.fr hf)
  clear hf
  go_wp2_with fail
  refine (HP6.out _ _ (Blk.new _ _ _)).mono ?_
  rintro e v44 ⟨rfl, hf⟩
  have HS := Lib.hid (HS.out.al hf)
  clear hf
  go_wp2_with fail
  refine (HS6.out _).mono ?_
  rintro e v45 ⟨rfl, hf⟩
  have HS := Lib.hid (HS.out.fr hf)
  clear hf
  go_wp2_with fail
  refine (HPW.out _ _ (Blk.new _ _ _)).mono ?_
  rintro e v46 ⟨rfl, hf⟩
  have HS := Lib.hid (HS.out.al hf)
  clear hf
  go_wp2_with fail
  refine (HPD.out _ _ (Blk.new _ _ _)).mono ?_
  rintro e v47 ⟨rfl, hf⟩
  have HS := Lib.hid (HS.out.al hf)
  clear hf
  go_wp2_with fail
  refine (HPB.out _ _ (Blk.new _ _ _)).mono ?_
  rintro e v48 ⟨rfl, hf⟩
  have HS := Lib.hid (HS.out.al hf)
  clear hf
  go_wp2_with fail
  refine (HSB.out _).mono ?_
  rintro e v49 ⟨rfl, hf⟩
  have HS := Lib.hid (HS.out.fr hf)
  clear hf
  go_wp2_with fail
  refine (H10.out _).mono ?_
  rintro e v50 ⟨rfl, hf⟩
  have HS := Lib.hid (HS.out.fr hf)
  clear hf
  go_wp2_with fail
  refine (H153.out _).mono ?_
  rintro e v51 ⟨rfl, hf⟩
  have HS := Lib.hid (HS.out.fr hf)
  clear hf
  go_wp2_with fail
  refine (HPX.out _ _ (Blk.new _ _ _)).mono ?_
  rintro e v52 ⟨rfl, hf⟩
  have HS := Lib.hid (HS.out.al hf)
  clear hf
  have HB2 := Lib.hid HS.out.b2
  have HB5 := Lib.hid HS.out.b5
  have HF := Lib.hid HS.out.f
  clear HS
  obtain ⟨ka0, ka1, ka2, ka3, ka4, ka5, ka6, fa0, fa1, fa2, fa3, fa4, fa5, fa6⟩ := blkat7 HB2.out
  obtain ⟨kb0, kb1, kb2, kb3, kb4, kb5, kb6, fb0, fb1, fb2, fb3, fb4, fb5, fb6⟩ := blkat7 HB5.out
  have hlt : w.heap.size + 1 < v52.heap.size := HB5.out.lt
  go_upto_region 60 with (fail)
  have HB5' := Lib.hid (blk7 HB5.out (.int .i64 (21)) (.int .i64 (0)) (.int .i64 (2)) (.int .i64 ((rs2 : Int))) (.int .i64 ((n : Int))) (.int .i64 (0)) (.int .i64 (0)))
  have HB2' := Lib.hid (show Blk (((((((v52.setCell ⟨w.heap.size + 1, 0, none⟩ (.int .i64 (21))).setCell ⟨w.heap.size + 1, 1, none⟩ (.int .i64 (0))).setCell ⟨w.heap.size + 1, 2, none⟩ (.int .i64 (2))).setCell ⟨w.heap.size + 1, 3, none⟩ (.int .i64 ((rs2 : Int)))).setCell ⟨w.heap.size + 1, 4, none⟩ (.int .i64 ((n : Int)))).setCell ⟨w.heap.size + 1, 5, none⟩ (.int .i64 (0))).setCell ⟨w.heap.size + 1, 6, none⟩ (.int .i64 (0))) w.heap.size 25 #[.int .i64 0, .int .i64 0, .int .i64 0, .int .i64 0, .int .i64 0, .int .i64 0, .int .i64 0] from by repeat (first | (with_reducible exact HB2.out) | (with_reducible refine Blk.set_ne ?_ (by simp) _)))
  have HF' := Lib.hid (show Fr (fun _ => False) w (((((((v52.setCell ⟨w.heap.size + 1, 0, none⟩ (.int .i64 (21))).setCell ⟨w.heap.size + 1, 1, none⟩ (.int .i64 (0))).setCell ⟨w.heap.size + 1, 2, none⟩ (.int .i64 (2))).setCell ⟨w.heap.size + 1, 3, none⟩ (.int .i64 ((rs2 : Int)))).setCell ⟨w.heap.size + 1, 4, none⟩ (.int .i64 ((n : Int)))).setCell ⟨w.heap.size + 1, 5, none⟩ (.int .i64 (0))).setCell ⟨w.heap.size + 1, 6, none⟩ (.int .i64 (0))) from by (repeat (first | (with_reducible exact HF.out) | (with_reducible refine Fr.setCell ?_ (Or.inr (by simp)) _))))
  clear hlt ka0 fa0 ka1 fa1 ka2 fa2 ka3 fa3 ka4 fa4 ka5 fa5 ka6 fa6 kb0 fb0 kb1 fb1 kb2 fb2 kb3 fb3 kb4 fb4 kb5 fb5 kb6 fb6
  clear HB2 HB5 HF
  generalize (((((((v52.setCell ⟨w.heap.size + 1, 0, none⟩ (.int .i64 (21))).setCell ⟨w.heap.size + 1, 1, none⟩ (.int .i64 (0))).setCell ⟨w.heap.size + 1, 2, none⟩ (.int .i64 (2))).setCell ⟨w.heap.size + 1, 3, none⟩ (.int .i64 ((rs2 : Int)))).setCell ⟨w.heap.size + 1, 4, none⟩ (.int .i64 ((n : Int)))).setCell ⟨w.heap.size + 1, 5, none⟩ (.int .i64 (0))).setCell ⟨w.heap.size + 1, 6, none⟩ (.int .i64 (0))) = wx at *
  have HB2 := HB2'
  have HB5 := HB5'
  have HF := HF'
  clear HB2' HB5' HF'
  obtain ⟨ka0, ka1, ka2, ka3, ka4, ka5, ka6, fa0, fa1, fa2, fa3, fa4, fa5, fa6⟩ := blkat7 HB2.out
  obtain ⟨kb0, kb1, kb2, kb3, kb4, kb5, kb6, fb0, fb1, fb2, fb3, fb4, fb5, fb6⟩ := blkat7 HB5.out
  have hlt : w.heap.size + 1 < wx.heap.size := HB5.out.lt
  go_wp2_with fail
  refine bodyPost_ret (results_ct rfl _ _ w.heap.size 25 #[.int .i64 (21), .int .i64 (0), .int .i64 (2), .int .i64 ((rs2 : Int)), .int .i64 ((n : Int)), .int .i64 (0), .int .i64 (2)] (0, 0) _ rfl ?_ Try.underlying25 rfl (by kernel_rfl)) rfl ?_
  · exact blk7 (by repeat (first | (with_reducible exact HB2.out) | (with_reducible refine Blk.set_ne ?_ (by simp) _))) _ _ _ _ _ _ _
  · exact ⟨rfl, by (repeat (first | (with_reducible exact HF.out) | (with_reducible refine Fr.setCell ?_ (Or.inr (by simp)) _)))⟩
set_option maxRecDepth 100000 in
set_option maxHeartbeats 8000000 in
theorem rexpand_24 (h : Nat) (hh : h < 65536) (w : World) (ck : fN h 1 0 * 8 + fN h 15 13 = 24) : Calls Try.prog 8 #[.int .u16 (h : Int)] w fun e w' => e = .returned (.tuple #[i7 (rexpandP h).1, .bool (rexpandP h).2]) ∧ Fr (fun _ => False) w w' := by
  have hP : rexpandP h = (i0, false) := by unfold rexpandP; rw [ck]; rfl
  rw [hP]
  clear hP
  have H117 := Lib.hid (cx1 h hh)
  have H62 := Lib.hid (cx2 h hh)
  have H97 := Lib.hid (cx3 h hh)
  have H42 := Lib.hid (cx4 h hh)
  have HP6 := Lib.hid (cx5 h hh)
  have HS6 := Lib.hid (cx6 h hh)
  have HPW := Lib.hid (cx7 h hh)
  have HPD := Lib.hid (cx8 h hh)
  have HPB := Lib.hid (cx9 h hh)
  have HSB := Lib.hid (cx10 h hh)
  have em : (h : Int) % 4294967296 = (h : Int) := by omega
  have hab : fN h 1 0 = 3 ∧ fN h 15 13 = 0 := by have a1 : fN h 1 0 < 4 := Nat.mod_lt _ (by decide); have a2 : fN h 15 13 < 8 := Nat.mod_lt _ (by decide); omega
  have H10 := Lib.hid (h10_3 h hh hab.1)
  have H153 := Lib.hid (h153_0 h hh hab.2)
  have b97 := fN_s h 9 7 3 rfl (by decide)
  have b42 := fN_s h 4 2 3 rfl (by decide)
  have b117 := fN_s h 11 7 5 rfl (by decide)
  have bsh := rshort_bd h
  clear hab
  clear ck
  generalize fN h 11 7 = rd at *
  generalize fN h 6 2 = rs2 at *
  generalize fN h 9 7 = a at *
  generalize fN h 4 2 = b at *
  generalize rsix h = six at *
  generalize rshort h = sh at *
  generalize rwords h = wo at *
  generalize rdoubles h = db at *
  generalize rbr h = br at *
  generalize rbranch h = bn at *
  go_enter Try.func8, Try.ntmps8
  go_wp2_with fail
  have HS := Lib.hid (RS.start w)
  generalize (w.alloc (.cells #[.int .i64 0, .int .i64 0, .int .i64 0, .int .i64 0, .int .i64 0, .int .i64 0, .int .i64 0] 25)).alloc (.cells #[.int .i64 0, .int .i64 0, .int .i64 0, .int .i64 0, .int .i64 0, .int .i64 0, .int .i64 2] 25) = wz at *
  refine (H117.out _).mono ?_
  rintro e v53 ⟨rfl, hf⟩
  have HS := Lib.hid (HS.out.fr hf)
  clear hf
  go_wp2_with fail
  refine (H62.out _).mono ?_
  rintro e v54 ⟨rfl, hf⟩
  have HS := Lib.hid (HS.out.fr hf)
  clear hf
  go_wp2_with fail
  refine (H97.out _).mono ?_
  rintro e v55 ⟨rfl, hf⟩
  have HS := Lib.hid (HS.out.fr hf)
  clear hf
  go_wp2_with fail
  refine (H42.out _).mono ?_
  rintro e v56 ⟨rfl, hf⟩
  have HS := Lib.hid (HS.out.fr hf)
  clear hf
  go_wp2_with fail
  refine (HP6.out _ _ (Blk.new _ _ _)).mono ?_
  rintro e v57 ⟨rfl, hf⟩
  have HS := Lib.hid (HS.out.al hf)
  clear hf
  go_wp2_with fail
  refine (HS6.out _).mono ?_
  rintro e v58 ⟨rfl, hf⟩
  have HS := Lib.hid (HS.out.fr hf)
  clear hf
  go_wp2_with fail
  refine (HPW.out _ _ (Blk.new _ _ _)).mono ?_
  rintro e v59 ⟨rfl, hf⟩
  have HS := Lib.hid (HS.out.al hf)
  clear hf
  go_wp2_with fail
  refine (HPD.out _ _ (Blk.new _ _ _)).mono ?_
  rintro e v60 ⟨rfl, hf⟩
  have HS := Lib.hid (HS.out.al hf)
  clear hf
  go_wp2_with fail
  refine (HPB.out _ _ (Blk.new _ _ _)).mono ?_
  rintro e v61 ⟨rfl, hf⟩
  have HS := Lib.hid (HS.out.al hf)
  clear hf
  go_wp2_with fail
  refine (HSB.out _).mono ?_
  rintro e v62 ⟨rfl, hf⟩
  have HS := Lib.hid (HS.out.fr hf)
  clear hf
  go_wp2_with fail
  refine (H10.out _).mono ?_
  rintro e v63 ⟨rfl, hf⟩
  have HS := Lib.hid (HS.out.fr hf)
  clear hf
  go_wp2_with fail
  refine (H153.out _).mono ?_
  rintro e v64 ⟨rfl, hf⟩
  have HS := Lib.hid (HS.out.fr hf)
  clear hf
  have HB2 := Lib.hid HS.out.b2
  have HB5 := Lib.hid HS.out.b5
  have HF := Lib.hid HS.out.f
  clear HS
  obtain ⟨ka0, ka1, ka2, ka3, ka4, ka5, ka6, fa0, fa1, fa2, fa3, fa4, fa5, fa6⟩ := blkat7 HB2.out
  obtain ⟨kb0, kb1, kb2, kb3, kb4, kb5, kb6, fb0, fb1, fb2, fb3, fb4, fb5, fb6⟩ := blkat7 HB5.out
  have hlt : w.heap.size + 1 < v64.heap.size := HB5.out.lt
  go_wp2_with fail
  refine bodyPost_ret (results_ct rfl _ _ w.heap.size 25 #[.int .i64 (0), .int .i64 (0), .int .i64 (0), .int .i64 (0), .int .i64 (0), .int .i64 (0), .int .i64 (0)] (0, 0) _ rfl ?_ Try.underlying25 rfl (by kernel_rfl)) rfl ?_
  · exact blk7 (by repeat (first | (with_reducible exact HB2.out) | (with_reducible refine Blk.set_ne ?_ (by simp) _))) _ _ _ _ _ _ _
  · exact ⟨rfl, by (repeat (first | (with_reducible exact HF.out) | (with_reducible refine Fr.setCell ?_ (Or.inr (by simp)) _)))⟩
set_option maxRecDepth 100000 in
set_option maxHeartbeats 8000000 in
theorem rexpand_25 (h : Nat) (hh : h < 65536) (w : World) (ck : fN h 1 0 * 8 + fN h 15 13 = 25) : Calls Try.prog 8 #[.int .u16 (h : Int)] w fun e w' => e = .returned (.tuple #[i7 (rexpandP h).1, .bool (rexpandP h).2]) ∧ Fr (fun _ => False) w w' := by
  have hP : rexpandP h = (i0, false) := by unfold rexpandP; rw [ck]; rfl
  rw [hP]
  clear hP
  have H117 := Lib.hid (cx1 h hh)
  have H62 := Lib.hid (cx2 h hh)
  have H97 := Lib.hid (cx3 h hh)
  have H42 := Lib.hid (cx4 h hh)
  have HP6 := Lib.hid (cx5 h hh)
  have HS6 := Lib.hid (cx6 h hh)
  have HPW := Lib.hid (cx7 h hh)
  have HPD := Lib.hid (cx8 h hh)
  have HPB := Lib.hid (cx9 h hh)
  have HSB := Lib.hid (cx10 h hh)
  have em : (h : Int) % 4294967296 = (h : Int) := by omega
  have hab : fN h 1 0 = 3 ∧ fN h 15 13 = 1 := by have a1 : fN h 1 0 < 4 := Nat.mod_lt _ (by decide); have a2 : fN h 15 13 < 8 := Nat.mod_lt _ (by decide); omega
  have H10 := Lib.hid (h10_3 h hh hab.1)
  have H153 := Lib.hid (h153_1 h hh hab.2)
  have b97 := fN_s h 9 7 3 rfl (by decide)
  have b42 := fN_s h 4 2 3 rfl (by decide)
  have b117 := fN_s h 11 7 5 rfl (by decide)
  have bsh := rshort_bd h
  clear hab
  clear ck
  generalize fN h 11 7 = rd at *
  generalize fN h 6 2 = rs2 at *
  generalize fN h 9 7 = a at *
  generalize fN h 4 2 = b at *
  generalize rsix h = six at *
  generalize rshort h = sh at *
  generalize rwords h = wo at *
  generalize rdoubles h = db at *
  generalize rbr h = br at *
  generalize rbranch h = bn at *
  go_enter Try.func8, Try.ntmps8
  go_wp2_with fail
  have HS := Lib.hid (RS.start w)
  generalize (w.alloc (.cells #[.int .i64 0, .int .i64 0, .int .i64 0, .int .i64 0, .int .i64 0, .int .i64 0, .int .i64 0] 25)).alloc (.cells #[.int .i64 0, .int .i64 0, .int .i64 0, .int .i64 0, .int .i64 0, .int .i64 0, .int .i64 2] 25) = wz at *
  refine (H117.out _).mono ?_
  rintro e v65 ⟨rfl, hf⟩
  have HS := Lib.hid (HS.out.fr hf)
  clear hf
  go_wp2_with fail
  refine (H62.out _).mono ?_
  rintro e v66 ⟨rfl, hf⟩
  have HS := Lib.hid (HS.out.fr hf)
  clear hf
  go_wp2_with fail
  refine (H97.out _).mono ?_
  rintro e v67 ⟨rfl, hf⟩
  have HS := Lib.hid (HS.out.fr hf)
  clear hf
  go_wp2_with fail
  refine (H42.out _).mono ?_
  rintro e v68 ⟨rfl, hf⟩
  have HS := Lib.hid (HS.out.fr hf)
  clear hf
  go_wp2_with fail
  refine (HP6.out _ _ (Blk.new _ _ _)).mono ?_
  rintro e v69 ⟨rfl, hf⟩
  have HS := Lib.hid (HS.out.al hf)
  clear hf
  go_wp2_with fail
  refine (HS6.out _).mono ?_
  rintro e v70 ⟨rfl, hf⟩
  have HS := Lib.hid (HS.out.fr hf)
  clear hf
  go_wp2_with fail
  refine (HPW.out _ _ (Blk.new _ _ _)).mono ?_
  rintro e v71 ⟨rfl, hf⟩
  have HS := Lib.hid (HS.out.al hf)
  clear hf
  go_wp2_with fail
  refine (HPD.out _ _ (Blk.new _ _ _)).mono ?_
  rintro e v72 ⟨rfl, hf⟩
  have HS := Lib.hid (HS.out.al hf)
  clear hf
  go_wp2_with fail
  refine (HPB.out _ _ (Blk.new _ _ _)).mono ?_
  rintro e v73 ⟨rfl, hf⟩
  have HS := Lib.hid (HS.out.al hf)
  clear hf
  go_wp2_with fail
  refine (HSB.out _).mono ?_
  rintro e v74 ⟨rfl, hf⟩
  have HS := Lib.hid (HS.out.fr hf)
  clear hf
  go_wp2_with fail
  refine (H10.out _).mono ?_
  rintro e v75 ⟨rfl, hf⟩
  have HS := Lib.hid (HS.out.fr hf)
  clear hf
  go_wp2_with fail
  refine (H153.out _).mono ?_
  rintro e v76 ⟨rfl, hf⟩
  have HS := Lib.hid (HS.out.fr hf)
  clear hf
  have HB2 := Lib.hid HS.out.b2
  have HB5 := Lib.hid HS.out.b5
  have HF := Lib.hid HS.out.f
  clear HS
  obtain ⟨ka0, ka1, ka2, ka3, ka4, ka5, ka6, fa0, fa1, fa2, fa3, fa4, fa5, fa6⟩ := blkat7 HB2.out
  obtain ⟨kb0, kb1, kb2, kb3, kb4, kb5, kb6, fb0, fb1, fb2, fb3, fb4, fb5, fb6⟩ := blkat7 HB5.out
  have hlt : w.heap.size + 1 < v76.heap.size := HB5.out.lt
  go_wp2_with fail
  refine bodyPost_ret (results_ct rfl _ _ w.heap.size 25 #[.int .i64 (0), .int .i64 (0), .int .i64 (0), .int .i64 (0), .int .i64 (0), .int .i64 (0), .int .i64 (0)] (0, 0) _ rfl ?_ Try.underlying25 rfl (by kernel_rfl)) rfl ?_
  · exact blk7 (by repeat (first | (with_reducible exact HB2.out) | (with_reducible refine Blk.set_ne ?_ (by simp) _))) _ _ _ _ _ _ _
  · exact ⟨rfl, by (repeat (first | (with_reducible exact HF.out) | (with_reducible refine Fr.setCell ?_ (Or.inr (by simp)) _)))⟩
set_option maxRecDepth 100000 in
set_option maxHeartbeats 8000000 in
theorem rexpand_26 (h : Nat) (hh : h < 65536) (w : World) (ck : fN h 1 0 * 8 + fN h 15 13 = 26) : Calls Try.prog 8 #[.int .u16 (h : Int)] w fun e w' => e = .returned (.tuple #[i7 (rexpandP h).1, .bool (rexpandP h).2]) ∧ Fr (fun _ => False) w w' := by
  have hP : rexpandP h = (i0, false) := by unfold rexpandP; rw [ck]; rfl
  rw [hP]
  clear hP
  have H117 := Lib.hid (cx1 h hh)
  have H62 := Lib.hid (cx2 h hh)
  have H97 := Lib.hid (cx3 h hh)
  have H42 := Lib.hid (cx4 h hh)
  have HP6 := Lib.hid (cx5 h hh)
  have HS6 := Lib.hid (cx6 h hh)
  have HPW := Lib.hid (cx7 h hh)
  have HPD := Lib.hid (cx8 h hh)
  have HPB := Lib.hid (cx9 h hh)
  have HSB := Lib.hid (cx10 h hh)
  have em : (h : Int) % 4294967296 = (h : Int) := by omega
  have hab : fN h 1 0 = 3 ∧ fN h 15 13 = 2 := by have a1 : fN h 1 0 < 4 := Nat.mod_lt _ (by decide); have a2 : fN h 15 13 < 8 := Nat.mod_lt _ (by decide); omega
  have H10 := Lib.hid (h10_3 h hh hab.1)
  have H153 := Lib.hid (h153_2 h hh hab.2)
  have b97 := fN_s h 9 7 3 rfl (by decide)
  have b42 := fN_s h 4 2 3 rfl (by decide)
  have b117 := fN_s h 11 7 5 rfl (by decide)
  have bsh := rshort_bd h
  clear hab
  clear ck
  generalize fN h 11 7 = rd at *
  generalize fN h 6 2 = rs2 at *
  generalize fN h 9 7 = a at *
  generalize fN h 4 2 = b at *
  generalize rsix h = six at *
  generalize rshort h = sh at *
  generalize rwords h = wo at *
  generalize rdoubles h = db at *
  generalize rbr h = br at *
  generalize rbranch h = bn at *
  go_enter Try.func8, Try.ntmps8
  go_wp2_with fail
  have HS := Lib.hid (RS.start w)
  generalize (w.alloc (.cells #[.int .i64 0, .int .i64 0, .int .i64 0, .int .i64 0, .int .i64 0, .int .i64 0, .int .i64 0] 25)).alloc (.cells #[.int .i64 0, .int .i64 0, .int .i64 0, .int .i64 0, .int .i64 0, .int .i64 0, .int .i64 2] 25) = wz at *
  refine (H117.out _).mono ?_
  rintro e v77 ⟨rfl, hf⟩
  have HS := Lib.hid (HS.out.fr hf)
  clear hf
  go_wp2_with fail
  refine (H62.out _).mono ?_
  rintro e v78 ⟨rfl, hf⟩
  have HS := Lib.hid (HS.out.fr hf)
  clear hf
  go_wp2_with fail
  refine (H97.out _).mono ?_
  rintro e v79 ⟨rfl, hf⟩
  have HS := Lib.hid (HS.out.fr hf)
  clear hf
  go_wp2_with fail
  refine (H42.out _).mono ?_
  rintro e v80 ⟨rfl, hf⟩
  have HS := Lib.hid (HS.out.fr hf)
  clear hf
  go_wp2_with fail
  refine (HP6.out _ _ (Blk.new _ _ _)).mono ?_
  rintro e v81 ⟨rfl, hf⟩
  have HS := Lib.hid (HS.out.al hf)
  clear hf
  go_wp2_with fail
  refine (HS6.out _).mono ?_
  rintro e v82 ⟨rfl, hf⟩
  have HS := Lib.hid (HS.out.fr hf)
  clear hf
  go_wp2_with fail
  refine (HPW.out _ _ (Blk.new _ _ _)).mono ?_
  rintro e v83 ⟨rfl, hf⟩
  have HS := Lib.hid (HS.out.al hf)
  clear hf
  go_wp2_with fail
  refine (HPD.out _ _ (Blk.new _ _ _)).mono ?_
  rintro e v84 ⟨rfl, hf⟩
  have HS := Lib.hid (HS.out.al hf)
  clear hf
  go_wp2_with fail
  refine (HPB.out _ _ (Blk.new _ _ _)).mono ?_
  rintro e v85 ⟨rfl, hf⟩
  have HS := Lib.hid (HS.out.al hf)
  clear hf
  go_wp2_with fail
  refine (HSB.out _).mono ?_
  rintro e v86 ⟨rfl, hf⟩
  have HS := Lib.hid (HS.out.fr hf)
  clear hf
  go_wp2_with fail
  refine (H10.out _).mono ?_
  rintro e v87 ⟨rfl, hf⟩
  have HS := Lib.hid (HS.out.fr hf)
  clear hf
  go_wp2_with fail
  refine (H153.out _).mono ?_
  rintro e v88 ⟨rfl, hf⟩
  have HS := Lib.hid (HS.out.fr hf)
  clear hf
  have HB2 := Lib.hid HS.out.b2
  have HB5 := Lib.hid HS.out.b5
  have HF := Lib.hid HS.out.f
  clear HS
  obtain ⟨ka0, ka1, ka2, ka3, ka4, ka5, ka6, fa0, fa1, fa2, fa3, fa4, fa5, fa6⟩ := blkat7 HB2.out
  obtain ⟨kb0, kb1, kb2, kb3, kb4, kb5, kb6, fb0, fb1, fb2, fb3, fb4, fb5, fb6⟩ := blkat7 HB5.out
  have hlt : w.heap.size + 1 < v88.heap.size := HB5.out.lt
  go_wp2_with fail
  refine bodyPost_ret (results_ct rfl _ _ w.heap.size 25 #[.int .i64 (0), .int .i64 (0), .int .i64 (0), .int .i64 (0), .int .i64 (0), .int .i64 (0), .int .i64 (0)] (0, 0) _ rfl ?_ Try.underlying25 rfl (by kernel_rfl)) rfl ?_
  · exact blk7 (by repeat (first | (with_reducible exact HB2.out) | (with_reducible refine Blk.set_ne ?_ (by simp) _))) _ _ _ _ _ _ _
  · exact ⟨rfl, by (repeat (first | (with_reducible exact HF.out) | (with_reducible refine Fr.setCell ?_ (Or.inr (by simp)) _)))⟩
set_option maxRecDepth 100000 in
set_option maxHeartbeats 8000000 in
theorem rexpand_27 (h : Nat) (hh : h < 65536) (w : World) (ck : fN h 1 0 * 8 + fN h 15 13 = 27) : Calls Try.prog 8 #[.int .u16 (h : Int)] w fun e w' => e = .returned (.tuple #[i7 (rexpandP h).1, .bool (rexpandP h).2]) ∧ Fr (fun _ => False) w w' := by
  have hP : rexpandP h = (i0, false) := by unfold rexpandP; rw [ck]; rfl
  rw [hP]
  clear hP
  have H117 := Lib.hid (cx1 h hh)
  have H62 := Lib.hid (cx2 h hh)
  have H97 := Lib.hid (cx3 h hh)
  have H42 := Lib.hid (cx4 h hh)
  have HP6 := Lib.hid (cx5 h hh)
  have HS6 := Lib.hid (cx6 h hh)
  have HPW := Lib.hid (cx7 h hh)
  have HPD := Lib.hid (cx8 h hh)
  have HPB := Lib.hid (cx9 h hh)
  have HSB := Lib.hid (cx10 h hh)
  have em : (h : Int) % 4294967296 = (h : Int) := by omega
  have hab : fN h 1 0 = 3 ∧ fN h 15 13 = 3 := by have a1 : fN h 1 0 < 4 := Nat.mod_lt _ (by decide); have a2 : fN h 15 13 < 8 := Nat.mod_lt _ (by decide); omega
  have H10 := Lib.hid (h10_3 h hh hab.1)
  have H153 := Lib.hid (h153_3 h hh hab.2)
  have b97 := fN_s h 9 7 3 rfl (by decide)
  have b42 := fN_s h 4 2 3 rfl (by decide)
  have b117 := fN_s h 11 7 5 rfl (by decide)
  have bsh := rshort_bd h
  clear hab
  clear ck
  generalize fN h 11 7 = rd at *
  generalize fN h 6 2 = rs2 at *
  generalize fN h 9 7 = a at *
  generalize fN h 4 2 = b at *
  generalize rsix h = six at *
  generalize rshort h = sh at *
  generalize rwords h = wo at *
  generalize rdoubles h = db at *
  generalize rbr h = br at *
  generalize rbranch h = bn at *
  go_enter Try.func8, Try.ntmps8
  go_wp2_with fail
  have HS := Lib.hid (RS.start w)
  generalize (w.alloc (.cells #[.int .i64 0, .int .i64 0, .int .i64 0, .int .i64 0, .int .i64 0, .int .i64 0, .int .i64 0] 25)).alloc (.cells #[.int .i64 0, .int .i64 0, .int .i64 0, .int .i64 0, .int .i64 0, .int .i64 0, .int .i64 2] 25) = wz at *
  refine (H117.out _).mono ?_
  rintro e v89 ⟨rfl, hf⟩
  have HS := Lib.hid (HS.out.fr hf)
  clear hf
  go_wp2_with fail
  refine (H62.out _).mono ?_
  rintro e v90 ⟨rfl, hf⟩
  have HS := Lib.hid (HS.out.fr hf)
  clear hf
  go_wp2_with fail
  refine (H97.out _).mono ?_
  rintro e v91 ⟨rfl, hf⟩
  have HS := Lib.hid (HS.out.fr hf)
  clear hf
  go_wp2_with fail
  refine (H42.out _).mono ?_
  rintro e v92 ⟨rfl, hf⟩
  have HS := Lib.hid (HS.out.fr hf)
  clear hf
  go_wp2_with fail
  refine (HP6.out _ _ (Blk.new _ _ _)).mono ?_
  rintro e v93 ⟨rfl, hf⟩
  have HS := Lib.hid (HS.out.al hf)
  clear hf
  go_wp2_with fail
  refine (HS6.out _).mono ?_
  rintro e v94 ⟨rfl, hf⟩
  have HS := Lib.hid (HS.out.fr hf)
  clear hf
  go_wp2_with fail
  refine (HPW.out _ _ (Blk.new _ _ _)).mono ?_
  rintro e v95 ⟨rfl, hf⟩
  have HS := Lib.hid (HS.out.al hf)
  clear hf
  go_wp2_with fail
  refine (HPD.out _ _ (Blk.new _ _ _)).mono ?_
  rintro e v96 ⟨rfl, hf⟩
  have HS := Lib.hid (HS.out.al hf)
  clear hf
  go_wp2_with fail
  refine (HPB.out _ _ (Blk.new _ _ _)).mono ?_
  rintro e v97 ⟨rfl, hf⟩
  have HS := Lib.hid (HS.out.al hf)
  clear hf
  go_wp2_with fail
  refine (HSB.out _).mono ?_
  rintro e v98 ⟨rfl, hf⟩
  have HS := Lib.hid (HS.out.fr hf)
  clear hf
  go_wp2_with fail
  refine (H10.out _).mono ?_
  rintro e v99 ⟨rfl, hf⟩
  have HS := Lib.hid (HS.out.fr hf)
  clear hf
  go_wp2_with fail
  refine (H153.out _).mono ?_
  rintro e v100 ⟨rfl, hf⟩
  have HS := Lib.hid (HS.out.fr hf)
  clear hf
  have HB2 := Lib.hid HS.out.b2
  have HB5 := Lib.hid HS.out.b5
  have HF := Lib.hid HS.out.f
  clear HS
  obtain ⟨ka0, ka1, ka2, ka3, ka4, ka5, ka6, fa0, fa1, fa2, fa3, fa4, fa5, fa6⟩ := blkat7 HB2.out
  obtain ⟨kb0, kb1, kb2, kb3, kb4, kb5, kb6, fb0, fb1, fb2, fb3, fb4, fb5, fb6⟩ := blkat7 HB5.out
  have hlt : w.heap.size + 1 < v100.heap.size := HB5.out.lt
  go_wp2_with fail
  refine bodyPost_ret (results_ct rfl _ _ w.heap.size 25 #[.int .i64 (0), .int .i64 (0), .int .i64 (0), .int .i64 (0), .int .i64 (0), .int .i64 (0), .int .i64 (0)] (0, 0) _ rfl ?_ Try.underlying25 rfl (by kernel_rfl)) rfl ?_
  · exact blk7 (by repeat (first | (with_reducible exact HB2.out) | (with_reducible refine Blk.set_ne ?_ (by simp) _))) _ _ _ _ _ _ _
  · exact ⟨rfl, by (repeat (first | (with_reducible exact HF.out) | (with_reducible refine Fr.setCell ?_ (Or.inr (by simp)) _)))⟩
end Go.Proofs.Ytgefhoikpjiamaa.Cmp
