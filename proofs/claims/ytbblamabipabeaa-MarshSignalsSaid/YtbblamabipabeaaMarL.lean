/- The law MarshTimes, walked out of its callees' contracts. No further condition. -/
import Derived.Test.YtbblamabipabeaaMarV
import Derived.Test.YtbblamabipabeaaMarG
import Derived.Test.YtbblamabipabeaaBySame
namespace Go.Proofs.Ytbblamabipabeaa.Mar
open Go Go.RowKit Go.Proofs.YtbblamabipabeaaW.PrintWords Go.Proofs.YtbblamabipabeaaW.PrintLast Go.Proofs.YtbblamabipabeaaW.PrintMore
open Go.Proofs.Ytbblamabipabeaa.Hp Go.Proofs.Ytbblamabipabeaa.By Go.Proofs.Ytbblamabipabeaa.Bv
attribute [local go_sem] max2_int min2_int max_two min_two max_three min_three max_four min_four
set_option linter.unusedVariables false
set_option linter.unusedSimpArgs false
theorem encs_two (x y : Int) : (encs [x, y]).length = 16 ∧ (x ≥ 0 → x < 18446744073709551616 → tmS (encs [x, y]) = x) ∧ (y ≥ 0 → y < 18446744073709551616 → tmN (encs [x, y]) = y) ∧ By.bytes (encs [x, y]) := by
  have hx : (enc x 8).length = 8 := enc_length _ _
  have hy : (enc y 8).length = 8 := enc_length _ _
  have e : encs [x, y] = enc x 8 ++ enc y 8 := by simp [encs]
  refine ⟨encs_length _, fun h0 h1 => ?_, fun h0 h1 => ?_, ?_⟩
  · unfold tmS
    rw [e, List.take_append_of_le_length (by omega), List.take_of_length_le (by omega), le_enc _ _ h0]
    omega
  · unfold tmN
    rw [e, List.drop_append_of_le_length (by omega), List.drop_of_length_le (by omega), List.nil_append, List.take_of_length_le (by omega), le_enc _ _ h0]
    omega
  · rw [e]
    intro z hz
    rcases List.mem_append.1 hz with h | h
    · exact enc_bytes _ _ z h
    · exact enc_bytes _ _ z h
theorem tB_back (t : Int) (h0 : 0 ≤ t) (h1 : t < 9000000000000) : tmOk (tB t) 1000000000 = true ∧ tmV (tB t) 1000000000 1 = t := by
  obtain ⟨a, b, c, _⟩ := encs_two (t / 1000000000) (t % 1000000000)
  have b := b (by omega) (by omega)
  have c := c (by omega) (by omega)
  have hk : tmOk (tB t) 1000000000 = true := by
    unfold tmOk tB
    rw [b, c, a, decide_eq_true (show ((16 : Nat) : Int) = 16 from rfl), decide_eq_false (by omega), decide_eq_false (by omega)]
    rfl
  refine ⟨hk, ?_⟩
  unfold tmV
  rw [hk, if_pos rfl]
  unfold tB
  rw [b, c]
  omega
theorem mB_back (t : Int) (h0 : 0 ≤ t) (h1 : t < 9000000000000) : tmOk (mB t) 1000000 = true ∧ tmV (mB t) 1000000 1000 = t / 1000 * 1000 := by
  obtain ⟨a, b, c, _⟩ := encs_two (t / 1000000000) (t % 1000000000 / 1000)
  have b := b (by omega) (by omega)
  have c := c (by omega) (by omega)
  have hk : tmOk (mB t) 1000000 = true := by
    unfold tmOk mB
    rw [b, c, a, decide_eq_true (show ((16 : Nat) : Int) = 16 from rfl), decide_eq_false (by omega), decide_eq_false (by omega)]
    rfl
  refine ⟨hk, ?_⟩
  unfold tmV
  rw [hk, if_pos rfl]
  unfold mB
  rw [b, c]
  omega
theorem C_of {w : World} {A : Option Addr} {l : List Int} (h : ReadsInt w .u8 A l.length l) : Kd.C (Kd.int .u8) w A l.length l := Kd.C_of_reads (d := (0 : Int)) (h1 := fun _ => rfl) h
set_option maxHeartbeats 4000000 in
theorem times_law (A : Option Addr) (c : Nat) (l : List Int) (ns more : Int) (w : World) (hr : ReadsInt w .u8 A l.length l) (hc : l.length ≤ c) (hb : By.bytes l) (n0 : 0 ≤ ns) (n1 : ns < 4294967296) (m0 : 0 ≤ more) (m1 : more < 4294967296) :
    Calls Try.prog 3 #[.int .u32 ns, .int .u32 more, .slice A l.length c] w fun e w' => e = .returned (.bool true) ∧ Fr (fun _ => False) w w' := by
  have HR := Lib.hid hr
  have hm := hr.2.1
  have HBY := Lib.hid hb
  have hfr : ∀ w', Fr (fun _ => False) w w' → ReadsInt w' .u8 A l.length l := fun w' f => reads_fr hr f (fun _ _ _ => id)
  have HFR := Lib.hid hfr
  clear hfr hr hb
  have e1 : more.tmod 1000 = more % 1000 := Int.tmod_eq_emod_of_nonneg m0
  have e2 : wrap64 (ns * 1000) = ns * 1000 := wrap64_in (by omega) (by omega)
  obtain ⟨t, ht⟩ : ∃ t, t = ns * 1000 + more % 1000 := ⟨_, rfl⟩
  have t0 : 0 ≤ t := by omega
  have t1 : t < 9000000000000 := by omega
  have e3 : wrap64 t = t := wrap64_in (by omega) (by omega)
  have e3b : ns * 1000 + more % 1000 = t := ht.symm
  obtain ⟨LT, hLT⟩ : ∃ L, L = tB t := ⟨_, rfl⟩
  obtain ⟨LM, hLM⟩ : ∃ L, L = mB t := ⟨_, rfl⟩
  have hT : ∀ w, Calls Try.prog 6 #[.int .i64 t] w fun e w' => ∃ v, e = .returned v ∧ Own w.heap.size w' v LT ∧ Fr (fun _ => False) w w' := fun w => hLT ▸ time_any w t t0 (by omega)
  have hM : ∀ w, Calls Try.prog 8 #[.int .i64 t] w fun e w' => ∃ v, e = .returned v ∧ Own w.heap.size w' v LM ∧ Fr (fun _ => False) w w' := fun w => hLM ▸ micro_any w t t0 (by omega)
  have hRT : ∀ w, Calls Try.prog 11 #[.int .i64 t] w fun e w' => ∃ v, e = .returned v ∧ Own w.heap.size w' v LT ∧ Fr (fun _ => False) w w' := fun w => hLT ▸ rtime_any w t t0 (by omega)
  have hRM : ∀ w, Calls Try.prog 12 #[.int .i64 t] w fun e w' => ∃ v, e = .returned v ∧ Own w.heap.size w' v LM ∧ Fr (fun _ => False) w w' := fun w => hLM ▸ rmicro_any w t t0 (by omega)
  have hbT := Lib.hid (tB_back t t0 t1)
  have hbM := Lib.hid (mB_back t t0 t1)
  rw [← hLT] at hbT
  rw [← hLM] at hbM
  have hyT := Lib.hid (show LT.length = 16 ∧ By.bytes LT from hLT ▸ ⟨(encs_two _ _).1, (encs_two _ _).2.2.2⟩)
  have hyM := Lib.hid (show LM.length = 16 ∧ By.bytes LM from hLM ▸ ⟨(encs_two _ _).1, (encs_two _ _).2.2.2⟩)
  have HT := Lib.hid hT
  have HM := Lib.hid hM
  have HRT := Lib.hid hRT
  have HRM := Lib.hid hRM
  have hb1 : (t != t) = false := bne_self_eq_false _
  have e4 : t.tdiv 1000 = t / 1000 := Int.tdiv_eq_ediv_of_nonneg t0
  have e5 : wrap64 (t / 1000) = t / 1000 := wrap64_in (by omega) (by omega)
  have e6 : wrap64 (t / 1000 * 1000) = t / 1000 * 1000 := wrap64_in (by omega) (by omega)
  clear hLT hLM hT hM hRT hRM ht
  go_enter Try.func3, Try.ntmps3
  go_wp2_with fail
  refine (HT.out _).mono ?_
  rintro e w1 ⟨v1, rfl, ho1, hf1⟩
  have HF1 := Lib.hid hf1
  obtain ⟨A1, c1, rfl, hc1, hr1⟩ := ho1.slice
  have hg := Lib.hid (gettime_any A1 c1 LT w1 (C_of hr1) hc1 hyT.out.2 hr1.2.1)
  rw [hbT.out.1, hbT.out.2] at hg
  clear ho1 hf1 hr1
  go_wp2_with fail
  refine hg.out.mono ?_
  rintro e w2 ⟨rfl, hd2⟩
  have HF2 := Lib.hid (HF1.out.trans (Fr.drawn hd2) (fun _ _ h => h))
  clear hd2 hg HF1
  go_wp2_with fail
  refine (HM.out _).mono ?_
  rintro e w3 ⟨v3, rfl, ho3, hf3⟩
  have HF3 := Lib.hid (HF2.out.trans hf3 (fun _ _ h => h))
  obtain ⟨A3, c3, rfl, hc3, hr3⟩ := ho3.slice
  have hg := Lib.hid (getmicro_any A3 c3 LM w3 (C_of hr3) hc3 hyM.out.2 hr3.2.1)
  rw [hbM.out.1, hbM.out.2] at hg
  clear ho3 hf3 hr3 HF2
  go_wp2_with fail
  refine hg.out.mono ?_
  rintro e w4 ⟨rfl, hd4⟩
  have HF4 := Lib.hid (HF3.out.trans (Fr.drawn hd4) (fun _ _ h => h))
  clear hd4 hg HF3
  go_wp2_with fail
  refine (answers_any _).mono ?_
  rintro e w5 ⟨rfl, hf5⟩
  have HF5 := Lib.hid (HF4.out.trans hf5 (fun _ _ h => h))
  clear hf5 HF4
  go_wp2_with fail
  refine (HT.out _).mono ?_
  rintro e w6 ⟨v6, rfl, ho6, hf6⟩
  have HF6 := Lib.hid (HF5.out.trans hf6 (fun _ _ h => h))
  obtain ⟨A6, c6, rfl, hc6, hr6⟩ := ho6.slice
  have HR6 := Lib.hid hr6
  clear ho6 hf6 hr6 HF5
  go_wp2_with fail
  refine (HRT.out _).mono ?_
  rintro e w7 ⟨v7, rfl, ho7, hf7⟩
  have HF7 := Lib.hid (HF6.out.trans hf7 (fun _ _ h => h))
  obtain ⟨A7, c7, rfl, hc7, hr7⟩ := ho7.slice
  have hs := Lib.hid (same_any A6 A7 c6 c7 LT LT w7 (C_of (reads_fr HR6.out hf7 (fun _ _ _ => id))) (C_of hr7))
  rw [decide_eq_true (rfl : LT = LT)] at hs
  clear ho7 hf7 hr7 HF6 HR6
  go_wp2_with fail
  refine hs.out.mono ?_
  rintro e w8 ⟨rfl, hd8⟩
  have HF8 := Lib.hid (HF7.out.trans (Fr.drawn hd8) (fun _ _ h => h))
  clear hd8 hs HF7
  go_wp2_with fail
  refine (HM.out _).mono ?_
  rintro e w9 ⟨v9, rfl, ho9, hf9⟩
  have HF9 := Lib.hid (HF8.out.trans hf9 (fun _ _ h => h))
  obtain ⟨A9, c9, rfl, hc9, hr9⟩ := ho9.slice
  have HR9 := Lib.hid hr9
  clear ho9 hf9 hr9 HF8
  go_wp2_with fail
  refine (HRM.out _).mono ?_
  rintro e w10 ⟨v10, rfl, ho10, hf10⟩
  have HF10 := Lib.hid (HF9.out.trans hf10 (fun _ _ h => h))
  obtain ⟨A10, c10, rfl, hc10, hr10⟩ := ho10.slice
  have hs := Lib.hid (same_any A9 A10 c9 c10 LM LM w10 (C_of (reads_fr HR9.out hf10 (fun _ _ _ => id))) (C_of hr10))
  rw [decide_eq_true (rfl : LM = LM)] at hs
  clear ho10 hf10 hr10 HF9 HR9
  go_wp2_with fail
  refine hs.out.mono ?_
  rintro e w11 ⟨rfl, hd11⟩
  have HF11 := Lib.hid (HF10.out.trans (Fr.drawn hd11) (fun _ _ h => h))
  clear hd11 hs HF10
  have hb2 : (t / 1000 * 1000 != t / 1000 * 1000) = false := bne_self_eq_false _
  by_cases hlong : 100 < l.length
  · have u1 : decide (100 < (l.length : Int)) = true := decide_eq_true (by omega)
    have u2 : decide (100 < l.length) = true := decide_eq_true (by omega)
    clear hlong
    go_wp2_with fail
    refine (answers_any _).mono ?_
    rintro e w12 ⟨rfl, hf12⟩
    have HF12 := Lib.hid (HF11.out.trans hf12 (fun _ _ h => h))
    clear hf12
    go_wp2_with fail
    go_ret
    exact ⟨rfl, HF12.out⟩
  · have u1 : decide (100 < (l.length : Int)) = false := decide_eq_false (by omega)
    have u2 : decide (100 < l.length) = false := decide_eq_false (by omega)
    clear hlong
    go_wp2_with fail
    refine (gettime_any A c l _ (C_of (HFR.out _ HF11.out)) hc HBY.out hm).mono ?_
    rintro e w12 ⟨rfl, hd12⟩
    have HF12 := Lib.hid (HF11.out.trans (Fr.drawn hd12) (fun _ _ h => h))
    clear hd12 HF11
    go_wp2_with fail
    refine (read_any 1000000000 1 (.inl ⟨rfl, rfl⟩) A c l _ (C_of (HFR.out _ HF12.out)) hc HBY.out hm).mono ?_
    rintro e w13 ⟨rfl, hd13⟩
    have HF13 := Lib.hid (HF12.out.trans (Fr.drawn hd13) (fun _ _ h => h))
    clear hd13 HF12
    go_wp2_with fail
    refine (getmicro_any A c l _ (C_of (HFR.out _ HF13.out)) hc HBY.out hm).mono ?_
    rintro e w14 ⟨rfl, hd14⟩
    have HF14 := Lib.hid (HF13.out.trans (Fr.drawn hd14) (fun _ _ h => h))
    clear hd14 HF13
    go_wp2_with fail
    refine (read_any 1000000 1000 (.inr ⟨rfl, rfl⟩) A c l _ (C_of (HFR.out _ HF14.out)) hc HBY.out hm).mono ?_
    rintro e w15 ⟨rfl, hd15⟩
    have HF15 := Lib.hid (HF14.out.trans (Fr.drawn hd15) (fun _ _ h => h))
    clear hd15 HF14
    go_wp2_with fail
    go_ret
    exact ⟨rfl, HF15.out⟩
theorem times_walk (a0 a1 : Int) (a2 : Option Addr) (len2 cap2 : Nat) (z2 : List Int) (W : World) (w0 : (Lit.int .u32 a0).wf = true) (w1 : (Lit.int .u32 a1).wf = true)
    (w2 : (a2 = none ∧ len2 = 0 ∧ cap2 = 0 ∧ z2 = []) ∨ ∃ x, a2 = some x ∧ len2 ≤ cap2 ∧ cap2 ≤ maxLen ∧ z2.length = cap2 ∧ (∀ i, i < z2.length → W.cell? (x.add i) = some (.int .u8 (z2.getD i 0))) ∧ ∀ n ∈ z2, (Lit.int .u8 n).wf = true)
    (_ : len2 * 1 ≤ 140737488351232) :
    Calls Try.prog 3 #[.int .u32 a0, .int .u32 a1, .slice a2 len2 cap2] W fun e w' => e = .returned (.bool true) ∧ Below W.heap.size W w' := by
  have b0 := Go.bounds_u32 w0
  have b1 := Go.bounds_u32 w1
  obtain ⟨l0, rfl, hr0, hm0, hw0, hc0⟩ := ReadsInt.ofRowC w2
  exact (times_law a2 cap2 l0 a0 a1 W hr0 hc0 (fun y hy => Go.bounds_u8 (hw0 y hy)) b0.1 (by omega) b1.1 (by omega)).mono fun _ _ h => ⟨h.1, Fr.below (Below.refl _ _) h.2 (fun _ _ => id)⟩
end Go.Proofs.Ytbblamabipabeaa.Mar
