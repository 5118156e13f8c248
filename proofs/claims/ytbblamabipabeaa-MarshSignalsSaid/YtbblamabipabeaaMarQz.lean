/- The law MarshSignals for at most 100 bytes, walked out of its callees' contracts: a stack's size of 0. -/
import Derived.Test.YtbblamabipabeaaMarQ2
import Derived.Outline
namespace Go.Proofs.Ytbblamabipabeaa.Mar
open Go Go.RowKit Go.Proofs.YtbblamabipabeaaW.PrintWords Go.Proofs.YtbblamabipabeaaW.PrintLast Go.Proofs.YtbblamabipabeaaW.PrintMore
open Go.Proofs.Ytbblamabipabeaa.Hp Go.Proofs.Ytbblamabipabeaa.By Go.Proofs.Ytbblamabipabeaa.Bv
attribute [local go_sem] max2_int min2_int max_two min_two max_three min_three max_four min_four
set_option linter.unusedVariables false
set_option linter.unusedSimpArgs false
set_option maxHeartbeats 40000000 in
theorem signals_z (A : Option Addr) (c : Nat) (l : List Int) (h f m a s n : Int) (w : World) (hr : ReadsInt w .u8 A l.length l) (hc : l.length ≤ c) (hb : By.bytes l) (hl : l.length ≤ 100)
    (hh : 0 ≤ h ∧ h < 18446744073709551616) (hf : 0 ≤ f ∧ f < 18446744073709551616) (hm : 0 ≤ m ∧ m < 18446744073709551616) (ha : 0 ≤ a ∧ a < 18446744073709551616) (hs : 0 ≤ s ∧ s < 18446744073709551616) (hn : 0 ≤ n ∧ n < 4294967296) (hz : s = 0) :
    Calls Try.prog 4 #[.agg #[.int .u64 h, .int .u64 f, .int .u64 m], .agg #[.int .u64 a, .int .u64 s], .int .u32 n, .slice A l.length c] w fun e w' => e = .returned (.bool true) ∧ Fr (fun _ => False) w w' := by
  have u1 : decide (100 < (l.length : Int)) = false := decide_eq_false (by omega)
  have u2 : decide (100 < l.length) = false := decide_eq_false (by omega)
  have HR := Lib.hid hr
  have HBY := Lib.hid hb
  have hlm := hr.2.1
  have hst := stack_back a s ha hs
  have HA0 := Lib.hid (action_back h f m hh hf hm)
  have HEN := Lib.hid (encs_three h f m hh hf hm)
  have HAC := Lib.hid (fun w => action_any w h f m hh hf hm)
  have HRA := Lib.hid (fun w => raction_any w h f m)
  have HSK := Lib.hid (fun w => stack_any w a s ha hs)
  have HRS := Lib.hid (fun w => rstack_any w a s)
  obtain ⟨E, hE⟩ : ∃ E, E = encs [h, f, m] := ⟨_, rfl⟩
  rw [← hE] at HA0 HAC HRA HEN
  obtain ⟨K, hK⟩ : ∃ K, K = kB a s := ⟨_, rfl⟩
  rw [← hK] at hst HSK HRS
  have HLI := Lib.hid (fun w => limit_any w n hn.1 (by omega))
  have HTW := Lib.hid (fun w => two_any w n n hn.1 (by omega) hn.1 (by omega))
  obtain ⟨NN, hNN⟩ : ∃ N, N = encs [n, n] := ⟨_, rfl⟩
  rw [← hNN] at HLI HTW
  clear hE hNN
  rw [if_pos hz] at hst
  have t0 : (s == 0) = true := beq_iff_eq.2 hz
  have t0n : decide (2048 ≤ s) = false := decide_eq_false (by omega)
  have HK := Lib.hid hst
  have n1 : wrap64 n = n := wrap64_in (by omega) (by omega)
  have n1b : IntKind.i64.wrap n = n := by rw [← wrap64_eq]; exact n1
  have n2 : IntKind.u64.wrap n = n := wrap_in (by omega) (by omega)
  clear hz hst hK hr hb hh hf hm ha hs
  go_enter Try.func4, Try.ntmps4
  go_wp2_with fail
  have HA := Lib.hid (show Blk ((w.alloc (.cells #[.int .u64 h, .int .u64 f, .int .u64 m] 33)).alloc (.cells #[.int .u64 a, .int .u64 s] 35)) w.heap.size 33 #[.int .u64 h, .int .u64 f, .int .u64 m] from (Blk.new w _ _).alloc _)
  have HB := Lib.hid (show Blk ((w.alloc (.cells #[.int .u64 h, .int .u64 f, .int .u64 m] 33)).alloc (.cells #[.int .u64 a, .int .u64 s] 35)) (w.heap.size + 1) 35 #[.int .u64 a, .int .u64 s] from by
    have h := Blk.new (w.alloc (.cells #[.int .u64 h, .int .u64 f, .int .u64 m] 33)) 35 #[.int .u64 a, .int .u64 s]
    simpa [Blk] using h)
  have HF := Lib.hid (show Fr (fun _ => False) w ((w.alloc (.cells #[.int .u64 h, .int .u64 f, .int .u64 m] 33)).alloc (.cells #[.int .u64 a, .int .u64 s] 35)) from by (repeat (first | (with_reducible exact Fr.refl _ _) | (with_reducible apply Fr.drewN) | (with_reducible apply Fr.alloc) | (with_reducible apply Fr.drew) | (with_reducible refine Fr.setCell ?_ (Or.inr (by simp)) _))))
  obtain ⟨ga, hga⟩ : ∃ g, g = w.heap.size := ⟨_, rfl⟩
  obtain ⟨gb, hgb⟩ : ∃ g, g = w.heap.size + 1 := ⟨_, rfl⟩
  rw [← hgb] at HB
  rw [← hga] at HA
  generalize (w.alloc (.cells #[.int .u64 h, .int .u64 f, .int .u64 m] 33)).alloc (.cells #[.int .u64 a, .int .u64 s] 35) = wz at *
  rw [← hgb, ← hga]
  clear hga hgb
  refine (HSK.out _).mono ?_
  rintro e wa ⟨v1, rfl, ho1, hf1⟩
  have HA1 := Lib.hid (HA.out.fr hf1 id)
  have HB1 := Lib.hid (HB.out.fr hf1 id)
  have HF1 := Lib.hid (HF.out.trans hf1 (fun _ _ h => h))
  obtain ⟨A1, c1, rfl, hc1, hr1⟩ := ho1.slice
  have hg := getstack_any A1 c1 K wa hr1 hc1 HK.out.2.1
  rw [HK.out.2.2] at hg
  have HG := Lib.hid hg
  clear hg ho1 hf1 hr1 HA HB HF
  go_wp2_with fail
  refine HG.out.mono ?_
  rintro e wb ⟨rfl, hf2⟩
  have HA2 := Lib.hid ((HA1.out.fr hf2 id).alloc (.cells #[.int .u64 0, .int .u64 0] 35))
  have HB2 := Lib.hid ((HB1.out.fr hf2 id).alloc (.cells #[.int .u64 0, .int .u64 0] 35))
  have HF2 := Lib.hid ((HF1.out.trans hf2 (fun _ _ h => h)).alloc (.cells #[.int .u64 0, .int .u64 0] 35))
  have HX2 := Lib.hid (Blk.new wb 35 #[.int .u64 0, .int .u64 0])
  have k0 := (HB1.out.fr hf2 id).cell 0
  have k1 := (HB1.out.fr hf2 id).cell 1
  have i0 := HB2.out.cell 0
  have i1 := HB2.out.cell 1
  have j0 := (HB2.out.alloc (.cells #[.int .u64 a, .int .u64 s] 35)).cell 0
  have j1 := (HB2.out.alloc (.cells #[.int .u64 a, .int .u64 s] 35)).cell 1
  simp at k0 k1 i0 i1 j0 j1
  have hlt : gb < wb.heap.size := (HB1.out.fr hf2 id).lt
  clear hf2 HA1 HB1 HF1 HG
  go_wp2_with fail
  clear k0 k1 i0 i1 j0 j1
  have hsz1 : (wb.alloc (.cells #[.int .u64 0, .int .u64 0] 35)).heap.size = wb.heap.size + 1 := by simp
  have HW3 := Lib.hid (Blk.new (wb.alloc (.cells #[.int .u64 0, .int .u64 0] 35)) 35 #[.int .u64 0, .int .u64 0])
  rw [hsz1] at HW3
  have HA3 := Lib.hid (HA2.out.alloc (.cells #[.int .u64 0, .int .u64 0] 35))
  have HB3 := Lib.hid (HB2.out.alloc (.cells #[.int .u64 0, .int .u64 0] 35))
  have HX3 := Lib.hid (HX2.out.alloc (.cells #[.int .u64 0, .int .u64 0] 35))
  have HF3 := Lib.hid (HF2.out.alloc (.cells #[.int .u64 0, .int .u64 0] 35))
  clear HA2 HB2 HF2 HX2 hsz1 hlt
  generalize (wb.alloc (.cells #[.int .u64 0, .int .u64 0] 35)).alloc (.cells #[.int .u64 0, .int .u64 0] 35) = wc at *
  obtain ⟨gx, hgx⟩ : ∃ g, g = wb.heap.size := ⟨_, rfl⟩
  obtain ⟨gw, hgw⟩ : ∃ g, g = wb.heap.size + 1 := ⟨_, rfl⟩
  rw [← hgw] at HW3
  rw [← hgx] at HX3
  rw [← hgw, ← hgx]
  clear hgx hgw
  refine (getstack_any A c l wc (reads_fr HR.out HF3.out (fun _ _ _ => id)) hc HBY.out).mono ?_
  obtain ⟨Y1, Y2, YO, hY⟩ : ∃ Y1 Y2 YO, sk l = (Y1, Y2, YO) := ⟨_, _, _, rfl⟩
  have HY := Lib.hid hY
  rw [hY]
  rintro e wd ⟨rfl, hf⟩
  have HS := Lib.hid (show St (wd.alloc (.cells #[.int .u64 Y1, .int .u64 Y2] 35)) ga gb gx gw wd.heap.size h f m a s 0 0 0 0 Y1 Y2 from
    ⟨(HA3.out.fr hf id).alloc _, (HB3.out.fr hf id).alloc _, (HX3.out.fr hf id).alloc _, (HW3.out.fr hf id).alloc _, Blk.new _ _ _⟩)
  have HF := Lib.hid ((HF3.out.trans hf (fun _ _ h => h)).alloc (.cells #[.int .u64 Y1, .int .u64 Y2] 35))
  clear hf HA3 HB3 HX3 HW3 HF3 hY
  go_wp2_with fail
  obtain ⟨gy, hgy⟩ : ∃ g, g = wd.heap.size := ⟨_, rfl⟩
  rw [← hgy] at HS
  generalize wd.alloc (.cells #[.int .u64 Y1, .int .u64 Y2] 35) = we at *
  rw [← hgy]
  clear hgy
  refine (rgetstack_any A c l we (C_of (reads_fr HR.out HF.out (fun _ _ _ => id))) hc HBY.out).mono ?_
  rw [HY.out]
  rintro e wf ⟨rfl, hf⟩
  have HS1 := Lib.hid ((HS.out.fr0 hf).alloc (.cells #[.int .u64 Y1, .int .u64 Y2] 35))
  have HF1 := Lib.hid ((HF.out.trans hf (fun _ _ h => h)).alloc (.cells #[.int .u64 Y1, .int .u64 Y2] 35))
  have HZ := Lib.hid (Blk.new wf 35 #[.int .u64 Y1, .int .u64 Y2])
  clear hf HS HF HY
  obtain ⟨gz, hgz⟩ : ∃ g, g = wf.heap.size := ⟨_, rfl⟩
  have HSZ := Lib.hid (show (wf.alloc (.cells #[.int .u64 Y1, .int .u64 Y2] 35)).heap.size = wf.heap.size + 1 by simp)
  have HRR := Lib.hid (reads_fr HR.out (HF1.out.alloc (.cells #[] 5)) (fun _ _ _ => id))
  have HRE := Lib.hid (show Row ((wf.alloc (.cells #[.int .u64 Y1, .int .u64 Y2] 35)).alloc (.cells #[] 5)) 5 .u8 (.slice (some ⟨wf.heap.size + 1, 0, none⟩) 0 0) [] from HSZ.out ▸ Row.empty _ _ _)
  have HSR := Lib.hid ((HS1.out.alloc (.cells #[] 5)).row HRE.out)
  have HS2 := Lib.hid (HS1.out.alloc (.cells #[] 5))
  have HF2 := Lib.hid (HF1.out.alloc (.cells #[] 5))
  have HZ2 := Lib.hid (HZ.out.alloc (.cells #[] 5))
  have HZR := Lib.hid (show ∀ b, (Value.slice (some ⟨wf.heap.size + 1, 0, none⟩) 0 0).ownBlock = some b → b ≠ gz from fun b hb => by rw [hgz]; exact HRE.out.ne_blk HZ2.out (by decide) b hb)
  have HNB := Lib.hid (show ∀ b, (Value.slice (some ⟨wf.heap.size + 1, 0, none⟩) 0 0).ownBlock = some b → w.heap.size ≤ b from fun b hb => by
    have h1 := HF2.out.size
    simp [Value.ownBlock] at hb h1
    have h2 := HF1.out.size
    simp at h2
    omega)
  clear HF1 HS1 HZ HSZ
  rw [← hgz] at HZ2
  go_wp2_with (first | (at_builtin; refine row_app rfl (.tmp 43) (.tmp 44) 23 5 .u8 1 rfl Try.underlying23 info5 (by decide) (.slice (some ⟨wf.heap.size + 1, 0, none⟩) 0 0) [] l A l.length c rfl rfl HRE.out HRR.out (by simp; omega) ?_; intro v1 w1 ho1 hf1 hat1; rw [List.nil_append] at ho1; have HO1 := Lib.hid ho1; have HS3 := Lib.hid (HS2.out.fr hf1 HSR.out); have HZ3 := Lib.hid (HZ2.out.fr hf1 (fun h => HZR.out _ h rfl)); have HF3 := Lib.hid (fr_row HF2.out hf1 HNB.out); have HN1 := Lib.hid (row_next HNB.out HF2.out.size hat1); clear hf1 hat1; obtain ⟨A2, c2, rfl, hc2, hr2⟩ := ho1.slice; clear ho1 hr2) | (at_builtin; refine row_zeros rfl (.tmp 45) _ 23 3 5 rfl Try.underlying23 Try.underlying3 info5 (.slice A2 l.length c2) l 24 rfl rfl HO1.out (by decide) (by simp; omega) ?_; intro v2 w2 ho2 hf2 hat2; have HO2 := Lib.hid (show Row w2 5 .u8 v2 (l ++ List.replicate 24 0) from ho2); have HS4 := Lib.hid (HS3.out.fr hf2 (HS3.out.row HO1.out)); have HZ4 := Lib.hid (HZ3.out.fr hf2 (fun h => HO1.out.ne_blk HZ3.out (by decide) _ h rfl)); have HF4 := Lib.hid (fr_row HF3.out hf2 HN1.out); clear hf2 hat2; obtain ⟨A3, c3, rfl, hc3, hr3⟩ := HO2.out.slice; have HR3 := Lib.hid hr3; clear ho2 hr3))
  refine (getaction_any A c l w2 (reads_fr HR.out HF4.out (fun _ _ _ => id)) hc HBY.out).mono ?_
  rintro e w3 ⟨rfl, hf⟩
  have HS5 := Lib.hid ((HS4.out.fr0 hf).alloc (.cells #[.int .u64 (atv l 0), .int .u64 (atv l 1), .int .u64 (atv l 2)] 33))
  have HF5 := Lib.hid ((HF4.out.trans hf (fun _ _ h => h)).alloc (.cells #[.int .u64 (atv l 0), .int .u64 (atv l 1), .int .u64 (atv l 2)] 33))
  have HZ5 := Lib.hid ((HZ4.out.fr hf id).alloc (.cells #[.int .u64 (atv l 0), .int .u64 (atv l 1), .int .u64 (atv l 2)] 33))
  have HI5 := Lib.hid (Blk.new w3 33 #[.int .u64 (atv l 0), .int .u64 (atv l 1), .int .u64 (atv l 2)])
  have HR5 := Lib.hid (reads_fr HR3.out (hf.alloc (.cells #[.int .u64 (atv l 0), .int .u64 (atv l 1), .int .u64 (atv l 2)] 33)) (fun _ _ _ => id))
  clear hf HS2 HS3 HS4 HF2 HF3 HF4 HZ2 HZ3 HZ4 HNB HN1 HZR HRE HSR HRR HO1 HO2 HR3 HR
  have PA := Lib.hid (show atv l 0 = le ((l ++ List.replicate 24 0).take 8) ∧ atv l 1 = le (((l ++ List.replicate 24 0).drop 8).take 8) ∧ atv l 2 = le (((l ++ List.replicate 24 0).drop 16).take 8) from
    ⟨(pad_at l 0 (by decide)).symm, (pad_at l 1 (by decide)).symm, (pad_at l 2 (by decide)).symm⟩)
  obtain ⟨I0, hI0⟩ : ∃ i, i = atv l 0 := ⟨_, rfl⟩
  obtain ⟨I1, hI1⟩ : ∃ i, i = atv l 1 := ⟨_, rfl⟩
  obtain ⟨I2, hI2⟩ : ∃ i, i = atv l 2 := ⟨_, rfl⟩
  rw [← hI0, ← hI1, ← hI2] at PA HI5 HS5 HF5 HZ5 HR5 ⊢
  clear hI0 hI1 hI2
  go_wp2_with fail
  obtain ⟨C, hC⟩ : ∃ C, C = l ++ List.replicate 24 0 := ⟨_, rfl⟩
  have HCB := Lib.hid (show By.bytes C from by
    rw [hC]
    intro q hq
    rcases List.mem_append.1 hq with h | h
    · exact HBY.out q h
    · have := List.eq_of_mem_replicate h; omega)
  have hcl : C.length = l.length + 24 := by rw [hC]; simp
  rw [← hC] at PA HR5
  have hc3' : C.length ≤ c3 := by rw [hC]; exact hc3
  have e3 : l.length + 24 = C.length := hcl.symm
  obtain ⟨gi, hgi⟩ : ∃ g, g = w3.heap.size := ⟨_, rfl⟩
  rw [← hgi] at HI5
  obtain ⟨inf0, hi0, _, hsz, _⟩ := info_parts info5
  obtain ⟨A8, h81, h82, h83⟩ := print_drop_of (P := Try.prog) (Value.int .u8) 0 23 5 .i64 Try.underlying23 hi0 hsz A3 c3 C 8 (by decide) (by omega) hc3'
  obtain ⟨A16, h161, h162, h163⟩ := print_drop_of (P := Try.prog) (Value.int .u8) 0 23 5 .i64 Try.underlying23 hi0 hsz A3 c3 C 16 (by decide) (by omega) hc3'
  have HG0 := Lib.hid (show ∀ w', ReadsInt w' .u8 A3 C.length C → Calls Try.prog 23 #[.slice A3 C.length c3, .int .i64 8] w' fun e w'' => e = .returned (.int .u64 I0) ∧ Fr (fun _ => False) w' w'' from
    fun w' h => by rw [PA.out.1]; exact rget8 C A3 c3 w' h HCB.out (by omega))
  have HG8 := Lib.hid (show ∀ w', ReadsInt w' .u8 A3 C.length C → Calls Try.prog 23 #[.slice A8 (C.length - 8) (c3 - 8), .int .i64 8] w' fun e w'' => e = .returned (.int .u64 I1) ∧ Fr (fun _ => False) w' w'' from
    fun w' h => by rw [PA.out.2.1]; have g := rget8 (C.drop 8) A8 (c3 - 8) w' (h82 w' h) (drop_bytes HCB.out 8) (by rw [List.length_drop]; omega); rw [List.length_drop] at g; exact g)
  have HG16 := Lib.hid (show ∀ w', ReadsInt w' .u8 A3 C.length C → Calls Try.prog 23 #[.slice A16 (C.length - 16) (c3 - 16), .int .i64 8] w' fun e w'' => e = .returned (.int .u64 I2) ∧ Fr (fun _ => False) w' w'' from
    fun w' h => by rw [PA.out.2.2]; have g := rget8 (C.drop 16) A16 (c3 - 16) w' (h162 w' h) (drop_bytes HCB.out 16) (by rw [List.length_drop]; omega); rw [List.length_drop] at g; exact g)
  have HGA := Lib.hid (show ∀ A' c' w', ReadsInt w' .u8 A' E.length E → E.length ≤ c' → Calls Try.prog 17 #[.slice A' E.length c'] w' fun e w'' => e = .returned (.agg #[.int .u64 h, .int .u64 f, .int .u64 m]) ∧ Fr (fun _ => False) w' w'' from
    fun A' c' w' hr hc => by have g := getaction_any A' c' E w' hr hc HEN.out.2.2.2.2; rw [HA0.out.1, HA0.out.2.1, HA0.out.2.2] at g; exact g)
  have HSA := Lib.hid (show ∀ (L : List Int) A' c' B' d' w' w'', ReadsInt w' .u8 A' L.length L → Fr (fun _ => False) w' w'' → ReadsInt w'' .u8 B' L.length L → Calls Try.prog 10 #[.slice A' L.length c', .slice B' L.length d'] w'' fun e w3 => e = .returned (.bool true) ∧ Fr (fun _ => False) w'' w3 from
    fun L A' c' B' d' w' w'' h1 h2 h3 => (same_any A' B' c' d' L L w'' (C_of (reads_fr h1 h2 (fun _ _ _ => id))) (C_of h3)).mono fun _ _ h => ⟨by rw [h.1, decide_eq_true (rfl : L = L)], Fr.drawn h.2⟩)
  have h81 : ∀ W : World, (Instr.slice 23 (.slice A3 C.length c3) (some (.int .i64 8)) none none).run Try.prog W = .ok (.slice A8 (C.length - 8) (c3 - 8)) W := fun W => by rw [← List.length_drop]; exact h81 W
  have h161 : ∀ W : World, (Instr.slice 23 (.slice A3 C.length c3) (some (.int .i64 16)) none none).run Try.prog W = .ok (.slice A16 (C.length - 16) (c3 - 16)) W := fun W => by rw [← List.length_drop]; exact h161 W
  have ea1 := eq_action h f m
  have ea2 := eq_action I0 I1 I2
  have es1 := eq_stack 0 0
  have es2 := eq_stack Y1 Y2
  have eb : (YO == YO) = true := beq_self_eq_true _
  clear h82 h83 h162 h163 hsz hi0
  rw [e3, ← hgz, ← hgi]
  have HSS := Lib.hid (show SS w (w3.alloc (.cells #[.int .u64 I0, .int .u64 I1, .int .u64 I2] 33)) ga gb gx gw gy gz gi h f m a s 0 0 0 0 Y1 Y2 I0 I1 I2 A3 C from ⟨HF5.out, HS5.out, HZ5.out, HI5.out, HR5.out⟩)
  clear HF5 HS5 HZ5 HI5 HR5 hC e3 hgz hgi hcl
  generalize w3.alloc (.cells #[.int .u64 I0, .int .u64 I1, .int .u64 I2] 33) = wr at *
  have hss := HSS.out
  clear HSS
  simp only [List.append_eq, List.cons_append, List.nil_append]
  refine wp_region_noPanic ?_
  refine wp_region_held_drew (S := (fun w' => SS w w' ga gb gx gw gy gz gi h f m a s 0 0 0 0 Y1 Y2 I0 I1 I2 A3 C ∧
    w'.cell? ⟨ga, 0, none⟩ = some (.int .u64 h) ∧ w'.cell? ⟨ga, 1, none⟩ = some (.int .u64 f) ∧ w'.cell? ⟨ga, 2, none⟩ = some (.int .u64 m) ∧
    w'.cell? ⟨gb, 0, none⟩ = some (.int .u64 a) ∧ w'.cell? ⟨gb, 1, none⟩ = some (.int .u64 s) ∧
    w'.cell? ⟨gx, 0, none⟩ = some (.int .u64 0) ∧ w'.cell? ⟨gx, 1, none⟩ = some (.int .u64 0) ∧
    w'.cell? ⟨gw, 0, none⟩ = some (.int .u64 0) ∧ w'.cell? ⟨gw, 1, none⟩ = some (.int .u64 0) ∧
    w'.cell? ⟨gy, 0, none⟩ = some (.int .u64 Y1) ∧ w'.cell? ⟨gy, 1, none⟩ = some (.int .u64 Y2) ∧
    w'.cell? ⟨gz, 0, none⟩ = some (.int .u64 Y1) ∧ w'.cell? ⟨gz, 1, none⟩ = some (.int .u64 Y2) ∧
    w'.cell? ⟨gi, 0, none⟩ = some (.int .u64 I0) ∧ w'.cell? ⟨gi, 1, none⟩ = some (.int .u64 I1) ∧ w'.cell? ⟨gi, 2, none⟩ = some (.int .u64 I2))) (by kernel_rfl) ?_ (fun hHeld => ?_)
  · exact SS.all (SS.fr0 hss ((Fr.refl _ _).drew))
  clear hss
  refine wpAnyH_ready (rs := [0]) (by kernel_rfl) (by simp) ?_
  refine AllReadyH.cons (o := { dst := some 49, op := Go.Op.call { callee := Go.Callee.value (Go.Operand.func 9), args := #[], argTypes := #[] }, type := 4, pos := "law.go:73", after := #[], guard := none }) rfl (fun K' hK' => ?_) AllReadyH.nil
  go_simp
  go_at_call 9; (with_reducible refine (answers_any _).mono ?_); rintro e w100 ⟨rfl, hf⟩
  have hS1 := SS.all (SS.fr0 hHeld.1 hf)
  clear hHeld
  clear hf
  refine hK'.out _ _ hS1 (fun hHeld => ?_)
  clear hK' K' hS1
  try simp only [Act.put, List.setIfInBounds_toArray, List.set_cons_zero, List.set_cons_succ]
  refine wpAnyH_take (i := 1) (oi := { dst := some 50, op := Go.Op.move (Go.Operand.tmp 49), type := 4, pos := "law.go:73", after := #[{ on := 0, ground := Go.Ground.data }, { on := 0, ground := Go.Ground.chain }], guard := none }) (v := ?_) rfl (by kernel_rfl) (by kernel_rfl) (by kernel_rfl) (fun _ _ _ h => h) (Or.inl ⟨by rfl, ?_⟩) (by assumption) ?_
  rotate_left
  · (intro w hSw; (try dsimp only at hSw); go_simp; first | done | (with_reducible rfl))
  try simp only [Act.put, List.setIfInBounds_toArray, List.set_cons_zero, List.set_cons_succ]
  refine wpAnyH_take (i := 2) (oi := { dst := some 51, op := Go.Op.load 33 (Go.Operand.tmp 4), type := 33, pos := "law.go:73", after := #[{ on := 1, ground := Go.Ground.guard }], guard := some (1, true) }) (v := ?_) rfl (by kernel_rfl) (by kernel_rfl) (by kernel_rfl) (fun _ _ _ h => h) (Or.inl ⟨by rfl, ?_⟩) (by assumption) ?_
  rotate_left
  · (intro w hSw; (try dsimp only at hSw); go_simp; first | done | (with_reducible rfl))
  try simp only [Act.put, List.setIfInBounds_toArray, List.set_cons_zero, List.set_cons_succ]
  refine wpAnyH_take (i := 4) (oi := { dst := some 53, op := Go.Op.load 33 (Go.Operand.tmp 4), type := 33, pos := "law.go:73", after := #[{ on := 1, ground := Go.Ground.guard }], guard := some (1, true) }) (v := ?_) rfl (by kernel_rfl) (by kernel_rfl) (by kernel_rfl) (fun _ _ _ h => h) (Or.inl ⟨by rfl, ?_⟩) (by assumption) ?_
  rotate_left
  · (intro w hSw; (try dsimp only at hSw); go_simp; first | done | (with_reducible rfl))
  try simp only [Act.put, List.setIfInBounds_toArray, List.set_cons_zero, List.set_cons_succ]
  refine wpAnyH_ready (rs := [3]) (by kernel_rfl) (by simp) ?_
  refine AllReadyH.cons (o := { dst := some 52, op := Go.Op.call { callee := Go.Callee.value (Go.Operand.func 18), args := #[Go.Operand.tmp 51], argTypes := #[33] }, type := 23, pos := "law.go:73", after := #[{ on := 2, ground := Go.Ground.data }, { on := 1, ground := Go.Ground.chain }, { on := 1, ground := Go.Ground.guard }], guard := some (1, true) }) rfl (fun K' hK' => ?_) AllReadyH.nil
  go_simp
  go_at_call 18; (with_reducible refine (HAC.out _).mono ?_); rintro e w103 ⟨v103, rfl, ho, hf⟩; obtain ⟨A103, c103, rfl, hc103, hr103⟩ := ho.slice; clear ho
  have hS1 := SS.all (SS.fr0 hHeld.1 hf)
  clear hHeld
  clear hf
  refine hK'.out _ _ hS1 (fun hHeld => ?_)
  clear hK' K' hS1
  try simp only [Act.put, List.setIfInBounds_toArray, List.set_cons_zero, List.set_cons_succ]
  refine wpAnyH_ready (rs := [5]) (by kernel_rfl) (by simp) ?_
  refine AllReadyH.cons (o := { dst := some 54, op := Go.Op.call { callee := Go.Callee.value (Go.Operand.func 19), args := #[Go.Operand.tmp 53], argTypes := #[33] }, type := 23, pos := "law.go:73", after := #[{ on := 4, ground := Go.Ground.data }, { on := 3, ground := Go.Ground.chain }, { on := 1, ground := Go.Ground.guard }], guard := some (1, true) }) rfl (fun K' hK' => ?_) AllReadyH.nil
  go_simp
  go_at_call 19; (with_reducible refine (HRA.out _).mono ?_); rintro e w105 ⟨v105, rfl, ho, hf⟩; obtain ⟨A105, c105, rfl, hc105, hr105⟩ := ho.slice; clear ho
  have hS1 := SS.all (SS.fr0 hHeld.1 hf)
  clear hHeld
  have hf105 := hf
  clear hf
  refine hK'.out _ _ hS1 (fun hHeld => ?_)
  clear hK' K' hS1
  try simp only [Act.put, List.setIfInBounds_toArray, List.set_cons_zero, List.set_cons_succ]
  refine wpAnyH_ready (rs := [6]) (by kernel_rfl) (by simp) ?_
  refine AllReadyH.cons (o := { dst := some 55, op := Go.Op.call { callee := Go.Callee.value (Go.Operand.func 10), args := #[Go.Operand.tmp 52, Go.Operand.tmp 54], argTypes := #[23, 23] }, type := 4, pos := "law.go:73", after := #[{ on := 3, ground := Go.Ground.data }, { on := 5, ground := Go.Ground.data }, { on := 5, ground := Go.Ground.chain }, { on := 1, ground := Go.Ground.guard }], guard := some (1, true) }) rfl (fun K' hK' => ?_) AllReadyH.nil
  go_simp
  go_at_call 10; (with_reducible refine (HSA.out E _ _ _ _ _ _ hr103 hf105 hr105).mono ?_); rintro e w106 ⟨rfl, hf⟩
  have hS1 := SS.all (SS.fr0 hHeld.1 hf)
  clear hHeld
  clear hf
  refine hK'.out _ _ hS1 (fun hHeld => ?_)
  clear hK' K' hS1
  try simp only [Act.put, List.setIfInBounds_toArray, List.set_cons_zero, List.set_cons_succ]
  refine wpAnyH_take (i := 7) (oi := { dst := some 56, op := Go.Op.pick (Go.Operand.tmp 50) (Go.Operand.tmp 55) (Go.Operand.const (Go.Value.bool false)), type := 4, pos := "law.go:73", after := #[{ on := 1, ground := Go.Ground.data }, { on := 6, ground := Go.Ground.data }], guard := none }) (v := ?_) rfl (by kernel_rfl) (by kernel_rfl) (by kernel_rfl) (fun _ _ _ h => h) (Or.inl ⟨by rfl, ?_⟩) (by assumption) ?_
  rotate_left
  · (intro w hSw; (try dsimp only at hSw); go_simp; first | done | (with_reducible rfl))
  try simp only [Act.put, List.setIfInBounds_toArray, List.set_cons_zero, List.set_cons_succ]
  refine wpAnyH_take (i := 8) (oi := { dst := some 57, op := Go.Op.move (Go.Operand.tmp 56), type := 4, pos := "law.go:73", after := #[{ on := 7, ground := Go.Ground.data }, { on := 6, ground := Go.Ground.chain }], guard := none }) (v := ?_) rfl (by kernel_rfl) (by kernel_rfl) (by kernel_rfl) (fun _ _ _ h => h) (Or.inl ⟨by rfl, ?_⟩) (by assumption) ?_
  rotate_left
  · (intro w hSw; (try dsimp only at hSw); go_simp; first | done | (with_reducible rfl))
  try simp only [Act.put, List.setIfInBounds_toArray, List.set_cons_zero, List.set_cons_succ]
  refine wpAnyH_take (i := 9) (oi := { dst := some 58, op := Go.Op.load 33 (Go.Operand.tmp 4), type := 33, pos := "law.go:73", after := #[{ on := 8, ground := Go.Ground.guard }], guard := some (8, true) }) (v := ?_) rfl (by kernel_rfl) (by kernel_rfl) (by kernel_rfl) (fun _ _ _ h => h) (Or.inl ⟨by rfl, ?_⟩) (by assumption) ?_
  rotate_left
  · (intro w hSw; (try dsimp only at hSw); go_simp; first | done | (with_reducible rfl))
  try simp only [Act.put, List.setIfInBounds_toArray, List.set_cons_zero, List.set_cons_succ]
  refine wpAnyH_take (i := 12) (oi := { dst := some 61, op := Go.Op.load 33 (Go.Operand.tmp 4), type := 33, pos := "law.go:73", after := #[{ on := 8, ground := Go.Ground.guard }], guard := some (8, true) }) (v := ?_) rfl (by kernel_rfl) (by kernel_rfl) (by kernel_rfl) (fun _ _ _ h => h) (Or.inl ⟨by rfl, ?_⟩) (by assumption) ?_
  rotate_left
  · (intro w hSw; (try dsimp only at hSw); go_simp; first | done | (with_reducible rfl))
  try simp only [Act.put, List.setIfInBounds_toArray, List.set_cons_zero, List.set_cons_succ]
  refine wpAnyH_ready (rs := [10]) (by kernel_rfl) (by simp) ?_
  refine AllReadyH.cons (o := { dst := some 59, op := Go.Op.call { callee := Go.Callee.value (Go.Operand.func 18), args := #[Go.Operand.tmp 58], argTypes := #[33] }, type := 23, pos := "law.go:73", after := #[{ on := 9, ground := Go.Ground.data }, { on := 8, ground := Go.Ground.chain }, { on := 8, ground := Go.Ground.guard }], guard := some (8, true) }) rfl (fun K' hK' => ?_) AllReadyH.nil
  go_simp
  go_at_call 18; (with_reducible refine (HAC.out _).mono ?_); rintro e w110 ⟨v110, rfl, ho, hf⟩; obtain ⟨A110, c110, rfl, hc110, hr110⟩ := ho.slice; clear ho
  have hS1 := SS.all (SS.fr0 hHeld.1 hf)
  clear hHeld
  clear hf
  refine hK'.out _ _ hS1 (fun hHeld => ?_)
  clear hK' K' hS1
  try simp only [Act.put, List.setIfInBounds_toArray, List.set_cons_zero, List.set_cons_succ]
  refine wpAnyH_ready (rs := [11]) (by kernel_rfl) (by simp) ?_
  refine AllReadyH.cons (o := { dst := some 60, op := Go.Op.call { callee := Go.Callee.value (Go.Operand.func 17), args := #[Go.Operand.tmp 59], argTypes := #[23] }, type := 33, pos := "law.go:73", after := #[{ on := 10, ground := Go.Ground.data }, { on := 10, ground := Go.Ground.chain }, { on := 8, ground := Go.Ground.guard }], guard := some (8, true) }) rfl (fun K' hK' => ?_) AllReadyH.nil
  go_simp
  go_at_call 17; (with_reducible refine (HGA.out _ _ _ hr110 hc110).mono ?_); rintro e w111 ⟨rfl, hf⟩
  have hS1 := SS.all (SS.fr0 hHeld.1 hf)
  clear hHeld
  clear hf
  refine hK'.out _ _ hS1 (fun hHeld => ?_)
  clear hK' K' hS1
  try simp only [Act.put, List.setIfInBounds_toArray, List.set_cons_zero, List.set_cons_succ]
  refine wpAnyH_take (i := 13) (oi := { dst := some 62, op := Go.Op.binOp Go.BinOp.eql 33 (Go.Operand.tmp 60) (Go.Operand.tmp 61) 33, type := 4, pos := "law.go:73", after := #[{ on := 11, ground := Go.Ground.data }, { on := 12, ground := Go.Ground.data }, { on := 8, ground := Go.Ground.guard }], guard := some (8, true) }) (v := ?_) rfl (by kernel_rfl) (by kernel_rfl) (by kernel_rfl) (fun _ _ _ h => h) (Or.inl ⟨by rfl, ?_⟩) (by assumption) ?_
  rotate_left
  · (intro w hSw; (try dsimp only at hSw); go_simp; first | done | (with_reducible rfl))
  try simp only [Act.put, List.setIfInBounds_toArray, List.set_cons_zero, List.set_cons_succ]
  refine wpAnyH_take (i := 14) (oi := { dst := some 63, op := Go.Op.pick (Go.Operand.tmp 57) (Go.Operand.tmp 62) (Go.Operand.const (Go.Value.bool false)), type := 4, pos := "law.go:73", after := #[{ on := 8, ground := Go.Ground.data }, { on := 13, ground := Go.Ground.data }], guard := none }) (v := ?_) rfl (by kernel_rfl) (by kernel_rfl) (by kernel_rfl) (fun _ _ _ h => h) (Or.inl ⟨by rfl, ?_⟩) (by assumption) ?_
  rotate_left
  · (intro w hSw; (try dsimp only at hSw); go_simp; first | done | (with_reducible rfl))
  try simp only [Act.put, List.setIfInBounds_toArray, List.set_cons_zero, List.set_cons_succ]
  refine wpAnyH_take (i := 15) (oi := { dst := some 64, op := Go.Op.move (Go.Operand.tmp 63), type := 4, pos := "law.go:73", after := #[{ on := 14, ground := Go.Ground.data }, { on := 11, ground := Go.Ground.chain }], guard := none }) (v := ?_) rfl (by kernel_rfl) (by kernel_rfl) (by kernel_rfl) (fun _ _ _ h => h) (Or.inl ⟨by rfl, ?_⟩) (by assumption) ?_
  rotate_left
  · (intro w hSw; (try dsimp only at hSw); go_simp; first | done | (with_reducible rfl))
  try simp only [Act.put, List.setIfInBounds_toArray, List.set_cons_zero, List.set_cons_succ]
  refine wpAnyH_take (i := 16) (oi := { dst := some 65, op := Go.Op.load 35 (Go.Operand.tmp 5), type := 35, pos := "law.go:73", after := #[{ on := 15, ground := Go.Ground.guard }], guard := some (15, true) }) (v := ?_) rfl (by kernel_rfl) (by kernel_rfl) (by kernel_rfl) (fun _ _ _ h => h) (Or.inl ⟨by rfl, ?_⟩) (by assumption) ?_
  rotate_left
  · (intro w hSw; (try dsimp only at hSw); go_simp; first | done | (with_reducible rfl))
  try simp only [Act.put, List.setIfInBounds_toArray, List.set_cons_zero, List.set_cons_succ]
  refine wpAnyH_take (i := 18) (oi := { dst := some 67, op := Go.Op.load 35 (Go.Operand.tmp 5), type := 35, pos := "law.go:73", after := #[{ on := 15, ground := Go.Ground.guard }], guard := some (15, true) }) (v := ?_) rfl (by kernel_rfl) (by kernel_rfl) (by kernel_rfl) (fun _ _ _ h => h) (Or.inl ⟨by rfl, ?_⟩) (by assumption) ?_
  rotate_left
  · (intro w hSw; (try dsimp only at hSw); go_simp; first | done | (with_reducible rfl))
  try simp only [Act.put, List.setIfInBounds_toArray, List.set_cons_zero, List.set_cons_succ]
  refine wpAnyH_ready (rs := [17]) (by kernel_rfl) (by simp) ?_
  refine AllReadyH.cons (o := { dst := some 66, op := Go.Op.call { callee := Go.Callee.value (Go.Operand.func 15), args := #[Go.Operand.tmp 65], argTypes := #[35] }, type := 23, pos := "law.go:73", after := #[{ on := 16, ground := Go.Ground.data }, { on := 15, ground := Go.Ground.chain }, { on := 15, ground := Go.Ground.guard }], guard := some (15, true) }) rfl (fun K' hK' => ?_) AllReadyH.nil
  go_simp
  go_at_call 15; (with_reducible refine (HSK.out _).mono ?_); rintro e w117 ⟨v117, rfl, ho, hf⟩; obtain ⟨A117, c117, rfl, hc117, hr117⟩ := ho.slice; clear ho
  have hS1 := SS.all (SS.fr0 hHeld.1 hf)
  clear hHeld
  clear hf
  refine hK'.out _ _ hS1 (fun hHeld => ?_)
  clear hK' K' hS1
  try simp only [Act.put, List.setIfInBounds_toArray, List.set_cons_zero, List.set_cons_succ]
  refine wpAnyH_ready (rs := [19]) (by kernel_rfl) (by simp) ?_
  refine AllReadyH.cons (o := { dst := some 68, op := Go.Op.call { callee := Go.Callee.value (Go.Operand.func 20), args := #[Go.Operand.tmp 67], argTypes := #[35] }, type := 23, pos := "law.go:73", after := #[{ on := 18, ground := Go.Ground.data }, { on := 17, ground := Go.Ground.chain }, { on := 15, ground := Go.Ground.guard }], guard := some (15, true) }) rfl (fun K' hK' => ?_) AllReadyH.nil
  go_simp
  go_at_call 20; (with_reducible refine (HRS.out _).mono ?_); rintro e w119 ⟨v119, rfl, ho, hf⟩; obtain ⟨A119, c119, rfl, hc119, hr119⟩ := ho.slice; clear ho
  have hS1 := SS.all (SS.fr0 hHeld.1 hf)
  clear hHeld
  have hf119 := hf
  clear hf
  refine hK'.out _ _ hS1 (fun hHeld => ?_)
  clear hK' K' hS1
  try simp only [Act.put, List.setIfInBounds_toArray, List.set_cons_zero, List.set_cons_succ]
  refine wpAnyH_ready (rs := [20]) (by kernel_rfl) (by simp) ?_
  refine AllReadyH.cons (o := { dst := some 69, op := Go.Op.call { callee := Go.Callee.value (Go.Operand.func 10), args := #[Go.Operand.tmp 66, Go.Operand.tmp 68], argTypes := #[23, 23] }, type := 4, pos := "law.go:73", after := #[{ on := 17, ground := Go.Ground.data }, { on := 19, ground := Go.Ground.data }, { on := 19, ground := Go.Ground.chain }, { on := 15, ground := Go.Ground.guard }], guard := some (15, true) }) rfl (fun K' hK' => ?_) AllReadyH.nil
  go_simp
  go_at_call 10; (with_reducible refine (HSA.out K _ _ _ _ _ _ hr117 hf119 hr119).mono ?_); rintro e w120 ⟨rfl, hf⟩
  have hS1 := SS.all (SS.fr0 hHeld.1 hf)
  clear hHeld
  clear hf
  refine hK'.out _ _ hS1 (fun hHeld => ?_)
  clear hK' K' hS1
  try simp only [Act.put, List.setIfInBounds_toArray, List.set_cons_zero, List.set_cons_succ]
  refine wpAnyH_take (i := 21) (oi := { dst := some 70, op := Go.Op.pick (Go.Operand.tmp 64) (Go.Operand.tmp 69) (Go.Operand.const (Go.Value.bool false)), type := 4, pos := "law.go:73", after := #[{ on := 15, ground := Go.Ground.data }, { on := 20, ground := Go.Ground.data }], guard := none }) (v := ?_) rfl (by kernel_rfl) (by kernel_rfl) (by kernel_rfl) (fun _ _ _ h => h) (Or.inl ⟨by rfl, ?_⟩) (by assumption) ?_
  rotate_left
  · (intro w hSw; (try dsimp only at hSw); go_simp; first | done | (with_reducible rfl))
  try simp only [Act.put, List.setIfInBounds_toArray, List.set_cons_zero, List.set_cons_succ]
  refine wpAnyH_take (i := 22) (oi := { dst := some 71, op := Go.Op.move (Go.Operand.tmp 70), type := 4, pos := "law.go:73", after := #[{ on := 21, ground := Go.Ground.data }, { on := 20, ground := Go.Ground.chain }], guard := none }) (v := ?_) rfl (by kernel_rfl) (by kernel_rfl) (by kernel_rfl) (fun _ _ _ h => h) (Or.inl ⟨by rfl, ?_⟩) (by assumption) ?_
  rotate_left
  · (intro w hSw; (try dsimp only at hSw); go_simp; first | done | (with_reducible rfl))
  try simp only [Act.put, List.setIfInBounds_toArray, List.set_cons_zero, List.set_cons_succ]
  refine wpAnyH_take (i := 23) (oi := { dst := some 72, op := Go.Op.move (Go.Operand.tmp 10), type := 4, pos := "law.go:73", after := #[{ on := 22, ground := Go.Ground.guard }], guard := some (22, true) }) (v := ?_) rfl (by kernel_rfl) (by kernel_rfl) (by kernel_rfl) (fun _ _ _ h => h) (Or.inl ⟨by rfl, ?_⟩) (by assumption) ?_
  rotate_left
  · (intro w hSw; (try dsimp only at hSw); go_simp; first | done | (with_reducible rfl))
  try simp only [Act.put, List.setIfInBounds_toArray, List.set_cons_zero, List.set_cons_succ]
  refine wpAnyH_take (i := 24) (oi := { dst := some 73, op := Go.Op.fieldAddr 35 (Go.Operand.tmp 5) 1, type := 0, pos := "law.go:73", after := #[{ on := 22, ground := Go.Ground.guard }], guard := some (22, true) }) (v := ?_) rfl (by kernel_rfl) (by kernel_rfl) (by kernel_rfl) (fun _ _ _ h => h) (Or.inl ⟨by rfl, ?_⟩) (by assumption) ?_
  rotate_left
  · (intro w hSw; (try dsimp only at hSw); go_simp; first | done | (with_reducible rfl))
  try simp only [Act.put, List.setIfInBounds_toArray, List.set_cons_zero, List.set_cons_succ]
  refine wpAnyH_take (i := 25) (oi := { dst := some 74, op := Go.Op.load 31 (Go.Operand.tmp 73), type := 31, pos := "law.go:73", after := #[{ on := 24, ground := Go.Ground.data }, { on := 22, ground := Go.Ground.guard }], guard := some (22, true) }) (v := ?_) rfl (by kernel_rfl) (by kernel_rfl) (by kernel_rfl) (fun _ _ _ h => h) (Or.inl ⟨by rfl, ?_⟩) (by assumption) ?_
  rotate_left
  · (intro w hSw; (try dsimp only at hSw); go_simp; first | done | (with_reducible rfl))
  try simp only [Act.put, List.setIfInBounds_toArray, List.set_cons_zero, List.set_cons_succ]
  refine wpAnyH_take (i := 26) (oi := { dst := some 75, op := Go.Op.binOp Go.BinOp.eql 31 (Go.Operand.tmp 74) (Go.Operand.const (Go.Value.int Go.IntKind.u64 0)) 31, type := 4, pos := "law.go:73", after := #[{ on := 25, ground := Go.Ground.data }, { on := 22, ground := Go.Ground.guard }], guard := some (22, true) }) (v := ?_) rfl (by kernel_rfl) (by kernel_rfl) (by kernel_rfl) (fun _ _ _ h => h) (Or.inl ⟨by rfl, ?_⟩) (by assumption) ?_
  rotate_left
  · (intro w hSw; (try dsimp only at hSw); go_simp; first | done | (with_reducible rfl))
  try simp only [Act.put, List.setIfInBounds_toArray, List.set_cons_zero, List.set_cons_succ]
  refine wpAnyH_take (i := 27) (oi := { dst := some 76, op := Go.Op.move (Go.Operand.tmp 75), type := 4, pos := "law.go:73", after := #[{ on := 26, ground := Go.Ground.data }, { on := 22, ground := Go.Ground.chain }, { on := 22, ground := Go.Ground.guard }], guard := some (22, true) }) (v := ?_) rfl (by kernel_rfl) (by kernel_rfl) (by kernel_rfl) (fun _ _ _ h => h) (Or.inl ⟨by rfl, ?_⟩) (by assumption) ?_
  rotate_left
  · (intro w hSw; (try dsimp only at hSw); go_simp; first | done | (with_reducible rfl))
  try simp only [Act.put, List.setIfInBounds_toArray, List.set_cons_zero, List.set_cons_succ]
  refine wpAnyH_take (i := 28) (oi := { dst := some 77, op := Go.Op.fieldAddr 35 (Go.Operand.tmp 5) 1, type := 0, pos := "law.go:73", after := #[{ on := 27, ground := Go.Ground.guard }], guard := some (27, false) }) (v := undef) rfl (by kernel_rfl) (by kernel_rfl) (by kernel_rfl) (fun _ _ _ h => h) (Or.inr ⟨by rfl, rfl⟩) (by assumption) ?_
  try simp only [Act.put, List.setIfInBounds_toArray, List.set_cons_zero, List.set_cons_succ]
  refine wpAnyH_take (i := 29) (oi := { dst := some 78, op := Go.Op.load 31 (Go.Operand.tmp 77), type := 31, pos := "law.go:73", after := #[{ on := 28, ground := Go.Ground.data }, { on := 27, ground := Go.Ground.guard }], guard := some (27, false) }) (v := undef) rfl (by kernel_rfl) (by kernel_rfl) (by kernel_rfl) (fun _ _ _ h => h) (Or.inr ⟨by rfl, rfl⟩) (by assumption) ?_
  try simp only [Act.put, List.setIfInBounds_toArray, List.set_cons_zero, List.set_cons_succ]
  refine wpAnyH_take (i := 30) (oi := { dst := some 79, op := Go.Op.binOp Go.BinOp.geq 31 (Go.Operand.tmp 78) (Go.Operand.const (Go.Value.int Go.IntKind.u64 2048)) 31, type := 4, pos := "law.go:73", after := #[{ on := 29, ground := Go.Ground.data }, { on := 27, ground := Go.Ground.guard }], guard := some (27, false) }) (v := undef) rfl (by kernel_rfl) (by kernel_rfl) (by kernel_rfl) (fun _ _ _ h => h) (Or.inr ⟨by rfl, rfl⟩) (by assumption) ?_
  try simp only [Act.put, List.setIfInBounds_toArray, List.set_cons_zero, List.set_cons_succ]
  refine wpAnyH_take (i := 31) (oi := { dst := some 80, op := Go.Op.pick (Go.Operand.tmp 76) (Go.Operand.const (Go.Value.bool true)) (Go.Operand.tmp 79), type := 4, pos := "law.go:73", after := #[{ on := 27, ground := Go.Ground.data }, { on := 30, ground := Go.Ground.data }, { on := 22, ground := Go.Ground.guard }], guard := some (22, true) }) (v := ?_) rfl (by kernel_rfl) (by kernel_rfl) (by kernel_rfl) (fun _ _ _ h => h) (Or.inl ⟨by rfl, ?_⟩) (by assumption) ?_
  rotate_left
  · (intro w hSw; (try dsimp only at hSw); go_simp; first | done | (with_reducible rfl))
  try simp only [Act.put, List.setIfInBounds_toArray, List.set_cons_zero, List.set_cons_succ]
  refine wpAnyH_take (i := 32) (oi := { dst := some 81, op := Go.Op.binOp Go.BinOp.eql 4 (Go.Operand.tmp 72) (Go.Operand.tmp 80) 4, type := 4, pos := "law.go:73", after := #[{ on := 23, ground := Go.Ground.data }, { on := 31, ground := Go.Ground.data }, { on := 22, ground := Go.Ground.guard }], guard := some (22, true) }) (v := ?_) rfl (by kernel_rfl) (by kernel_rfl) (by kernel_rfl) (fun _ _ _ h => h) (Or.inl ⟨by rfl, ?_⟩) (by assumption) ?_
  rotate_left
  · (intro w hSw; (try dsimp only at hSw); go_simp; first | done | (with_reducible rfl))
  try simp only [Act.put, List.setIfInBounds_toArray, List.set_cons_zero, List.set_cons_succ]
  refine wpAnyH_take (i := 33) (oi := { dst := some 82, op := Go.Op.pick (Go.Operand.tmp 71) (Go.Operand.tmp 81) (Go.Operand.const (Go.Value.bool false)), type := 4, pos := "law.go:73", after := #[{ on := 22, ground := Go.Ground.data }, { on := 32, ground := Go.Ground.data }], guard := none }) (v := ?_) rfl (by kernel_rfl) (by kernel_rfl) (by kernel_rfl) (fun _ _ _ h => h) (Or.inl ⟨by rfl, ?_⟩) (by assumption) ?_
  rotate_left
  · (intro w hSw; (try dsimp only at hSw); go_simp; first | done | (with_reducible rfl))
  try simp only [Act.put, List.setIfInBounds_toArray, List.set_cons_zero, List.set_cons_succ]
  refine wpAnyH_take (i := 34) (oi := { dst := some 83, op := Go.Op.move (Go.Operand.tmp 82), type := 4, pos := "law.go:73", after := #[{ on := 33, ground := Go.Ground.data }, { on := 27, ground := Go.Ground.chain }], guard := none }) (v := ?_) rfl (by kernel_rfl) (by kernel_rfl) (by kernel_rfl) (fun _ _ _ h => h) (Or.inl ⟨by rfl, ?_⟩) (by assumption) ?_
  rotate_left
  · (intro w hSw; (try dsimp only at hSw); go_simp; first | done | (with_reducible rfl))
  try simp only [Act.put, List.setIfInBounds_toArray, List.set_cons_zero, List.set_cons_succ]
  refine wpAnyH_take (i := 35) (oi := { dst := some 84, op := Go.Op.move (Go.Operand.tmp 10), type := 4, pos := "law.go:73", after := #[{ on := 34, ground := Go.Ground.guard }], guard := some (34, true) }) (v := ?_) rfl (by kernel_rfl) (by kernel_rfl) (by kernel_rfl) (fun _ _ _ h => h) (Or.inl ⟨by rfl, ?_⟩) (by assumption) ?_
  rotate_left
  · (intro w hSw; (try dsimp only at hSw); go_simp; first | done | (with_reducible rfl))
  try simp only [Act.put, List.setIfInBounds_toArray, List.set_cons_zero, List.set_cons_succ]
  refine wpAnyH_take (i := 36) (oi := { dst := some 85, op := Go.Op.unOp Go.UnOp.not 4 (Go.Operand.tmp 84), type := 4, pos := "law.go:73", after := #[{ on := 35, ground := Go.Ground.data }, { on := 34, ground := Go.Ground.guard }], guard := some (34, true) }) (v := ?_) rfl (by kernel_rfl) (by kernel_rfl) (by kernel_rfl) (fun _ _ _ h => h) (Or.inl ⟨by rfl, ?_⟩) (by assumption) ?_
  rotate_left
  · (intro w hSw; (try dsimp only at hSw); go_simp; first | done | (with_reducible rfl))
  try simp only [Act.put, List.setIfInBounds_toArray, List.set_cons_zero, List.set_cons_succ]
  refine wpAnyH_take (i := 37) (oi := { dst := some 86, op := Go.Op.move (Go.Operand.tmp 85), type := 4, pos := "law.go:73", after := #[{ on := 36, ground := Go.Ground.data }, { on := 34, ground := Go.Ground.chain }, { on := 34, ground := Go.Ground.guard }], guard := some (34, true) }) (v := ?_) rfl (by kernel_rfl) (by kernel_rfl) (by kernel_rfl) (fun _ _ _ h => h) (Or.inl ⟨by rfl, ?_⟩) (by assumption) ?_
  rotate_left
  · (intro w hSw; (try dsimp only at hSw); go_simp; first | done | (with_reducible rfl))
  try simp only [Act.put, List.setIfInBounds_toArray, List.set_cons_zero, List.set_cons_succ]
  refine wpAnyH_take (i := 38) (oi := { dst := some 87, op := Go.Op.load 35 (Go.Operand.tmp 9), type := 35, pos := "law.go:73", after := #[{ on := 37, ground := Go.Ground.guard }], guard := some (37, false) }) (v := ?_) rfl (by kernel_rfl) (by kernel_rfl) (by kernel_rfl) (fun _ _ _ h => h) (Or.inl ⟨by rfl, ?_⟩) (by assumption) ?_
  rotate_left
  · (intro w hSw; (try dsimp only at hSw); go_simp; first | done | (with_reducible rfl))
  try simp only [Act.put, List.setIfInBounds_toArray, List.set_cons_zero, List.set_cons_succ]
  refine wpAnyH_take (i := 39) (oi := { dst := some 88, op := Go.Op.load 35 (Go.Operand.tmp 11), type := 35, pos := "law.go:73", after := #[{ on := 37, ground := Go.Ground.guard }], guard := some (37, false) }) (v := ?_) rfl (by kernel_rfl) (by kernel_rfl) (by kernel_rfl) (fun _ _ _ h => h) (Or.inl ⟨by rfl, ?_⟩) (by assumption) ?_
  rotate_left
  · (intro w hSw; (try dsimp only at hSw); go_simp; first | done | (with_reducible rfl))
  try simp only [Act.put, List.setIfInBounds_toArray, List.set_cons_zero, List.set_cons_succ]
  refine wpAnyH_take (i := 40) (oi := { dst := some 89, op := Go.Op.binOp Go.BinOp.eql 35 (Go.Operand.tmp 87) (Go.Operand.tmp 88) 35, type := 4, pos := "law.go:73", after := #[{ on := 38, ground := Go.Ground.data }, { on := 39, ground := Go.Ground.data }, { on := 37, ground := Go.Ground.guard }], guard := some (37, false) }) (v := ?_) rfl (by kernel_rfl) (by kernel_rfl) (by kernel_rfl) (fun _ _ _ h => h) (Or.inl ⟨by rfl, ?_⟩) (by assumption) ?_
  rotate_left
  · (intro w hSw; (try dsimp only at hSw); go_simp; first | done | (with_reducible rfl))
  try simp only [Act.put, List.setIfInBounds_toArray, List.set_cons_zero, List.set_cons_succ]
  refine wpAnyH_take (i := 41) (oi := { dst := some 90, op := Go.Op.pick (Go.Operand.tmp 86) (Go.Operand.const (Go.Value.bool true)) (Go.Operand.tmp 89), type := 4, pos := "law.go:73", after := #[{ on := 37, ground := Go.Ground.data }, { on := 40, ground := Go.Ground.data }, { on := 34, ground := Go.Ground.guard }], guard := some (34, true) }) (v := ?_) rfl (by kernel_rfl) (by kernel_rfl) (by kernel_rfl) (fun _ _ _ h => h) (Or.inl ⟨by rfl, ?_⟩) (by assumption) ?_
  rotate_left
  · (intro w hSw; (try dsimp only at hSw); go_simp; first | done | (with_reducible rfl))
  try simp only [Act.put, List.setIfInBounds_toArray, List.set_cons_zero, List.set_cons_succ]
  refine wpAnyH_take (i := 42) (oi := { dst := some 91, op := Go.Op.pick (Go.Operand.tmp 83) (Go.Operand.tmp 90) (Go.Operand.const (Go.Value.bool false)), type := 4, pos := "law.go:73", after := #[{ on := 34, ground := Go.Ground.data }, { on := 41, ground := Go.Ground.data }], guard := none }) (v := ?_) rfl (by kernel_rfl) (by kernel_rfl) (by kernel_rfl) (fun _ _ _ h => h) (Or.inl ⟨by rfl, ?_⟩) (by assumption) ?_
  rotate_left
  · (intro w hSw; (try dsimp only at hSw); go_simp; first | done | (with_reducible rfl))
  try simp only [Act.put, List.setIfInBounds_toArray, List.set_cons_zero, List.set_cons_succ]
  refine wpAnyH_take (i := 43) (oi := { dst := some 92, op := Go.Op.move (Go.Operand.tmp 91), type := 4, pos := "law.go:73", after := #[{ on := 42, ground := Go.Ground.data }, { on := 37, ground := Go.Ground.chain }], guard := none }) (v := ?_) rfl (by kernel_rfl) (by kernel_rfl) (by kernel_rfl) (fun _ _ _ h => h) (Or.inl ⟨by rfl, ?_⟩) (by assumption) ?_
  rotate_left
  · (intro w hSw; (try dsimp only at hSw); go_simp; first | done | (with_reducible rfl))
  try simp only [Act.put, List.setIfInBounds_toArray, List.set_cons_zero, List.set_cons_succ]
  refine wpAnyH_take (i := 44) (oi := { dst := some 93, op := Go.Op.load 35 (Go.Operand.tmp 12), type := 35, pos := "law.go:73", after := #[{ on := 43, ground := Go.Ground.guard }], guard := some (43, true) }) (v := ?_) rfl (by kernel_rfl) (by kernel_rfl) (by kernel_rfl) (fun _ _ _ h => h) (Or.inl ⟨by rfl, ?_⟩) (by assumption) ?_
  rotate_left
  · (intro w hSw; (try dsimp only at hSw); go_simp; first | done | (with_reducible rfl))
  try simp only [Act.put, List.setIfInBounds_toArray, List.set_cons_zero, List.set_cons_succ]
  refine wpAnyH_take (i := 45) (oi := { dst := some 94, op := Go.Op.load 35 (Go.Operand.tmp 14), type := 35, pos := "law.go:73", after := #[{ on := 43, ground := Go.Ground.guard }], guard := some (43, true) }) (v := ?_) rfl (by kernel_rfl) (by kernel_rfl) (by kernel_rfl) (fun _ _ _ h => h) (Or.inl ⟨by rfl, ?_⟩) (by assumption) ?_
  rotate_left
  · (intro w hSw; (try dsimp only at hSw); go_simp; first | done | (with_reducible rfl))
  try simp only [Act.put, List.setIfInBounds_toArray, List.set_cons_zero, List.set_cons_succ]
  refine wpAnyH_take (i := 46) (oi := { dst := some 95, op := Go.Op.binOp Go.BinOp.eql 35 (Go.Operand.tmp 93) (Go.Operand.tmp 94) 35, type := 4, pos := "law.go:73", after := #[{ on := 44, ground := Go.Ground.data }, { on := 45, ground := Go.Ground.data }, { on := 43, ground := Go.Ground.guard }], guard := some (43, true) }) (v := ?_) rfl (by kernel_rfl) (by kernel_rfl) (by kernel_rfl) (fun _ _ _ h => h) (Or.inl ⟨by rfl, ?_⟩) (by assumption) ?_
  rotate_left
  · (intro w hSw; (try dsimp only at hSw); go_simp; first | done | (with_reducible rfl))
  try simp only [Act.put, List.setIfInBounds_toArray, List.set_cons_zero, List.set_cons_succ]
  refine wpAnyH_take (i := 47) (oi := { dst := some 96, op := Go.Op.pick (Go.Operand.tmp 92) (Go.Operand.tmp 95) (Go.Operand.const (Go.Value.bool false)), type := 4, pos := "law.go:73", after := #[{ on := 43, ground := Go.Ground.data }, { on := 46, ground := Go.Ground.data }], guard := none }) (v := ?_) rfl (by kernel_rfl) (by kernel_rfl) (by kernel_rfl) (fun _ _ _ h => h) (Or.inl ⟨by rfl, ?_⟩) (by assumption) ?_
  rotate_left
  · (intro w hSw; (try dsimp only at hSw); go_simp; first | done | (with_reducible rfl))
  try simp only [Act.put, List.setIfInBounds_toArray, List.set_cons_zero, List.set_cons_succ]
  refine wpAnyH_take (i := 48) (oi := { dst := some 97, op := Go.Op.move (Go.Operand.tmp 96), type := 4, pos := "law.go:73", after := #[{ on := 47, ground := Go.Ground.data }, { on := 43, ground := Go.Ground.chain }], guard := none }) (v := ?_) rfl (by kernel_rfl) (by kernel_rfl) (by kernel_rfl) (fun _ _ _ h => h) (Or.inl ⟨by rfl, ?_⟩) (by assumption) ?_
  rotate_left
  · (intro w hSw; (try dsimp only at hSw); go_simp; first | done | (with_reducible rfl))
  try simp only [Act.put, List.setIfInBounds_toArray, List.set_cons_zero, List.set_cons_succ]
  refine wpAnyH_take (i := 49) (oi := { dst := some 98, op := Go.Op.move (Go.Operand.tmp 13), type := 4, pos := "law.go:73", after := #[{ on := 48, ground := Go.Ground.guard }], guard := some (48, true) }) (v := ?_) rfl (by kernel_rfl) (by kernel_rfl) (by kernel_rfl) (fun _ _ _ h => h) (Or.inl ⟨by rfl, ?_⟩) (by assumption) ?_
  rotate_left
  · (intro w hSw; (try dsimp only at hSw); go_simp; first | done | (with_reducible rfl))
  try simp only [Act.put, List.setIfInBounds_toArray, List.set_cons_zero, List.set_cons_succ]
  refine wpAnyH_take (i := 50) (oi := { dst := some 99, op := Go.Op.move (Go.Operand.tmp 15), type := 4, pos := "law.go:73", after := #[{ on := 48, ground := Go.Ground.guard }], guard := some (48, true) }) (v := ?_) rfl (by kernel_rfl) (by kernel_rfl) (by kernel_rfl) (fun _ _ _ h => h) (Or.inl ⟨by rfl, ?_⟩) (by assumption) ?_
  rotate_left
  · (intro w hSw; (try dsimp only at hSw); go_simp; first | done | (with_reducible rfl))
  try simp only [Act.put, List.setIfInBounds_toArray, List.set_cons_zero, List.set_cons_succ]
  refine wpAnyH_take (i := 51) (oi := { dst := some 100, op := Go.Op.binOp Go.BinOp.eql 4 (Go.Operand.tmp 98) (Go.Operand.tmp 99) 4, type := 4, pos := "law.go:73", after := #[{ on := 49, ground := Go.Ground.data }, { on := 50, ground := Go.Ground.data }, { on := 48, ground := Go.Ground.guard }], guard := some (48, true) }) (v := ?_) rfl (by kernel_rfl) (by kernel_rfl) (by kernel_rfl) (fun _ _ _ h => h) (Or.inl ⟨by rfl, ?_⟩) (by assumption) ?_
  rotate_left
  · (intro w hSw; (try dsimp only at hSw); go_simp; first | done | (with_reducible rfl))
  try simp only [Act.put, List.setIfInBounds_toArray, List.set_cons_zero, List.set_cons_succ]
  refine wpAnyH_take (i := 52) (oi := { dst := some 101, op := Go.Op.pick (Go.Operand.tmp 97) (Go.Operand.tmp 100) (Go.Operand.const (Go.Value.bool false)), type := 4, pos := "law.go:73", after := #[{ on := 48, ground := Go.Ground.data }, { on := 51, ground := Go.Ground.data }], guard := none }) (v := ?_) rfl (by kernel_rfl) (by kernel_rfl) (by kernel_rfl) (fun _ _ _ h => h) (Or.inl ⟨by rfl, ?_⟩) (by assumption) ?_
  rotate_left
  · (intro w hSw; (try dsimp only at hSw); go_simp; first | done | (with_reducible rfl))
  try simp only [Act.put, List.setIfInBounds_toArray, List.set_cons_zero, List.set_cons_succ]
  refine wpAnyH_take (i := 53) (oi := { dst := some 102, op := Go.Op.move (Go.Operand.tmp 101), type := 4, pos := "law.go:73", after := #[{ on := 52, ground := Go.Ground.data }, { on := 48, ground := Go.Ground.chain }], guard := none }) (v := ?_) rfl (by kernel_rfl) (by kernel_rfl) (by kernel_rfl) (fun _ _ _ h => h) (Or.inl ⟨by rfl, ?_⟩) (by assumption) ?_
  rotate_left
  · (intro w hSw; (try dsimp only at hSw); go_simp; first | done | (with_reducible rfl))
  try simp only [Act.put, List.setIfInBounds_toArray, List.set_cons_zero, List.set_cons_succ]
  refine wpAnyH_take (i := 54) (oi := { dst := some 103, op := Go.Op.move (Go.Operand.tmp 2), type := 22, pos := "law.go:73", after := #[{ on := 53, ground := Go.Ground.guard }], guard := some (53, true) }) (v := ?_) rfl (by kernel_rfl) (by kernel_rfl) (by kernel_rfl) (fun _ _ _ h => h) (Or.inl ⟨by rfl, ?_⟩) (by assumption) ?_
  rotate_left
  · (intro w hSw; (try dsimp only at hSw); go_simp; first | done | (with_reducible rfl))
  try simp only [Act.put, List.setIfInBounds_toArray, List.set_cons_zero, List.set_cons_succ]
  refine wpAnyH_take (i := 55) (oi := { dst := some 104, op := Go.Op.convert 22 3 (Go.Operand.tmp 103), type := 3, pos := "law.go:73", after := #[{ on := 54, ground := Go.Ground.data }, { on := 53, ground := Go.Ground.guard }], guard := some (53, true) }) (v := ?_) rfl (by kernel_rfl) (by kernel_rfl) (by kernel_rfl) (fun _ _ _ h => h) (Or.inl ⟨by rfl, ?_⟩) (by assumption) ?_
  rotate_left
  · (intro w hSw; (try dsimp only at hSw); go_simp; first | done | (with_reducible rfl))
  try simp only [Act.put, List.setIfInBounds_toArray, List.set_cons_zero, List.set_cons_succ]
  refine wpAnyH_take (i := 57) (oi := { dst := some 106, op := Go.Op.move (Go.Operand.tmp 2), type := 22, pos := "law.go:73", after := #[{ on := 53, ground := Go.Ground.guard }], guard := some (53, true) }) (v := ?_) rfl (by kernel_rfl) (by kernel_rfl) (by kernel_rfl) (fun _ _ _ h => h) (Or.inl ⟨by rfl, ?_⟩) (by assumption) ?_
  rotate_left
  · (intro w hSw; (try dsimp only at hSw); go_simp; first | done | (with_reducible rfl))
  try simp only [Act.put, List.setIfInBounds_toArray, List.set_cons_zero, List.set_cons_succ]
  refine wpAnyH_take (i := 58) (oi := { dst := some 107, op := Go.Op.convert 22 31 (Go.Operand.tmp 106), type := 31, pos := "law.go:73", after := #[{ on := 57, ground := Go.Ground.data }, { on := 53, ground := Go.Ground.guard }], guard := some (53, true) }) (v := ?_) rfl (by kernel_rfl) (by kernel_rfl) (by kernel_rfl) (fun _ _ _ h => h) (Or.inl ⟨by rfl, ?_⟩) (by assumption) ?_
  rotate_left
  · (intro w hSw; (try dsimp only at hSw); go_simp; first | done | (with_reducible rfl))
  try simp only [Act.put, List.setIfInBounds_toArray, List.set_cons_zero, List.set_cons_succ]
  refine wpAnyH_take (i := 59) (oi := { dst := some 108, op := Go.Op.move (Go.Operand.tmp 2), type := 22, pos := "law.go:73", after := #[{ on := 53, ground := Go.Ground.guard }], guard := some (53, true) }) (v := ?_) rfl (by kernel_rfl) (by kernel_rfl) (by kernel_rfl) (fun _ _ _ h => h) (Or.inl ⟨by rfl, ?_⟩) (by assumption) ?_
  rotate_left
  · (intro w hSw; (try dsimp only at hSw); go_simp; first | done | (with_reducible rfl))
  try simp only [Act.put, List.setIfInBounds_toArray, List.set_cons_zero, List.set_cons_succ]
  refine wpAnyH_take (i := 60) (oi := { dst := some 109, op := Go.Op.convert 22 31 (Go.Operand.tmp 108), type := 31, pos := "law.go:73", after := #[{ on := 59, ground := Go.Ground.data }, { on := 53, ground := Go.Ground.guard }], guard := some (53, true) }) (v := ?_) rfl (by kernel_rfl) (by kernel_rfl) (by kernel_rfl) (fun _ _ _ h => h) (Or.inl ⟨by rfl, ?_⟩) (by assumption) ?_
  rotate_left
  · (intro w hSw; (try dsimp only at hSw); go_simp; first | done | (with_reducible rfl))
  try simp only [Act.put, List.setIfInBounds_toArray, List.set_cons_zero, List.set_cons_succ]
  refine wpAnyH_ready (rs := [56]) (by kernel_rfl) (by simp) ?_
  refine AllReadyH.cons (o := { dst := some 105, op := Go.Op.call { callee := Go.Callee.value (Go.Operand.func 21), args := #[Go.Operand.tmp 104], argTypes := #[3] }, type := 23, pos := "law.go:73", after := #[{ on := 55, ground := Go.Ground.data }, { on := 53, ground := Go.Ground.chain }, { on := 53, ground := Go.Ground.guard }], guard := some (53, true) }) rfl (fun K' hK' => ?_) AllReadyH.nil
  go_simp
  go_at_call 21; (with_reducible refine (HLI.out _).mono ?_); rintro e w156 ⟨v156, rfl, ho, hf⟩; obtain ⟨A156, c156, rfl, hc156, hr156⟩ := ho.slice; clear ho
  have hS1 := SS.all (SS.fr0 hHeld.1 hf)
  clear hHeld
  clear hf
  refine hK'.out _ _ hS1 (fun hHeld => ?_)
  clear hK' K' hS1
  try simp only [Act.put, List.setIfInBounds_toArray, List.set_cons_zero, List.set_cons_succ]
  refine wpAnyH_ready (rs := [61]) (by kernel_rfl) (by simp) ?_
  refine AllReadyH.cons (o := { dst := some 110, op := Go.Op.call { callee := Go.Callee.value (Go.Operand.func 22), args := #[Go.Operand.tmp 107, Go.Operand.tmp 109], argTypes := #[31, 31] }, type := 23, pos := "law.go:73", after := #[{ on := 58, ground := Go.Ground.data }, { on := 60, ground := Go.Ground.data }, { on := 56, ground := Go.Ground.chain }, { on := 53, ground := Go.Ground.guard }], guard := some (53, true) }) rfl (fun K' hK' => ?_) AllReadyH.nil
  go_simp
  go_at_call 22; (with_reducible refine (HTW.out _).mono ?_); rintro e w161 ⟨v161, rfl, ho, hf⟩; obtain ⟨A161, c161, rfl, hc161, hr161⟩ := ho.slice; clear ho
  have hS1 := SS.all (SS.fr0 hHeld.1 hf)
  clear hHeld
  have hf161 := hf
  clear hf
  refine hK'.out _ _ hS1 (fun hHeld => ?_)
  clear hK' K' hS1
  try simp only [Act.put, List.setIfInBounds_toArray, List.set_cons_zero, List.set_cons_succ]
  refine wpAnyH_ready (rs := [62]) (by kernel_rfl) (by simp) ?_
  refine AllReadyH.cons (o := { dst := some 111, op := Go.Op.call { callee := Go.Callee.value (Go.Operand.func 10), args := #[Go.Operand.tmp 105, Go.Operand.tmp 110], argTypes := #[23, 23] }, type := 4, pos := "law.go:73", after := #[{ on := 56, ground := Go.Ground.data }, { on := 61, ground := Go.Ground.data }, { on := 61, ground := Go.Ground.chain }, { on := 53, ground := Go.Ground.guard }], guard := some (53, true) }) rfl (fun K' hK' => ?_) AllReadyH.nil
  go_simp
  go_at_call 10; (with_reducible refine (HSA.out NN _ _ _ _ _ _ hr156 hf161 hr161).mono ?_); rintro e w162 ⟨rfl, hf⟩
  have hS1 := SS.all (SS.fr0 hHeld.1 hf)
  clear hHeld
  clear hf
  refine hK'.out _ _ hS1 (fun hHeld => ?_)
  clear hK' K' hS1
  try simp only [Act.put, List.setIfInBounds_toArray, List.set_cons_zero, List.set_cons_succ]
  refine wpAnyH_take (i := 63) (oi := { dst := some 112, op := Go.Op.pick (Go.Operand.tmp 102) (Go.Operand.tmp 111) (Go.Operand.const (Go.Value.bool false)), type := 4, pos := "law.go:73", after := #[{ on := 53, ground := Go.Ground.data }, { on := 62, ground := Go.Ground.data }], guard := none }) (v := ?_) rfl (by kernel_rfl) (by kernel_rfl) (by kernel_rfl) (fun _ _ _ h => h) (Or.inl ⟨by rfl, ?_⟩) (by assumption) ?_
  rotate_left
  · (intro w hSw; (try dsimp only at hSw); go_simp; first | done | (with_reducible rfl))
  try simp only [Act.put, List.setIfInBounds_toArray, List.set_cons_zero, List.set_cons_succ]
  refine wpAnyH_take (i := 64) (oi := { dst := some 113, op := Go.Op.move (Go.Operand.tmp 112), type := 4, pos := "law.go:73", after := #[{ on := 63, ground := Go.Ground.data }, { on := 62, ground := Go.Ground.chain }], guard := none }) (v := ?_) rfl (by kernel_rfl) (by kernel_rfl) (by kernel_rfl) (fun _ _ _ h => h) (Or.inl ⟨by rfl, ?_⟩) (by assumption) ?_
  rotate_left
  · (intro w hSw; (try dsimp only at hSw); go_simp; first | done | (with_reducible rfl))
  try simp only [Act.put, List.setIfInBounds_toArray, List.set_cons_zero, List.set_cons_succ]
  refine wpAnyH_take (i := 65) (oi := { dst := some 114, op := Go.Op.load 33 (Go.Operand.tmp 17), type := 33, pos := "law.go:73", after := #[{ on := 64, ground := Go.Ground.guard }], guard := some (64, true) }) (v := ?_) rfl (by kernel_rfl) (by kernel_rfl) (by kernel_rfl) (fun _ _ _ h => h) (Or.inl ⟨by rfl, ?_⟩) (by assumption) ?_
  rotate_left
  · (intro w hSw; (try dsimp only at hSw); go_simp; first | done | (with_reducible rfl))
  try simp only [Act.put, List.setIfInBounds_toArray, List.set_cons_zero, List.set_cons_succ]
  refine wpAnyH_take (i := 66) (oi := { dst := some 115, op := Go.Op.move (Go.Operand.tmp 16), type := 23, pos := "law.go:73", after := #[{ on := 64, ground := Go.Ground.guard }], guard := some (64, true) }) (v := ?_) rfl (by kernel_rfl) (by kernel_rfl) (by kernel_rfl) (fun _ _ _ h => h) (Or.inl ⟨by rfl, ?_⟩) (by assumption) ?_
  rotate_left
  · (intro w hSw; (try dsimp only at hSw); go_simp; first | done | (with_reducible rfl))
  try simp only [Act.put, List.setIfInBounds_toArray, List.set_cons_zero, List.set_cons_succ]
  refine wpAnyH_take (i := 68) (oi := { dst := some 117, op := Go.Op.move (Go.Operand.tmp 16), type := 23, pos := "law.go:73", after := #[{ on := 64, ground := Go.Ground.guard }], guard := some (64, true) }) (v := ?_) rfl (by kernel_rfl) (by kernel_rfl) (by kernel_rfl) (fun _ _ _ h => h) (Or.inl ⟨by rfl, ?_⟩) (by assumption) ?_
  rotate_left
  · (intro w hSw; (try dsimp only at hSw); go_simp; first | done | (with_reducible rfl))
  try simp only [Act.put, List.setIfInBounds_toArray, List.set_cons_zero, List.set_cons_succ]
  refine wpAnyH_take (i := 69) (oi := { dst := some 118, op := Go.Op.slice 23 (Go.Operand.tmp 117) (some (Go.Operand.const (Go.Value.int Go.IntKind.i64 8))) none none, type := 23, pos := "law.go:73", after := #[{ on := 68, ground := Go.Ground.data }, { on := 64, ground := Go.Ground.guard }], guard := some (64, true) }) (v := ?_) rfl (by kernel_rfl) (by kernel_rfl) (by kernel_rfl) (fun _ _ _ h => h) (Or.inl ⟨by rfl, ?_⟩) (by assumption) ?_
  rotate_left
  · (intro w hSw; (try dsimp only at hSw); go_simp; first | done | (with_reducible rfl))
  try simp only [Act.put, List.setIfInBounds_toArray, List.set_cons_zero, List.set_cons_succ]
  refine wpAnyH_take (i := 71) (oi := { dst := some 120, op := Go.Op.move (Go.Operand.tmp 16), type := 23, pos := "law.go:73", after := #[{ on := 64, ground := Go.Ground.guard }], guard := some (64, true) }) (v := ?_) rfl (by kernel_rfl) (by kernel_rfl) (by kernel_rfl) (fun _ _ _ h => h) (Or.inl ⟨by rfl, ?_⟩) (by assumption) ?_
  rotate_left
  · (intro w hSw; (try dsimp only at hSw); go_simp; first | done | (with_reducible rfl))
  try simp only [Act.put, List.setIfInBounds_toArray, List.set_cons_zero, List.set_cons_succ]
  refine wpAnyH_take (i := 72) (oi := { dst := some 121, op := Go.Op.slice 23 (Go.Operand.tmp 120) (some (Go.Operand.const (Go.Value.int Go.IntKind.i64 16))) none none, type := 23, pos := "law.go:73", after := #[{ on := 71, ground := Go.Ground.data }, { on := 64, ground := Go.Ground.guard }], guard := some (64, true) }) (v := ?_) rfl (by kernel_rfl) (by kernel_rfl) (by kernel_rfl) (fun _ _ _ h => h) (Or.inl ⟨by rfl, ?_⟩) (by assumption) ?_
  rotate_left
  · (intro w hSw; (try dsimp only at hSw); go_simp; first | done | (with_reducible rfl))
  try simp only [Act.put, List.setIfInBounds_toArray, List.set_cons_zero, List.set_cons_succ]
  refine wpAnyH_ready (rs := [67]) (by kernel_rfl) (by simp) ?_
  refine AllReadyH.cons (o := { dst := some 116, op := Go.Op.call { callee := Go.Callee.value (Go.Operand.func 23), args := #[Go.Operand.tmp 115, Go.Operand.const (Go.Value.int Go.IntKind.i64 8)], argTypes := #[23, 3] }, type := 31, pos := "law.go:73", after := #[{ on := 66, ground := Go.Ground.data }, { on := 64, ground := Go.Ground.chain }, { on := 64, ground := Go.Ground.guard }], guard := some (64, true) }) rfl (fun K' hK' => ?_) AllReadyH.nil
  go_simp
  go_at_call 23; (with_reducible refine (HG0.out _ hHeld.1.r).mono ?_); rintro e w167 ⟨rfl, hf⟩
  have hS1 := SS.all (SS.fr0 hHeld.1 hf)
  clear hHeld
  clear hf
  refine hK'.out _ _ hS1 (fun hHeld => ?_)
  clear hK' K' hS1
  try simp only [Act.put, List.setIfInBounds_toArray, List.set_cons_zero, List.set_cons_succ]
  refine wpAnyH_ready (rs := [70]) (by kernel_rfl) (by simp) ?_
  refine AllReadyH.cons (o := { dst := some 119, op := Go.Op.call { callee := Go.Callee.value (Go.Operand.func 23), args := #[Go.Operand.tmp 118, Go.Operand.const (Go.Value.int Go.IntKind.i64 8)], argTypes := #[23, 3] }, type := 31, pos := "law.go:73", after := #[{ on := 69, ground := Go.Ground.data }, { on := 67, ground := Go.Ground.chain }, { on := 64, ground := Go.Ground.guard }], guard := some (64, true) }) rfl (fun K' hK' => ?_) AllReadyH.nil
  go_simp
  go_at_call 23; (with_reducible refine (HG8.out _ hHeld.1.r).mono ?_); rintro e w170 ⟨rfl, hf⟩
  have hS1 := SS.all (SS.fr0 hHeld.1 hf)
  clear hHeld
  clear hf
  refine hK'.out _ _ hS1 (fun hHeld => ?_)
  clear hK' K' hS1
  try simp only [Act.put, List.setIfInBounds_toArray, List.set_cons_zero, List.set_cons_succ]
  refine wpAnyH_ready (rs := [73]) (by kernel_rfl) (by simp) ?_
  refine AllReadyH.cons (o := { dst := some 122, op := Go.Op.call { callee := Go.Callee.value (Go.Operand.func 23), args := #[Go.Operand.tmp 121, Go.Operand.const (Go.Value.int Go.IntKind.i64 8)], argTypes := #[23, 3] }, type := 31, pos := "law.go:73", after := #[{ on := 72, ground := Go.Ground.data }, { on := 70, ground := Go.Ground.chain }, { on := 64, ground := Go.Ground.guard }], guard := some (64, true) }) rfl (fun K' hK' => ?_) AllReadyH.nil
  go_simp
  go_at_call 23; (with_reducible refine (HG16.out _ hHeld.1.r).mono ?_); rintro e w173 ⟨rfl, hf⟩
  have hS1 := SS.all (SS.fr0 hHeld.1 hf)
  clear hHeld
  clear hf
  refine hK'.out _ _ hS1 (fun hHeld => ?_)
  clear hK' K' hS1
  try simp only [Act.put, List.setIfInBounds_toArray, List.set_cons_zero, List.set_cons_succ]
  refine wpAnyH_take (i := 74) (oi := { dst := some 123, op := Go.Op.build 33 #[(0, Go.Operand.tmp 116), (1, Go.Operand.tmp 119), (2, Go.Operand.tmp 122)], type := 33, pos := "law.go:73", after := #[{ on := 67, ground := Go.Ground.data }, { on := 70, ground := Go.Ground.data }, { on := 73, ground := Go.Ground.data }, { on := 64, ground := Go.Ground.guard }], guard := some (64, true) }) (v := ?_) rfl (by kernel_rfl) (by kernel_rfl) (by kernel_rfl) (fun _ _ _ h => h) (Or.inl ⟨by rfl, ?_⟩) (by assumption) ?_
  rotate_left
  · (intro w hSw; (try dsimp only at hSw); go_simp; first | done | (with_reducible rfl))
  try simp only [Act.put, List.setIfInBounds_toArray, List.set_cons_zero, List.set_cons_succ]
  refine wpAnyH_take (i := 75) (oi := { dst := some 124, op := Go.Op.binOp Go.BinOp.eql 33 (Go.Operand.tmp 114) (Go.Operand.tmp 123) 33, type := 4, pos := "law.go:73", after := #[{ on := 65, ground := Go.Ground.data }, { on := 74, ground := Go.Ground.data }, { on := 64, ground := Go.Ground.guard }], guard := some (64, true) }) (v := ?_) rfl (by kernel_rfl) (by kernel_rfl) (by kernel_rfl) (fun _ _ _ h => h) (Or.inl ⟨by rfl, ?_⟩) (by assumption) ?_
  rotate_left
  · (intro w hSw; (try dsimp only at hSw); go_simp; first | done | (with_reducible rfl))
  try simp only [Act.put, List.setIfInBounds_toArray, List.set_cons_zero, List.set_cons_succ]
  refine wpAnyH_take (i := 76) (oi := { dst := some 125, op := Go.Op.pick (Go.Operand.tmp 113) (Go.Operand.tmp 124) (Go.Operand.const (Go.Value.bool false)), type := 4, pos := "law.go:73", after := #[{ on := 64, ground := Go.Ground.data }, { on := 75, ground := Go.Ground.data }], guard := none }) (v := ?_) rfl (by kernel_rfl) (by kernel_rfl) (by kernel_rfl) (fun _ _ _ h => h) (Or.inl ⟨by rfl, ?_⟩) (by assumption) ?_
  rotate_left
  · (intro w hSw; (try dsimp only at hSw); go_simp; first | done | (with_reducible rfl))
  try simp only [Act.put, List.setIfInBounds_toArray, List.set_cons_zero, List.set_cons_succ]
  refine wpAnyH_take (i := 77) (oi := _) (v := ?_) rfl (by kernel_rfl) (by kernel_rfl) (by kernel_rfl) (fun _ _ _ h => h) (Or.inl ⟨by rfl, ?_⟩) (by assumption) ?_
  rotate_left
  · (intro w hSw; (try dsimp only at hSw); go_simp; first | done | (with_reducible rfl))
  try simp only [Act.put, List.setIfInBounds_toArray, List.set_cons_zero, List.set_cons_succ]
  refine wpAnyH_done (by kernel_rfl) ?_ _
  refine NoPanic.normal ?_
  have hss := hHeld.1
  clear hHeld
  go_wp2_with fail
  go_ret
  exact ⟨rfl, hss.fr⟩
end Go.Proofs.Ytbblamabipabeaa.Mar
