/- The law InstBack, walked. No further condition. -/
import Derived.Test.YtnopppamfleniaaEncF
import Derived.Test.YtnopppamfleniaaEncS
import Derived.Test.YtnopppamfleniaaInsU
namespace Go.Proofs.Ytnopppamfleniaa.Ins
open Go Go.RowKit Go.Proofs.YtnopppamfleniaaW.PrintWords Go.Proofs.YtnopppamfleniaaW.PrintLast Go.Proofs.YtnopppamfleniaaW.PrintMore
open Go.Proofs.Ytnopppamfleniaa.Hp Go.Proofs.Ytnopppamfleniaa.Bv
attribute [local go_sem] max2_int min2_int max_two min_two max_three min_three max_four min_four
set_option linter.unusedVariables false
set_option linter.unusedSimpArgs false
theorem bk_none (x0 x1 x2 x3 x4 x5 x6 : Int) (h : Nat) (hh : h < 4294967296) (hd : decP h = ((x0, x1, x2, x3, x4, x5, x6), false)) (w : World) : Calls Try.prog 7 #[.int .u32 (h : Int)] w fun e w' => e = .returned (.bool true) ∧ Fr (fun _ => False) w w' := by
  have HD := Lib.hid (show ∀ W, Calls Try.prog 10 #[.int .u32 ((h : Nat) : Int)] W fun e w' => e = .returned (.tuple #[.agg #[.int .i64 x0, .int .i64 x1, .int .i64 x2, .int .i64 x3, .int .i64 x4, .int .i64 x5, .int .i64 x6], .bool false]) ∧ Fr (fun _ => False) W w' from fun W => by have e := rdec_any h hh W; rw [← dec_same, hd] at e; exact e)
  clear hd
  go_enter Try.func7, Try.ntmps7
  go_wp2_with fail
  refine (HD.out _).mono ?_
  rintro e w2 ⟨rfl, hf⟩
  have HI := Lib.hid (Blk.new w2 24 #[.int .i64 x0, .int .i64 x1, .int .i64 x2, .int .i64 x3, .int .i64 x4, .int .i64 x5, .int .i64 x6])
  have HF := Lib.hid (hf.alloc (.cells #[.int .i64 x0, .int .i64 x1, .int .i64 x2, .int .i64 x3, .int .i64 x4, .int .i64 x5, .int .i64 x6] 24))
  clear hf
  go_wp2_with fail
  refine (answers_any _).mono ?_
  rintro e w3 ⟨rfl, hf⟩
  have HI := Lib.hid (HI.out.fr hf id)
  have HF := Lib.hid (HF.out.trans hf (fun _ _ => id))
  clear hf
  go_wp2_with fail
  go_ret
  exact ⟨rfl, HF.out⟩
set_option maxHeartbeats 1000000 in
theorem bk_0 (x1 x2 x3 x4 x5 x6 : Int) (h : Nat) (hh : h < 4294967296) (hd : decP h = ((85, x1, x2, x3, x4, x5, x6), true)) (he : EncE (85, x1, x2, x3, x4, x5, x6) = (267386895, true)) (hv : decP 267386895 = ((85, x1, x2, x3, x4, x5, x6), true)) (w : World) : Calls Try.prog 7 #[.int .u32 (h : Int)] w fun e w' => e = .returned (.bool true) ∧ Fr (fun _ => False) w w' := by
  have HD := Lib.hid (show ∀ W, Calls Try.prog 10 #[.int .u32 ((h : Nat) : Int)] W fun e w' => e = .returned (.tuple #[.agg #[.int .i64 85, .int .i64 x1, .int .i64 x2, .int .i64 x3, .int .i64 x4, .int .i64 x5, .int .i64 x6], .bool true]) ∧ Fr (fun _ => False) W w' from fun W => by have e := rdec_any h hh W; rw [← dec_same, hd] at e; exact e)
  have HE := Lib.hid (show ∀ W, Calls Try.prog 12 #[.agg #[.int .i64 85, .int .i64 x1, .int .i64 x2, .int .i64 x3, .int .i64 x4, .int .i64 x5, .int .i64 x6]] W fun e w' => e = .returned (.tuple #[.int .u32 267386895, .bool true]) ∧ Fr (fun _ => False) W w' from fun W => by have e := Encode_any 85 x1 x2 x3 x4 x5 x6 W; rw [he] at e; exact e)
  have HS := Lib.hid (show ∀ W, Calls Try.prog 13 #[.agg #[.int .i64 85, .int .i64 x1, .int .i64 x2, .int .i64 x3, .int .i64 x4, .int .i64 x5, .int .i64 x6]] W fun e w' => e = .returned (.bool true) ∧ Fr (fun _ => False) W w' from fun W => by have e := Sound_any 85 x1 x2 x3 x4 x5 x6 W; rw [he] at e; exact e)
  have HV := Lib.hid (show ∀ W, Calls Try.prog 9 #[.int .u32 267386895] W fun e w' => e = .returned (.tuple #[.agg #[.int .i64 85, .int .i64 x1, .int .i64 x2, .int .i64 x3, .int .i64 x4, .int .i64 x5, .int .i64 x6], .bool true]) ∧ Fr (fun _ => False) W w' from fun W => by have e := dec_any 267386895 (by decide) W; rw [hv] at e; exact e)
  have hq := eqin_yes (show ((85, x1, x2, x3, x4, x5, x6) : I7) = (85, x1, x2, x3, x4, x5, x6) from rfl)
  clear hd he hv
  go_enter Try.func7, Try.ntmps7
  go_wp2_with fail
  refine (HD.out _).mono ?_
  rintro e w2 ⟨rfl, hf⟩
  have HI := Lib.hid (Blk.new w2 24 #[.int .i64 85, .int .i64 x1, .int .i64 x2, .int .i64 x3, .int .i64 x4, .int .i64 x5, .int .i64 x6])
  have HF := Lib.hid (hf.alloc (.cells #[.int .i64 85, .int .i64 x1, .int .i64 x2, .int .i64 x3, .int .i64 x4, .int .i64 x5, .int .i64 x6] 24))
  clear hf
  go_wp2_with fail
  refine (HE.out _).mono ?_
  rintro e w3 ⟨rfl, hf⟩
  have HI := Lib.hid (HI.out.fr hf id)
  have HF := Lib.hid (HF.out.trans hf (fun _ _ => id))
  clear hf
  go_wp2_with fail
  refine (HV.out _).mono ?_
  rintro e w4 ⟨rfl, hf⟩
  have HI := Lib.hid (HI.out.fr hf id)
  have HF := Lib.hid (HF.out.trans hf (fun _ _ => id))
  clear hf
  have HI := Lib.hid (HI.out.alloc (.cells #[.int .i64 85, .int .i64 x1, .int .i64 x2, .int .i64 x3, .int .i64 x4, .int .i64 x5, .int .i64 x6] 24))
  have HF := Lib.hid (HF.out.alloc (.cells #[.int .i64 85, .int .i64 x1, .int .i64 x2, .int .i64 x3, .int .i64 x4, .int .i64 x5, .int .i64 x6] 24))
  have HJ := Lib.hid (Blk.new w4 24 #[.int .i64 85, .int .i64 x1, .int .i64 x2, .int .i64 x3, .int .i64 x4, .int .i64 x5, .int .i64 x6])
  go_wp2_with fail
  refine (answers_any _).mono ?_
  rintro e w5 ⟨rfl, hf⟩
  have HI := Lib.hid (HI.out.fr hf id)
  have HJ := Lib.hid (HJ.out.fr hf id)
  have HF := Lib.hid (HF.out.trans hf (fun _ _ => id))
  clear hf
  obtain ⟨kI0, kI1, kI2, kI3, kI4, kI5, kI6, _, _, _, _, _, _, _⟩ := blkat7 HI.out
  obtain ⟨kJ0, kJ1, kJ2, kJ3, kJ4, kJ5, kJ6, _, _, _, _, _, _, _⟩ := blkat7 HJ.out
  go_wp2_with fail
  clear kI0 kI1 kI2 kI3 kI4 kI5 kI6
  clear kJ0 kJ1 kJ2 kJ3 kJ4 kJ5 kJ6
  refine (HS.out _).mono ?_
  rintro e w6 ⟨rfl, hf⟩
  have HI := Lib.hid (HI.out.fr hf id)
  have HJ := Lib.hid (HJ.out.fr hf id)
  have HF := Lib.hid (HF.out.trans hf (fun _ _ => id))
  clear hf
  obtain ⟨kI0, kI1, kI2, kI3, kI4, kI5, kI6, _, _, _, _, _, _, _⟩ := blkat7 HI.out
  go_wp2_with fail
  go_ret
  exact ⟨by first | rfl | simp, HF.out⟩
set_option maxHeartbeats 1000000 in
theorem bk_1 (x1 x2 x3 x4 x5 x6 : Int) (h : Nat) (hh : h < 4294967296) (hd : decP h = ((86, x1, x2, x3, x4, x5, x6), true)) (he : EncE (86, x1, x2, x3, x4, x5, x6) = (4111, true)) (hv : decP 4111 = ((86, x1, x2, x3, x4, x5, x6), true)) (w : World) : Calls Try.prog 7 #[.int .u32 (h : Int)] w fun e w' => e = .returned (.bool true) ∧ Fr (fun _ => False) w w' := by
  have HD := Lib.hid (show ∀ W, Calls Try.prog 10 #[.int .u32 ((h : Nat) : Int)] W fun e w' => e = .returned (.tuple #[.agg #[.int .i64 86, .int .i64 x1, .int .i64 x2, .int .i64 x3, .int .i64 x4, .int .i64 x5, .int .i64 x6], .bool true]) ∧ Fr (fun _ => False) W w' from fun W => by have e := rdec_any h hh W; rw [← dec_same, hd] at e; exact e)
  have HE := Lib.hid (show ∀ W, Calls Try.prog 12 #[.agg #[.int .i64 86, .int .i64 x1, .int .i64 x2, .int .i64 x3, .int .i64 x4, .int .i64 x5, .int .i64 x6]] W fun e w' => e = .returned (.tuple #[.int .u32 4111, .bool true]) ∧ Fr (fun _ => False) W w' from fun W => by have e := Encode_any 86 x1 x2 x3 x4 x5 x6 W; rw [he] at e; exact e)
  have HS := Lib.hid (show ∀ W, Calls Try.prog 13 #[.agg #[.int .i64 86, .int .i64 x1, .int .i64 x2, .int .i64 x3, .int .i64 x4, .int .i64 x5, .int .i64 x6]] W fun e w' => e = .returned (.bool true) ∧ Fr (fun _ => False) W w' from fun W => by have e := Sound_any 86 x1 x2 x3 x4 x5 x6 W; rw [he] at e; exact e)
  have HV := Lib.hid (show ∀ W, Calls Try.prog 9 #[.int .u32 4111] W fun e w' => e = .returned (.tuple #[.agg #[.int .i64 86, .int .i64 x1, .int .i64 x2, .int .i64 x3, .int .i64 x4, .int .i64 x5, .int .i64 x6], .bool true]) ∧ Fr (fun _ => False) W w' from fun W => by have e := dec_any 4111 (by decide) W; rw [hv] at e; exact e)
  have hq := eqin_yes (show ((86, x1, x2, x3, x4, x5, x6) : I7) = (86, x1, x2, x3, x4, x5, x6) from rfl)
  clear hd he hv
  go_enter Try.func7, Try.ntmps7
  go_wp2_with fail
  refine (HD.out _).mono ?_
  rintro e w2 ⟨rfl, hf⟩
  have HI := Lib.hid (Blk.new w2 24 #[.int .i64 86, .int .i64 x1, .int .i64 x2, .int .i64 x3, .int .i64 x4, .int .i64 x5, .int .i64 x6])
  have HF := Lib.hid (hf.alloc (.cells #[.int .i64 86, .int .i64 x1, .int .i64 x2, .int .i64 x3, .int .i64 x4, .int .i64 x5, .int .i64 x6] 24))
  clear hf
  go_wp2_with fail
  refine (HE.out _).mono ?_
  rintro e w3 ⟨rfl, hf⟩
  have HI := Lib.hid (HI.out.fr hf id)
  have HF := Lib.hid (HF.out.trans hf (fun _ _ => id))
  clear hf
  go_wp2_with fail
  refine (HV.out _).mono ?_
  rintro e w4 ⟨rfl, hf⟩
  have HI := Lib.hid (HI.out.fr hf id)
  have HF := Lib.hid (HF.out.trans hf (fun _ _ => id))
  clear hf
  have HI := Lib.hid (HI.out.alloc (.cells #[.int .i64 86, .int .i64 x1, .int .i64 x2, .int .i64 x3, .int .i64 x4, .int .i64 x5, .int .i64 x6] 24))
  have HF := Lib.hid (HF.out.alloc (.cells #[.int .i64 86, .int .i64 x1, .int .i64 x2, .int .i64 x3, .int .i64 x4, .int .i64 x5, .int .i64 x6] 24))
  have HJ := Lib.hid (Blk.new w4 24 #[.int .i64 86, .int .i64 x1, .int .i64 x2, .int .i64 x3, .int .i64 x4, .int .i64 x5, .int .i64 x6])
  go_wp2_with fail
  refine (answers_any _).mono ?_
  rintro e w5 ⟨rfl, hf⟩
  have HI := Lib.hid (HI.out.fr hf id)
  have HJ := Lib.hid (HJ.out.fr hf id)
  have HF := Lib.hid (HF.out.trans hf (fun _ _ => id))
  clear hf
  obtain ⟨kI0, kI1, kI2, kI3, kI4, kI5, kI6, _, _, _, _, _, _, _⟩ := blkat7 HI.out
  obtain ⟨kJ0, kJ1, kJ2, kJ3, kJ4, kJ5, kJ6, _, _, _, _, _, _, _⟩ := blkat7 HJ.out
  go_wp2_with fail
  clear kI0 kI1 kI2 kI3 kI4 kI5 kI6
  clear kJ0 kJ1 kJ2 kJ3 kJ4 kJ5 kJ6
  refine (HS.out _).mono ?_
  rintro e w6 ⟨rfl, hf⟩
  have HI := Lib.hid (HI.out.fr hf id)
  have HJ := Lib.hid (HJ.out.fr hf id)
  have HF := Lib.hid (HF.out.trans hf (fun _ _ => id))
  clear hf
  obtain ⟨kI0, kI1, kI2, kI3, kI4, kI5, kI6, _, _, _, _, _, _, _⟩ := blkat7 HI.out
  go_wp2_with fail
  go_ret
  exact ⟨by first | rfl | simp, HF.out⟩
set_option maxHeartbeats 1000000 in
theorem bk_2 (x0 x1 x2 x3 x4 x5 x6 : Int) (h : Nat) (hh : h < 4294967296) (hd : decP h = ((x0, x1, x2, x3, x4, x5, x6), true)) (he : EncE (x0, x1, x2, x3, x4, x5, x6) = (h, true)) (hv : decP h = ((x0, x1, x2, x3, x4, x5, x6), true)) (n1 : x0 ≠ 85) (n2 : x0 ≠ 86) (w : World) : Calls Try.prog 7 #[.int .u32 (h : Int)] w fun e w' => e = .returned (.bool true) ∧ Fr (fun _ => False) w w' := by
  have HD := Lib.hid (show ∀ W, Calls Try.prog 10 #[.int .u32 ((h : Nat) : Int)] W fun e w' => e = .returned (.tuple #[.agg #[.int .i64 x0, .int .i64 x1, .int .i64 x2, .int .i64 x3, .int .i64 x4, .int .i64 x5, .int .i64 x6], .bool true]) ∧ Fr (fun _ => False) W w' from fun W => by have e := rdec_any h hh W; rw [← dec_same, hd] at e; exact e)
  have HE := Lib.hid (show ∀ W, Calls Try.prog 12 #[.agg #[.int .i64 x0, .int .i64 x1, .int .i64 x2, .int .i64 x3, .int .i64 x4, .int .i64 x5, .int .i64 x6]] W fun e w' => e = .returned (.tuple #[.int .u32 (h : Int), .bool true]) ∧ Fr (fun _ => False) W w' from fun W => by have e := Encode_any x0 x1 x2 x3 x4 x5 x6 W; rw [he] at e; exact e)
  have HS := Lib.hid (show ∀ W, Calls Try.prog 13 #[.agg #[.int .i64 x0, .int .i64 x1, .int .i64 x2, .int .i64 x3, .int .i64 x4, .int .i64 x5, .int .i64 x6]] W fun e w' => e = .returned (.bool true) ∧ Fr (fun _ => False) W w' from fun W => by have e := Sound_any x0 x1 x2 x3 x4 x5 x6 W; rw [he] at e; exact e)
  have HV := Lib.hid (show ∀ W, Calls Try.prog 9 #[.int .u32 (h : Int)] W fun e w' => e = .returned (.tuple #[.agg #[.int .i64 x0, .int .i64 x1, .int .i64 x2, .int .i64 x3, .int .i64 x4, .int .i64 x5, .int .i64 x6], .bool true]) ∧ Fr (fun _ => False) W w' from fun W => by have e := dec_any h hh W; rw [hv] at e; exact e)
  have hq := eqin_yes (show ((x0, x1, x2, x3, x4, x5, x6) : I7) = (x0, x1, x2, x3, x4, x5, x6) from rfl)
  clear hd he hv
  have t1 : (x0 == 85) = false := beq_eq_false_iff_ne.2 n1
  have t2 : (x0 == 86) = false := beq_eq_false_iff_ne.2 n2
  have t3 : ((h : Int) == (h : Int)) = true := beq_self_eq_true _
  clear n1 n2
  go_enter Try.func7, Try.ntmps7
  go_wp2_with fail
  refine (HD.out _).mono ?_
  rintro e w2 ⟨rfl, hf⟩
  have HI := Lib.hid (Blk.new w2 24 #[.int .i64 x0, .int .i64 x1, .int .i64 x2, .int .i64 x3, .int .i64 x4, .int .i64 x5, .int .i64 x6])
  have HF := Lib.hid (hf.alloc (.cells #[.int .i64 x0, .int .i64 x1, .int .i64 x2, .int .i64 x3, .int .i64 x4, .int .i64 x5, .int .i64 x6] 24))
  clear hf
  go_wp2_with fail
  refine (HE.out _).mono ?_
  rintro e w3 ⟨rfl, hf⟩
  have HI := Lib.hid (HI.out.fr hf id)
  have HF := Lib.hid (HF.out.trans hf (fun _ _ => id))
  clear hf
  go_wp2_with fail
  refine (HV.out _).mono ?_
  rintro e w4 ⟨rfl, hf⟩
  have HI := Lib.hid (HI.out.fr hf id)
  have HF := Lib.hid (HF.out.trans hf (fun _ _ => id))
  clear hf
  have HI := Lib.hid (HI.out.alloc (.cells #[.int .i64 x0, .int .i64 x1, .int .i64 x2, .int .i64 x3, .int .i64 x4, .int .i64 x5, .int .i64 x6] 24))
  have HF := Lib.hid (HF.out.alloc (.cells #[.int .i64 x0, .int .i64 x1, .int .i64 x2, .int .i64 x3, .int .i64 x4, .int .i64 x5, .int .i64 x6] 24))
  have HJ := Lib.hid (Blk.new w4 24 #[.int .i64 x0, .int .i64 x1, .int .i64 x2, .int .i64 x3, .int .i64 x4, .int .i64 x5, .int .i64 x6])
  go_wp2_with fail
  refine (answers_any _).mono ?_
  rintro e w5 ⟨rfl, hf⟩
  have HI := Lib.hid (HI.out.fr hf id)
  have HJ := Lib.hid (HJ.out.fr hf id)
  have HF := Lib.hid (HF.out.trans hf (fun _ _ => id))
  clear hf
  obtain ⟨kI0, kI1, kI2, kI3, kI4, kI5, kI6, _, _, _, _, _, _, _⟩ := blkat7 HI.out
  obtain ⟨kJ0, kJ1, kJ2, kJ3, kJ4, kJ5, kJ6, _, _, _, _, _, _, _⟩ := blkat7 HJ.out
  go_wp2_with fail
  clear kI0 kI1 kI2 kI3 kI4 kI5 kI6
  clear kJ0 kJ1 kJ2 kJ3 kJ4 kJ5 kJ6
  refine (HS.out _).mono ?_
  rintro e w6 ⟨rfl, hf⟩
  have HI := Lib.hid (HI.out.fr hf id)
  have HJ := Lib.hid (HJ.out.fr hf id)
  have HF := Lib.hid (HF.out.trans hf (fun _ _ => id))
  clear hf
  obtain ⟨kI0, kI1, kI2, kI3, kI4, kI5, kI6, _, _, _, _, _, _, _⟩ := blkat7 HI.out
  go_wp2_with fail
  go_ret
  exact ⟨by first | rfl | simp, HF.out⟩
theorem bk_any (h : Nat) (hh : h < 4294967296) (w : World) : Calls Try.prog 7 #[.int .u32 (h : Int)] w fun e w' => e = .returned (.bool true) ∧ Fr (fun _ => False) w w' := by
  obtain ⟨⟨⟨x0, x1, x2, x3, x4, x5, x6⟩, ok⟩, hd⟩ : ∃ p, decP h = p := ⟨_, rfl⟩
  cases ok
  · exact bk_none x0 x1 x2 x3 x4 x5 x6 h hh hd w
  have he := Enc_back hh hd
  have hv := backN_dec hh hd
  unfold backN at he hv
  dsimp only at he hv
  by_cases h1 : x0 = 85
  · subst h1
    rw [if_pos rfl] at he hv
    exact bk_0 x1 x2 x3 x4 x5 x6 h hh hd he hv w
  · by_cases h2 : x0 = 86
    · subst h2
      rw [if_neg (by decide), if_pos rfl] at he hv
      exact bk_1 x1 x2 x3 x4 x5 x6 h hh hd he hv w
    · rw [if_neg h1, if_neg h2] at he hv
      exact bk_2 x0 x1 x2 x3 x4 x5 x6 h hh hd he hv h1 h2 w
theorem back_walk (a0 : Int) (W : World) (w0 : (Lit.int .u32 a0).wf = true) :
    Calls Try.prog 7 #[.int .u32 a0] W fun e W' => e = .returned (.bool true) ∧ Below W.heap.size W W' := by
  have b := Go.bounds_u32 w0
  obtain ⟨h, rfl⟩ := Int.eq_ofNat_of_zero_le b.1
  exact (bk_any h (by omega) W).mono fun _ _ g => ⟨g.1, Fr.below (Below.refl _ _) g.2 (fun _ _ => id)⟩
end Go.Proofs.Ytnopppamfleniaa.Ins
