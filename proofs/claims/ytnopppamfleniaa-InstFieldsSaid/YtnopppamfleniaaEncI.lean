/- The law InstFields, walked. No further condition. -/
import Derived.Test.YtnopppamfleniaaEncG
import Derived.Test.YtnopppamfleniaaInsU
namespace Go.Proofs.Ytnopppamfleniaa.Ins
open Go Go.RowKit Go.Proofs.YtnopppamfleniaaW.PrintWords Go.Proofs.YtnopppamfleniaaW.PrintLast Go.Proofs.YtnopppamfleniaaW.PrintMore
open Go.Proofs.Ytnopppamfleniaa.Hp Go.Proofs.Ytnopppamfleniaa.Bv
attribute [local go_sem] max2_int min2_int max_two min_two max_three min_three max_four min_four
set_option linter.unusedVariables false
set_option linter.unusedSimpArgs false
theorem enc_no {j : I7} (h : ¬ (rng j ∧ j.2.2.2.2.2.2 = 4)) : EncE j = (0, false) := by
  rcases he : EncE j with ⟨n, b⟩
  cases b
  · rw [EncE_no he]
  · exact absurd (dec_rng (EncE_yes he)) h
theorem dec0 : decP 0 = (i0, false) := by kernel_rfl
theorem fields_none (x0 x1 x2 x3 x4 x5 x6 far : Int) (h m : Nat) (hh : h < 4294967296) (hd : decP h = ((x0, x1, x2, x3, x4, x5, x6), false)) (w : World) : Calls Try.prog 4 #[.int .u32 (h : Int), .int .u8 (m : Int), .int .i64 far] w fun e w' => e = .returned (.bool true) ∧ Fr (fun _ => False) w w' := by
  have HD := Lib.hid (show ∀ W, Calls Try.prog 10 #[.int .u32 ((h : Nat) : Int)] W fun e w' => e = .returned (.tuple #[.agg #[.int .i64 x0, .int .i64 x1, .int .i64 x2, .int .i64 x3, .int .i64 x4, .int .i64 x5, .int .i64 x6], .bool false]) ∧ Fr (fun _ => False) W w' from fun W => by have e := rdec_any h hh W; rw [← dec_same, hd] at e; exact e)
  clear hd
  go_enter Try.func4, Try.ntmps4
  go_wp2_with fail
  refine (HD.out _).mono ?_
  rintro e w2 ⟨rfl, hf⟩
  have HI := Lib.hid (Blk.new w2 24 #[.int .i64 x0, .int .i64 x1, .int .i64 x2, .int .i64 x3, .int .i64 x4, .int .i64 x5, .int .i64 x6])
  have HF := Lib.hid (hf.alloc (.cells #[.int .i64 x0, .int .i64 x1, .int .i64 x2, .int .i64 x3, .int .i64 x4, .int .i64 x5, .int .i64 x6] 24))
  clear hf
  go_wp2_with fail
  refine (answers_any _).mono ?_
  rintro e w3 ⟨rfl, hf⟩
  have HI := Lib.hid (HI.out.fr hf id)
  have HF := Lib.hid (HF.out.trans hf (fun _ _ => id))
  clear hf
  go_wp2_with fail
  refine (answers_any _).mono ?_
  rintro e w4 ⟨rfl, hf⟩
  have HI := Lib.hid (HI.out.fr hf id)
  have HF := Lib.hid (HF.out.trans hf (fun _ _ => id))
  clear hf
  go_wp2_with fail
  go_ret
  exact ⟨rfl, HF.out⟩
set_option maxHeartbeats 1000000 in
theorem fields_0 (x0 x1 x2 x3 x4 x5 x6 far : Int) (h m : Nat) (hh : h < 4294967296) (hd : decP h = ((x0, x1, x2, x3, x4, x5, x6), true)) (hm : (m : Int) % 6 = 0) (he : EncE (x0, (x1 + 32), x2, x3, x4, x5, x6) = (0, false)) (b1 : 0 ≤ x1) (b2 : x1 < 32) (w : World) : Calls Try.prog 4 #[.int .u32 (h : Int), .int .u8 (m : Int), .int .i64 far] w fun e w' => e = .returned (.bool true) ∧ Fr (fun _ => False) w w' := by
  have HD := Lib.hid (show ∀ W, Calls Try.prog 10 #[.int .u32 ((h : Nat) : Int)] W fun e w' => e = .returned (.tuple #[.agg #[.int .i64 x0, .int .i64 x1, .int .i64 x2, .int .i64 x3, .int .i64 x4, .int .i64 x5, .int .i64 x6], .bool true]) ∧ Fr (fun _ => False) W w' from fun W => by have e := rdec_any h hh W; rw [← dec_same, hd] at e; exact e)
  clear hd
  have HE := Lib.hid (show ∀ W, Calls Try.prog 12 #[.agg #[.int .i64 x0, .int .i64 (x1 + 32), .int .i64 x2, .int .i64 x3, .int .i64 x4, .int .i64 x5, .int .i64 x6]] W fun e w' => e = .returned (.tuple #[.int .u32 0, .bool false]) ∧ Fr (fun _ => False) W w' from fun W => by have e := Encode_any x0 (x1 + 32) x2 x3 x4 x5 x6 W; rw [he] at e; exact e)
  clear he
  go_enter Try.func4, Try.ntmps4
  go_wp2_with fail
  refine (HD.out _).mono ?_
  rintro e w2 ⟨rfl, hf⟩
  have HI := Lib.hid (Blk.new w2 24 #[.int .i64 x0, .int .i64 x1, .int .i64 x2, .int .i64 x3, .int .i64 x4, .int .i64 x5, .int .i64 x6])
  have HF := Lib.hid (hf.alloc (.cells #[.int .i64 x0, .int .i64 x1, .int .i64 x2, .int .i64 x3, .int .i64 x4, .int .i64 x5, .int .i64 x6] 24))
  clear hf
  go_wp2_with fail
  refine (answers_any _).mono ?_
  rintro e w3 ⟨rfl, hf⟩
  have HI := Lib.hid (HI.out.fr hf id)
  have HF := Lib.hid (HF.out.trans hf (fun _ _ => id))
  clear hf
  obtain ⟨kI0, kI1, kI2, kI3, kI4, kI5, kI6⟩ := (show _ ∧ _ ∧ _ ∧ _ ∧ _ ∧ _ ∧ _ from ⟨HI.out.cell 0, HI.out.cell 1, HI.out.cell 2, HI.out.cell 3, HI.out.cell 4, HI.out.cell 5, HI.out.cell 6⟩)
  simp at kI0 kI1 kI2 kI3 kI4 kI5 kI6
  go_wp2_with fail
  clear kI0 kI1 kI2 kI3 kI4 kI5 kI6
  have HJ := Lib.hid (Blk.new w3 24 #[.int .i64 x0, .int .i64 (x1 + 32), .int .i64 x2, .int .i64 x3, .int .i64 x4, .int .i64 x5, .int .i64 x6])
  have HF := Lib.hid (HF.out.alloc (.cells #[.int .i64 x0, .int .i64 (x1 + 32), .int .i64 x2, .int .i64 x3, .int .i64 x4, .int .i64 x5, .int .i64 x6] 24))
  refine (HE.out _).mono ?_
  rintro e w4 ⟨rfl, hf⟩
  have HJ := Lib.hid (HJ.out.fr hf id)
  have HF := Lib.hid (HF.out.trans hf (fun _ _ => id))
  clear hf
  go_wp2_with fail
  go_ret
  exact ⟨by first | rfl | simp, HF.out⟩
set_option maxHeartbeats 1000000 in
theorem fields_1 (x0 x1 x2 x3 x4 x5 x6 far : Int) (h m : Nat) (hh : h < 4294967296) (hd : decP h = ((x0, x1, x2, x3, x4, x5, x6), true)) (hm : (m : Int) % 6 = 1) (he : EncE (x0, x1, (-1), x3, x4, x5, x6) = (0, false)) (w : World) : Calls Try.prog 4 #[.int .u32 (h : Int), .int .u8 (m : Int), .int .i64 far] w fun e w' => e = .returned (.bool true) ∧ Fr (fun _ => False) w w' := by
  have HD := Lib.hid (show ∀ W, Calls Try.prog 10 #[.int .u32 ((h : Nat) : Int)] W fun e w' => e = .returned (.tuple #[.agg #[.int .i64 x0, .int .i64 x1, .int .i64 x2, .int .i64 x3, .int .i64 x4, .int .i64 x5, .int .i64 x6], .bool true]) ∧ Fr (fun _ => False) W w' from fun W => by have e := rdec_any h hh W; rw [← dec_same, hd] at e; exact e)
  clear hd
  have HE := Lib.hid (show ∀ W, Calls Try.prog 12 #[.agg #[.int .i64 x0, .int .i64 x1, .int .i64 (-1), .int .i64 x3, .int .i64 x4, .int .i64 x5, .int .i64 x6]] W fun e w' => e = .returned (.tuple #[.int .u32 0, .bool false]) ∧ Fr (fun _ => False) W w' from fun W => by have e := Encode_any x0 x1 (-1) x3 x4 x5 x6 W; rw [he] at e; exact e)
  clear he
  go_enter Try.func4, Try.ntmps4
  go_wp2_with fail
  refine (HD.out _).mono ?_
  rintro e w2 ⟨rfl, hf⟩
  have HI := Lib.hid (Blk.new w2 24 #[.int .i64 x0, .int .i64 x1, .int .i64 x2, .int .i64 x3, .int .i64 x4, .int .i64 x5, .int .i64 x6])
  have HF := Lib.hid (hf.alloc (.cells #[.int .i64 x0, .int .i64 x1, .int .i64 x2, .int .i64 x3, .int .i64 x4, .int .i64 x5, .int .i64 x6] 24))
  clear hf
  go_wp2_with fail
  refine (answers_any _).mono ?_
  rintro e w3 ⟨rfl, hf⟩
  have HI := Lib.hid (HI.out.fr hf id)
  have HF := Lib.hid (HF.out.trans hf (fun _ _ => id))
  clear hf
  obtain ⟨kI0, kI1, kI2, kI3, kI4, kI5, kI6⟩ := (show _ ∧ _ ∧ _ ∧ _ ∧ _ ∧ _ ∧ _ from ⟨HI.out.cell 0, HI.out.cell 1, HI.out.cell 2, HI.out.cell 3, HI.out.cell 4, HI.out.cell 5, HI.out.cell 6⟩)
  simp at kI0 kI1 kI2 kI3 kI4 kI5 kI6
  go_wp2_with fail
  clear kI0 kI1 kI2 kI3 kI4 kI5 kI6
  have HJ := Lib.hid (Blk.new w3 24 #[.int .i64 x0, .int .i64 x1, .int .i64 (-1), .int .i64 x3, .int .i64 x4, .int .i64 x5, .int .i64 x6])
  have HF := Lib.hid (HF.out.alloc (.cells #[.int .i64 x0, .int .i64 x1, .int .i64 (-1), .int .i64 x3, .int .i64 x4, .int .i64 x5, .int .i64 x6] 24))
  refine (HE.out _).mono ?_
  rintro e w4 ⟨rfl, hf⟩
  have HJ := Lib.hid (HJ.out.fr hf id)
  have HF := Lib.hid (HF.out.trans hf (fun _ _ => id))
  clear hf
  go_wp2_with fail
  go_ret
  exact ⟨by first | rfl | simp, HF.out⟩
set_option maxHeartbeats 1000000 in
theorem fields_2 (x0 x1 x2 x3 x4 x5 x6 far : Int) (h m : Nat) (hh : h < 4294967296) (hd : decP h = ((x0, x1, x2, x3, x4, x5, x6), true)) (hm : (m : Int) % 6 = 2) (he : EncE (x0, x1, x2, (32 + x3), x4, x5, x6) = (0, false)) (b1 : 0 ≤ x3) (b2 : x3 < 32) (w : World) : Calls Try.prog 4 #[.int .u32 (h : Int), .int .u8 (m : Int), .int .i64 far] w fun e w' => e = .returned (.bool true) ∧ Fr (fun _ => False) w w' := by
  have HD := Lib.hid (show ∀ W, Calls Try.prog 10 #[.int .u32 ((h : Nat) : Int)] W fun e w' => e = .returned (.tuple #[.agg #[.int .i64 x0, .int .i64 x1, .int .i64 x2, .int .i64 x3, .int .i64 x4, .int .i64 x5, .int .i64 x6], .bool true]) ∧ Fr (fun _ => False) W w' from fun W => by have e := rdec_any h hh W; rw [← dec_same, hd] at e; exact e)
  clear hd
  have HE := Lib.hid (show ∀ W, Calls Try.prog 12 #[.agg #[.int .i64 x0, .int .i64 x1, .int .i64 x2, .int .i64 (32 + x3), .int .i64 x4, .int .i64 x5, .int .i64 x6]] W fun e w' => e = .returned (.tuple #[.int .u32 0, .bool false]) ∧ Fr (fun _ => False) W w' from fun W => by have e := Encode_any x0 x1 x2 (32 + x3) x4 x5 x6 W; rw [he] at e; exact e)
  clear he
  go_enter Try.func4, Try.ntmps4
  go_wp2_with fail
  refine (HD.out _).mono ?_
  rintro e w2 ⟨rfl, hf⟩
  have HI := Lib.hid (Blk.new w2 24 #[.int .i64 x0, .int .i64 x1, .int .i64 x2, .int .i64 x3, .int .i64 x4, .int .i64 x5, .int .i64 x6])
  have HF := Lib.hid (hf.alloc (.cells #[.int .i64 x0, .int .i64 x1, .int .i64 x2, .int .i64 x3, .int .i64 x4, .int .i64 x5, .int .i64 x6] 24))
  clear hf
  go_wp2_with fail
  refine (answers_any _).mono ?_
  rintro e w3 ⟨rfl, hf⟩
  have HI := Lib.hid (HI.out.fr hf id)
  have HF := Lib.hid (HF.out.trans hf (fun _ _ => id))
  clear hf
  obtain ⟨kI0, kI1, kI2, kI3, kI4, kI5, kI6⟩ := (show _ ∧ _ ∧ _ ∧ _ ∧ _ ∧ _ ∧ _ from ⟨HI.out.cell 0, HI.out.cell 1, HI.out.cell 2, HI.out.cell 3, HI.out.cell 4, HI.out.cell 5, HI.out.cell 6⟩)
  simp at kI0 kI1 kI2 kI3 kI4 kI5 kI6
  go_wp2_with fail
  clear kI0 kI1 kI2 kI3 kI4 kI5 kI6
  have HJ := Lib.hid (Blk.new w3 24 #[.int .i64 x0, .int .i64 x1, .int .i64 x2, .int .i64 (32 + x3), .int .i64 x4, .int .i64 x5, .int .i64 x6])
  have HF := Lib.hid (HF.out.alloc (.cells #[.int .i64 x0, .int .i64 x1, .int .i64 x2, .int .i64 (32 + x3), .int .i64 x4, .int .i64 x5, .int .i64 x6] 24))
  refine (HE.out _).mono ?_
  rintro e w4 ⟨rfl, hf⟩
  have HJ := Lib.hid (HJ.out.fr hf id)
  have HF := Lib.hid (HF.out.trans hf (fun _ _ => id))
  clear hf
  go_wp2_with fail
  go_ret
  exact ⟨by first | rfl | simp, HF.out⟩
set_option maxHeartbeats 1000000 in
theorem fields_3 (x0 x1 x2 x3 x4 x5 x6 far : Int) (h m : Nat) (hh : h < 4294967296) (hd : decP h = ((x0, x1, x2, x3, x4, x5, x6), true)) (hm : (m : Int) % 6 = 3) (he : EncE (x0, x1, x2, x3, x4, x5, 2) = (0, false)) (w : World) : Calls Try.prog 4 #[.int .u32 (h : Int), .int .u8 (m : Int), .int .i64 far] w fun e w' => e = .returned (.bool true) ∧ Fr (fun _ => False) w w' := by
  have HD := Lib.hid (show ∀ W, Calls Try.prog 10 #[.int .u32 ((h : Nat) : Int)] W fun e w' => e = .returned (.tuple #[.agg #[.int .i64 x0, .int .i64 x1, .int .i64 x2, .int .i64 x3, .int .i64 x4, .int .i64 x5, .int .i64 x6], .bool true]) ∧ Fr (fun _ => False) W w' from fun W => by have e := rdec_any h hh W; rw [← dec_same, hd] at e; exact e)
  clear hd
  have HE := Lib.hid (show ∀ W, Calls Try.prog 12 #[.agg #[.int .i64 x0, .int .i64 x1, .int .i64 x2, .int .i64 x3, .int .i64 x4, .int .i64 x5, .int .i64 2]] W fun e w' => e = .returned (.tuple #[.int .u32 0, .bool false]) ∧ Fr (fun _ => False) W w' from fun W => by have e := Encode_any x0 x1 x2 x3 x4 x5 2 W; rw [he] at e; exact e)
  clear he
  go_enter Try.func4, Try.ntmps4
  go_wp2_with fail
  refine (HD.out _).mono ?_
  rintro e w2 ⟨rfl, hf⟩
  have HI := Lib.hid (Blk.new w2 24 #[.int .i64 x0, .int .i64 x1, .int .i64 x2, .int .i64 x3, .int .i64 x4, .int .i64 x5, .int .i64 x6])
  have HF := Lib.hid (hf.alloc (.cells #[.int .i64 x0, .int .i64 x1, .int .i64 x2, .int .i64 x3, .int .i64 x4, .int .i64 x5, .int .i64 x6] 24))
  clear hf
  go_wp2_with fail
  refine (answers_any _).mono ?_
  rintro e w3 ⟨rfl, hf⟩
  have HI := Lib.hid (HI.out.fr hf id)
  have HF := Lib.hid (HF.out.trans hf (fun _ _ => id))
  clear hf
  obtain ⟨kI0, kI1, kI2, kI3, kI4, kI5, kI6⟩ := (show _ ∧ _ ∧ _ ∧ _ ∧ _ ∧ _ ∧ _ from ⟨HI.out.cell 0, HI.out.cell 1, HI.out.cell 2, HI.out.cell 3, HI.out.cell 4, HI.out.cell 5, HI.out.cell 6⟩)
  simp at kI0 kI1 kI2 kI3 kI4 kI5 kI6
  go_wp2_with fail
  clear kI0 kI1 kI2 kI3 kI4 kI5 kI6
  have HJ := Lib.hid (Blk.new w3 24 #[.int .i64 x0, .int .i64 x1, .int .i64 x2, .int .i64 x3, .int .i64 x4, .int .i64 x5, .int .i64 2])
  have HF := Lib.hid (HF.out.alloc (.cells #[.int .i64 x0, .int .i64 x1, .int .i64 x2, .int .i64 x3, .int .i64 x4, .int .i64 x5, .int .i64 2] 24))
  refine (HE.out _).mono ?_
  rintro e w4 ⟨rfl, hf⟩
  have HJ := Lib.hid (HJ.out.fr hf id)
  have HF := Lib.hid (HF.out.trans hf (fun _ _ => id))
  clear hf
  go_wp2_with fail
  go_ret
  exact ⟨by first | rfl | simp, HF.out⟩
set_option maxHeartbeats 1000000 in
theorem fields_4 (x0 x1 x2 x3 x4 x5 x6 far : Int) (h m : Nat) (hh : h < 4294967296) (hd : decP h = ((x0, x1, x2, x3, x4, x5, x6), true)) (hm : (m : Int) % 6 = 4) (he : EncE (x0, x1, x2, x3, x4, 4, x6) = (0, false)) (w : World) : Calls Try.prog 4 #[.int .u32 (h : Int), .int .u8 (m : Int), .int .i64 far] w fun e w' => e = .returned (.bool true) ∧ Fr (fun _ => False) w w' := by
  have HD := Lib.hid (show ∀ W, Calls Try.prog 10 #[.int .u32 ((h : Nat) : Int)] W fun e w' => e = .returned (.tuple #[.agg #[.int .i64 x0, .int .i64 x1, .int .i64 x2, .int .i64 x3, .int .i64 x4, .int .i64 x5, .int .i64 x6], .bool true]) ∧ Fr (fun _ => False) W w' from fun W => by have e := rdec_any h hh W; rw [← dec_same, hd] at e; exact e)
  clear hd
  have HE := Lib.hid (show ∀ W, Calls Try.prog 12 #[.agg #[.int .i64 x0, .int .i64 x1, .int .i64 x2, .int .i64 x3, .int .i64 x4, .int .i64 4, .int .i64 x6]] W fun e w' => e = .returned (.tuple #[.int .u32 0, .bool false]) ∧ Fr (fun _ => False) W w' from fun W => by have e := Encode_any x0 x1 x2 x3 x4 4 x6 W; rw [he] at e; exact e)
  clear he
  go_enter Try.func4, Try.ntmps4
  go_wp2_with fail
  refine (HD.out _).mono ?_
  rintro e w2 ⟨rfl, hf⟩
  have HI := Lib.hid (Blk.new w2 24 #[.int .i64 x0, .int .i64 x1, .int .i64 x2, .int .i64 x3, .int .i64 x4, .int .i64 x5, .int .i64 x6])
  have HF := Lib.hid (hf.alloc (.cells #[.int .i64 x0, .int .i64 x1, .int .i64 x2, .int .i64 x3, .int .i64 x4, .int .i64 x5, .int .i64 x6] 24))
  clear hf
  go_wp2_with fail
  refine (answers_any _).mono ?_
  rintro e w3 ⟨rfl, hf⟩
  have HI := Lib.hid (HI.out.fr hf id)
  have HF := Lib.hid (HF.out.trans hf (fun _ _ => id))
  clear hf
  obtain ⟨kI0, kI1, kI2, kI3, kI4, kI5, kI6⟩ := (show _ ∧ _ ∧ _ ∧ _ ∧ _ ∧ _ ∧ _ from ⟨HI.out.cell 0, HI.out.cell 1, HI.out.cell 2, HI.out.cell 3, HI.out.cell 4, HI.out.cell 5, HI.out.cell 6⟩)
  simp at kI0 kI1 kI2 kI3 kI4 kI5 kI6
  go_wp2_with fail
  clear kI0 kI1 kI2 kI3 kI4 kI5 kI6
  have HJ := Lib.hid (Blk.new w3 24 #[.int .i64 x0, .int .i64 x1, .int .i64 x2, .int .i64 x3, .int .i64 x4, .int .i64 4, .int .i64 x6])
  have HF := Lib.hid (HF.out.alloc (.cells #[.int .i64 x0, .int .i64 x1, .int .i64 x2, .int .i64 x3, .int .i64 x4, .int .i64 4, .int .i64 x6] 24))
  refine (HE.out _).mono ?_
  rintro e w4 ⟨rfl, hf⟩
  have HJ := Lib.hid (HJ.out.fr hf id)
  have HF := Lib.hid (HF.out.trans hf (fun _ _ => id))
  clear hf
  go_wp2_with fail
  go_ret
  exact ⟨by first | rfl | simp, HF.out⟩
set_option maxHeartbeats 1000000 in
theorem fields_5f (x0 x1 x2 x3 x4 x5 x6 far : Int) (h m n : Nat) (hh : h < 4294967296) (hd : decP h = ((x0, x1, x2, x3, x4, x5, x6), true)) (hm : (m : Int) % 6 = 5) (he : EncE (x0, x1, x2, x3, far, x5, x6) = (n, false)) (w : World) : Calls Try.prog 4 #[.int .u32 (h : Int), .int .u8 (m : Int), .int .i64 far] w fun e w' => e = .returned (.bool true) ∧ Fr (fun _ => False) w w' := by
  have HD := Lib.hid (show ∀ W, Calls Try.prog 10 #[.int .u32 ((h : Nat) : Int)] W fun e w' => e = .returned (.tuple #[.agg #[.int .i64 x0, .int .i64 x1, .int .i64 x2, .int .i64 x3, .int .i64 x4, .int .i64 x5, .int .i64 x6], .bool true]) ∧ Fr (fun _ => False) W w' from fun W => by have e := rdec_any h hh W; rw [← dec_same, hd] at e; exact e)
  clear hd
  have h0 := EncE_no he
  subst h0
  have HD2 := Lib.hid (show ∀ W, Calls Try.prog 10 #[.int .u32 0] W fun e w' => e = .returned (.tuple #[.agg #[.int .i64 0, .int .i64 0, .int .i64 0, .int .i64 0, .int .i64 0, .int .i64 0, .int .i64 0], .bool false]) ∧ Fr (fun _ => False) W w' from fun W => by have e := rdec_any 0 (by decide) W; rw [← dec_same, dec0] at e; exact e)
  have HE := Lib.hid (show ∀ W, Calls Try.prog 12 #[.agg #[.int .i64 x0, .int .i64 x1, .int .i64 x2, .int .i64 x3, .int .i64 far, .int .i64 x5, .int .i64 x6]] W fun e w' => e = .returned (.tuple #[.int .u32 0, .bool false]) ∧ Fr (fun _ => False) W w' from fun W => by have e := Encode_any x0 x1 x2 x3 far x5 x6 W; rw [he] at e; exact e)
  clear he
  go_enter Try.func4, Try.ntmps4
  go_wp2_with fail
  refine (HD.out _).mono ?_
  rintro e w2 ⟨rfl, hf⟩
  have HI := Lib.hid (Blk.new w2 24 #[.int .i64 x0, .int .i64 x1, .int .i64 x2, .int .i64 x3, .int .i64 x4, .int .i64 x5, .int .i64 x6])
  have HF := Lib.hid (hf.alloc (.cells #[.int .i64 x0, .int .i64 x1, .int .i64 x2, .int .i64 x3, .int .i64 x4, .int .i64 x5, .int .i64 x6] 24))
  clear hf
  go_wp2_with fail
  refine (answers_any _).mono ?_
  rintro e w3 ⟨rfl, hf⟩
  have HI := Lib.hid (HI.out.fr hf id)
  have HF := Lib.hid (HF.out.trans hf (fun _ _ => id))
  clear hf
  obtain ⟨kI0, kI1, kI2, kI3, kI4, kI5, kI6⟩ := (show _ ∧ _ ∧ _ ∧ _ ∧ _ ∧ _ ∧ _ from ⟨HI.out.cell 0, HI.out.cell 1, HI.out.cell 2, HI.out.cell 3, HI.out.cell 4, HI.out.cell 5, HI.out.cell 6⟩)
  simp at kI0 kI1 kI2 kI3 kI4 kI5 kI6
  go_wp2_with fail
  clear kI0 kI1 kI2 kI3 kI4 kI5 kI6
  have HJ := Lib.hid (Blk.new w3 24 #[.int .i64 x0, .int .i64 x1, .int .i64 x2, .int .i64 x3, .int .i64 far, .int .i64 x5, .int .i64 x6])
  have HF := Lib.hid (HF.out.alloc (.cells #[.int .i64 x0, .int .i64 x1, .int .i64 x2, .int .i64 x3, .int .i64 far, .int .i64 x5, .int .i64 x6] 24))
  refine (HE.out _).mono ?_
  rintro e w4 ⟨rfl, hf⟩
  have HJ := Lib.hid (HJ.out.fr hf id)
  have HF := Lib.hid (HF.out.trans hf (fun _ _ => id))
  clear hf
  go_wp2_with fail
  refine (HD2.out _).mono ?_
  rintro e w5 ⟨rfl, hf⟩
  have HJ := Lib.hid (HJ.out.fr hf id)
  have HF := Lib.hid (HF.out.trans hf (fun _ _ => id))
  clear hf
  have HJ := Lib.hid (HJ.out.alloc (.cells #[.int .i64 0, .int .i64 0, .int .i64 0, .int .i64 0, .int .i64 0, .int .i64 0, .int .i64 0] 24))
  have HF := Lib.hid (HF.out.alloc (.cells #[.int .i64 0, .int .i64 0, .int .i64 0, .int .i64 0, .int .i64 0, .int .i64 0, .int .i64 0] 24))
  have HK := Lib.hid (Blk.new w5 24 #[.int .i64 0, .int .i64 0, .int .i64 0, .int .i64 0, .int .i64 0, .int .i64 0, .int .i64 0])
  obtain ⟨kJ0, kJ1, kJ2, kJ3, kJ4, kJ5, kJ6⟩ := (show _ ∧ _ ∧ _ ∧ _ ∧ _ ∧ _ ∧ _ from ⟨HJ.out.cell 0, HJ.out.cell 1, HJ.out.cell 2, HJ.out.cell 3, HJ.out.cell 4, HJ.out.cell 5, HJ.out.cell 6⟩)
  simp at kJ0 kJ1 kJ2 kJ3 kJ4 kJ5 kJ6
  obtain ⟨kK0, kK1, kK2, kK3, kK4, kK5, kK6⟩ := (show _ ∧ _ ∧ _ ∧ _ ∧ _ ∧ _ ∧ _ from ⟨HK.out.cell 0, HK.out.cell 1, HK.out.cell 2, HK.out.cell 3, HK.out.cell 4, HK.out.cell 5, HK.out.cell 6⟩)
  simp at kK0 kK1 kK2 kK3 kK4 kK5 kK6
  go_wp2_with fail
  go_ret
  exact ⟨by first | rfl | simp, HF.out⟩
set_option maxHeartbeats 1000000 in
theorem fields_5t (x0 x1 x2 x3 x4 x5 x6 far : Int) (h m n : Nat) (hh : h < 4294967296) (hd : decP h = ((x0, x1, x2, x3, x4, x5, x6), true)) (hm : (m : Int) % 6 = 5) (he : EncE (x0, x1, x2, x3, far, x5, x6) = (n, true)) (w : World) : Calls Try.prog 4 #[.int .u32 (h : Int), .int .u8 (m : Int), .int .i64 far] w fun e w' => e = .returned (.bool true) ∧ Fr (fun _ => False) w w' := by
  have HD := Lib.hid (show ∀ W, Calls Try.prog 10 #[.int .u32 ((h : Nat) : Int)] W fun e w' => e = .returned (.tuple #[.agg #[.int .i64 x0, .int .i64 x1, .int .i64 x2, .int .i64 x3, .int .i64 x4, .int .i64 x5, .int .i64 x6], .bool true]) ∧ Fr (fun _ => False) W w' from fun W => by have e := rdec_any h hh W; rw [← dec_same, hd] at e; exact e)
  clear hd
  have hn : n < 4294967296 := by have e := EncE_u32 (x0, x1, x2, x3, far, x5, x6); rw [he] at e; exact e
  have hd2 := EncE_yes he
  have HD2 := Lib.hid (show ∀ W, Calls Try.prog 10 #[.int .u32 ((n : Nat) : Int)] W fun e w' => e = .returned (.tuple #[.agg #[.int .i64 x0, .int .i64 x1, .int .i64 x2, .int .i64 x3, .int .i64 far, .int .i64 x5, .int .i64 x6], .bool true]) ∧ Fr (fun _ => False) W w' from fun W => by have e := rdec_any n hn W; rw [← dec_same, hd2] at e; exact e)
  have hq := eqin_yes (show ((x0, x1, x2, x3, far, x5, x6) : I7) = (x0, x1, x2, x3, far, x5, x6) from rfl)
  clear hd2
  have HE := Lib.hid (show ∀ W, Calls Try.prog 12 #[.agg #[.int .i64 x0, .int .i64 x1, .int .i64 x2, .int .i64 x3, .int .i64 far, .int .i64 x5, .int .i64 x6]] W fun e w' => e = .returned (.tuple #[.int .u32 ((n : Nat) : Int), .bool true]) ∧ Fr (fun _ => False) W w' from fun W => by have e := Encode_any x0 x1 x2 x3 far x5 x6 W; rw [he] at e; exact e)
  clear he
  go_enter Try.func4, Try.ntmps4
  go_wp2_with fail
  refine (HD.out _).mono ?_
  rintro e w2 ⟨rfl, hf⟩
  have HI := Lib.hid (Blk.new w2 24 #[.int .i64 x0, .int .i64 x1, .int .i64 x2, .int .i64 x3, .int .i64 x4, .int .i64 x5, .int .i64 x6])
  have HF := Lib.hid (hf.alloc (.cells #[.int .i64 x0, .int .i64 x1, .int .i64 x2, .int .i64 x3, .int .i64 x4, .int .i64 x5, .int .i64 x6] 24))
  clear hf
  go_wp2_with fail
  refine (answers_any _).mono ?_
  rintro e w3 ⟨rfl, hf⟩
  have HI := Lib.hid (HI.out.fr hf id)
  have HF := Lib.hid (HF.out.trans hf (fun _ _ => id))
  clear hf
  obtain ⟨kI0, kI1, kI2, kI3, kI4, kI5, kI6⟩ := (show _ ∧ _ ∧ _ ∧ _ ∧ _ ∧ _ ∧ _ from ⟨HI.out.cell 0, HI.out.cell 1, HI.out.cell 2, HI.out.cell 3, HI.out.cell 4, HI.out.cell 5, HI.out.cell 6⟩)
  simp at kI0 kI1 kI2 kI3 kI4 kI5 kI6
  go_wp2_with fail
  clear kI0 kI1 kI2 kI3 kI4 kI5 kI6
  have HJ := Lib.hid (Blk.new w3 24 #[.int .i64 x0, .int .i64 x1, .int .i64 x2, .int .i64 x3, .int .i64 far, .int .i64 x5, .int .i64 x6])
  have HF := Lib.hid (HF.out.alloc (.cells #[.int .i64 x0, .int .i64 x1, .int .i64 x2, .int .i64 x3, .int .i64 far, .int .i64 x5, .int .i64 x6] 24))
  refine (HE.out _).mono ?_
  rintro e w4 ⟨rfl, hf⟩
  have HJ := Lib.hid (HJ.out.fr hf id)
  have HF := Lib.hid (HF.out.trans hf (fun _ _ => id))
  clear hf
  go_wp2_with fail
  refine (HD2.out _).mono ?_
  rintro e w5 ⟨rfl, hf⟩
  have HJ := Lib.hid (HJ.out.fr hf id)
  have HF := Lib.hid (HF.out.trans hf (fun _ _ => id))
  clear hf
  have HJ := Lib.hid (HJ.out.alloc (.cells #[.int .i64 x0, .int .i64 x1, .int .i64 x2, .int .i64 x3, .int .i64 far, .int .i64 x5, .int .i64 x6] 24))
  have HF := Lib.hid (HF.out.alloc (.cells #[.int .i64 x0, .int .i64 x1, .int .i64 x2, .int .i64 x3, .int .i64 far, .int .i64 x5, .int .i64 x6] 24))
  have HK := Lib.hid (Blk.new w5 24 #[.int .i64 x0, .int .i64 x1, .int .i64 x2, .int .i64 x3, .int .i64 far, .int .i64 x5, .int .i64 x6])
  obtain ⟨kJ0, kJ1, kJ2, kJ3, kJ4, kJ5, kJ6⟩ := (show _ ∧ _ ∧ _ ∧ _ ∧ _ ∧ _ ∧ _ from ⟨HJ.out.cell 0, HJ.out.cell 1, HJ.out.cell 2, HJ.out.cell 3, HJ.out.cell 4, HJ.out.cell 5, HJ.out.cell 6⟩)
  simp at kJ0 kJ1 kJ2 kJ3 kJ4 kJ5 kJ6
  obtain ⟨kK0, kK1, kK2, kK3, kK4, kK5, kK6⟩ := (show _ ∧ _ ∧ _ ∧ _ ∧ _ ∧ _ ∧ _ from ⟨HK.out.cell 0, HK.out.cell 1, HK.out.cell 2, HK.out.cell 3, HK.out.cell 4, HK.out.cell 5, HK.out.cell 6⟩)
  simp at kK0 kK1 kK2 kK3 kK4 kK5 kK6
  go_wp2_with fail
  go_ret
  exact ⟨by first | rfl | simp, HF.out⟩
theorem fields_any (far : Int) (h m : Nat) (hh : h < 4294967296) (w : World) : Calls Try.prog 4 #[.int .u32 (h : Int), .int .u8 (m : Int), .int .i64 far] w fun e w' => e = .returned (.bool true) ∧ Fr (fun _ => False) w w' := by
  obtain ⟨⟨⟨x0, x1, x2, x3, x4, x5, x6⟩, ok⟩, hd⟩ : ∃ p, decP h = p := ⟨_, rfl⟩
  cases ok
  · exact fields_none x0 x1 x2 x3 x4 x5 x6 far h m hh hd w
  obtain ⟨⟨⟨r1, r2⟩, ⟨r3, r4⟩, ⟨r5, r6⟩, ⟨r7, r8⟩⟩, r9⟩ := dec_rng hd
  dsimp only at r1 r2 r3 r4 r5 r6 r7 r8 r9
  have hm : (m : Int) % 6 = 0 ∨ (m : Int) % 6 = 1 ∨ (m : Int) % 6 = 2 ∨ (m : Int) % 6 = 3 ∨ (m : Int) % 6 = 4 ∨ (m : Int) % 6 = 5 := by omega
  rcases hm with hm | hm | hm | hm | hm | hm
  · exact fields_0 x0 x1 x2 x3 x4 x5 x6 far h m hh hd hm (enc_no (fun g => by have := g.1.1.2; dsimp only at this; omega)) r1 r2 w
  · exact fields_1 x0 x1 x2 x3 x4 x5 x6 far h m hh hd hm (enc_no (fun g => by have := g.1.2.1.1; dsimp only at this; omega)) w
  · exact fields_2 x0 x1 x2 x3 x4 x5 x6 far h m hh hd hm (enc_no (fun g => by have := g.1.2.2.1.2; dsimp only at this; omega)) r5 r6 w
  · exact fields_3 x0 x1 x2 x3 x4 x5 x6 far h m hh hd hm (enc_no (fun g => by have := g.2; dsimp only at this; omega)) w
  · exact fields_4 x0 x1 x2 x3 x4 x5 x6 far h m hh hd hm (enc_no (fun g => by have := g.1.2.2.2.2; dsimp only at this; omega)) w
  · rcases he : EncE (x0, x1, x2, x3, far, x5, x6) with ⟨n, b⟩
    cases b
    · exact fields_5f x0 x1 x2 x3 x4 x5 x6 far h m n hh hd hm he w
    · exact fields_5t x0 x1 x2 x3 x4 x5 x6 far h m n hh hd hm he w
theorem fields_walk (a0 a1 a2 : Int) (W : World) (w0 : (Lit.int .u32 a0).wf = true) (w1 : (Lit.int .u8 a1).wf = true) (w2 : (Lit.int .i64 a2).wf = true) :
    Calls Try.prog 4 #[.int .u32 a0, .int .u8 a1, .int .i64 a2] W fun e W' => e = .returned (.bool true) ∧ Below W.heap.size W W' := by
  have b0 := Go.bounds_u32 w0
  have b1 := Go.bounds_u8 w1
  obtain ⟨h, rfl⟩ := Int.eq_ofNat_of_zero_le b0.1
  obtain ⟨m, rfl⟩ := Int.eq_ofNat_of_zero_le b1.1
  exact (fields_any a2 h m (by omega) W).mono fun _ _ g => ⟨g.1, Fr.below (Below.refl _ _) g.2 (fun _ _ => id)⟩
end Go.Proofs.Ytnopppamfleniaa.Ins
