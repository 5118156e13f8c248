/- The law InstEncodes, walked. No further condition. -/
import Derived.Test.YtnopppamfleniaaEncG
import Derived.Test.YtnopppamfleniaaInsU
namespace Go.Proofs.Ytnopppamfleniaa.Ins
open Go Go.RowKit Go.Proofs.YtnopppamfleniaaW.PrintWords Go.Proofs.YtnopppamfleniaaW.PrintLast Go.Proofs.YtnopppamfleniaaW.PrintMore
open Go.Proofs.Ytnopppamfleniaa.Hp Go.Proofs.Ytnopppamfleniaa.Bv
attribute [local go_sem] max2_int min2_int max_two min_two max_three min_three max_four min_four
set_option linter.unusedVariables false
set_option linter.unusedSimpArgs false
theorem encodes_0 (x0 x1 x2 x3 x4 x5 x6 : Int) (n : Nat) (w : World) (he : EncE (x0, x1, x2, x3, x4, x5, x6) = (n, false)) : Calls Try.prog 6 #[.agg #[.int .i64 x0, .int .i64 x1, .int .i64 x2, .int .i64 x3, .int .i64 x4, .int .i64 x5, .int .i64 x6]] w fun e w' => e = .returned (.bool true) ∧ Fr (fun _ => False) w w' := by
  have hn : n < 4294967296 := by have e := EncE_u32 (x0, x1, x2, x3, x4, x5, x6); rw [he] at e; exact e
  have h0 := EncE_no he
  subst h0
  have HE := Lib.hid (show ∀ W, Calls Try.prog 12 #[.agg #[.int .i64 x0, .int .i64 x1, .int .i64 x2, .int .i64 x3, .int .i64 x4, .int .i64 x5, .int .i64 x6]] W fun e w' => e = .returned (.tuple #[.int .u32 ((0 : Nat) : Int), .bool false]) ∧ Fr (fun _ => False) W w' from fun W => by have e := Encode_any x0 x1 x2 x3 x4 x5 x6 W; rw [he] at e; exact e)
  have HS := Lib.hid (show ∀ W, Calls Try.prog 13 #[.agg #[.int .i64 x0, .int .i64 x1, .int .i64 x2, .int .i64 x3, .int .i64 x4, .int .i64 x5, .int .i64 x6]] W fun e w' => e = .returned (.bool false) ∧ Fr (fun _ => False) W w' from fun W => by have e := Sound_any x0 x1 x2 x3 x4 x5 x6 W; rw [he] at e; exact e)
  clear he
  have t0 : (((0 : Nat) : Int) == 0) = true := rfl
  have HI := Lib.hid (Blk.new w 24 #[.int .i64 x0, .int .i64 x1, .int .i64 x2, .int .i64 x3, .int .i64 x4, .int .i64 x5, .int .i64 x6])
  have HF := Lib.hid ((Fr.refl (fun _ => False) w).alloc (.cells #[.int .i64 x0, .int .i64 x1, .int .i64 x2, .int .i64 x3, .int .i64 x4, .int .i64 x5, .int .i64 x6] 24))
  go_enter Try.func6, Try.ntmps6
  go_wp2_with fail
  refine (HE.out _).mono ?_
  rintro e w2 ⟨rfl, hf⟩
  have HI := Lib.hid (HI.out.fr hf id)
  have HF := Lib.hid (HF.out.trans hf (fun _ _ => id))
  clear hf
  go_wp2_with fail
  refine (answers_any _).mono ?_
  rintro e w3 ⟨rfl, hf⟩
  have HI := Lib.hid (HI.out.fr hf id)
  have HF := Lib.hid (HF.out.trans hf (fun _ _ => id))
  clear hf
  obtain ⟨kI0, kI1, kI2, kI3, kI4, kI5, kI6⟩ := (show _ ∧ _ ∧ _ ∧ _ ∧ _ ∧ _ ∧ _ from ⟨HI.out.cell 0, HI.out.cell 1, HI.out.cell 2, HI.out.cell 3, HI.out.cell 4, HI.out.cell 5, HI.out.cell 6⟩)
  simp at kI0 kI1 kI2 kI3 kI4 kI5 kI6
  go_wp2_with fail
  clear kI0 kI1 kI2 kI3 kI4 kI5 kI6
  refine (HS.out _).mono ?_
  rintro e w4 ⟨rfl, hf⟩
  have HI := Lib.hid (HI.out.fr hf id)
  have HF := Lib.hid (HF.out.trans hf (fun _ _ => id))
  clear hf
  go_wp2_with fail
  go_ret
  exact ⟨by first | rfl | simp, HF.out⟩
theorem encodes_1 (x0 x1 x2 x3 x4 x5 x6 : Int) (n : Nat) (w : World) (he : EncE (x0, x1, x2, x3, x4, x5, x6) = (n, true)) : Calls Try.prog 6 #[.agg #[.int .i64 x0, .int .i64 x1, .int .i64 x2, .int .i64 x3, .int .i64 x4, .int .i64 x5, .int .i64 x6]] w fun e w' => e = .returned (.bool true) ∧ Fr (fun _ => False) w w' := by
  have hn : n < 4294967296 := by have e := EncE_u32 (x0, x1, x2, x3, x4, x5, x6); rw [he] at e; exact e
  have hd := EncE_yes he
  have HD := Lib.hid (show ∀ W, Calls Try.prog 10 #[.int .u32 ((n : Nat) : Int)] W fun e w' => e = .returned (.tuple #[.agg #[.int .i64 x0, .int .i64 x1, .int .i64 x2, .int .i64 x3, .int .i64 x4, .int .i64 x5, .int .i64 x6], .bool true]) ∧ Fr (fun _ => False) W w' from fun W => by have e := rdec_any n hn W; rw [← dec_same, hd] at e; exact e)
  have hq := eqin_yes (show ((x0, x1, x2, x3, x4, x5, x6) : I7) = (x0, x1, x2, x3, x4, x5, x6) from rfl)
  clear hd
  have HE := Lib.hid (show ∀ W, Calls Try.prog 12 #[.agg #[.int .i64 x0, .int .i64 x1, .int .i64 x2, .int .i64 x3, .int .i64 x4, .int .i64 x5, .int .i64 x6]] W fun e w' => e = .returned (.tuple #[.int .u32 ((n : Nat) : Int), .bool true]) ∧ Fr (fun _ => False) W w' from fun W => by have e := Encode_any x0 x1 x2 x3 x4 x5 x6 W; rw [he] at e; exact e)
  have HS := Lib.hid (show ∀ W, Calls Try.prog 13 #[.agg #[.int .i64 x0, .int .i64 x1, .int .i64 x2, .int .i64 x3, .int .i64 x4, .int .i64 x5, .int .i64 x6]] W fun e w' => e = .returned (.bool true) ∧ Fr (fun _ => False) W w' from fun W => by have e := Sound_any x0 x1 x2 x3 x4 x5 x6 W; rw [he] at e; exact e)
  clear he
  have HI := Lib.hid (Blk.new w 24 #[.int .i64 x0, .int .i64 x1, .int .i64 x2, .int .i64 x3, .int .i64 x4, .int .i64 x5, .int .i64 x6])
  have HF := Lib.hid ((Fr.refl (fun _ => False) w).alloc (.cells #[.int .i64 x0, .int .i64 x1, .int .i64 x2, .int .i64 x3, .int .i64 x4, .int .i64 x5, .int .i64 x6] 24))
  go_enter Try.func6, Try.ntmps6
  go_wp2_with fail
  refine (HE.out _).mono ?_
  rintro e w2 ⟨rfl, hf⟩
  have HI := Lib.hid (HI.out.fr hf id)
  have HF := Lib.hid (HF.out.trans hf (fun _ _ => id))
  clear hf
  go_wp2_with fail
  refine (answers_any _).mono ?_
  rintro e w3 ⟨rfl, hf⟩
  have HI := Lib.hid (HI.out.fr hf id)
  have HF := Lib.hid (HF.out.trans hf (fun _ _ => id))
  clear hf
  obtain ⟨kI0, kI1, kI2, kI3, kI4, kI5, kI6⟩ := (show _ ∧ _ ∧ _ ∧ _ ∧ _ ∧ _ ∧ _ from ⟨HI.out.cell 0, HI.out.cell 1, HI.out.cell 2, HI.out.cell 3, HI.out.cell 4, HI.out.cell 5, HI.out.cell 6⟩)
  simp at kI0 kI1 kI2 kI3 kI4 kI5 kI6
  go_wp2_with fail
  clear kI0 kI1 kI2 kI3 kI4 kI5 kI6
  refine (HS.out _).mono ?_
  rintro e w4 ⟨rfl, hf⟩
  have HI := Lib.hid (HI.out.fr hf id)
  have HF := Lib.hid (HF.out.trans hf (fun _ _ => id))
  clear hf
  go_wp2_with fail
  refine (HD.out _).mono ?_
  rintro e w5 ⟨rfl, hf⟩
  have HI := Lib.hid (HI.out.fr hf id)
  have HF := Lib.hid (HF.out.trans hf (fun _ _ => id))
  clear hf
  have HI := Lib.hid (HI.out.alloc (.cells #[.int .i64 x0, .int .i64 x1, .int .i64 x2, .int .i64 x3, .int .i64 x4, .int .i64 x5, .int .i64 x6] 24))
  have HF := Lib.hid (HF.out.alloc (.cells #[.int .i64 x0, .int .i64 x1, .int .i64 x2, .int .i64 x3, .int .i64 x4, .int .i64 x5, .int .i64 x6] 24))
  have HJ := Lib.hid (Blk.new w5 24 #[.int .i64 x0, .int .i64 x1, .int .i64 x2, .int .i64 x3, .int .i64 x4, .int .i64 x5, .int .i64 x6])
  obtain ⟨kI0, kI1, kI2, kI3, kI4, kI5, kI6⟩ := (show _ ∧ _ ∧ _ ∧ _ ∧ _ ∧ _ ∧ _ from ⟨HI.out.cell 0, HI.out.cell 1, HI.out.cell 2, HI.out.cell 3, HI.out.cell 4, HI.out.cell 5, HI.out.cell 6⟩)
  simp at kI0 kI1 kI2 kI3 kI4 kI5 kI6
  obtain ⟨kJ0, kJ1, kJ2, kJ3, kJ4, kJ5, kJ6⟩ := (show _ ∧ _ ∧ _ ∧ _ ∧ _ ∧ _ ∧ _ from ⟨HJ.out.cell 0, HJ.out.cell 1, HJ.out.cell 2, HJ.out.cell 3, HJ.out.cell 4, HJ.out.cell 5, HJ.out.cell 6⟩)
  simp at kJ0 kJ1 kJ2 kJ3 kJ4 kJ5 kJ6
  go_wp2_with fail
  go_ret
  exact ⟨by first | rfl | simp, HF.out⟩
theorem encodes_walk (v : Value) (w : World) (h : IsInst v) : Calls Try.prog 6 #[v] w fun e w' => e = .returned (.bool true) ∧ Below w.heap.size w w' := by
  obtain ⟨x0, x1, x2, x3, x4, x5, x6, rfl⟩ := h
  obtain ⟨⟨n, ok⟩, he⟩ : ∃ p, EncE (x0, x1, x2, x3, x4, x5, x6) = p := ⟨_, rfl⟩
  cases ok
  · exact (encodes_0 x0 x1 x2 x3 x4 x5 x6 n w he).mono fun _ _ g => ⟨g.1, Fr.below (Below.refl _ _) g.2 (fun _ _ => id)⟩
  · exact (encodes_1 x0 x1 x2 x3 x4 x5 x6 n w he).mono fun _ _ g => ⟨g.1, Fr.below (Below.refl _ _) g.2 (fun _ _ => id)⟩
end Go.Proofs.Ytnopppamfleniaa.Ins
