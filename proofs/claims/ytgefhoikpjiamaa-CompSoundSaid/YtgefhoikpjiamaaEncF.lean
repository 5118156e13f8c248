/- inst.Encode and Sound, walked: for every instruction they answer as their plain twins say. What an instruction that a word has looks like. -/
import Derived.Test.YtgefhoikpjiamaaEncD
import Derived.Test.YtgefhoikpjiamaaInsD
namespace Go.Proofs.Ytgefhoikpjiamaa.Ins
open Go Go.RowKit Go.Proofs.YtgefhoikpjiamaaW.PrintWords Go.Proofs.YtgefhoikpjiamaaW.PrintLast Go.Proofs.YtgefhoikpjiamaaW.PrintMore
open Go.Proofs.Ytgefhoikpjiamaa.Hp Go.Proofs.Ytgefhoikpjiamaa.Bv
attribute [local go_sem] max2_int min2_int max_two min_two max_three min_three max_four min_four
set_option linter.unusedVariables false
set_option linter.unusedSimpArgs false

theorem bits_u32 (op : BinOp) (a b : Int) : 0 ≤ Go.bits op .u32 a b ∧ Go.bits op .u32 a b < 4294967296 := by
  have h : ∀ n : Int, 0 ≤ IntKind.u32.wrap n ∧ IntKind.u32.wrap n < 4294967296 := fun n => by rw [IntKind.wrap_u32]; omega
  unfold Go.bits
  exact h _
theorem layE_u32 (o f3 f7 d s t : Int) : 0 ≤ layE o f3 f7 d s t ∧ layE o f3 f7 d s t < 4294967296 := by
  unfold layE
  omega
theorem upE_u32 (i : I7) : 0 ≤ (upE i).1 ∧ (upE i).1 < 4294967296 := by
  obtain ⟨x0, x1, x2, x3, x4, x5, x6⟩ := i
  unfold upE InsG.inst_upper.f InsG.inst_splitJ.f
  simp only [Option.bind_some]
  repeat' split
  all_goals first | exact bits_u32 _ _ _ | (simp only [Option.getD_some]; exact bits_u32 _ _ _) | (simp only [Option.getD_some]; omega)
theorem shE_u32 (i : I7) : 0 ≤ (shE i).1 ∧ (shE i).1 < 4294967296 := by
  unfold shE shW
  repeat' split
  all_goals first | (dsimp only; exact bits_u32 _ _ _) | (dsimp only; omega)
theorem midE_u32 (i : I7) : 0 ≤ (midE i).1 ∧ (midE i).1 < 4294967296 := by
  unfold midE
  repeat' split
  all_goals first | (dsimp only; exact bits_u32 _ _ _) | (dsimp only; exact layE_u32 _ _ _ _ _ _) | (dsimp only; omega)
theorem encE_u32 (i : I7) : 0 ≤ (encE i).1 ∧ (encE i).1 < 4294967296 := by
  unfold encE
  repeat' split
  all_goals first | exact upE_u32 i | exact shE_u32 i | exact midE_u32 i | (dsimp only; exact layE_u32 _ _ _ _ _ _) | (dsimp only; omega)
def encN (i : I7) : Nat := (encE i).1.toNat
theorem encN_eq (i : I7) : (encE i).1 = (encN i : Int) ∧ encN i < 4294967296 := by
  have h := encE_u32 i
  unfold encN
  omega
noncomputable instance i7dec : DecidableEq (I7 × Bool) := fun _ _ => Classical.propDecidable _
/-- What Encode answers. -/
noncomputable def EncE (i : I7) : Nat × Bool := if (encE i).2 = true ∧ decP (encN i) = (i, true) then (encN i, true) else (0, false)
theorem EncE_u32 (i : I7) : (EncE i).1 < 4294967296 := by
  unfold EncE
  split
  · exact (encN_eq i).2
  · show 0 < 4294967296
    omega
theorem EncE_yes {i : I7} {n : Nat} (h : EncE i = (n, true)) : decP n = (i, true) := by
  unfold EncE at h
  split at h
  · rename_i c
    injection h with h1 _
    rw [← h1]
    exact c.2
  · injection h with _ h2
    cases h2
theorem EncE_no {i : I7} {n : Nat} (h : EncE i = (n, false)) : n = 0 := by
  unfold EncE at h
  split at h
  · injection h with _ h2
    cases h2
  · injection h with h1 _
    exact h1.symm
theorem eqg_i64 (x y : Int) (w : World) : (Op.equalIn 9999 3 (.int .i64 x) (.int .i64 y)).run Try.prog w = .ok (x == y) w := by
  rw [run_equalIn_int (P := Try.prog) w 9998 3 .i64 .i64 x y Try.underlying3]
theorem eqin_instg (x0 x1 x2 x3 x4 x5 x6 y0 y1 y2 y3 y4 y5 y6 : Int) (w : World) : (Op.equalIn 10000 25 (.agg #[.int .i64 x0, .int .i64 x1, .int .i64 x2, .int .i64 x3, .int .i64 x4, .int .i64 x5, .int .i64 x6]) (.agg #[.int .i64 y0, .int .i64 y1, .int .i64 y2, .int .i64 y3, .int .i64 y4, .int .i64 y5, .int .i64 y6])).run Try.prog w = .ok (x0 == y0 && (x1 == y1 && (x2 == y2 && (x3 == y3 && (x4 == y4 && (x5 == y5 && (x6 == y6))))))) w :=
  eqA_of Try.underlying25 (by kernel_rfl) (eqf_cons (r := (x0 == y0)) (by kernel_rfl) (a := .int .i64 x0) (b := .int .i64 y0) (by kernel_rfl) (by kernel_rfl) (eqg_i64 _ _ _) (eqf_cons (r := (x1 == y1)) (by kernel_rfl) (a := .int .i64 x1) (b := .int .i64 y1) (by kernel_rfl) (by kernel_rfl) (eqg_i64 _ _ _) (eqf_cons (r := (x2 == y2)) (by kernel_rfl) (a := .int .i64 x2) (b := .int .i64 y2) (by kernel_rfl) (by kernel_rfl) (eqg_i64 _ _ _) (eqf_cons (r := (x3 == y3)) (by kernel_rfl) (a := .int .i64 x3) (b := .int .i64 y3) (by kernel_rfl) (by kernel_rfl) (eqg_i64 _ _ _) (eqf_cons (r := (x4 == y4)) (by kernel_rfl) (a := .int .i64 x4) (b := .int .i64 y4) (by kernel_rfl) (by kernel_rfl) (eqg_i64 _ _ _) (eqf_cons (r := (x5 == y5)) (by kernel_rfl) (a := .int .i64 x5) (b := .int .i64 y5) (by kernel_rfl) (by kernel_rfl) (eqg_i64 _ _ _) (eqf_last (r := (x6 == y6)) (by kernel_rfl) (a := .int .i64 x6) (b := .int .i64 y6) (by kernel_rfl) (by kernel_rfl) (eqg_i64 _ _ _))))))))
theorem i7_beq (x0 x1 x2 x3 x4 x5 x6 y0 y1 y2 y3 y4 y5 y6 : Int) : (x0 == y0 && (x1 == y1 && (x2 == y2 && (x3 == y3 && (x4 == y4 && (x5 == y5 && (x6 == y6))))))) = decide (((x0, x1, x2, x3, x4, x5, x6) : I7) = (y0, y1, y2, y3, y4, y5, y6)) := by
  rw [Bool.eq_iff_iff]
  simp [Prod.ext_iff]
theorem eqin_yes {x0 x1 x2 x3 x4 x5 x6 y0 y1 y2 y3 y4 y5 y6 : Int} (h : ((x0, x1, x2, x3, x4, x5, x6) : I7) = (y0, y1, y2, y3, y4, y5, y6)) (w : World) : (Op.equalIn 10000 25 (.agg #[.int .i64 x0, .int .i64 x1, .int .i64 x2, .int .i64 x3, .int .i64 x4, .int .i64 x5, .int .i64 x6]) (.agg #[.int .i64 y0, .int .i64 y1, .int .i64 y2, .int .i64 y3, .int .i64 y4, .int .i64 y5, .int .i64 y6])).run Try.prog w = .ok true w := by
  rw [eqin_instg, i7_beq, decide_eq_true h]
theorem eqin_no {x0 x1 x2 x3 x4 x5 x6 y0 y1 y2 y3 y4 y5 y6 : Int} (h : ((x0, x1, x2, x3, x4, x5, x6) : I7) ≠ (y0, y1, y2, y3, y4, y5, y6)) (w : World) : (Op.equalIn 10000 25 (.agg #[.int .i64 x0, .int .i64 x1, .int .i64 x2, .int .i64 x3, .int .i64 x4, .int .i64 x5, .int .i64 x6]) (.agg #[.int .i64 y0, .int .i64 y1, .int .i64 y2, .int .i64 y3, .int .i64 y4, .int .i64 y5, .int .i64 y6])).run Try.prog w = .ok false w := by
  rw [eqin_instg, i7_beq, decide_eq_false h]
theorem Encode_0 (x0 x1 x2 x3 x4 x5 x6 : Int) (n : Nat) (w : World) (he : encE (x0, x1, x2, x3, x4, x5, x6) = ((n : Int), false)) (hn : n < 4294967296) : Calls Try.prog 20 #[.agg #[.int .i64 x0, .int .i64 x1, .int .i64 x2, .int .i64 x3, .int .i64 x4, .int .i64 x5, .int .i64 x6]] w fun e w' => e = .returned (.tuple #[.int .u32 (0), .bool false]) ∧ Fr (fun _ => False) w w' := by
  have HE := Lib.hid (show ∀ W, Calls Try.prog 35 #[.agg #[.int .i64 x0, .int .i64 x1, .int .i64 x2, .int .i64 x3, .int .i64 x4, .int .i64 x5, .int .i64 x6]] W fun e w' => e = .returned (.tuple #[.int .u32 (n : Int), .bool false]) ∧ Fr (fun _ => False) W w' from fun W => by have e := encode_any x0 x1 x2 x3 x4 x5 x6 W; rw [he] at e; exact e)
  clear he
  have HI := Lib.hid (Blk.new w 25 #[.int .i64 x0, .int .i64 x1, .int .i64 x2, .int .i64 x3, .int .i64 x4, .int .i64 x5, .int .i64 x6])
  have HF := Lib.hid ((Fr.refl (fun _ => False) w).alloc (.cells #[.int .i64 x0, .int .i64 x1, .int .i64 x2, .int .i64 x3, .int .i64 x4, .int .i64 x5, .int .i64 x6] 25))
  go_enter Try.func20, Try.ntmps20
  go_wp2_with fail
  refine (HE.out _).mono ?_
  rintro e w2 ⟨rfl, hf⟩
  have HI := Lib.hid (HI.out.fr hf id)
  have HF := Lib.hid (HF.out.trans hf (fun _ _ => id))
  clear hf
  go_wp2_with fail
  go_ret2
  exact ⟨rfl, HF.out⟩
theorem Encode_1 (x0 x1 x2 x3 x4 x5 x6 y0 y1 y2 y3 y4 y5 y6 : Int) (n : Nat) (w : World) (he : encE (x0, x1, x2, x3, x4, x5, x6) = ((n : Int), true)) (hn : n < 4294967296) (hd : decP n = ((y0, y1, y2, y3, y4, y5, y6), false)) : Calls Try.prog 20 #[.agg #[.int .i64 x0, .int .i64 x1, .int .i64 x2, .int .i64 x3, .int .i64 x4, .int .i64 x5, .int .i64 x6]] w fun e w' => e = .returned (.tuple #[.int .u32 (0), .bool false]) ∧ Fr (fun _ => False) w w' := by
  have HE := Lib.hid (show ∀ W, Calls Try.prog 35 #[.agg #[.int .i64 x0, .int .i64 x1, .int .i64 x2, .int .i64 x3, .int .i64 x4, .int .i64 x5, .int .i64 x6]] W fun e w' => e = .returned (.tuple #[.int .u32 (n : Int), .bool true]) ∧ Fr (fun _ => False) W w' from fun W => by have e := encode_any x0 x1 x2 x3 x4 x5 x6 W; rw [he] at e; exact e)
  clear he
  have HD := Lib.hid (show ∀ W, Calls Try.prog 36 #[.int .u32 (n : Int)] W fun e w' => e = .returned (.tuple #[.agg #[.int .i64 y0, .int .i64 y1, .int .i64 y2, .int .i64 y3, .int .i64 y4, .int .i64 y5, .int .i64 y6], .bool false]) ∧ Fr (fun _ => False) W w' from fun W => by have e := dec_any n hn W; rw [hd] at e; exact e)
  clear hd
  have HI := Lib.hid (Blk.new w 25 #[.int .i64 x0, .int .i64 x1, .int .i64 x2, .int .i64 x3, .int .i64 x4, .int .i64 x5, .int .i64 x6])
  have HF := Lib.hid ((Fr.refl (fun _ => False) w).alloc (.cells #[.int .i64 x0, .int .i64 x1, .int .i64 x2, .int .i64 x3, .int .i64 x4, .int .i64 x5, .int .i64 x6] 25))
  go_enter Try.func20, Try.ntmps20
  go_wp2_with fail
  refine (HE.out _).mono ?_
  rintro e w2 ⟨rfl, hf⟩
  have HI := Lib.hid (HI.out.fr hf id)
  have HF := Lib.hid (HF.out.trans hf (fun _ _ => id))
  clear hf
  go_wp2_with fail
  refine (HD.out _).mono ?_
  rintro e w3 ⟨rfl, hf⟩
  have HI := Lib.hid ((HI.out.fr hf id).alloc (.cells #[.int .i64 y0, .int .i64 y1, .int .i64 y2, .int .i64 y3, .int .i64 y4, .int .i64 y5, .int .i64 y6] 25))
  have HJ := Lib.hid (Blk.new w3 25 #[.int .i64 y0, .int .i64 y1, .int .i64 y2, .int .i64 y3, .int .i64 y4, .int .i64 y5, .int .i64 y6])
  have HF := Lib.hid ((HF.out.trans hf (fun _ _ => id)).alloc (.cells #[.int .i64 y0, .int .i64 y1, .int .i64 y2, .int .i64 y3, .int .i64 y4, .int .i64 y5, .int .i64 y6] 25))
  clear hf
  obtain ⟨kI0, kI1, kI2, kI3, kI4, kI5, kI6, _, _, _, _, _, _, _⟩ := blkat7 HI.out
  obtain ⟨kJ0, kJ1, kJ2, kJ3, kJ4, kJ5, kJ6, _, _, _, _, _, _, _⟩ := blkat7 HJ.out
  go_wp2_with fail
  go_ret2
  exact ⟨rfl, HF.out⟩
theorem Encode_2 (x0 x1 x2 x3 x4 x5 x6 y0 y1 y2 y3 y4 y5 y6 : Int) (n : Nat) (w : World) (he : encE (x0, x1, x2, x3, x4, x5, x6) = ((n : Int), true)) (hn : n < 4294967296) (hd : decP n = ((y0, y1, y2, y3, y4, y5, y6), true)) (hne : ((y0, y1, y2, y3, y4, y5, y6) : I7) ≠ (x0, x1, x2, x3, x4, x5, x6)) : Calls Try.prog 20 #[.agg #[.int .i64 x0, .int .i64 x1, .int .i64 x2, .int .i64 x3, .int .i64 x4, .int .i64 x5, .int .i64 x6]] w fun e w' => e = .returned (.tuple #[.int .u32 (0), .bool false]) ∧ Fr (fun _ => False) w w' := by
  have HE := Lib.hid (show ∀ W, Calls Try.prog 35 #[.agg #[.int .i64 x0, .int .i64 x1, .int .i64 x2, .int .i64 x3, .int .i64 x4, .int .i64 x5, .int .i64 x6]] W fun e w' => e = .returned (.tuple #[.int .u32 (n : Int), .bool true]) ∧ Fr (fun _ => False) W w' from fun W => by have e := encode_any x0 x1 x2 x3 x4 x5 x6 W; rw [he] at e; exact e)
  clear he
  have HD := Lib.hid (show ∀ W, Calls Try.prog 36 #[.int .u32 (n : Int)] W fun e w' => e = .returned (.tuple #[.agg #[.int .i64 y0, .int .i64 y1, .int .i64 y2, .int .i64 y3, .int .i64 y4, .int .i64 y5, .int .i64 y6], .bool true]) ∧ Fr (fun _ => False) W w' from fun W => by have e := dec_any n hn W; rw [hd] at e; exact e)
  clear hd
  have hq := eqin_no hne
  clear hne
  have HI := Lib.hid (Blk.new w 25 #[.int .i64 x0, .int .i64 x1, .int .i64 x2, .int .i64 x3, .int .i64 x4, .int .i64 x5, .int .i64 x6])
  have HF := Lib.hid ((Fr.refl (fun _ => False) w).alloc (.cells #[.int .i64 x0, .int .i64 x1, .int .i64 x2, .int .i64 x3, .int .i64 x4, .int .i64 x5, .int .i64 x6] 25))
  go_enter Try.func20, Try.ntmps20
  go_wp2_with fail
  refine (HE.out _).mono ?_
  rintro e w2 ⟨rfl, hf⟩
  have HI := Lib.hid (HI.out.fr hf id)
  have HF := Lib.hid (HF.out.trans hf (fun _ _ => id))
  clear hf
  go_wp2_with fail
  refine (HD.out _).mono ?_
  rintro e w3 ⟨rfl, hf⟩
  have HI := Lib.hid ((HI.out.fr hf id).alloc (.cells #[.int .i64 y0, .int .i64 y1, .int .i64 y2, .int .i64 y3, .int .i64 y4, .int .i64 y5, .int .i64 y6] 25))
  have HJ := Lib.hid (Blk.new w3 25 #[.int .i64 y0, .int .i64 y1, .int .i64 y2, .int .i64 y3, .int .i64 y4, .int .i64 y5, .int .i64 y6])
  have HF := Lib.hid ((HF.out.trans hf (fun _ _ => id)).alloc (.cells #[.int .i64 y0, .int .i64 y1, .int .i64 y2, .int .i64 y3, .int .i64 y4, .int .i64 y5, .int .i64 y6] 25))
  clear hf
  obtain ⟨kI0, kI1, kI2, kI3, kI4, kI5, kI6, _, _, _, _, _, _, _⟩ := blkat7 HI.out
  obtain ⟨kJ0, kJ1, kJ2, kJ3, kJ4, kJ5, kJ6, _, _, _, _, _, _, _⟩ := blkat7 HJ.out
  go_wp2_with fail
  go_ret2
  exact ⟨rfl, HF.out⟩
theorem Encode_3 (x0 x1 x2 x3 x4 x5 x6 y0 y1 y2 y3 y4 y5 y6 : Int) (n : Nat) (w : World) (he : encE (x0, x1, x2, x3, x4, x5, x6) = ((n : Int), true)) (hn : n < 4294967296) (hd : decP n = ((y0, y1, y2, y3, y4, y5, y6), true)) (hne : ((y0, y1, y2, y3, y4, y5, y6) : I7) = (x0, x1, x2, x3, x4, x5, x6)) : Calls Try.prog 20 #[.agg #[.int .i64 x0, .int .i64 x1, .int .i64 x2, .int .i64 x3, .int .i64 x4, .int .i64 x5, .int .i64 x6]] w fun e w' => e = .returned (.tuple #[.int .u32 ((n : Int)), .bool true]) ∧ Fr (fun _ => False) w w' := by
  have HE := Lib.hid (show ∀ W, Calls Try.prog 35 #[.agg #[.int .i64 x0, .int .i64 x1, .int .i64 x2, .int .i64 x3, .int .i64 x4, .int .i64 x5, .int .i64 x6]] W fun e w' => e = .returned (.tuple #[.int .u32 (n : Int), .bool true]) ∧ Fr (fun _ => False) W w' from fun W => by have e := encode_any x0 x1 x2 x3 x4 x5 x6 W; rw [he] at e; exact e)
  clear he
  have HD := Lib.hid (show ∀ W, Calls Try.prog 36 #[.int .u32 (n : Int)] W fun e w' => e = .returned (.tuple #[.agg #[.int .i64 y0, .int .i64 y1, .int .i64 y2, .int .i64 y3, .int .i64 y4, .int .i64 y5, .int .i64 y6], .bool true]) ∧ Fr (fun _ => False) W w' from fun W => by have e := dec_any n hn W; rw [hd] at e; exact e)
  clear hd
  have hq := eqin_yes hne
  clear hne
  have HI := Lib.hid (Blk.new w 25 #[.int .i64 x0, .int .i64 x1, .int .i64 x2, .int .i64 x3, .int .i64 x4, .int .i64 x5, .int .i64 x6])
  have HF := Lib.hid ((Fr.refl (fun _ => False) w).alloc (.cells #[.int .i64 x0, .int .i64 x1, .int .i64 x2, .int .i64 x3, .int .i64 x4, .int .i64 x5, .int .i64 x6] 25))
  go_enter Try.func20, Try.ntmps20
  go_wp2_with fail
  refine (HE.out _).mono ?_
  rintro e w2 ⟨rfl, hf⟩
  have HI := Lib.hid (HI.out.fr hf id)
  have HF := Lib.hid (HF.out.trans hf (fun _ _ => id))
  clear hf
  go_wp2_with fail
  refine (HD.out _).mono ?_
  rintro e w3 ⟨rfl, hf⟩
  have HI := Lib.hid ((HI.out.fr hf id).alloc (.cells #[.int .i64 y0, .int .i64 y1, .int .i64 y2, .int .i64 y3, .int .i64 y4, .int .i64 y5, .int .i64 y6] 25))
  have HJ := Lib.hid (Blk.new w3 25 #[.int .i64 y0, .int .i64 y1, .int .i64 y2, .int .i64 y3, .int .i64 y4, .int .i64 y5, .int .i64 y6])
  have HF := Lib.hid ((HF.out.trans hf (fun _ _ => id)).alloc (.cells #[.int .i64 y0, .int .i64 y1, .int .i64 y2, .int .i64 y3, .int .i64 y4, .int .i64 y5, .int .i64 y6] 25))
  clear hf
  obtain ⟨kI0, kI1, kI2, kI3, kI4, kI5, kI6, _, _, _, _, _, _, _⟩ := blkat7 HI.out
  obtain ⟨kJ0, kJ1, kJ2, kJ3, kJ4, kJ5, kJ6, _, _, _, _, _, _, _⟩ := blkat7 HJ.out
  go_wp2_with fail
  go_ret2
  exact ⟨rfl, HF.out⟩
theorem Encode_any (x0 x1 x2 x3 x4 x5 x6 : Int) (w : World) : Calls Try.prog 20 #[.agg #[.int .i64 x0, .int .i64 x1, .int .i64 x2, .int .i64 x3, .int .i64 x4, .int .i64 x5, .int .i64 x6]] w fun e w' => e = .returned (.tuple #[.int .u32 ((EncE (x0, x1, x2, x3, x4, x5, x6)).1 : Int), .bool (EncE (x0, x1, x2, x3, x4, x5, x6)).2]) ∧ Fr (fun _ => False) w w' := by
  have hn := encN_eq (x0, x1, x2, x3, x4, x5, x6)
  have hE : EncE (x0, x1, x2, x3, x4, x5, x6) = if (encE (x0, x1, x2, x3, x4, x5, x6)).2 = true ∧ decP (encN (x0, x1, x2, x3, x4, x5, x6)) = ((x0, x1, x2, x3, x4, x5, x6), true) then (encN (x0, x1, x2, x3, x4, x5, x6), true) else (0, false) := rfl
  rw [hE]
  clear hE
  generalize encN (x0, x1, x2, x3, x4, x5, x6) = n at *
  obtain ⟨⟨z, ok⟩, he⟩ : ∃ p, encE (x0, x1, x2, x3, x4, x5, x6) = p := ⟨_, rfl⟩
  rw [he] at hn ⊢
  obtain ⟨rfl, hn⟩ := hn
  cases ok
  case false =>
    rw [if_neg (by simp)]
    exact Encode_0 x0 x1 x2 x3 x4 x5 x6 n w he hn
  case true =>
    obtain ⟨⟨⟨y0, y1, y2, y3, y4, y5, y6⟩, b⟩, hd⟩ : ∃ p, decP n = p := ⟨_, rfl⟩
    rw [hd]
    cases b
    case false =>
      rw [if_neg (by simp)]
      exact Encode_1 x0 x1 x2 x3 x4 x5 x6 y0 y1 y2 y3 y4 y5 y6 n w he hn hd
    case true =>
      by_cases hne : ((y0, y1, y2, y3, y4, y5, y6) : I7) = (x0, x1, x2, x3, x4, x5, x6)
      · rw [if_pos ⟨rfl, by rw [hne]⟩]
        exact Encode_3 x0 x1 x2 x3 x4 x5 x6 y0 y1 y2 y3 y4 y5 y6 n w he hn hd hne
      · rw [if_neg (fun h => hne (Prod.mk.inj h.2).1)]
        exact Encode_2 x0 x1 x2 x3 x4 x5 x6 y0 y1 y2 y3 y4 y5 y6 n w he hn hd hne
theorem Sound_any (x0 x1 x2 x3 x4 x5 x6 : Int) (w : World) : Calls Try.prog 11 #[.agg #[.int .i64 x0, .int .i64 x1, .int .i64 x2, .int .i64 x3, .int .i64 x4, .int .i64 x5, .int .i64 x6]] w fun e w' => e = .returned (.bool (EncE (x0, x1, x2, x3, x4, x5, x6)).2) ∧ Fr (fun _ => False) w w' := by
  have HE := Lib.hid (Encode_any x0 x1 x2 x3 x4 x5 x6)
  obtain ⟨⟨n, ok⟩, he⟩ : ∃ p, EncE (x0, x1, x2, x3, x4, x5, x6) = p := ⟨_, rfl⟩
  rw [he] at HE ⊢
  clear he
  dsimp only at HE ⊢
  have HF := Lib.hid ((Fr.refl (fun _ => False) w).alloc (.cells #[.int .i64 x0, .int .i64 x1, .int .i64 x2, .int .i64 x3, .int .i64 x4, .int .i64 x5, .int .i64 x6] 25))
  go_enter Try.func11, Try.ntmps11
  go_wp2_with fail
  refine (HE.out _).mono ?_
  rintro e w2 ⟨rfl, hf⟩
  have HF := Lib.hid (HF.out.trans hf (fun _ _ => id))
  clear hf
  go_wp2_with fail
  go_ret
  exact ⟨rfl, HF.out⟩
/-- What the fields of a word's instruction are. -/
def rng (i : I7) : Prop := (0 ≤ i.2.1 ∧ i.2.1 < 32) ∧ (0 ≤ i.2.2.1 ∧ i.2.2.1 < 32) ∧ (0 ≤ i.2.2.2.1 ∧ i.2.2.2.1 < 32) ∧ (0 ≤ i.2.2.2.2.2.1 ∧ i.2.2.2.2.2.1 < 4)
theorem fld5 (w a : Nat) : 0 ≤ ((fld w a 5 : Nat) : Int) ∧ ((fld w a 5 : Nat) : Int) < 32 := by
  have : fld w a 5 < 32 := Nat.mod_lt _ (by decide)
  omega
theorem fld2 (w a : Nat) : 0 ≤ ((fld w a 2 : Nat) : Int) ∧ ((fld w a 2 : Nat) : Int) < 4 := by
  have : fld w a 2 < 4 := Nat.mod_lt _ (by decide)
  omega
theorem z32 : (0 : Int) ≤ 0 ∧ (0 : Int) < 32 := by omega
theorem z4 : (0 : Int) ≤ 0 ∧ (0 : Int) < 4 := by omega
theorem rng_regs {w : Nat} {i : I7} (h : rng i) : rng (regsP w i) := ⟨fld5 _ _, fld5 _ _, h.2.2.1, h.2.2.2⟩
theorem rng_i0 : rng i0 := ⟨z32, z32, z32, z4⟩
theorem rng_shift (w : Nat) (l r s : Int) (k : Nat) : rng (shiftP w l r s k) := by
  unfold shiftP
  repeat' split
  all_goals exact ⟨z32, z32, z32, z4⟩
theorem rng_kind (w : Nat) : rng (kindP w) := by
  unfold kindP
  repeat' split
  · exact ⟨fld5 _ _, z32, z32, z4⟩
  · exact ⟨fld5 _ _, z32, z32, z4⟩
  · exact ⟨fld5 _ _, z32, z32, z4⟩
  · exact ⟨z32, fld5 _ _, fld5 _ _, z4⟩
  · exact ⟨z32, fld5 _ _, fld5 _ _, z4⟩
  · exact ⟨fld5 _ _, fld5 _ _, fld5 _ _, z4⟩
  · exact ⟨fld5 _ _, fld5 _ _, fld5 _ _, z4⟩
  · refine rng_regs ?_
    unfold atomicP
    split
    · exact rng_i0
    · exact ⟨z32, z32, fld5 _ _, fld2 _ _⟩
  · unfold otherP
    repeat' split
    all_goals exact ⟨z32, z32, z32, z4⟩
  · refine rng_regs ?_
    unfold withImmP
    repeat' split
    all_goals first | exact rng_shift _ _ _ _ _ | exact ⟨z32, z32, z32, z4⟩
theorem dec_rng {w : Nat} {i : I7} (h : decP w = (i, true)) : rng i ∧ i.2.2.2.2.2.2 = 4 := by
  unfold decP size4 at h
  split at h
  · injection h with _ h2
    cases h2
  · injection h with h1 _
    subst h1
    exact ⟨rng_kind w, rfl⟩
end Go.Proofs.Ytgefhoikpjiamaa.Ins
