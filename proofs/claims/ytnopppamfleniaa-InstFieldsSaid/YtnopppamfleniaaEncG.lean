/- The law InstApart, walked. No further condition. -/
import Derived.Test.YtnopppamfleniaaEncF
namespace Go.Proofs.Ytnopppamfleniaa.Ins
open Go Go.RowKit Go.Proofs.YtnopppamfleniaaW.PrintWords Go.Proofs.YtnopppamfleniaaW.PrintLast Go.Proofs.YtnopppamfleniaaW.PrintMore
open Go.Proofs.Ytnopppamfleniaa.Hp Go.Proofs.Ytnopppamfleniaa.Bv
attribute [local go_sem] max2_int min2_int max_two min_two max_three min_three max_four min_four
set_option linter.unusedVariables false
set_option linter.unusedSimpArgs false

open Go.ChangeShapes Go.WideShapes
/-- A value that is an instruction. -/
def IsInst (v : Value) : Prop := ∃ x0 x1 x2 x3 x4 x5 x6 : Int, v = .agg #[.int .i64 x0, .int .i64 x1, .int .i64 x2, .int .i64 x3, .int .i64 x4, .int .i64 x5, .int .i64 x6]
theorem open_inst {H : Type} {enc : TypeId × Value → H} {W : World} {base : Nat} {v : Value} {d : DataW H} {p : List MemPlace} (hv : Value.okWide Try.prog W .any base 24 v)
    (h : DataW.Trod enc Try.prog W 0 (fun _ => true) true 24 v d p) : IsInst v := by
  obtain ⟨cs, rfl, hsz⟩ := okWide_struct Try.underlying24 hv
  obtain ⟨l⟩ := cs
  have q3 : Try.prog.cellsOf 3 = 1 := by kernel_rfl
  have q24 : Try.prog.cellsOf 24 = 7 := by kernel_rfl
  match l, hsz.trans q24 with
  | [c0, c1, c2, c3, c4, c5, c6], _ =>
    obtain ⟨fuel, hf⟩ := h
    obtain ⟨xs, n, _, _, _, hlen, hg⟩ := DataW.trod_struct Try.underlying24 hf
    match xs, hlen with
    | [y0, y1, y2, y3, y4, y5, y6], _ =>
      have f0 := hg 0 _ rfl
      have f1 := hg 1 _ rfl
      have f2 := hg 2 _ rfl
      have f3 := hg 3 _ rfl
      have f4 := hg 4 _ rfl
      have f5 := hg 5 _ rfl
      have f6 := hg 6 _ rfl
      simp [q3, Value.cells] at f0 f1 f2 f3 f4 f5 f6
      obtain ⟨n0, e0, _, _⟩ := DataW.trod_int Try.underlying3 f0
      obtain ⟨n1, e1, _, _⟩ := DataW.trod_int Try.underlying3 f1
      obtain ⟨n2, e2, _, _⟩ := DataW.trod_int Try.underlying3 f2
      obtain ⟨n3, e3, _, _⟩ := DataW.trod_int Try.underlying3 f3
      obtain ⟨n4, e4, _, _⟩ := DataW.trod_int Try.underlying3 f4
      obtain ⟨n5, e5, _, _⟩ := DataW.trod_int Try.underlying3 f5
      obtain ⟨n6, e6, _, _⟩ := DataW.trod_int Try.underlying3 f6
      simp at e0 e1 e2 e3 e4 e5 e6
      subst e0 e1 e2 e3 e4 e5 e6
      exact ⟨n0, n1, n2, n3, n4, n5, n6, rfl⟩
theorem apart_0 (x0 x1 x2 x3 x4 x5 x6 y0 y1 y2 y3 y4 y5 y6 : Int) (n m : Nat) (ok : Bool) (w : World) (he : EncE (x0, x1, x2, x3, x4, x5, x6) = (n, false)) (hg : EncE (y0, y1, y2, y3, y4, y5, y6) = (m, ok))  : Calls Try.prog 5 #[.agg #[.int .i64 x0, .int .i64 x1, .int .i64 x2, .int .i64 x3, .int .i64 x4, .int .i64 x5, .int .i64 x6], .agg #[.int .i64 y0, .int .i64 y1, .int .i64 y2, .int .i64 y3, .int .i64 y4, .int .i64 y5, .int .i64 y6]] w fun e w' => e = .returned (.bool true) ∧ Fr (fun _ => False) w w' := by
  have HE := Lib.hid (show ∀ W, Calls Try.prog 12 #[.agg #[.int .i64 x0, .int .i64 x1, .int .i64 x2, .int .i64 x3, .int .i64 x4, .int .i64 x5, .int .i64 x6]] W fun e w' => e = .returned (.tuple #[.int .u32 ((n : Nat) : Int), .bool false]) ∧ Fr (fun _ => False) W w' from fun W => by have e := Encode_any x0 x1 x2 x3 x4 x5 x6 W; rw [he] at e; exact e)
  have HG := Lib.hid (show ∀ W, Calls Try.prog 12 #[.agg #[.int .i64 y0, .int .i64 y1, .int .i64 y2, .int .i64 y3, .int .i64 y4, .int .i64 y5, .int .i64 y6]] W fun e w' => e = .returned (.tuple #[.int .u32 ((m : Nat) : Int), .bool ok]) ∧ Fr (fun _ => False) W w' from fun W => by have e := Encode_any y0 y1 y2 y3 y4 y5 y6 W; rw [hg] at e; exact e)
  clear he hg
  have HI := Lib.hid ((Blk.new w 24 #[.int .i64 x0, .int .i64 x1, .int .i64 x2, .int .i64 x3, .int .i64 x4, .int .i64 x5, .int .i64 x6]).alloc (.cells #[.int .i64 y0, .int .i64 y1, .int .i64 y2, .int .i64 y3, .int .i64 y4, .int .i64 y5, .int .i64 y6] 24))
  have HJ := Lib.hid (Blk.new (w.alloc (.cells #[.int .i64 x0, .int .i64 x1, .int .i64 x2, .int .i64 x3, .int .i64 x4, .int .i64 x5, .int .i64 x6] 24)) 24 #[.int .i64 y0, .int .i64 y1, .int .i64 y2, .int .i64 y3, .int .i64 y4, .int .i64 y5, .int .i64 y6])
  rw [size_alloc1] at HJ
  have HF := Lib.hid (((Fr.refl (fun _ => False) w).alloc (.cells #[.int .i64 x0, .int .i64 x1, .int .i64 x2, .int .i64 x3, .int .i64 x4, .int .i64 x5, .int .i64 x6] 24)).alloc (.cells #[.int .i64 y0, .int .i64 y1, .int .i64 y2, .int .i64 y3, .int .i64 y4, .int .i64 y5, .int .i64 y6] 24))
  generalize hwz : (w.alloc (.cells #[.int .i64 x0, .int .i64 x1, .int .i64 x2, .int .i64 x3, .int .i64 x4, .int .i64 x5, .int .i64 x6] 24)).alloc (.cells #[.int .i64 y0, .int .i64 y1, .int .i64 y2, .int .i64 y3, .int .i64 y4, .int .i64 y5, .int .i64 y6] 24) = wz at *
  go_enter Try.func5, Try.ntmps5
  obtain ⟨kI0, kI1, kI2, kI3, kI4, kI5, kI6⟩ := (show _ ∧ _ ∧ _ ∧ _ ∧ _ ∧ _ ∧ _ from ⟨HI.out.cell 0, HI.out.cell 1, HI.out.cell 2, HI.out.cell 3, HI.out.cell 4, HI.out.cell 5, HI.out.cell 6⟩)
  simp at kI0 kI1 kI2 kI3 kI4 kI5 kI6
  go_upto_region 1 with (fail)
  try rw [hwz]
  clear hwz
  go_wp2_with fail
  clear kI0 kI1 kI2 kI3 kI4 kI5 kI6
  refine (HE.out _).mono ?_
  rintro e w2 ⟨rfl, hf⟩
  have HI := Lib.hid (HI.out.fr hf id)
  have HJ := Lib.hid (HJ.out.fr hf id)
  have HF := Lib.hid (HF.out.trans hf (fun _ _ => id))
  clear hf
  obtain ⟨kJ0, kJ1, kJ2, kJ3, kJ4, kJ5, kJ6⟩ := (show _ ∧ _ ∧ _ ∧ _ ∧ _ ∧ _ ∧ _ from ⟨HJ.out.cell 0, HJ.out.cell 1, HJ.out.cell 2, HJ.out.cell 3, HJ.out.cell 4, HJ.out.cell 5, HJ.out.cell 6⟩)
  simp at kJ0 kJ1 kJ2 kJ3 kJ4 kJ5 kJ6
  go_wp2_with fail
  clear kJ0 kJ1 kJ2 kJ3 kJ4 kJ5 kJ6
  refine (HG.out _).mono ?_
  rintro e w3 ⟨rfl, hf⟩
  have HI := Lib.hid (HI.out.fr hf id)
  have HJ := Lib.hid (HJ.out.fr hf id)
  have HF := Lib.hid (HF.out.trans hf (fun _ _ => id))
  clear hf
  go_wp2_with fail
  refine (answers_any _).mono ?_
  rintro e w4 ⟨rfl, hf⟩
  have HI := Lib.hid (HI.out.fr hf id)
  have HJ := Lib.hid (HJ.out.fr hf id)
  have HF := Lib.hid (HF.out.trans hf (fun _ _ => id))
  clear hf
  obtain ⟨kI0, kI1, kI2, kI3, kI4, kI5, kI6⟩ := (show _ ∧ _ ∧ _ ∧ _ ∧ _ ∧ _ ∧ _ from ⟨HI.out.cell 0, HI.out.cell 1, HI.out.cell 2, HI.out.cell 3, HI.out.cell 4, HI.out.cell 5, HI.out.cell 6⟩)
  simp at kI0 kI1 kI2 kI3 kI4 kI5 kI6
  obtain ⟨kJ0, kJ1, kJ2, kJ3, kJ4, kJ5, kJ6⟩ := (show _ ∧ _ ∧ _ ∧ _ ∧ _ ∧ _ ∧ _ from ⟨HJ.out.cell 0, HJ.out.cell 1, HJ.out.cell 2, HJ.out.cell 3, HJ.out.cell 4, HJ.out.cell 5, HJ.out.cell 6⟩)
  simp at kJ0 kJ1 kJ2 kJ3 kJ4 kJ5 kJ6
  go_wp2_with fail
  go_ret
  exact ⟨by first | rfl | simp, HF.out⟩
theorem apart_1 (x0 x1 x2 x3 x4 x5 x6 y0 y1 y2 y3 y4 y5 y6 : Int) (n m : Nat) (w : World) (he : EncE (x0, x1, x2, x3, x4, x5, x6) = (n, true)) (hg : EncE (y0, y1, y2, y3, y4, y5, y6) = (m, false))  : Calls Try.prog 5 #[.agg #[.int .i64 x0, .int .i64 x1, .int .i64 x2, .int .i64 x3, .int .i64 x4, .int .i64 x5, .int .i64 x6], .agg #[.int .i64 y0, .int .i64 y1, .int .i64 y2, .int .i64 y3, .int .i64 y4, .int .i64 y5, .int .i64 y6]] w fun e w' => e = .returned (.bool true) ∧ Fr (fun _ => False) w w' := by
  have HE := Lib.hid (show ∀ W, Calls Try.prog 12 #[.agg #[.int .i64 x0, .int .i64 x1, .int .i64 x2, .int .i64 x3, .int .i64 x4, .int .i64 x5, .int .i64 x6]] W fun e w' => e = .returned (.tuple #[.int .u32 ((n : Nat) : Int), .bool true]) ∧ Fr (fun _ => False) W w' from fun W => by have e := Encode_any x0 x1 x2 x3 x4 x5 x6 W; rw [he] at e; exact e)
  have HG := Lib.hid (show ∀ W, Calls Try.prog 12 #[.agg #[.int .i64 y0, .int .i64 y1, .int .i64 y2, .int .i64 y3, .int .i64 y4, .int .i64 y5, .int .i64 y6]] W fun e w' => e = .returned (.tuple #[.int .u32 ((m : Nat) : Int), .bool false]) ∧ Fr (fun _ => False) W w' from fun W => by have e := Encode_any y0 y1 y2 y3 y4 y5 y6 W; rw [hg] at e; exact e)
  clear he hg
  have HI := Lib.hid ((Blk.new w 24 #[.int .i64 x0, .int .i64 x1, .int .i64 x2, .int .i64 x3, .int .i64 x4, .int .i64 x5, .int .i64 x6]).alloc (.cells #[.int .i64 y0, .int .i64 y1, .int .i64 y2, .int .i64 y3, .int .i64 y4, .int .i64 y5, .int .i64 y6] 24))
  have HJ := Lib.hid (Blk.new (w.alloc (.cells #[.int .i64 x0, .int .i64 x1, .int .i64 x2, .int .i64 x3, .int .i64 x4, .int .i64 x5, .int .i64 x6] 24)) 24 #[.int .i64 y0, .int .i64 y1, .int .i64 y2, .int .i64 y3, .int .i64 y4, .int .i64 y5, .int .i64 y6])
  rw [size_alloc1] at HJ
  have HF := Lib.hid (((Fr.refl (fun _ => False) w).alloc (.cells #[.int .i64 x0, .int .i64 x1, .int .i64 x2, .int .i64 x3, .int .i64 x4, .int .i64 x5, .int .i64 x6] 24)).alloc (.cells #[.int .i64 y0, .int .i64 y1, .int .i64 y2, .int .i64 y3, .int .i64 y4, .int .i64 y5, .int .i64 y6] 24))
  generalize hwz : (w.alloc (.cells #[.int .i64 x0, .int .i64 x1, .int .i64 x2, .int .i64 x3, .int .i64 x4, .int .i64 x5, .int .i64 x6] 24)).alloc (.cells #[.int .i64 y0, .int .i64 y1, .int .i64 y2, .int .i64 y3, .int .i64 y4, .int .i64 y5, .int .i64 y6] 24) = wz at *
  go_enter Try.func5, Try.ntmps5
  obtain ⟨kI0, kI1, kI2, kI3, kI4, kI5, kI6⟩ := (show _ ∧ _ ∧ _ ∧ _ ∧ _ ∧ _ ∧ _ from ⟨HI.out.cell 0, HI.out.cell 1, HI.out.cell 2, HI.out.cell 3, HI.out.cell 4, HI.out.cell 5, HI.out.cell 6⟩)
  simp at kI0 kI1 kI2 kI3 kI4 kI5 kI6
  go_upto_region 1 with (fail)
  try rw [hwz]
  clear hwz
  go_wp2_with fail
  clear kI0 kI1 kI2 kI3 kI4 kI5 kI6
  refine (HE.out _).mono ?_
  rintro e w2 ⟨rfl, hf⟩
  have HI := Lib.hid (HI.out.fr hf id)
  have HJ := Lib.hid (HJ.out.fr hf id)
  have HF := Lib.hid (HF.out.trans hf (fun _ _ => id))
  clear hf
  obtain ⟨kJ0, kJ1, kJ2, kJ3, kJ4, kJ5, kJ6⟩ := (show _ ∧ _ ∧ _ ∧ _ ∧ _ ∧ _ ∧ _ from ⟨HJ.out.cell 0, HJ.out.cell 1, HJ.out.cell 2, HJ.out.cell 3, HJ.out.cell 4, HJ.out.cell 5, HJ.out.cell 6⟩)
  simp at kJ0 kJ1 kJ2 kJ3 kJ4 kJ5 kJ6
  go_wp2_with fail
  clear kJ0 kJ1 kJ2 kJ3 kJ4 kJ5 kJ6
  refine (HG.out _).mono ?_
  rintro e w3 ⟨rfl, hf⟩
  have HI := Lib.hid (HI.out.fr hf id)
  have HJ := Lib.hid (HJ.out.fr hf id)
  have HF := Lib.hid (HF.out.trans hf (fun _ _ => id))
  clear hf
  go_wp2_with fail
  refine (answers_any _).mono ?_
  rintro e w4 ⟨rfl, hf⟩
  have HI := Lib.hid (HI.out.fr hf id)
  have HJ := Lib.hid (HJ.out.fr hf id)
  have HF := Lib.hid (HF.out.trans hf (fun _ _ => id))
  clear hf
  obtain ⟨kI0, kI1, kI2, kI3, kI4, kI5, kI6⟩ := (show _ ∧ _ ∧ _ ∧ _ ∧ _ ∧ _ ∧ _ from ⟨HI.out.cell 0, HI.out.cell 1, HI.out.cell 2, HI.out.cell 3, HI.out.cell 4, HI.out.cell 5, HI.out.cell 6⟩)
  simp at kI0 kI1 kI2 kI3 kI4 kI5 kI6
  obtain ⟨kJ0, kJ1, kJ2, kJ3, kJ4, kJ5, kJ6⟩ := (show _ ∧ _ ∧ _ ∧ _ ∧ _ ∧ _ ∧ _ from ⟨HJ.out.cell 0, HJ.out.cell 1, HJ.out.cell 2, HJ.out.cell 3, HJ.out.cell 4, HJ.out.cell 5, HJ.out.cell 6⟩)
  simp at kJ0 kJ1 kJ2 kJ3 kJ4 kJ5 kJ6
  go_wp2_with fail
  go_ret
  exact ⟨by first | rfl | simp, HF.out⟩
theorem apart_2 (x0 x1 x2 x3 x4 x5 x6 : Int) (n : Nat) (w : World) (he : EncE (x0, x1, x2, x3, x4, x5, x6) = (n, true))  : Calls Try.prog 5 #[.agg #[.int .i64 x0, .int .i64 x1, .int .i64 x2, .int .i64 x3, .int .i64 x4, .int .i64 x5, .int .i64 x6], .agg #[.int .i64 x0, .int .i64 x1, .int .i64 x2, .int .i64 x3, .int .i64 x4, .int .i64 x5, .int .i64 x6]] w fun e w' => e = .returned (.bool true) ∧ Fr (fun _ => False) w w' := by
  have hq := eqin_yes (show ((x0, x1, x2, x3, x4, x5, x6) : I7) = (x0, x1, x2, x3, x4, x5, x6) from rfl)
  have t0 : ((n : Int) == (n : Int)) = true := beq_self_eq_true _
  have HE := Lib.hid (show ∀ W, Calls Try.prog 12 #[.agg #[.int .i64 x0, .int .i64 x1, .int .i64 x2, .int .i64 x3, .int .i64 x4, .int .i64 x5, .int .i64 x6]] W fun e w' => e = .returned (.tuple #[.int .u32 ((n : Nat) : Int), .bool true]) ∧ Fr (fun _ => False) W w' from fun W => by have e := Encode_any x0 x1 x2 x3 x4 x5 x6 W; rw [he] at e; exact e)
  have HG := Lib.hid (show ∀ W, Calls Try.prog 12 #[.agg #[.int .i64 x0, .int .i64 x1, .int .i64 x2, .int .i64 x3, .int .i64 x4, .int .i64 x5, .int .i64 x6]] W fun e w' => e = .returned (.tuple #[.int .u32 ((n : Nat) : Int), .bool true]) ∧ Fr (fun _ => False) W w' from fun W => by have e := Encode_any x0 x1 x2 x3 x4 x5 x6 W; rw [he] at e; exact e)
  clear he
  have HI := Lib.hid ((Blk.new w 24 #[.int .i64 x0, .int .i64 x1, .int .i64 x2, .int .i64 x3, .int .i64 x4, .int .i64 x5, .int .i64 x6]).alloc (.cells #[.int .i64 x0, .int .i64 x1, .int .i64 x2, .int .i64 x3, .int .i64 x4, .int .i64 x5, .int .i64 x6] 24))
  have HJ := Lib.hid (Blk.new (w.alloc (.cells #[.int .i64 x0, .int .i64 x1, .int .i64 x2, .int .i64 x3, .int .i64 x4, .int .i64 x5, .int .i64 x6] 24)) 24 #[.int .i64 x0, .int .i64 x1, .int .i64 x2, .int .i64 x3, .int .i64 x4, .int .i64 x5, .int .i64 x6])
  rw [size_alloc1] at HJ
  have HF := Lib.hid (((Fr.refl (fun _ => False) w).alloc (.cells #[.int .i64 x0, .int .i64 x1, .int .i64 x2, .int .i64 x3, .int .i64 x4, .int .i64 x5, .int .i64 x6] 24)).alloc (.cells #[.int .i64 x0, .int .i64 x1, .int .i64 x2, .int .i64 x3, .int .i64 x4, .int .i64 x5, .int .i64 x6] 24))
  generalize hwz : (w.alloc (.cells #[.int .i64 x0, .int .i64 x1, .int .i64 x2, .int .i64 x3, .int .i64 x4, .int .i64 x5, .int .i64 x6] 24)).alloc (.cells #[.int .i64 x0, .int .i64 x1, .int .i64 x2, .int .i64 x3, .int .i64 x4, .int .i64 x5, .int .i64 x6] 24) = wz at *
  go_enter Try.func5, Try.ntmps5
  obtain ⟨kI0, kI1, kI2, kI3, kI4, kI5, kI6⟩ := (show _ ∧ _ ∧ _ ∧ _ ∧ _ ∧ _ ∧ _ from ⟨HI.out.cell 0, HI.out.cell 1, HI.out.cell 2, HI.out.cell 3, HI.out.cell 4, HI.out.cell 5, HI.out.cell 6⟩)
  simp at kI0 kI1 kI2 kI3 kI4 kI5 kI6
  go_upto_region 1 with (fail)
  try rw [hwz]
  clear hwz
  go_wp2_with fail
  clear kI0 kI1 kI2 kI3 kI4 kI5 kI6
  refine (HE.out _).mono ?_
  rintro e w2 ⟨rfl, hf⟩
  have HI := Lib.hid (HI.out.fr hf id)
  have HJ := Lib.hid (HJ.out.fr hf id)
  have HF := Lib.hid (HF.out.trans hf (fun _ _ => id))
  clear hf
  obtain ⟨kJ0, kJ1, kJ2, kJ3, kJ4, kJ5, kJ6⟩ := (show _ ∧ _ ∧ _ ∧ _ ∧ _ ∧ _ ∧ _ from ⟨HJ.out.cell 0, HJ.out.cell 1, HJ.out.cell 2, HJ.out.cell 3, HJ.out.cell 4, HJ.out.cell 5, HJ.out.cell 6⟩)
  simp at kJ0 kJ1 kJ2 kJ3 kJ4 kJ5 kJ6
  go_wp2_with fail
  clear kJ0 kJ1 kJ2 kJ3 kJ4 kJ5 kJ6
  refine (HG.out _).mono ?_
  rintro e w3 ⟨rfl, hf⟩
  have HI := Lib.hid (HI.out.fr hf id)
  have HJ := Lib.hid (HJ.out.fr hf id)
  have HF := Lib.hid (HF.out.trans hf (fun _ _ => id))
  clear hf
  go_wp2_with fail
  refine (answers_any _).mono ?_
  rintro e w4 ⟨rfl, hf⟩
  have HI := Lib.hid (HI.out.fr hf id)
  have HJ := Lib.hid (HJ.out.fr hf id)
  have HF := Lib.hid (HF.out.trans hf (fun _ _ => id))
  clear hf
  obtain ⟨kI0, kI1, kI2, kI3, kI4, kI5, kI6⟩ := (show _ ∧ _ ∧ _ ∧ _ ∧ _ ∧ _ ∧ _ from ⟨HI.out.cell 0, HI.out.cell 1, HI.out.cell 2, HI.out.cell 3, HI.out.cell 4, HI.out.cell 5, HI.out.cell 6⟩)
  simp at kI0 kI1 kI2 kI3 kI4 kI5 kI6
  obtain ⟨kJ0, kJ1, kJ2, kJ3, kJ4, kJ5, kJ6⟩ := (show _ ∧ _ ∧ _ ∧ _ ∧ _ ∧ _ ∧ _ from ⟨HJ.out.cell 0, HJ.out.cell 1, HJ.out.cell 2, HJ.out.cell 3, HJ.out.cell 4, HJ.out.cell 5, HJ.out.cell 6⟩)
  simp at kJ0 kJ1 kJ2 kJ3 kJ4 kJ5 kJ6
  go_wp2_with fail
  go_ret
  exact ⟨by first | rfl | simp, HF.out⟩
theorem apart_3 (x0 x1 x2 x3 x4 x5 x6 y0 y1 y2 y3 y4 y5 y6 : Int) (n m : Nat) (w : World) (he : EncE (x0, x1, x2, x3, x4, x5, x6) = (n, true)) (hg : EncE (y0, y1, y2, y3, y4, y5, y6) = (m, true)) (hne : ((x0, x1, x2, x3, x4, x5, x6) : I7) ≠ (y0, y1, y2, y3, y4, y5, y6)) : Calls Try.prog 5 #[.agg #[.int .i64 x0, .int .i64 x1, .int .i64 x2, .int .i64 x3, .int .i64 x4, .int .i64 x5, .int .i64 x6], .agg #[.int .i64 y0, .int .i64 y1, .int .i64 y2, .int .i64 y3, .int .i64 y4, .int .i64 y5, .int .i64 y6]] w fun e w' => e = .returned (.bool true) ∧ Fr (fun _ => False) w w' := by
  have hq := eqin_no hne
  have hnm : n ≠ m := fun e => hne (Prod.mk.inj ((EncE_yes he).symm.trans (e ▸ EncE_yes hg))).1
  have t0 : ((n : Int) == (m : Int)) = false := beq_eq_false_iff_ne.2 (by omega)
  have t0' : (n == m) = false := beq_eq_false_iff_ne.2 hnm
  clear hne hnm
  have HE := Lib.hid (show ∀ W, Calls Try.prog 12 #[.agg #[.int .i64 x0, .int .i64 x1, .int .i64 x2, .int .i64 x3, .int .i64 x4, .int .i64 x5, .int .i64 x6]] W fun e w' => e = .returned (.tuple #[.int .u32 ((n : Nat) : Int), .bool true]) ∧ Fr (fun _ => False) W w' from fun W => by have e := Encode_any x0 x1 x2 x3 x4 x5 x6 W; rw [he] at e; exact e)
  have HG := Lib.hid (show ∀ W, Calls Try.prog 12 #[.agg #[.int .i64 y0, .int .i64 y1, .int .i64 y2, .int .i64 y3, .int .i64 y4, .int .i64 y5, .int .i64 y6]] W fun e w' => e = .returned (.tuple #[.int .u32 ((m : Nat) : Int), .bool true]) ∧ Fr (fun _ => False) W w' from fun W => by have e := Encode_any y0 y1 y2 y3 y4 y5 y6 W; rw [hg] at e; exact e)
  clear he hg
  have HI := Lib.hid ((Blk.new w 24 #[.int .i64 x0, .int .i64 x1, .int .i64 x2, .int .i64 x3, .int .i64 x4, .int .i64 x5, .int .i64 x6]).alloc (.cells #[.int .i64 y0, .int .i64 y1, .int .i64 y2, .int .i64 y3, .int .i64 y4, .int .i64 y5, .int .i64 y6] 24))
  have HJ := Lib.hid (Blk.new (w.alloc (.cells #[.int .i64 x0, .int .i64 x1, .int .i64 x2, .int .i64 x3, .int .i64 x4, .int .i64 x5, .int .i64 x6] 24)) 24 #[.int .i64 y0, .int .i64 y1, .int .i64 y2, .int .i64 y3, .int .i64 y4, .int .i64 y5, .int .i64 y6])
  rw [size_alloc1] at HJ
  have HF := Lib.hid (((Fr.refl (fun _ => False) w).alloc (.cells #[.int .i64 x0, .int .i64 x1, .int .i64 x2, .int .i64 x3, .int .i64 x4, .int .i64 x5, .int .i64 x6] 24)).alloc (.cells #[.int .i64 y0, .int .i64 y1, .int .i64 y2, .int .i64 y3, .int .i64 y4, .int .i64 y5, .int .i64 y6] 24))
  generalize hwz : (w.alloc (.cells #[.int .i64 x0, .int .i64 x1, .int .i64 x2, .int .i64 x3, .int .i64 x4, .int .i64 x5, .int .i64 x6] 24)).alloc (.cells #[.int .i64 y0, .int .i64 y1, .int .i64 y2, .int .i64 y3, .int .i64 y4, .int .i64 y5, .int .i64 y6] 24) = wz at *
  go_enter Try.func5, Try.ntmps5
  obtain ⟨kI0, kI1, kI2, kI3, kI4, kI5, kI6⟩ := (show _ ∧ _ ∧ _ ∧ _ ∧ _ ∧ _ ∧ _ from ⟨HI.out.cell 0, HI.out.cell 1, HI.out.cell 2, HI.out.cell 3, HI.out.cell 4, HI.out.cell 5, HI.out.cell 6⟩)
  simp at kI0 kI1 kI2 kI3 kI4 kI5 kI6
  go_upto_region 1 with (fail)
  try rw [hwz]
  clear hwz
  go_wp2_with fail
  clear kI0 kI1 kI2 kI3 kI4 kI5 kI6
  refine (HE.out _).mono ?_
  rintro e w2 ⟨rfl, hf⟩
  have HI := Lib.hid (HI.out.fr hf id)
  have HJ := Lib.hid (HJ.out.fr hf id)
  have HF := Lib.hid (HF.out.trans hf (fun _ _ => id))
  clear hf
  obtain ⟨kJ0, kJ1, kJ2, kJ3, kJ4, kJ5, kJ6⟩ := (show _ ∧ _ ∧ _ ∧ _ ∧ _ ∧ _ ∧ _ from ⟨HJ.out.cell 0, HJ.out.cell 1, HJ.out.cell 2, HJ.out.cell 3, HJ.out.cell 4, HJ.out.cell 5, HJ.out.cell 6⟩)
  simp at kJ0 kJ1 kJ2 kJ3 kJ4 kJ5 kJ6
  go_wp2_with fail
  clear kJ0 kJ1 kJ2 kJ3 kJ4 kJ5 kJ6
  refine (HG.out _).mono ?_
  rintro e w3 ⟨rfl, hf⟩
  have HI := Lib.hid (HI.out.fr hf id)
  have HJ := Lib.hid (HJ.out.fr hf id)
  have HF := Lib.hid (HF.out.trans hf (fun _ _ => id))
  clear hf
  go_wp2_with fail
  refine (answers_any _).mono ?_
  rintro e w4 ⟨rfl, hf⟩
  have HI := Lib.hid (HI.out.fr hf id)
  have HJ := Lib.hid (HJ.out.fr hf id)
  have HF := Lib.hid (HF.out.trans hf (fun _ _ => id))
  clear hf
  obtain ⟨kI0, kI1, kI2, kI3, kI4, kI5, kI6⟩ := (show _ ∧ _ ∧ _ ∧ _ ∧ _ ∧ _ ∧ _ from ⟨HI.out.cell 0, HI.out.cell 1, HI.out.cell 2, HI.out.cell 3, HI.out.cell 4, HI.out.cell 5, HI.out.cell 6⟩)
  simp at kI0 kI1 kI2 kI3 kI4 kI5 kI6
  obtain ⟨kJ0, kJ1, kJ2, kJ3, kJ4, kJ5, kJ6⟩ := (show _ ∧ _ ∧ _ ∧ _ ∧ _ ∧ _ ∧ _ from ⟨HJ.out.cell 0, HJ.out.cell 1, HJ.out.cell 2, HJ.out.cell 3, HJ.out.cell 4, HJ.out.cell 5, HJ.out.cell 6⟩)
  simp at kJ0 kJ1 kJ2 kJ3 kJ4 kJ5 kJ6
  go_wp2_with fail
  go_ret
  exact ⟨by first | rfl | simp, HF.out⟩
theorem apart_walk (v u : Value) (w : World) (h : IsInst v) (h' : IsInst u) : Calls Try.prog 5 #[v, u] w fun e w' => e = .returned (.bool true) ∧ Below w.heap.size w w' := by
  obtain ⟨x0, x1, x2, x3, x4, x5, x6, rfl⟩ := h
  obtain ⟨y0, y1, y2, y3, y4, y5, y6, rfl⟩ := h'
  obtain ⟨⟨n, ok⟩, he⟩ : ∃ p, EncE (x0, x1, x2, x3, x4, x5, x6) = p := ⟨_, rfl⟩
  obtain ⟨⟨m, ok'⟩, hg⟩ : ∃ p, EncE (y0, y1, y2, y3, y4, y5, y6) = p := ⟨_, rfl⟩
  suffices hh : Calls Try.prog 5 #[.agg #[.int .i64 x0, .int .i64 x1, .int .i64 x2, .int .i64 x3, .int .i64 x4, .int .i64 x5, .int .i64 x6], .agg #[.int .i64 y0, .int .i64 y1, .int .i64 y2, .int .i64 y3, .int .i64 y4, .int .i64 y5, .int .i64 y6]] w fun e w' => e = .returned (.bool true) ∧ Fr (fun _ => False) w w' from hh.mono fun _ _ g => ⟨g.1, Fr.below (Below.refl _ _) g.2 (fun _ _ => id)⟩
  cases ok
  · exact apart_0 x0 x1 x2 x3 x4 x5 x6 y0 y1 y2 y3 y4 y5 y6 n m ok' w he hg
  · cases ok'
    · exact apart_1 x0 x1 x2 x3 x4 x5 x6 y0 y1 y2 y3 y4 y5 y6 n m w he hg
    · by_cases hne : ((x0, x1, x2, x3, x4, x5, x6) : I7) = (y0, y1, y2, y3, y4, y5, y6)
      · simp only [Prod.mk.injEq] at hne
        obtain ⟨rfl, rfl, rfl, rfl, rfl, rfl, rfl⟩ := hne
        exact apart_2 x0 x1 x2 x3 x4 x5 x6 n w he
      · exact apart_3 x0 x1 x2 x3 x4 x5 x6 y0 y1 y2 y3 y4 y5 y6 n m w he hg hne
end Go.Proofs.Ytnopppamfleniaa.Ins
