/- inst.middle, walked: the word of an instruction with a short immediate. -/
import Derived.Test.YtgefhoikpjiamaaEncB
import Derived.Test.YtgefhoikpjiamaaInsD
import Derived.LoopN
namespace Go.Proofs.Ytgefhoikpjiamaa.Ins
open Go Go.RowKit Go.Proofs.YtgefhoikpjiamaaW.PrintWords Go.Proofs.YtgefhoikpjiamaaW.PrintLast Go.Proofs.YtgefhoikpjiamaaW.PrintMore
open Go.Proofs.Ytgefhoikpjiamaa.Hp Go.Proofs.Ytgefhoikpjiamaa.Bv
attribute [local go_sem] max2_int min2_int max_two min_two max_three min_three max_four min_four
set_option linter.unusedVariables false
set_option linter.unusedSimpArgs false
def nE (n : Int) : Int := (wrap64 ((Go.bits .and .i64 n 4095) * 1048576)) % 4294967296
theorem idx58 (a b : Int) (f g : Value) (W : World) :
    (Instr.index 61 (.agg #[.int .i64 a, f, .int .i64 b, g]) (.int .i64 0)).run Try.prog W = .ok (.agg #[.int .i64 a, f]) W ∧
    (Instr.index 61 (.agg #[.int .i64 a, f, .int .i64 b, g]) (.int .i64 1)).run Try.prog W = .ok (.agg #[.int .i64 b, g]) W := by
  constructor <;> rfl
theorem run_store_fn (P : Program) (w : World) (a : Addr) (m : Mode) (f : Fn) (x y : Array Value) : (store a (.func f x y) m).run P w = stored P w a (.func f x y) m := run_store P w a _ m rfl
attribute [local go_sem] run_store_fn
theorem size_set (w : World) (p : Addr) (v : Value) : (w.setCell p v).heap.size = w.heap.size := by simp [World.setCell]
set_option maxHeartbeats 2000000 in
theorem middle_1 (x0 x1 x2 x3 x4 x5 x6 : Int) (j : Nat) (w : World) (h1 : findP ldT x0 = some j) : Calls Try.prog 40 #[.agg #[.int .i64 x0, .int .i64 x1, .int .i64 x2, .int .i64 x3, .int .i64 x4, .int .i64 x5, .int .i64 x6]] w fun e w' => e = .returned (.tuple #[.int .u32 (Go.bits .or .u32 (layE 3 (j : Int) 0 x1 x2 0) (nE x4)), .bool true]) ∧ Fr (fun _ => False) w w' := by
  unfold nE
  have x58 := idx58 3 19 (.func (.func 58) #[] #[]) (.func (.func 59) #[] #[])
  have i0 := fun W => (x58 W).1
  have i1 := fun W => (x58 W).2
  clear x58
  go_enter Try.func40, Try.ntmps40
  go_wp2_with fail
  have HI := Lib.hid ((Blk.new w 25 #[.int .i64 x0, .int .i64 x1, .int .i64 x2, .int .i64 x3, .int .i64 x4, .int .i64 x5, .int .i64 x6]).alloc (.cells #[.int .i64 x0, .int .i64 x1, .int .i64 x2, .int .i64 0, .int .i64 x4, .int .i64 x5, .int .i64 x6] 25))
  have HJ := Lib.hid (Blk.new (w.alloc (.cells #[.int .i64 x0, .int .i64 x1, .int .i64 x2, .int .i64 x3, .int .i64 x4, .int .i64 x5, .int .i64 x6] 25)) 25 #[.int .i64 x0, .int .i64 x1, .int .i64 x2, .int .i64 0, .int .i64 x4, .int .i64 x5, .int .i64 x6])
  have HF := Lib.hid (((Fr.refl (fun _ => False) w).alloc (.cells #[.int .i64 x0, .int .i64 x1, .int .i64 x2, .int .i64 x3, .int .i64 x4, .int .i64 x5, .int .i64 x6] 25)).alloc (.cells #[.int .i64 x0, .int .i64 x1, .int .i64 x2, .int .i64 0, .int .i64 x4, .int .i64 x5, .int .i64 x6] 25))
  rw [size_alloc1] at HJ
  generalize hwz : (w.alloc (.cells #[.int .i64 x0, .int .i64 x1, .int .i64 x2, .int .i64 x3, .int .i64 x4, .int .i64 x5, .int .i64 x6] 25)).alloc (.cells #[.int .i64 x0, .int .i64 x1, .int .i64 x2, .int .i64 0, .int .i64 x4, .int .i64 x5, .int .i64 x6] 25) = wz at *
  clear hwz
  refine wp_loop_rounds 1 ?_
  rw [rounds_succ]
  have HI := Lib.hid (HI.out.alloc (.cells #[.int .i64 3, .func (.func 58) #[] #[]] 60))
  have HJ := Lib.hid (HJ.out.alloc (.cells #[.int .i64 3, .func (.func 58) #[] #[]] 60))
  have HF := Lib.hid (HF.out.alloc (.cells #[.int .i64 3, .func (.func 58) #[] #[]] 60))
  obtain ⟨kI0, kI1, kI2, kI3, kI4, kI5, kI6, qI0, qI1, qI2, qI3, qI4, qI5, qI6⟩ := blkat7 HI.out
  obtain ⟨kJ0, kJ1, kJ2, kJ3, kJ4, kJ5, kJ6, qJ0, qJ1, qJ2, qJ3, qJ4, qJ5, qJ6⟩ := blkat7 HJ.out
  go_wp2_with fail
  clear kI0 kI1 kI2 kI3 kI4 kI5 kI6 qI0 qI1 qI2 qI3 qI4 qI5 qI6
  clear kJ0 kJ1 kJ2 kJ3 kJ4 kJ5 kJ6 qJ0 qJ1 qJ2 qJ3 qJ4 qJ5 qJ6
  refine (find_loads_yes x0 3 0 _ j h1).mono ?_
  rintro e w2 ⟨rfl, hf⟩
  have HI := Lib.hid (HI.out.fr hf id)
  have HJ := Lib.hid (HJ.out.fr hf id)
  have HF := Lib.hid (HF.out.trans hf (fun _ _ => id))
  clear hf
  have HI := Lib.hid (HI.out.alloc (.cells #[.int .i64 3, .int .i64 (j : Int), .int .i64 0] 50))
  have HJ := Lib.hid (HJ.out.alloc (.cells #[.int .i64 3, .int .i64 (j : Int), .int .i64 0] 50))
  have HF := Lib.hid (HF.out.alloc (.cells #[.int .i64 3, .int .i64 (j : Int), .int .i64 0] 50))
  obtain ⟨kJ0, kJ1, kJ2, kJ3, kJ4, kJ5, kJ6, qJ0, qJ1, qJ2, qJ3, qJ4, qJ5, qJ6⟩ := blkat7 HJ.out
  go_wp2_with fail
  clear kJ0 kJ1 kJ2 kJ3 kJ4 kJ5 kJ6 qJ0 qJ1 qJ2 qJ3 qJ4 qJ5 qJ6
  refine (lay_any _ _ _ _ _ _ _ _ _ _ _).mono ?_
  rintro e w3 ⟨rfl, hf⟩
  have HI := Lib.hid (HI.out.fr hf id)
  have HJ := Lib.hid (HJ.out.fr hf id)
  have HF := Lib.hid (HF.out.trans hf (fun _ _ => id))
  clear hf
  go_wp2_with fail
  go_ret2
  exact ⟨rfl, HF.out⟩
set_option maxHeartbeats 2000000 in
theorem middle_2 (x0 x1 x2 x3 x4 x5 x6 : Int) (j : Nat) (w : World) (h1 : findP ldT x0 = none) (h2 : findP piT x0 = some j) : Calls Try.prog 40 #[.agg #[.int .i64 x0, .int .i64 x1, .int .i64 x2, .int .i64 x3, .int .i64 x4, .int .i64 x5, .int .i64 x6]] w fun e w' => e = .returned (.tuple #[.int .u32 (Go.bits .or .u32 (layE 19 (j : Int) 0 x1 x2 0) (nE x4)), .bool true]) ∧ Fr (fun _ => False) w w' := by
  unfold nE
  have x58 := idx58 3 19 (.func (.func 58) #[] #[]) (.func (.func 59) #[] #[])
  have i0 := fun W => (x58 W).1
  have i1 := fun W => (x58 W).2
  clear x58
  go_enter Try.func40, Try.ntmps40
  go_wp2_with fail
  have HI := Lib.hid ((Blk.new w 25 #[.int .i64 x0, .int .i64 x1, .int .i64 x2, .int .i64 x3, .int .i64 x4, .int .i64 x5, .int .i64 x6]).alloc (.cells #[.int .i64 x0, .int .i64 x1, .int .i64 x2, .int .i64 0, .int .i64 x4, .int .i64 x5, .int .i64 x6] 25))
  have HJ := Lib.hid (Blk.new (w.alloc (.cells #[.int .i64 x0, .int .i64 x1, .int .i64 x2, .int .i64 x3, .int .i64 x4, .int .i64 x5, .int .i64 x6] 25)) 25 #[.int .i64 x0, .int .i64 x1, .int .i64 x2, .int .i64 0, .int .i64 x4, .int .i64 x5, .int .i64 x6])
  have HF := Lib.hid (((Fr.refl (fun _ => False) w).alloc (.cells #[.int .i64 x0, .int .i64 x1, .int .i64 x2, .int .i64 x3, .int .i64 x4, .int .i64 x5, .int .i64 x6] 25)).alloc (.cells #[.int .i64 x0, .int .i64 x1, .int .i64 x2, .int .i64 0, .int .i64 x4, .int .i64 x5, .int .i64 x6] 25))
  rw [size_alloc1] at HJ
  generalize hwz : (w.alloc (.cells #[.int .i64 x0, .int .i64 x1, .int .i64 x2, .int .i64 x3, .int .i64 x4, .int .i64 x5, .int .i64 x6] 25)).alloc (.cells #[.int .i64 x0, .int .i64 x1, .int .i64 x2, .int .i64 0, .int .i64 x4, .int .i64 x5, .int .i64 x6] 25) = wz at *
  clear hwz
  refine wp_loop_rounds 2 ?_
  rw [rounds_succ]
  have HI := Lib.hid (HI.out.alloc (.cells #[.int .i64 3, .func (.func 58) #[] #[]] 60))
  have HJ := Lib.hid (HJ.out.alloc (.cells #[.int .i64 3, .func (.func 58) #[] #[]] 60))
  have HF := Lib.hid (HF.out.alloc (.cells #[.int .i64 3, .func (.func 58) #[] #[]] 60))
  obtain ⟨kI0, kI1, kI2, kI3, kI4, kI5, kI6, qI0, qI1, qI2, qI3, qI4, qI5, qI6⟩ := blkat7 HI.out
  obtain ⟨kJ0, kJ1, kJ2, kJ3, kJ4, kJ5, kJ6, qJ0, qJ1, qJ2, qJ3, qJ4, qJ5, qJ6⟩ := blkat7 HJ.out
  go_wp2_with fail
  clear kI0 kI1 kI2 kI3 kI4 kI5 kI6 qI0 qI1 qI2 qI3 qI4 qI5 qI6
  clear kJ0 kJ1 kJ2 kJ3 kJ4 kJ5 kJ6 qJ0 qJ1 qJ2 qJ3 qJ4 qJ5 qJ6
  refine (find_loads_no x0 3 0 _ h1).mono ?_
  rintro e w2 ⟨rfl, hf⟩
  have HI := Lib.hid (HI.out.fr hf id)
  have HJ := Lib.hid (HJ.out.fr hf id)
  have HF := Lib.hid (HF.out.trans hf (fun _ _ => id))
  clear hf
  have HI := Lib.hid (HI.out.alloc (.cells #[.int .i64 0, .int .i64 0, .int .i64 0] 50))
  have HJ := Lib.hid (HJ.out.alloc (.cells #[.int .i64 0, .int .i64 0, .int .i64 0] 50))
  have HF := Lib.hid (HF.out.alloc (.cells #[.int .i64 0, .int .i64 0, .int .i64 0] 50))
  obtain ⟨kJ0, kJ1, kJ2, kJ3, kJ4, kJ5, kJ6, qJ0, qJ1, qJ2, qJ3, qJ4, qJ5, qJ6⟩ := blkat7 HJ.out
  go_wp2_with fail
  clear kJ0 kJ1 kJ2 kJ3 kJ4 kJ5 kJ6 qJ0 qJ1 qJ2 qJ3 qJ4 qJ5 qJ6
  rw [rounds_succ]
  have HI := Lib.hid (HI.out.alloc (.cells #[.int .i64 19, .func (.func 59) #[] #[]] 60))
  have HJ := Lib.hid (HJ.out.alloc (.cells #[.int .i64 19, .func (.func 59) #[] #[]] 60))
  have HF := Lib.hid (HF.out.alloc (.cells #[.int .i64 19, .func (.func 59) #[] #[]] 60))
  obtain ⟨kI0, kI1, kI2, kI3, kI4, kI5, kI6, qI0, qI1, qI2, qI3, qI4, qI5, qI6⟩ := blkat7 HI.out
  obtain ⟨kJ0, kJ1, kJ2, kJ3, kJ4, kJ5, kJ6, qJ0, qJ1, qJ2, qJ3, qJ4, qJ5, qJ6⟩ := blkat7 HJ.out
  go_wp2_with fail
  clear kI0 kI1 kI2 kI3 kI4 kI5 kI6 qI0 qI1 qI2 qI3 qI4 qI5 qI6
  clear kJ0 kJ1 kJ2 kJ3 kJ4 kJ5 kJ6 qJ0 qJ1 qJ2 qJ3 qJ4 qJ5 qJ6
  refine (find_plainImm_yes x0 19 0 _ j h2).mono ?_
  rintro e w3 ⟨rfl, hf⟩
  have HI := Lib.hid (HI.out.fr hf id)
  have HJ := Lib.hid (HJ.out.fr hf id)
  have HF := Lib.hid (HF.out.trans hf (fun _ _ => id))
  clear hf
  have HI := Lib.hid (HI.out.alloc (.cells #[.int .i64 19, .int .i64 (j : Int), .int .i64 0] 50))
  have HJ := Lib.hid (HJ.out.alloc (.cells #[.int .i64 19, .int .i64 (j : Int), .int .i64 0] 50))
  have HF := Lib.hid (HF.out.alloc (.cells #[.int .i64 19, .int .i64 (j : Int), .int .i64 0] 50))
  obtain ⟨kJ0, kJ1, kJ2, kJ3, kJ4, kJ5, kJ6, qJ0, qJ1, qJ2, qJ3, qJ4, qJ5, qJ6⟩ := blkat7 HJ.out
  go_wp2_with fail
  clear kJ0 kJ1 kJ2 kJ3 kJ4 kJ5 kJ6 qJ0 qJ1 qJ2 qJ3 qJ4 qJ5 qJ6
  refine (lay_any _ _ _ _ _ _ _ _ _ _ _).mono ?_
  rintro e w4 ⟨rfl, hf⟩
  have HI := Lib.hid (HI.out.fr hf id)
  have HJ := Lib.hid (HJ.out.fr hf id)
  have HF := Lib.hid (HF.out.trans hf (fun _ _ => id))
  clear hf
  go_wp2_with fail
  go_ret2
  exact ⟨rfl, HF.out⟩
set_option maxHeartbeats 2000000 in
theorem middle_3 (x0 x1 x2 x3 x4 x5 x6 : Int) (w : World) (h1 : findP ldT x0 = none) (h2 : findP piT x0 = none) (h3 : x0 = 4) : Calls Try.prog 40 #[.agg #[.int .i64 x0, .int .i64 x1, .int .i64 x2, .int .i64 x3, .int .i64 x4, .int .i64 x5, .int .i64 x6]] w fun e w' => e = .returned (.tuple #[.int .u32 (Go.bits .or .u32 (layE 103 0 0 x1 x2 0) (nE x4)), .bool true]) ∧ Fr (fun _ => False) w w' := by
  unfold nE
  have t3 : (x0 == 4) = true := beq_iff_eq.2 h3
  clear h3
  have x58 := idx58 3 19 (.func (.func 58) #[] #[]) (.func (.func 59) #[] #[])
  have i0 := fun W => (x58 W).1
  have i1 := fun W => (x58 W).2
  clear x58
  go_enter Try.func40, Try.ntmps40
  go_wp2_with fail
  have HI := Lib.hid ((Blk.new w 25 #[.int .i64 x0, .int .i64 x1, .int .i64 x2, .int .i64 x3, .int .i64 x4, .int .i64 x5, .int .i64 x6]).alloc (.cells #[.int .i64 x0, .int .i64 x1, .int .i64 x2, .int .i64 0, .int .i64 x4, .int .i64 x5, .int .i64 x6] 25))
  have HJ := Lib.hid (Blk.new (w.alloc (.cells #[.int .i64 x0, .int .i64 x1, .int .i64 x2, .int .i64 x3, .int .i64 x4, .int .i64 x5, .int .i64 x6] 25)) 25 #[.int .i64 x0, .int .i64 x1, .int .i64 x2, .int .i64 0, .int .i64 x4, .int .i64 x5, .int .i64 x6])
  have HF := Lib.hid (((Fr.refl (fun _ => False) w).alloc (.cells #[.int .i64 x0, .int .i64 x1, .int .i64 x2, .int .i64 x3, .int .i64 x4, .int .i64 x5, .int .i64 x6] 25)).alloc (.cells #[.int .i64 x0, .int .i64 x1, .int .i64 x2, .int .i64 0, .int .i64 x4, .int .i64 x5, .int .i64 x6] 25))
  rw [size_alloc1] at HJ
  generalize hwz : (w.alloc (.cells #[.int .i64 x0, .int .i64 x1, .int .i64 x2, .int .i64 x3, .int .i64 x4, .int .i64 x5, .int .i64 x6] 25)).alloc (.cells #[.int .i64 x0, .int .i64 x1, .int .i64 x2, .int .i64 0, .int .i64 x4, .int .i64 x5, .int .i64 x6] 25) = wz at *
  clear hwz
  refine wp_loop_rounds 3 ?_
  rw [rounds_succ]
  have HI := Lib.hid (HI.out.alloc (.cells #[.int .i64 3, .func (.func 58) #[] #[]] 60))
  have HJ := Lib.hid (HJ.out.alloc (.cells #[.int .i64 3, .func (.func 58) #[] #[]] 60))
  have HF := Lib.hid (HF.out.alloc (.cells #[.int .i64 3, .func (.func 58) #[] #[]] 60))
  obtain ⟨kI0, kI1, kI2, kI3, kI4, kI5, kI6, qI0, qI1, qI2, qI3, qI4, qI5, qI6⟩ := blkat7 HI.out
  obtain ⟨kJ0, kJ1, kJ2, kJ3, kJ4, kJ5, kJ6, qJ0, qJ1, qJ2, qJ3, qJ4, qJ5, qJ6⟩ := blkat7 HJ.out
  go_wp2_with fail
  clear kI0 kI1 kI2 kI3 kI4 kI5 kI6 qI0 qI1 qI2 qI3 qI4 qI5 qI6
  clear kJ0 kJ1 kJ2 kJ3 kJ4 kJ5 kJ6 qJ0 qJ1 qJ2 qJ3 qJ4 qJ5 qJ6
  refine (find_loads_no x0 3 0 _ h1).mono ?_
  rintro e w2 ⟨rfl, hf⟩
  have HI := Lib.hid (HI.out.fr hf id)
  have HJ := Lib.hid (HJ.out.fr hf id)
  have HF := Lib.hid (HF.out.trans hf (fun _ _ => id))
  clear hf
  have HI := Lib.hid (HI.out.alloc (.cells #[.int .i64 0, .int .i64 0, .int .i64 0] 50))
  have HJ := Lib.hid (HJ.out.alloc (.cells #[.int .i64 0, .int .i64 0, .int .i64 0] 50))
  have HF := Lib.hid (HF.out.alloc (.cells #[.int .i64 0, .int .i64 0, .int .i64 0] 50))
  go_wp2_with fail
  rw [rounds_succ]
  have HI := Lib.hid (HI.out.alloc (.cells #[.int .i64 19, .func (.func 59) #[] #[]] 60))
  have HJ := Lib.hid (HJ.out.alloc (.cells #[.int .i64 19, .func (.func 59) #[] #[]] 60))
  have HF := Lib.hid (HF.out.alloc (.cells #[.int .i64 19, .func (.func 59) #[] #[]] 60))
  obtain ⟨kI0, kI1, kI2, kI3, kI4, kI5, kI6, qI0, qI1, qI2, qI3, qI4, qI5, qI6⟩ := blkat7 HI.out
  obtain ⟨kJ0, kJ1, kJ2, kJ3, kJ4, kJ5, kJ6, qJ0, qJ1, qJ2, qJ3, qJ4, qJ5, qJ6⟩ := blkat7 HJ.out
  go_wp2_with fail
  clear kI0 kI1 kI2 kI3 kI4 kI5 kI6 qI0 qI1 qI2 qI3 qI4 qI5 qI6
  clear kJ0 kJ1 kJ2 kJ3 kJ4 kJ5 kJ6 qJ0 qJ1 qJ2 qJ3 qJ4 qJ5 qJ6
  refine (find_plainImm_no x0 19 0 _ h2).mono ?_
  rintro e w3 ⟨rfl, hf⟩
  have HI := Lib.hid (HI.out.fr hf id)
  have HJ := Lib.hid (HJ.out.fr hf id)
  have HF := Lib.hid (HF.out.trans hf (fun _ _ => id))
  clear hf
  have HI := Lib.hid (HI.out.alloc (.cells #[.int .i64 0, .int .i64 0, .int .i64 0] 50))
  have HJ := Lib.hid (HJ.out.alloc (.cells #[.int .i64 0, .int .i64 0, .int .i64 0] 50))
  have HF := Lib.hid (HF.out.alloc (.cells #[.int .i64 0, .int .i64 0, .int .i64 0] 50))
  go_wp2_with fail
  rw [rounds_succ]
  obtain ⟨kI0, kI1, kI2, kI3, kI4, kI5, kI6, qI0, qI1, qI2, qI3, qI4, qI5, qI6⟩ := blkat7 HI.out
  obtain ⟨kJ0, kJ1, kJ2, kJ3, kJ4, kJ5, kJ6, qJ0, qJ1, qJ2, qJ3, qJ4, qJ5, qJ6⟩ := blkat7 HJ.out
  go_wp2_with fail
  clear kI0 kI1 kI2 kI3 kI4 kI5 kI6 qI0 qI1 qI2 qI3 qI4 qI5 qI6
  clear kJ0 kJ1 kJ2 kJ3 kJ4 kJ5 kJ6 qJ0 qJ1 qJ2 qJ3 qJ4 qJ5 qJ6
  refine (lay_any _ _ _ _ _ _ _ _ _ _ _).mono ?_
  rintro e w4 ⟨rfl, hf⟩
  have HI := Lib.hid (HI.out.fr hf id)
  have HJ := Lib.hid (HJ.out.fr hf id)
  have HF := Lib.hid (HF.out.trans hf (fun _ _ => id))
  clear hf
  go_wp2_with fail
  go_ret2
  exact ⟨rfl, HF.out⟩
set_option maxHeartbeats 2000000 in
theorem middle_4 (x0 x1 x2 x3 x4 x5 x6 : Int) (w : World) (h1 : findP ldT x0 = none) (h2 : findP piT x0 = none) (h3 : ¬ x0 = 4) (h4 : x0 = 41) : Calls Try.prog 40 #[.agg #[.int .i64 x0, .int .i64 x1, .int .i64 x2, .int .i64 x3, .int .i64 x4, .int .i64 x5, .int .i64 x6]] w fun e w' => e = .returned (.tuple #[.int .u32 (Go.bits .or .u32 (layE 27 0 0 x1 x2 0) (nE x4)), .bool true]) ∧ Fr (fun _ => False) w w' := by
  unfold nE
  have t3 : (x0 == 4) = false := beq_eq_false_iff_ne.2 h3
  have t4 : (x0 == 41) = true := beq_iff_eq.2 h4
  clear h3 h4
  have x58 := idx58 3 19 (.func (.func 58) #[] #[]) (.func (.func 59) #[] #[])
  have i0 := fun W => (x58 W).1
  have i1 := fun W => (x58 W).2
  clear x58
  go_enter Try.func40, Try.ntmps40
  go_wp2_with fail
  have HI := Lib.hid ((Blk.new w 25 #[.int .i64 x0, .int .i64 x1, .int .i64 x2, .int .i64 x3, .int .i64 x4, .int .i64 x5, .int .i64 x6]).alloc (.cells #[.int .i64 x0, .int .i64 x1, .int .i64 x2, .int .i64 0, .int .i64 x4, .int .i64 x5, .int .i64 x6] 25))
  have HJ := Lib.hid (Blk.new (w.alloc (.cells #[.int .i64 x0, .int .i64 x1, .int .i64 x2, .int .i64 x3, .int .i64 x4, .int .i64 x5, .int .i64 x6] 25)) 25 #[.int .i64 x0, .int .i64 x1, .int .i64 x2, .int .i64 0, .int .i64 x4, .int .i64 x5, .int .i64 x6])
  have HF := Lib.hid (((Fr.refl (fun _ => False) w).alloc (.cells #[.int .i64 x0, .int .i64 x1, .int .i64 x2, .int .i64 x3, .int .i64 x4, .int .i64 x5, .int .i64 x6] 25)).alloc (.cells #[.int .i64 x0, .int .i64 x1, .int .i64 x2, .int .i64 0, .int .i64 x4, .int .i64 x5, .int .i64 x6] 25))
  rw [size_alloc1] at HJ
  generalize hwz : (w.alloc (.cells #[.int .i64 x0, .int .i64 x1, .int .i64 x2, .int .i64 x3, .int .i64 x4, .int .i64 x5, .int .i64 x6] 25)).alloc (.cells #[.int .i64 x0, .int .i64 x1, .int .i64 x2, .int .i64 0, .int .i64 x4, .int .i64 x5, .int .i64 x6] 25) = wz at *
  clear hwz
  refine wp_loop_rounds 3 ?_
  rw [rounds_succ]
  have HI := Lib.hid (HI.out.alloc (.cells #[.int .i64 3, .func (.func 58) #[] #[]] 60))
  have HJ := Lib.hid (HJ.out.alloc (.cells #[.int .i64 3, .func (.func 58) #[] #[]] 60))
  have HF := Lib.hid (HF.out.alloc (.cells #[.int .i64 3, .func (.func 58) #[] #[]] 60))
  obtain ⟨kI0, kI1, kI2, kI3, kI4, kI5, kI6, qI0, qI1, qI2, qI3, qI4, qI5, qI6⟩ := blkat7 HI.out
  obtain ⟨kJ0, kJ1, kJ2, kJ3, kJ4, kJ5, kJ6, qJ0, qJ1, qJ2, qJ3, qJ4, qJ5, qJ6⟩ := blkat7 HJ.out
  go_wp2_with fail
  clear kI0 kI1 kI2 kI3 kI4 kI5 kI6 qI0 qI1 qI2 qI3 qI4 qI5 qI6
  clear kJ0 kJ1 kJ2 kJ3 kJ4 kJ5 kJ6 qJ0 qJ1 qJ2 qJ3 qJ4 qJ5 qJ6
  refine (find_loads_no x0 3 0 _ h1).mono ?_
  rintro e w2 ⟨rfl, hf⟩
  have HI := Lib.hid (HI.out.fr hf id)
  have HJ := Lib.hid (HJ.out.fr hf id)
  have HF := Lib.hid (HF.out.trans hf (fun _ _ => id))
  clear hf
  have HI := Lib.hid (HI.out.alloc (.cells #[.int .i64 0, .int .i64 0, .int .i64 0] 50))
  have HJ := Lib.hid (HJ.out.alloc (.cells #[.int .i64 0, .int .i64 0, .int .i64 0] 50))
  have HF := Lib.hid (HF.out.alloc (.cells #[.int .i64 0, .int .i64 0, .int .i64 0] 50))
  go_wp2_with fail
  rw [rounds_succ]
  have HI := Lib.hid (HI.out.alloc (.cells #[.int .i64 19, .func (.func 59) #[] #[]] 60))
  have HJ := Lib.hid (HJ.out.alloc (.cells #[.int .i64 19, .func (.func 59) #[] #[]] 60))
  have HF := Lib.hid (HF.out.alloc (.cells #[.int .i64 19, .func (.func 59) #[] #[]] 60))
  obtain ⟨kI0, kI1, kI2, kI3, kI4, kI5, kI6, qI0, qI1, qI2, qI3, qI4, qI5, qI6⟩ := blkat7 HI.out
  obtain ⟨kJ0, kJ1, kJ2, kJ3, kJ4, kJ5, kJ6, qJ0, qJ1, qJ2, qJ3, qJ4, qJ5, qJ6⟩ := blkat7 HJ.out
  go_wp2_with fail
  clear kI0 kI1 kI2 kI3 kI4 kI5 kI6 qI0 qI1 qI2 qI3 qI4 qI5 qI6
  clear kJ0 kJ1 kJ2 kJ3 kJ4 kJ5 kJ6 qJ0 qJ1 qJ2 qJ3 qJ4 qJ5 qJ6
  refine (find_plainImm_no x0 19 0 _ h2).mono ?_
  rintro e w3 ⟨rfl, hf⟩
  have HI := Lib.hid (HI.out.fr hf id)
  have HJ := Lib.hid (HJ.out.fr hf id)
  have HF := Lib.hid (HF.out.trans hf (fun _ _ => id))
  clear hf
  have HI := Lib.hid (HI.out.alloc (.cells #[.int .i64 0, .int .i64 0, .int .i64 0] 50))
  have HJ := Lib.hid (HJ.out.alloc (.cells #[.int .i64 0, .int .i64 0, .int .i64 0] 50))
  have HF := Lib.hid (HF.out.alloc (.cells #[.int .i64 0, .int .i64 0, .int .i64 0] 50))
  go_wp2_with fail
  rw [rounds_succ]
  obtain ⟨kI0, kI1, kI2, kI3, kI4, kI5, kI6, qI0, qI1, qI2, qI3, qI4, qI5, qI6⟩ := blkat7 HI.out
  obtain ⟨kJ0, kJ1, kJ2, kJ3, kJ4, kJ5, kJ6, qJ0, qJ1, qJ2, qJ3, qJ4, qJ5, qJ6⟩ := blkat7 HJ.out
  go_wp2_with fail
  clear kI0 kI1 kI2 kI3 kI4 kI5 kI6 qI0 qI1 qI2 qI3 qI4 qI5 qI6
  clear kJ0 kJ1 kJ2 kJ3 kJ4 kJ5 kJ6 qJ0 qJ1 qJ2 qJ3 qJ4 qJ5 qJ6
  refine (lay_any _ _ _ _ _ _ _ _ _ _ _).mono ?_
  rintro e w4 ⟨rfl, hf⟩
  have HI := Lib.hid (HI.out.fr hf id)
  have HJ := Lib.hid (HJ.out.fr hf id)
  have HF := Lib.hid (HF.out.trans hf (fun _ _ => id))
  clear hf
  go_wp2_with fail
  go_ret2
  exact ⟨rfl, HF.out⟩
set_option maxHeartbeats 2000000 in
theorem middle_5 (x0 x1 x2 x3 x4 x5 x6 : Int) (j : Nat) (w : World) (h1 : findP ldT x0 = none) (h2 : findP piT x0 = none) (h3 : ¬ x0 = 4) (h4 : ¬ x0 = 41) (h5 : findP brT x0 = some j) : Calls Try.prog 40 #[.agg #[.int .i64 x0, .int .i64 x1, .int .i64 x2, .int .i64 x3, .int .i64 x4, .int .i64 x5, .int .i64 x6]] w fun e w' => e = .returned (.tuple #[.int .u32 (Go.bits .or .u32 (layE 99 (j : Int) 0 0 x2 x3) (splitBE x4)), .bool true]) ∧ Fr (fun _ => False) w w' := by
  have t3 : (x0 == 4) = false := beq_eq_false_iff_ne.2 h3
  have t4 : (x0 == 41) = false := beq_eq_false_iff_ne.2 h4
  clear h3 h4
  have x58 := idx58 3 19 (.func (.func 58) #[] #[]) (.func (.func 59) #[] #[])
  have i0 := fun W => (x58 W).1
  have i1 := fun W => (x58 W).2
  clear x58
  go_enter Try.func40, Try.ntmps40
  go_wp2_with fail
  have HI := Lib.hid ((Blk.new w 25 #[.int .i64 x0, .int .i64 x1, .int .i64 x2, .int .i64 x3, .int .i64 x4, .int .i64 x5, .int .i64 x6]).alloc (.cells #[.int .i64 x0, .int .i64 x1, .int .i64 x2, .int .i64 0, .int .i64 x4, .int .i64 x5, .int .i64 x6] 25))
  have HJ := Lib.hid (Blk.new (w.alloc (.cells #[.int .i64 x0, .int .i64 x1, .int .i64 x2, .int .i64 x3, .int .i64 x4, .int .i64 x5, .int .i64 x6] 25)) 25 #[.int .i64 x0, .int .i64 x1, .int .i64 x2, .int .i64 0, .int .i64 x4, .int .i64 x5, .int .i64 x6])
  have HF := Lib.hid (((Fr.refl (fun _ => False) w).alloc (.cells #[.int .i64 x0, .int .i64 x1, .int .i64 x2, .int .i64 x3, .int .i64 x4, .int .i64 x5, .int .i64 x6] 25)).alloc (.cells #[.int .i64 x0, .int .i64 x1, .int .i64 x2, .int .i64 0, .int .i64 x4, .int .i64 x5, .int .i64 x6] 25))
  rw [size_alloc1] at HJ
  generalize hwz : (w.alloc (.cells #[.int .i64 x0, .int .i64 x1, .int .i64 x2, .int .i64 x3, .int .i64 x4, .int .i64 x5, .int .i64 x6] 25)).alloc (.cells #[.int .i64 x0, .int .i64 x1, .int .i64 x2, .int .i64 0, .int .i64 x4, .int .i64 x5, .int .i64 x6] 25) = wz at *
  clear hwz
  refine wp_loop_rounds 3 ?_
  rw [rounds_succ]
  have HI := Lib.hid (HI.out.alloc (.cells #[.int .i64 3, .func (.func 58) #[] #[]] 60))
  have HJ := Lib.hid (HJ.out.alloc (.cells #[.int .i64 3, .func (.func 58) #[] #[]] 60))
  have HF := Lib.hid (HF.out.alloc (.cells #[.int .i64 3, .func (.func 58) #[] #[]] 60))
  obtain ⟨kI0, kI1, kI2, kI3, kI4, kI5, kI6, qI0, qI1, qI2, qI3, qI4, qI5, qI6⟩ := blkat7 HI.out
  obtain ⟨kJ0, kJ1, kJ2, kJ3, kJ4, kJ5, kJ6, qJ0, qJ1, qJ2, qJ3, qJ4, qJ5, qJ6⟩ := blkat7 HJ.out
  go_wp2_with fail
  clear kI0 kI1 kI2 kI3 kI4 kI5 kI6 qI0 qI1 qI2 qI3 qI4 qI5 qI6
  clear kJ0 kJ1 kJ2 kJ3 kJ4 kJ5 kJ6 qJ0 qJ1 qJ2 qJ3 qJ4 qJ5 qJ6
  refine (find_loads_no x0 3 0 _ h1).mono ?_
  rintro e w2 ⟨rfl, hf⟩
  have HI := Lib.hid (HI.out.fr hf id)
  have HJ := Lib.hid (HJ.out.fr hf id)
  have HF := Lib.hid (HF.out.trans hf (fun _ _ => id))
  clear hf
  have HI := Lib.hid (HI.out.alloc (.cells #[.int .i64 0, .int .i64 0, .int .i64 0] 50))
  have HJ := Lib.hid (HJ.out.alloc (.cells #[.int .i64 0, .int .i64 0, .int .i64 0] 50))
  have HF := Lib.hid (HF.out.alloc (.cells #[.int .i64 0, .int .i64 0, .int .i64 0] 50))
  go_wp2_with fail
  rw [rounds_succ]
  have HI := Lib.hid (HI.out.alloc (.cells #[.int .i64 19, .func (.func 59) #[] #[]] 60))
  have HJ := Lib.hid (HJ.out.alloc (.cells #[.int .i64 19, .func (.func 59) #[] #[]] 60))
  have HF := Lib.hid (HF.out.alloc (.cells #[.int .i64 19, .func (.func 59) #[] #[]] 60))
  obtain ⟨kI0, kI1, kI2, kI3, kI4, kI5, kI6, qI0, qI1, qI2, qI3, qI4, qI5, qI6⟩ := blkat7 HI.out
  obtain ⟨kJ0, kJ1, kJ2, kJ3, kJ4, kJ5, kJ6, qJ0, qJ1, qJ2, qJ3, qJ4, qJ5, qJ6⟩ := blkat7 HJ.out
  go_wp2_with fail
  clear kI0 kI1 kI2 kI3 kI4 kI5 kI6 qI0 qI1 qI2 qI3 qI4 qI5 qI6
  clear kJ0 kJ1 kJ2 kJ3 kJ4 kJ5 kJ6 qJ0 qJ1 qJ2 qJ3 qJ4 qJ5 qJ6
  refine (find_plainImm_no x0 19 0 _ h2).mono ?_
  rintro e w3 ⟨rfl, hf⟩
  have HI := Lib.hid (HI.out.fr hf id)
  have HJ := Lib.hid (HJ.out.fr hf id)
  have HF := Lib.hid (HF.out.trans hf (fun _ _ => id))
  clear hf
  have HI := Lib.hid (HI.out.alloc (.cells #[.int .i64 0, .int .i64 0, .int .i64 0] 50))
  have HJ := Lib.hid (HJ.out.alloc (.cells #[.int .i64 0, .int .i64 0, .int .i64 0] 50))
  have HF := Lib.hid (HF.out.alloc (.cells #[.int .i64 0, .int .i64 0, .int .i64 0] 50))
  go_wp2_with fail
  rw [rounds_succ]
  obtain ⟨kI0, kI1, kI2, kI3, kI4, kI5, kI6, qI0, qI1, qI2, qI3, qI4, qI5, qI6⟩ := blkat7 HI.out
  obtain ⟨kJ0, kJ1, kJ2, kJ3, kJ4, kJ5, kJ6, qJ0, qJ1, qJ2, qJ3, qJ4, qJ5, qJ6⟩ := blkat7 HJ.out
  go_wp2_with fail
  clear kI0 kI1 kI2 kI3 kI4 kI5 kI6 qI0 qI1 qI2 qI3 qI4 qI5 qI6
  clear kJ0 kJ1 kJ2 kJ3 kJ4 kJ5 kJ6 qJ0 qJ1 qJ2 qJ3 qJ4 qJ5 qJ6
  refine (find_branches_yes x0 99 0 _ j h5).mono ?_
  rintro e w4 ⟨rfl, hf⟩
  have HI := Lib.hid (HI.out.fr hf id)
  have HJ := Lib.hid (HJ.out.fr hf id)
  have HF := Lib.hid (HF.out.trans hf (fun _ _ => id))
  clear hf
  have hgi := HI.out.lt
  have HP := Lib.hid (Blk.new (w4.setCell ⟨w.heap.size, 1, none⟩ (.int .i64 0)) 50 #[.int .i64 99, .int .i64 (j : Int), .int .i64 0])
  rw [size_set] at HP
  have HQ : Hid (Blk ((w4.setCell ⟨w.heap.size, 1, none⟩ (.int .i64 0)).alloc (.cells #[.int .i64 99, .int .i64 (j : Int), .int .i64 0] 50)) w.heap.size 25 #[.int .i64 x0, .int .i64 0, .int .i64 x2, .int .i64 x3, .int .i64 x4, .int .i64 x5, .int .i64 x6]) := Lib.hid ((HI.out.set 1 (.int .i64 0)).alloc (.cells #[.int .i64 99, .int .i64 (j : Int), .int .i64 0] 50))
  have HF := Lib.hid ((HF.out.setCell (p := ⟨w.heap.size, 1, none⟩) (.inr (Nat.le_refl _)) (.int .i64 0)).alloc (.cells #[.int .i64 99, .int .i64 (j : Int), .int .i64 0] 50))
  have HI := Lib.hid (HI.out.alloc (.cells #[.int .i64 99, .int .i64 (j : Int), .int .i64 0] 50))
  obtain ⟨kI0, kI1, kI2, kI3, kI4, kI5, kI6, qI0, qI1, qI2, qI3, qI4, qI5, qI6⟩ := blkat7 HI.out
  go_wp2_with fail
  clear kI0 kI1 kI2 kI3 kI4 kI5 kI6 qI0 qI1 qI2 qI3 qI4 qI5 qI6
  clear HI HJ
  generalize hwy : (w4.setCell ⟨w.heap.size, 1, none⟩ (.int .i64 0)).alloc (.cells #[.int .i64 99, .int .i64 (j : Int), .int .i64 0] 50) = wy at *
  clear hwy
  go_region_held3 (fun w' => w'.cell? ⟨w.heap.size, 0, none⟩ = some (.int .i64 x0) ∧ w'.cell? ⟨w.heap.size, 1, none⟩ = some (.int .i64 0) ∧ w'.cell? ⟨w.heap.size, 2, none⟩ = some (.int .i64 x2) ∧ w'.cell? ⟨w.heap.size, 3, none⟩ = some (.int .i64 x3) ∧ w'.cell? ⟨w.heap.size, 4, none⟩ = some (.int .i64 x4) ∧ w'.cell? ⟨w.heap.size, 5, none⟩ = some (.int .i64 x5) ∧ w'.cell? ⟨w.heap.size, 6, none⟩ = some (.int .i64 x6) ∧ w'.cell? ⟨w4.heap.size, 0, none⟩ = some (.int .i64 99) ∧ w'.cell? ⟨w4.heap.size, 1, none⟩ = some (.int .i64 (j : Int)) ∧ w'.cell? ⟨w4.heap.size, 2, none⟩ = some (.int .i64 0)) (first | exact cells10 (HQ.out.drew) (HP.out.drew) | exact cells10 (HQ.out.drew.fr hf6 id) (HP.out.drew.fr hf6 id) | exact cells10 (HQ.out.drew.fr hf7 id) (HP.out.drew.fr hf7 id) | exact cells10 ((HQ.out.drew.fr hf6 id).fr hf7 id) ((HP.out.drew.fr hf6 id).fr hf7 id) | exact cells10 ((HQ.out.drew.fr hf7 id).fr hf6 id) ((HP.out.drew.fr hf7 id).fr hf6 id))
    (first | (go_at_call 42; refine (lay_any _ _ _ _ _ _ _ _ _ _ _).mono ?_; rintro e w6 ⟨rfl, hf6⟩) | (go_at_call 61; refine (splitB_any _ _).mono ?_; rintro e w7 ⟨rfl, hf7⟩))
  all_goals
    go_wp2
    go_ret2
    exact ⟨by rfl, by first | exact (HF.out.trans hf6.undrew (fun _ _ => id)).trans hf7 (fun _ _ => id) | exact (HF.out.trans hf7.undrew (fun _ _ => id)).trans hf6 (fun _ _ => id)⟩
set_option maxHeartbeats 2000000 in
theorem middle_6 (x0 x1 x2 x3 x4 x5 x6 : Int) (j : Nat) (w : World) (h1 : findP ldT x0 = none) (h2 : findP piT x0 = none) (h3 : ¬ x0 = 4) (h4 : ¬ x0 = 41) (h5 : findP brT x0 = none) (h6 : findP stT x0 = some j) : Calls Try.prog 40 #[.agg #[.int .i64 x0, .int .i64 x1, .int .i64 x2, .int .i64 x3, .int .i64 x4, .int .i64 x5, .int .i64 x6]] w fun e w' => e = .returned (.tuple #[.int .u32 (layE 35 (j : Int) (Go.bits .and .i64 (x4 / 32) 127) (Go.bits .and .i64 x4 31) x2 x3), .bool true]) ∧ Fr (fun _ => False) w w' := by
  have t3 : (x0 == 4) = false := beq_eq_false_iff_ne.2 h3
  have t4 : (x0 == 41) = false := beq_eq_false_iff_ne.2 h4
  clear h3 h4
  have x58 := idx58 3 19 (.func (.func 58) #[] #[]) (.func (.func 59) #[] #[])
  have i0 := fun W => (x58 W).1
  have i1 := fun W => (x58 W).2
  clear x58
  go_enter Try.func40, Try.ntmps40
  go_wp2_with fail
  have HI := Lib.hid ((Blk.new w 25 #[.int .i64 x0, .int .i64 x1, .int .i64 x2, .int .i64 x3, .int .i64 x4, .int .i64 x5, .int .i64 x6]).alloc (.cells #[.int .i64 x0, .int .i64 x1, .int .i64 x2, .int .i64 0, .int .i64 x4, .int .i64 x5, .int .i64 x6] 25))
  have HJ := Lib.hid (Blk.new (w.alloc (.cells #[.int .i64 x0, .int .i64 x1, .int .i64 x2, .int .i64 x3, .int .i64 x4, .int .i64 x5, .int .i64 x6] 25)) 25 #[.int .i64 x0, .int .i64 x1, .int .i64 x2, .int .i64 0, .int .i64 x4, .int .i64 x5, .int .i64 x6])
  have HF := Lib.hid (((Fr.refl (fun _ => False) w).alloc (.cells #[.int .i64 x0, .int .i64 x1, .int .i64 x2, .int .i64 x3, .int .i64 x4, .int .i64 x5, .int .i64 x6] 25)).alloc (.cells #[.int .i64 x0, .int .i64 x1, .int .i64 x2, .int .i64 0, .int .i64 x4, .int .i64 x5, .int .i64 x6] 25))
  rw [size_alloc1] at HJ
  generalize hwz : (w.alloc (.cells #[.int .i64 x0, .int .i64 x1, .int .i64 x2, .int .i64 x3, .int .i64 x4, .int .i64 x5, .int .i64 x6] 25)).alloc (.cells #[.int .i64 x0, .int .i64 x1, .int .i64 x2, .int .i64 0, .int .i64 x4, .int .i64 x5, .int .i64 x6] 25) = wz at *
  clear hwz
  refine wp_loop_rounds 3 ?_
  rw [rounds_succ]
  have HI := Lib.hid (HI.out.alloc (.cells #[.int .i64 3, .func (.func 58) #[] #[]] 60))
  have HJ := Lib.hid (HJ.out.alloc (.cells #[.int .i64 3, .func (.func 58) #[] #[]] 60))
  have HF := Lib.hid (HF.out.alloc (.cells #[.int .i64 3, .func (.func 58) #[] #[]] 60))
  obtain ⟨kI0, kI1, kI2, kI3, kI4, kI5, kI6, qI0, qI1, qI2, qI3, qI4, qI5, qI6⟩ := blkat7 HI.out
  obtain ⟨kJ0, kJ1, kJ2, kJ3, kJ4, kJ5, kJ6, qJ0, qJ1, qJ2, qJ3, qJ4, qJ5, qJ6⟩ := blkat7 HJ.out
  go_wp2_with fail
  clear kI0 kI1 kI2 kI3 kI4 kI5 kI6 qI0 qI1 qI2 qI3 qI4 qI5 qI6
  clear kJ0 kJ1 kJ2 kJ3 kJ4 kJ5 kJ6 qJ0 qJ1 qJ2 qJ3 qJ4 qJ5 qJ6
  refine (find_loads_no x0 3 0 _ h1).mono ?_
  rintro e w2 ⟨rfl, hf⟩
  have HI := Lib.hid (HI.out.fr hf id)
  have HJ := Lib.hid (HJ.out.fr hf id)
  have HF := Lib.hid (HF.out.trans hf (fun _ _ => id))
  clear hf
  have HI := Lib.hid (HI.out.alloc (.cells #[.int .i64 0, .int .i64 0, .int .i64 0] 50))
  have HJ := Lib.hid (HJ.out.alloc (.cells #[.int .i64 0, .int .i64 0, .int .i64 0] 50))
  have HF := Lib.hid (HF.out.alloc (.cells #[.int .i64 0, .int .i64 0, .int .i64 0] 50))
  go_wp2_with fail
  rw [rounds_succ]
  have HI := Lib.hid (HI.out.alloc (.cells #[.int .i64 19, .func (.func 59) #[] #[]] 60))
  have HJ := Lib.hid (HJ.out.alloc (.cells #[.int .i64 19, .func (.func 59) #[] #[]] 60))
  have HF := Lib.hid (HF.out.alloc (.cells #[.int .i64 19, .func (.func 59) #[] #[]] 60))
  obtain ⟨kI0, kI1, kI2, kI3, kI4, kI5, kI6, qI0, qI1, qI2, qI3, qI4, qI5, qI6⟩ := blkat7 HI.out
  obtain ⟨kJ0, kJ1, kJ2, kJ3, kJ4, kJ5, kJ6, qJ0, qJ1, qJ2, qJ3, qJ4, qJ5, qJ6⟩ := blkat7 HJ.out
  go_wp2_with fail
  clear kI0 kI1 kI2 kI3 kI4 kI5 kI6 qI0 qI1 qI2 qI3 qI4 qI5 qI6
  clear kJ0 kJ1 kJ2 kJ3 kJ4 kJ5 kJ6 qJ0 qJ1 qJ2 qJ3 qJ4 qJ5 qJ6
  refine (find_plainImm_no x0 19 0 _ h2).mono ?_
  rintro e w3 ⟨rfl, hf⟩
  have HI := Lib.hid (HI.out.fr hf id)
  have HJ := Lib.hid (HJ.out.fr hf id)
  have HF := Lib.hid (HF.out.trans hf (fun _ _ => id))
  clear hf
  have HI := Lib.hid (HI.out.alloc (.cells #[.int .i64 0, .int .i64 0, .int .i64 0] 50))
  have HJ := Lib.hid (HJ.out.alloc (.cells #[.int .i64 0, .int .i64 0, .int .i64 0] 50))
  have HF := Lib.hid (HF.out.alloc (.cells #[.int .i64 0, .int .i64 0, .int .i64 0] 50))
  go_wp2_with fail
  rw [rounds_succ]
  obtain ⟨kI0, kI1, kI2, kI3, kI4, kI5, kI6, qI0, qI1, qI2, qI3, qI4, qI5, qI6⟩ := blkat7 HI.out
  obtain ⟨kJ0, kJ1, kJ2, kJ3, kJ4, kJ5, kJ6, qJ0, qJ1, qJ2, qJ3, qJ4, qJ5, qJ6⟩ := blkat7 HJ.out
  go_wp2_with fail
  clear kI0 kI1 kI2 kI3 kI4 kI5 kI6 qI0 qI1 qI2 qI3 qI4 qI5 qI6
  clear kJ0 kJ1 kJ2 kJ3 kJ4 kJ5 kJ6 qJ0 qJ1 qJ2 qJ3 qJ4 qJ5 qJ6
  refine (find_branches_no x0 99 0 _ h5).mono ?_
  rintro e w4 ⟨rfl, hf⟩
  have HI := Lib.hid (HI.out.fr hf id)
  have HJ := Lib.hid (HJ.out.fr hf id)
  have HF := Lib.hid (HF.out.trans hf (fun _ _ => id))
  clear hf
  have HI := Lib.hid (HI.out.alloc (.cells #[.int .i64 0, .int .i64 0, .int .i64 0] 50))
  have HJ := Lib.hid (HJ.out.alloc (.cells #[.int .i64 0, .int .i64 0, .int .i64 0] 50))
  have HF := Lib.hid (HF.out.alloc (.cells #[.int .i64 0, .int .i64 0, .int .i64 0] 50))
  obtain ⟨kI0, kI1, kI2, kI3, kI4, kI5, kI6, qI0, qI1, qI2, qI3, qI4, qI5, qI6⟩ := blkat7 HI.out
  go_wp2_with fail
  clear kI0 kI1 kI2 kI3 kI4 kI5 kI6 qI0 qI1 qI2 qI3 qI4 qI5 qI6
  refine (find_stores_yes x0 35 0 _ j h6).mono ?_
  rintro e w5 ⟨rfl, hf⟩
  have HI := Lib.hid (HI.out.fr hf id)
  have HJ := Lib.hid (HJ.out.fr hf id)
  have HF := Lib.hid (HF.out.trans hf (fun _ _ => id))
  clear hf
  have hgi := HI.out.lt
  have hne : ¬ w.heap.size = w5.heap.size := by omega
  have hne' : ¬ w5.heap.size = w.heap.size := by omega
  have HQ0 : Hid (Blk ((w5.setCell ⟨w.heap.size, 1, none⟩ (.int .i64 (Go.bits .and .i64 x4 31))).alloc (.cells #[.int .i64 35, .int .i64 (j : Int), .int .i64 0] 50)) w.heap.size 25 #[.int .i64 x0, .int .i64 (Go.bits .and .i64 x4 31), .int .i64 x2, .int .i64 x3, .int .i64 x4, .int .i64 x5, .int .i64 x6]) := Lib.hid ((HI.out.set 1 (.int .i64 (Go.bits .and .i64 x4 31))).alloc (.cells #[.int .i64 35, .int .i64 (j : Int), .int .i64 0] 50))
  have HQ1 : Hid (Blk ((w5.setCell ⟨w.heap.size, 1, none⟩ (.int .i64 (Go.bits .and .i64 x4 31))).alloc (.cells #[.int .i64 35, .int .i64 (j : Int), .int .i64 (Go.bits .and .i64 (x4 / 32) 127)] 50)) w.heap.size 25 #[.int .i64 x0, .int .i64 (Go.bits .and .i64 x4 31), .int .i64 x2, .int .i64 x3, .int .i64 x4, .int .i64 x5, .int .i64 x6]) := Lib.hid ((HI.out.set 1 (.int .i64 (Go.bits .and .i64 x4 31))).alloc (.cells #[.int .i64 35, .int .i64 (j : Int), .int .i64 (Go.bits .and .i64 (x4 / 32) 127)] 50))
  have HF := Lib.hid ((HF.out.setCell (p := ⟨w.heap.size, 1, none⟩) (.inr (Nat.le_refl _)) (.int .i64 (Go.bits .and .i64 x4 31))).alloc (.cells #[.int .i64 35, .int .i64 (j : Int), .int .i64 (Go.bits .and .i64 (x4 / 32) 127)] 50))
  have HI := Lib.hid (HI.out.alloc (.cells #[.int .i64 35, .int .i64 (j : Int), .int .i64 0] 50))
  obtain ⟨kI0, kI1, kI2, kI3, kI4, kI5, kI6, qI0, qI1, qI2, qI3, qI4, qI5, qI6⟩ := blkat7 HI.out
  go_upto_region 23 with (fail)
  clear kI0 kI1 kI2 kI3 kI4 kI5 kI6 qI0 qI1 qI2 qI3 qI4 qI5 qI6
  obtain ⟨kQ00, kQ01, kQ02, kQ03, kQ04, kQ05, kQ06, qQ00, qQ01, qQ02, qQ03, qQ04, qQ05, qQ06⟩ := blkat7 HQ0.out
  obtain ⟨kQ10, kQ11, kQ12, kQ13, kQ14, kQ15, kQ16, qQ10, qQ11, qQ12, qQ13, qQ14, qQ15, qQ16⟩ := blkat7 HQ1.out
  go_wp2_with fail
  clear kQ00 kQ01 kQ02 kQ03 kQ04 kQ05 kQ06 qQ00 qQ01 qQ02 qQ03 qQ04 qQ05 qQ06
  clear kQ10 kQ11 kQ12 kQ13 kQ14 kQ15 kQ16 qQ10 qQ11 qQ12 qQ13 qQ14 qQ15 qQ16
  refine (lay_any _ _ _ _ _ _ _ _ _ _ _).mono ?_
  rintro e w6 ⟨rfl, hf⟩
  have HF := Lib.hid (HF.out.trans hf (fun _ _ => id))
  go_wp2_with fail
  go_ret2
  exact ⟨rfl, HF.out⟩
set_option maxHeartbeats 2000000 in
theorem middle_7 (x0 x1 x2 x3 x4 x5 x6 : Int) (w : World) (h1 : findP ldT x0 = none) (h2 : findP piT x0 = none) (h3 : ¬ x0 = 4) (h4 : ¬ x0 = 41) (h5 : findP brT x0 = none) (h6 : findP stT x0 = none) : Calls Try.prog 40 #[.agg #[.int .i64 x0, .int .i64 x1, .int .i64 x2, .int .i64 x3, .int .i64 x4, .int .i64 x5, .int .i64 x6]] w fun e w' => e = .returned (.tuple #[.int .u32 (0), .bool false]) ∧ Fr (fun _ => False) w w' := by
  have t3 : (x0 == 4) = false := beq_eq_false_iff_ne.2 h3
  have t4 : (x0 == 41) = false := beq_eq_false_iff_ne.2 h4
  clear h3 h4
  have x58 := idx58 3 19 (.func (.func 58) #[] #[]) (.func (.func 59) #[] #[])
  have i0 := fun W => (x58 W).1
  have i1 := fun W => (x58 W).2
  clear x58
  go_enter Try.func40, Try.ntmps40
  go_wp2_with fail
  have HI := Lib.hid ((Blk.new w 25 #[.int .i64 x0, .int .i64 x1, .int .i64 x2, .int .i64 x3, .int .i64 x4, .int .i64 x5, .int .i64 x6]).alloc (.cells #[.int .i64 x0, .int .i64 x1, .int .i64 x2, .int .i64 0, .int .i64 x4, .int .i64 x5, .int .i64 x6] 25))
  have HJ := Lib.hid (Blk.new (w.alloc (.cells #[.int .i64 x0, .int .i64 x1, .int .i64 x2, .int .i64 x3, .int .i64 x4, .int .i64 x5, .int .i64 x6] 25)) 25 #[.int .i64 x0, .int .i64 x1, .int .i64 x2, .int .i64 0, .int .i64 x4, .int .i64 x5, .int .i64 x6])
  have HF := Lib.hid (((Fr.refl (fun _ => False) w).alloc (.cells #[.int .i64 x0, .int .i64 x1, .int .i64 x2, .int .i64 x3, .int .i64 x4, .int .i64 x5, .int .i64 x6] 25)).alloc (.cells #[.int .i64 x0, .int .i64 x1, .int .i64 x2, .int .i64 0, .int .i64 x4, .int .i64 x5, .int .i64 x6] 25))
  rw [size_alloc1] at HJ
  generalize hwz : (w.alloc (.cells #[.int .i64 x0, .int .i64 x1, .int .i64 x2, .int .i64 x3, .int .i64 x4, .int .i64 x5, .int .i64 x6] 25)).alloc (.cells #[.int .i64 x0, .int .i64 x1, .int .i64 x2, .int .i64 0, .int .i64 x4, .int .i64 x5, .int .i64 x6] 25) = wz at *
  clear hwz
  refine wp_loop_rounds 3 ?_
  rw [rounds_succ]
  have HI := Lib.hid (HI.out.alloc (.cells #[.int .i64 3, .func (.func 58) #[] #[]] 60))
  have HJ := Lib.hid (HJ.out.alloc (.cells #[.int .i64 3, .func (.func 58) #[] #[]] 60))
  have HF := Lib.hid (HF.out.alloc (.cells #[.int .i64 3, .func (.func 58) #[] #[]] 60))
  obtain ⟨kI0, kI1, kI2, kI3, kI4, kI5, kI6, qI0, qI1, qI2, qI3, qI4, qI5, qI6⟩ := blkat7 HI.out
  obtain ⟨kJ0, kJ1, kJ2, kJ3, kJ4, kJ5, kJ6, qJ0, qJ1, qJ2, qJ3, qJ4, qJ5, qJ6⟩ := blkat7 HJ.out
  go_wp2_with fail
  clear kI0 kI1 kI2 kI3 kI4 kI5 kI6 qI0 qI1 qI2 qI3 qI4 qI5 qI6
  clear kJ0 kJ1 kJ2 kJ3 kJ4 kJ5 kJ6 qJ0 qJ1 qJ2 qJ3 qJ4 qJ5 qJ6
  refine (find_loads_no x0 3 0 _ h1).mono ?_
  rintro e w2 ⟨rfl, hf⟩
  have HI := Lib.hid (HI.out.fr hf id)
  have HJ := Lib.hid (HJ.out.fr hf id)
  have HF := Lib.hid (HF.out.trans hf (fun _ _ => id))
  clear hf
  have HI := Lib.hid (HI.out.alloc (.cells #[.int .i64 0, .int .i64 0, .int .i64 0] 50))
  have HJ := Lib.hid (HJ.out.alloc (.cells #[.int .i64 0, .int .i64 0, .int .i64 0] 50))
  have HF := Lib.hid (HF.out.alloc (.cells #[.int .i64 0, .int .i64 0, .int .i64 0] 50))
  go_wp2_with fail
  rw [rounds_succ]
  have HI := Lib.hid (HI.out.alloc (.cells #[.int .i64 19, .func (.func 59) #[] #[]] 60))
  have HJ := Lib.hid (HJ.out.alloc (.cells #[.int .i64 19, .func (.func 59) #[] #[]] 60))
  have HF := Lib.hid (HF.out.alloc (.cells #[.int .i64 19, .func (.func 59) #[] #[]] 60))
  obtain ⟨kI0, kI1, kI2, kI3, kI4, kI5, kI6, qI0, qI1, qI2, qI3, qI4, qI5, qI6⟩ := blkat7 HI.out
  obtain ⟨kJ0, kJ1, kJ2, kJ3, kJ4, kJ5, kJ6, qJ0, qJ1, qJ2, qJ3, qJ4, qJ5, qJ6⟩ := blkat7 HJ.out
  go_wp2_with fail
  clear kI0 kI1 kI2 kI3 kI4 kI5 kI6 qI0 qI1 qI2 qI3 qI4 qI5 qI6
  clear kJ0 kJ1 kJ2 kJ3 kJ4 kJ5 kJ6 qJ0 qJ1 qJ2 qJ3 qJ4 qJ5 qJ6
  refine (find_plainImm_no x0 19 0 _ h2).mono ?_
  rintro e w3 ⟨rfl, hf⟩
  have HI := Lib.hid (HI.out.fr hf id)
  have HJ := Lib.hid (HJ.out.fr hf id)
  have HF := Lib.hid (HF.out.trans hf (fun _ _ => id))
  clear hf
  have HI := Lib.hid (HI.out.alloc (.cells #[.int .i64 0, .int .i64 0, .int .i64 0] 50))
  have HJ := Lib.hid (HJ.out.alloc (.cells #[.int .i64 0, .int .i64 0, .int .i64 0] 50))
  have HF := Lib.hid (HF.out.alloc (.cells #[.int .i64 0, .int .i64 0, .int .i64 0] 50))
  go_wp2_with fail
  rw [rounds_succ]
  obtain ⟨kI0, kI1, kI2, kI3, kI4, kI5, kI6, qI0, qI1, qI2, qI3, qI4, qI5, qI6⟩ := blkat7 HI.out
  obtain ⟨kJ0, kJ1, kJ2, kJ3, kJ4, kJ5, kJ6, qJ0, qJ1, qJ2, qJ3, qJ4, qJ5, qJ6⟩ := blkat7 HJ.out
  go_wp2_with fail
  clear kI0 kI1 kI2 kI3 kI4 kI5 kI6 qI0 qI1 qI2 qI3 qI4 qI5 qI6
  clear kJ0 kJ1 kJ2 kJ3 kJ4 kJ5 kJ6 qJ0 qJ1 qJ2 qJ3 qJ4 qJ5 qJ6
  refine (find_branches_no x0 99 0 _ h5).mono ?_
  rintro e w4 ⟨rfl, hf⟩
  have HI := Lib.hid (HI.out.fr hf id)
  have HJ := Lib.hid (HJ.out.fr hf id)
  have HF := Lib.hid (HF.out.trans hf (fun _ _ => id))
  clear hf
  have HI := Lib.hid (HI.out.alloc (.cells #[.int .i64 0, .int .i64 0, .int .i64 0] 50))
  have HJ := Lib.hid (HJ.out.alloc (.cells #[.int .i64 0, .int .i64 0, .int .i64 0] 50))
  have HF := Lib.hid (HF.out.alloc (.cells #[.int .i64 0, .int .i64 0, .int .i64 0] 50))
  obtain ⟨kI0, kI1, kI2, kI3, kI4, kI5, kI6, qI0, qI1, qI2, qI3, qI4, qI5, qI6⟩ := blkat7 HI.out
  go_wp2_with fail
  clear kI0 kI1 kI2 kI3 kI4 kI5 kI6 qI0 qI1 qI2 qI3 qI4 qI5 qI6
  refine (find_stores_no x0 35 0 _ h6).mono ?_
  rintro e w5 ⟨rfl, hf⟩
  have HI := Lib.hid (HI.out.fr hf id)
  have HJ := Lib.hid (HJ.out.fr hf id)
  have HF := Lib.hid (HF.out.trans hf (fun _ _ => id))
  clear hf
  have HF := Lib.hid (HF.out.alloc (.cells #[.int .i64 0, .int .i64 0, .int .i64 0] 50))
  go_wp2_with fail
  go_ret2
  exact ⟨rfl, HF.out⟩
end Go.Proofs.Ytgefhoikpjiamaa.Ins
