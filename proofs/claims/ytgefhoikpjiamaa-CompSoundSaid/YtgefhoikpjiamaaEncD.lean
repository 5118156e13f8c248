/- inst.encode, Encode and Sound, walked: they answer as their plain twins say, for every instruction. -/
import Derived.Test.YtgefhoikpjiamaaEncC
import Derived.Test.YtgefhoikpjiamaaInsD
import Derived.Test.YtgefhoikpjiamaaWEqStruct
namespace Go.Proofs.Ytgefhoikpjiamaa.Ins
open Go Go.RowKit Go.Proofs.YtgefhoikpjiamaaW.PrintWords Go.Proofs.YtgefhoikpjiamaaW.PrintLast Go.Proofs.YtgefhoikpjiamaaW.PrintMore
open Go.Proofs.Ytgefhoikpjiamaa.Hp Go.Proofs.Ytgefhoikpjiamaa.Bv
attribute [local go_sem] max2_int min2_int max_two min_two max_three min_three max_four min_four
set_option linter.unusedVariables false
set_option linter.unusedSimpArgs false

/-- What middle answers. -/
def midE (i : I7) : Int × Bool :=
  match findP ldT i.1 with
  | some j => (Go.bits .or .u32 (layE 3 (j : Int) 0 i.2.1 i.2.2.1 0) (nE i.2.2.2.2.1), true)
  | none => match findP piT i.1 with
    | some j => (Go.bits .or .u32 (layE 19 (j : Int) 0 i.2.1 i.2.2.1 0) (nE i.2.2.2.2.1), true)
    | none =>
      if i.1 = 4 then (Go.bits .or .u32 (layE 103 0 0 i.2.1 i.2.2.1 0) (nE i.2.2.2.2.1), true)
      else if i.1 = 41 then (Go.bits .or .u32 (layE 27 0 0 i.2.1 i.2.2.1 0) (nE i.2.2.2.2.1), true)
      else match findP brT i.1 with
        | some j => (Go.bits .or .u32 (layE 99 (j : Int) 0 0 i.2.2.1 i.2.2.2.1) (splitBE i.2.2.2.2.1), true)
        | none => match findP stT i.1 with
          | some j => (layE 35 (j : Int) (Go.bits .and .i64 (i.2.2.2.2.1 / 32) 127) (Go.bits .and .i64 i.2.2.2.2.1 31) i.2.2.1 i.2.2.2.1, true)
          | none => (0, false)
theorem middle_any (x0 x1 x2 x3 x4 x5 x6 : Int) (w : World) : Calls Try.prog 40 #[.agg #[.int .i64 x0, .int .i64 x1, .int .i64 x2, .int .i64 x3, .int .i64 x4, .int .i64 x5, .int .i64 x6]] w fun e w' => e = .returned (.tuple #[.int .u32 (midE (x0, x1, x2, x3, x4, x5, x6)).1, .bool (midE (x0, x1, x2, x3, x4, x5, x6)).2]) ∧ Fr (fun _ => False) w w' := by
  unfold midE
  dsimp only
  rcases h1 : findP ldT x0 with _ | j
  · rcases h2 : findP piT x0 with _ | j
    · by_cases h3 : x0 = 4
      · dsimp only
        rw [if_pos h3]
        exact middle_3 x0 x1 x2 x3 x4 x5 x6 w h1 h2 h3
      · by_cases h4 : x0 = 41
        · dsimp only
          rw [if_neg h3, if_pos h4]
          exact middle_4 x0 x1 x2 x3 x4 x5 x6 w h1 h2 h3 h4
        · dsimp only
          rw [if_neg h3, if_neg h4]
          rcases h5 : findP brT x0 with _ | j
          · rcases h6 : findP stT x0 with _ | j
            · exact middle_7 x0 x1 x2 x3 x4 x5 x6 w h1 h2 h3 h4 h5 h6
            · exact middle_6 x0 x1 x2 x3 x4 x5 x6 j w h1 h2 h3 h4 h5 h6
          · exact middle_5 x0 x1 x2 x3 x4 x5 x6 j w h1 h2 h3 h4 h5
    · exact middle_2 x0 x1 x2 x3 x4 x5 x6 j w h1 h2
  · exact middle_1 x0 x1 x2 x3 x4 x5 x6 j w h1
/-- What encode answers. -/
def encE (i : I7) : Int × Bool :=
  if i.1 < 1 ∨ 88 < i.1 then (0, false)
  else if (upE i).2 = true then ((upE i).1, true)
  else if (shE i).2 = true then ((shE i).1, true)
  else if (midE i).2 = true then ((midE i).1, true)
  else match regsE i.1 with
    | some p => (layE p.1 p.2.1 p.2.2 i.2.1 i.2.2.1 i.2.2.2.1, true)
    | none => if (amE i).2.2.2 = true then (layE (amE i).1 (amE i).2.1 (amE i).2.2.1 i.2.1 i.2.2.1 i.2.2.2.1, true) else (0, false)
set_option maxHeartbeats 1000000 in
theorem encode_0 (x0 x1 x2 x3 x4 x5 x6 : Int) (w : World) (h0 : x0 < 1) : Calls Try.prog 35 #[.agg #[.int .i64 x0, .int .i64 x1, .int .i64 x2, .int .i64 x3, .int .i64 x4, .int .i64 x5, .int .i64 x6]] w fun e w' => e = .returned (.tuple #[.int .u32 (0), .bool false]) ∧ Fr (fun _ => False) w w' := by
  have t0 : decide (x0 < 1) = true := decide_eq_true h0
  have HI := Lib.hid (Blk.new w 25 #[.int .i64 x0, .int .i64 x1, .int .i64 x2, .int .i64 x3, .int .i64 x4, .int .i64 x5, .int .i64 x6])
  have HF := Lib.hid ((Fr.refl (fun _ => False) w).alloc (.cells #[.int .i64 x0, .int .i64 x1, .int .i64 x2, .int .i64 x3, .int .i64 x4, .int .i64 x5, .int .i64 x6] 25))
  clear h0 
  go_enter Try.func35, Try.ntmps35
  go_wp2_with fail
  go_ret2
  exact ⟨rfl, HF.out⟩
set_option maxHeartbeats 1000000 in
theorem encode_1 (x0 x1 x2 x3 x4 x5 x6 : Int) (w : World) (h0 : ¬ x0 < 1) (h1 : 88 < x0) : Calls Try.prog 35 #[.agg #[.int .i64 x0, .int .i64 x1, .int .i64 x2, .int .i64 x3, .int .i64 x4, .int .i64 x5, .int .i64 x6]] w fun e w' => e = .returned (.tuple #[.int .u32 (0), .bool false]) ∧ Fr (fun _ => False) w w' := by
  have t0 : decide (x0 < 1) = false := decide_eq_false h0
  have t1 : decide (88 < x0) = true := decide_eq_true h1
  have HI := Lib.hid (Blk.new w 25 #[.int .i64 x0, .int .i64 x1, .int .i64 x2, .int .i64 x3, .int .i64 x4, .int .i64 x5, .int .i64 x6])
  have HF := Lib.hid ((Fr.refl (fun _ => False) w).alloc (.cells #[.int .i64 x0, .int .i64 x1, .int .i64 x2, .int .i64 x3, .int .i64 x4, .int .i64 x5, .int .i64 x6] 25))
  clear h0 h1
  go_enter Try.func35, Try.ntmps35
  go_wp2_with fail
  go_ret2
  exact ⟨rfl, HF.out⟩
set_option maxHeartbeats 1000000 in
theorem encode_2 (x0 x1 x2 x3 x4 x5 x6 u : Int) (w : World) (h0 : ¬ x0 < 1) (h1 : ¬ 88 < x0) (hU : upE (x0, x1, x2, x3, x4, x5, x6) = (u, true)) : Calls Try.prog 35 #[.agg #[.int .i64 x0, .int .i64 x1, .int .i64 x2, .int .i64 x3, .int .i64 x4, .int .i64 x5, .int .i64 x6]] w fun e w' => e = .returned (.tuple #[.int .u32 (u), .bool true]) ∧ Fr (fun _ => False) w w' := by
  have t0 : decide (x0 < 1) = false := decide_eq_false h0
  have t1 : decide (88 < x0) = false := decide_eq_false h1
  have HU := Lib.hid (show ∀ W, Calls Try.prog 38 #[.agg #[.int .i64 x0, .int .i64 x1, .int .i64 x2, .int .i64 x3, .int .i64 x4, .int .i64 x5, .int .i64 x6]] W fun e w' => e = .returned (.tuple #[.int .u32 u, .bool true]) ∧ Fr (fun _ => False) W w' from fun W => by have e := upper_any x0 x1 x2 x3 x4 x5 x6 W; rw [hU] at e; exact e)
  clear hU
  have HI := Lib.hid (Blk.new w 25 #[.int .i64 x0, .int .i64 x1, .int .i64 x2, .int .i64 x3, .int .i64 x4, .int .i64 x5, .int .i64 x6])
  have HF := Lib.hid ((Fr.refl (fun _ => False) w).alloc (.cells #[.int .i64 x0, .int .i64 x1, .int .i64 x2, .int .i64 x3, .int .i64 x4, .int .i64 x5, .int .i64 x6] 25))
  clear h0 h1
  go_enter Try.func35, Try.ntmps35
  go_wp2_with fail
  refine (HU.out _).mono ?_
  rintro e w2 ⟨rfl, hf⟩
  have HI := Lib.hid (HI.out.fr hf id)
  have HF := Lib.hid (HF.out.trans hf (fun _ _ => id))
  clear hf
  go_wp2_with fail
  go_ret2
  exact ⟨rfl, HF.out⟩
set_option maxHeartbeats 1000000 in
theorem encode_3 (x0 x1 x2 x3 x4 x5 x6 u s : Int) (w : World) (h0 : ¬ x0 < 1) (h1 : ¬ 88 < x0) (hU : upE (x0, x1, x2, x3, x4, x5, x6) = (u, false)) (hS : shE (x0, x1, x2, x3, x4, x5, x6) = (s, true)) : Calls Try.prog 35 #[.agg #[.int .i64 x0, .int .i64 x1, .int .i64 x2, .int .i64 x3, .int .i64 x4, .int .i64 x5, .int .i64 x6]] w fun e w' => e = .returned (.tuple #[.int .u32 (s), .bool true]) ∧ Fr (fun _ => False) w w' := by
  have t0 : decide (x0 < 1) = false := decide_eq_false h0
  have t1 : decide (88 < x0) = false := decide_eq_false h1
  have HU := Lib.hid (show ∀ W, Calls Try.prog 38 #[.agg #[.int .i64 x0, .int .i64 x1, .int .i64 x2, .int .i64 x3, .int .i64 x4, .int .i64 x5, .int .i64 x6]] W fun e w' => e = .returned (.tuple #[.int .u32 u, .bool false]) ∧ Fr (fun _ => False) W w' from fun W => by have e := upper_any x0 x1 x2 x3 x4 x5 x6 W; rw [hU] at e; exact e)
  clear hU
  have HS := Lib.hid (show ∀ W, Calls Try.prog 39 #[.agg #[.int .i64 x0, .int .i64 x1, .int .i64 x2, .int .i64 x3, .int .i64 x4, .int .i64 x5, .int .i64 x6]] W fun e w' => e = .returned (.tuple #[.int .u32 s, .bool true]) ∧ Fr (fun _ => False) W w' from fun W => by have e := shifted_any x0 x1 x2 x3 x4 x5 x6 W; rw [hS] at e; exact e)
  clear hS
  have HI := Lib.hid (Blk.new w 25 #[.int .i64 x0, .int .i64 x1, .int .i64 x2, .int .i64 x3, .int .i64 x4, .int .i64 x5, .int .i64 x6])
  have HF := Lib.hid ((Fr.refl (fun _ => False) w).alloc (.cells #[.int .i64 x0, .int .i64 x1, .int .i64 x2, .int .i64 x3, .int .i64 x4, .int .i64 x5, .int .i64 x6] 25))
  clear h0 h1
  go_enter Try.func35, Try.ntmps35
  go_wp2_with fail
  refine (HU.out _).mono ?_
  rintro e w2 ⟨rfl, hf⟩
  have HI := Lib.hid (HI.out.fr hf id)
  have HF := Lib.hid (HF.out.trans hf (fun _ _ => id))
  clear hf
  obtain ⟨k0, k1, k2, k3, k4, k5, k6, _, _, _, _, _, _, _⟩ := blkat7 HI.out
  go_wp2_with fail
  clear k0 k1 k2 k3 k4 k5 k6
  refine (HS.out _).mono ?_
  rintro e w3 ⟨rfl, hf⟩
  have HI := Lib.hid (HI.out.fr hf id)
  have HF := Lib.hid (HF.out.trans hf (fun _ _ => id))
  clear hf
  go_wp2_with fail
  go_ret2
  exact ⟨rfl, HF.out⟩
set_option maxHeartbeats 1000000 in
theorem encode_4 (x0 x1 x2 x3 x4 x5 x6 u s m : Int) (w : World) (h0 : ¬ x0 < 1) (h1 : ¬ 88 < x0) (hU : upE (x0, x1, x2, x3, x4, x5, x6) = (u, false)) (hS : shE (x0, x1, x2, x3, x4, x5, x6) = (s, false)) (hM : midE (x0, x1, x2, x3, x4, x5, x6) = (m, true)) : Calls Try.prog 35 #[.agg #[.int .i64 x0, .int .i64 x1, .int .i64 x2, .int .i64 x3, .int .i64 x4, .int .i64 x5, .int .i64 x6]] w fun e w' => e = .returned (.tuple #[.int .u32 (m), .bool true]) ∧ Fr (fun _ => False) w w' := by
  have t0 : decide (x0 < 1) = false := decide_eq_false h0
  have t1 : decide (88 < x0) = false := decide_eq_false h1
  have HU := Lib.hid (show ∀ W, Calls Try.prog 38 #[.agg #[.int .i64 x0, .int .i64 x1, .int .i64 x2, .int .i64 x3, .int .i64 x4, .int .i64 x5, .int .i64 x6]] W fun e w' => e = .returned (.tuple #[.int .u32 u, .bool false]) ∧ Fr (fun _ => False) W w' from fun W => by have e := upper_any x0 x1 x2 x3 x4 x5 x6 W; rw [hU] at e; exact e)
  clear hU
  have HS := Lib.hid (show ∀ W, Calls Try.prog 39 #[.agg #[.int .i64 x0, .int .i64 x1, .int .i64 x2, .int .i64 x3, .int .i64 x4, .int .i64 x5, .int .i64 x6]] W fun e w' => e = .returned (.tuple #[.int .u32 s, .bool false]) ∧ Fr (fun _ => False) W w' from fun W => by have e := shifted_any x0 x1 x2 x3 x4 x5 x6 W; rw [hS] at e; exact e)
  clear hS
  have HM := Lib.hid (show ∀ W, Calls Try.prog 40 #[.agg #[.int .i64 x0, .int .i64 x1, .int .i64 x2, .int .i64 x3, .int .i64 x4, .int .i64 x5, .int .i64 x6]] W fun e w' => e = .returned (.tuple #[.int .u32 m, .bool true]) ∧ Fr (fun _ => False) W w' from fun W => by have e := middle_any x0 x1 x2 x3 x4 x5 x6 W; rw [hM] at e; exact e)
  clear hM
  have HI := Lib.hid (Blk.new w 25 #[.int .i64 x0, .int .i64 x1, .int .i64 x2, .int .i64 x3, .int .i64 x4, .int .i64 x5, .int .i64 x6])
  have HF := Lib.hid ((Fr.refl (fun _ => False) w).alloc (.cells #[.int .i64 x0, .int .i64 x1, .int .i64 x2, .int .i64 x3, .int .i64 x4, .int .i64 x5, .int .i64 x6] 25))
  clear h0 h1
  go_enter Try.func35, Try.ntmps35
  go_wp2_with fail
  refine (HU.out _).mono ?_
  rintro e w2 ⟨rfl, hf⟩
  have HI := Lib.hid (HI.out.fr hf id)
  have HF := Lib.hid (HF.out.trans hf (fun _ _ => id))
  clear hf
  obtain ⟨k0, k1, k2, k3, k4, k5, k6, _, _, _, _, _, _, _⟩ := blkat7 HI.out
  go_wp2_with fail
  clear k0 k1 k2 k3 k4 k5 k6
  refine (HS.out _).mono ?_
  rintro e w3 ⟨rfl, hf⟩
  have HI := Lib.hid (HI.out.fr hf id)
  have HF := Lib.hid (HF.out.trans hf (fun _ _ => id))
  clear hf
  obtain ⟨k0, k1, k2, k3, k4, k5, k6, _, _, _, _, _, _, _⟩ := blkat7 HI.out
  go_wp2_with fail
  clear k0 k1 k2 k3 k4 k5 k6
  refine (HM.out _).mono ?_
  rintro e w4 ⟨rfl, hf⟩
  have HI := Lib.hid (HI.out.fr hf id)
  have HF := Lib.hid (HF.out.trans hf (fun _ _ => id))
  clear hf
  go_wp2_with fail
  go_ret2
  exact ⟨rfl, HF.out⟩
set_option maxHeartbeats 1000000 in
theorem encode_5 (x0 x1 x2 x3 x4 x5 x6 u s m p0 p1 p2 : Int) (w : World) (h0 : ¬ x0 < 1) (h1 : ¬ 88 < x0) (hU : upE (x0, x1, x2, x3, x4, x5, x6) = (u, false)) (hS : shE (x0, x1, x2, x3, x4, x5, x6) = (s, false)) (hM : midE (x0, x1, x2, x3, x4, x5, x6) = (m, false)) (hR : regsE x0 = some (p0, p1, p2)) : Calls Try.prog 35 #[.agg #[.int .i64 x0, .int .i64 x1, .int .i64 x2, .int .i64 x3, .int .i64 x4, .int .i64 x5, .int .i64 x6]] w fun e w' => e = .returned (.tuple #[.int .u32 (layE p0 p1 p2 x1 x2 x3), .bool true]) ∧ Fr (fun _ => False) w w' := by
  have t0 : decide (x0 < 1) = false := decide_eq_false h0
  have t1 : decide (88 < x0) = false := decide_eq_false h1
  have HU := Lib.hid (show ∀ W, Calls Try.prog 38 #[.agg #[.int .i64 x0, .int .i64 x1, .int .i64 x2, .int .i64 x3, .int .i64 x4, .int .i64 x5, .int .i64 x6]] W fun e w' => e = .returned (.tuple #[.int .u32 u, .bool false]) ∧ Fr (fun _ => False) W w' from fun W => by have e := upper_any x0 x1 x2 x3 x4 x5 x6 W; rw [hU] at e; exact e)
  clear hU
  have HS := Lib.hid (show ∀ W, Calls Try.prog 39 #[.agg #[.int .i64 x0, .int .i64 x1, .int .i64 x2, .int .i64 x3, .int .i64 x4, .int .i64 x5, .int .i64 x6]] W fun e w' => e = .returned (.tuple #[.int .u32 s, .bool false]) ∧ Fr (fun _ => False) W w' from fun W => by have e := shifted_any x0 x1 x2 x3 x4 x5 x6 W; rw [hS] at e; exact e)
  clear hS
  have HM := Lib.hid (show ∀ W, Calls Try.prog 40 #[.agg #[.int .i64 x0, .int .i64 x1, .int .i64 x2, .int .i64 x3, .int .i64 x4, .int .i64 x5, .int .i64 x6]] W fun e w' => e = .returned (.tuple #[.int .u32 m, .bool false]) ∧ Fr (fun _ => False) W w' from fun W => by have e := middle_any x0 x1 x2 x3 x4 x5 x6 W; rw [hM] at e; exact e)
  clear hM
  have HR := Lib.hid (show ∀ W, Calls Try.prog 41 #[.int .i64 x0] W (FindPost W p0 p1 p2 true) from fun W => regs_any x0 _ hR W)
  clear hR
  have HI := Lib.hid (Blk.new w 25 #[.int .i64 x0, .int .i64 x1, .int .i64 x2, .int .i64 x3, .int .i64 x4, .int .i64 x5, .int .i64 x6])
  have HF := Lib.hid ((Fr.refl (fun _ => False) w).alloc (.cells #[.int .i64 x0, .int .i64 x1, .int .i64 x2, .int .i64 x3, .int .i64 x4, .int .i64 x5, .int .i64 x6] 25))
  clear h0 h1
  go_enter Try.func35, Try.ntmps35
  go_wp2_with fail
  refine (HU.out _).mono ?_
  rintro e w2 ⟨rfl, hf⟩
  have HI := Lib.hid (HI.out.fr hf id)
  have HF := Lib.hid (HF.out.trans hf (fun _ _ => id))
  clear hf
  obtain ⟨k0, k1, k2, k3, k4, k5, k6, _, _, _, _, _, _, _⟩ := blkat7 HI.out
  go_wp2_with fail
  clear k0 k1 k2 k3 k4 k5 k6
  refine (HS.out _).mono ?_
  rintro e w3 ⟨rfl, hf⟩
  have HI := Lib.hid (HI.out.fr hf id)
  have HF := Lib.hid (HF.out.trans hf (fun _ _ => id))
  clear hf
  obtain ⟨k0, k1, k2, k3, k4, k5, k6, _, _, _, _, _, _, _⟩ := blkat7 HI.out
  go_wp2_with fail
  clear k0 k1 k2 k3 k4 k5 k6
  refine (HM.out _).mono ?_
  rintro e w4 ⟨rfl, hf⟩
  have HI := Lib.hid (HI.out.fr hf id)
  have HF := Lib.hid (HF.out.trans hf (fun _ _ => id))
  clear hf
  obtain ⟨k0, k1, k2, k3, k4, k5, k6, _, _, _, _, _, _, _⟩ := blkat7 HI.out
  go_wp2_with fail
  clear k0 k1 k2 k3 k4 k5 k6
  refine (HR.out _).mono ?_
  rintro e w6 ⟨rfl, hf⟩
  have HI := Lib.hid (HI.out.fr hf id)
  have HF := Lib.hid (HF.out.trans hf (fun _ _ => id))
  clear hf
  have HI := Lib.hid (HI.out.alloc (.cells #[.int .i64 p0, .int .i64 p1, .int .i64 p2] 50))
  have HF := Lib.hid (HF.out.alloc (.cells #[.int .i64 p0, .int .i64 p1, .int .i64 p2] 50))
  obtain ⟨k0, k1, k2, k3, k4, k5, k6, _, _, _, _, _, _, _⟩ := blkat7 HI.out
  go_wp2_with fail
  clear k0 k1 k2 k3 k4 k5 k6
  refine (lay_any _ _ _ _ _ _ _ _ _ _ _).mono ?_
  rintro e w8 ⟨rfl, hf⟩
  have HF := Lib.hid (HF.out.trans hf (fun _ _ => id))
  clear hf
  go_wp2_with fail
  go_ret2
  exact ⟨rfl, HF.out⟩
set_option maxHeartbeats 1000000 in
theorem encode_6 (x0 x1 x2 x3 x4 x5 x6 u s m p0 p1 p2 : Int) (w : World) (h0 : ¬ x0 < 1) (h1 : ¬ 88 < x0) (hU : upE (x0, x1, x2, x3, x4, x5, x6) = (u, false)) (hS : shE (x0, x1, x2, x3, x4, x5, x6) = (s, false)) (hM : midE (x0, x1, x2, x3, x4, x5, x6) = (m, false)) (hR : regsE x0 = none) (hA : amE (x0, x1, x2, x3, x4, x5, x6) = (p0, p1, p2, true)) : Calls Try.prog 35 #[.agg #[.int .i64 x0, .int .i64 x1, .int .i64 x2, .int .i64 x3, .int .i64 x4, .int .i64 x5, .int .i64 x6]] w fun e w' => e = .returned (.tuple #[.int .u32 (layE p0 p1 p2 x1 x2 x3), .bool true]) ∧ Fr (fun _ => False) w w' := by
  have t0 : decide (x0 < 1) = false := decide_eq_false h0
  have t1 : decide (88 < x0) = false := decide_eq_false h1
  have HU := Lib.hid (show ∀ W, Calls Try.prog 38 #[.agg #[.int .i64 x0, .int .i64 x1, .int .i64 x2, .int .i64 x3, .int .i64 x4, .int .i64 x5, .int .i64 x6]] W fun e w' => e = .returned (.tuple #[.int .u32 u, .bool false]) ∧ Fr (fun _ => False) W w' from fun W => by have e := upper_any x0 x1 x2 x3 x4 x5 x6 W; rw [hU] at e; exact e)
  clear hU
  have HS := Lib.hid (show ∀ W, Calls Try.prog 39 #[.agg #[.int .i64 x0, .int .i64 x1, .int .i64 x2, .int .i64 x3, .int .i64 x4, .int .i64 x5, .int .i64 x6]] W fun e w' => e = .returned (.tuple #[.int .u32 s, .bool false]) ∧ Fr (fun _ => False) W w' from fun W => by have e := shifted_any x0 x1 x2 x3 x4 x5 x6 W; rw [hS] at e; exact e)
  clear hS
  have HM := Lib.hid (show ∀ W, Calls Try.prog 40 #[.agg #[.int .i64 x0, .int .i64 x1, .int .i64 x2, .int .i64 x3, .int .i64 x4, .int .i64 x5, .int .i64 x6]] W fun e w' => e = .returned (.tuple #[.int .u32 m, .bool false]) ∧ Fr (fun _ => False) W w' from fun W => by have e := middle_any x0 x1 x2 x3 x4 x5 x6 W; rw [hM] at e; exact e)
  clear hM
  have HR := Lib.hid (show ∀ W, Calls Try.prog 41 #[.int .i64 x0] W (FindPost W 0 0 0 false) from fun W => regs_any x0 _ hR W)
  clear hR
  have HA := Lib.hid (show ∀ W, Calls Try.prog 43 #[.agg #[.int .i64 x0, .int .i64 x1, .int .i64 x2, .int .i64 x3, .int .i64 x4, .int .i64 x5, .int .i64 x6]] W (FindPost W p0 p1 p2 true) from fun W => by have e := amos_any x0 x1 x2 x3 x4 x5 x6 W; rw [hA] at e; exact e)
  clear hA
  have HI := Lib.hid (Blk.new w 25 #[.int .i64 x0, .int .i64 x1, .int .i64 x2, .int .i64 x3, .int .i64 x4, .int .i64 x5, .int .i64 x6])
  have HF := Lib.hid ((Fr.refl (fun _ => False) w).alloc (.cells #[.int .i64 x0, .int .i64 x1, .int .i64 x2, .int .i64 x3, .int .i64 x4, .int .i64 x5, .int .i64 x6] 25))
  clear h0 h1
  go_enter Try.func35, Try.ntmps35
  go_wp2_with fail
  refine (HU.out _).mono ?_
  rintro e w2 ⟨rfl, hf⟩
  have HI := Lib.hid (HI.out.fr hf id)
  have HF := Lib.hid (HF.out.trans hf (fun _ _ => id))
  clear hf
  obtain ⟨k0, k1, k2, k3, k4, k5, k6, _, _, _, _, _, _, _⟩ := blkat7 HI.out
  go_wp2_with fail
  clear k0 k1 k2 k3 k4 k5 k6
  refine (HS.out _).mono ?_
  rintro e w3 ⟨rfl, hf⟩
  have HI := Lib.hid (HI.out.fr hf id)
  have HF := Lib.hid (HF.out.trans hf (fun _ _ => id))
  clear hf
  obtain ⟨k0, k1, k2, k3, k4, k5, k6, _, _, _, _, _, _, _⟩ := blkat7 HI.out
  go_wp2_with fail
  clear k0 k1 k2 k3 k4 k5 k6
  refine (HM.out _).mono ?_
  rintro e w4 ⟨rfl, hf⟩
  have HI := Lib.hid (HI.out.fr hf id)
  have HF := Lib.hid (HF.out.trans hf (fun _ _ => id))
  clear hf
  obtain ⟨k0, k1, k2, k3, k4, k5, k6, _, _, _, _, _, _, _⟩ := blkat7 HI.out
  go_wp2_with fail
  clear k0 k1 k2 k3 k4 k5 k6
  refine (HR.out _).mono ?_
  rintro e w6 ⟨rfl, hf⟩
  have HI := Lib.hid (HI.out.fr hf id)
  have HF := Lib.hid (HF.out.trans hf (fun _ _ => id))
  clear hf
  have HI := Lib.hid (HI.out.alloc (.cells #[.int .i64 0, .int .i64 0, .int .i64 0] 50))
  have HF := Lib.hid (HF.out.alloc (.cells #[.int .i64 0, .int .i64 0, .int .i64 0] 50))
  obtain ⟨k0, k1, k2, k3, k4, k5, k6, _, _, _, _, _, _, _⟩ := blkat7 HI.out
  go_wp2_with fail
  clear k0 k1 k2 k3 k4 k5 k6
  refine (HA.out _).mono ?_
  rintro e w7 ⟨rfl, hf⟩
  have HI := Lib.hid (HI.out.fr hf id)
  have HF := Lib.hid (HF.out.trans hf (fun _ _ => id))
  clear hf
  have HI := Lib.hid (HI.out.alloc (.cells #[.int .i64 p0, .int .i64 p1, .int .i64 p2] 50))
  have HF := Lib.hid (HF.out.alloc (.cells #[.int .i64 p0, .int .i64 p1, .int .i64 p2] 50))
  obtain ⟨k0, k1, k2, k3, k4, k5, k6, _, _, _, _, _, _, _⟩ := blkat7 HI.out
  go_wp2_with fail
  clear k0 k1 k2 k3 k4 k5 k6
  refine (lay_any _ _ _ _ _ _ _ _ _ _ _).mono ?_
  rintro e w8 ⟨rfl, hf⟩
  have HF := Lib.hid (HF.out.trans hf (fun _ _ => id))
  clear hf
  go_wp2_with fail
  go_ret2
  exact ⟨rfl, HF.out⟩
set_option maxHeartbeats 1000000 in
theorem encode_7 (x0 x1 x2 x3 x4 x5 x6 u s m p0 p1 p2 : Int) (w : World) (h0 : ¬ x0 < 1) (h1 : ¬ 88 < x0) (hU : upE (x0, x1, x2, x3, x4, x5, x6) = (u, false)) (hS : shE (x0, x1, x2, x3, x4, x5, x6) = (s, false)) (hM : midE (x0, x1, x2, x3, x4, x5, x6) = (m, false)) (hR : regsE x0 = none) (hA : amE (x0, x1, x2, x3, x4, x5, x6) = (p0, p1, p2, false)) : Calls Try.prog 35 #[.agg #[.int .i64 x0, .int .i64 x1, .int .i64 x2, .int .i64 x3, .int .i64 x4, .int .i64 x5, .int .i64 x6]] w fun e w' => e = .returned (.tuple #[.int .u32 (0), .bool false]) ∧ Fr (fun _ => False) w w' := by
  have t0 : decide (x0 < 1) = false := decide_eq_false h0
  have t1 : decide (88 < x0) = false := decide_eq_false h1
  have HU := Lib.hid (show ∀ W, Calls Try.prog 38 #[.agg #[.int .i64 x0, .int .i64 x1, .int .i64 x2, .int .i64 x3, .int .i64 x4, .int .i64 x5, .int .i64 x6]] W fun e w' => e = .returned (.tuple #[.int .u32 u, .bool false]) ∧ Fr (fun _ => False) W w' from fun W => by have e := upper_any x0 x1 x2 x3 x4 x5 x6 W; rw [hU] at e; exact e)
  clear hU
  have HS := Lib.hid (show ∀ W, Calls Try.prog 39 #[.agg #[.int .i64 x0, .int .i64 x1, .int .i64 x2, .int .i64 x3, .int .i64 x4, .int .i64 x5, .int .i64 x6]] W fun e w' => e = .returned (.tuple #[.int .u32 s, .bool false]) ∧ Fr (fun _ => False) W w' from fun W => by have e := shifted_any x0 x1 x2 x3 x4 x5 x6 W; rw [hS] at e; exact e)
  clear hS
  have HM := Lib.hid (show ∀ W, Calls Try.prog 40 #[.agg #[.int .i64 x0, .int .i64 x1, .int .i64 x2, .int .i64 x3, .int .i64 x4, .int .i64 x5, .int .i64 x6]] W fun e w' => e = .returned (.tuple #[.int .u32 m, .bool false]) ∧ Fr (fun _ => False) W w' from fun W => by have e := middle_any x0 x1 x2 x3 x4 x5 x6 W; rw [hM] at e; exact e)
  clear hM
  have HR := Lib.hid (show ∀ W, Calls Try.prog 41 #[.int .i64 x0] W (FindPost W 0 0 0 false) from fun W => regs_any x0 _ hR W)
  clear hR
  have HA := Lib.hid (show ∀ W, Calls Try.prog 43 #[.agg #[.int .i64 x0, .int .i64 x1, .int .i64 x2, .int .i64 x3, .int .i64 x4, .int .i64 x5, .int .i64 x6]] W (FindPost W p0 p1 p2 false) from fun W => by have e := amos_any x0 x1 x2 x3 x4 x5 x6 W; rw [hA] at e; exact e)
  clear hA
  have HI := Lib.hid (Blk.new w 25 #[.int .i64 x0, .int .i64 x1, .int .i64 x2, .int .i64 x3, .int .i64 x4, .int .i64 x5, .int .i64 x6])
  have HF := Lib.hid ((Fr.refl (fun _ => False) w).alloc (.cells #[.int .i64 x0, .int .i64 x1, .int .i64 x2, .int .i64 x3, .int .i64 x4, .int .i64 x5, .int .i64 x6] 25))
  clear h0 h1
  go_enter Try.func35, Try.ntmps35
  go_wp2_with fail
  refine (HU.out _).mono ?_
  rintro e w2 ⟨rfl, hf⟩
  have HI := Lib.hid (HI.out.fr hf id)
  have HF := Lib.hid (HF.out.trans hf (fun _ _ => id))
  clear hf
  obtain ⟨k0, k1, k2, k3, k4, k5, k6, _, _, _, _, _, _, _⟩ := blkat7 HI.out
  go_wp2_with fail
  clear k0 k1 k2 k3 k4 k5 k6
  refine (HS.out _).mono ?_
  rintro e w3 ⟨rfl, hf⟩
  have HI := Lib.hid (HI.out.fr hf id)
  have HF := Lib.hid (HF.out.trans hf (fun _ _ => id))
  clear hf
  obtain ⟨k0, k1, k2, k3, k4, k5, k6, _, _, _, _, _, _, _⟩ := blkat7 HI.out
  go_wp2_with fail
  clear k0 k1 k2 k3 k4 k5 k6
  refine (HM.out _).mono ?_
  rintro e w4 ⟨rfl, hf⟩
  have HI := Lib.hid (HI.out.fr hf id)
  have HF := Lib.hid (HF.out.trans hf (fun _ _ => id))
  clear hf
  obtain ⟨k0, k1, k2, k3, k4, k5, k6, _, _, _, _, _, _, _⟩ := blkat7 HI.out
  go_wp2_with fail
  clear k0 k1 k2 k3 k4 k5 k6
  refine (HR.out _).mono ?_
  rintro e w6 ⟨rfl, hf⟩
  have HI := Lib.hid (HI.out.fr hf id)
  have HF := Lib.hid (HF.out.trans hf (fun _ _ => id))
  clear hf
  have HI := Lib.hid (HI.out.alloc (.cells #[.int .i64 0, .int .i64 0, .int .i64 0] 50))
  have HF := Lib.hid (HF.out.alloc (.cells #[.int .i64 0, .int .i64 0, .int .i64 0] 50))
  obtain ⟨k0, k1, k2, k3, k4, k5, k6, _, _, _, _, _, _, _⟩ := blkat7 HI.out
  go_wp2_with fail
  clear k0 k1 k2 k3 k4 k5 k6
  refine (HA.out _).mono ?_
  rintro e w7 ⟨rfl, hf⟩
  have HI := Lib.hid (HI.out.fr hf id)
  have HF := Lib.hid (HF.out.trans hf (fun _ _ => id))
  clear hf
  have HI := Lib.hid (HI.out.alloc (.cells #[.int .i64 p0, .int .i64 p1, .int .i64 p2] 50))
  have HF := Lib.hid (HF.out.alloc (.cells #[.int .i64 p0, .int .i64 p1, .int .i64 p2] 50))
  go_wp2_with fail
  go_ret2
  exact ⟨rfl, HF.out⟩
theorem encode_any (x0 x1 x2 x3 x4 x5 x6 : Int) (w : World) : Calls Try.prog 35 #[.agg #[.int .i64 x0, .int .i64 x1, .int .i64 x2, .int .i64 x3, .int .i64 x4, .int .i64 x5, .int .i64 x6]] w fun e w' => e = .returned (.tuple #[.int .u32 (encE (x0, x1, x2, x3, x4, x5, x6)).1, .bool (encE (x0, x1, x2, x3, x4, x5, x6)).2]) ∧ Fr (fun _ => False) w w' := by
  unfold encE
  dsimp only
  by_cases h0 : x0 < 1
  · rw [if_pos (.inl h0)]
    exact encode_0 x0 x1 x2 x3 x4 x5 x6 w h0
  by_cases h1 : 88 < x0
  · rw [if_pos (.inr h1)]
    exact encode_1 x0 x1 x2 x3 x4 x5 x6 w h0 h1
  rw [if_neg (by rintro (h | h); exact h0 h; exact h1 h)]
  obtain ⟨⟨u, ub⟩, hU⟩ : ∃ p, upE (x0, x1, x2, x3, x4, x5, x6) = p := ⟨_, rfl⟩
  rw [hU]
  cases ub
  case true => exact encode_2 x0 x1 x2 x3 x4 x5 x6 u w h0 h1 hU
  case false =>
  rw [if_neg (by simp)]
  obtain ⟨⟨s, sb⟩, hS⟩ : ∃ p, shE (x0, x1, x2, x3, x4, x5, x6) = p := ⟨_, rfl⟩
  rw [hS]
  cases sb
  case true => exact encode_3 x0 x1 x2 x3 x4 x5 x6 u s w h0 h1 hU hS
  case false =>
  rw [if_neg (by simp)]
  obtain ⟨⟨m, mb⟩, hM⟩ : ∃ p, midE (x0, x1, x2, x3, x4, x5, x6) = p := ⟨_, rfl⟩
  rw [hM]
  cases mb
  case true => exact encode_4 x0 x1 x2 x3 x4 x5 x6 u s m w h0 h1 hU hS hM
  case false =>
  rw [if_neg (by simp)]
  rcases hR : regsE x0 with _ | ⟨p0, p1, p2⟩
  · obtain ⟨⟨p0, p1, p2, ab⟩, hA⟩ : ∃ p, amE (x0, x1, x2, x3, x4, x5, x6) = p := ⟨_, rfl⟩
    dsimp only
    rw [hA]
    cases ab
    case true => exact encode_6 x0 x1 x2 x3 x4 x5 x6 u s m p0 p1 p2 w h0 h1 hU hS hM hR hA
    case false =>
    rw [if_neg (by simp)]
    exact encode_7 x0 x1 x2 x3 x4 x5 x6 u s m p0 p1 p2 w h0 h1 hU hS hM hR hA
  · exact encode_5 x0 x1 x2 x3 x4 x5 x6 u s m p0 p1 p2 w h0 h1 hU hS hM hR
end Go.Proofs.Ytgefhoikpjiamaa.Ins
