-- PRINTED BY print.sh 35421559b90ae4d0a3588c463048766b98c2df88dd9212a6774a882060cdf62d: not written by this session
import Derived.Test.YtdjgjedmbgnjbaaPWordStepsx0
namespace Go.Proofs.Ytdjgjedmbgnjbaa.PWordSteps
open Go.RowKit Go.Proofs.YtdjgjedmbgnjbaaW.PrintWords Go.Proofs.YtdjgjedmbgnjbaaW.PrintLast Go.Proofs.YtdjgjedmbgnjbaaW.PrintMore
attribute [local go_sem] max2_int min2_int max_two min_two max_three min_three max_four min_four   -- for this text's walks alone
set_option linter.unusedVariables false
set_option linter.unusedSimpArgs false

/-! ### word_Sext: function 15 -/
def word_Sext.f (a0 : Int) (a1 : Int) : Option (Int) := if a1 < 1 then (some a0) else (if a1 > 64 then (some a0) else (if 0 ≤ (wrap64 (64 - a1)) then (some (IntKind.u64.wrap (shr .i64 (wrap64 (shl .u64 a0 (wrap64 (64 - a1)))) (wrap64 (64 - a1))))) else (none)))
set_option maxHeartbeats 8000000 in
set_option maxRecDepth 100000 in
theorem word_Sext.calls (a0 : Int) (a1 : Int) (r : Int) (w : World) (h : word_Sext.f a0 a1 = some r) :
    Calls Try.prog 15 #[.int .u64 a0, .int .i64 a1] w fun e w' => e = .returned (.int .u64 r) ∧ Drawn0 w w' := by
  have H : (if a1 < 1 then (some a0) else (if a1 > 64 then (some a0) else (if 0 ≤ (wrap64 (64 - a1)) then (some (IntKind.u64.wrap (shr .i64 (wrap64 (shl .u64 a0 (wrap64 (64 - a1)))) (wrap64 (64 - a1))))) else (none)))) = some r := h
  clear h
  by_cases c3 : a1 < 1
  · rw [if_pos c3] at H
    have c3b0 : decide (a1 < 1) = true := decide_eq_true c3
    clear c3
    obtain rfl := Option.some.inj H
    go_enter Try.func15, Try.ntmps15
    go_wp2
    go_ret
    exact ⟨by first | rfl | (simp; done) | (simp [*]; done), by repeat (first | exact Drawn0.refl _ | apply Drawn0.step)⟩
  · rw [if_neg c3] at H
    have c3b0 : decide (a1 < 1) = false := decide_eq_false c3
    clear c3
    by_cases c4 : a1 > 64
    · rw [if_pos c4] at H
      have c4b0 : decide (64 < a1) = true := decide_eq_true c4
      clear c4
      obtain rfl := Option.some.inj H
      go_enter Try.func15, Try.ntmps15
      go_wp2
      go_ret
      exact ⟨by first | rfl | (simp; done) | (simp [*]; done), by repeat (first | exact Drawn0.refl _ | apply Drawn0.step)⟩
    · rw [if_neg c4] at H
      have c4b0 : decide (64 < a1) = false := decide_eq_false c4
      clear c4
      obtain ⟨ji5, hji5⟩ : ∃ j_ : Int, (wrap64 (64 - a1)) = j_ := ⟨_, rfl⟩
      replace H : (if 0 ≤ (ji5) then (some (IntKind.u64.wrap (shr .i64 (wrap64 (shl .u64 a0 (ji5))) (ji5)))) else (none)) = some r := by first | (rw [hji5] at H; exact H) | (simp only [hji5] at H ⊢; exact H)
      have hji5w : (IntKind.i64.wrap (64 - a1)) = ji5 := (i64_w _).trans hji5
      by_cases c6 : 0 ≤ (ji5)
      · rw [if_pos c6] at H
        have c6b0 := eq_true c6
        have c6b1 : decide (0 ≤ (ji5)) = true := decide_eq_true c6
        clear c6
        obtain ⟨ji7, hji7⟩ : ∃ j_ : Int, (shl .u64 a0 (ji5)) = j_ := ⟨_, rfl⟩
        replace H : (some (IntKind.u64.wrap (shr .i64 (wrap64 (ji7)) (ji5)))) = some r := by first | (rw [hji7] at H; exact H) | (simp only [hji7] at H ⊢; exact H)
        have hji7_ : (IntKind.u64.wrap (a0 * 2 ^ min (ji5).toNat 64)) = ji7 := hji7
        have hji7z : (ji5) ≤ 64 → (IntKind.u64.wrap (a0 * 2 ^ (ji5).toNat)) = ji7 := shl_small hji7
        have c8b0 := eq_true (of_decide_eq_true (by first | (with_reducible assumption) | assumption) : 0 ≤ (ji5))
        obtain ⟨ji9, hji9⟩ : ∃ j_ : Int, (shr .i64 (wrap64 (ji7)) (ji5)) = j_ := ⟨_, rfl⟩
        replace H : (some (IntKind.u64.wrap (ji9))) = some r := by first | (rw [hji9] at H; exact H) | (simp only [hji9] at H ⊢; exact H)
        have hji9_ : ((wrap64 (ji7)) / 2 ^ min (ji5).toNat 64) = ji9 := hji9
        have hji9z : (ji5) ≤ 64 → ((wrap64 (ji7)) / 2 ^ (ji5).toNat) = ji9 := shr_small hji9
        obtain rfl := Option.some.inj H
        go_enter Try.func15, Try.ntmps15
        go_wp2
        go_ret
        exact ⟨by first | rfl | (simp; done) | (simp only [← hji5, ← hji7, ← hji9] <;> (first | rfl | simp)) | (simp [*]; done), by repeat (first | exact Drawn0.refl _ | apply Drawn0.step)⟩
      · rw [if_neg c6] at H
        exact absurd H (by simp)

/-! ### word_Div: function 23 -/
def word_Div.f (a0 : Int) (a1 : Int) : Option (Int) := if a1 = 0 then (some 18446744073709551615) else (if a0 = 9223372036854775808 then (if a1 = 18446744073709551615 then (some a0) else (if (wrap64 (a1)) = 0 then (none) else (some (IntKind.u64.wrap (wrap64 (Int.tdiv (wrap64 (a0)) (wrap64 (a1)))))))) else (if (wrap64 (a1)) = 0 then (none) else (some (IntKind.u64.wrap (wrap64 (Int.tdiv (wrap64 (a0)) (wrap64 (a1))))))))
set_option maxHeartbeats 8000000 in
set_option maxRecDepth 100000 in
theorem word_Div.calls (a0 : Int) (a1 : Int) (r : Int) (w : World) (h : word_Div.f a0 a1 = some r) :
    Calls Try.prog 23 #[.int .u64 a0, .int .u64 a1] w fun e w' => e = .returned (.int .u64 r) ∧ Drawn0 w w' := by
  have H : (if a1 = 0 then (some 18446744073709551615) else (if a0 = 9223372036854775808 then (if a1 = 18446744073709551615 then (some a0) else (if (wrap64 (a1)) = 0 then (none) else (some (IntKind.u64.wrap (wrap64 (Int.tdiv (wrap64 (a0)) (wrap64 (a1)))))))) else (if (wrap64 (a1)) = 0 then (none) else (some (IntKind.u64.wrap (wrap64 (Int.tdiv (wrap64 (a0)) (wrap64 (a1))))))))) = some r := h
  clear h
  by_cases c3 : a1 = 0
  · rw [if_pos c3] at H
    have c3b0 : (a1 == 0) = true := beq_iff_eq.mpr c3
    have c3b1 : (a1 != 0) = false := bne_eq_false_iff_eq.mpr c3
    clear c3
    obtain rfl := Option.some.inj H
    go_enter Try.func23, Try.ntmps23
    go_wp2
    go_ret
    exact ⟨by first | rfl | (simp; done) | (simp [*]; done), by repeat (first | exact Drawn0.refl _ | apply Drawn0.step)⟩
  · rw [if_neg c3] at H
    have c3b0 : (a1 == 0) = false := beq_eq_false_iff_ne.mpr c3
    have c3b1 : (a1 != 0) = true := bne_iff_ne.mpr c3
    by_cases c4 : a0 = 9223372036854775808
    · rw [if_pos c4] at H
      have c4b0 : (a0 == 9223372036854775808) = true := beq_iff_eq.mpr c4
      have c4b1 : (a0 != 9223372036854775808) = false := bne_eq_false_iff_eq.mpr c4
      clear c4
      by_cases c5 : a1 = 18446744073709551615
      · rw [if_pos c5] at H
        have c5b0 : (a1 == 18446744073709551615) = true := beq_iff_eq.mpr c5
        have c5b1 : (a1 != 18446744073709551615) = false := bne_eq_false_iff_eq.mpr c5
        clear c5
        obtain rfl := Option.some.inj H
        go_enter Try.func23, Try.ntmps23
        go_wp2
        go_ret
        exact ⟨by first | rfl | (simp; done) | (simp [*]; done), by repeat (first | exact Drawn0.refl _ | apply Drawn0.step)⟩
      · rw [if_neg c5] at H
        have c5b0 : (a1 == 18446744073709551615) = false := beq_eq_false_iff_ne.mpr c5
        have c5b1 : (a1 != 18446744073709551615) = true := bne_iff_ne.mpr c5
        by_cases c6 : (wrap64 (a1)) = 0
        · rw [if_pos c6] at H
          exact absurd H (by simp)
        · rw [if_neg c6] at H
          have c6b0 : ((wrap64 (a1)) == 0) = false := beq_eq_false_iff_ne.mpr c6
          have c6b1 : ((wrap64 (a1)) != 0) = true := bne_iff_ne.mpr c6
          obtain rfl := Option.some.inj H
          go_enter Try.func23, Try.ntmps23
          go_wp2
          go_ret
          exact ⟨by first | rfl | (simp; done) | (simp [*]; done), by repeat (first | exact Drawn0.refl _ | apply Drawn0.step)⟩
    · rw [if_neg c4] at H
      have c4b0 : (a0 == 9223372036854775808) = false := beq_eq_false_iff_ne.mpr c4
      have c4b1 : (a0 != 9223372036854775808) = true := bne_iff_ne.mpr c4
      by_cases c7 : (wrap64 (a1)) = 0
      · rw [if_pos c7] at H
        exact absurd H (by simp)
      · rw [if_neg c7] at H
        have c7b0 : ((wrap64 (a1)) == 0) = false := beq_eq_false_iff_ne.mpr c7
        have c7b1 : ((wrap64 (a1)) != 0) = true := bne_iff_ne.mpr c7
        obtain rfl := Option.some.inj H
        go_enter Try.func23, Try.ntmps23
        go_wp2
        go_ret
        exact ⟨by first | rfl | (simp; done) | (simp [*]; done), by repeat (first | exact Drawn0.refl _ | apply Drawn0.step)⟩

/-! ### marionettelaw01_answers: function 14 -/
def marionettelaw01_answers.f  : Option (Bool) := (word_Sext.f 255 8).bind fun t101 => (if t101 = 18446744073709551615 then ((word_Div.f 7 2).bind fun t102 => (some (t102 == 3))) else (some false))
set_option maxHeartbeats 8000000 in
set_option maxRecDepth 100000 in
theorem marionettelaw01_answers.calls  (r : Bool) (w : World) (h : marionettelaw01_answers.f  = some r) :
    Calls Try.prog 14 #[] w fun e w' => e = .returned (.bool r) ∧ Drawn0 w w' := by
  have H : ((word_Sext.f 255 8).bind fun t101 => (if t101 = 18446744073709551615 then ((word_Div.f 7 2).bind fun t102 => (some (t102 == 3))) else (some false))) = some r := h
  clear h
  replace H := Option.bind_eq_some_iff.mp H
  obtain ⟨t101, A10, H⟩ := H
  replace H : (if t101 = 18446744073709551615 then ((word_Div.f 7 2).bind fun t102 => (some (t102 == 3))) else (some false)) = some r := H
  have A1 := Aside0.mk A10
  clear A10
  by_cases c2 : t101 = 18446744073709551615
  · rw [if_pos c2] at H
    have c2b0 : (t101 == 18446744073709551615) = true := beq_iff_eq.mpr c2
    have c2b1 : (t101 != 18446744073709551615) = false := bne_eq_false_iff_eq.mpr c2
    clear c2
    replace H := Option.bind_eq_some_iff.mp H
    obtain ⟨t102, A30, H⟩ := H
    replace H : (some (t102 == 3)) = some r := H
    have A3 := Aside0.mk A30
    clear A30
    obtain rfl := Option.some.inj H
    go_enter Try.func14, Try.ntmps14
    go_wp2_with (first | ((with_reducible refine gate_callee (f := 15) rfl ?_); refine goesL_ (some 1) rfl rfl Try.func15 (by kernel_rfl) rfl #[.int .u64 255, .int .i64 8] rfl (by (try simp only [List.map_toArray, List.map_cons, List.map_nil]); first | done | rfl | (simp only [List.length_drop, List.length_take]; rfl)) ?_; (with_reducible refine (word_Sext.calls 255 8 t101 _ A1.out).mono ?_); rintro e w' ⟨rfl, ⟨nd, rfl⟩⟩; refine ⟨_, rfl, ?_⟩) | (go_at_call 23; (with_reducible refine (word_Div.calls 7 2 t102 _ A3.out).mono ?_); rintro e w' ⟨rfl, ⟨nd, rfl⟩⟩))
    go_ret
    exact ⟨by first | rfl | (simp; done) | (simp [*]; done), by repeat (first | exact Drawn0.refl _ | apply Drawn0.step)⟩
  · rw [if_neg c2] at H
    have c2b0 : (t101 == 18446744073709551615) = false := beq_eq_false_iff_ne.mpr c2
    have c2b1 : (t101 != 18446744073709551615) = true := bne_iff_ne.mpr c2
    obtain rfl := Option.some.inj H
    go_enter Try.func14, Try.ntmps14
    go_wp2_with (first | ((with_reducible refine gate_callee (f := 15) rfl ?_); refine goesL_ (some 1) rfl rfl Try.func15 (by kernel_rfl) rfl #[.int .u64 255, .int .i64 8] rfl (by (try simp only [List.map_toArray, List.map_cons, List.map_nil]); first | done | rfl | (simp only [List.length_drop, List.length_take]; rfl)) ?_; (with_reducible refine (word_Sext.calls 255 8 t101 _ A1.out).mono ?_); rintro e w' ⟨rfl, ⟨nd, rfl⟩⟩; refine ⟨_, rfl, ?_⟩))
    go_ret
    exact ⟨by first | rfl | (simp; done) | (simp [*]; done), by repeat (first | exact Drawn0.refl _ | apply Drawn0.step)⟩

/-! ### marionettelaw01_WordSteps: function 3 -/
def marionettelaw01_WordSteps.j0 : Nat → Int → Int → Int → Int → Option (Bool)
  | 0, _, _, _, _ => none
  | k + 1, x0, x7, x8, x9 => (marionettelaw01_answers.f).bind fun t103 => (if t103 = true then ((word_Sext.f x0 x7).bind fun t104 => ((word_Sext.f t104 x8).bind fun t105 => ((word_Sext.f x0 x9).bind fun t106 => (some (t105 == t106))))) else (some false))
def marionettelaw01_WordSteps.f (k : Nat) (a0 : Int) (a1 : Int) (a2 : Int) : Option (Bool) := if (wrap64 ((wrap64 (Int.tmod a2 64)) + 1)) < (wrap64 ((wrap64 (Int.tmod a1 64)) + 1)) then (marionettelaw01_WordSteps.j0 k a0 (wrap64 ((wrap64 (Int.tmod a1 64)) + 1)) (wrap64 ((wrap64 (Int.tmod a2 64)) + 1)) (wrap64 ((wrap64 (Int.tmod a2 64)) + 1))) else (marionettelaw01_WordSteps.j0 k a0 (wrap64 ((wrap64 (Int.tmod a1 64)) + 1)) (wrap64 ((wrap64 (Int.tmod a2 64)) + 1)) (wrap64 ((wrap64 (Int.tmod a1 64)) + 1)))
theorem marionettelaw01_WordSteps.mono_l : ∀ k, (∀ y0 y1 y2 y3, LeO (marionettelaw01_WordSteps.j0 k y0 y1 y2 y3) (marionettelaw01_WordSteps.j0 (k + 1) y0 y1 y2 y3))
  | 0 => fun _ _ _ _ r h => by simp [marionettelaw01_WordSteps.j0] at h
  | k + 1 => by
    have ih0 := marionettelaw01_WordSteps.mono_l k
    · intro y0 y1 y2 y3
      unfold marionettelaw01_WordSteps.j0
      repeat' first
      | (with_reducible exact ih0 _ _ _ _)
      | (with_reducible exact LeO.refl _)
      | (with_reducible exact LeO.none _)
      | (with_reducible refine LeO.ite ?_ ?_)
      | (with_reducible refine LeO.bind ?_ (fun _ => ?_))
      | exact ih0 _ _ _ _
      | exact LeO.none _
      | refine LeO.ite ?_ ?_
      | refine LeO.bind ?_ (fun _ => ?_)
theorem marionettelaw01_WordSteps.mono : ∀ a0 a1 a2 k, LeO (marionettelaw01_WordSteps.f k a0 a1 a2) (marionettelaw01_WordSteps.f (k + 1) a0 a1 a2) := by
  intro a0 a1 a2 k
  have ih0 := marionettelaw01_WordSteps.mono_l k
  unfold marionettelaw01_WordSteps.f
  repeat' first
      | (with_reducible exact ih0 _ _ _ _)
      | (with_reducible exact LeO.refl _)
      | (with_reducible exact LeO.none _)
      | (with_reducible refine LeO.ite ?_ ?_)
      | (with_reducible refine LeO.bind ?_ (fun _ => ?_))
      | exact ih0 _ _ _ _
      | exact LeO.none _
      | refine LeO.ite ?_ ?_
      | refine LeO.bind ?_ (fun _ => ?_)
set_option maxHeartbeats 8000000 in
set_option maxRecDepth 100000 in
theorem marionettelaw01_WordSteps.calls (k : Nat) (a0 : Int) (a1 : Int) (a2 : Int) (r : Bool) (w : World) (h : marionettelaw01_WordSteps.f k a0 a1 a2 = some r) :
    Calls Try.prog 3 #[.int .u64 a0, .int .u8 a1, .int .u8 a2] w fun e w' => e = .returned (.bool r) ∧ Drawn0 w w' := by
  have H : (if (wrap64 ((wrap64 (Int.tmod a2 64)) + 1)) < (wrap64 ((wrap64 (Int.tmod a1 64)) + 1)) then (marionettelaw01_WordSteps.j0 k a0 (wrap64 ((wrap64 (Int.tmod a1 64)) + 1)) (wrap64 ((wrap64 (Int.tmod a2 64)) + 1)) (wrap64 ((wrap64 (Int.tmod a2 64)) + 1))) else (marionettelaw01_WordSteps.j0 k a0 (wrap64 ((wrap64 (Int.tmod a1 64)) + 1)) (wrap64 ((wrap64 (Int.tmod a2 64)) + 1)) (wrap64 ((wrap64 (Int.tmod a1 64)) + 1)))) = some r := h
  clear h
  have HC4 := Aside0.mk H
  clear H
  go_enter Try.func3, Try.ntmps3
  go_upto_if 21 with (fail)
  go_cut [9] (fun v9 wc => ∃ (kq : Nat) (x9_3 : Int), v9 = .int .i64 x9_3 ∧ Aside0 (marionettelaw01_WordSteps.j0 kq a0 (wrap64 ((wrap64 (Int.tmod a1 64)) + 1)) (wrap64 ((wrap64 (Int.tmod a2 64)) + 1)) x9_3 = some r) ∧ Aside0 (kq ≤ k) ∧ Drawn0 w wc)
  case first =>
    have H := HC4.out
    clear HC4
    by_cases c5 : (wrap64 ((wrap64 (Int.tmod a2 64)) + 1)) < (wrap64 ((wrap64 (Int.tmod a1 64)) + 1))
    · rw [if_pos c5] at H
      have c5b0 : decide ((wrap64 ((wrap64 (Int.tmod a2 64)) + 1)) < (wrap64 ((wrap64 (Int.tmod a1 64)) + 1))) = true := decide_eq_true c5
      clear c5
      (first | rw [c5b0] | (simp only [i64_w, i32_w]; rw [c5b0]) | skip)
      have H' := Aside0.mk H
      clear H
      go_wp2
      go_meet
      case rel => exact ⟨_, (wrap64 ((wrap64 (Int.tmod a2 64)) + 1)), (by first | rfl | (simp; done) | (simp [*]; done)), H', ⟨by first | omega | exact Nat.le_refl _⟩, by repeat (first | exact Drawn0.refl _ | apply Drawn0.step)⟩
    · rw [if_neg c5] at H
      have c5b0 : decide ((wrap64 ((wrap64 (Int.tmod a2 64)) + 1)) < (wrap64 ((wrap64 (Int.tmod a1 64)) + 1))) = false := decide_eq_false c5
      clear c5
      (first | rw [c5b0] | (simp only [i64_w, i32_w]; rw [c5b0]) | skip)
      have H' := Aside0.mk H
      clear H
      go_wp2
      go_meet
      case rel => exact ⟨_, (wrap64 ((wrap64 (Int.tmod a1 64)) + 1)), (by first | rfl | (simp; done) | (simp [*]; done)), H', ⟨by first | omega | exact Nat.le_refl _⟩, by repeat (first | exact Drawn0.refl _ | apply Drawn0.step)⟩
  case rest =>
    clear HC4
    try clear p2
    try clear c3
    try clear c5
    try clear c5b0
    obtain ⟨kq, x9_3, rfl, HA, HJ3, ⟨mc3, rfl⟩⟩ := hcut
    cases kq with
    | zero => exact absurd HA.out (by simp [marionettelaw01_WordSteps.j0])
    | succ kj3 =>
      have H := HA.out
      clear HA
      simp only [marionettelaw01_WordSteps.j0] at H
      replace H := Option.bind_eq_some_iff.mp H
      obtain ⟨t103, A60, H⟩ := H
      replace H : (if t103 = true then ((word_Sext.f a0 (wrap64 ((wrap64 (Int.tmod a1 64)) + 1))).bind fun t104 => ((word_Sext.f t104 (wrap64 ((wrap64 (Int.tmod a2 64)) + 1))).bind fun t105 => ((word_Sext.f a0 x9_3).bind fun t106 => (some (t105 == t106))))) else (some false)) = some r := H
      have A6 := Aside0.mk A60
      clear A60
      by_cases c7 : t103 = true
      · subst c7
        have H1 : ((word_Sext.f a0 (wrap64 ((wrap64 (Int.tmod a1 64)) + 1))).bind fun t104 => ((word_Sext.f t104 (wrap64 ((wrap64 (Int.tmod a2 64)) + 1))).bind fun t105 => ((word_Sext.f a0 x9_3).bind fun t106 => (some (t105 == t106))))) = some r := by rw [if_pos rfl] at H; exact H
        clear H
        have H := H1
        clear H1
        replace H := Option.bind_eq_some_iff.mp H
        obtain ⟨t104, A80, H⟩ := H
        replace H : ((word_Sext.f t104 (wrap64 ((wrap64 (Int.tmod a2 64)) + 1))).bind fun t105 => ((word_Sext.f a0 x9_3).bind fun t106 => (some (t105 == t106)))) = some r := H
        have A8 := Aside0.mk A80
        clear A80
        replace H := Option.bind_eq_some_iff.mp H
        obtain ⟨t105, A90, H⟩ := H
        replace H : ((word_Sext.f a0 x9_3).bind fun t106 => (some (t105 == t106))) = some r := H
        have A9 := Aside0.mk A90
        clear A90
        replace H := Option.bind_eq_some_iff.mp H
        obtain ⟨t106, A100, H⟩ := H
        replace H : (some (t105 == t106)) = some r := H
        have A10 := Aside0.mk A100
        clear A100
        obtain rfl := Option.some.inj H
        go_wp2_with (first | ((with_reducible refine gate_callee (f := 14) rfl ?_); refine goesL_ (some 23) rfl rfl Try.func14 (by kernel_rfl) rfl #[] rfl (by (try simp only [List.map_toArray, List.map_cons, List.map_nil]); first | done | rfl | (simp only [List.length_drop, List.length_take]; rfl)) ?_; (with_reducible refine (marionettelaw01_answers.calls  true _ A6.out).mono ?_); rintro e w' ⟨rfl, ⟨nd, rfl⟩⟩; refine ⟨_, rfl, ?_⟩) | (go_at_call 15; (with_reducible refine (word_Sext.calls a0 (wrap64 ((wrap64 (Int.tmod a1 64)) + 1)) t104 _ A8.out).mono ?_); rintro e w' ⟨rfl, ⟨nd, rfl⟩⟩) | (go_at_call 15; (with_reducible refine (word_Sext.calls t104 (wrap64 ((wrap64 (Int.tmod a2 64)) + 1)) t105 _ A9.out).mono ?_); rintro e w' ⟨rfl, ⟨nd, rfl⟩⟩) | (go_at_call 15; (with_reducible refine (word_Sext.calls a0 x9_3 t106 _ A10.out).mono ?_); rintro e w' ⟨rfl, ⟨nd, rfl⟩⟩))
        go_ret
        exact ⟨by first | rfl | (simp; done) | (simp [*]; done), by repeat (first | exact Drawn0.refl _ | apply Drawn0.step)⟩
      · replace c7 := Bool.eq_false_iff.mpr c7
        subst c7
        have H1 : (some false) = some r := by rw [if_neg (show ¬ (false = true) by decide)] at H; exact H
        clear H
        have H := H1
        clear H1
        obtain rfl := Option.some.inj H
        go_wp2_with (first | ((with_reducible refine gate_callee (f := 14) rfl ?_); refine goesL_ (some 23) rfl rfl Try.func14 (by kernel_rfl) rfl #[] rfl (by (try simp only [List.map_toArray, List.map_cons, List.map_nil]); first | done | rfl | (simp only [List.length_drop, List.length_take]; rfl)) ?_; (with_reducible refine (marionettelaw01_answers.calls  false _ A6.out).mono ?_); rintro e w' ⟨rfl, ⟨nd, rfl⟩⟩; refine ⟨_, rfl, ?_⟩))
        go_ret
        exact ⟨by first | rfl | (simp; done) | (simp [*]; done), by repeat (first | exact Drawn0.refl _ | apply Drawn0.step)⟩

/-- THE ONE PURE STATEMENT of marionettelaw01_WordSteps: yours. -/
def marionettelaw01_WordSteps.Pure : Prop := ∀ (a0 : Int) (a1 : Int) (a2 : Int), (Lit.int .u64 a0).wf = true → (Lit.int .u8 a1).wf = true → (Lit.int .u8 a2).wf = true → ∃ k, marionettelaw01_WordSteps.f k a0 a1 a2 = some true
theorem marionettelaw01_WordSteps.walk (P : marionettelaw01_WordSteps.Pure) (a0 : Int) (a1 : Int) (a2 : Int) (w : World) (w0 : (Lit.int .u64 a0).wf = true) (w1 : (Lit.int .u8 a1).wf = true) (w2 : (Lit.int .u8 a2).wf = true) :
    Calls Try.prog 3 #[.int .u64 a0, .int .u8 a1, .int .u8 a2] w fun e w' => e = .returned (.bool true) ∧ Below w.heap.size w w' := by
  obtain ⟨k, h⟩ := P a0 a1 a2 w0 w1 w2
  refine (marionettelaw01_WordSteps.calls k a0 a1 a2 true w h).mono ?_
  rintro e w' ⟨rfl, hd⟩
  exact ⟨rfl, hd.below⟩

end Go.Proofs.Ytdjgjedmbgnjbaa.PWordSteps
