-- PRINTED BY print.sh 35421559b90ae4d0a3588c463048766b98c2df88dd9212a6774a882060cdf62d: not written by this session
import Derived.Test.YtgbohkmlefhpjaaPWordWholex0
namespace Go.Proofs.Ytgbohkmlefhpjaa.PWordWhole
open Go.RowKit Go.Proofs.YtgbohkmlefhpjaaW.PrintWords Go.Proofs.YtgbohkmlefhpjaaW.PrintLast Go.Proofs.YtgbohkmlefhpjaaW.PrintMore
attribute [local go_sem] max2_int min2_int max_two min_two max_three min_three max_four min_four   -- for this text's walks alone
set_option linter.unusedVariables false
set_option linter.unusedSimpArgs false

/-! ### word_Sext: function 11 -/
def word_Sext.f (a0 : Int) (a1 : Int) : Option (Int) := if a1 < 1 then (some a0) else (if a1 > 64 then (some a0) else (if 0 ≤ (wrap64 (64 - a1)) then (some (IntKind.u64.wrap (shr .i64 (wrap64 (shl .u64 a0 (wrap64 (64 - a1)))) (wrap64 (64 - a1))))) else (none)))
set_option maxHeartbeats 8000000 in
set_option maxRecDepth 100000 in
theorem word_Sext.calls (a0 : Int) (a1 : Int) (r : Int) (w : World) (h : word_Sext.f a0 a1 = some r) :
    Calls Try.prog 11 #[.int .u64 a0, .int .i64 a1] w fun e w' => e = .returned (.int .u64 r) ∧ Drawn0 w w' := by
  have H : (if a1 < 1 then (some a0) else (if a1 > 64 then (some a0) else (if 0 ≤ (wrap64 (64 - a1)) then (some (IntKind.u64.wrap (shr .i64 (wrap64 (shl .u64 a0 (wrap64 (64 - a1)))) (wrap64 (64 - a1))))) else (none)))) = some r := h
  clear h
  by_cases c3 : a1 < 1
  · rw [if_pos c3] at H
    have c3b0 : decide (a1 < 1) = true := decide_eq_true c3
    clear c3
    obtain rfl := Option.some.inj H
    go_enter Try.func11, Try.ntmps11
    go_wp2
    go_ret
    exact ⟨by first | rfl | (simp; done) | (simp [*]; done), by repeat (first | exact Drawn0.refl _ | apply Drawn0.step)⟩
  · rw [if_neg c3] at H
    have c3b0 : decide (a1 < 1) = false := decide_eq_false c3
    clear c3
    by_cases c4 : a1 > 64
    · rw [if_pos c4] at H
      have c4b0 : decide (64 < a1) = true := decide_eq_true c4
      clear c4
      obtain rfl := Option.some.inj H
      go_enter Try.func11, Try.ntmps11
      go_wp2
      go_ret
      exact ⟨by first | rfl | (simp; done) | (simp [*]; done), by repeat (first | exact Drawn0.refl _ | apply Drawn0.step)⟩
    · rw [if_neg c4] at H
      have c4b0 : decide (64 < a1) = false := decide_eq_false c4
      clear c4
      obtain ⟨ji5, hji5⟩ : ∃ j_ : Int, (wrap64 (64 - a1)) = j_ := ⟨_, rfl⟩
      replace H : (if 0 ≤ (ji5) then (some (IntKind.u64.wrap (shr .i64 (wrap64 (shl .u64 a0 (ji5))) (ji5)))) else (none)) = some r := by first | (rw [hji5] at H; exact H) | (simp only [hji5] at H ⊢; exact H)
      have hji5w : (IntKind.i64.wrap (64 - a1)) = ji5 := (i64_w _).trans hji5
      by_cases c6 : 0 ≤ (ji5)
      · rw [if_pos c6] at H
        have c6b0 := eq_true c6
        have c6b1 : decide (0 ≤ (ji5)) = true := decide_eq_true c6
        clear c6
        obtain ⟨ji7, hji7⟩ : ∃ j_ : Int, (shl .u64 a0 (ji5)) = j_ := ⟨_, rfl⟩
        replace H : (some (IntKind.u64.wrap (shr .i64 (wrap64 (ji7)) (ji5)))) = some r := by first | (rw [hji7] at H; exact H) | (simp only [hji7] at H ⊢; exact H)
        have hji7_ : (IntKind.u64.wrap (a0 * 2 ^ min (ji5).toNat 64)) = ji7 := hji7
        have hji7z : (ji5) ≤ 64 → (IntKind.u64.wrap (a0 * 2 ^ (ji5).toNat)) = ji7 := shl_small hji7
        have c8b0 := eq_true (of_decide_eq_true (by first | (with_reducible assumption) | assumption) : 0 ≤ (ji5))
        obtain ⟨ji9, hji9⟩ : ∃ j_ : Int, (shr .i64 (wrap64 (ji7)) (ji5)) = j_ := ⟨_, rfl⟩
        replace H : (some (IntKind.u64.wrap (ji9))) = some r := by first | (rw [hji9] at H; exact H) | (simp only [hji9] at H ⊢; exact H)
        have hji9_ : ((wrap64 (ji7)) / 2 ^ min (ji5).toNat 64) = ji9 := hji9
        have hji9z : (ji5) ≤ 64 → ((wrap64 (ji7)) / 2 ^ (ji5).toNat) = ji9 := shr_small hji9
        obtain rfl := Option.some.inj H
        go_enter Try.func11, Try.ntmps11
        go_wp2
        go_ret
        exact ⟨by first | rfl | (simp; done) | (simp only [← hji5, ← hji7, ← hji9] <;> (first | rfl | simp)) | (simp [*]; done), by repeat (first | exact Drawn0.refl _ | apply Drawn0.step)⟩
      · rw [if_neg c6] at H
        exact absurd H (by simp)

/-! ### word_Div: function 19 -/
def word_Div.f (a0 : Int) (a1 : Int) : Option (Int) := if a1 = 0 then (some 18446744073709551615) else (if a0 = 9223372036854775808 then (if a1 = 18446744073709551615 then (some a0) else (if (wrap64 (a1)) = 0 then (none) else (some (IntKind.u64.wrap (wrap64 (Int.tdiv (wrap64 (a0)) (wrap64 (a1)))))))) else (if (wrap64 (a1)) = 0 then (none) else (some (IntKind.u64.wrap (wrap64 (Int.tdiv (wrap64 (a0)) (wrap64 (a1))))))))
set_option maxHeartbeats 8000000 in
set_option maxRecDepth 100000 in
theorem word_Div.calls (a0 : Int) (a1 : Int) (r : Int) (w : World) (h : word_Div.f a0 a1 = some r) :
    Calls Try.prog 19 #[.int .u64 a0, .int .u64 a1] w fun e w' => e = .returned (.int .u64 r) ∧ Drawn0 w w' := by
  have H : (if a1 = 0 then (some 18446744073709551615) else (if a0 = 9223372036854775808 then (if a1 = 18446744073709551615 then (some a0) else (if (wrap64 (a1)) = 0 then (none) else (some (IntKind.u64.wrap (wrap64 (Int.tdiv (wrap64 (a0)) (wrap64 (a1)))))))) else (if (wrap64 (a1)) = 0 then (none) else (some (IntKind.u64.wrap (wrap64 (Int.tdiv (wrap64 (a0)) (wrap64 (a1))))))))) = some r := h
  clear h
  by_cases c3 : a1 = 0
  · rw [if_pos c3] at H
    have c3b0 : (a1 == 0) = true := beq_iff_eq.mpr c3
    have c3b1 : (a1 != 0) = false := bne_eq_false_iff_eq.mpr c3
    clear c3
    obtain rfl := Option.some.inj H
    go_enter Try.func19, Try.ntmps19
    go_wp2
    go_ret
    exact ⟨by first | rfl | (simp; done) | (simp [*]; done), by repeat (first | exact Drawn0.refl _ | apply Drawn0.step)⟩
  · rw [if_neg c3] at H
    have c3b0 : (a1 == 0) = false := beq_eq_false_iff_ne.mpr c3
    have c3b1 : (a1 != 0) = true := bne_iff_ne.mpr c3
    by_cases c4 : a0 = 9223372036854775808
    · rw [if_pos c4] at H
      have c4b0 : (a0 == 9223372036854775808) = true := beq_iff_eq.mpr c4
      have c4b1 : (a0 != 9223372036854775808) = false := bne_eq_false_iff_eq.mpr c4
      clear c4
      by_cases c5 : a1 = 18446744073709551615
      · rw [if_pos c5] at H
        have c5b0 : (a1 == 18446744073709551615) = true := beq_iff_eq.mpr c5
        have c5b1 : (a1 != 18446744073709551615) = false := bne_eq_false_iff_eq.mpr c5
        clear c5
        obtain rfl := Option.some.inj H
        go_enter Try.func19, Try.ntmps19
        go_wp2
        go_ret
        exact ⟨by first | rfl | (simp; done) | (simp [*]; done), by repeat (first | exact Drawn0.refl _ | apply Drawn0.step)⟩
      · rw [if_neg c5] at H
        have c5b0 : (a1 == 18446744073709551615) = false := beq_eq_false_iff_ne.mpr c5
        have c5b1 : (a1 != 18446744073709551615) = true := bne_iff_ne.mpr c5
        by_cases c6 : (wrap64 (a1)) = 0
        · rw [if_pos c6] at H
          exact absurd H (by simp)
        · rw [if_neg c6] at H
          have c6b0 : ((wrap64 (a1)) == 0) = false := beq_eq_false_iff_ne.mpr c6
          have c6b1 : ((wrap64 (a1)) != 0) = true := bne_iff_ne.mpr c6
          obtain rfl := Option.some.inj H
          go_enter Try.func19, Try.ntmps19
          go_wp2
          go_ret
          exact ⟨by first | rfl | (simp; done) | (simp [*]; done), by repeat (first | exact Drawn0.refl _ | apply Drawn0.step)⟩
    · rw [if_neg c4] at H
      have c4b0 : (a0 == 9223372036854775808) = false := beq_eq_false_iff_ne.mpr c4
      have c4b1 : (a0 != 9223372036854775808) = true := bne_iff_ne.mpr c4
      by_cases c7 : (wrap64 (a1)) = 0
      · rw [if_pos c7] at H
        exact absurd H (by simp)
      · rw [if_neg c7] at H
        have c7b0 : ((wrap64 (a1)) == 0) = false := beq_eq_false_iff_ne.mpr c7
        have c7b1 : ((wrap64 (a1)) != 0) = true := bne_iff_ne.mpr c7
        obtain rfl := Option.some.inj H
        go_enter Try.func19, Try.ntmps19
        go_wp2
        go_ret
        exact ⟨by first | rfl | (simp; done) | (simp [*]; done), by repeat (first | exact Drawn0.refl _ | apply Drawn0.step)⟩

/-! ### marionettelaw01_answers: function 10 -/
def marionettelaw01_answers.f  : Option (Bool) := (word_Sext.f 255 8).bind fun t101 => (if t101 = 18446744073709551615 then ((word_Div.f 7 2).bind fun t102 => (some (t102 == 3))) else (some false))
set_option maxHeartbeats 8000000 in
set_option maxRecDepth 100000 in
theorem marionettelaw01_answers.calls  (r : Bool) (w : World) (h : marionettelaw01_answers.f  = some r) :
    Calls Try.prog 10 #[] w fun e w' => e = .returned (.bool r) ∧ Drawn0 w w' := by
  have H : ((word_Sext.f 255 8).bind fun t101 => (if t101 = 18446744073709551615 then ((word_Div.f 7 2).bind fun t102 => (some (t102 == 3))) else (some false))) = some r := h
  clear h
  replace H := Option.bind_eq_some_iff.mp H
  obtain ⟨t101, A10, H⟩ := H
  replace H : (if t101 = 18446744073709551615 then ((word_Div.f 7 2).bind fun t102 => (some (t102 == 3))) else (some false)) = some r := H
  have A1 := Aside0.mk A10
  clear A10
  by_cases c2 : t101 = 18446744073709551615
  · rw [if_pos c2] at H
    have c2b0 : (t101 == 18446744073709551615) = true := beq_iff_eq.mpr c2
    have c2b1 : (t101 != 18446744073709551615) = false := bne_eq_false_iff_eq.mpr c2
    clear c2
    replace H := Option.bind_eq_some_iff.mp H
    obtain ⟨t102, A30, H⟩ := H
    replace H : (some (t102 == 3)) = some r := H
    have A3 := Aside0.mk A30
    clear A30
    obtain rfl := Option.some.inj H
    go_enter Try.func10, Try.ntmps10
    go_wp2_with (first | ((with_reducible refine gate_callee (f := 11) rfl ?_); refine goesL_ (some 1) rfl rfl Try.func11 (by kernel_rfl) rfl #[.int .u64 255, .int .i64 8] rfl (by (try simp only [List.map_toArray, List.map_cons, List.map_nil]); first | done | rfl | (simp only [List.length_drop, List.length_take]; rfl)) ?_; (with_reducible refine (word_Sext.calls 255 8 t101 _ A1.out).mono ?_); rintro e w' ⟨rfl, ⟨nd, rfl⟩⟩; refine ⟨_, rfl, ?_⟩) | (go_at_call 19; (with_reducible refine (word_Div.calls 7 2 t102 _ A3.out).mono ?_); rintro e w' ⟨rfl, ⟨nd, rfl⟩⟩))
    go_ret
    exact ⟨by first | rfl | (simp; done) | (simp [*]; done), by repeat (first | exact Drawn0.refl _ | apply Drawn0.step)⟩
  · rw [if_neg c2] at H
    have c2b0 : (t101 == 18446744073709551615) = false := beq_eq_false_iff_ne.mpr c2
    have c2b1 : (t101 != 18446744073709551615) = true := bne_iff_ne.mpr c2
    obtain rfl := Option.some.inj H
    go_enter Try.func10, Try.ntmps10
    go_wp2_with (first | ((with_reducible refine gate_callee (f := 11) rfl ?_); refine goesL_ (some 1) rfl rfl Try.func11 (by kernel_rfl) rfl #[.int .u64 255, .int .i64 8] rfl (by (try simp only [List.map_toArray, List.map_cons, List.map_nil]); first | done | rfl | (simp only [List.length_drop, List.length_take]; rfl)) ?_; (with_reducible refine (word_Sext.calls 255 8 t101 _ A1.out).mono ?_); rintro e w' ⟨rfl, ⟨nd, rfl⟩⟩; refine ⟨_, rfl, ?_⟩))
    go_ret
    exact ⟨by first | rfl | (simp; done) | (simp [*]; done), by repeat (first | exact Drawn0.refl _ | apply Drawn0.step)⟩

/-! ### word_DivU: function 15 -/
def word_DivU.f (a0 : Int) (a1 : Int) : Option (Int) := if a1 = 0 then (some 18446744073709551615) else (some (IntKind.u64.wrap (Int.tdiv a0 a1)))
set_option maxHeartbeats 8000000 in
set_option maxRecDepth 100000 in
theorem word_DivU.calls (a0 : Int) (a1 : Int) (r : Int) (w : World) (h : word_DivU.f a0 a1 = some r) :
    Calls Try.prog 15 #[.int .u64 a0, .int .u64 a1] w fun e w' => e = .returned (.int .u64 r) ∧ Drawn0 w w' := by
  have H : (if a1 = 0 then (some 18446744073709551615) else (some (IntKind.u64.wrap (Int.tdiv a0 a1)))) = some r := h
  clear h
  by_cases c3 : a1 = 0
  · rw [if_pos c3] at H
    have c3b0 : (a1 == 0) = true := beq_iff_eq.mpr c3
    have c3b1 : (a1 != 0) = false := bne_eq_false_iff_eq.mpr c3
    clear c3
    obtain rfl := Option.some.inj H
    go_enter Try.func15, Try.ntmps15
    go_wp2
    go_ret
    exact ⟨by first | rfl | (simp; done) | (simp [*]; done), by repeat (first | exact Drawn0.refl _ | apply Drawn0.step)⟩
  · rw [if_neg c3] at H
    have c3b0 : (a1 == 0) = false := beq_eq_false_iff_ne.mpr c3
    have c3b1 : (a1 != 0) = true := bne_iff_ne.mpr c3
    obtain rfl := Option.some.inj H
    go_enter Try.func15, Try.ntmps15
    go_wp2
    go_ret
    exact ⟨by first | rfl | (simp; done) | (simp [*]; done), by repeat (first | exact Drawn0.refl _ | apply Drawn0.step)⟩

/-! ### word_RemU: function 17 -/
def word_RemU.f (a0 : Int) (a1 : Int) : Option (Int) := if a1 = 0 then (some a0) else (some (Int.tmod a0 a1))
set_option maxHeartbeats 8000000 in
set_option maxRecDepth 100000 in
theorem word_RemU.calls (a0 : Int) (a1 : Int) (r : Int) (w : World) (h : word_RemU.f a0 a1 = some r) :
    Calls Try.prog 17 #[.int .u64 a0, .int .u64 a1] w fun e w' => e = .returned (.int .u64 r) ∧ Drawn0 w w' := by
  have H : (if a1 = 0 then (some a0) else (some (Int.tmod a0 a1))) = some r := h
  clear h
  by_cases c3 : a1 = 0
  · rw [if_pos c3] at H
    have c3b0 : (a1 == 0) = true := beq_iff_eq.mpr c3
    have c3b1 : (a1 != 0) = false := bne_eq_false_iff_eq.mpr c3
    clear c3
    obtain rfl := Option.some.inj H
    go_enter Try.func17, Try.ntmps17
    go_wp2
    go_ret
    exact ⟨by first | rfl | (simp; done) | (simp [*]; done), by repeat (first | exact Drawn0.refl _ | apply Drawn0.step)⟩
  · rw [if_neg c3] at H
    have c3b0 : (a1 == 0) = false := beq_eq_false_iff_ne.mpr c3
    have c3b1 : (a1 != 0) = true := bne_iff_ne.mpr c3
    obtain rfl := Option.some.inj H
    go_enter Try.func17, Try.ntmps17
    go_wp2
    go_ret
    exact ⟨by first | rfl | (simp; done) | (simp [*]; done), by repeat (first | exact Drawn0.refl _ | apply Drawn0.step)⟩

/-! ### word_Rem: function 21 -/
def word_Rem.f (a0 : Int) (a1 : Int) : Option (Int) := if a1 = 0 then (some a0) else (if a0 = 9223372036854775808 then (if a1 = 18446744073709551615 then (some 0) else (if (wrap64 (a1)) = 0 then (none) else (some (IntKind.u64.wrap (Int.tmod (wrap64 (a0)) (wrap64 (a1))))))) else (if (wrap64 (a1)) = 0 then (none) else (some (IntKind.u64.wrap (Int.tmod (wrap64 (a0)) (wrap64 (a1)))))))
set_option maxHeartbeats 8000000 in
set_option maxRecDepth 100000 in
theorem word_Rem.calls (a0 : Int) (a1 : Int) (r : Int) (w : World) (h : word_Rem.f a0 a1 = some r) :
    Calls Try.prog 21 #[.int .u64 a0, .int .u64 a1] w fun e w' => e = .returned (.int .u64 r) ∧ Drawn0 w w' := by
  have H : (if a1 = 0 then (some a0) else (if a0 = 9223372036854775808 then (if a1 = 18446744073709551615 then (some 0) else (if (wrap64 (a1)) = 0 then (none) else (some (IntKind.u64.wrap (Int.tmod (wrap64 (a0)) (wrap64 (a1))))))) else (if (wrap64 (a1)) = 0 then (none) else (some (IntKind.u64.wrap (Int.tmod (wrap64 (a0)) (wrap64 (a1)))))))) = some r := h
  clear h
  by_cases c3 : a1 = 0
  · rw [if_pos c3] at H
    have c3b0 : (a1 == 0) = true := beq_iff_eq.mpr c3
    have c3b1 : (a1 != 0) = false := bne_eq_false_iff_eq.mpr c3
    clear c3
    obtain rfl := Option.some.inj H
    go_enter Try.func21, Try.ntmps21
    go_wp2
    go_ret
    exact ⟨by first | rfl | (simp; done) | (simp [*]; done), by repeat (first | exact Drawn0.refl _ | apply Drawn0.step)⟩
  · rw [if_neg c3] at H
    have c3b0 : (a1 == 0) = false := beq_eq_false_iff_ne.mpr c3
    have c3b1 : (a1 != 0) = true := bne_iff_ne.mpr c3
    by_cases c4 : a0 = 9223372036854775808
    · rw [if_pos c4] at H
      have c4b0 : (a0 == 9223372036854775808) = true := beq_iff_eq.mpr c4
      have c4b1 : (a0 != 9223372036854775808) = false := bne_eq_false_iff_eq.mpr c4
      clear c4
      by_cases c5 : a1 = 18446744073709551615
      · rw [if_pos c5] at H
        have c5b0 : (a1 == 18446744073709551615) = true := beq_iff_eq.mpr c5
        have c5b1 : (a1 != 18446744073709551615) = false := bne_eq_false_iff_eq.mpr c5
        clear c5
        obtain rfl := Option.some.inj H
        go_enter Try.func21, Try.ntmps21
        go_wp2
        go_ret
        exact ⟨by first | rfl | (simp; done) | (simp [*]; done), by repeat (first | exact Drawn0.refl _ | apply Drawn0.step)⟩
      · rw [if_neg c5] at H
        have c5b0 : (a1 == 18446744073709551615) = false := beq_eq_false_iff_ne.mpr c5
        have c5b1 : (a1 != 18446744073709551615) = true := bne_iff_ne.mpr c5
        by_cases c6 : (wrap64 (a1)) = 0
        · rw [if_pos c6] at H
          exact absurd H (by simp)
        · rw [if_neg c6] at H
          have c6b0 : ((wrap64 (a1)) == 0) = false := beq_eq_false_iff_ne.mpr c6
          have c6b1 : ((wrap64 (a1)) != 0) = true := bne_iff_ne.mpr c6
          obtain rfl := Option.some.inj H
          go_enter Try.func21, Try.ntmps21
          go_wp2
          go_ret
          exact ⟨by first | rfl | (simp; done) | (simp [*]; done), by repeat (first | exact Drawn0.refl _ | apply Drawn0.step)⟩
    · rw [if_neg c4] at H
      have c4b0 : (a0 == 9223372036854775808) = false := beq_eq_false_iff_ne.mpr c4
      have c4b1 : (a0 != 9223372036854775808) = true := bne_iff_ne.mpr c4
      by_cases c7 : (wrap64 (a1)) = 0
      · rw [if_pos c7] at H
        exact absurd H (by simp)
      · rw [if_neg c7] at H
        have c7b0 : ((wrap64 (a1)) == 0) = false := beq_eq_false_iff_ne.mpr c7
        have c7b1 : ((wrap64 (a1)) != 0) = true := bne_iff_ne.mpr c7
        obtain rfl := Option.some.inj H
        go_enter Try.func21, Try.ntmps21
        go_wp2
        go_ret
        exact ⟨by first | rfl | (simp; done) | (simp [*]; done), by repeat (first | exact Drawn0.refl _ | apply Drawn0.step)⟩

/-! ### marionettelaw01_WordWhole: function 6 -/
def marionettelaw01_WordWhole.j0 : Nat → Int → Int → Bool → Option (Bool)
  | 0, _, _, _ => none
  | k + 1, x0, x1, x28 => if x28 = true then (some false) else ((marionettelaw01_answers.f).bind fun t107 => (if t107 = true then (if x1 = 0 then (some true) else ((word_RemU.f x0 x1).bind fun t108 => (some (decide (t108 < x1))))) else (some false)))
def marionettelaw01_WordWhole.f (k : Nat) (a0 : Int) (a1 : Int) : Option (Bool) := (word_DivU.f a0 a1).bind fun t103 => ((word_RemU.f a0 a1).bind fun t104 => (if (IntKind.u64.wrap ((IntKind.u64.wrap (t103 * a1)) + t104)) = a0 then ((word_Div.f a0 a1).bind fun t105 => ((word_Rem.f a0 a1).bind fun t106 => (marionettelaw01_WordWhole.j0 k a0 a1 ((IntKind.u64.wrap ((IntKind.u64.wrap (t105 * a1)) + t106)) != a0)))) else (marionettelaw01_WordWhole.j0 k a0 a1 true)))
theorem marionettelaw01_WordWhole.mono_l : ∀ k, (∀ y0 y1 y2, LeO (marionettelaw01_WordWhole.j0 k y0 y1 y2) (marionettelaw01_WordWhole.j0 (k + 1) y0 y1 y2))
  | 0 => fun _ _ _ r h => by simp [marionettelaw01_WordWhole.j0] at h
  | k + 1 => by
    have ih0 := marionettelaw01_WordWhole.mono_l k
    · intro y0 y1 y2
      unfold marionettelaw01_WordWhole.j0
      repeat' first
      | (with_reducible exact ih0 _ _ _)
      | (with_reducible exact LeO.refl _)
      | (with_reducible exact LeO.none _)
      | (with_reducible refine LeO.ite ?_ ?_)
      | (with_reducible refine LeO.bind ?_ (fun _ => ?_))
      | exact ih0 _ _ _
      | exact LeO.none _
      | refine LeO.ite ?_ ?_
      | refine LeO.bind ?_ (fun _ => ?_)
theorem marionettelaw01_WordWhole.mono : ∀ a0 a1 k, LeO (marionettelaw01_WordWhole.f k a0 a1) (marionettelaw01_WordWhole.f (k + 1) a0 a1) := by
  intro a0 a1 k
  have ih0 := marionettelaw01_WordWhole.mono_l k
  unfold marionettelaw01_WordWhole.f
  repeat' first
      | (with_reducible exact ih0 _ _ _)
      | (with_reducible exact LeO.refl _)
      | (with_reducible exact LeO.none _)
      | (with_reducible refine LeO.ite ?_ ?_)
      | (with_reducible refine LeO.bind ?_ (fun _ => ?_))
      | exact ih0 _ _ _
      | exact LeO.none _
      | refine LeO.ite ?_ ?_
      | refine LeO.bind ?_ (fun _ => ?_)
set_option maxHeartbeats 8000000 in
set_option maxRecDepth 100000 in
theorem marionettelaw01_WordWhole.calls (k : Nat) (a0 : Int) (a1 : Int) (r : Bool) (w : World) (h : marionettelaw01_WordWhole.f k a0 a1 = some r) :
    Calls Try.prog 6 #[.int .u64 a0, .int .u64 a1] w fun e w' => e = .returned (.bool r) ∧ Drawn0 w w' := by
  have H : ((word_DivU.f a0 a1).bind fun t103 => ((word_RemU.f a0 a1).bind fun t104 => (if (IntKind.u64.wrap ((IntKind.u64.wrap (t103 * a1)) + t104)) = a0 then ((word_Div.f a0 a1).bind fun t105 => ((word_Rem.f a0 a1).bind fun t106 => (marionettelaw01_WordWhole.j0 k a0 a1 ((IntKind.u64.wrap ((IntKind.u64.wrap (t105 * a1)) + t106)) != a0)))) else (marionettelaw01_WordWhole.j0 k a0 a1 true)))) = some r := h
  clear h
  have HC3 := Aside0.mk H
  clear H
  go_enter Try.func6, Try.ntmps6
  go_upto_region 1 with (fail)
  go_cut [28] (fun v28 wc => ∃ (kq : Nat) (x28_2 : Bool), v28 = .bool x28_2 ∧ Aside0 (marionettelaw01_WordWhole.j0 kq a0 a1 x28_2 = some r) ∧ Aside0 (kq ≤ k) ∧ Drawn0 w wc)
  case first =>
    have H := HC3.out
    clear HC3
    replace H := Option.bind_eq_some_iff.mp H
    obtain ⟨t103, A40, H⟩ := H
    replace H : ((word_RemU.f a0 a1).bind fun t104 => (if (IntKind.u64.wrap ((IntKind.u64.wrap (t103 * a1)) + t104)) = a0 then ((word_Div.f a0 a1).bind fun t105 => ((word_Rem.f a0 a1).bind fun t106 => (marionettelaw01_WordWhole.j0 k a0 a1 ((IntKind.u64.wrap ((IntKind.u64.wrap (t105 * a1)) + t106)) != a0)))) else (marionettelaw01_WordWhole.j0 k a0 a1 true))) = some r := H
    have A4 := Aside0.mk A40
    clear A40
    replace H := Option.bind_eq_some_iff.mp H
    obtain ⟨t104, A50, H⟩ := H
    replace H : (if (IntKind.u64.wrap ((IntKind.u64.wrap (t103 * a1)) + t104)) = a0 then ((word_Div.f a0 a1).bind fun t105 => ((word_Rem.f a0 a1).bind fun t106 => (marionettelaw01_WordWhole.j0 k a0 a1 ((IntKind.u64.wrap ((IntKind.u64.wrap (t105 * a1)) + t106)) != a0)))) else (marionettelaw01_WordWhole.j0 k a0 a1 true)) = some r := H
    have A5 := Aside0.mk A50
    clear A50
    by_cases c6 : (IntKind.u64.wrap ((IntKind.u64.wrap (t103 * a1)) + t104)) = a0
    · rw [if_pos c6] at H
      have c6b0 : ((IntKind.u64.wrap ((IntKind.u64.wrap (t103 * a1)) + t104)) == a0) = true := beq_iff_eq.mpr c6
      have c6b1 : ((IntKind.u64.wrap ((IntKind.u64.wrap (t103 * a1)) + t104)) != a0) = false := bne_eq_false_iff_eq.mpr c6
      clear c6
      (first | rw [c6b0] | (simp only [i64_w, i32_w]; rw [c6b0]) | skip)
      replace H := Option.bind_eq_some_iff.mp H
      obtain ⟨t105, A70, H⟩ := H
      replace H : ((word_Rem.f a0 a1).bind fun t106 => (marionettelaw01_WordWhole.j0 k a0 a1 ((IntKind.u64.wrap ((IntKind.u64.wrap (t105 * a1)) + t106)) != a0))) = some r := H
      have A7 := Aside0.mk A70
      clear A70
      replace H := Option.bind_eq_some_iff.mp H
      obtain ⟨t106, A80, H⟩ := H
      replace H : (marionettelaw01_WordWhole.j0 k a0 a1 ((IntKind.u64.wrap ((IntKind.u64.wrap (t105 * a1)) + t106)) != a0)) = some r := H
      have A8 := Aside0.mk A80
      clear A80
      have H' := Aside0.mk H
      clear H
      go_wp2_with (first | ((with_reducible refine gate_callee (f := 15) rfl ?_); refine goesL_ (some 7) rfl rfl Try.func15 (by kernel_rfl) rfl #[.int .u64 a0, .int .u64 a1] rfl (by (try simp only [List.map_toArray, List.map_cons, List.map_nil]); first | done | rfl | (simp only [List.length_drop, List.length_take]; rfl)) ?_; (with_reducible refine (word_DivU.calls a0 a1 t103 _ A4.out).mono ?_); rintro e w' ⟨rfl, ⟨nd, rfl⟩⟩; refine ⟨_, rfl, ?_⟩) | ((with_reducible refine gate_callee (f := 17) rfl ?_); refine goesL_ (some 12) rfl rfl Try.func17 (by kernel_rfl) rfl #[.int .u64 a0, .int .u64 a1] rfl (by (try simp only [List.map_toArray, List.map_cons, List.map_nil]); first | done | rfl | (simp only [List.length_drop, List.length_take]; rfl)) ?_; (with_reducible refine (word_RemU.calls a0 a1 t104 _ A5.out).mono ?_); rintro e w' ⟨rfl, ⟨nd, rfl⟩⟩; refine ⟨_, rfl, ?_⟩) | (go_at_call 19; (with_reducible refine (word_Div.calls a0 a1 t105 _ A7.out).mono ?_); rintro e w' ⟨rfl, ⟨nd, rfl⟩⟩) | (go_at_call 21; (with_reducible refine (word_Rem.calls a0 a1 t106 _ A8.out).mono ?_); rintro e w' ⟨rfl, ⟨nd, rfl⟩⟩))
      go_meet
      case rel => exact ⟨_, (((IntKind.u64.wrap ((IntKind.u64.wrap (t105 * a1)) + t106)) != a0)), (by first | rfl | (simp; done) | (simp [*]; done)), H', ⟨by first | omega | exact Nat.le_refl _⟩, by repeat (first | exact Drawn0.refl _ | apply Drawn0.step)⟩
    · rw [if_neg c6] at H
      have c6b0 : ((IntKind.u64.wrap ((IntKind.u64.wrap (t103 * a1)) + t104)) == a0) = false := beq_eq_false_iff_ne.mpr c6
      have c6b1 : ((IntKind.u64.wrap ((IntKind.u64.wrap (t103 * a1)) + t104)) != a0) = true := bne_iff_ne.mpr c6
      (first | rw [c6b0] | (simp only [i64_w, i32_w]; rw [c6b0]) | skip)
      have H' := Aside0.mk H
      clear H
      go_wp2_with (first | ((with_reducible refine gate_callee (f := 15) rfl ?_); refine goesL_ (some 7) rfl rfl Try.func15 (by kernel_rfl) rfl #[.int .u64 a0, .int .u64 a1] rfl (by (try simp only [List.map_toArray, List.map_cons, List.map_nil]); first | done | rfl | (simp only [List.length_drop, List.length_take]; rfl)) ?_; (with_reducible refine (word_DivU.calls a0 a1 t103 _ A4.out).mono ?_); rintro e w' ⟨rfl, ⟨nd, rfl⟩⟩; refine ⟨_, rfl, ?_⟩) | ((with_reducible refine gate_callee (f := 17) rfl ?_); refine goesL_ (some 12) rfl rfl Try.func17 (by kernel_rfl) rfl #[.int .u64 a0, .int .u64 a1] rfl (by (try simp only [List.map_toArray, List.map_cons, List.map_nil]); first | done | rfl | (simp only [List.length_drop, List.length_take]; rfl)) ?_; (with_reducible refine (word_RemU.calls a0 a1 t104 _ A5.out).mono ?_); rintro e w' ⟨rfl, ⟨nd, rfl⟩⟩; refine ⟨_, rfl, ?_⟩))
      go_meet
      case rel => exact ⟨_, (true), (by first | rfl | (simp; done) | (simp [*]; done)), H', ⟨by first | omega | exact Nat.le_refl _⟩, by repeat (first | exact Drawn0.refl _ | apply Drawn0.step)⟩
  case rest =>
    clear HC3
    try clear c1
    try clear p2
    try clear c6
    try clear c6b0
    try clear c6b1
    obtain ⟨kq, x28_2, rfl, HA, HJ2, ⟨mc2, rfl⟩⟩ := hcut
    cases kq with
    | zero => exact absurd HA.out (by simp [marionettelaw01_WordWhole.j0])
    | succ kj2 =>
      have H := HA.out
      clear HA
      simp only [marionettelaw01_WordWhole.j0] at H
      by_cases c9 : x28_2 = true
      · subst c9
        have H1 : (some false) = some r := by rw [if_pos rfl] at H; exact H
        clear H
        have H := H1
        clear H1
        obtain rfl := Option.some.inj H
        go_wp2
        go_ret
        exact ⟨by first | rfl | (simp; done) | (simp [*]; done), by repeat (first | exact Drawn0.refl _ | apply Drawn0.step)⟩
      · replace c9 := Bool.eq_false_iff.mpr c9
        subst c9
        have H1 : ((marionettelaw01_answers.f).bind fun t107 => (if t107 = true then (if a1 = 0 then (some true) else ((word_RemU.f a0 a1).bind fun t108 => (some (decide (t108 < a1))))) else (some false))) = some r := by rw [if_neg (show ¬ (false = true) by decide)] at H; exact H
        clear H
        have H := H1
        clear H1
        replace H := Option.bind_eq_some_iff.mp H
        obtain ⟨t107, A100, H⟩ := H
        replace H : (if t107 = true then (if a1 = 0 then (some true) else ((word_RemU.f a0 a1).bind fun t108 => (some (decide (t108 < a1))))) else (some false)) = some r := H
        have A10 := Aside0.mk A100
        clear A100
        by_cases c11 : t107 = true
        · subst c11
          have H1 : (if a1 = 0 then (some true) else ((word_RemU.f a0 a1).bind fun t108 => (some (decide (t108 < a1))))) = some r := by rw [if_pos rfl] at H; exact H
          clear H
          have H := H1
          clear H1
          by_cases c12 : a1 = 0
          · rw [if_pos c12] at H
            have c12b0 : (a1 == 0) = true := beq_iff_eq.mpr c12
            have c12b1 : (a1 != 0) = false := bne_eq_false_iff_eq.mpr c12
            clear c12
            obtain rfl := Option.some.inj H
            go_wp2_with (first | ((with_reducible refine gate_callee (f := 10) rfl ?_); refine goesL_ (some 29) rfl rfl Try.func10 (by kernel_rfl) rfl #[] rfl (by (try simp only [List.map_toArray, List.map_cons, List.map_nil]); first | done | rfl | (simp only [List.length_drop, List.length_take]; rfl)) ?_; (with_reducible refine (marionettelaw01_answers.calls  true _ A10.out).mono ?_); rintro e w' ⟨rfl, ⟨nd, rfl⟩⟩; refine ⟨_, rfl, ?_⟩))
            go_ret
            exact ⟨by first | rfl | (simp; done) | (simp [*]; done), by repeat (first | exact Drawn0.refl _ | apply Drawn0.step)⟩
          · rw [if_neg c12] at H
            have c12b0 : (a1 == 0) = false := beq_eq_false_iff_ne.mpr c12
            have c12b1 : (a1 != 0) = true := bne_iff_ne.mpr c12
            replace H := Option.bind_eq_some_iff.mp H
            obtain ⟨t108, A130, H⟩ := H
            replace H : (some (decide (t108 < a1))) = some r := H
            have A13 := Aside0.mk A130
            clear A130
            obtain rfl := Option.some.inj H
            go_wp2_with (first | ((with_reducible refine gate_callee (f := 10) rfl ?_); refine goesL_ (some 29) rfl rfl Try.func10 (by kernel_rfl) rfl #[] rfl (by (try simp only [List.map_toArray, List.map_cons, List.map_nil]); first | done | rfl | (simp only [List.length_drop, List.length_take]; rfl)) ?_; (with_reducible refine (marionettelaw01_answers.calls  true _ A10.out).mono ?_); rintro e w' ⟨rfl, ⟨nd, rfl⟩⟩; refine ⟨_, rfl, ?_⟩) | (go_at_call 17; (with_reducible refine (word_RemU.calls a0 a1 t108 _ A13.out).mono ?_); rintro e w' ⟨rfl, ⟨nd, rfl⟩⟩))
            go_ret
            exact ⟨by first | rfl | (simp; done) | (simp [*]; done), by repeat (first | exact Drawn0.refl _ | apply Drawn0.step)⟩
        · replace c11 := Bool.eq_false_iff.mpr c11
          subst c11
          have H1 : (some false) = some r := by rw [if_neg (show ¬ (false = true) by decide)] at H; exact H
          clear H
          have H := H1
          clear H1
          obtain rfl := Option.some.inj H
          go_wp2_with (first | ((with_reducible refine gate_callee (f := 10) rfl ?_); refine goesL_ (some 29) rfl rfl Try.func10 (by kernel_rfl) rfl #[] rfl (by (try simp only [List.map_toArray, List.map_cons, List.map_nil]); first | done | rfl | (simp only [List.length_drop, List.length_take]; rfl)) ?_; (with_reducible refine (marionettelaw01_answers.calls  false _ A10.out).mono ?_); rintro e w' ⟨rfl, ⟨nd, rfl⟩⟩; refine ⟨_, rfl, ?_⟩))
          go_ret
          exact ⟨by first | rfl | (simp; done) | (simp [*]; done), by repeat (first | exact Drawn0.refl _ | apply Drawn0.step)⟩

/-- THE ONE PURE STATEMENT of marionettelaw01_WordWhole: yours. -/
def marionettelaw01_WordWhole.Pure : Prop := ∀ (a0 : Int) (a1 : Int), (Lit.int .u64 a0).wf = true → (Lit.int .u64 a1).wf = true → ∃ k, marionettelaw01_WordWhole.f k a0 a1 = some true
theorem marionettelaw01_WordWhole.walk (P : marionettelaw01_WordWhole.Pure) (a0 : Int) (a1 : Int) (w : World) (w0 : (Lit.int .u64 a0).wf = true) (w1 : (Lit.int .u64 a1).wf = true) :
    Calls Try.prog 6 #[.int .u64 a0, .int .u64 a1] w fun e w' => e = .returned (.bool true) ∧ Below w.heap.size w w' := by
  obtain ⟨k, h⟩ := P a0 a1 w0 w1
  refine (marionettelaw01_WordWhole.calls k a0 a1 true w h).mono ?_
  rintro e w' ⟨rfl, hd⟩
  exact ⟨rfl, hd.below⟩

end Go.Proofs.Ytgbohkmlefhpjaa.PWordWhole
