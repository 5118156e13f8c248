/- The laws AluSums, AluLogic, AluShifts and AluQuotients, walked out of alu.Do at their operators. No further condition. -/
import Derived.Test.YtdjgjedmbgnjbaaAluA
namespace Go.Proofs.Ytdjgjedmbgnjbaa.Alu
open Go Go.RowKit Go.Proofs.YtdjgjedmbgnjbaaW.PrintWords Go.Proofs.YtdjgjedmbgnjbaaW.PrintLast Go.Proofs.YtdjgjedmbgnjbaaW.PrintMore
open Go.Proofs.Ytdjgjedmbgnjbaa.Bv
set_option linter.unusedVariables false
set_option linter.unusedSimpArgs false
theorem U_eq_beq (x y : BitVec 64) : (U x == U y) = decide (x = y) := by
  rw [Bool.eq_iff_iff, beq_iff_eq, decide_eq_true_eq, U_inj]
theorem tr_sum {p q r : Bool} (h : (p = true ∧ q = false ∧ r = false) ∨ (p = false ∧ q = true ∧ r = false) ∨ (p = false ∧ q = false ∧ r = true)) : IntKind.u64.wrap (IntKind.u64.wrap (U (tr p) + U (tr q)) + U (tr r)) = 1 := by
  rcases h with ⟨rfl, rfl, rfl⟩ | ⟨rfl, rfl, rfl⟩ | ⟨rfl, rfl, rfl⟩ <;> decide +kernel
theorem one_of (x y : Int) : (decide (x < y) = true ∧ decide (y < x) = false ∧ decide (x = y) = false) ∨ (decide (x < y) = false ∧ decide (y < x) = true ∧ decide (x = y) = false) ∨ (decide (x < y) = false ∧ decide (y < x) = false ∧ decide (x = y) = true) := by
  rcases Int.lt_trichotomy x y with h | h | h
  · left; exact ⟨decide_eq_true h, decide_eq_false (by omega), decide_eq_false (by omega)⟩
  · right; right; exact ⟨decide_eq_false (by omega), decide_eq_false (by omega), decide_eq_true h⟩
  · right; left; exact ⟨decide_eq_false (by omega), decide_eq_true h, decide_eq_false (by omega)⟩
theorem add_sub_self (a b : BitVec 64) : a + b - b = a := BitVec.add_sub_cancel a b
theorem xor_xor_self (a b : BitVec 64) : a ^^^ b ^^^ b = a := by rw [BitVec.xor_assoc, BitVec.xor_self, BitVec.xor_zero]
set_option maxHeartbeats 2000000 in
theorem sums_law (a b : BitVec 64) (w : World) : Calls Try.prog 9 #[.int .u64 (U a), .int .u64 (U b)] w fun e w' => e = .returned (.bool true) ∧ Drawn0 w w' := by
  have h1 := Lib.hid (do_31 a b)
  have h2 := Lib.hid (do_32 (a + b) b)
  have h3 := Lib.hid (do_34 a b)
  have h4 := Lib.hid (do_34 b a)
  have h5 := Lib.hid (do_35 a b)
  have h6 := Lib.hid (do_35 b a)
  have h7 := Lib.hid (do_36 a b)
  have h8 := Lib.hid (do_36 (a ^^^ b) b)
  rw [add_sub_self] at h2
  rw [xor_xor_self] at h8
  have e1 := one_of a.toInt b.toInt
  have e2 := one_of (U a) (U b)
  have hab : decide (a.toInt = b.toInt) = decide (U a = U b) := by
    rw [Bool.eq_iff_iff, decide_eq_true_eq, decide_eq_true_eq, U_inj, BitVec.toInt_inj]
  rw [hab] at e1
  have s1 := tr_sum e1
  have s2 := tr_sum e2
  by_cases hq : U a = U b
  · have t0 : (U a == U b) = true := beq_iff_eq.2 hq
    rw [decide_eq_true hq, ← U_tr_t] at s1 s2
    generalize tr (decide (a.toInt < b.toInt)) = x1 at *
    generalize tr (decide (b.toInt < a.toInt)) = x2 at *
    generalize tr (decide (U a < U b)) = x3 at *
    generalize tr (decide (U b < U a)) = x4 at *
    have HQ := Lib.hid hq
    clear hab e1 e2 hq
    go_enter Try.func9, Try.ntmps9
    go_wp2_with fail
    refine (h1.out _).mono ?_; rintro e w' ⟨rfl, ⟨m1, rfl⟩⟩
    go_wp2_with fail
    refine (h2.out _).mono ?_; rintro e w' ⟨rfl, ⟨m2, rfl⟩⟩
    go_wp2_with fail
    refine (h3.out _).mono ?_; rintro e w' ⟨rfl, ⟨m3, rfl⟩⟩
    go_wp2_with fail
    refine (h4.out _).mono ?_; rintro e w' ⟨rfl, ⟨m4, rfl⟩⟩
    go_wp2_with fail
    refine (h5.out _).mono ?_; rintro e w' ⟨rfl, ⟨m5, rfl⟩⟩
    go_wp2_with fail
    refine (h6.out _).mono ?_; rintro e w' ⟨rfl, ⟨m6, rfl⟩⟩
    go_wp2_with fail
    refine (h7.out _).mono ?_; rintro e w' ⟨rfl, ⟨m7, rfl⟩⟩
    go_wp2_with fail
    refine (h8.out _).mono ?_; rintro e w' ⟨rfl, ⟨m8, rfl⟩⟩
    go_wp2_with fail
    refine (answers_any _).mono ?_; rintro e w' ⟨rfl, ⟨m9, rfl⟩⟩
    go_wp2_with fail
    go_ret
    exact ⟨rfl, by repeat (first | exact Drawn0.refl _ | apply Drawn0.step)⟩
  · have t0 : (U a == U b) = false := beq_eq_false_iff_ne.2 hq
    rw [decide_eq_false hq, ← U_tr_f] at s1 s2
    generalize tr (decide (a.toInt < b.toInt)) = x1 at *
    generalize tr (decide (b.toInt < a.toInt)) = x2 at *
    generalize tr (decide (U a < U b)) = x3 at *
    generalize tr (decide (U b < U a)) = x4 at *
    rw [Int.add_zero] at s1 s2
    clear hab e1 e2 hq
    go_enter Try.func9, Try.ntmps9
    go_wp2_with fail
    refine (h1.out _).mono ?_; rintro e w' ⟨rfl, ⟨m1, rfl⟩⟩
    go_wp2_with fail
    refine (h2.out _).mono ?_; rintro e w' ⟨rfl, ⟨m2, rfl⟩⟩
    go_wp2_with fail
    refine (h3.out _).mono ?_; rintro e w' ⟨rfl, ⟨m3, rfl⟩⟩
    go_wp2_with fail
    refine (h4.out _).mono ?_; rintro e w' ⟨rfl, ⟨m4, rfl⟩⟩
    go_wp2_with fail
    refine (h5.out _).mono ?_; rintro e w' ⟨rfl, ⟨m5, rfl⟩⟩
    go_wp2_with fail
    refine (h6.out _).mono ?_; rintro e w' ⟨rfl, ⟨m6, rfl⟩⟩
    go_wp2_with fail
    refine (h7.out _).mono ?_; rintro e w' ⟨rfl, ⟨m7, rfl⟩⟩
    go_wp2_with fail
    refine (h8.out _).mono ?_; rintro e w' ⟨rfl, ⟨m8, rfl⟩⟩
    go_wp2_with fail
    refine (answers_any _).mono ?_; rintro e w' ⟨rfl, ⟨m9, rfl⟩⟩
    go_wp2_with fail
    go_ret
    exact ⟨rfl, by repeat (first | exact Drawn0.refl _ | apply Drawn0.step)⟩
theorem sums_walk (a0 a1 : Int) (W : World) (w0 : (Lit.int .u64 a0).wf = true) (w1 : (Lit.int .u64 a1).wf = true) :
    Calls Try.prog 9 #[.int .u64 a0, .int .u64 a1] W fun e w' => e = .returned (.bool true) ∧ Below W.heap.size W w' := by
  obtain ⟨x, rfl⟩ := ex_U (Go.bounds_u64 w0).1 (Go.bounds_u64 w0).2
  obtain ⟨y, rfl⟩ := ex_U (Go.bounds_u64 w1).1 (Go.bounds_u64 w1).2
  exact (sums_law x y W).mono fun _ _ h => ⟨h.1, h.2.below⟩
theorem and_or_add (a b : BitVec 64) : (a &&& b) + (a ||| b) = a + b := by
  have d1 : a &&& (b &&& ~~~a) = 0#64 := by
    apply BitVec.eq_of_getLsbD_eq
    intro i hi
    simp only [BitVec.getLsbD_and, BitVec.getLsbD_not, BitVec.getLsbD_zero, hi, decide_true, Bool.true_and]
    cases a.getLsbD i <;> cases b.getLsbD i <;> rfl
  have d2 : (a &&& b) &&& (b &&& ~~~a) = 0#64 := by
    apply BitVec.eq_of_getLsbD_eq
    intro i hi
    simp only [BitVec.getLsbD_and, BitVec.getLsbD_not, BitVec.getLsbD_zero, hi, decide_true, Bool.true_and]
    cases a.getLsbD i <;> cases b.getLsbD i <;> rfl
  have o1 : a ||| (b &&& ~~~a) = a ||| b := by
    apply BitVec.eq_of_getLsbD_eq
    intro i hi
    simp only [BitVec.getLsbD_and, BitVec.getLsbD_not, BitVec.getLsbD_or, hi, decide_true, Bool.true_and]
    cases a.getLsbD i <;> cases b.getLsbD i <;> rfl
  have o2 : (a &&& b) ||| (b &&& ~~~a) = b := by
    apply BitVec.eq_of_getLsbD_eq
    intro i hi
    simp only [BitVec.getLsbD_and, BitVec.getLsbD_not, BitVec.getLsbD_or, hi, decide_true, Bool.true_and]
    cases a.getLsbD i <;> cases b.getLsbD i <;> rfl
  have e1 := BitVec.add_eq_or_of_and_eq_zero _ _ d1
  have e2 := BitVec.add_eq_or_of_and_eq_zero _ _ d2
  rw [o1] at e1
  rw [o2] at e2
  rw [← e1]
  conv => rhs; rw [← e2]
  rw [← BitVec.add_assoc, BitVec.add_comm (a &&& b) a, BitVec.add_assoc]
theorem or_sub_and (a b : BitVec 64) : (a ||| b) - (a &&& b) = a ^^^ b := by
  have h : (a ^^^ b) &&& (a &&& b) = 0#64 := by
    apply BitVec.eq_of_getLsbD_eq
    intro i hi
    simp only [BitVec.getLsbD_and, BitVec.getLsbD_xor, BitVec.getLsbD_zero]
    cases a.getLsbD i <;> cases b.getLsbD i <;> rfl
  have h2 : (a ^^^ b) ||| (a &&& b) = a ||| b := by
    apply BitVec.eq_of_getLsbD_eq
    intro i hi
    simp only [BitVec.getLsbD_and, BitVec.getLsbD_xor, BitVec.getLsbD_or]
    cases a.getLsbD i <;> cases b.getLsbD i <;> rfl
  have h3 := BitVec.add_eq_or_of_and_eq_zero _ _ h
  rw [h2] at h3
  rw [← h3, BitVec.add_sub_cancel]
theorem not_add_one (a : BitVec 64) : (a ^^^ BitVec.allOnes 64) + 1#64 = 0#64 - a := by
  rw [BitVec.xor_allOnes, BitVec.zero_sub, BitVec.neg_eq_not_add]
set_option maxHeartbeats 2000000 in
theorem logic_law (a b : BitVec 64) (w : World) : Calls Try.prog 10 #[.int .u64 (U a), .int .u64 (U b)] w fun e w' => e = .returned (.bool true) ∧ Drawn0 w w' := by
  have h1 := Lib.hid (do_40 a b)
  have h2 := Lib.hid (do_39 a b)
  have h3 := Lib.hid (do_36 a b)
  have h4 := Lib.hid (do_31 (a &&& b) (a ||| b))
  have h5 := Lib.hid (do_31 a b)
  have h6 := do_25 a (BitVec.allOnes 64)
  rw [← ones] at h6
  have h6 := Lib.hid h6
  have h7 : Hid (∀ w : World, Calls Try.prog 33 #[.int .i64 32, .int .u64 0, .int .u64 (U a)] w fun e w' => e = .returned (.tuple #[.int .u64 (U (0#64 - a)), .bool true]) ∧ Drawn0 w w') := Lib.hid (do_32 0#64 a)
  have h8 : Hid (∀ w : World, Calls Try.prog 33 #[.int .i64 22, .int .u64 (U (a ^^^ BitVec.allOnes 64)), .int .u64 1] w fun e w' => e = .returned (.tuple #[.int .u64 (U ((a ^^^ BitVec.allOnes 64) + 1#64)), .bool true]) ∧ Drawn0 w w') := Lib.hid (do_22 (a ^^^ BitVec.allOnes 64) 1#64)
  rw [not_add_one] at h8
  rw [and_or_add] at h4
  have hs := wrap_sub (a ||| b) (a &&& b)
  rw [or_sub_and] at hs
  generalize a ||| b = o at *
  generalize a &&& b = n at *
  generalize a ^^^ b = x at *
  generalize a + b = s at *
  generalize a ^^^ BitVec.allOnes 64 = c at *
  generalize 0#64 - a = d at *
  go_enter Try.func10, Try.ntmps10
  go_wp2_with fail
  refine (h1.out _).mono ?_; rintro e w' ⟨rfl, ⟨m1, rfl⟩⟩
  go_wp2_with fail
  refine (h2.out _).mono ?_; rintro e w' ⟨rfl, ⟨m2, rfl⟩⟩
  go_wp2_with fail
  refine (h3.out _).mono ?_; rintro e w' ⟨rfl, ⟨m3, rfl⟩⟩
  go_wp2_with fail
  refine (h4.out _).mono ?_; rintro e w' ⟨rfl, ⟨m4, rfl⟩⟩
  go_wp2_with fail
  refine (h5.out _).mono ?_; rintro e w' ⟨rfl, ⟨m5, rfl⟩⟩
  go_wp2_with fail
  refine (h6.out _).mono ?_; rintro e w' ⟨rfl, ⟨m6, rfl⟩⟩
  go_wp2_with fail
  refine (h7.out _).mono ?_; rintro e w' ⟨rfl, ⟨m7, rfl⟩⟩
  go_wp2_with fail
  refine (h8.out _).mono ?_; rintro e w' ⟨rfl, ⟨m8, rfl⟩⟩
  go_wp2_with fail
  refine (answers_any _).mono ?_; rintro e w' ⟨rfl, ⟨m9, rfl⟩⟩
  go_wp2_with fail
  go_ret
  exact ⟨rfl, by repeat (first | exact Drawn0.refl _ | apply Drawn0.step)⟩
theorem logic_walk (a0 a1 : Int) (W : World) (w0 : (Lit.int .u64 a0).wf = true) (w1 : (Lit.int .u64 a1).wf = true) :
    Calls Try.prog 10 #[.int .u64 a0, .int .u64 a1] W fun e w' => e = .returned (.bool true) ∧ Below W.heap.size W w' := by
  obtain ⟨x, rfl⟩ := ex_U (Go.bounds_u64 w0).1 (Go.bounds_u64 w0).2
  obtain ⟨y, rfl⟩ := ex_U (Go.bounds_u64 w1).1 (Go.bounds_u64 w1).2
  exact (logic_law x y W).mono fun _ _ h => ⟨h.1, h.2.below⟩
end Go.Proofs.Ytdjgjedmbgnjbaa.Alu
