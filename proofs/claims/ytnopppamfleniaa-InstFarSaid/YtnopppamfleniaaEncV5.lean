/- The law InstFar, walked: some of its 24 cases. -/
import Derived.Test.YtnopppamfleniaaEncU
import Derived.Test.YtnopppamfleniaaInsY
namespace Go.Proofs.Ytnopppamfleniaa.Ins
open Go Go.RowKit Go.Proofs.YtnopppamfleniaaW.PrintWords Go.Proofs.YtnopppamfleniaaW.PrintLast Go.Proofs.YtnopppamfleniaaW.PrintMore
open Go.Proofs.Ytnopppamfleniaa.Hp Go.Proofs.Ytnopppamfleniaa.Bv
attribute [local go_sem] max2_int min2_int max_two min_two max_three min_three max_four min_four
set_option linter.unusedVariables false
set_option linter.unusedSimpArgs false
theorem tmod_zero5 (n m : Int) : Int.tmod n m = 0 ↔ n % m = 0 := by rw [← Int.dvd_iff_tmod_eq_zero, Int.dvd_iff_emod_eq_zero]
set_option maxHeartbeats 1000000 in
theorem far_5 (n p q : Int) (d s : Nat) (hd : d < 32) (hs : s < 32) (hp : p % 32 = (d : Int)) (hq : q % 32 = (s : Int)) (p0 : 0 ≤ p) (p255 : p ≤ 255) (q0 : 0 ≤ q) (q255 : q ≤ 255) (n0 : (1 : Int) ≤ n) (n1 : n < 1048576) (q4 : n % 4096 = 0) (w : World) : Calls Try.prog 8 #[.int .i64 n, .int .u8 p, .int .u8 q] w fun e w' => e = .returned (.bool true) ∧ Fr (fun _ => False) w w' := by
  have q2 : n % 2 = 0 := by omega
  have Ha := Lib.hid (show ∀ W, Calls Try.prog 13 #[.agg #[.int .i64 3, .int .i64 (d : Int), .int .i64 0, .int .i64 0, .int .i64 n, .int .i64 0, .int .i64 4]] W fun e w' => e = .returned (.bool true) ∧ Fr (fun _ => False) W w' from fun W => by have e := Sound_any 3 (d : Int) 0 0 n 0 4 W; rw [far_jal d hd n true (by simp; omega)] at e; exact e)
  have Hb := Lib.hid (show ∀ W, Calls Try.prog 13 #[.agg #[.int .i64 6, .int .i64 0, .int .i64 (d : Int), .int .i64 (s : Int), .int .i64 n, .int .i64 0, .int .i64 4]] W fun e w' => e = .returned (.bool false) ∧ Fr (fun _ => False) W w' from fun W => by have e := Sound_any 6 0 (d : Int) (s : Int) n 0 4 W; rw [far_bne d s hd hs n false (by simp; omega)] at e; exact e)
  have Hc := Lib.hid (show ∀ W, Calls Try.prog 13 #[.agg #[.int .i64 14, .int .i64 (d : Int), .int .i64 (s : Int), .int .i64 0, .int .i64 n, .int .i64 0, .int .i64 4]] W fun e w' => e = .returned (.bool false) ∧ Fr (fun _ => False) W w' from fun W => by have e := Sound_any 14 (d : Int) (s : Int) 0 n 0 4 W; rw [far_ld d s hd hs n false (by simp; omega)] at e; exact e)
  have He := Lib.hid (show ∀ W, Calls Try.prog 13 #[.agg #[.int .i64 18, .int .i64 0, .int .i64 (d : Int), .int .i64 (s : Int), .int .i64 n, .int .i64 0, .int .i64 4]] W fun e w' => e = .returned (.bool false) ∧ Fr (fun _ => False) W w' from fun W => by have e := Sound_any 18 0 (d : Int) (s : Int) n 0 4 W; rw [far_sb d s hd hs n false (by simp; omega)] at e; exact e)
  have Hf := Lib.hid (show ∀ W, Calls Try.prog 13 #[.agg #[.int .i64 1, .int .i64 (d : Int), .int .i64 0, .int .i64 0, .int .i64 n, .int .i64 0, .int .i64 4]] W fun e w' => e = .returned (.bool true) ∧ Fr (fun _ => False) W w' from fun W => by have e := Sound_any 1 (d : Int) 0 0 n 0 4 W; rw [far_lui d hd n true (by simp; omega)] at e; exact e)
  have Hg := Lib.hid (show ∀ W, Calls Try.prog 13 #[.agg #[.int .i64 30, .int .i64 (d : Int), .int .i64 (s : Int), .int .i64 0, .int .i64 n, .int .i64 0, .int .i64 4]] W fun e w' => e = .returned (.bool false) ∧ Fr (fun _ => False) W w' from fun W => by have e := Sound_any 30 (d : Int) (s : Int) 0 n 0 4 W; rw [far_srai d s hd hs n false (by simp; omega)] at e; exact e)
  have Hh := Lib.hid (show ∀ W, Calls Try.prog 13 #[.agg #[.int .i64 44, .int .i64 (d : Int), .int .i64 (s : Int), .int .i64 0, .int .i64 n, .int .i64 0, .int .i64 4]] W fun e w' => e = .returned (.bool false) ∧ Fr (fun _ => False) W w' from fun W => by have e := Sound_any 44 (d : Int) (s : Int) 0 n 0 4 W; rw [far_sraiw d s hd hs n false (by simp; omega)] at e; exact e)
  have HT := Lib.hid (And.intro (And.intro n0 n1) (And.intro q2 q4))
  clear q2 q4 n0 n1
  go_enter Try.func8, Try.ntmps8
  go_wp2_with fail
  refine (Ha.out _).mono ?_
  rintro e w1 ⟨rfl, hf⟩
  have HF := Lib.hid hf
  clear hf Ha
  go_wp2_with fail
  refine (Hb.out _).mono ?_
  rintro e w2 ⟨rfl, hf⟩
  have HF := Lib.hid (HF.out.trans hf (fun _ _ => id))
  clear hf Hb
  go_wp2_with fail
  refine (Hc.out _).mono ?_
  rintro e w3 ⟨rfl, hf⟩
  have HF := Lib.hid (HF.out.trans hf (fun _ _ => id))
  clear hf Hc
  go_wp2_with fail
  refine (He.out _).mono ?_
  rintro e w4 ⟨rfl, hf⟩
  have HF := Lib.hid (HF.out.trans hf (fun _ _ => id))
  clear hf He
  go_wp2_with fail
  refine (Hf.out _).mono ?_
  rintro e w5 ⟨rfl, hf⟩
  have HF := Lib.hid (HF.out.trans hf (fun _ _ => id))
  clear hf Hf
  go_wp2_with fail
  refine (Hg.out _).mono ?_
  rintro e w6 ⟨rfl, hf⟩
  have HF := Lib.hid (HF.out.trans hf (fun _ _ => id))
  clear hf Hg
  go_wp2_with fail
  refine (Hh.out _).mono ?_
  rintro e w7 ⟨rfl, hf⟩
  have HF := Lib.hid (HF.out.trans hf (fun _ _ => id))
  clear hf Hh
  obtain ⟨⟨n0, n1⟩, q2, q4⟩ := HT.out
  have gm2048 : decide ((-2048 : Int) ≤ n) = true := decide_eq_true (by omega)
  have gm1048576 : decide ((-1048576 : Int) ≤ n) = true := decide_eq_true (by omega)
  have gm4096 : decide ((-4096 : Int) ≤ n) = true := decide_eq_true (by omega)
  have gm2147483648 : decide ((-2147483648 : Int) ≤ n) = true := decide_eq_true (by omega)
  have g0 : decide ((0 : Int) ≤ n) = true := decide_eq_true (by omega)
  have l2047 : decide (n ≤ 2047) = false := decide_eq_false (by omega)
  have l1048576 : decide (n < 1048576) = true := decide_eq_true (by omega)
  have l4096 : decide (n < 4096) = false := decide_eq_false (by omega)
  have l2147483648 : decide (n < 2147483648) = true := decide_eq_true (by omega)
  have l64 : decide (n < 64) = false := decide_eq_false (by omega)
  have l32 : decide (n < 32) = false := decide_eq_false (by omega)
  have e2 : (n % 2 == 0) = true := beq_iff_eq.2 q2
  have e4 : (n % 4096 == 0) = true := beq_iff_eq.2 q4
  have e2' : (Int.tmod n 2 == 0) = true := beq_iff_eq.2 ((tmod_zero5 n 2).2 q2)
  have e4' : (Int.tmod n 4096 == 0) = true := beq_iff_eq.2 ((tmod_zero5 n 4096).2 q4)
  clear q2 q4 HT hp hq p0 p255 q0 q255 hd hs
  go_wp2_with fail
  refine (answers_any _).mono ?_
  rintro e w9 ⟨rfl, hf⟩
  have HF := Lib.hid (HF.out.trans hf (fun _ _ => id))
  clear hf
  go_wp2_with fail
  go_ret
  exact ⟨by first | rfl | simp, HF.out⟩
set_option maxHeartbeats 1000000 in
theorem far_11 (n p q : Int) (d s : Nat) (hd : d < 32) (hs : s < 32) (hp : p % 32 = (d : Int)) (hq : q % 32 = (s : Int)) (p0 : 0 ≤ p) (p255 : p ≤ 255) (q0 : 0 ≤ q) (q255 : q ≤ 255) (n0 : (-2048 : Int) ≤ n) (n1 : n < 0) (q4 : ¬ n % 4096 = 0) (q2 : n % 2 = 0) (w : World) : Calls Try.prog 8 #[.int .i64 n, .int .u8 p, .int .u8 q] w fun e w' => e = .returned (.bool true) ∧ Fr (fun _ => False) w w' := by
  have Ha := Lib.hid (show ∀ W, Calls Try.prog 13 #[.agg #[.int .i64 3, .int .i64 (d : Int), .int .i64 0, .int .i64 0, .int .i64 n, .int .i64 0, .int .i64 4]] W fun e w' => e = .returned (.bool true) ∧ Fr (fun _ => False) W w' from fun W => by have e := Sound_any 3 (d : Int) 0 0 n 0 4 W; rw [far_jal d hd n true (by simp; omega)] at e; exact e)
  have Hb := Lib.hid (show ∀ W, Calls Try.prog 13 #[.agg #[.int .i64 6, .int .i64 0, .int .i64 (d : Int), .int .i64 (s : Int), .int .i64 n, .int .i64 0, .int .i64 4]] W fun e w' => e = .returned (.bool true) ∧ Fr (fun _ => False) W w' from fun W => by have e := Sound_any 6 0 (d : Int) (s : Int) n 0 4 W; rw [far_bne d s hd hs n true (by simp; omega)] at e; exact e)
  have Hc := Lib.hid (show ∀ W, Calls Try.prog 13 #[.agg #[.int .i64 14, .int .i64 (d : Int), .int .i64 (s : Int), .int .i64 0, .int .i64 n, .int .i64 0, .int .i64 4]] W fun e w' => e = .returned (.bool true) ∧ Fr (fun _ => False) W w' from fun W => by have e := Sound_any 14 (d : Int) (s : Int) 0 n 0 4 W; rw [far_ld d s hd hs n true (by simp; omega)] at e; exact e)
  have He := Lib.hid (show ∀ W, Calls Try.prog 13 #[.agg #[.int .i64 18, .int .i64 0, .int .i64 (d : Int), .int .i64 (s : Int), .int .i64 n, .int .i64 0, .int .i64 4]] W fun e w' => e = .returned (.bool true) ∧ Fr (fun _ => False) W w' from fun W => by have e := Sound_any 18 0 (d : Int) (s : Int) n 0 4 W; rw [far_sb d s hd hs n true (by simp; omega)] at e; exact e)
  have Hf := Lib.hid (show ∀ W, Calls Try.prog 13 #[.agg #[.int .i64 1, .int .i64 (d : Int), .int .i64 0, .int .i64 0, .int .i64 n, .int .i64 0, .int .i64 4]] W fun e w' => e = .returned (.bool false) ∧ Fr (fun _ => False) W w' from fun W => by have e := Sound_any 1 (d : Int) 0 0 n 0 4 W; rw [far_lui d hd n false (by simp; omega)] at e; exact e)
  have Hg := Lib.hid (show ∀ W, Calls Try.prog 13 #[.agg #[.int .i64 30, .int .i64 (d : Int), .int .i64 (s : Int), .int .i64 0, .int .i64 n, .int .i64 0, .int .i64 4]] W fun e w' => e = .returned (.bool false) ∧ Fr (fun _ => False) W w' from fun W => by have e := Sound_any 30 (d : Int) (s : Int) 0 n 0 4 W; rw [far_srai d s hd hs n false (by simp; omega)] at e; exact e)
  have Hh := Lib.hid (show ∀ W, Calls Try.prog 13 #[.agg #[.int .i64 44, .int .i64 (d : Int), .int .i64 (s : Int), .int .i64 0, .int .i64 n, .int .i64 0, .int .i64 4]] W fun e w' => e = .returned (.bool false) ∧ Fr (fun _ => False) W w' from fun W => by have e := Sound_any 44 (d : Int) (s : Int) 0 n 0 4 W; rw [far_sraiw d s hd hs n false (by simp; omega)] at e; exact e)
  have HT := Lib.hid (And.intro (And.intro n0 n1) (And.intro q2 q4))
  clear q2 q4 n0 n1
  go_enter Try.func8, Try.ntmps8
  go_wp2_with fail
  refine (Ha.out _).mono ?_
  rintro e w1 ⟨rfl, hf⟩
  have HF := Lib.hid hf
  clear hf Ha
  go_wp2_with fail
  refine (Hb.out _).mono ?_
  rintro e w2 ⟨rfl, hf⟩
  have HF := Lib.hid (HF.out.trans hf (fun _ _ => id))
  clear hf Hb
  go_wp2_with fail
  refine (Hc.out _).mono ?_
  rintro e w3 ⟨rfl, hf⟩
  have HF := Lib.hid (HF.out.trans hf (fun _ _ => id))
  clear hf Hc
  go_wp2_with fail
  refine (He.out _).mono ?_
  rintro e w4 ⟨rfl, hf⟩
  have HF := Lib.hid (HF.out.trans hf (fun _ _ => id))
  clear hf He
  go_wp2_with fail
  refine (Hf.out _).mono ?_
  rintro e w5 ⟨rfl, hf⟩
  have HF := Lib.hid (HF.out.trans hf (fun _ _ => id))
  clear hf Hf
  go_wp2_with fail
  refine (Hg.out _).mono ?_
  rintro e w6 ⟨rfl, hf⟩
  have HF := Lib.hid (HF.out.trans hf (fun _ _ => id))
  clear hf Hg
  go_wp2_with fail
  refine (Hh.out _).mono ?_
  rintro e w7 ⟨rfl, hf⟩
  have HF := Lib.hid (HF.out.trans hf (fun _ _ => id))
  clear hf Hh
  obtain ⟨⟨n0, n1⟩, q2, q4⟩ := HT.out
  have gm2048 : decide ((-2048 : Int) ≤ n) = true := decide_eq_true (by omega)
  have gm1048576 : decide ((-1048576 : Int) ≤ n) = true := decide_eq_true (by omega)
  have gm4096 : decide ((-4096 : Int) ≤ n) = true := decide_eq_true (by omega)
  have gm2147483648 : decide ((-2147483648 : Int) ≤ n) = true := decide_eq_true (by omega)
  have g0 : decide ((0 : Int) ≤ n) = false := decide_eq_false (by omega)
  have l2047 : decide (n ≤ 2047) = true := decide_eq_true (by omega)
  have l1048576 : decide (n < 1048576) = true := decide_eq_true (by omega)
  have l4096 : decide (n < 4096) = true := decide_eq_true (by omega)
  have l2147483648 : decide (n < 2147483648) = true := decide_eq_true (by omega)
  have l64 : decide (n < 64) = true := decide_eq_true (by omega)
  have l32 : decide (n < 32) = true := decide_eq_true (by omega)
  have e2 : (n % 2 == 0) = true := beq_iff_eq.2 q2
  have e4 : (n % 4096 == 0) = false := beq_eq_false_iff_ne.2 q4
  have e2' : (Int.tmod n 2 == 0) = true := beq_iff_eq.2 ((tmod_zero5 n 2).2 q2)
  have e4' : (Int.tmod n 4096 == 0) = false := beq_eq_false_iff_ne.2 (fun h => q4 ((tmod_zero5 n 4096).1 h))
  clear q2 q4 HT hp hq p0 p255 q0 q255 hd hs
  go_wp2_with fail
  refine (answers_any _).mono ?_
  rintro e w9 ⟨rfl, hf⟩
  have HF := Lib.hid (HF.out.trans hf (fun _ _ => id))
  clear hf
  go_wp2_with fail
  go_ret
  exact ⟨by first | rfl | simp, HF.out⟩
set_option maxHeartbeats 1000000 in
theorem far_17 (n p q : Int) (d s : Nat) (hd : d < 32) (hs : s < 32) (hp : p % 32 = (d : Int)) (hq : q % 32 = (s : Int)) (p0 : 0 ≤ p) (p255 : p ≤ 255) (q0 : 0 ≤ q) (q255 : q ≤ 255) (n0 : (1048576 : Int) ≤ n) (q4 : ¬ n % 4096 = 0) (q2 : n % 2 = 0) (w : World) : Calls Try.prog 8 #[.int .i64 n, .int .u8 p, .int .u8 q] w fun e w' => e = .returned (.bool true) ∧ Fr (fun _ => False) w w' := by
  have Ha := Lib.hid (show ∀ W, Calls Try.prog 13 #[.agg #[.int .i64 3, .int .i64 (d : Int), .int .i64 0, .int .i64 0, .int .i64 n, .int .i64 0, .int .i64 4]] W fun e w' => e = .returned (.bool false) ∧ Fr (fun _ => False) W w' from fun W => by have e := Sound_any 3 (d : Int) 0 0 n 0 4 W; rw [far_jal d hd n false (by simp; omega)] at e; exact e)
  have Hb := Lib.hid (show ∀ W, Calls Try.prog 13 #[.agg #[.int .i64 6, .int .i64 0, .int .i64 (d : Int), .int .i64 (s : Int), .int .i64 n, .int .i64 0, .int .i64 4]] W fun e w' => e = .returned (.bool false) ∧ Fr (fun _ => False) W w' from fun W => by have e := Sound_any 6 0 (d : Int) (s : Int) n 0 4 W; rw [far_bne d s hd hs n false (by simp; omega)] at e; exact e)
  have Hc := Lib.hid (show ∀ W, Calls Try.prog 13 #[.agg #[.int .i64 14, .int .i64 (d : Int), .int .i64 (s : Int), .int .i64 0, .int .i64 n, .int .i64 0, .int .i64 4]] W fun e w' => e = .returned (.bool false) ∧ Fr (fun _ => False) W w' from fun W => by have e := Sound_any 14 (d : Int) (s : Int) 0 n 0 4 W; rw [far_ld d s hd hs n false (by simp; omega)] at e; exact e)
  have He := Lib.hid (show ∀ W, Calls Try.prog 13 #[.agg #[.int .i64 18, .int .i64 0, .int .i64 (d : Int), .int .i64 (s : Int), .int .i64 n, .int .i64 0, .int .i64 4]] W fun e w' => e = .returned (.bool false) ∧ Fr (fun _ => False) W w' from fun W => by have e := Sound_any 18 0 (d : Int) (s : Int) n 0 4 W; rw [far_sb d s hd hs n false (by simp; omega)] at e; exact e)
  have Hf := Lib.hid (show ∀ W, Calls Try.prog 13 #[.agg #[.int .i64 1, .int .i64 (d : Int), .int .i64 0, .int .i64 0, .int .i64 n, .int .i64 0, .int .i64 4]] W fun e w' => e = .returned (.bool false) ∧ Fr (fun _ => False) W w' from fun W => by have e := Sound_any 1 (d : Int) 0 0 n 0 4 W; rw [far_lui d hd n false (by simp; omega)] at e; exact e)
  have Hg := Lib.hid (show ∀ W, Calls Try.prog 13 #[.agg #[.int .i64 30, .int .i64 (d : Int), .int .i64 (s : Int), .int .i64 0, .int .i64 n, .int .i64 0, .int .i64 4]] W fun e w' => e = .returned (.bool false) ∧ Fr (fun _ => False) W w' from fun W => by have e := Sound_any 30 (d : Int) (s : Int) 0 n 0 4 W; rw [far_srai d s hd hs n false (by simp; omega)] at e; exact e)
  have Hh := Lib.hid (show ∀ W, Calls Try.prog 13 #[.agg #[.int .i64 44, .int .i64 (d : Int), .int .i64 (s : Int), .int .i64 0, .int .i64 n, .int .i64 0, .int .i64 4]] W fun e w' => e = .returned (.bool false) ∧ Fr (fun _ => False) W w' from fun W => by have e := Sound_any 44 (d : Int) (s : Int) 0 n 0 4 W; rw [far_sraiw d s hd hs n false (by simp; omega)] at e; exact e)
  have HT := Lib.hid (And.intro (n0) (And.intro q2 q4))
  clear q2 q4 n0
  go_enter Try.func8, Try.ntmps8
  go_wp2_with fail
  refine (Ha.out _).mono ?_
  rintro e w1 ⟨rfl, hf⟩
  have HF := Lib.hid hf
  clear hf Ha
  go_wp2_with fail
  refine (Hb.out _).mono ?_
  rintro e w2 ⟨rfl, hf⟩
  have HF := Lib.hid (HF.out.trans hf (fun _ _ => id))
  clear hf Hb
  go_wp2_with fail
  refine (Hc.out _).mono ?_
  rintro e w3 ⟨rfl, hf⟩
  have HF := Lib.hid (HF.out.trans hf (fun _ _ => id))
  clear hf Hc
  go_wp2_with fail
  refine (He.out _).mono ?_
  rintro e w4 ⟨rfl, hf⟩
  have HF := Lib.hid (HF.out.trans hf (fun _ _ => id))
  clear hf He
  go_wp2_with fail
  refine (Hf.out _).mono ?_
  rintro e w5 ⟨rfl, hf⟩
  have HF := Lib.hid (HF.out.trans hf (fun _ _ => id))
  clear hf Hf
  go_wp2_with fail
  refine (Hg.out _).mono ?_
  rintro e w6 ⟨rfl, hf⟩
  have HF := Lib.hid (HF.out.trans hf (fun _ _ => id))
  clear hf Hg
  go_wp2_with fail
  refine (Hh.out _).mono ?_
  rintro e w7 ⟨rfl, hf⟩
  have HF := Lib.hid (HF.out.trans hf (fun _ _ => id))
  clear hf Hh
  obtain ⟨n0, q2, q4⟩ := HT.out
  have gm2048 : decide ((-2048 : Int) ≤ n) = true := decide_eq_true (by omega)
  have gm1048576 : decide ((-1048576 : Int) ≤ n) = true := decide_eq_true (by omega)
  have gm4096 : decide ((-4096 : Int) ≤ n) = true := decide_eq_true (by omega)
  have gm2147483648 : decide ((-2147483648 : Int) ≤ n) = true := decide_eq_true (by omega)
  have g0 : decide ((0 : Int) ≤ n) = true := decide_eq_true (by omega)
  have l2047 : decide (n ≤ 2047) = false := decide_eq_false (by omega)
  have l1048576 : decide (n < 1048576) = false := decide_eq_false (by omega)
  have l4096 : decide (n < 4096) = false := decide_eq_false (by omega)
  have l64 : decide (n < 64) = false := decide_eq_false (by omega)
  have l32 : decide (n < 32) = false := decide_eq_false (by omega)
  have e2 : (n % 2 == 0) = true := beq_iff_eq.2 q2
  have e4 : (n % 4096 == 0) = false := beq_eq_false_iff_ne.2 q4
  have e2' : (Int.tmod n 2 == 0) = true := beq_iff_eq.2 ((tmod_zero5 n 2).2 q2)
  have e4' : (Int.tmod n 4096 == 0) = false := beq_eq_false_iff_ne.2 (fun h => q4 ((tmod_zero5 n 4096).1 h))
  clear q2 q4 HT hp hq p0 p255 q0 q255 hd hs
  go_wp2_with fail
  refine (answers_any _).mono ?_
  rintro e w9 ⟨rfl, hf⟩
  have HF := Lib.hid (HF.out.trans hf (fun _ _ => id))
  clear hf
  go_wp2_with fail
  go_ret
  exact ⟨by first | rfl | simp, HF.out⟩
set_option maxHeartbeats 1000000 in
theorem far_23 (n p q : Int) (d s : Nat) (hd : d < 32) (hs : s < 32) (hp : p % 32 = (d : Int)) (hq : q % 32 = (s : Int)) (p0 : 0 ≤ p) (p255 : p ≤ 255) (q0 : 0 ≤ q) (q255 : q ≤ 255) (n0 : (2048 : Int) ≤ n) (q4 : ¬ n % 4096 = 0) (q2 : ¬ n % 2 = 0) (w : World) : Calls Try.prog 8 #[.int .i64 n, .int .u8 p, .int .u8 q] w fun e w' => e = .returned (.bool true) ∧ Fr (fun _ => False) w w' := by
  have Ha := Lib.hid (show ∀ W, Calls Try.prog 13 #[.agg #[.int .i64 3, .int .i64 (d : Int), .int .i64 0, .int .i64 0, .int .i64 n, .int .i64 0, .int .i64 4]] W fun e w' => e = .returned (.bool false) ∧ Fr (fun _ => False) W w' from fun W => by have e := Sound_any 3 (d : Int) 0 0 n 0 4 W; rw [far_jal d hd n false (by simp; omega)] at e; exact e)
  have Hb := Lib.hid (show ∀ W, Calls Try.prog 13 #[.agg #[.int .i64 6, .int .i64 0, .int .i64 (d : Int), .int .i64 (s : Int), .int .i64 n, .int .i64 0, .int .i64 4]] W fun e w' => e = .returned (.bool false) ∧ Fr (fun _ => False) W w' from fun W => by have e := Sound_any 6 0 (d : Int) (s : Int) n 0 4 W; rw [far_bne d s hd hs n false (by simp; omega)] at e; exact e)
  have Hc := Lib.hid (show ∀ W, Calls Try.prog 13 #[.agg #[.int .i64 14, .int .i64 (d : Int), .int .i64 (s : Int), .int .i64 0, .int .i64 n, .int .i64 0, .int .i64 4]] W fun e w' => e = .returned (.bool false) ∧ Fr (fun _ => False) W w' from fun W => by have e := Sound_any 14 (d : Int) (s : Int) 0 n 0 4 W; rw [far_ld d s hd hs n false (by simp; omega)] at e; exact e)
  have He := Lib.hid (show ∀ W, Calls Try.prog 13 #[.agg #[.int .i64 18, .int .i64 0, .int .i64 (d : Int), .int .i64 (s : Int), .int .i64 n, .int .i64 0, .int .i64 4]] W fun e w' => e = .returned (.bool false) ∧ Fr (fun _ => False) W w' from fun W => by have e := Sound_any 18 0 (d : Int) (s : Int) n 0 4 W; rw [far_sb d s hd hs n false (by simp; omega)] at e; exact e)
  have Hf := Lib.hid (show ∀ W, Calls Try.prog 13 #[.agg #[.int .i64 1, .int .i64 (d : Int), .int .i64 0, .int .i64 0, .int .i64 n, .int .i64 0, .int .i64 4]] W fun e w' => e = .returned (.bool false) ∧ Fr (fun _ => False) W w' from fun W => by have e := Sound_any 1 (d : Int) 0 0 n 0 4 W; rw [far_lui d hd n false (by simp; omega)] at e; exact e)
  have Hg := Lib.hid (show ∀ W, Calls Try.prog 13 #[.agg #[.int .i64 30, .int .i64 (d : Int), .int .i64 (s : Int), .int .i64 0, .int .i64 n, .int .i64 0, .int .i64 4]] W fun e w' => e = .returned (.bool false) ∧ Fr (fun _ => False) W w' from fun W => by have e := Sound_any 30 (d : Int) (s : Int) 0 n 0 4 W; rw [far_srai d s hd hs n false (by simp; omega)] at e; exact e)
  have Hh := Lib.hid (show ∀ W, Calls Try.prog 13 #[.agg #[.int .i64 44, .int .i64 (d : Int), .int .i64 (s : Int), .int .i64 0, .int .i64 n, .int .i64 0, .int .i64 4]] W fun e w' => e = .returned (.bool false) ∧ Fr (fun _ => False) W w' from fun W => by have e := Sound_any 44 (d : Int) (s : Int) 0 n 0 4 W; rw [far_sraiw d s hd hs n false (by simp; omega)] at e; exact e)
  have HT := Lib.hid (And.intro (n0) (And.intro q2 q4))
  clear q2 q4 n0
  go_enter Try.func8, Try.ntmps8
  go_wp2_with fail
  refine (Ha.out _).mono ?_
  rintro e w1 ⟨rfl, hf⟩
  have HF := Lib.hid hf
  clear hf Ha
  go_wp2_with fail
  refine (Hb.out _).mono ?_
  rintro e w2 ⟨rfl, hf⟩
  have HF := Lib.hid (HF.out.trans hf (fun _ _ => id))
  clear hf Hb
  go_wp2_with fail
  refine (Hc.out _).mono ?_
  rintro e w3 ⟨rfl, hf⟩
  have HF := Lib.hid (HF.out.trans hf (fun _ _ => id))
  clear hf Hc
  go_wp2_with fail
  refine (He.out _).mono ?_
  rintro e w4 ⟨rfl, hf⟩
  have HF := Lib.hid (HF.out.trans hf (fun _ _ => id))
  clear hf He
  go_wp2_with fail
  refine (Hf.out _).mono ?_
  rintro e w5 ⟨rfl, hf⟩
  have HF := Lib.hid (HF.out.trans hf (fun _ _ => id))
  clear hf Hf
  go_wp2_with fail
  refine (Hg.out _).mono ?_
  rintro e w6 ⟨rfl, hf⟩
  have HF := Lib.hid (HF.out.trans hf (fun _ _ => id))
  clear hf Hg
  go_wp2_with fail
  refine (Hh.out _).mono ?_
  rintro e w7 ⟨rfl, hf⟩
  have HF := Lib.hid (HF.out.trans hf (fun _ _ => id))
  clear hf Hh
  obtain ⟨n0, q2, q4⟩ := HT.out
  have gm2048 : decide ((-2048 : Int) ≤ n) = true := decide_eq_true (by omega)
  have gm1048576 : decide ((-1048576 : Int) ≤ n) = true := decide_eq_true (by omega)
  have gm4096 : decide ((-4096 : Int) ≤ n) = true := decide_eq_true (by omega)
  have gm2147483648 : decide ((-2147483648 : Int) ≤ n) = true := decide_eq_true (by omega)
  have g0 : decide ((0 : Int) ≤ n) = true := decide_eq_true (by omega)
  have l2047 : decide (n ≤ 2047) = false := decide_eq_false (by omega)
  have l64 : decide (n < 64) = false := decide_eq_false (by omega)
  have l32 : decide (n < 32) = false := decide_eq_false (by omega)
  have e2 : (n % 2 == 0) = false := beq_eq_false_iff_ne.2 q2
  have e4 : (n % 4096 == 0) = false := beq_eq_false_iff_ne.2 q4
  have e2' : (Int.tmod n 2 == 0) = false := beq_eq_false_iff_ne.2 (fun h => q2 ((tmod_zero5 n 2).1 h))
  have e4' : (Int.tmod n 4096 == 0) = false := beq_eq_false_iff_ne.2 (fun h => q4 ((tmod_zero5 n 4096).1 h))
  clear q2 q4 HT hp hq p0 p255 q0 q255 hd hs
  go_wp2_with fail
  refine (answers_any _).mono ?_
  rintro e w9 ⟨rfl, hf⟩
  have HF := Lib.hid (HF.out.trans hf (fun _ _ => id))
  clear hf
  go_wp2_with fail
  go_ret
  exact ⟨by first | rfl | simp, HF.out⟩
end Go.Proofs.Ytnopppamfleniaa.Ins
