/- The law AluBranches: alu.Taken and the document's at any operator, walked; of each pair just one is taken. No further condition. -/
import Derived.Test.YtdjgjedmbgnjbaaAluL
namespace Go.Proofs.Ytdjgjedmbgnjbaa.Alu
open Go Go.RowKit Go.Proofs.YtdjgjedmbgnjbaaW.PrintWords Go.Proofs.YtdjgjedmbgnjbaaW.PrintLast Go.Proofs.YtdjgjedmbgnjbaaW.PrintMore
open Go.Proofs.Ytdjgjedmbgnjbaa.Bv
set_option linter.unusedVariables false
set_option linter.unusedSimpArgs false
attribute [local go_sem] i64_U wrap64_U
/-- Is it taken? -/
def tk (op : Int) (a b : BitVec 64) : Bool := if op = 5 then U a == U b else if op = 6 then !(U a == U b) else if op = 7 then decide (a.toInt < b.toInt) else if op = 8 then !decide (a.toInt < b.toInt) else if op = 9 then decide (U a < U b) else if op = 10 then !decide (U a < U b) else false
/-- Is it a branch? -/
def kt (op : Int) : Bool := op == 5 || op == 6 || op == 7 || op == 8 || op == 9 || op == 10
theorem ret2_bool {p q r s : Bool} (h : p = q) (hp : r = s) : Ending.returned (.tuple #[.bool p, .bool r]) = .returned (.tuple #[.bool q, .bool s]) := by rw [h, hp]
theorem taken_any (op : Int) (a b : BitVec 64) (w : World) : Calls Try.prog 37 #[.int .i64 op, .int .u64 (U a), .int .u64 (U b)] w fun e w' => e = .returned (.tuple #[.bool (tk op a b), .bool (kt op)]) ∧ Drawn0 w w' := by
  have ge : ∀ p, decide (U a < U b) = p → decide (U b ≤ U a) = !p := by
    intro p h
    by_cases h1 : U a < U b
    · rw [decide_eq_true h1] at h; subst h; exact decide_eq_false (by omega)
    · rw [decide_eq_false h1] at h; subst h; exact decide_eq_true (by omega)
  obtain ⟨p1, e1⟩ : ∃ p, (U a == U b) = p := ⟨_, rfl⟩
  obtain ⟨p2, e2⟩ : ∃ p, decide (a.toInt < b.toInt) = p := ⟨_, rfl⟩
  obtain ⟨p3, e3⟩ : ∃ p, decide (U a < U b) = p := ⟨_, rfl⟩
  have e4 := ge p3 e3
  clear ge
  have hd : tk op a b = if op = 5 then p1 else if op = 6 then !p1 else if op = 7 then p2 else if op = 8 then !p2 else if op = 9 then p3 else if op = 10 then !p3 else false := by unfold tk; rw [e1, e2, e3]
  rw [hd]
  clear hd
  have ne : (U a != U b) = !p1 := by rw [bne, e1]
  by_cases h5 : op = 5
  · subst h5
    cases p1 <;>
    (go_enter Try.func37, Try.ntmps37
     go_wp2
     go_ret2
     exact ⟨rfl, Drawn0.refl _⟩)
  by_cases h6 : op = 6
  · subst h6
    cases p1 <;>
    (go_enter Try.func37, Try.ntmps37
     go_wp2
     go_ret2
     exact ⟨rfl, Drawn0.refl _⟩)
  by_cases h7 : op = 7
  · subst h7
    cases p2 <;>
    (go_enter Try.func37, Try.ntmps37
     go_wp2
     go_ret2
     exact ⟨rfl, by repeat (first | exact Drawn0.refl _ | apply Drawn0.step)⟩)
  by_cases h8 : op = 8
  · subst h8
    cases p2 <;>
    (go_enter Try.func37, Try.ntmps37
     go_wp2
     go_ret2
     exact ⟨rfl, by repeat (first | exact Drawn0.refl _ | apply Drawn0.step)⟩)
  by_cases h9 : op = 9
  · subst h9
    cases p3 <;>
    (go_enter Try.func37, Try.ntmps37
     go_wp2
     go_ret2
     exact ⟨rfl, Drawn0.refl _⟩)
  by_cases h10 : op = 10
  · subst h10
    cases p3 <;>
    (go_enter Try.func37, Try.ntmps37
     go_wp2
     go_ret2
     exact ⟨rfl, Drawn0.refl _⟩)
  have t5 : (op == 5) = false := beq_eq_false_iff_ne.2 h5
  have t6 : (op == 6) = false := beq_eq_false_iff_ne.2 h6
  have t7 : (op == 7) = false := beq_eq_false_iff_ne.2 h7
  have t8 : (op == 8) = false := beq_eq_false_iff_ne.2 h8
  have t9 : (op == 9) = false := beq_eq_false_iff_ne.2 h9
  have t10 : (op == 10) = false := beq_eq_false_iff_ne.2 h10
  rw [if_neg h5, if_neg h6, if_neg h7, if_neg h8, if_neg h9, if_neg h10, show kt op = false by unfold kt; rw [t5, t6, t7, t8, t9, t10]; rfl]
  clear h5 h6 h7 h8 h9 h10
  go_enter Try.func37, Try.ntmps37
  go_wp2
  go_ret2
  exact ⟨rfl, Drawn0.refl _⟩
theorem rtaken_any (op : Int) (a b : BitVec 64) (w : World) : Calls Try.prog 38 #[.int .i64 op, .int .u64 (U a), .int .u64 (U b)] w fun e w' => e = .returned (.tuple #[.bool (tk op a b), .bool (kt op)]) ∧ Drawn0 w w' := by
  have hl := r_less a b
  obtain ⟨p1, e1⟩ : ∃ p, (U a == U b) = p := ⟨_, rfl⟩
  obtain ⟨p2, e2⟩ : ∃ p, decide (a.toInt < b.toInt) = p := ⟨_, rfl⟩
  obtain ⟨p3, e3⟩ : ∃ p, decide (U a < U b) = p := ⟨_, rfl⟩
  have hd : tk op a b = if op = 5 then p1 else if op = 6 then !p1 else if op = 7 then p2 else if op = 8 then !p2 else if op = 9 then p3 else if op = 10 then !p3 else false := by unfold tk; rw [e1, e2, e3]
  rw [hd]
  clear hd
  rw [e2] at hl
  have HL := Lib.hid hl
  clear hl
  have ne : (U a != U b) = !p1 := by rw [bne, e1]
  by_cases h5 : op = 5
  · subst h5
    cases p1 <;>
    (go_enter Try.func38, Try.ntmps38
     go_wp2
     go_ret2
     exact ⟨rfl, Drawn0.refl _⟩)
  by_cases h6 : op = 6
  · subst h6
    cases p1 <;>
    (go_enter Try.func38, Try.ntmps38
     go_wp2
     go_ret2
     exact ⟨rfl, Drawn0.refl _⟩)
  by_cases h7 : op = 7
  · subst h7
    cases p2 <;>
    (go_enter Try.func38, Try.ntmps38
     go_wp2_with fail
     refine (HL.out _).mono ?_; rintro e w' ⟨rfl, ⟨m1, rfl⟩⟩
     go_wp2_with fail
     go_ret2
     exact ⟨rfl, by repeat (first | exact Drawn0.refl _ | apply Drawn0.step)⟩)
  by_cases h8 : op = 8
  · subst h8
    cases p2 <;>
    (go_enter Try.func38, Try.ntmps38
     go_wp2_with fail
     refine (HL.out _).mono ?_; rintro e w' ⟨rfl, ⟨m1, rfl⟩⟩
     go_wp2_with fail
     go_ret2
     exact ⟨rfl, by repeat (first | exact Drawn0.refl _ | apply Drawn0.step)⟩)
  by_cases h9 : op = 9
  · subst h9
    cases p3 <;>
    (go_enter Try.func38, Try.ntmps38
     go_wp2
     go_ret2
     exact ⟨rfl, Drawn0.refl _⟩)
  by_cases h10 : op = 10
  · subst h10
    cases p3 <;>
    (go_enter Try.func38, Try.ntmps38
     go_wp2
     go_ret2
     exact ⟨rfl, Drawn0.refl _⟩)
  have t5 : (op == 5) = false := beq_eq_false_iff_ne.2 h5
  have t6 : (op == 6) = false := beq_eq_false_iff_ne.2 h6
  have t7 : (op == 7) = false := beq_eq_false_iff_ne.2 h7
  have t8 : (op == 8) = false := beq_eq_false_iff_ne.2 h8
  have t9 : (op == 9) = false := beq_eq_false_iff_ne.2 h9
  have t10 : (op == 10) = false := beq_eq_false_iff_ne.2 h10
  rw [if_neg h5, if_neg h6, if_neg h7, if_neg h8, if_neg h9, if_neg h10, show kt op = false by unfold kt; rw [t5, t6, t7, t8, t9, t10]; rfl]
  clear h5 h6 h7 h8 h9 h10
  go_enter Try.func38, Try.ntmps38
  go_wp2
  go_ret2
  exact ⟨rfl, Drawn0.refl _⟩
set_option maxHeartbeats 2000000 in
theorem branches_law (op : Int) (a b : BitVec 64) (w : World) : Calls Try.prog 13 #[.int .i64 op, .int .u64 (U a), .int .u64 (U b)] w fun e w' => e = .returned (.bool true) ∧ Below w.heap.size w w' := by
  have h1 := taken_any op a b
  have h2 := rtaken_any op a b
  have k5 := taken_any 5 a b
  have k6 := taken_any 6 a b
  have k7 := taken_any 7 a b
  have k8 := taken_any 8 a b
  have k9 := taken_any 9 a b
  have k10 := taken_any 10 a b
  rw [show tk 5 a b = (U a == U b) from rfl] at k5
  rw [show tk 6 a b = !(U a == U b) from rfl] at k6
  rw [show tk 7 a b = decide (a.toInt < b.toInt) from rfl] at k7
  rw [show tk 8 a b = !decide (a.toInt < b.toInt) from rfl] at k8
  rw [show tk 9 a b = decide (U a < U b) from rfl] at k9
  rw [show tk 10 a b = !decide (U a < U b) from rfl] at k10
  generalize tk op a b = t at *
  generalize kt op = o at *
  generalize kt 5 = o5 at *
  generalize kt 6 = o6 at *
  generalize kt 7 = o7 at *
  generalize kt 8 = o8 at *
  generalize kt 9 = o9 at *
  generalize kt 10 = o10 at *
  generalize (U a == U b) = p1 at *
  generalize decide (a.toInt < b.toInt) = p2 at *
  generalize decide (U a < U b) = p3 at *
  have h1 := Lib.hid h1
  have h2 := Lib.hid h2
  have k5 := Lib.hid k5
  have k6 := Lib.hid k6
  have k7 := Lib.hid k7
  have k8 := Lib.hid k8
  have k9 := Lib.hid k9
  have k10 := Lib.hid k10
  go_enter Try.func13, Try.ntmps13
  go_wp2_with fail
  refine (h1.out _).mono ?_; rintro e w' ⟨rfl, ⟨m1, rfl⟩⟩
  go_wp2_with fail
  refine (h2.out _).mono ?_; rintro e w' ⟨rfl, ⟨m2, rfl⟩⟩
  go_wp2_with fail
  refine (answers_any _).mono ?_; rintro e w' ⟨rfl, ⟨m3, rfl⟩⟩
  go_wp2_with fail
  generalize hW : World.alloc _ _ = W1
  have hsz : (w.drewN (m1 + m2 + m3)).heap.size = w.heap.size := rfl
  have hbel : Below w.heap.size w W1 := by subst hW; repeat (first | exact Below.refl _ _ | apply below_alloc | apply pw_below_drewN | apply below_drew1)
  have c0 : W1.cell? ⟨w.heap.size, 0, none⟩ = some (.int .i64 5) := by subst hW; exact World.cell?_alloc_new (w.drewN (m1 + m2 + m3)) _ _ 0
  have c1 : W1.cell? ⟨w.heap.size, 1, none⟩ = some (.int .i64 6) := by subst hW; exact World.cell?_alloc_new (w.drewN (m1 + m2 + m3)) _ _ 1
  have c2 : W1.cell? ⟨w.heap.size, 2, none⟩ = some (.int .i64 7) := by subst hW; exact World.cell?_alloc_new (w.drewN (m1 + m2 + m3)) _ _ 2
  have c3 : W1.cell? ⟨w.heap.size, 3, none⟩ = some (.int .i64 8) := by subst hW; exact World.cell?_alloc_new (w.drewN (m1 + m2 + m3)) _ _ 3
  have c4 : W1.cell? ⟨w.heap.size, 4, none⟩ = some (.int .i64 9) := by subst hW; exact World.cell?_alloc_new (w.drewN (m1 + m2 + m3)) _ _ 4
  have c5 : W1.cell? ⟨w.heap.size, 5, none⟩ = some (.int .i64 10) := by subst hW; exact World.cell?_alloc_new (w.drewN (m1 + m2 + m3)) _ _ 5
  clear hW
  go_loopw [12] (fun i wr => (i = .int .i64 0 ∨ i = .int .i64 2 ∨ i = .int .i64 4 ∨ i = .int .i64 6) ∧ Drawn0 W1 wr) (fun i _ => 6 - (intOf i).toNat)
  case atStart => exact ⟨.inl rfl, Drawn0.refl _⟩
  case round =>
    obtain ⟨hi, nd, rfl⟩ := hrel
    rcases hi with rfl | rfl | rfl | rfl
    · go_wp2_with fail
      refine (k5.out _).mono ?_; rintro e w' ⟨rfl, ⟨m4, rfl⟩⟩
      go_wp2_with fail
      refine (k6.out _).mono ?_; rintro e w' ⟨rfl, ⟨m5, rfl⟩⟩
      cases p1 <;>
      (go_wp2_with fail
       go_roundw
       case rel => exact ⟨.inr (.inl rfl), by repeat (first | exact Drawn0.refl _ | apply Drawn0.step)⟩
       case measure => simp [intOf])
    · go_wp2_with fail
      refine (k7.out _).mono ?_; rintro e w' ⟨rfl, ⟨m4, rfl⟩⟩
      go_wp2_with fail
      refine (k8.out _).mono ?_; rintro e w' ⟨rfl, ⟨m5, rfl⟩⟩
      cases p2 <;>
      (go_wp2_with fail
       go_roundw
       case rel => exact ⟨.inr (.inr (.inl rfl)), by repeat (first | exact Drawn0.refl _ | apply Drawn0.step)⟩
       case measure => simp [intOf])
    · go_wp2_with fail
      refine (k9.out _).mono ?_; rintro e w' ⟨rfl, ⟨m4, rfl⟩⟩
      go_wp2_with fail
      refine (k10.out _).mono ?_; rintro e w' ⟨rfl, ⟨m5, rfl⟩⟩
      cases p3 <;>
      (go_wp2_with fail
       go_roundw
       case rel => exact ⟨.inr (.inr (.inr rfl)), by repeat (first | exact Drawn0.refl _ | apply Drawn0.step)⟩
       case measure => simp [intOf])
    · go_wp2_with fail
      go_ret
      exact ⟨rfl, by repeat (first | exact hbel | apply below_alloc | apply pw_below_drewN | apply below_drew1)⟩
theorem branches_walk (a0 a1 a2 : Int) (W : World) (_ : (Lit.int .i64 a0).wf = true) (w1 : (Lit.int .u64 a1).wf = true) (w2 : (Lit.int .u64 a2).wf = true) :
    Calls Try.prog 13 #[.int .i64 a0, .int .u64 a1, .int .u64 a2] W fun e w' => e = .returned (.bool true) ∧ Below W.heap.size W w' := by
  obtain ⟨x, rfl⟩ := ex_U (Go.bounds_u64 w1).1 (Go.bounds_u64 w1).2
  obtain ⟨y, rfl⟩ := ex_U (Go.bounds_u64 w2).1 (Go.bounds_u64 w2).2
  exact branches_law a0 x y W
end Go.Proofs.Ytdjgjedmbgnjbaa.Alu
