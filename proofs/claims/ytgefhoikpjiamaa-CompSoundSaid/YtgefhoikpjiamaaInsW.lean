/- The contracts of package inst's tables, regOp, reg32Op and withImm: each answers what its plain twin says, for every word of 32 bits. -/
import Derived.Test.YtgefhoikpjiamaaInsN
import Derived.Outline
import Derived.Laws.ResultCell
namespace Go.Proofs.Ytgefhoikpjiamaa.Ins
open Go Go.RowKit Go.Proofs.YtgefhoikpjiamaaW.PrintWords Go.Proofs.YtgefhoikpjiamaaW.PrintLast Go.Proofs.YtgefhoikpjiamaaW.PrintMore
open Go.Proofs.Ytgefhoikpjiamaa.Hp Go.Proofs.Ytgefhoikpjiamaa.Bv
attribute [local go_sem] max2_int min2_int max_two min_two max_three min_three max_four min_four
set_option linter.unusedVariables false
set_option linter.unusedSimpArgs false
theorem blk7 {w : World} {g : Nat} {t : TypeId} {c0 c1 c2 c3 c4 c5 c6 : Value} (h : Blk w g t #[c0, c1, c2, c3, c4, c5, c6]) (v0 v1 v2 v3 v4 v5 v6 : Value) :
    Blk (((((((w.setCell ⟨g, 0, none⟩ v0).setCell ⟨g, 1, none⟩ v1).setCell ⟨g, 2, none⟩ v2).setCell ⟨g, 3, none⟩ v3).setCell ⟨g, 4, none⟩ v4).setCell ⟨g, 5, none⟩ v5).setCell ⟨g, 6, none⟩ v6) g t #[v0, v1, v2, v3, v4, v5, v6] := by
  have e := ((((((h.set 0 v0).set 1 v1).set 2 v2).set 3 v3).set 4 v4).set 5 v5).set 6 v6
  simpa [Blk] using e
theorem branches_any (f : Nat) (hf : f < 8) (w : World) : Calls Try.prog 47 #[.int .i64 (f : Int)] w fun e w' => e = .returned (.int .i64 (brT f)) ∧ Drawn0 w w' := by
  have hq : f = 0 ∨ f = 1 ∨ f = 2 ∨ f = 3 ∨ f = 4 ∨ f = 5 ∨ f = 6 ∨ f = 7 := by omega
  rcases hq with rfl | rfl | rfl | rfl | rfl | rfl | rfl | rfl
  · have hix : ∀ w, (Instr.index 48 (.agg #[.int .i64 5, .int .i64 6, .int .i64 0, .int .i64 0, .int .i64 7, .int .i64 8, .int .i64 9, .int .i64 10]) (.int .i64 0)).run Try.prog w = .ok (.int .i64 5) w := fun _ => by kernel_rfl
    show Calls Try.prog 47 #[.int .i64 0] w fun e w' => e = .returned (.int .i64 5) ∧ Drawn0 w w'
    go_enter Try.func47, Try.ntmps47
    go_wp2_with fail
    go_ret
    exact ⟨rfl, by repeat (first | exact Drawn0.refl _ | exact ⟨_, rfl⟩ | apply Drawn0.step)⟩
  · have hix : ∀ w, (Instr.index 48 (.agg #[.int .i64 5, .int .i64 6, .int .i64 0, .int .i64 0, .int .i64 7, .int .i64 8, .int .i64 9, .int .i64 10]) (.int .i64 1)).run Try.prog w = .ok (.int .i64 6) w := fun _ => by kernel_rfl
    show Calls Try.prog 47 #[.int .i64 1] w fun e w' => e = .returned (.int .i64 6) ∧ Drawn0 w w'
    go_enter Try.func47, Try.ntmps47
    go_wp2_with fail
    go_ret
    exact ⟨rfl, by repeat (first | exact Drawn0.refl _ | exact ⟨_, rfl⟩ | apply Drawn0.step)⟩
  · have hix : ∀ w, (Instr.index 48 (.agg #[.int .i64 5, .int .i64 6, .int .i64 0, .int .i64 0, .int .i64 7, .int .i64 8, .int .i64 9, .int .i64 10]) (.int .i64 2)).run Try.prog w = .ok (.int .i64 0) w := fun _ => by kernel_rfl
    show Calls Try.prog 47 #[.int .i64 2] w fun e w' => e = .returned (.int .i64 0) ∧ Drawn0 w w'
    go_enter Try.func47, Try.ntmps47
    go_wp2_with fail
    go_ret
    exact ⟨rfl, by repeat (first | exact Drawn0.refl _ | exact ⟨_, rfl⟩ | apply Drawn0.step)⟩
  · have hix : ∀ w, (Instr.index 48 (.agg #[.int .i64 5, .int .i64 6, .int .i64 0, .int .i64 0, .int .i64 7, .int .i64 8, .int .i64 9, .int .i64 10]) (.int .i64 3)).run Try.prog w = .ok (.int .i64 0) w := fun _ => by kernel_rfl
    show Calls Try.prog 47 #[.int .i64 3] w fun e w' => e = .returned (.int .i64 0) ∧ Drawn0 w w'
    go_enter Try.func47, Try.ntmps47
    go_wp2_with fail
    go_ret
    exact ⟨rfl, by repeat (first | exact Drawn0.refl _ | exact ⟨_, rfl⟩ | apply Drawn0.step)⟩
  · have hix : ∀ w, (Instr.index 48 (.agg #[.int .i64 5, .int .i64 6, .int .i64 0, .int .i64 0, .int .i64 7, .int .i64 8, .int .i64 9, .int .i64 10]) (.int .i64 4)).run Try.prog w = .ok (.int .i64 7) w := fun _ => by kernel_rfl
    show Calls Try.prog 47 #[.int .i64 4] w fun e w' => e = .returned (.int .i64 7) ∧ Drawn0 w w'
    go_enter Try.func47, Try.ntmps47
    go_wp2_with fail
    go_ret
    exact ⟨rfl, by repeat (first | exact Drawn0.refl _ | exact ⟨_, rfl⟩ | apply Drawn0.step)⟩
  · have hix : ∀ w, (Instr.index 48 (.agg #[.int .i64 5, .int .i64 6, .int .i64 0, .int .i64 0, .int .i64 7, .int .i64 8, .int .i64 9, .int .i64 10]) (.int .i64 5)).run Try.prog w = .ok (.int .i64 8) w := fun _ => by kernel_rfl
    show Calls Try.prog 47 #[.int .i64 5] w fun e w' => e = .returned (.int .i64 8) ∧ Drawn0 w w'
    go_enter Try.func47, Try.ntmps47
    go_wp2_with fail
    go_ret
    exact ⟨rfl, by repeat (first | exact Drawn0.refl _ | exact ⟨_, rfl⟩ | apply Drawn0.step)⟩
  · have hix : ∀ w, (Instr.index 48 (.agg #[.int .i64 5, .int .i64 6, .int .i64 0, .int .i64 0, .int .i64 7, .int .i64 8, .int .i64 9, .int .i64 10]) (.int .i64 6)).run Try.prog w = .ok (.int .i64 9) w := fun _ => by kernel_rfl
    show Calls Try.prog 47 #[.int .i64 6] w fun e w' => e = .returned (.int .i64 9) ∧ Drawn0 w w'
    go_enter Try.func47, Try.ntmps47
    go_wp2_with fail
    go_ret
    exact ⟨rfl, by repeat (first | exact Drawn0.refl _ | exact ⟨_, rfl⟩ | apply Drawn0.step)⟩
  · have hix : ∀ w, (Instr.index 48 (.agg #[.int .i64 5, .int .i64 6, .int .i64 0, .int .i64 0, .int .i64 7, .int .i64 8, .int .i64 9, .int .i64 10]) (.int .i64 7)).run Try.prog w = .ok (.int .i64 10) w := fun _ => by kernel_rfl
    show Calls Try.prog 47 #[.int .i64 7] w fun e w' => e = .returned (.int .i64 10) ∧ Drawn0 w w'
    go_enter Try.func47, Try.ntmps47
    go_wp2_with fail
    go_ret
    exact ⟨rfl, by repeat (first | exact Drawn0.refl _ | exact ⟨_, rfl⟩ | apply Drawn0.step)⟩
theorem loads_any (f : Nat) (hf : f < 8) (w : World) : Calls Try.prog 58 #[.int .i64 (f : Int)] w fun e w' => e = .returned (.int .i64 (ldT f)) ∧ Drawn0 w w' := by
  have hq : f = 0 ∨ f = 1 ∨ f = 2 ∨ f = 3 ∨ f = 4 ∨ f = 5 ∨ f = 6 ∨ f = 7 := by omega
  rcases hq with rfl | rfl | rfl | rfl | rfl | rfl | rfl | rfl
  · have hix : ∀ w, (Instr.index 48 (.agg #[.int .i64 11, .int .i64 12, .int .i64 13, .int .i64 14, .int .i64 15, .int .i64 16, .int .i64 17, .int .i64 0]) (.int .i64 0)).run Try.prog w = .ok (.int .i64 11) w := fun _ => by kernel_rfl
    show Calls Try.prog 58 #[.int .i64 0] w fun e w' => e = .returned (.int .i64 11) ∧ Drawn0 w w'
    go_enter Try.func58, Try.ntmps58
    go_wp2_with fail
    go_ret
    exact ⟨rfl, by repeat (first | exact Drawn0.refl _ | exact ⟨_, rfl⟩ | apply Drawn0.step)⟩
  · have hix : ∀ w, (Instr.index 48 (.agg #[.int .i64 11, .int .i64 12, .int .i64 13, .int .i64 14, .int .i64 15, .int .i64 16, .int .i64 17, .int .i64 0]) (.int .i64 1)).run Try.prog w = .ok (.int .i64 12) w := fun _ => by kernel_rfl
    show Calls Try.prog 58 #[.int .i64 1] w fun e w' => e = .returned (.int .i64 12) ∧ Drawn0 w w'
    go_enter Try.func58, Try.ntmps58
    go_wp2_with fail
    go_ret
    exact ⟨rfl, by repeat (first | exact Drawn0.refl _ | exact ⟨_, rfl⟩ | apply Drawn0.step)⟩
  · have hix : ∀ w, (Instr.index 48 (.agg #[.int .i64 11, .int .i64 12, .int .i64 13, .int .i64 14, .int .i64 15, .int .i64 16, .int .i64 17, .int .i64 0]) (.int .i64 2)).run Try.prog w = .ok (.int .i64 13) w := fun _ => by kernel_rfl
    show Calls Try.prog 58 #[.int .i64 2] w fun e w' => e = .returned (.int .i64 13) ∧ Drawn0 w w'
    go_enter Try.func58, Try.ntmps58
    go_wp2_with fail
    go_ret
    exact ⟨rfl, by repeat (first | exact Drawn0.refl _ | exact ⟨_, rfl⟩ | apply Drawn0.step)⟩
  · have hix : ∀ w, (Instr.index 48 (.agg #[.int .i64 11, .int .i64 12, .int .i64 13, .int .i64 14, .int .i64 15, .int .i64 16, .int .i64 17, .int .i64 0]) (.int .i64 3)).run Try.prog w = .ok (.int .i64 14) w := fun _ => by kernel_rfl
    show Calls Try.prog 58 #[.int .i64 3] w fun e w' => e = .returned (.int .i64 14) ∧ Drawn0 w w'
    go_enter Try.func58, Try.ntmps58
    go_wp2_with fail
    go_ret
    exact ⟨rfl, by repeat (first | exact Drawn0.refl _ | exact ⟨_, rfl⟩ | apply Drawn0.step)⟩
  · have hix : ∀ w, (Instr.index 48 (.agg #[.int .i64 11, .int .i64 12, .int .i64 13, .int .i64 14, .int .i64 15, .int .i64 16, .int .i64 17, .int .i64 0]) (.int .i64 4)).run Try.prog w = .ok (.int .i64 15) w := fun _ => by kernel_rfl
    show Calls Try.prog 58 #[.int .i64 4] w fun e w' => e = .returned (.int .i64 15) ∧ Drawn0 w w'
    go_enter Try.func58, Try.ntmps58
    go_wp2_with fail
    go_ret
    exact ⟨rfl, by repeat (first | exact Drawn0.refl _ | exact ⟨_, rfl⟩ | apply Drawn0.step)⟩
  · have hix : ∀ w, (Instr.index 48 (.agg #[.int .i64 11, .int .i64 12, .int .i64 13, .int .i64 14, .int .i64 15, .int .i64 16, .int .i64 17, .int .i64 0]) (.int .i64 5)).run Try.prog w = .ok (.int .i64 16) w := fun _ => by kernel_rfl
    show Calls Try.prog 58 #[.int .i64 5] w fun e w' => e = .returned (.int .i64 16) ∧ Drawn0 w w'
    go_enter Try.func58, Try.ntmps58
    go_wp2_with fail
    go_ret
    exact ⟨rfl, by repeat (first | exact Drawn0.refl _ | exact ⟨_, rfl⟩ | apply Drawn0.step)⟩
  · have hix : ∀ w, (Instr.index 48 (.agg #[.int .i64 11, .int .i64 12, .int .i64 13, .int .i64 14, .int .i64 15, .int .i64 16, .int .i64 17, .int .i64 0]) (.int .i64 6)).run Try.prog w = .ok (.int .i64 17) w := fun _ => by kernel_rfl
    show Calls Try.prog 58 #[.int .i64 6] w fun e w' => e = .returned (.int .i64 17) ∧ Drawn0 w w'
    go_enter Try.func58, Try.ntmps58
    go_wp2_with fail
    go_ret
    exact ⟨rfl, by repeat (first | exact Drawn0.refl _ | exact ⟨_, rfl⟩ | apply Drawn0.step)⟩
  · have hix : ∀ w, (Instr.index 48 (.agg #[.int .i64 11, .int .i64 12, .int .i64 13, .int .i64 14, .int .i64 15, .int .i64 16, .int .i64 17, .int .i64 0]) (.int .i64 7)).run Try.prog w = .ok (.int .i64 0) w := fun _ => by kernel_rfl
    show Calls Try.prog 58 #[.int .i64 7] w fun e w' => e = .returned (.int .i64 0) ∧ Drawn0 w w'
    go_enter Try.func58, Try.ntmps58
    go_wp2_with fail
    go_ret
    exact ⟨rfl, by repeat (first | exact Drawn0.refl _ | exact ⟨_, rfl⟩ | apply Drawn0.step)⟩
theorem stores_any (f : Nat) (hf : f < 8) (w : World) : Calls Try.prog 49 #[.int .i64 (f : Int)] w fun e w' => e = .returned (.int .i64 (stT f)) ∧ Drawn0 w w' := by
  have hq : f = 0 ∨ f = 1 ∨ f = 2 ∨ f = 3 ∨ f = 4 ∨ f = 5 ∨ f = 6 ∨ f = 7 := by omega
  rcases hq with rfl | rfl | rfl | rfl | rfl | rfl | rfl | rfl
  · have hix : ∀ w, (Instr.index 48 (.agg #[.int .i64 18, .int .i64 19, .int .i64 20, .int .i64 21, .int .i64 0, .int .i64 0, .int .i64 0, .int .i64 0]) (.int .i64 0)).run Try.prog w = .ok (.int .i64 18) w := fun _ => by kernel_rfl
    show Calls Try.prog 49 #[.int .i64 0] w fun e w' => e = .returned (.int .i64 18) ∧ Drawn0 w w'
    go_enter Try.func49, Try.ntmps49
    go_wp2_with fail
    go_ret
    exact ⟨rfl, by repeat (first | exact Drawn0.refl _ | exact ⟨_, rfl⟩ | apply Drawn0.step)⟩
  · have hix : ∀ w, (Instr.index 48 (.agg #[.int .i64 18, .int .i64 19, .int .i64 20, .int .i64 21, .int .i64 0, .int .i64 0, .int .i64 0, .int .i64 0]) (.int .i64 1)).run Try.prog w = .ok (.int .i64 19) w := fun _ => by kernel_rfl
    show Calls Try.prog 49 #[.int .i64 1] w fun e w' => e = .returned (.int .i64 19) ∧ Drawn0 w w'
    go_enter Try.func49, Try.ntmps49
    go_wp2_with fail
    go_ret
    exact ⟨rfl, by repeat (first | exact Drawn0.refl _ | exact ⟨_, rfl⟩ | apply Drawn0.step)⟩
  · have hix : ∀ w, (Instr.index 48 (.agg #[.int .i64 18, .int .i64 19, .int .i64 20, .int .i64 21, .int .i64 0, .int .i64 0, .int .i64 0, .int .i64 0]) (.int .i64 2)).run Try.prog w = .ok (.int .i64 20) w := fun _ => by kernel_rfl
    show Calls Try.prog 49 #[.int .i64 2] w fun e w' => e = .returned (.int .i64 20) ∧ Drawn0 w w'
    go_enter Try.func49, Try.ntmps49
    go_wp2_with fail
    go_ret
    exact ⟨rfl, by repeat (first | exact Drawn0.refl _ | exact ⟨_, rfl⟩ | apply Drawn0.step)⟩
  · have hix : ∀ w, (Instr.index 48 (.agg #[.int .i64 18, .int .i64 19, .int .i64 20, .int .i64 21, .int .i64 0, .int .i64 0, .int .i64 0, .int .i64 0]) (.int .i64 3)).run Try.prog w = .ok (.int .i64 21) w := fun _ => by kernel_rfl
    show Calls Try.prog 49 #[.int .i64 3] w fun e w' => e = .returned (.int .i64 21) ∧ Drawn0 w w'
    go_enter Try.func49, Try.ntmps49
    go_wp2_with fail
    go_ret
    exact ⟨rfl, by repeat (first | exact Drawn0.refl _ | exact ⟨_, rfl⟩ | apply Drawn0.step)⟩
  · have hix : ∀ w, (Instr.index 48 (.agg #[.int .i64 18, .int .i64 19, .int .i64 20, .int .i64 21, .int .i64 0, .int .i64 0, .int .i64 0, .int .i64 0]) (.int .i64 4)).run Try.prog w = .ok (.int .i64 0) w := fun _ => by kernel_rfl
    show Calls Try.prog 49 #[.int .i64 4] w fun e w' => e = .returned (.int .i64 0) ∧ Drawn0 w w'
    go_enter Try.func49, Try.ntmps49
    go_wp2_with fail
    go_ret
    exact ⟨rfl, by repeat (first | exact Drawn0.refl _ | exact ⟨_, rfl⟩ | apply Drawn0.step)⟩
  · have hix : ∀ w, (Instr.index 48 (.agg #[.int .i64 18, .int .i64 19, .int .i64 20, .int .i64 21, .int .i64 0, .int .i64 0, .int .i64 0, .int .i64 0]) (.int .i64 5)).run Try.prog w = .ok (.int .i64 0) w := fun _ => by kernel_rfl
    show Calls Try.prog 49 #[.int .i64 5] w fun e w' => e = .returned (.int .i64 0) ∧ Drawn0 w w'
    go_enter Try.func49, Try.ntmps49
    go_wp2_with fail
    go_ret
    exact ⟨rfl, by repeat (first | exact Drawn0.refl _ | exact ⟨_, rfl⟩ | apply Drawn0.step)⟩
  · have hix : ∀ w, (Instr.index 48 (.agg #[.int .i64 18, .int .i64 19, .int .i64 20, .int .i64 21, .int .i64 0, .int .i64 0, .int .i64 0, .int .i64 0]) (.int .i64 6)).run Try.prog w = .ok (.int .i64 0) w := fun _ => by kernel_rfl
    show Calls Try.prog 49 #[.int .i64 6] w fun e w' => e = .returned (.int .i64 0) ∧ Drawn0 w w'
    go_enter Try.func49, Try.ntmps49
    go_wp2_with fail
    go_ret
    exact ⟨rfl, by repeat (first | exact Drawn0.refl _ | exact ⟨_, rfl⟩ | apply Drawn0.step)⟩
  · have hix : ∀ w, (Instr.index 48 (.agg #[.int .i64 18, .int .i64 19, .int .i64 20, .int .i64 21, .int .i64 0, .int .i64 0, .int .i64 0, .int .i64 0]) (.int .i64 7)).run Try.prog w = .ok (.int .i64 0) w := fun _ => by kernel_rfl
    show Calls Try.prog 49 #[.int .i64 7] w fun e w' => e = .returned (.int .i64 0) ∧ Drawn0 w w'
    go_enter Try.func49, Try.ntmps49
    go_wp2_with fail
    go_ret
    exact ⟨rfl, by repeat (first | exact Drawn0.refl _ | exact ⟨_, rfl⟩ | apply Drawn0.step)⟩
theorem plainImm_any (f : Nat) (hf : f < 8) (w : World) : Calls Try.prog 59 #[.int .i64 (f : Int)] w fun e w' => e = .returned (.int .i64 (piT f)) ∧ Drawn0 w w' := by
  have hq : f = 0 ∨ f = 1 ∨ f = 2 ∨ f = 3 ∨ f = 4 ∨ f = 5 ∨ f = 6 ∨ f = 7 := by omega
  rcases hq with rfl | rfl | rfl | rfl | rfl | rfl | rfl | rfl
  · have hix : ∀ w, (Instr.index 48 (.agg #[.int .i64 22, .int .i64 0, .int .i64 23, .int .i64 24, .int .i64 25, .int .i64 0, .int .i64 26, .int .i64 27]) (.int .i64 0)).run Try.prog w = .ok (.int .i64 22) w := fun _ => by kernel_rfl
    show Calls Try.prog 59 #[.int .i64 0] w fun e w' => e = .returned (.int .i64 22) ∧ Drawn0 w w'
    go_enter Try.func59, Try.ntmps59
    go_wp2_with fail
    go_ret
    exact ⟨rfl, by repeat (first | exact Drawn0.refl _ | exact ⟨_, rfl⟩ | apply Drawn0.step)⟩
  · have hix : ∀ w, (Instr.index 48 (.agg #[.int .i64 22, .int .i64 0, .int .i64 23, .int .i64 24, .int .i64 25, .int .i64 0, .int .i64 26, .int .i64 27]) (.int .i64 1)).run Try.prog w = .ok (.int .i64 0) w := fun _ => by kernel_rfl
    show Calls Try.prog 59 #[.int .i64 1] w fun e w' => e = .returned (.int .i64 0) ∧ Drawn0 w w'
    go_enter Try.func59, Try.ntmps59
    go_wp2_with fail
    go_ret
    exact ⟨rfl, by repeat (first | exact Drawn0.refl _ | exact ⟨_, rfl⟩ | apply Drawn0.step)⟩
  · have hix : ∀ w, (Instr.index 48 (.agg #[.int .i64 22, .int .i64 0, .int .i64 23, .int .i64 24, .int .i64 25, .int .i64 0, .int .i64 26, .int .i64 27]) (.int .i64 2)).run Try.prog w = .ok (.int .i64 23) w := fun _ => by kernel_rfl
    show Calls Try.prog 59 #[.int .i64 2] w fun e w' => e = .returned (.int .i64 23) ∧ Drawn0 w w'
    go_enter Try.func59, Try.ntmps59
    go_wp2_with fail
    go_ret
    exact ⟨rfl, by repeat (first | exact Drawn0.refl _ | exact ⟨_, rfl⟩ | apply Drawn0.step)⟩
  · have hix : ∀ w, (Instr.index 48 (.agg #[.int .i64 22, .int .i64 0, .int .i64 23, .int .i64 24, .int .i64 25, .int .i64 0, .int .i64 26, .int .i64 27]) (.int .i64 3)).run Try.prog w = .ok (.int .i64 24) w := fun _ => by kernel_rfl
    show Calls Try.prog 59 #[.int .i64 3] w fun e w' => e = .returned (.int .i64 24) ∧ Drawn0 w w'
    go_enter Try.func59, Try.ntmps59
    go_wp2_with fail
    go_ret
    exact ⟨rfl, by repeat (first | exact Drawn0.refl _ | exact ⟨_, rfl⟩ | apply Drawn0.step)⟩
  · have hix : ∀ w, (Instr.index 48 (.agg #[.int .i64 22, .int .i64 0, .int .i64 23, .int .i64 24, .int .i64 25, .int .i64 0, .int .i64 26, .int .i64 27]) (.int .i64 4)).run Try.prog w = .ok (.int .i64 25) w := fun _ => by kernel_rfl
    show Calls Try.prog 59 #[.int .i64 4] w fun e w' => e = .returned (.int .i64 25) ∧ Drawn0 w w'
    go_enter Try.func59, Try.ntmps59
    go_wp2_with fail
    go_ret
    exact ⟨rfl, by repeat (first | exact Drawn0.refl _ | exact ⟨_, rfl⟩ | apply Drawn0.step)⟩
  · have hix : ∀ w, (Instr.index 48 (.agg #[.int .i64 22, .int .i64 0, .int .i64 23, .int .i64 24, .int .i64 25, .int .i64 0, .int .i64 26, .int .i64 27]) (.int .i64 5)).run Try.prog w = .ok (.int .i64 0) w := fun _ => by kernel_rfl
    show Calls Try.prog 59 #[.int .i64 5] w fun e w' => e = .returned (.int .i64 0) ∧ Drawn0 w w'
    go_enter Try.func59, Try.ntmps59
    go_wp2_with fail
    go_ret
    exact ⟨rfl, by repeat (first | exact Drawn0.refl _ | exact ⟨_, rfl⟩ | apply Drawn0.step)⟩
  · have hix : ∀ w, (Instr.index 48 (.agg #[.int .i64 22, .int .i64 0, .int .i64 23, .int .i64 24, .int .i64 25, .int .i64 0, .int .i64 26, .int .i64 27]) (.int .i64 6)).run Try.prog w = .ok (.int .i64 26) w := fun _ => by kernel_rfl
    show Calls Try.prog 59 #[.int .i64 6] w fun e w' => e = .returned (.int .i64 26) ∧ Drawn0 w w'
    go_enter Try.func59, Try.ntmps59
    go_wp2_with fail
    go_ret
    exact ⟨rfl, by repeat (first | exact Drawn0.refl _ | exact ⟨_, rfl⟩ | apply Drawn0.step)⟩
  · have hix : ∀ w, (Instr.index 48 (.agg #[.int .i64 22, .int .i64 0, .int .i64 23, .int .i64 24, .int .i64 25, .int .i64 0, .int .i64 26, .int .i64 27]) (.int .i64 7)).run Try.prog w = .ok (.int .i64 27) w := fun _ => by kernel_rfl
    show Calls Try.prog 59 #[.int .i64 7] w fun e w' => e = .returned (.int .i64 27) ∧ Drawn0 w w'
    go_enter Try.func59, Try.ntmps59
    go_wp2_with fail
    go_ret
    exact ⟨rfl, by repeat (first | exact Drawn0.refl _ | exact ⟨_, rfl⟩ | apply Drawn0.step)⟩
theorem plainReg_any (f : Nat) (hf : f < 8) (w : World) : Calls Try.prog 66 #[.int .i64 (f : Int)] w fun e w' => e = .returned (.int .i64 (prT f)) ∧ Drawn0 w w' := by
  have hq : f = 0 ∨ f = 1 ∨ f = 2 ∨ f = 3 ∨ f = 4 ∨ f = 5 ∨ f = 6 ∨ f = 7 := by omega
  rcases hq with rfl | rfl | rfl | rfl | rfl | rfl | rfl | rfl
  · have hix : ∀ w, (Instr.index 48 (.agg #[.int .i64 31, .int .i64 33, .int .i64 34, .int .i64 35, .int .i64 36, .int .i64 37, .int .i64 39, .int .i64 40]) (.int .i64 0)).run Try.prog w = .ok (.int .i64 31) w := fun _ => by kernel_rfl
    show Calls Try.prog 66 #[.int .i64 0] w fun e w' => e = .returned (.int .i64 31) ∧ Drawn0 w w'
    go_enter Try.func66, Try.ntmps66
    go_wp2_with fail
    go_ret
    exact ⟨rfl, by repeat (first | exact Drawn0.refl _ | exact ⟨_, rfl⟩ | apply Drawn0.step)⟩
  · have hix : ∀ w, (Instr.index 48 (.agg #[.int .i64 31, .int .i64 33, .int .i64 34, .int .i64 35, .int .i64 36, .int .i64 37, .int .i64 39, .int .i64 40]) (.int .i64 1)).run Try.prog w = .ok (.int .i64 33) w := fun _ => by kernel_rfl
    show Calls Try.prog 66 #[.int .i64 1] w fun e w' => e = .returned (.int .i64 33) ∧ Drawn0 w w'
    go_enter Try.func66, Try.ntmps66
    go_wp2_with fail
    go_ret
    exact ⟨rfl, by repeat (first | exact Drawn0.refl _ | exact ⟨_, rfl⟩ | apply Drawn0.step)⟩
  · have hix : ∀ w, (Instr.index 48 (.agg #[.int .i64 31, .int .i64 33, .int .i64 34, .int .i64 35, .int .i64 36, .int .i64 37, .int .i64 39, .int .i64 40]) (.int .i64 2)).run Try.prog w = .ok (.int .i64 34) w := fun _ => by kernel_rfl
    show Calls Try.prog 66 #[.int .i64 2] w fun e w' => e = .returned (.int .i64 34) ∧ Drawn0 w w'
    go_enter Try.func66, Try.ntmps66
    go_wp2_with fail
    go_ret
    exact ⟨rfl, by repeat (first | exact Drawn0.refl _ | exact ⟨_, rfl⟩ | apply Drawn0.step)⟩
  · have hix : ∀ w, (Instr.index 48 (.agg #[.int .i64 31, .int .i64 33, .int .i64 34, .int .i64 35, .int .i64 36, .int .i64 37, .int .i64 39, .int .i64 40]) (.int .i64 3)).run Try.prog w = .ok (.int .i64 35) w := fun _ => by kernel_rfl
    show Calls Try.prog 66 #[.int .i64 3] w fun e w' => e = .returned (.int .i64 35) ∧ Drawn0 w w'
    go_enter Try.func66, Try.ntmps66
    go_wp2_with fail
    go_ret
    exact ⟨rfl, by repeat (first | exact Drawn0.refl _ | exact ⟨_, rfl⟩ | apply Drawn0.step)⟩
  · have hix : ∀ w, (Instr.index 48 (.agg #[.int .i64 31, .int .i64 33, .int .i64 34, .int .i64 35, .int .i64 36, .int .i64 37, .int .i64 39, .int .i64 40]) (.int .i64 4)).run Try.prog w = .ok (.int .i64 36) w := fun _ => by kernel_rfl
    show Calls Try.prog 66 #[.int .i64 4] w fun e w' => e = .returned (.int .i64 36) ∧ Drawn0 w w'
    go_enter Try.func66, Try.ntmps66
    go_wp2_with fail
    go_ret
    exact ⟨rfl, by repeat (first | exact Drawn0.refl _ | exact ⟨_, rfl⟩ | apply Drawn0.step)⟩
  · have hix : ∀ w, (Instr.index 48 (.agg #[.int .i64 31, .int .i64 33, .int .i64 34, .int .i64 35, .int .i64 36, .int .i64 37, .int .i64 39, .int .i64 40]) (.int .i64 5)).run Try.prog w = .ok (.int .i64 37) w := fun _ => by kernel_rfl
    show Calls Try.prog 66 #[.int .i64 5] w fun e w' => e = .returned (.int .i64 37) ∧ Drawn0 w w'
    go_enter Try.func66, Try.ntmps66
    go_wp2_with fail
    go_ret
    exact ⟨rfl, by repeat (first | exact Drawn0.refl _ | exact ⟨_, rfl⟩ | apply Drawn0.step)⟩
  · have hix : ∀ w, (Instr.index 48 (.agg #[.int .i64 31, .int .i64 33, .int .i64 34, .int .i64 35, .int .i64 36, .int .i64 37, .int .i64 39, .int .i64 40]) (.int .i64 6)).run Try.prog w = .ok (.int .i64 39) w := fun _ => by kernel_rfl
    show Calls Try.prog 66 #[.int .i64 6] w fun e w' => e = .returned (.int .i64 39) ∧ Drawn0 w w'
    go_enter Try.func66, Try.ntmps66
    go_wp2_with fail
    go_ret
    exact ⟨rfl, by repeat (first | exact Drawn0.refl _ | exact ⟨_, rfl⟩ | apply Drawn0.step)⟩
  · have hix : ∀ w, (Instr.index 48 (.agg #[.int .i64 31, .int .i64 33, .int .i64 34, .int .i64 35, .int .i64 36, .int .i64 37, .int .i64 39, .int .i64 40]) (.int .i64 7)).run Try.prog w = .ok (.int .i64 40) w := fun _ => by kernel_rfl
    show Calls Try.prog 66 #[.int .i64 7] w fun e w' => e = .returned (.int .i64 40) ∧ Drawn0 w w'
    go_enter Try.func66, Try.ntmps66
    go_wp2_with fail
    go_ret
    exact ⟨rfl, by repeat (first | exact Drawn0.refl _ | exact ⟨_, rfl⟩ | apply Drawn0.step)⟩
theorem mulReg_any (f : Nat) (hf : f < 8) (w : World) : Calls Try.prog 67 #[.int .i64 (f : Int)] w fun e w' => e = .returned (.int .i64 (mrT f)) ∧ Drawn0 w w' := by
  have hq : f = 0 ∨ f = 1 ∨ f = 2 ∨ f = 3 ∨ f = 4 ∨ f = 5 ∨ f = 6 ∨ f = 7 := by omega
  rcases hq with rfl | rfl | rfl | rfl | rfl | rfl | rfl | rfl
  · have hix : ∀ w, (Instr.index 48 (.agg #[.int .i64 50, .int .i64 51, .int .i64 52, .int .i64 53, .int .i64 54, .int .i64 55, .int .i64 56, .int .i64 57]) (.int .i64 0)).run Try.prog w = .ok (.int .i64 50) w := fun _ => by kernel_rfl
    show Calls Try.prog 67 #[.int .i64 0] w fun e w' => e = .returned (.int .i64 50) ∧ Drawn0 w w'
    go_enter Try.func67, Try.ntmps67
    go_wp2_with fail
    go_ret
    exact ⟨rfl, by repeat (first | exact Drawn0.refl _ | exact ⟨_, rfl⟩ | apply Drawn0.step)⟩
  · have hix : ∀ w, (Instr.index 48 (.agg #[.int .i64 50, .int .i64 51, .int .i64 52, .int .i64 53, .int .i64 54, .int .i64 55, .int .i64 56, .int .i64 57]) (.int .i64 1)).run Try.prog w = .ok (.int .i64 51) w := fun _ => by kernel_rfl
    show Calls Try.prog 67 #[.int .i64 1] w fun e w' => e = .returned (.int .i64 51) ∧ Drawn0 w w'
    go_enter Try.func67, Try.ntmps67
    go_wp2_with fail
    go_ret
    exact ⟨rfl, by repeat (first | exact Drawn0.refl _ | exact ⟨_, rfl⟩ | apply Drawn0.step)⟩
  · have hix : ∀ w, (Instr.index 48 (.agg #[.int .i64 50, .int .i64 51, .int .i64 52, .int .i64 53, .int .i64 54, .int .i64 55, .int .i64 56, .int .i64 57]) (.int .i64 2)).run Try.prog w = .ok (.int .i64 52) w := fun _ => by kernel_rfl
    show Calls Try.prog 67 #[.int .i64 2] w fun e w' => e = .returned (.int .i64 52) ∧ Drawn0 w w'
    go_enter Try.func67, Try.ntmps67
    go_wp2_with fail
    go_ret
    exact ⟨rfl, by repeat (first | exact Drawn0.refl _ | exact ⟨_, rfl⟩ | apply Drawn0.step)⟩
  · have hix : ∀ w, (Instr.index 48 (.agg #[.int .i64 50, .int .i64 51, .int .i64 52, .int .i64 53, .int .i64 54, .int .i64 55, .int .i64 56, .int .i64 57]) (.int .i64 3)).run Try.prog w = .ok (.int .i64 53) w := fun _ => by kernel_rfl
    show Calls Try.prog 67 #[.int .i64 3] w fun e w' => e = .returned (.int .i64 53) ∧ Drawn0 w w'
    go_enter Try.func67, Try.ntmps67
    go_wp2_with fail
    go_ret
    exact ⟨rfl, by repeat (first | exact Drawn0.refl _ | exact ⟨_, rfl⟩ | apply Drawn0.step)⟩
  · have hix : ∀ w, (Instr.index 48 (.agg #[.int .i64 50, .int .i64 51, .int .i64 52, .int .i64 53, .int .i64 54, .int .i64 55, .int .i64 56, .int .i64 57]) (.int .i64 4)).run Try.prog w = .ok (.int .i64 54) w := fun _ => by kernel_rfl
    show Calls Try.prog 67 #[.int .i64 4] w fun e w' => e = .returned (.int .i64 54) ∧ Drawn0 w w'
    go_enter Try.func67, Try.ntmps67
    go_wp2_with fail
    go_ret
    exact ⟨rfl, by repeat (first | exact Drawn0.refl _ | exact ⟨_, rfl⟩ | apply Drawn0.step)⟩
  · have hix : ∀ w, (Instr.index 48 (.agg #[.int .i64 50, .int .i64 51, .int .i64 52, .int .i64 53, .int .i64 54, .int .i64 55, .int .i64 56, .int .i64 57]) (.int .i64 5)).run Try.prog w = .ok (.int .i64 55) w := fun _ => by kernel_rfl
    show Calls Try.prog 67 #[.int .i64 5] w fun e w' => e = .returned (.int .i64 55) ∧ Drawn0 w w'
    go_enter Try.func67, Try.ntmps67
    go_wp2_with fail
    go_ret
    exact ⟨rfl, by repeat (first | exact Drawn0.refl _ | exact ⟨_, rfl⟩ | apply Drawn0.step)⟩
  · have hix : ∀ w, (Instr.index 48 (.agg #[.int .i64 50, .int .i64 51, .int .i64 52, .int .i64 53, .int .i64 54, .int .i64 55, .int .i64 56, .int .i64 57]) (.int .i64 6)).run Try.prog w = .ok (.int .i64 56) w := fun _ => by kernel_rfl
    show Calls Try.prog 67 #[.int .i64 6] w fun e w' => e = .returned (.int .i64 56) ∧ Drawn0 w w'
    go_enter Try.func67, Try.ntmps67
    go_wp2_with fail
    go_ret
    exact ⟨rfl, by repeat (first | exact Drawn0.refl _ | exact ⟨_, rfl⟩ | apply Drawn0.step)⟩
  · have hix : ∀ w, (Instr.index 48 (.agg #[.int .i64 50, .int .i64 51, .int .i64 52, .int .i64 53, .int .i64 54, .int .i64 55, .int .i64 56, .int .i64 57]) (.int .i64 7)).run Try.prog w = .ok (.int .i64 57) w := fun _ => by kernel_rfl
    show Calls Try.prog 67 #[.int .i64 7] w fun e w' => e = .returned (.int .i64 57) ∧ Drawn0 w w'
    go_enter Try.func67, Try.ntmps67
    go_wp2_with fail
    go_ret
    exact ⟨rfl, by repeat (first | exact Drawn0.refl _ | exact ⟨_, rfl⟩ | apply Drawn0.step)⟩
set_option maxHeartbeats 1000000 in
theorem regOp_any (s f : Nat) (hf : f < 8) (w : World) : Calls Try.prog 51 #[.int .i64 (s : Int), .int .i64 (f : Int)] w fun e w' => e = .returned (.int .i64 (regT s f)) ∧ Drawn0 w w' := by
  have HP := Lib.hid (plainReg_any f hf)
  have HM := Lib.hid (mulReg_any f hf)
  unfold regT
  generalize prT f = p at *
  generalize mrT f = q at *
  by_cases c0 : s = 0
  · subst c0
    rw [if_pos rfl]
    generalize (f : Int) = y at *
    show Calls Try.prog 51 #[.int .i64 0, .int .i64 y] w _
    go_enter Try.func51, Try.ntmps51
    go_wp2_with (first | (go_at_call 66; (with_reducible refine (HP.out _).mono ?_); rintro e w' ⟨rfl, ⟨m, rfl⟩⟩) | (go_at_call 67; (with_reducible refine (HM.out _).mono ?_); rintro e w' ⟨rfl, ⟨m, rfl⟩⟩))
    go_ret
    exact ⟨rfl, by repeat (first | exact Drawn0.refl _ | exact ⟨_, rfl⟩ | apply Drawn0.step)⟩
  rw [if_neg c0]
  by_cases c1 : s = 1
  · subst c1
    rw [if_pos rfl]
    generalize (f : Int) = y at *
    show Calls Try.prog 51 #[.int .i64 1, .int .i64 y] w _
    go_enter Try.func51, Try.ntmps51
    go_wp2_with (first | (go_at_call 66; (with_reducible refine (HP.out _).mono ?_); rintro e w' ⟨rfl, ⟨m, rfl⟩⟩) | (go_at_call 67; (with_reducible refine (HM.out _).mono ?_); rintro e w' ⟨rfl, ⟨m, rfl⟩⟩))
    go_ret
    exact ⟨rfl, by repeat (first | exact Drawn0.refl _ | exact ⟨_, rfl⟩ | apply Drawn0.step)⟩
  rw [if_neg c1]
  by_cases c2 : s = 32
  · subst c2
    show Calls Try.prog 51 #[.int .i64 32, .int .i64 (f : Int)] w _
    by_cases d0 : f = 0
    · subst d0
      rw [if_pos ⟨rfl, rfl⟩]
      show Calls Try.prog 51 #[.int .i64 32, .int .i64 0] w _
      clear HP HM
      go_enter Try.func51, Try.ntmps51
      go_wp2_with fail
      go_ret
      exact ⟨rfl, by repeat (first | exact Drawn0.refl _ | exact ⟨_, rfl⟩ | apply Drawn0.step)⟩
    rw [if_neg (by omega)]
    by_cases d5 : f = 5
    · subst d5
      rw [if_pos ⟨rfl, rfl⟩]
      show Calls Try.prog 51 #[.int .i64 32, .int .i64 5] w _
      clear HP HM
      go_enter Try.func51, Try.ntmps51
      go_wp2_with fail
      go_ret
      exact ⟨rfl, by repeat (first | exact Drawn0.refl _ | exact ⟨_, rfl⟩ | apply Drawn0.step)⟩
    rw [if_neg (by omega)]
    have t0 : ((f : Int) == 0) = false := beq_eq_false_iff_ne.2 (by omega)
    have t5 : ((f : Int) == 5) = false := beq_eq_false_iff_ne.2 (by omega)
    clear HP HM hf d0 d5 c0 c1
    generalize (f : Int) = y at *
    go_enter Try.func51, Try.ntmps51
    go_wp2_with fail
    go_ret
    exact ⟨rfl, by repeat (first | exact Drawn0.refl _ | exact ⟨_, rfl⟩ | apply Drawn0.step)⟩
  rw [if_neg (by omega), if_neg (by omega)]
  have t0 : ((s : Int) == 0) = false := beq_eq_false_iff_ne.2 (by omega)
  have t1 : ((s : Int) == 1) = false := beq_eq_false_iff_ne.2 (by omega)
  have t2 : ((s : Int) == 32) = false := beq_eq_false_iff_ne.2 (by omega)
  clear HP HM hf c0 c1 c2
  generalize (f : Int) = y at *
  generalize (s : Int) = x at *
  go_enter Try.func51, Try.ntmps51
  go_wp2_with fail
  go_ret
  exact ⟨rfl, by repeat (first | exact Drawn0.refl _ | exact ⟨_, rfl⟩ | apply Drawn0.step)⟩
set_option maxHeartbeats 1000000 in
theorem reg32Op_any (s f : Nat) (hf : f < 8) (w : World) : Calls Try.prog 52 #[.int .i64 (s : Int), .int .i64 (f : Int)] w fun e w' => e = .returned (.int .i64 (r32T s f)) ∧ Drawn0 w w' := by
  have hq : f = 0 ∨ f = 1 ∨ f = 2 ∨ f = 3 ∨ f = 4 ∨ f = 5 ∨ f = 6 ∨ f = 7 := by omega
  by_cases c0 : s = 0
  · subst c0
    rcases hq with rfl | rfl | rfl | rfl | rfl | rfl | rfl | rfl
    · have hix : ∀ w, (Instr.index 48 (.agg #[.int .i64 45, .int .i64 47, .int .i64 0, .int .i64 0, .int .i64 0, .int .i64 48, .int .i64 0, .int .i64 0]) (.int .i64 0)).run Try.prog w = .ok (.int .i64 45) w := fun _ => by kernel_rfl
      show Calls Try.prog 52 #[.int .i64 0, .int .i64 0] w fun e w' => e = .returned (.int .i64 45) ∧ Drawn0 w w'
      go_enter Try.func52, Try.ntmps52
      go_wp2_with fail
      go_ret
      exact ⟨rfl, by repeat (first | exact Drawn0.refl _ | exact ⟨_, rfl⟩ | apply Drawn0.step)⟩
    · have hix : ∀ w, (Instr.index 48 (.agg #[.int .i64 45, .int .i64 47, .int .i64 0, .int .i64 0, .int .i64 0, .int .i64 48, .int .i64 0, .int .i64 0]) (.int .i64 1)).run Try.prog w = .ok (.int .i64 47) w := fun _ => by kernel_rfl
      show Calls Try.prog 52 #[.int .i64 0, .int .i64 1] w fun e w' => e = .returned (.int .i64 47) ∧ Drawn0 w w'
      go_enter Try.func52, Try.ntmps52
      go_wp2_with fail
      go_ret
      exact ⟨rfl, by repeat (first | exact Drawn0.refl _ | exact ⟨_, rfl⟩ | apply Drawn0.step)⟩
    · have hix : ∀ w, (Instr.index 48 (.agg #[.int .i64 45, .int .i64 47, .int .i64 0, .int .i64 0, .int .i64 0, .int .i64 48, .int .i64 0, .int .i64 0]) (.int .i64 2)).run Try.prog w = .ok (.int .i64 0) w := fun _ => by kernel_rfl
      show Calls Try.prog 52 #[.int .i64 0, .int .i64 2] w fun e w' => e = .returned (.int .i64 0) ∧ Drawn0 w w'
      go_enter Try.func52, Try.ntmps52
      go_wp2_with fail
      go_ret
      exact ⟨rfl, by repeat (first | exact Drawn0.refl _ | exact ⟨_, rfl⟩ | apply Drawn0.step)⟩
    · have hix : ∀ w, (Instr.index 48 (.agg #[.int .i64 45, .int .i64 47, .int .i64 0, .int .i64 0, .int .i64 0, .int .i64 48, .int .i64 0, .int .i64 0]) (.int .i64 3)).run Try.prog w = .ok (.int .i64 0) w := fun _ => by kernel_rfl
      show Calls Try.prog 52 #[.int .i64 0, .int .i64 3] w fun e w' => e = .returned (.int .i64 0) ∧ Drawn0 w w'
      go_enter Try.func52, Try.ntmps52
      go_wp2_with fail
      go_ret
      exact ⟨rfl, by repeat (first | exact Drawn0.refl _ | exact ⟨_, rfl⟩ | apply Drawn0.step)⟩
    · have hix : ∀ w, (Instr.index 48 (.agg #[.int .i64 45, .int .i64 47, .int .i64 0, .int .i64 0, .int .i64 0, .int .i64 48, .int .i64 0, .int .i64 0]) (.int .i64 4)).run Try.prog w = .ok (.int .i64 0) w := fun _ => by kernel_rfl
      show Calls Try.prog 52 #[.int .i64 0, .int .i64 4] w fun e w' => e = .returned (.int .i64 0) ∧ Drawn0 w w'
      go_enter Try.func52, Try.ntmps52
      go_wp2_with fail
      go_ret
      exact ⟨rfl, by repeat (first | exact Drawn0.refl _ | exact ⟨_, rfl⟩ | apply Drawn0.step)⟩
    · have hix : ∀ w, (Instr.index 48 (.agg #[.int .i64 45, .int .i64 47, .int .i64 0, .int .i64 0, .int .i64 0, .int .i64 48, .int .i64 0, .int .i64 0]) (.int .i64 5)).run Try.prog w = .ok (.int .i64 48) w := fun _ => by kernel_rfl
      show Calls Try.prog 52 #[.int .i64 0, .int .i64 5] w fun e w' => e = .returned (.int .i64 48) ∧ Drawn0 w w'
      go_enter Try.func52, Try.ntmps52
      go_wp2_with fail
      go_ret
      exact ⟨rfl, by repeat (first | exact Drawn0.refl _ | exact ⟨_, rfl⟩ | apply Drawn0.step)⟩
    · have hix : ∀ w, (Instr.index 48 (.agg #[.int .i64 45, .int .i64 47, .int .i64 0, .int .i64 0, .int .i64 0, .int .i64 48, .int .i64 0, .int .i64 0]) (.int .i64 6)).run Try.prog w = .ok (.int .i64 0) w := fun _ => by kernel_rfl
      show Calls Try.prog 52 #[.int .i64 0, .int .i64 6] w fun e w' => e = .returned (.int .i64 0) ∧ Drawn0 w w'
      go_enter Try.func52, Try.ntmps52
      go_wp2_with fail
      go_ret
      exact ⟨rfl, by repeat (first | exact Drawn0.refl _ | exact ⟨_, rfl⟩ | apply Drawn0.step)⟩
    · have hix : ∀ w, (Instr.index 48 (.agg #[.int .i64 45, .int .i64 47, .int .i64 0, .int .i64 0, .int .i64 0, .int .i64 48, .int .i64 0, .int .i64 0]) (.int .i64 7)).run Try.prog w = .ok (.int .i64 0) w := fun _ => by kernel_rfl
      show Calls Try.prog 52 #[.int .i64 0, .int .i64 7] w fun e w' => e = .returned (.int .i64 0) ∧ Drawn0 w w'
      go_enter Try.func52, Try.ntmps52
      go_wp2_with fail
      go_ret
      exact ⟨rfl, by repeat (first | exact Drawn0.refl _ | exact ⟨_, rfl⟩ | apply Drawn0.step)⟩
  by_cases c32 : s = 32
  · subst c32
    rcases hq with rfl | rfl | rfl | rfl | rfl | rfl | rfl | rfl
    · have hix : ∀ w, (Instr.index 48 (.agg #[.int .i64 46, .int .i64 0, .int .i64 0, .int .i64 0, .int .i64 0, .int .i64 49, .int .i64 0, .int .i64 0]) (.int .i64 0)).run Try.prog w = .ok (.int .i64 46) w := fun _ => by kernel_rfl
      show Calls Try.prog 52 #[.int .i64 32, .int .i64 0] w fun e w' => e = .returned (.int .i64 46) ∧ Drawn0 w w'
      go_enter Try.func52, Try.ntmps52
      go_wp2_with fail
      go_ret
      exact ⟨rfl, by repeat (first | exact Drawn0.refl _ | exact ⟨_, rfl⟩ | apply Drawn0.step)⟩
    · have hix : ∀ w, (Instr.index 48 (.agg #[.int .i64 46, .int .i64 0, .int .i64 0, .int .i64 0, .int .i64 0, .int .i64 49, .int .i64 0, .int .i64 0]) (.int .i64 1)).run Try.prog w = .ok (.int .i64 0) w := fun _ => by kernel_rfl
      show Calls Try.prog 52 #[.int .i64 32, .int .i64 1] w fun e w' => e = .returned (.int .i64 0) ∧ Drawn0 w w'
      go_enter Try.func52, Try.ntmps52
      go_wp2_with fail
      go_ret
      exact ⟨rfl, by repeat (first | exact Drawn0.refl _ | exact ⟨_, rfl⟩ | apply Drawn0.step)⟩
    · have hix : ∀ w, (Instr.index 48 (.agg #[.int .i64 46, .int .i64 0, .int .i64 0, .int .i64 0, .int .i64 0, .int .i64 49, .int .i64 0, .int .i64 0]) (.int .i64 2)).run Try.prog w = .ok (.int .i64 0) w := fun _ => by kernel_rfl
      show Calls Try.prog 52 #[.int .i64 32, .int .i64 2] w fun e w' => e = .returned (.int .i64 0) ∧ Drawn0 w w'
      go_enter Try.func52, Try.ntmps52
      go_wp2_with fail
      go_ret
      exact ⟨rfl, by repeat (first | exact Drawn0.refl _ | exact ⟨_, rfl⟩ | apply Drawn0.step)⟩
    · have hix : ∀ w, (Instr.index 48 (.agg #[.int .i64 46, .int .i64 0, .int .i64 0, .int .i64 0, .int .i64 0, .int .i64 49, .int .i64 0, .int .i64 0]) (.int .i64 3)).run Try.prog w = .ok (.int .i64 0) w := fun _ => by kernel_rfl
      show Calls Try.prog 52 #[.int .i64 32, .int .i64 3] w fun e w' => e = .returned (.int .i64 0) ∧ Drawn0 w w'
      go_enter Try.func52, Try.ntmps52
      go_wp2_with fail
      go_ret
      exact ⟨rfl, by repeat (first | exact Drawn0.refl _ | exact ⟨_, rfl⟩ | apply Drawn0.step)⟩
    · have hix : ∀ w, (Instr.index 48 (.agg #[.int .i64 46, .int .i64 0, .int .i64 0, .int .i64 0, .int .i64 0, .int .i64 49, .int .i64 0, .int .i64 0]) (.int .i64 4)).run Try.prog w = .ok (.int .i64 0) w := fun _ => by kernel_rfl
      show Calls Try.prog 52 #[.int .i64 32, .int .i64 4] w fun e w' => e = .returned (.int .i64 0) ∧ Drawn0 w w'
      go_enter Try.func52, Try.ntmps52
      go_wp2_with fail
      go_ret
      exact ⟨rfl, by repeat (first | exact Drawn0.refl _ | exact ⟨_, rfl⟩ | apply Drawn0.step)⟩
    · have hix : ∀ w, (Instr.index 48 (.agg #[.int .i64 46, .int .i64 0, .int .i64 0, .int .i64 0, .int .i64 0, .int .i64 49, .int .i64 0, .int .i64 0]) (.int .i64 5)).run Try.prog w = .ok (.int .i64 49) w := fun _ => by kernel_rfl
      show Calls Try.prog 52 #[.int .i64 32, .int .i64 5] w fun e w' => e = .returned (.int .i64 49) ∧ Drawn0 w w'
      go_enter Try.func52, Try.ntmps52
      go_wp2_with fail
      go_ret
      exact ⟨rfl, by repeat (first | exact Drawn0.refl _ | exact ⟨_, rfl⟩ | apply Drawn0.step)⟩
    · have hix : ∀ w, (Instr.index 48 (.agg #[.int .i64 46, .int .i64 0, .int .i64 0, .int .i64 0, .int .i64 0, .int .i64 49, .int .i64 0, .int .i64 0]) (.int .i64 6)).run Try.prog w = .ok (.int .i64 0) w := fun _ => by kernel_rfl
      show Calls Try.prog 52 #[.int .i64 32, .int .i64 6] w fun e w' => e = .returned (.int .i64 0) ∧ Drawn0 w w'
      go_enter Try.func52, Try.ntmps52
      go_wp2_with fail
      go_ret
      exact ⟨rfl, by repeat (first | exact Drawn0.refl _ | exact ⟨_, rfl⟩ | apply Drawn0.step)⟩
    · have hix : ∀ w, (Instr.index 48 (.agg #[.int .i64 46, .int .i64 0, .int .i64 0, .int .i64 0, .int .i64 0, .int .i64 49, .int .i64 0, .int .i64 0]) (.int .i64 7)).run Try.prog w = .ok (.int .i64 0) w := fun _ => by kernel_rfl
      show Calls Try.prog 52 #[.int .i64 32, .int .i64 7] w fun e w' => e = .returned (.int .i64 0) ∧ Drawn0 w w'
      go_enter Try.func52, Try.ntmps52
      go_wp2_with fail
      go_ret
      exact ⟨rfl, by repeat (first | exact Drawn0.refl _ | exact ⟨_, rfl⟩ | apply Drawn0.step)⟩
  by_cases c1 : s = 1
  · subst c1
    rcases hq with rfl | rfl | rfl | rfl | rfl | rfl | rfl | rfl
    · have hix : ∀ w, (Instr.index 48 (.agg #[.int .i64 58, .int .i64 0, .int .i64 0, .int .i64 0, .int .i64 59, .int .i64 60, .int .i64 61, .int .i64 62]) (.int .i64 0)).run Try.prog w = .ok (.int .i64 58) w := fun _ => by kernel_rfl
      show Calls Try.prog 52 #[.int .i64 1, .int .i64 0] w fun e w' => e = .returned (.int .i64 58) ∧ Drawn0 w w'
      go_enter Try.func52, Try.ntmps52
      go_wp2_with fail
      go_ret
      exact ⟨rfl, by repeat (first | exact Drawn0.refl _ | exact ⟨_, rfl⟩ | apply Drawn0.step)⟩
    · have hix : ∀ w, (Instr.index 48 (.agg #[.int .i64 58, .int .i64 0, .int .i64 0, .int .i64 0, .int .i64 59, .int .i64 60, .int .i64 61, .int .i64 62]) (.int .i64 1)).run Try.prog w = .ok (.int .i64 0) w := fun _ => by kernel_rfl
      show Calls Try.prog 52 #[.int .i64 1, .int .i64 1] w fun e w' => e = .returned (.int .i64 0) ∧ Drawn0 w w'
      go_enter Try.func52, Try.ntmps52
      go_wp2_with fail
      go_ret
      exact ⟨rfl, by repeat (first | exact Drawn0.refl _ | exact ⟨_, rfl⟩ | apply Drawn0.step)⟩
    · have hix : ∀ w, (Instr.index 48 (.agg #[.int .i64 58, .int .i64 0, .int .i64 0, .int .i64 0, .int .i64 59, .int .i64 60, .int .i64 61, .int .i64 62]) (.int .i64 2)).run Try.prog w = .ok (.int .i64 0) w := fun _ => by kernel_rfl
      show Calls Try.prog 52 #[.int .i64 1, .int .i64 2] w fun e w' => e = .returned (.int .i64 0) ∧ Drawn0 w w'
      go_enter Try.func52, Try.ntmps52
      go_wp2_with fail
      go_ret
      exact ⟨rfl, by repeat (first | exact Drawn0.refl _ | exact ⟨_, rfl⟩ | apply Drawn0.step)⟩
    · have hix : ∀ w, (Instr.index 48 (.agg #[.int .i64 58, .int .i64 0, .int .i64 0, .int .i64 0, .int .i64 59, .int .i64 60, .int .i64 61, .int .i64 62]) (.int .i64 3)).run Try.prog w = .ok (.int .i64 0) w := fun _ => by kernel_rfl
      show Calls Try.prog 52 #[.int .i64 1, .int .i64 3] w fun e w' => e = .returned (.int .i64 0) ∧ Drawn0 w w'
      go_enter Try.func52, Try.ntmps52
      go_wp2_with fail
      go_ret
      exact ⟨rfl, by repeat (first | exact Drawn0.refl _ | exact ⟨_, rfl⟩ | apply Drawn0.step)⟩
    · have hix : ∀ w, (Instr.index 48 (.agg #[.int .i64 58, .int .i64 0, .int .i64 0, .int .i64 0, .int .i64 59, .int .i64 60, .int .i64 61, .int .i64 62]) (.int .i64 4)).run Try.prog w = .ok (.int .i64 59) w := fun _ => by kernel_rfl
      show Calls Try.prog 52 #[.int .i64 1, .int .i64 4] w fun e w' => e = .returned (.int .i64 59) ∧ Drawn0 w w'
      go_enter Try.func52, Try.ntmps52
      go_wp2_with fail
      go_ret
      exact ⟨rfl, by repeat (first | exact Drawn0.refl _ | exact ⟨_, rfl⟩ | apply Drawn0.step)⟩
    · have hix : ∀ w, (Instr.index 48 (.agg #[.int .i64 58, .int .i64 0, .int .i64 0, .int .i64 0, .int .i64 59, .int .i64 60, .int .i64 61, .int .i64 62]) (.int .i64 5)).run Try.prog w = .ok (.int .i64 60) w := fun _ => by kernel_rfl
      show Calls Try.prog 52 #[.int .i64 1, .int .i64 5] w fun e w' => e = .returned (.int .i64 60) ∧ Drawn0 w w'
      go_enter Try.func52, Try.ntmps52
      go_wp2_with fail
      go_ret
      exact ⟨rfl, by repeat (first | exact Drawn0.refl _ | exact ⟨_, rfl⟩ | apply Drawn0.step)⟩
    · have hix : ∀ w, (Instr.index 48 (.agg #[.int .i64 58, .int .i64 0, .int .i64 0, .int .i64 0, .int .i64 59, .int .i64 60, .int .i64 61, .int .i64 62]) (.int .i64 6)).run Try.prog w = .ok (.int .i64 61) w := fun _ => by kernel_rfl
      show Calls Try.prog 52 #[.int .i64 1, .int .i64 6] w fun e w' => e = .returned (.int .i64 61) ∧ Drawn0 w w'
      go_enter Try.func52, Try.ntmps52
      go_wp2_with fail
      go_ret
      exact ⟨rfl, by repeat (first | exact Drawn0.refl _ | exact ⟨_, rfl⟩ | apply Drawn0.step)⟩
    · have hix : ∀ w, (Instr.index 48 (.agg #[.int .i64 58, .int .i64 0, .int .i64 0, .int .i64 0, .int .i64 59, .int .i64 60, .int .i64 61, .int .i64 62]) (.int .i64 7)).run Try.prog w = .ok (.int .i64 62) w := fun _ => by kernel_rfl
      show Calls Try.prog 52 #[.int .i64 1, .int .i64 7] w fun e w' => e = .returned (.int .i64 62) ∧ Drawn0 w w'
      go_enter Try.func52, Try.ntmps52
      go_wp2_with fail
      go_ret
      exact ⟨rfl, by repeat (first | exact Drawn0.refl _ | exact ⟨_, rfl⟩ | apply Drawn0.step)⟩
  unfold r32T
  rw [if_neg c0, if_neg c32, if_neg c1]
  have t0 : ((s : Int) == 0) = false := beq_eq_false_iff_ne.2 (by omega)
  have t32 : ((s : Int) == 32) = false := beq_eq_false_iff_ne.2 (by omega)
  have t1 : ((s : Int) == 1) = false := beq_eq_false_iff_ne.2 (by omega)
  clear hq hf c0 c32 c1
  generalize (f : Int) = y at *
  generalize (s : Int) = x at *
  go_enter Try.func52, Try.ntmps52
  go_wp2_with fail
  go_ret
  exact ⟨rfl, by repeat (first | exact Drawn0.refl _ | exact ⟨_, rfl⟩ | apply Drawn0.step)⟩
set_option maxHeartbeats 1000000 in
theorem withImm_jalr (w : Nat) (hw : w < 4294967296) (W : World) (ck : fld w 0 7 = 103) (cf : fld w 12 3 = 0) : Calls Try.prog 55 #[.int .u32 (w : Int)] W fun e w' => e = .returned (i7 (withImmP w)) ∧ Fr (fun _ => False) W w' := by
  have hf8 : fld w 12 3 < 8 := fld_lt w 12 3
  have HK := Lib.hid (show ∀ W, Calls Try.prog 44 #[.int .u32 (w : Int), .int .i64 0, .int .i64 7] W fun e w' => e = .returned (.int .i64 103) ∧ Drawn0 W w' from fun W => by have g := field_any w 0 7 hw (by decide) (by decide) W; rw [ck] at g; exact g)
  have HF := Lib.hid (show ∀ W, Calls Try.prog 44 #[.int .u32 (w : Int), .int .i64 12, .int .i64 3] W fun e w' => e = .returned (.int .i64 0) ∧ Drawn0 W w' from fun W => by have g := field_any w 12 3 hw (by decide) (by decide) W; rw [cf] at g; exact g)
  have HI := Lib.hid (iImm_any w hw)
  have HL := Lib.hid (loads_any (fld w 12 3) hf8)
  have HPI := Lib.hid (plainImm_any (fld w 12 3) hf8)
  have hP : withImmP w = (4, 0, 0, 0, iP w, 0, 0) := by unfold withImmP; rw [if_pos ck, if_pos cf]
  rw [hP]
  clear hP ck cf hf8
  generalize iP w = n at *
  generalize fld w 12 3 = f at *
  generalize (f : Int) = y at *
  go_enter Try.func55, Try.ntmps55
  go_wp2_with (first | (go_at_call 44; (with_reducible refine (HF.out _).mono ?_); rintro e w' ⟨rfl, ⟨m, rfl⟩⟩) | (go_at_call 44; (with_reducible refine (HK.out _).mono ?_); rintro e w' ⟨rfl, ⟨m, rfl⟩⟩) | (go_at_call 68; (with_reducible refine (HI.out _).mono ?_); rintro e w' ⟨rfl, ⟨m, rfl⟩⟩) | (go_at_call 58; (with_reducible refine (HL.out _).mono ?_); rintro e w' ⟨rfl, ⟨m, rfl⟩⟩) | (go_at_call 59; (with_reducible refine (HPI.out _).mono ?_); rintro e w' ⟨rfl, ⟨m, rfl⟩⟩))
  refine bodyPost_ret (results_cell_row rfl _ _ W.heap.size 25 #[.int .i64 (4), .int .i64 (0), .int .i64 (0), .int .i64 (0), .int .i64 (n), .int .i64 (0), .int .i64 (0)] (0, 0) _ rfl ?_ Try.underlying25 rfl (by kernel_rfl)) rfl ?_
  · exact blk7 (by repeat (first | (with_reducible exact Blk.new _ _ _) | (with_reducible apply Blk.drewN) | (with_reducible apply Blk.drew) | (with_reducible apply Blk.alloc))) _ _ _ _ _ _ _
  · exact ⟨rfl, by (repeat (first | (with_reducible exact Fr.refl _ _) | (with_reducible apply Fr.drewN) | (with_reducible apply Fr.alloc) | (with_reducible apply Fr.drew) | (with_reducible refine Fr.setCell ?_ (Or.inr (by simp)) _)))⟩
set_option maxHeartbeats 1000000 in
theorem withImm_jalrx (w : Nat) (hw : w < 4294967296) (W : World) (ck : fld w 0 7 = 103) (cf : fld w 12 3 ≠ 0) : Calls Try.prog 55 #[.int .u32 (w : Int)] W fun e w' => e = .returned (i7 (withImmP w)) ∧ Fr (fun _ => False) W w' := by
  have hf8 : fld w 12 3 < 8 := fld_lt w 12 3
  have HK := Lib.hid (show ∀ W, Calls Try.prog 44 #[.int .u32 (w : Int), .int .i64 0, .int .i64 7] W fun e w' => e = .returned (.int .i64 103) ∧ Drawn0 W w' from fun W => by have g := field_any w 0 7 hw (by decide) (by decide) W; rw [ck] at g; exact g)
  have HF := Lib.hid (show ∀ W, Calls Try.prog 44 #[.int .u32 (w : Int), .int .i64 12, .int .i64 3] W fun e w' => e = .returned (.int .i64 ((fld w 12 3 : Nat) : Int)) ∧ Drawn0 W w' from field_any w 12 3 hw (by decide) (by decide))
  have HI := Lib.hid (iImm_any w hw)
  have HL := Lib.hid (loads_any (fld w 12 3) hf8)
  have HPI := Lib.hid (plainImm_any (fld w 12 3) hf8)
  have hP : withImmP w = i0 := by unfold withImmP; rw [if_pos ck, if_neg cf]
  rw [hP]
  have t0 : (((fld w 12 3 : Nat) : Int) == 0) = false := beq_eq_false_iff_ne.2 (by omega)
  clear hP ck cf HI HL HPI hf8
  generalize fld w 12 3 = f at *
  generalize (f : Int) = y at *
  go_enter Try.func55, Try.ntmps55
  go_wp2_with (first | (go_at_call 44; (with_reducible refine (HF.out _).mono ?_); rintro e w' ⟨rfl, ⟨m, rfl⟩⟩) | (go_at_call 44; (with_reducible refine (HK.out _).mono ?_); rintro e w' ⟨rfl, ⟨m, rfl⟩⟩))
  refine bodyPost_ret (results_cell_row rfl _ _ W.heap.size 25 #[.int .i64 (0), .int .i64 (0), .int .i64 (0), .int .i64 (0), .int .i64 (0), .int .i64 (0), .int .i64 (0)] (0, 0) _ rfl ?_ Try.underlying25 rfl (by kernel_rfl)) rfl ?_
  · exact blk7 (by repeat (first | (with_reducible exact Blk.new _ _ _) | (with_reducible apply Blk.drewN) | (with_reducible apply Blk.drew) | (with_reducible apply Blk.alloc))) _ _ _ _ _ _ _
  · exact ⟨rfl, by (repeat (first | (with_reducible exact Fr.refl _ _) | (with_reducible apply Fr.drewN) | (with_reducible apply Fr.alloc) | (with_reducible apply Fr.drew) | (with_reducible refine Fr.setCell ?_ (Or.inr (by simp)) _)))⟩
set_option maxHeartbeats 1000000 in
theorem withImm_load (w : Nat) (hw : w < 4294967296) (W : World) (ck : fld w 0 7 = 3) : Calls Try.prog 55 #[.int .u32 (w : Int)] W fun e w' => e = .returned (i7 (withImmP w)) ∧ Fr (fun _ => False) W w' := by
  have hf8 : fld w 12 3 < 8 := fld_lt w 12 3
  have HK := Lib.hid (show ∀ W, Calls Try.prog 44 #[.int .u32 (w : Int), .int .i64 0, .int .i64 7] W fun e w' => e = .returned (.int .i64 3) ∧ Drawn0 W w' from fun W => by have g := field_any w 0 7 hw (by decide) (by decide) W; rw [ck] at g; exact g)
  have HF := Lib.hid (show ∀ W, Calls Try.prog 44 #[.int .u32 (w : Int), .int .i64 12, .int .i64 3] W fun e w' => e = .returned (.int .i64 ((fld w 12 3 : Nat) : Int)) ∧ Drawn0 W w' from field_any w 12 3 hw (by decide) (by decide))
  have HI := Lib.hid (iImm_any w hw)
  have HL := Lib.hid (loads_any (fld w 12 3) hf8)
  have HPI := Lib.hid (plainImm_any (fld w 12 3) hf8)
  have hP : withImmP w = (ldT (fld w 12 3), 0, 0, 0, iP w, 0, 0) := by unfold withImmP; rw [if_neg (by omega), if_pos ck]
  rw [hP]
  clear hP ck  hf8
  generalize iP w = n at *
  generalize ldT (fld w 12 3) = p at *
  generalize fld w 12 3 = f at *
  generalize (f : Int) = y at *
  go_enter Try.func55, Try.ntmps55
  go_wp2_with (first | (go_at_call 44; (with_reducible refine (HF.out _).mono ?_); rintro e w' ⟨rfl, ⟨m, rfl⟩⟩) | (go_at_call 44; (with_reducible refine (HK.out _).mono ?_); rintro e w' ⟨rfl, ⟨m, rfl⟩⟩) | (go_at_call 68; (with_reducible refine (HI.out _).mono ?_); rintro e w' ⟨rfl, ⟨m, rfl⟩⟩) | (go_at_call 58; (with_reducible refine (HL.out _).mono ?_); rintro e w' ⟨rfl, ⟨m, rfl⟩⟩) | (go_at_call 59; (with_reducible refine (HPI.out _).mono ?_); rintro e w' ⟨rfl, ⟨m, rfl⟩⟩))
  refine bodyPost_ret (results_cell_row rfl _ _ W.heap.size 25 #[.int .i64 (p), .int .i64 (0), .int .i64 (0), .int .i64 (0), .int .i64 (n), .int .i64 (0), .int .i64 (0)] (0, 0) _ rfl ?_ Try.underlying25 rfl (by kernel_rfl)) rfl ?_
  · exact blk7 (by repeat (first | (with_reducible exact Blk.new _ _ _) | (with_reducible apply Blk.drewN) | (with_reducible apply Blk.drew) | (with_reducible apply Blk.alloc))) _ _ _ _ _ _ _
  · exact ⟨rfl, by (repeat (first | (with_reducible exact Fr.refl _ _) | (with_reducible apply Fr.drewN) | (with_reducible apply Fr.alloc) | (with_reducible apply Fr.drew) | (with_reducible refine Fr.setCell ?_ (Or.inr (by simp)) _)))⟩
set_option maxHeartbeats 1000000 in
theorem withImm_imm1 (w : Nat) (hw : w < 4294967296) (W : World) (ck : fld w 0 7 = 19) (cf : fld w 12 3 = 1) : Calls Try.prog 55 #[.int .u32 (w : Int)] W fun e w' => e = .returned (i7 (withImmP w)) ∧ Fr (fun _ => False) W w' := by
  have hf8 : fld w 12 3 < 8 := fld_lt w 12 3
  have HK := Lib.hid (show ∀ W, Calls Try.prog 44 #[.int .u32 (w : Int), .int .i64 0, .int .i64 7] W fun e w' => e = .returned (.int .i64 19) ∧ Drawn0 W w' from fun W => by have g := field_any w 0 7 hw (by decide) (by decide) W; rw [ck] at g; exact g)
  have HF := Lib.hid (show ∀ W, Calls Try.prog 44 #[.int .u32 (w : Int), .int .i64 12, .int .i64 3] W fun e w' => e = .returned (.int .i64 1) ∧ Drawn0 W w' from fun W => by have g := field_any w 12 3 hw (by decide) (by decide) W; rw [cf] at g; exact g)
  have HI := Lib.hid (iImm_any w hw)
  have HL := Lib.hid (loads_any (fld w 12 3) hf8)
  have HPI := Lib.hid (plainImm_any (fld w 12 3) hf8)
  have hP : withImmP w = shiftP w 28 29 30 6 := by unfold withImmP; rw [if_neg (by omega), if_neg (by omega), if_pos ck, if_pos (Or.inl cf)]
  rw [hP]
  have HC0 := shift6_any w hw 28 29 30
  clear hP ck cf HI HL HPI hf8
  generalize shiftP w 28 29 30 6 = i at *
  obtain ⟨x0, x1, x2, x3, x4, x5, x6⟩ := i
  generalize fld w 12 3 = f at *
  generalize (f : Int) = y at *
  have HC := Lib.hid (show ∀ W, Calls Try.prog 69 #[.int .u32 (w : Int), .int .i64 28, .int .i64 29, .int .i64 30, .int .i64 6] W fun e w' => e = .returned (.agg #[.int .i64 x0, .int .i64 x1, .int .i64 x2, .int .i64 x3, .int .i64 x4, .int .i64 x5, .int .i64 x6]) ∧ Fr (fun _ => False) W w' from HC0)
  clear HC0
  go_enter Try.func55, Try.ntmps55
  go_wp2_with (first | (go_at_call 44; (with_reducible refine (HF.out _).mono ?_); rintro e w' ⟨rfl, ⟨m, rfl⟩⟩) | (go_at_call 44; (with_reducible refine (HK.out _).mono ?_); rintro e w' ⟨rfl, ⟨m, rfl⟩⟩))
  refine (HC.out _).mono ?_
  rintro e w' ⟨rfl, hf⟩
  have hb0 : Blk w' W.heap.size 25 #[.int .i64 0, .int .i64 0, .int .i64 0, .int .i64 0, .int .i64 0, .int .i64 0, .int .i64 0] := Blk.fr (by repeat (first | (with_reducible exact Blk.new _ _ _) | (with_reducible apply Blk.drewN) | (with_reducible apply Blk.drew) | (with_reducible apply Blk.alloc))) hf id
  have hfr : Fr (fun _ => False) W w' := Fr.trans (by (repeat (first | (with_reducible exact Fr.refl _ _) | (with_reducible apply Fr.drewN) | (with_reducible apply Fr.alloc) | (with_reducible apply Fr.drew) | (with_reducible refine Fr.setCell ?_ (Or.inr (by simp)) _)))) hf (fun _ _ h => h)
  have k0 := hb0.cell 0
  have f0 := hb0.frozen 0
  have k1 := hb0.cell 1
  have f1 := hb0.frozen 1
  have k2 := hb0.cell 2
  have f2 := hb0.frozen 2
  have k3 := hb0.cell 3
  have f3 := hb0.frozen 3
  have k4 := hb0.cell 4
  have f4 := hb0.frozen 4
  have k5 := hb0.cell 5
  have f5 := hb0.frozen 5
  have k6 := hb0.cell 6
  have f6 := hb0.frozen 6
  simp at k0 k1 k2 k3 k4 k5 k6
  have HB0 := Lib.hid hb0
  have HFR := Lib.hid hfr
  clear hb0 hfr hf
  have hne : ¬ w'.heap.size = W.heap.size := by have := HB0.out.lt; omega
  go_wp2_with fail
  refine bodyPost_ret (results_cell_row rfl _ _ W.heap.size 25 #[.int .i64 x0, .int .i64 x1, .int .i64 x2, .int .i64 x3, .int .i64 x4, .int .i64 x5, .int .i64 x6] (0, 0) _ rfl ?_ Try.underlying25 rfl (by kernel_rfl)) rfl ?_
  · exact blk7 HB0.out _ _ _ _ _ _ _
  · exact ⟨rfl, by (repeat (first | (with_reducible exact HFR.out) | (with_reducible refine Fr.setCell ?_ (Or.inr (by simp)) _)))⟩
set_option maxHeartbeats 1000000 in
theorem withImm_imm5 (w : Nat) (hw : w < 4294967296) (W : World) (ck : fld w 0 7 = 19) (cf : fld w 12 3 = 5) : Calls Try.prog 55 #[.int .u32 (w : Int)] W fun e w' => e = .returned (i7 (withImmP w)) ∧ Fr (fun _ => False) W w' := by
  have hf8 : fld w 12 3 < 8 := fld_lt w 12 3
  have HK := Lib.hid (show ∀ W, Calls Try.prog 44 #[.int .u32 (w : Int), .int .i64 0, .int .i64 7] W fun e w' => e = .returned (.int .i64 19) ∧ Drawn0 W w' from fun W => by have g := field_any w 0 7 hw (by decide) (by decide) W; rw [ck] at g; exact g)
  have HF := Lib.hid (show ∀ W, Calls Try.prog 44 #[.int .u32 (w : Int), .int .i64 12, .int .i64 3] W fun e w' => e = .returned (.int .i64 5) ∧ Drawn0 W w' from fun W => by have g := field_any w 12 3 hw (by decide) (by decide) W; rw [cf] at g; exact g)
  have HI := Lib.hid (iImm_any w hw)
  have HL := Lib.hid (loads_any (fld w 12 3) hf8)
  have HPI := Lib.hid (plainImm_any (fld w 12 3) hf8)
  have hP : withImmP w = shiftP w 28 29 30 6 := by unfold withImmP; rw [if_neg (by omega), if_neg (by omega), if_pos ck, if_pos (Or.inr cf)]
  rw [hP]
  have HC0 := shift6_any w hw 28 29 30
  clear hP ck cf HI HL HPI hf8
  generalize shiftP w 28 29 30 6 = i at *
  obtain ⟨x0, x1, x2, x3, x4, x5, x6⟩ := i
  generalize fld w 12 3 = f at *
  generalize (f : Int) = y at *
  have HC := Lib.hid (show ∀ W, Calls Try.prog 69 #[.int .u32 (w : Int), .int .i64 28, .int .i64 29, .int .i64 30, .int .i64 6] W fun e w' => e = .returned (.agg #[.int .i64 x0, .int .i64 x1, .int .i64 x2, .int .i64 x3, .int .i64 x4, .int .i64 x5, .int .i64 x6]) ∧ Fr (fun _ => False) W w' from HC0)
  clear HC0
  go_enter Try.func55, Try.ntmps55
  go_wp2_with (first | (go_at_call 44; (with_reducible refine (HF.out _).mono ?_); rintro e w' ⟨rfl, ⟨m, rfl⟩⟩) | (go_at_call 44; (with_reducible refine (HK.out _).mono ?_); rintro e w' ⟨rfl, ⟨m, rfl⟩⟩))
  refine (HC.out _).mono ?_
  rintro e w' ⟨rfl, hf⟩
  have hb0 : Blk w' W.heap.size 25 #[.int .i64 0, .int .i64 0, .int .i64 0, .int .i64 0, .int .i64 0, .int .i64 0, .int .i64 0] := Blk.fr (by repeat (first | (with_reducible exact Blk.new _ _ _) | (with_reducible apply Blk.drewN) | (with_reducible apply Blk.drew) | (with_reducible apply Blk.alloc))) hf id
  have hfr : Fr (fun _ => False) W w' := Fr.trans (by (repeat (first | (with_reducible exact Fr.refl _ _) | (with_reducible apply Fr.drewN) | (with_reducible apply Fr.alloc) | (with_reducible apply Fr.drew) | (with_reducible refine Fr.setCell ?_ (Or.inr (by simp)) _)))) hf (fun _ _ h => h)
  have k0 := hb0.cell 0
  have f0 := hb0.frozen 0
  have k1 := hb0.cell 1
  have f1 := hb0.frozen 1
  have k2 := hb0.cell 2
  have f2 := hb0.frozen 2
  have k3 := hb0.cell 3
  have f3 := hb0.frozen 3
  have k4 := hb0.cell 4
  have f4 := hb0.frozen 4
  have k5 := hb0.cell 5
  have f5 := hb0.frozen 5
  have k6 := hb0.cell 6
  have f6 := hb0.frozen 6
  simp at k0 k1 k2 k3 k4 k5 k6
  have HB0 := Lib.hid hb0
  have HFR := Lib.hid hfr
  clear hb0 hfr hf
  have hne : ¬ w'.heap.size = W.heap.size := by have := HB0.out.lt; omega
  go_wp2_with fail
  refine bodyPost_ret (results_cell_row rfl _ _ W.heap.size 25 #[.int .i64 x0, .int .i64 x1, .int .i64 x2, .int .i64 x3, .int .i64 x4, .int .i64 x5, .int .i64 x6] (0, 0) _ rfl ?_ Try.underlying25 rfl (by kernel_rfl)) rfl ?_
  · exact blk7 HB0.out _ _ _ _ _ _ _
  · exact ⟨rfl, by (repeat (first | (with_reducible exact HFR.out) | (with_reducible refine Fr.setCell ?_ (Or.inr (by simp)) _)))⟩
set_option maxHeartbeats 1000000 in
theorem withImm_imm (w : Nat) (hw : w < 4294967296) (W : World) (ck : fld w 0 7 = 19) (cf : fld w 12 3 ≠ 1 ∧ fld w 12 3 ≠ 5) : Calls Try.prog 55 #[.int .u32 (w : Int)] W fun e w' => e = .returned (i7 (withImmP w)) ∧ Fr (fun _ => False) W w' := by
  have hf8 : fld w 12 3 < 8 := fld_lt w 12 3
  have HK := Lib.hid (show ∀ W, Calls Try.prog 44 #[.int .u32 (w : Int), .int .i64 0, .int .i64 7] W fun e w' => e = .returned (.int .i64 19) ∧ Drawn0 W w' from fun W => by have g := field_any w 0 7 hw (by decide) (by decide) W; rw [ck] at g; exact g)
  have HF := Lib.hid (show ∀ W, Calls Try.prog 44 #[.int .u32 (w : Int), .int .i64 12, .int .i64 3] W fun e w' => e = .returned (.int .i64 ((fld w 12 3 : Nat) : Int)) ∧ Drawn0 W w' from field_any w 12 3 hw (by decide) (by decide))
  have HI := Lib.hid (iImm_any w hw)
  have HL := Lib.hid (loads_any (fld w 12 3) hf8)
  have HPI := Lib.hid (plainImm_any (fld w 12 3) hf8)
  have hP : withImmP w = (piT (fld w 12 3), 0, 0, 0, iP w, 0, 0) := by unfold withImmP; rw [if_neg (by omega), if_neg (by omega), if_pos ck, if_neg (by omega)]
  rw [hP]
  have t1 : (((fld w 12 3 : Nat) : Int) == 1) = false := beq_eq_false_iff_ne.2 (by omega)
  have t5 : (((fld w 12 3 : Nat) : Int) == 5) = false := beq_eq_false_iff_ne.2 (by omega)
  clear hP ck cf hf8
  generalize iP w = n at *
  generalize piT (fld w 12 3) = p at *
  generalize fld w 12 3 = f at *
  generalize (f : Int) = y at *
  go_enter Try.func55, Try.ntmps55
  go_wp2_with (first | (go_at_call 44; (with_reducible refine (HF.out _).mono ?_); rintro e w' ⟨rfl, ⟨m, rfl⟩⟩) | (go_at_call 44; (with_reducible refine (HK.out _).mono ?_); rintro e w' ⟨rfl, ⟨m, rfl⟩⟩) | (go_at_call 68; (with_reducible refine (HI.out _).mono ?_); rintro e w' ⟨rfl, ⟨m, rfl⟩⟩) | (go_at_call 58; (with_reducible refine (HL.out _).mono ?_); rintro e w' ⟨rfl, ⟨m, rfl⟩⟩) | (go_at_call 59; (with_reducible refine (HPI.out _).mono ?_); rintro e w' ⟨rfl, ⟨m, rfl⟩⟩))
  refine bodyPost_ret (results_cell_row rfl _ _ W.heap.size 25 #[.int .i64 (p), .int .i64 (0), .int .i64 (0), .int .i64 (0), .int .i64 (n), .int .i64 (0), .int .i64 (0)] (0, 0) _ rfl ?_ Try.underlying25 rfl (by kernel_rfl)) rfl ?_
  · exact blk7 (by repeat (first | (with_reducible exact Blk.new _ _ _) | (with_reducible apply Blk.drewN) | (with_reducible apply Blk.drew) | (with_reducible apply Blk.alloc))) _ _ _ _ _ _ _
  · exact ⟨rfl, by (repeat (first | (with_reducible exact Fr.refl _ _) | (with_reducible apply Fr.drewN) | (with_reducible apply Fr.alloc) | (with_reducible apply Fr.drew) | (with_reducible refine Fr.setCell ?_ (Or.inr (by simp)) _)))⟩
set_option maxHeartbeats 1000000 in
theorem withImm_addiw (w : Nat) (hw : w < 4294967296) (W : World) (ck : fld w 0 7 = 27) (cf : fld w 12 3 = 0) : Calls Try.prog 55 #[.int .u32 (w : Int)] W fun e w' => e = .returned (i7 (withImmP w)) ∧ Fr (fun _ => False) W w' := by
  have hf8 : fld w 12 3 < 8 := fld_lt w 12 3
  have HK := Lib.hid (show ∀ W, Calls Try.prog 44 #[.int .u32 (w : Int), .int .i64 0, .int .i64 7] W fun e w' => e = .returned (.int .i64 27) ∧ Drawn0 W w' from fun W => by have g := field_any w 0 7 hw (by decide) (by decide) W; rw [ck] at g; exact g)
  have HF := Lib.hid (show ∀ W, Calls Try.prog 44 #[.int .u32 (w : Int), .int .i64 12, .int .i64 3] W fun e w' => e = .returned (.int .i64 0) ∧ Drawn0 W w' from fun W => by have g := field_any w 12 3 hw (by decide) (by decide) W; rw [cf] at g; exact g)
  have HI := Lib.hid (iImm_any w hw)
  have HL := Lib.hid (loads_any (fld w 12 3) hf8)
  have HPI := Lib.hid (plainImm_any (fld w 12 3) hf8)
  have hP : withImmP w = (41, 0, 0, 0, iP w, 0, 0) := by unfold withImmP; rw [if_neg (by omega), if_neg (by omega), if_neg (by omega), if_pos ck, if_pos cf]
  rw [hP]
  clear hP ck cf hf8
  generalize iP w = n at *
  generalize fld w 12 3 = f at *
  generalize (f : Int) = y at *
  go_enter Try.func55, Try.ntmps55
  go_wp2_with (first | (go_at_call 44; (with_reducible refine (HF.out _).mono ?_); rintro e w' ⟨rfl, ⟨m, rfl⟩⟩) | (go_at_call 44; (with_reducible refine (HK.out _).mono ?_); rintro e w' ⟨rfl, ⟨m, rfl⟩⟩) | (go_at_call 68; (with_reducible refine (HI.out _).mono ?_); rintro e w' ⟨rfl, ⟨m, rfl⟩⟩) | (go_at_call 58; (with_reducible refine (HL.out _).mono ?_); rintro e w' ⟨rfl, ⟨m, rfl⟩⟩) | (go_at_call 59; (with_reducible refine (HPI.out _).mono ?_); rintro e w' ⟨rfl, ⟨m, rfl⟩⟩))
  refine bodyPost_ret (results_cell_row rfl _ _ W.heap.size 25 #[.int .i64 (41), .int .i64 (0), .int .i64 (0), .int .i64 (0), .int .i64 (n), .int .i64 (0), .int .i64 (0)] (0, 0) _ rfl ?_ Try.underlying25 rfl (by kernel_rfl)) rfl ?_
  · exact blk7 (by repeat (first | (with_reducible exact Blk.new _ _ _) | (with_reducible apply Blk.drewN) | (with_reducible apply Blk.drew) | (with_reducible apply Blk.alloc))) _ _ _ _ _ _ _
  · exact ⟨rfl, by (repeat (first | (with_reducible exact Fr.refl _ _) | (with_reducible apply Fr.drewN) | (with_reducible apply Fr.alloc) | (with_reducible apply Fr.drew) | (with_reducible refine Fr.setCell ?_ (Or.inr (by simp)) _)))⟩
set_option maxHeartbeats 1000000 in
theorem withImm_imm32 (w : Nat) (hw : w < 4294967296) (W : World) (ck : fld w 0 7 = 27) (cf : fld w 12 3 ≠ 0) : Calls Try.prog 55 #[.int .u32 (w : Int)] W fun e w' => e = .returned (i7 (withImmP w)) ∧ Fr (fun _ => False) W w' := by
  have hf8 : fld w 12 3 < 8 := fld_lt w 12 3
  have HK := Lib.hid (show ∀ W, Calls Try.prog 44 #[.int .u32 (w : Int), .int .i64 0, .int .i64 7] W fun e w' => e = .returned (.int .i64 27) ∧ Drawn0 W w' from fun W => by have g := field_any w 0 7 hw (by decide) (by decide) W; rw [ck] at g; exact g)
  have HF := Lib.hid (show ∀ W, Calls Try.prog 44 #[.int .u32 (w : Int), .int .i64 12, .int .i64 3] W fun e w' => e = .returned (.int .i64 ((fld w 12 3 : Nat) : Int)) ∧ Drawn0 W w' from field_any w 12 3 hw (by decide) (by decide))
  have HI := Lib.hid (iImm_any w hw)
  have HL := Lib.hid (loads_any (fld w 12 3) hf8)
  have HPI := Lib.hid (plainImm_any (fld w 12 3) hf8)
  have hP : withImmP w = shiftP w 42 43 44 5 := by unfold withImmP; rw [if_neg (by omega), if_neg (by omega), if_neg (by omega), if_pos ck, if_neg cf]
  rw [hP]
  have t0 : (((fld w 12 3 : Nat) : Int) == 0) = false := beq_eq_false_iff_ne.2 (by omega)
  have HC0 := shift5_any w hw 42 43 44
  clear hP ck cf HI HL HPI hf8
  generalize shiftP w 42 43 44 5 = i at *
  obtain ⟨x0, x1, x2, x3, x4, x5, x6⟩ := i
  generalize fld w 12 3 = f at *
  generalize (f : Int) = y at *
  have HC := Lib.hid (show ∀ W, Calls Try.prog 69 #[.int .u32 (w : Int), .int .i64 42, .int .i64 43, .int .i64 44, .int .i64 5] W fun e w' => e = .returned (.agg #[.int .i64 x0, .int .i64 x1, .int .i64 x2, .int .i64 x3, .int .i64 x4, .int .i64 x5, .int .i64 x6]) ∧ Fr (fun _ => False) W w' from HC0)
  clear HC0
  go_enter Try.func55, Try.ntmps55
  go_wp2_with (first | (go_at_call 44; (with_reducible refine (HF.out _).mono ?_); rintro e w' ⟨rfl, ⟨m, rfl⟩⟩) | (go_at_call 44; (with_reducible refine (HK.out _).mono ?_); rintro e w' ⟨rfl, ⟨m, rfl⟩⟩))
  refine (HC.out _).mono ?_
  rintro e w' ⟨rfl, hf⟩
  have hb0 : Blk w' W.heap.size 25 #[.int .i64 0, .int .i64 0, .int .i64 0, .int .i64 0, .int .i64 0, .int .i64 0, .int .i64 0] := Blk.fr (by repeat (first | (with_reducible exact Blk.new _ _ _) | (with_reducible apply Blk.drewN) | (with_reducible apply Blk.drew) | (with_reducible apply Blk.alloc))) hf id
  have hfr : Fr (fun _ => False) W w' := Fr.trans (by (repeat (first | (with_reducible exact Fr.refl _ _) | (with_reducible apply Fr.drewN) | (with_reducible apply Fr.alloc) | (with_reducible apply Fr.drew) | (with_reducible refine Fr.setCell ?_ (Or.inr (by simp)) _)))) hf (fun _ _ h => h)
  have k0 := hb0.cell 0
  have f0 := hb0.frozen 0
  have k1 := hb0.cell 1
  have f1 := hb0.frozen 1
  have k2 := hb0.cell 2
  have f2 := hb0.frozen 2
  have k3 := hb0.cell 3
  have f3 := hb0.frozen 3
  have k4 := hb0.cell 4
  have f4 := hb0.frozen 4
  have k5 := hb0.cell 5
  have f5 := hb0.frozen 5
  have k6 := hb0.cell 6
  have f6 := hb0.frozen 6
  simp at k0 k1 k2 k3 k4 k5 k6
  have HB0 := Lib.hid hb0
  have HFR := Lib.hid hfr
  clear hb0 hfr hf
  have hne : ¬ w'.heap.size = W.heap.size := by have := HB0.out.lt; omega
  go_wp2_with fail
  refine bodyPost_ret (results_cell_row rfl _ _ W.heap.size 25 #[.int .i64 x0, .int .i64 x1, .int .i64 x2, .int .i64 x3, .int .i64 x4, .int .i64 x5, .int .i64 x6] (0, 0) _ rfl ?_ Try.underlying25 rfl (by kernel_rfl)) rfl ?_
  · exact blk7 HB0.out _ _ _ _ _ _ _
  · exact ⟨rfl, by (repeat (first | (with_reducible exact HFR.out) | (with_reducible refine Fr.setCell ?_ (Or.inr (by simp)) _)))⟩
set_option maxHeartbeats 1000000 in
theorem withImm_none (w : Nat) (hw : w < 4294967296) (W : World) (c103 : fld w 0 7 ≠ 103) (c3 : fld w 0 7 ≠ 3) (c19 : fld w 0 7 ≠ 19) (c27 : fld w 0 7 ≠ 27) : Calls Try.prog 55 #[.int .u32 (w : Int)] W fun e w' => e = .returned (i7 (withImmP w)) ∧ Fr (fun _ => False) W w' := by
  have HK := Lib.hid (field_any w 0 7 hw (by decide) (by decide))
  have HF := Lib.hid (field_any w 12 3 hw (by decide) (by decide))
  have hP : withImmP w = i0 := by unfold withImmP; rw [if_neg (by omega), if_neg (by omega), if_neg (by omega), if_neg (by omega)]
  rw [hP]
  have t103 : (((fld w 0 7 : Nat) : Int) == 103) = false := beq_eq_false_iff_ne.2 (by omega)
  have t3 : (((fld w 0 7 : Nat) : Int) == 3) = false := beq_eq_false_iff_ne.2 (by omega)
  have t19 : (((fld w 0 7 : Nat) : Int) == 19) = false := beq_eq_false_iff_ne.2 (by omega)
  have t27 : (((fld w 0 7 : Nat) : Int) == 27) = false := beq_eq_false_iff_ne.2 (by omega)
  clear hP c103 c3 c19 c27
  generalize fld w 12 3 = f at *
  generalize (f : Int) = y at *
  generalize fld w 0 7 = p at *
  generalize (p : Int) = x at *
  have HK := Lib.hid (show ∀ W, Calls Try.prog 44 #[.int .u32 (w : Int), .int .i64 0, .int .i64 7] W fun e w' => e = .returned (.int .i64 x) ∧ Drawn0 W w' from HK.out)
  have HF := Lib.hid (show ∀ W, Calls Try.prog 44 #[.int .u32 (w : Int), .int .i64 12, .int .i64 3] W fun e w' => e = .returned (.int .i64 y) ∧ Drawn0 W w' from HF.out)
  go_enter Try.func55, Try.ntmps55
  go_wp2_with (first | (go_at_call 44; (with_reducible refine (HF.out _).mono ?_); rintro e w' ⟨rfl, ⟨m, rfl⟩⟩) | (go_at_call 44; (with_reducible refine (HK.out _).mono ?_); rintro e w' ⟨rfl, ⟨m, rfl⟩⟩))
  refine bodyPost_ret (results_cell_row rfl _ _ W.heap.size 25 #[.int .i64 (0), .int .i64 (0), .int .i64 (0), .int .i64 (0), .int .i64 (0), .int .i64 (0), .int .i64 (0)] (0, 0) _ rfl ?_ Try.underlying25 rfl (by kernel_rfl)) rfl ?_
  · exact blk7 (by repeat (first | (with_reducible exact Blk.new _ _ _) | (with_reducible apply Blk.drewN) | (with_reducible apply Blk.drew) | (with_reducible apply Blk.alloc))) _ _ _ _ _ _ _
  · exact ⟨rfl, by (repeat (first | (with_reducible exact Fr.refl _ _) | (with_reducible apply Fr.drewN) | (with_reducible apply Fr.alloc) | (with_reducible apply Fr.drew) | (with_reducible refine Fr.setCell ?_ (Or.inr (by simp)) _)))⟩
theorem withImm_any (w : Nat) (hw : w < 4294967296) (W : World) : Calls Try.prog 55 #[.int .u32 (w : Int)] W fun e w' => e = .returned (i7 (withImmP w)) ∧ Fr (fun _ => False) W w' := by
  by_cases c103 : fld w 0 7 = 103
  · by_cases cf : fld w 12 3 = 0
    · exact withImm_jalr w hw W c103 cf
    · exact withImm_jalrx w hw W c103 cf
  by_cases c3 : fld w 0 7 = 3
  · exact withImm_load w hw W c3
  by_cases c19 : fld w 0 7 = 19
  · by_cases cf : fld w 12 3 = 1
    · exact withImm_imm1 w hw W c19 cf
    · by_cases cg : fld w 12 3 = 5
      · exact withImm_imm5 w hw W c19 cg
      · exact withImm_imm w hw W c19 ⟨cf, cg⟩
  by_cases c27 : fld w 0 7 = 27
  · by_cases cf : fld w 12 3 = 0
    · exact withImm_addiw w hw W c27 cf
    · exact withImm_imm32 w hw W c27 cf
  · exact withImm_none w hw W c103 c3 c19 c27
end Go.Proofs.Ytgefhoikpjiamaa.Ins
