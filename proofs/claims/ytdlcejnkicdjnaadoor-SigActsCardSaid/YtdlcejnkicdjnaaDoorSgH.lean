/- The methods of a signals' state that is none: walked. -/
import Derived.Test.YtdlcejnkicdjnaaDoorSgG
namespace Go.Proofs.YtdlcejnkicdjnaaDoor.Sg
open Go Go.RowKit Go.Proofs.YtdlcejnkicdjnaaDoorW.PrintWords Go.Proofs.YtdlcejnkicdjnaaDoorW.PrintLast Go.Proofs.YtdlcejnkicdjnaaDoorW.PrintMore
open Go.Proofs.YtdlcejnkicdjnaaDoor.Hp Go.Proofs.YtdlcejnkicdjnaaDoor.Bv
attribute [local go_sem] max2_int min2_int max_two min_two max_three min_three max_four min_four
attribute [local go_sem] wrap_add wrap_sub wrap_mul wrap_neg and_U or_U xor_U andNot_U wrap_U
set_option linter.unusedVariables false
set_option linter.unusedSimpArgs false
theorem nil_mask (w : World) : Calls Tryd.prog 10 #[.pointer none] w fun e w' => e = .returned (.int .u64 0) ∧ Fr (fun _ => False) w w' := by
  go_enter Tryd.func10, Tryd.ntmps10
  go_wp2_with fail
  go_ret
  exact ⟨rfl, by (repeat (first | (with_reducible exact Fr.refl _ _) | (with_reducible apply Fr.drewN) | (with_reducible apply Fr.alloc) | (with_reducible apply Fr.drew) | (with_reducible refine Fr.setCell ?_ (Or.inr (by simp)) _)))⟩
theorem nil_pending (w : World) : Calls Tryd.prog 16 #[.pointer none] w fun e w' => e = .returned (.int .u64 0) ∧ Fr (fun _ => False) w w' := by
  go_enter Tryd.func16, Tryd.ntmps16
  go_wp2_with fail
  go_ret
  exact ⟨rfl, by (repeat (first | (with_reducible exact Fr.refl _ _) | (with_reducible apply Fr.drewN) | (with_reducible apply Fr.alloc) | (with_reducible apply Fr.drew) | (with_reducible refine Fr.setCell ?_ (Or.inr (by simp)) _)))⟩
theorem nil_copy (w : World) : Calls Tryd.prog 24 #[.pointer none] w fun e w' => e = .returned (.pointer none) ∧ Fr (fun _ => False) w w' := by
  go_enter Tryd.func24, Tryd.ntmps24
  go_wp2_with fail
  go_ret
  exact ⟨rfl, by (repeat (first | (with_reducible exact Fr.refl _ _) | (with_reducible apply Fr.drewN) | (with_reducible apply Fr.alloc) | (with_reducible apply Fr.drew) | (with_reducible refine Fr.setCell ?_ (Or.inr (by simp)) _)))⟩
theorem nil_setmask (n : Int) (w : World) : Calls Tryd.prog 9 #[.pointer none, .int .u64 n] w fun e w' => e = .returned (.tuple #[]) ∧ Fr (fun _ => False) w w' := by
  go_enter Tryd.func9, Tryd.ntmps9
  go_wp2_with fail
  go_end0
  exact ⟨rfl, by (repeat (first | (with_reducible exact Fr.refl _ _) | (with_reducible apply Fr.drewN) | (with_reducible apply Fr.alloc) | (with_reducible apply Fr.drew) | (with_reducible refine Fr.setCell ?_ (Or.inr (by simp)) _)))⟩
theorem nil_setstack (p q : Int) (w : World) : Calls Tryd.prog 27 #[.pointer none, .agg #[.int .u64 p, .int .u64 q]] w fun e w' => e = .returned (.tuple #[]) ∧ Fr (fun _ => False) w w' := by
  go_enter Tryd.func27, Tryd.ntmps27
  go_wp2_with fail
  go_end0
  exact ⟨rfl, by (repeat (first | (with_reducible exact Fr.refl _ _) | (with_reducible apply Fr.drewN) | (with_reducible apply Fr.alloc) | (with_reducible apply Fr.drew) | (with_reducible refine Fr.setCell ?_ (Or.inr (by simp)) _)))⟩
theorem nil_enter (n : Int) (a0 a1 a2 : Int) (w : World) : Calls Tryd.prog 19 #[.pointer none, .int .i64 n, .agg #[.int .u64 a0, .int .u64 a1, .int .u64 a2]] w fun e w' => e = .returned (.tuple #[]) ∧ Fr (fun _ => False) w w' := by
  go_enter Tryd.func19, Tryd.ntmps19
  go_wp2_with fail
  refine bodyPost_ret (results_none rfl _ _ _) rfl ?_
  exact ⟨rfl, by (repeat (first | (with_reducible exact Fr.refl _ _) | (with_reducible apply Fr.drewN) | (with_reducible apply Fr.alloc) | (with_reducible apply Fr.drew) | (with_reducible refine Fr.setCell ?_ (Or.inr (by simp)) _)))⟩
theorem nil_setaction (n : Int) (a0 a1 a2 : Int) (w : World) : Calls Tryd.prog 17 #[.pointer none, .int .i64 n, .agg #[.int .u64 a0, .int .u64 a1, .int .u64 a2]] w fun e w' => e = .returned (.int .i64 22) ∧ Fr (fun _ => False) w w' := by
  go_enter Tryd.func17, Tryd.ntmps17
  go_wp2_with fail
  go_ret
  exact ⟨rfl, by (repeat (first | (with_reducible exact Fr.refl _ _) | (with_reducible apply Fr.drewN) | (with_reducible apply Fr.alloc) | (with_reducible apply Fr.drew) | (with_reducible refine Fr.setCell ?_ (Or.inr (by simp)) _)))⟩
theorem nil_change (n x : Int) (w : World) : Calls Tryd.prog 18 #[.pointer none, .int .i64 n, .int .u64 x] w fun e w' => e = .returned (.int .i64 22) ∧ Fr (fun _ => False) w w' := by
  go_enter Tryd.func18, Tryd.ntmps18
  go_wp2_with fail
  go_ret
  exact ⟨rfl, by (repeat (first | (with_reducible exact Fr.refl _ _) | (with_reducible apply Fr.drewN) | (with_reducible apply Fr.alloc) | (with_reducible apply Fr.drew) | (with_reducible refine Fr.setCell ?_ (Or.inr (by simp)) _)))⟩
theorem nil_raise (n : Int) (w : World) : Calls Tryd.prog 11 #[.pointer none, .int .i64 n] w fun e w' => e = .returned (.int .i64 22) ∧ Fr (fun _ => False) w w' := by
  go_enter Tryd.func11, Tryd.ntmps11
  go_wp2_with fail
  go_ret
  exact ⟨rfl, by (repeat (first | (with_reducible exact Fr.refl _ _) | (with_reducible apply Fr.drewN) | (with_reducible apply Fr.alloc) | (with_reducible apply Fr.drew) | (with_reducible refine Fr.setCell ?_ (Or.inr (by simp)) _)))⟩
theorem nil_action (n : Int) (w : World) : Calls Tryd.prog 20 #[.pointer none, .int .i64 n] w fun e w' => e = .returned (.tuple #[.agg #[.int .u64 0, .int .u64 0, .int .u64 0], .int .i64 22]) ∧ Fr (fun _ => False) w w' := by
  have HN := Lib.hid (Blk.new w 33 #[.int .u64 0, .int .u64 0, .int .u64 0])
  have HF := Lib.hid ((Fr.refl (fun _ => False) w).alloc (.cells #[.int .u64 0, .int .u64 0, .int .u64 0] 33))
  go_enter Tryd.func20, Tryd.ntmps20
  go_wp2_with fail
  refine bodyPost_ret (results_ct rfl _ _ w.heap.size 33 #[.int .u64 0, .int .u64 0, .int .u64 0] (0, 0) _ rfl ?_ Tryd.underlying33 rfl (by kernel_rfl)) rfl ?_
  · exact HN.out
  exact ⟨rfl, HF.out⟩
theorem nil_take (w : World) : Calls Tryd.prog 12 #[.pointer none] w fun e w' => e = .returned (.tuple #[.int .i64 0, .agg #[.int .u64 0, .int .u64 0, .int .u64 0], .bool false]) ∧ Fr (fun _ => False) w w' := by
  have HN := Lib.hid (Blk.new w 33 #[.int .u64 0, .int .u64 0, .int .u64 0])
  have HF := Lib.hid ((Fr.refl (fun _ => False) w).alloc (.cells #[.int .u64 0, .int .u64 0, .int .u64 0] 33))
  go_enter Tryd.func12, Tryd.ntmps12
  go_wp2_with fail
  refine bodyPost_ret (results_tct rfl _ _ w.heap.size 33 #[.int .u64 0, .int .u64 0, .int .u64 0] (0, 0) _ rfl ?_ Tryd.underlying33 rfl (by kernel_rfl)) rfl ?_
  · exact HN.out
  exact ⟨rfl, HF.out⟩
theorem nil_stack (w : World) : Calls Tryd.prog 29 #[.pointer none] w fun e w' => e = .returned (.agg #[.int .u64 0, .int .u64 0]) ∧ Fr (fun _ => False) w w' := by
  have HN := Lib.hid (Blk.new w 53 #[.int .u64 0, .int .u64 0])
  have HF := Lib.hid ((Fr.refl (fun _ => False) w).alloc (.cells #[.int .u64 0, .int .u64 0] 53))
  go_enter Tryd.func29, Tryd.ntmps29
  go_wp2_with fail
  refine bodyPost_ret (results_single rfl (.cell w.heap.size 53 #[.int .u64 0, .int .u64 0] (0, 0) _ rfl ?_ Tryd.underlying53 rfl (by kernel_rfl) .nil)) rfl ?_
  · exact HN.out
  exact ⟨rfl, HF.out⟩
theorem quiet_any (n : Int) (w : World) : Calls Tryd.prog 15 #[.int .i64 n] w fun e w' => e = .returned (.bool (quietZ n)) ∧ Fr (fun _ => False) w w' := by
  have ht : quietZ n = (decide (17 ≤ n) && decide (n ≤ 23) || (n == 28)) := by
    unfold quietZ
    rw [Bool.decide_and]
    rfl
  rw [ht]
  clear ht
  go_enter Tryd.func15, Tryd.ntmps15
  cases h1 : decide (17 ≤ n) <;> cases h2 : decide (n ≤ 23) <;> cases h3 : (n == 28)
  all_goals
    go_wp2_with fail
    go_ret
    exact ⟨rfl, by (repeat (first | (with_reducible exact Fr.refl _ _) | (with_reducible apply Fr.drewN) | (with_reducible apply Fr.alloc) | (with_reducible apply Fr.drew) | (with_reducible refine Fr.setCell ?_ (Or.inr (by simp)) _)))⟩
end Go.Proofs.YtdlcejnkicdjnaaDoor.Sg
