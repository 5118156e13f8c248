/- Bit, Quiet and Pending leave the world as it was. -/
import Derived.Test.YtdlcejnkicdjnaaDoorSgO
namespace Go.Proofs.YtdlcejnkicdjnaaDoor.Sg
open Go Go.RowKit Go.Proofs.YtdlcejnkicdjnaaDoorW.PrintWords Go.Proofs.YtdlcejnkicdjnaaDoorW.PrintLast Go.Proofs.YtdlcejnkicdjnaaDoorW.PrintMore
open Go.Proofs.YtdlcejnkicdjnaaDoor.Hp Go.Proofs.YtdlcejnkicdjnaaDoor.Bv
attribute [local go_sem] max2_int min2_int max_two min_two max_three min_three max_four min_four
attribute [local go_sem] wrap_add wrap_sub wrap_mul wrap_neg and_U or_U xor_U andNot_U wrap_U
set_option linter.unusedVariables false
set_option linter.unusedSimpArgs false
theorem bit_same (n : Int) (w : World) : Calls Tryd.prog 13 #[.int .i64 n] w fun e w' => e = .returned (.int .u64 (U (bitZ n))) ∧ w' = w := by
  by_cases h : 1 ≤ n ∧ n ≤ 64
  · obtain ⟨m, rfl⟩ : ∃ m : Nat, n = m + 1 := ⟨(n - 1).toNat, by omega⟩
    rw [bitZ_at m (by omega)]
    have t1 : decide ((m : Int) + 1 < 1) = false := decide_eq_false (by omega)
    have t2 : decide ((64 : Int) < (m : Int) + 1) = false := decide_eq_false (by omega)
    have e1 : wrap64 (m : Int) = m := wrap64_in (by omega) (by omega)
    have t3 : decide ((m : Int) < 0) = false := decide_eq_false (by omega)
    have e2 := shl_U 1#64 m
    rw [show U 1#64 = (1 : Int) from rfl, Int.one_mul] at e2
    have p0 : (0 : Int) ≤ m := by omega
    clear h
    have E := Lib.hid e2
    clear e2
    go_enter Tryd.func13, Tryd.ntmps13
    go_wp2_with fail
    go_ret
    exact ⟨congrArg (fun x => Ending.returned (.int .u64 x)) E.out, rfl⟩
  · rw [bitZ_no h]
    by_cases h1 : n < 1
    · have t1 : decide (n < 1) = true := decide_eq_true h1
      clear h h1
      go_enter Tryd.func13, Tryd.ntmps13
      go_wp2_with fail
      go_ret
      exact ⟨rfl, rfl⟩
    · have t1 : decide (n < 1) = false := decide_eq_false h1
      have t2 : decide ((64 : Int) < n) = true := decide_eq_true (by omega)
      clear h h1
      go_enter Tryd.func13, Tryd.ntmps13
      go_wp2_with fail
      go_ret
      exact ⟨rfl, rfl⟩
theorem quiet_same (n : Int) (w : World) : Calls Tryd.prog 15 #[.int .i64 n] w fun e w' => e = .returned (.bool (quietZ n)) ∧ w' = w := by
  have ht : quietZ n = (decide (17 ≤ n) && decide (n ≤ 23) || (n == 28)) := by
    unfold quietZ
    rw [Bool.decide_and]
    rfl
  rw [ht]
  clear ht
  go_enter Tryd.func15, Tryd.ntmps15
  cases h1 : decide (17 ≤ n) <;> cases h2 : decide (n ≤ 23) <;> cases h3 : (n == 28)
  all_goals
    go_wp2_with fail
    go_ret
    exact ⟨rfl, rfl⟩
theorem pending_same {g : Nat} {A : Nat → Int} {M P x y : BitVec 64} (w : World) (h : St w g A M P x y) : Calls Tryd.prog 16 #[.pointer (some ⟨g, 0, none⟩)] w fun e w' => e = .returned (.int .u64 (U P)) ∧ w' = w := by
  have k1 := h.p
  clear h
  go_enter Tryd.func16, Tryd.ntmps16
  go_wp2_with fail
  go_ret
  exact ⟨rfl, rfl⟩
end Go.Proofs.YtdlcejnkicdjnaaDoor.Sg
