/- A signals' state: New; whether there is nothing to do at a signal: walked. -/
import Derived.Test.YtdlcejnkicdjnaaDoorSgC
namespace Go.Proofs.YtdlcejnkicdjnaaDoor.Sg
open Go Go.RowKit Go.Proofs.YtdlcejnkicdjnaaDoorW.PrintWords Go.Proofs.YtdlcejnkicdjnaaDoorW.PrintLast Go.Proofs.YtdlcejnkicdjnaaDoorW.PrintMore
open Go.Proofs.YtdlcejnkicdjnaaDoor.Hp Go.Proofs.YtdlcejnkicdjnaaDoor.Bv
attribute [local go_sem] max2_int min2_int max_two min_two max_three min_three max_four min_four
attribute [local go_sem] wrap_add wrap_sub wrap_mul wrap_neg and_U or_U xor_U andNot_U wrap_U
set_option linter.unusedVariables false
set_option linter.unusedSimpArgs false
theorem zero_st (w : World) : Sem.run Tryd.prog (zeroValue 63) w = .ok (.agg (stA (fun _ => 0) 0#64 0#64 0#64 0#64)) w := by kernel_rfl
theorem new_any (w : World) : Calls Tryd.prog 7 #[] w fun e w' => e = .returned (.pointer (some ⟨w.heap.size, 0, none⟩)) ∧ St w' w.heap.size (fun _ => 0) 0#64 0#64 0#64 0#64 ∧ Fr (fun _ => False) w w' := by
  go_enter Tryd.func7, Tryd.ntmps7
  have hz := zero_st w
  go_wp2_with fail
  go_ret
  exact ⟨rfl, Blk.new w 63 (stA (fun _ => 0) 0#64 0#64 0#64 0#64), (Fr.refl _ _).alloc _⟩
/-- Nothing to do at a signal, by its handler. -/
def passZ (h n : Int) : Bool := decide (h = 1) || (decide (h = 0) && quietZ n)
theorem passed_any {g : Nat} {A : Nat → Int} {M P x y : BitVec 64} (m : Nat) (hm : m < 65) (w : World) (h : St w g A M P x y) : Calls Tryd.prog 32 #[.pointer (some ⟨g, 0, none⟩), .int .i64 (m : Int)] w fun e w' => e = .returned (.bool (passZ (A (m * 3)) m)) ∧ Fr (fun _ => False) w w' := by
  have k0 := h.lo (m * 3) (by omega)
  have k1 := h.lo (m * 3 + 1) (by omega)
  have k2 := h.lo (m * 3 + 2) (by omega)
  have HF := Lib.hid ((Fr.refl (fun _ => False) w).alloc (.cells #[.int .u64 (A (m * 3)), .int .u64 (A (m * 3 + 1)), .int .u64 (A (m * 3 + 2))] 33))
  have HD := Lib.hid def_any
  clear h
  generalize A (m * 3) = a0 at *
  generalize A (m * 3 + 1) = a1 at *
  generalize A (m * 3 + 2) = a2 at *
  have t0 : decide ((m : Int) < 65) = true := decide_eq_true (by omega)
  unfold passZ
  go_enter Tryd.func32, Tryd.ntmps32
  by_cases h1 : a0 = 1
  · subst h1
    go_wp2_with fail
    go_ret
    exact ⟨by simp, HF.out⟩
  have e1 : (a0 == 1) = false := beq_eq_false_iff_ne.2 h1
  rw [decide_eq_false h1, Bool.false_or]
  by_cases h0 : a0 = 0
  · subst h0
    clear h1
    go_wp2_with fail
    refine (HD.out _ _).mono ?_
    rintro e w1 ⟨rfl, hf⟩
    have HF := Lib.hid (HF.out.trans hf (fun _ _ => id))
    clear hf
    have ed : (defZ (m : Int) == 2) = quietZ m := by
      unfold defZ
      split
      · rename_i h
        rw [h]
        rfl
      · rename_i h
        have h : quietZ (m : Int) = false := by simpa using h
        rw [h]
        split <;> rfl
    go_wp2_with fail
    go_ret
    exact ⟨by simp, HF.out⟩
  have e0 : (a0 == 0) = false := beq_eq_false_iff_ne.2 h0
  rw [decide_eq_false h0, Bool.false_and]
  clear h0 h1
  go_wp2_with fail
  go_ret
  exact ⟨by simp, HF.out⟩
end Go.Proofs.YtdlcejnkicdjnaaDoor.Sg
