/- A signals' state: Copy, walked. -/
import Derived.Test.YtdlcejnkicdjnaaDoorSgH
import Derived.Laws.Tables
import Derived.Deep.WholeRow
namespace Go.Proofs.YtdlcejnkicdjnaaDoor.Sg
open Go Go.RowKit Go.Proofs.YtdlcejnkicdjnaaDoorW.PrintWords Go.Proofs.YtdlcejnkicdjnaaDoorW.PrintLast Go.Proofs.YtdlcejnkicdjnaaDoorW.PrintMore
open Go.Proofs.YtdlcejnkicdjnaaDoor.Hp Go.Proofs.YtdlcejnkicdjnaaDoor.Bv
attribute [local go_sem] max2_int min2_int max_two min_two max_three min_three max_four min_four
attribute [local go_sem] wrap_add wrap_sub wrap_mul wrap_neg and_U or_U xor_U andNot_U wrap_U
set_option linter.unusedVariables false
set_option linter.unusedSimpArgs false
theorem stA_one (A : Nat → Int) (M P x y : BitVec 64) : (stA A M P x y).all (·.oneCell') = true := by
  rw [Array.all_eq_true_iff_forall_mem]
  intro v hv
  unfold stA tailA at hv
  simp only [List.mem_toArray, List.mem_append, List.mem_map, List.mem_cons, List.not_mem_nil, or_false] at hv
  rcases hv with ⟨i, _, rfl⟩ | rfl | rfl | rfl | rfl <;> rfl
theorem stA_info (A : Nat → Int) (M P x y : BitVec 64) : (Tryd.prog.info? 63).map (·.size) = some (stA A M P x y).size := by rw [stA_size]; kernel_rfl
theorem copy_any {g : Nat} {A : Nat → Int} {M P x y : BitVec 64} (w : World) (h : St w g A M P x y) : Calls Tryd.prog 24 #[.pointer (some ⟨g, 0, none⟩)] w fun e w' => e = .returned (.pointer (some ⟨w.heap.size, 0, none⟩)) ∧ St w' w.heap.size A M P x y ∧ Fr (fun _ => False) w w' := by
  have hz := zero_st w
  have HB := Lib.hid h
  clear h
  go_enter Tryd.func24, Tryd.ntmps24
  go_wp2_with (first
    | (refine gate_ (.load 63 (.tmp 7)) rfl ?_; refine wpList_load_row rfl 63 (.tmp 7) rfl g rfl 63 (stA A M P x y) (0, 0) _ HB.out Tryd.underlying63 rfl (stA_info A M P x y) ?_)
    | (refine gate_ (.store 63 (.tmp 3) (.tmp 8)) rfl ?_; refine wpList_store_row rfl 63 (.tmp 3) (.tmp 8) rfl w.heap.size (stA A M P x y) rfl rfl 63 (stA (fun _ => 0) 0#64 0#64 0#64 0#64) (heap_alloc_new w _) (stA_info A M P x y) (by rw [stA_size, stA_size]) (stA_one A M P x y) ?_; rw [World.setRow_alloc_new]))
  go_ret
  exact ⟨rfl, Blk.new w 63 _, (Fr.refl _ _).alloc _⟩
end Go.Proofs.YtdlcejnkicdjnaaDoor.Sg
