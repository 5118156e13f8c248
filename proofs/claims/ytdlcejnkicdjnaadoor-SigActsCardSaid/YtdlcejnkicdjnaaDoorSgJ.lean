/- A signals' state: SetAction and Action, walked. -/
import Derived.Test.YtdlcejnkicdjnaaDoorSgI
namespace Go.Proofs.YtdlcejnkicdjnaaDoor.Sg
open Go Go.RowKit Go.Proofs.YtdlcejnkicdjnaaDoorW.PrintWords Go.Proofs.YtdlcejnkicdjnaaDoorW.PrintLast Go.Proofs.YtdlcejnkicdjnaaDoorW.PrintMore
open Go.Proofs.YtdlcejnkicdjnaaDoor.Hp Go.Proofs.YtdlcejnkicdjnaaDoor.Bv
attribute [local go_sem] max2_int min2_int max_two min_two max_three min_three max_four min_four
attribute [local go_sem] wrap_add wrap_sub wrap_mul wrap_neg and_U or_U xor_U andNot_U wrap_U
set_option linter.unusedVariables false
set_option linter.unusedSimpArgs false
/-- A signal that has no action of its own. -/
def barZ (n : Int) : Bool := !(decide (1 ≤ n ∧ n ≤ 64)) || (n == 9 || n == 19)
def upd3 (A : Nat → Int) (m : Nat) (v0 v1 v2 : Int) : Nat → Int := upd (upd (upd A (m * 3) v0) (m * 3 + 1) v1) (m * 3 + 2) v2
theorem St.set3 {g : Nat} {A : Nat → Int} {M P x y : BitVec 64} {w : World} (h : St w g A M P x y) (m : Nat) (hm : m < 65) (v0 v1 v2 : Int) :
    St (((w.setCell ⟨g, m * 3, none⟩ (.int .u64 v0)).setCell ⟨g, m * 3 + 1, none⟩ (.int .u64 v1)).setCell ⟨g, m * 3 + 2, none⟩ (.int .u64 v2)) g (upd3 A m v0 v1 v2) M P x y := by
  have h0 := Blk.set h (m * 3) (.int .u64 v0)
  rw [stA_upd _ _ _ _ _ _ _ (by omega)] at h0
  have h1 := Blk.set h0 (m * 3 + 1) (.int .u64 v1)
  rw [stA_upd _ _ _ _ _ _ _ (by omega)] at h1
  have h2 := Blk.set h1 (m * 3 + 2) (.int .u64 v2)
  rw [stA_upd _ _ _ _ _ _ _ (by omega)] at h2
  exact h2
theorem bar_and (m : Nat) (h : 1 ≤ m ∧ m ≤ 64) : (U (bitZ (m : Int) &&& 262400#64) == 0) = !(m == 9 || m == 19) := by
  obtain ⟨k, rfl⟩ : ∃ k, m = k + 1 := ⟨m - 1, by omega⟩
  have hk : k < 64 := by omega
  have all : ((List.range 64).all fun k => (((1#64 <<< k &&& 262400#64) == 0#64) == !(k + 1 == 9 || k + 1 == 19))) = true := by decide +kernel
  have h1 := List.all_eq_true.1 all k (List.mem_range.2 hk)
  have e : bitZ ((k + 1 : Nat) : Int) = 1#64 <<< k := bitZ_at k hk
  rw [e]
  have h2 : (U (1#64 <<< k &&& 262400#64) == 0) = ((1#64 <<< k &&& 262400#64) == 0#64) := by
    by_cases c : (1#64 <<< k &&& 262400#64) = 0#64
    · rw [c]; rfl
    · rw [beq_eq_false_iff_ne.2 c]
      exact beq_eq_false_iff_ne.2 (fun e => c (U_zero.1 e))
  rw [h2]
  exact beq_iff_eq.1 h1
theorem setaction_out {g : Nat} {A : Nat → Int} {M P x y : BitVec 64} (n a0 a1 : Int) (v : BitVec 64) (hn : ¬ (1 ≤ n ∧ n ≤ 64)) (w : World) : Calls Tryd.prog 17 #[.pointer (some ⟨g, 0, none⟩), .int .i64 n, .agg #[.int .u64 a0, .int .u64 a1, .int .u64 (U v)]] w fun e w' => e = .returned (.int .i64 22) ∧ Fr (fun _ => False) w w' := by
  have H := Lib.hid bit_any
  have h0 := bit_zero n
  rw [decide_eq_false hn, Bool.not_false] at h0
  have HF := Lib.hid ((Fr.refl (fun _ => False) w).alloc (.cells #[.int .u64 a0, .int .u64 a1, .int .u64 (U v)] 33))
  clear hn
  go_enter Tryd.func17, Tryd.ntmps17
  go_wp2_with fail
  refine (H.out _ _).mono ?_
  rintro e w1 ⟨rfl, hf⟩
  have HF := Lib.hid (HF.out.trans hf (fun _ _ => id))
  clear hf
  go_wp2_with fail
  go_ret
  exact ⟨rfl, HF.out⟩
theorem setaction_bar {g : Nat} {A : Nat → Int} {M P x y : BitVec 64} (n a0 a1 : Int) (v : BitVec 64) (hn : n = 9 ∨ n = 19) (w : World) : Calls Tryd.prog 17 #[.pointer (some ⟨g, 0, none⟩), .int .i64 n, .agg #[.int .u64 a0, .int .u64 a1, .int .u64 (U v)]] w fun e w' => e = .returned (.int .i64 22) ∧ Fr (fun _ => False) w w' := by
  have H := Lib.hid bit_any
  have HN := Lib.hid never_any
  have h0 := bit_zero n
  rw [decide_eq_true (by omega), Bool.not_true] at h0
  have h1 : (U (bitZ n &&& 262400#64) == 0) = false := by rcases hn with rfl | rfl <;> decide +kernel
  have HF := Lib.hid ((Fr.refl (fun _ => False) w).alloc (.cells #[.int .u64 a0, .int .u64 a1, .int .u64 (U v)] 33))
  clear hn
  go_enter Tryd.func17, Tryd.ntmps17
  go_wp2_with fail
  refine (H.out _ _).mono ?_
  rintro e w1 ⟨rfl, hf⟩
  have HF := Lib.hid (HF.out.trans hf (fun _ _ => id))
  clear hf
  go_wp2_with fail
  refine (H.out _ _).mono ?_
  rintro e w2 ⟨rfl, hf⟩
  have HF := Lib.hid (HF.out.trans hf (fun _ _ => id))
  clear hf
  go_wp2_with fail
  refine (HN.out _).mono ?_
  rintro e w3 ⟨rfl, hf⟩
  have HF := Lib.hid (HF.out.trans hf (fun _ _ => id))
  clear hf
  go_wp2_with fail
  go_ret
  exact ⟨rfl, HF.out⟩
end Go.Proofs.YtdlcejnkicdjnaaDoor.Sg
