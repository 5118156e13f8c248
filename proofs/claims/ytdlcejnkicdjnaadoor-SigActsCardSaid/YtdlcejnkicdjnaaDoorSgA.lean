/- Signals' small functions, walked: the bit of a signal, what is usually done, the least bit of a word by its table. -/
import Derived.Test.YtdlcejnkicdjnaaDoorProg
import Derived.Below
import Derived.Deep.Draws
import Derived.Deep.AppendLies
import Derived.Maps.AppendAt
import Derived.OwnWalk
import Derived.Laws.BytesArg
import Derived.Laws.MakeOwn
import Derived.Laws.OwnMore
import Derived.Deep.OwnRows
import Derived.Tactics
import Derived.Lib.ConvBytes
import Derived.Laws.Slices
import Derived.WalkKit
import Derived.KernelRfl
import Derived.RowKit3
import Derived.Deep.LoopGhost
import Derived.Deep.QuietTactic
import Derived.BigQuiet
import Derived.WideLaws
import Derived.Deep.DeepCutAuto
import Derived.Deep.CutBlock
import Derived.Deep.RegionHeld3
import Derived.Laws.Rows
import Derived.Lib.AppendStr
import Derived.ArgAppend
import Derived.Laws.IdiomCopy
import Derived.OrdersHeld
import Derived.Laws.BitsLemmas
import Derived.RowKit
import Derived.Test.YtdlcejnkicdjnaaDoorWWords
import Derived.Test.YtdlcejnkicdjnaaDoorWLast
import Derived.Test.YtdlcejnkicdjnaaDoorSlim
import Derived.Test.YtdlcejnkicdjnaaDoorBv
import Derived.Test.YtdlcejnkicdjnaaDoorHp
import Derived.Lib.Hide
import Derived.Lib.LaidTab
namespace Go.Proofs.YtdlcejnkicdjnaaDoor.Sg
open Go Go.RowKit Go.Proofs.YtdlcejnkicdjnaaDoorW.PrintWords Go.Proofs.YtdlcejnkicdjnaaDoorW.PrintLast Go.Proofs.YtdlcejnkicdjnaaDoorW.PrintMore
open Go.Proofs.YtdlcejnkicdjnaaDoor.Hp Go.Proofs.YtdlcejnkicdjnaaDoor.Bv
attribute [local go_sem] max2_int min2_int max_two min_two max_three min_three max_four min_four
attribute [local go_sem] wrap_add wrap_sub wrap_mul wrap_neg and_U or_U xor_U andNot_U wrap_U
set_option linter.unusedVariables false
set_option linter.unusedSimpArgs false
/-- The table of the least bits. -/
def tabZ : List Int := [0, 1, 56, 2, 57, 49, 28, 3, 61, 58, 42, 50, 38, 29, 17, 4, 62, 47, 59, 36, 45, 43, 51, 22, 53, 39, 33, 30, 24, 18, 12, 5, 63, 55, 48, 27, 60, 41, 37, 16, 46, 35, 44, 21, 52, 32, 23, 11, 54, 26, 40, 15, 34, 20, 31, 10, 25, 14, 19, 9, 13, 8, 7, 6]
def Tb (w : World) : Prop := ∀ i, i < 64 → w.cell? ⟨0, i, none⟩ = some (.int .u8 (tabZ.getD i 0))
theorem Tb.fr {S : Nat → Prop} {w w' : World} (h : Tb w) (f : Fr S w w') (h0 : ¬ S 0) : Tb w' := by
  intro i hi
  have h1 := World.block_lt_of_cell? w _ (h i hi)
  rw [World.cell?_of_block (w := w) (f.block 0 h1 h0)]
  exact h i hi
theorem Tb.lt {w : World} (h : Tb w) : 0 < w.heap.size := World.block_lt_of_cell? w _ (h 0 (by decide))
/-- A signal's bit. -/
def bitZ (n : Int) : BitVec 64 := if 1 ≤ n ∧ n ≤ 64 then 1#64 <<< (n.toNat - 1) else 0#64
theorem bitZ_no {n : Int} (h : ¬ (1 ≤ n ∧ n ≤ 64)) : bitZ n = 0#64 := if_neg h
theorem bitZ_at (m : Nat) (h : m < 64) : bitZ ((m : Int) + 1) = 1#64 <<< m := by
  unfold bitZ
  rw [if_pos (by omega)]
  congr 1
theorem U_zero {b : BitVec 64} : U b = 0 ↔ b = 0#64 := by rw [show (0 : Int) = U 0#64 from rfl, U_inj]
theorem bitZ_ne {n : Int} (h : 1 ≤ n ∧ n ≤ 64) : bitZ n ≠ 0#64 := by
  obtain ⟨m, rfl⟩ : ∃ m : Nat, n = m + 1 := ⟨(n - 1).toNat, by omega⟩
  rw [bitZ_at m (by omega)]
  intro e
  have := congrArg (fun x => x.getLsbD m) e
  simp [show m < 64 by omega] at this
theorem bit_any (n : Int) (w : World) : Calls Tryd.prog 13 #[.int .i64 n] w fun e w' => e = .returned (.int .u64 (U (bitZ n))) ∧ Fr (fun _ => False) w w' := by
  by_cases h : 1 ≤ n ∧ n ≤ 64
  · obtain ⟨m, rfl⟩ : ∃ m : Nat, n = m + 1 := ⟨(n - 1).toNat, by omega⟩
    rw [bitZ_at m (by omega)]
    have t1 : decide ((m : Int) + 1 < 1) = false := decide_eq_false (by omega)
    have t2 : decide ((64 : Int) < (m : Int) + 1) = false := decide_eq_false (by omega)
    have e1 : wrap64 (m : Int) = m := wrap64_in (by omega) (by omega)
    have t3 : decide ((m : Int) < 0) = false := decide_eq_false (by omega)
    have e2 := shl_U 1#64 m
    rw [show U 1#64 = (1 : Int) from rfl, Int.one_mul] at e2
    have p0 : (0 : Int) ≤ m := by omega
    clear h
    have E := Lib.hid e2
    clear e2
    go_enter Tryd.func13, Tryd.ntmps13
    go_wp2_with fail
    go_ret
    exact ⟨congrArg (fun x => Ending.returned (.int .u64 x)) E.out, by (repeat (first | (with_reducible exact Fr.refl _ _) | (with_reducible apply Fr.drewN) | (with_reducible apply Fr.alloc) | (with_reducible apply Fr.drew) | (with_reducible refine Fr.setCell ?_ (Or.inr (by simp)) _)))⟩
  · rw [bitZ_no h]
    by_cases h1 : n < 1
    · have t1 : decide (n < 1) = true := decide_eq_true h1
      clear h h1
      go_enter Tryd.func13, Tryd.ntmps13
      go_wp2_with fail
      go_ret
      exact ⟨rfl, by (repeat (first | (with_reducible exact Fr.refl _ _) | (with_reducible apply Fr.drewN) | (with_reducible apply Fr.alloc) | (with_reducible apply Fr.drew) | (with_reducible refine Fr.setCell ?_ (Or.inr (by simp)) _)))⟩
    · have t1 : decide (n < 1) = false := decide_eq_false h1
      have t2 : decide ((64 : Int) < n) = true := decide_eq_true (by omega)
      clear h h1
      go_enter Tryd.func13, Tryd.ntmps13
      go_wp2_with fail
      go_ret
      exact ⟨rfl, by (repeat (first | (with_reducible exact Fr.refl _ _) | (with_reducible apply Fr.drewN) | (with_reducible apply Fr.alloc) | (with_reducible apply Fr.drew) | (with_reducible refine Fr.setCell ?_ (Or.inr (by simp)) _)))⟩
theorem never_any (w : World) : Calls Tryd.prog 30 #[] w fun e w' => e = .returned (.int .u64 (U 262400#64)) ∧ Fr (fun _ => False) w w' := by
  have H := Lib.hid bit_any
  go_enter Tryd.func30, Tryd.ntmps30
  go_wp2_with fail
  refine (H.out _ _).mono ?_
  rintro e w1 ⟨rfl, hf⟩
  have HF := Lib.hid hf
  clear hf
  go_wp2_with fail
  refine (H.out _ _).mono ?_
  rintro e w2 ⟨rfl, hf⟩
  have HF := Lib.hid (HF.out.trans hf (fun _ _ => id))
  clear hf
  go_wp2_with fail
  go_ret
  exact ⟨by first | rfl | simp [or_U, show bitZ 9 ||| bitZ 19 = 262400#64 from by decide], HF.out⟩
end Go.Proofs.YtdlcejnkicdjnaaDoor.Sg
