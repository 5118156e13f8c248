/- The document's state of signals in memory; Word and SetMask of it, walked. -/
import Derived.Test.YtdlcejnkicdjnaaDoorSgT
import Derived.Deep.MidRow
namespace Go.Proofs.YtdlcejnkicdjnaaDoor.Sg
open Go Go.RowKit Go.Proofs.YtdlcejnkicdjnaaDoorW.PrintWords Go.Proofs.YtdlcejnkicdjnaaDoorW.PrintLast Go.Proofs.YtdlcejnkicdjnaaDoorW.PrintMore
open Go.Proofs.YtdlcejnkicdjnaaDoor.Hp Go.Proofs.YtdlcejnkicdjnaaDoor.Bv
attribute [local go_sem] max2_int min2_int max_two min_two max_three min_three max_four min_four
attribute [local go_sem] wrap_add wrap_sub wrap_mul wrap_neg and_U or_U xor_U andNot_U wrap_U
set_option linter.unusedVariables false
set_option linter.unusedSimpArgs false
/-- An array by its cells. -/
def fnA (n : Nat) (c : Nat → Value) : Array Value := ((List.range n).map c).toArray
theorem fnA_size (n : Nat) (c : Nat → Value) : (fnA n c).size = n := by simp [fnA]
theorem fnA_get (n : Nat) (c : Nat → Value) (i : Nat) (h : i < n) : (fnA n c)[i]? = some (c i) := by
  unfold fnA
  rw [List.getElem?_toArray, List.getElem?_map, List.getElem?_range h]
  rfl
theorem fnA_congr {n : Nat} {c d : Nat → Value} (h : ∀ i, i < n → c i = d i) : fnA n c = fnA n d := by
  apply Array.ext_getElem?
  intro k
  by_cases hk : k < n
  · rw [fnA_get n c k hk, fnA_get n d k hk, h k hk]
  · rw [Array.getElem?_eq_none (by rw [fnA_size]; omega), Array.getElem?_eq_none (by rw [fnA_size]; omega)]
theorem fnA_set (n : Nat) (c : Nat → Value) (i : Nat) (v : Value) : (fnA n c).setIfInBounds i v = fnA n (fun k => if k = i then v else c k) := by
  apply Array.ext_getElem?
  intro k
  rw [Array.getElem?_setIfInBounds]
  by_cases hk : k < n
  · rw [fnA_get n (fun k => if k = i then v else c k) k hk]
    by_cases e : i = k
    · subst e
      rw [if_pos rfl, if_pos (by rw [fnA_size]; exact hk), if_pos rfl]
    · rw [if_neg e, if_neg (fun h => e h.symm), fnA_get n c k hk]
  · rw [Array.getElem?_eq_none (xs := fnA n (fun k => if k = i then v else c k)) (by rw [fnA_size]; omega)]
    split
    · rename_i e
      subst e
      rw [if_neg (by rw [fnA_size]; exact hk)]
    · exact Array.getElem?_eq_none (by rw [fnA_size]; omega)
/-- The cells of a state: 65 actions of three words, 65 bools, 65 bools, two words. -/
def rsC (A : Nat → Int) (mf pf : Nat → Bool) (x y : BitVec 64) (i : Nat) : Value :=
  if i < 195 then .int .u64 (A i) else if i < 260 then .bool (mf (i - 195)) else if i < 325 then .bool (pf (i - 260)) else if i = 325 then .int .u64 (U x) else .int .u64 (U y)
/-- Block g holds the document's state. -/
def Rs (w : World) (g : Nat) (A : Nat → Int) (mf pf : Nat → Bool) (x y : BitVec 64) : Prop := Blk w g 55 (fnA 327 (rsC A mf pf x y))
theorem Rs.fr {g : Nat} {A : Nat → Int} {mf pf : Nat → Bool} {x y : BitVec 64} {S : Nat → Prop} {w w' : World} (h : Rs w g A mf pf x y) (f : Fr S w w') (hg : ¬ S g) : Rs w' g A mf pf x y := Blk.fr h f hg
theorem Rs.at_ {g : Nat} {A : Nat → Int} {mf pf : Nat → Bool} {x y : BitVec 64} {w : World} (h : Rs w g A mf pf x y) (i : Nat) (hi : i < 327) : w.cell? ⟨g, i, none⟩ = some (rsC A mf pf x y i) := (Blk.cell h i).trans (fnA_get _ _ i hi)
theorem Rs.a {g : Nat} {A : Nat → Int} {mf pf : Nat → Bool} {x y : BitVec 64} {w : World} (h : Rs w g A mf pf x y) (i : Nat) (hi : i < 195) : w.cell? ⟨g, i, none⟩ = some (.int .u64 (A i)) := by rw [h.at_ i (by omega)]; unfold rsC; rw [if_pos hi]
theorem Rs.m {g : Nat} {A : Nat → Int} {mf pf : Nat → Bool} {x y : BitVec 64} {w : World} (h : Rs w g A mf pf x y) (j : Nat) (hj : j < 65) : w.cell? ⟨g, 195 + j, none⟩ = some (.bool (mf j)) := by
  rw [h.at_ (195 + j) (by omega)]; unfold rsC; rw [if_neg (by omega), if_pos (by omega), Nat.add_sub_cancel_left]
theorem Rs.p {g : Nat} {A : Nat → Int} {mf pf : Nat → Bool} {x y : BitVec 64} {w : World} (h : Rs w g A mf pf x y) (j : Nat) (hj : j < 65) : w.cell? ⟨g, 260 + j, none⟩ = some (.bool (pf j)) := by
  rw [h.at_ (260 + j) (by omega)]; unfold rsC; rw [if_neg (by omega), if_neg (by omega), if_pos (by omega), Nat.add_sub_cancel_left]
theorem Rs.k {g : Nat} {A : Nat → Int} {mf pf : Nat → Bool} {x y : BitVec 64} {w : World} (h : Rs w g A mf pf x y) : w.cell? ⟨g, 325, none⟩ = some (.int .u64 (U x)) ∧ w.cell? ⟨g, 326, none⟩ = some (.int .u64 (U y)) := ⟨h.at_ 325 (by decide), h.at_ 326 (by decide)⟩
theorem Rs.frz {g : Nat} {A : Nat → Int} {mf pf : Nat → Bool} {x y : BitVec 64} {w : World} (h : Rs w g A mf pf x y) (i : Nat) : w.frozen? ⟨g, i, none⟩ = false := Blk.frozen h i
theorem Rs.setA {g : Nat} {A : Nat → Int} {mf pf : Nat → Bool} {x y : BitVec 64} {w : World} (h : Rs w g A mf pf x y) (i : Nat) (hi : i < 195) (v : Int) : Rs (w.setCell ⟨g, i, none⟩ (.int .u64 v)) g (upd A i v) mf pf x y := by
  have e := Blk.set h i (.int .u64 v)
  rw [fnA_set, fnA_congr (d := rsC (upd A i v) mf pf x y) (fun k hk => by
    unfold rsC upd
    by_cases c : k = i
    · subst c; rw [if_pos rfl, if_pos hi, if_pos rfl]
    · simp only [if_neg c])] at e
  exact e
theorem Rs.setM {g : Nat} {A : Nat → Int} {mf pf : Nat → Bool} {x y : BitVec 64} {w : World} (h : Rs w g A mf pf x y) (j : Nat) (hj : j < 65) (b : Bool) : Rs (w.setCell ⟨g, 195 + j, none⟩ (.bool b)) g A (updB mf j b) pf x y := by
  have e := Blk.set h (195 + j) (.bool b)
  rw [fnA_set, fnA_congr (d := rsC A (updB mf j b) pf x y) (fun k hk => by
    unfold rsC updB
    by_cases c : k = 195 + j
    · subst c; rw [if_pos rfl, if_neg (by omega), if_pos (by omega), if_pos (by omega)]
    · rw [if_neg c]
      by_cases c1 : k < 195
      · rw [if_pos c1, if_pos c1]
      · by_cases c2 : k < 260
        · rw [if_neg c1, if_pos c2, if_neg c1, if_pos c2, if_neg (by omega)]
        · rw [if_neg c1, if_neg c2, if_neg c1, if_neg c2])] at e
  exact e
theorem Rs.setP {g : Nat} {A : Nat → Int} {mf pf : Nat → Bool} {x y : BitVec 64} {w : World} (h : Rs w g A mf pf x y) (j : Nat) (hj : j < 65) (b : Bool) : Rs (w.setCell ⟨g, 260 + j, none⟩ (.bool b)) g A mf (updB pf j b) x y := by
  have e := Blk.set h (260 + j) (.bool b)
  rw [fnA_set, fnA_congr (d := rsC A mf (updB pf j b) x y) (fun k hk => by
    unfold rsC updB
    by_cases c : k = 260 + j
    · subst c; rw [if_pos rfl, if_neg (by omega), if_neg (by omega), if_pos (by omega), if_pos (by omega)]
    · rw [if_neg c]
      by_cases c1 : k < 195
      · rw [if_pos c1, if_pos c1]
      · by_cases c2 : k < 260
        · rw [if_neg c1, if_pos c2, if_neg c1, if_pos c2]
        · by_cases c3 : k < 325
          · rw [if_neg c1, if_neg c2, if_pos c3, if_neg c1, if_neg c2, if_pos c3, if_neg (by omega)]
          · rw [if_neg c1, if_neg c2, if_neg c3, if_neg c1, if_neg c2, if_neg c3])] at e
  exact e
theorem Rs.setK {g : Nat} {A : Nat → Int} {mf pf : Nat → Bool} {x y : BitVec 64} {w : World} (h : Rs w g A mf pf x y) (x' y' : BitVec 64) : Rs ((w.setCell ⟨g, 325, none⟩ (.int .u64 (U x'))).setCell ⟨g, 326, none⟩ (.int .u64 (U y'))) g A mf pf x' y' := by
  have e := (Blk.set h 325 (.int .u64 (U x'))).set 326 (.int .u64 (U y'))
  rw [fnA_set, fnA_set, fnA_congr (d := rsC A mf pf x' y') (fun k hk => by
    unfold rsC
    by_cases c : k = 326
    · subst c; rfl
    · by_cases c0 : k = 325
      · subst c0; rfl
      · rw [if_neg c, if_neg c0]
        simp only [if_neg c0]
        by_cases c1 : k < 195
        · rw [if_pos c1, if_pos c1]
        · by_cases c2 : k < 260
          · rw [if_neg c1, if_pos c2, if_neg c1, if_pos c2]
          · rw [if_neg c1, if_neg c2, if_pos (by omega), if_neg c1, if_neg c2, if_pos (by omega)])] at e
  exact e
theorem Rs.set3 {g : Nat} {A : Nat → Int} {mf pf : Nat → Bool} {x y : BitVec 64} {w : World} (h : Rs w g A mf pf x y) (m : Nat) (hm : m < 65) (v0 v1 v2 : Int) :
    Rs (((w.setCell ⟨g, m * 3, none⟩ (.int .u64 v0)).setCell ⟨g, m * 3 + 1, none⟩ (.int .u64 v1)).setCell ⟨g, m * 3 + 2, none⟩ (.int .u64 v2)) g (upd3 A m v0 v1 v2) mf pf x y :=
  ((h.setA (m * 3) (by omega) v0).setA (m * 3 + 1) (by omega) v1).setA (m * 3 + 2) (by omega) v2
theorem Rs.ranges {g : Nat} {A : Nat → Int} {mf pf : Nat → Bool} {x y : BitVec 64} {w : World} (h : Rs w g A mf pf x y) : w.rangeAt g 195 (comeA mf).toList ∧ w.rangeAt g 260 (comeA pf).toList := by
  constructor <;> intro j v hv
  · have hj : j < 65 := by
      by_cases c : j < 65
      · exact c
      · rw [Array.getElem?_toList, Array.getElem?_eq_none (by rw [comeA_size]; omega)] at hv; cases hv
    rw [Array.getElem?_toList, comeA_get mf j hj] at hv
    rw [h.m j hj]
    exact hv
  · have hj : j < 65 := by
      by_cases c : j < 65
      · exact c
      · rw [Array.getElem?_toList, Array.getElem?_eq_none (by rw [comeA_size]; omega)] at hv; cases hv
    rw [Array.getElem?_toList, comeA_get pf j hj] at hv
    rw [h.p j hj]
    exact hv
/-- Truths that are the bits of a word. -/
def BitsOf (f : Nat → Bool) (M : BitVec 64) : Prop := f 0 = false ∧ ∀ j, j < 64 → f (j + 1) = M.getLsbD j
theorem low_step (M : BitVec 64) (j : Nat) : M.toNat % 2 ^ (j + 1) = M.toNat % 2 ^ j + (if M.getLsbD j then 2 ^ j else 0) := by
  rw [Nat.mod_pow_succ]
  have : M.getLsbD j = M.toNat.testBit j := rfl
  rw [this, Nat.testBit_eq_decide_div_mod_eq]
  by_cases c : M.toNat / 2 ^ j % 2 = 1
  · rw [c, if_pos (by simp)]; omega
  · rw [show M.toNat / 2 ^ j % 2 = 0 by omega, if_neg (by simp)]; omega
def AtWord (f : Nat → Bool) (M : BitVec 64) (w0 : World) (b : Nat) (v i : Value) (kq : Nat) (wr : World) : Prop := ∃ k : Nat, i = .int .i64 ((k : Int) + 1) ∧ v = .int .u64 ((M.toNat % 2 ^ k : Nat) : Int) ∧ k ≤ 64 ∧ 64 - k ≤ kq ∧ wr = w0
theorem word_any (f : Nat → Bool) (M : BitVec 64) (hb : BitsOf f M) (w : World) : Calls Tryd.prog 28 #[.agg (comeA f)] w fun e w' => e = .returned (.int .u64 (U M)) ∧ Fr (fun _ => False) w w' := by
  have HB := Lib.hid hb
  have HX := Lib.hid (Blk.new w 29 (comeA f))
  have HF := Lib.hid ((Fr.refl (fun _ => False) w).alloc (.cells (comeA f) 29))
  have hm64 : M.toNat % 2 ^ 64 = M.toNat := Nat.mod_eq_of_lt M.isLt
  have HM := Lib.hid hm64
  clear hb hm64
  go_enter Tryd.func28, Tryd.ntmps28
  go_wp2_with fail
  go_loopg [3, 4] 64 (fun kq v i wr => Hid (AtWord f M (w.alloc (.cells (comeA f) 29)) w.heap.size v i kq wr))
  case atStart => exact Lib.hid ⟨0, rfl, by simp [Nat.mod_one], by omega, by omega, rfl⟩
  case round =>
    obtain ⟨k, rfl, rfl, hk, hkq, rfl⟩ := hrel.out
    clear hrel
    obtain ⟨r, hr⟩ : ∃ r, r = M.toNat % 2 ^ k := ⟨_, rfl⟩
    rw [← hr]
    have HR := Lib.hid hr
    have hr64 : r < 18446744073709551616 := by rw [hr]; exact Nat.lt_of_le_of_lt (Nat.mod_le _ _) M.isLt
    clear hr
    generalize hwa : w.alloc (.cells (comeA f) 29) = wa at HX HF ⊢
    have HWA := Lib.hid hwa
    clear hwa
    by_cases h64 : k < 64
    · have t1 : decide ((k : Int) + 1 ≤ 64) = true := decide_eq_true (by omega)
      have t1' : decide ((k : Int) < 64) = true := decide_eq_true (by omega)
      have t3 : decide ((k : Int) + 1 < 65) = true := decide_eq_true (by omega)
      have e1 : wrap64 (k : Int) = k := wrap64_in (by omega) (by omega)
      have c0 := (HX.out.cell (k + 1)).trans (comeA_get f (k + 1) (by omega))
      rw [HB.out.2 k h64] at c0
      have hs := low_step M k
      rw [← HR.out] at hs
      have HS := Lib.hid hs
      obtain ⟨q, hq⟩ : ∃ q, q = 2 ^ k := ⟨_, rfl⟩
      have hq64 : q ≤ 9223372036854775808 := by rw [hq]; exact Nat.pow_le_pow_right (by decide) (show k ≤ 63 by omega)
      have e2 : IntKind.u64.wrap ((2 : Int) ^ k) = (q : Int) := by
        rw [show ((2 : Int) ^ k) = (q : Int) by rw [hq]; simp]
        exact wrap_in (by omega) (by omega)
      have hrq : M.getLsbD k = true → r + q < 18446744073709551616 := fun e => by
        rw [if_pos e, ← hq] at hs
        rw [← hs]
        exact Nat.lt_of_le_of_lt (Nat.mod_le _ _) M.isLt
      clear hs
      obtain ⟨b, hb⟩ : ∃ b, M.getLsbD k = b := ⟨_, rfl⟩
      rw [hb] at c0 hrq
      rw [hb, ← hq] at HS
      clear hb hq
      cases b
      · clear hrq
        go_wp2_with fail
        go_roundg (64 - (k + 1))
        case measure => omega
        case rel => exact Lib.hid ⟨k + 1, by go_num, by rw [HS.out]; simp, by omega, Nat.le_refl _, HWA.out.symm⟩
      · have hrq := hrq rfl
        go_wp2_with fail
        go_roundg (64 - (k + 1))
        case measure => omega
        case rel => exact Lib.hid ⟨k + 1, by go_num, by rw [HS.out]; simp, by omega, Nat.le_refl _, HWA.out.symm⟩
    · obtain rfl : k = 64 := by omega
      have e : r = M.toNat := HR.out.trans HM.out
      subst e
      go_wp2_with fail
      go_ret
      exact ⟨rfl, HF.out⟩
end Go.Proofs.YtdlcejnkicdjnaaDoor.Sg
