/- A signals' state as a block of 199 cells; what its small methods do to it, walked. -/
import Derived.Test.YtdlcejnkicdjnaaDoorSgB
namespace Go.Proofs.YtdlcejnkicdjnaaDoor.Sg
open Go Go.RowKit Go.Proofs.YtdlcejnkicdjnaaDoorW.PrintWords Go.Proofs.YtdlcejnkicdjnaaDoorW.PrintLast Go.Proofs.YtdlcejnkicdjnaaDoorW.PrintMore
open Go.Proofs.YtdlcejnkicdjnaaDoor.Hp Go.Proofs.YtdlcejnkicdjnaaDoor.Bv
attribute [local go_sem] max2_int min2_int max_two min_two max_three min_three max_four min_four
attribute [local go_sem] wrap_add wrap_sub wrap_mul wrap_neg and_U or_U xor_U andNot_U wrap_U
set_option linter.unusedVariables false
set_option linter.unusedSimpArgs false
def tailA (M P x y : BitVec 64) : List Value := [Value.int .u64 (U M), Value.int .u64 (U P), Value.int .u64 (U x), Value.int .u64 (U y)]
def stA (A : Nat → Int) (M P x y : BitVec 64) : Array Value := ((List.range 195).map (fun i => Value.int .u64 (A i)) ++ tailA M P x y).toArray
theorem stA_size (A : Nat → Int) (M P x y : BitVec 64) : (stA A M P x y).size = 199 := by simp [stA, tailA]
theorem stA_lo (A : Nat → Int) (M P x y : BitVec 64) (i : Nat) (h : i < 195) : (stA A M P x y)[i]? = some (.int .u64 (A i)) := by
  unfold stA
  rw [List.getElem?_toArray, List.getElem?_append_left (by simpa using h), List.getElem?_map, List.getElem?_range h]
  rfl
theorem stA_hi (A : Nat → Int) (M P x y : BitVec 64) (j : Nat) : (stA A M P x y)[195 + j]? = (tailA M P x y)[j]? := by
  unfold stA
  rw [List.getElem?_toArray, List.getElem?_append_right (by simp)]
  simp
theorem stA_ext {A B : Nat → Int} {M P x y M' P' x' y' : BitVec 64} {cs : Array Value} (hs : cs.size = 199) (h : ∀ i, i < 195 → cs[i]? = some (.int .u64 (B i)))
    (h1 : cs[195]? = some (.int .u64 (U M'))) (h2 : cs[196]? = some (.int .u64 (U P'))) (h3 : cs[197]? = some (.int .u64 (U x'))) (h4 : cs[198]? = some (.int .u64 (U y'))) : cs = stA B M' P' x' y' := by
  apply Array.ext_getElem?
  intro i
  by_cases c : i < 195
  · rw [h i c, stA_lo _ _ _ _ _ _ c]
  · obtain ⟨j, rfl⟩ : ∃ j, i = 195 + j := ⟨i - 195, by omega⟩
    rw [stA_hi]
    match j with
    | 0 => exact h1
    | 1 => exact h2
    | 2 => exact h3
    | 3 => exact h4
    | j + 4 => rw [Array.getElem?_eq_none (by omega)]; rfl
theorem set_at (cs : Array Value) (k i : Nat) (v : Value) : (cs.setIfInBounds k v)[i]? = if k = i then (if k < cs.size then some v else none) else cs[i]? := by
  rw [Array.getElem?_setIfInBounds]
theorem stA_set195 (A : Nat → Int) (M P x y v : BitVec 64) : (stA A M P x y).setIfInBounds 195 (.int .u64 (U v)) = stA A v P x y := by
  refine stA_ext (A := A) (M := M) (P := P) (x := x) (y := y) (by simp [stA_size]) (fun i hi => ?_) ?_ ?_ ?_ ?_
  · rw [set_at, if_neg (by omega), stA_lo _ _ _ _ _ _ hi]
  · rw [set_at, if_pos rfl, if_pos (by rw [stA_size]; decide)]
  · rw [set_at, if_neg (by decide), stA_hi _ _ _ _ _ 1]; exact rfl
  · rw [set_at, if_neg (by decide), stA_hi _ _ _ _ _ 2]; exact rfl
  · rw [set_at, if_neg (by decide), stA_hi _ _ _ _ _ 3]; exact rfl
theorem stA_set196 (A : Nat → Int) (M P x y v : BitVec 64) : (stA A M P x y).setIfInBounds 196 (.int .u64 (U v)) = stA A M v x y := by
  refine stA_ext (A := A) (M := M) (P := P) (x := x) (y := y) (by simp [stA_size]) (fun i hi => ?_) ?_ ?_ ?_ ?_
  · rw [set_at, if_neg (by omega), stA_lo _ _ _ _ _ _ hi]
  · rw [set_at, if_neg (by decide), stA_hi _ _ _ _ _ 0]; exact rfl
  · rw [set_at, if_pos rfl, if_pos (by rw [stA_size]; decide)]
  · rw [set_at, if_neg (by decide), stA_hi _ _ _ _ _ 2]; exact rfl
  · rw [set_at, if_neg (by decide), stA_hi _ _ _ _ _ 3]; exact rfl
theorem stA_set197 (A : Nat → Int) (M P x y v : BitVec 64) : (stA A M P x y).setIfInBounds 197 (.int .u64 (U v)) = stA A M P v y := by
  refine stA_ext (A := A) (M := M) (P := P) (x := x) (y := y) (by simp [stA_size]) (fun i hi => ?_) ?_ ?_ ?_ ?_
  · rw [set_at, if_neg (by omega), stA_lo _ _ _ _ _ _ hi]
  · rw [set_at, if_neg (by decide), stA_hi _ _ _ _ _ 0]; exact rfl
  · rw [set_at, if_neg (by decide), stA_hi _ _ _ _ _ 1]; exact rfl
  · rw [set_at, if_pos rfl, if_pos (by rw [stA_size]; decide)]
  · rw [set_at, if_neg (by decide), stA_hi _ _ _ _ _ 3]; exact rfl
theorem stA_set198 (A : Nat → Int) (M P x y v : BitVec 64) : (stA A M P x y).setIfInBounds 198 (.int .u64 (U v)) = stA A M P x v := by
  refine stA_ext (A := A) (M := M) (P := P) (x := x) (y := y) (by simp [stA_size]) (fun i hi => ?_) ?_ ?_ ?_ ?_
  · rw [set_at, if_neg (by omega), stA_lo _ _ _ _ _ _ hi]
  · rw [set_at, if_neg (by decide), stA_hi _ _ _ _ _ 0]; exact rfl
  · rw [set_at, if_neg (by decide), stA_hi _ _ _ _ _ 1]; exact rfl
  · rw [set_at, if_neg (by decide), stA_hi _ _ _ _ _ 2]; exact rfl
  · rw [set_at, if_pos rfl, if_pos (by rw [stA_size]; decide)]
/-- One cell of the actions changed. -/
def upd (A : Nat → Int) (i : Nat) (v : Int) : Nat → Int := fun k => if k = i then v else A k
theorem stA_upd (A : Nat → Int) (M P x y : BitVec 64) (i : Nat) (v : Int) (h : i < 195) : (stA A M P x y).setIfInBounds i (.int .u64 v) = stA (upd A i v) M P x y := by
  refine stA_ext (A := A) (M := M) (P := P) (x := x) (y := y) (by simp [stA_size]) (fun k hk => ?_) ?_ ?_ ?_ ?_
  · rw [set_at]
    unfold upd
    by_cases c : i = k
    · subst c
      rw [if_pos rfl, if_pos (by rw [stA_size]; omega), if_pos rfl]
    · rw [if_neg c, if_neg (fun e => c e.symm), stA_lo _ _ _ _ _ _ hk]
  · rw [set_at, if_neg (by omega), stA_hi _ _ _ _ _ 0]; rfl
  · rw [set_at, if_neg (by omega), stA_hi _ _ _ _ _ 1]; rfl
  · rw [set_at, if_neg (by omega), stA_hi _ _ _ _ _ 2]; rfl
  · rw [set_at, if_neg (by omega), stA_hi _ _ _ _ _ 3]; rfl
/-- Block g holds a state. -/
def St (w : World) (g : Nat) (A : Nat → Int) (M P x y : BitVec 64) : Prop := Blk w g 63 (stA A M P x y)
theorem St.fr {S : Nat → Prop} {w w' : World} {g : Nat} {A : Nat → Int} {M P x y : BitVec 64} (h : St w g A M P x y) (f : Fr S w w') (hg : ¬ S g) : St w' g A M P x y := Blk.fr h f hg
theorem St.lo {w : World} {g : Nat} {A : Nat → Int} {M P x y : BitVec 64} (h : St w g A M P x y) (i : Nat) (hi : i < 195) : w.cell? ⟨g, i, none⟩ = some (.int .u64 (A i)) := (Blk.cell h i).trans (stA_lo _ _ _ _ _ _ hi)
theorem St.m {w : World} {g : Nat} {A : Nat → Int} {M P x y : BitVec 64} (h : St w g A M P x y) : w.cell? ⟨g, 195, none⟩ = some (.int .u64 (U M)) := (Blk.cell h 195).trans (stA_hi _ _ _ _ _ 0)
theorem St.p {w : World} {g : Nat} {A : Nat → Int} {M P x y : BitVec 64} (h : St w g A M P x y) : w.cell? ⟨g, 196, none⟩ = some (.int .u64 (U P)) := (Blk.cell h 196).trans (stA_hi _ _ _ _ _ 1)
theorem St.frz {w : World} {g : Nat} {A : Nat → Int} {M P x y : BitVec 64} (h : St w g A M P x y) (i : Nat) : w.frozen? ⟨g, i, none⟩ = false := Blk.frozen h i
theorem St.setM {w : World} {g : Nat} {A : Nat → Int} {M P x y : BitVec 64} (h : St w g A M P x y) (v : BitVec 64) : St (w.setCell ⟨g, 195, none⟩ (.int .u64 (U v))) g A v P x y := by
  have := Blk.set h 195 (.int .u64 (U v))
  rw [stA_set195] at this
  exact this
theorem St.setP {w : World} {g : Nat} {A : Nat → Int} {M P x y : BitVec 64} (h : St w g A M P x y) (v : BitVec 64) : St (w.setCell ⟨g, 196, none⟩ (.int .u64 (U v))) g A M v x y := by
  have := Blk.set h 196 (.int .u64 (U v))
  rw [stA_set196] at this
  exact this
theorem _root_.Go.Proofs.YtdlcejnkicdjnaaDoor.Hp.Fr.own {w w1 : World} {g i : Nat} (h : Fr (fun _ => False) w w1) (v : Value) : Fr (fun k => k = g) w (w1.setCell ⟨g, i, none⟩ v) :=
  Fr.setCell (S := fun k => k = g) (h.mono (fun _ _ e => e.elim)) (p := ⟨g, i, none⟩) (.inl rfl) v
def keepZ (x : BitVec 64) : BitVec 64 := x &&& ~~~262400#64
theorem mask_any {g : Nat} {A : Nat → Int} {M P x y : BitVec 64} (w : World) (h : St w g A M P x y) : Calls Tryd.prog 10 #[.pointer (some ⟨g, 0, none⟩)] w fun e w' => e = .returned (.int .u64 (U M)) ∧ Fr (fun _ => False) w w' := by
  have k1 := h.m
  clear h
  go_enter Tryd.func10, Tryd.ntmps10
  go_wp2_with fail
  go_ret
  exact ⟨rfl, by (repeat (first | (with_reducible exact Fr.refl _ _) | (with_reducible apply Fr.drewN) | (with_reducible apply Fr.alloc) | (with_reducible apply Fr.drew) | (with_reducible refine Fr.setCell ?_ (Or.inr (by simp)) _)))⟩
theorem pending_any {g : Nat} {A : Nat → Int} {M P x y : BitVec 64} (w : World) (h : St w g A M P x y) : Calls Tryd.prog 16 #[.pointer (some ⟨g, 0, none⟩)] w fun e w' => e = .returned (.int .u64 (U P)) ∧ Fr (fun _ => False) w w' := by
  have k1 := h.p
  clear h
  go_enter Tryd.func16, Tryd.ntmps16
  go_wp2_with fail
  go_ret
  exact ⟨rfl, by (repeat (first | (with_reducible exact Fr.refl _ _) | (with_reducible apply Fr.drewN) | (with_reducible apply Fr.alloc) | (with_reducible apply Fr.drew) | (with_reducible refine Fr.setCell ?_ (Or.inr (by simp)) _)))⟩
theorem setmask_any {g : Nat} {A : Nat → Int} {M P x y : BitVec 64} (n : BitVec 64) (w : World) (h : St w g A M P x y) : Calls Tryd.prog 9 #[.pointer (some ⟨g, 0, none⟩), .int .u64 (U n)] w fun e w' => e = .returned (.tuple #[]) ∧ St w' g A (keepZ n) P x y ∧ Fr (fun k => k = g) w w' := by
  have HB := Lib.hid h
  have HN := Lib.hid never_any
  clear h
  go_enter Tryd.func9, Tryd.ntmps9
  go_wp2_with fail
  refine (HN.out _).mono ?_
  rintro e w1 ⟨rfl, hf⟩
  have HB := Lib.hid (HB.out.fr hf id)
  have HF := Lib.hid hf
  clear hf HN
  have k1 := HB.out.m
  have k2 := HB.out.frz 195
  go_wp2_with fail
  go_end0
  exact ⟨rfl, HB.out.setM _, HF.out.own _⟩
theorem St.drew {w : World} {g : Nat} {A : Nat → Int} {M P x y : BitVec 64} (h : St w g A M P x y) : St w.drew g A M P x y := h
theorem St.pf {w : World} {g : Nat} {A : Nat → Int} {M P x y : BitVec 64} (h : St w g A M P x y) : w.cell? ⟨g, 196, none⟩ = some (.int .u64 (U P)) ∧ w.frozen? ⟨g, 196, none⟩ = false := ⟨h.p, h.frz 196⟩
theorem bit_zero (n : Int) : (U (bitZ n) == 0) = !(decide (1 ≤ n ∧ n ≤ 64)) := by
  by_cases h : 1 ≤ n ∧ n ≤ 64
  · rw [decide_eq_true h]
    exact beq_eq_false_iff_ne.2 (fun e => bitZ_ne h (U_zero.1 e))
  · rw [decide_eq_false h, bitZ_no h]
    rfl
theorem raise_no {g : Nat} {A : Nat → Int} {M P x y : BitVec 64} (n : Int) (hn : ¬ (1 ≤ n ∧ n ≤ 64)) (w : World) : Calls Tryd.prog 11 #[.pointer (some ⟨g, 0, none⟩), .int .i64 n] w fun e w' => e = .returned (.int .i64 22) ∧ Fr (fun _ => False) w w' := by
  have H := Lib.hid bit_any
  have h0 := bit_zero n
  rw [decide_eq_false hn, Bool.not_false] at h0
  clear hn
  go_enter Tryd.func11, Tryd.ntmps11
  go_wp2_with fail
  refine (H.out _ _).mono ?_
  rintro e w1 ⟨rfl, hf⟩
  have HF := Lib.hid hf
  clear hf
  go_wp2_with fail
  go_ret
  exact ⟨rfl, HF.out⟩
theorem raise_yes {g : Nat} {A : Nat → Int} {M P x y : BitVec 64} (n : Int) (hn : 1 ≤ n ∧ n ≤ 64) (w : World) (h : St w g A M P x y) : Calls Tryd.prog 11 #[.pointer (some ⟨g, 0, none⟩), .int .i64 n] w fun e w' => e = .returned (.int .i64 0) ∧ St w' g A M (P ||| bitZ n) x y ∧ Fr (fun k => k = g) w w' := by
  have H := Lib.hid bit_any
  have h0 := bit_zero n
  rw [decide_eq_true hn, Bool.not_true] at h0
  have HB := Lib.hid h
  clear hn h
  go_enter Tryd.func11, Tryd.ntmps11
  go_wp2_with fail
  refine (H.out _ _).mono ?_
  rintro e w1 ⟨rfl, hf⟩
  have HF := Lib.hid hf
  have HB := Lib.hid (HB.out.fr hf id)
  clear hf
  go_wp2_with fail
  obtain ⟨k1, k2⟩ := HB.out.drew.pf
  go_region_with (go_at_call 13; refine (H.out _ _).mono ?_; rintro e w2 ⟨rfl, hf2⟩; obtain ⟨k3, k4⟩ := (HB.out.drew.fr hf2 id).pf)
  all_goals
    go_wp2
    go_ret
    exact ⟨rfl, (HB.out.drew.fr hf2 id).setP _, (HF.out.trans hf2.undrew (fun _ _ => id)).own _⟩
end Go.Proofs.YtdlcejnkicdjnaaDoor.Sg
