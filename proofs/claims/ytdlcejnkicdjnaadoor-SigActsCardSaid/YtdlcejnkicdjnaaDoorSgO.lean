/- For SigOrder: the array of what came; what holds at the heads of its loops: plain. -/
import Derived.Test.YtdlcejnkicdjnaaDoorSgL
namespace Go.Proofs.YtdlcejnkicdjnaaDoor.Sg
open Go Go.RowKit Go.Proofs.YtdlcejnkicdjnaaDoorW.PrintWords Go.Proofs.YtdlcejnkicdjnaaDoorW.PrintLast Go.Proofs.YtdlcejnkicdjnaaDoorW.PrintMore
open Go.Proofs.YtdlcejnkicdjnaaDoor.Hp Go.Proofs.YtdlcejnkicdjnaaDoor.Bv
attribute [local go_sem] max2_int min2_int max_two min_two max_three min_three max_four min_four
attribute [local go_sem] wrap_add wrap_sub wrap_mul wrap_neg and_U or_U xor_U andNot_U wrap_U
set_option linter.unusedVariables false
set_option linter.unusedSimpArgs false
/-- 65 bools. -/
def comeA (f : Nat → Bool) : Array Value := ((List.range 65).map (fun i => Value.bool (f i))).toArray
theorem comeA_size (f : Nat → Bool) : (comeA f).size = 65 := by simp [comeA]
theorem comeA_get (f : Nat → Bool) (i : Nat) (h : i < 65) : (comeA f)[i]? = some (.bool (f i)) := by
  unfold comeA
  rw [List.getElem?_toArray, List.getElem?_map, List.getElem?_range h]
  rfl
def updB (f : Nat → Bool) (i : Nat) (b : Bool) : Nat → Bool := fun k => if k = i then b else f k
theorem comeA_set (f : Nat → Bool) (i : Nat) (b : Bool) (h : i < 65) : (comeA f).setIfInBounds i (.bool b) = comeA (updB f i b) := by
  apply Array.ext_getElem?
  intro k
  rw [set_at]
  by_cases hk : k < 65
  · rw [comeA_get (updB f i b) k hk]
    unfold updB
    by_cases c : i = k
    · subst c
      rw [if_pos rfl, if_pos (by rw [comeA_size]; exact h), if_pos rfl]
    · rw [if_neg c, if_neg (fun e => c e.symm), comeA_get _ _ hk]
  · rw [if_neg (by omega), Array.getElem?_eq_none (by rw [comeA_size]; omega), Array.getElem?_eq_none (by rw [comeA_size]; omega)]
theorem zero_come (w : World) : Sem.run Tryd.prog (zeroValue 29) w = .ok (.agg (comeA (fun _ => false))) w := by kernel_rfl
theorem U_eq0 (b : BitVec 64) : (U b == 0) = (b == 0#64) := by
  by_cases c : b = 0#64
  · rw [c]; rfl
  · rw [beq_eq_false_iff_ne.2 c]
    exact beq_eq_false_iff_ne.2 (fun e => c (U_zero.1 e))
theorem bit_at (M : BitVec 64) (j : Nat) (h : j < 64) : (U (M &&& bitZ ((j : Int) + 1)) == 0) = !(M.getLsbD j) := by
  rw [U_eq0, bitZ_at j h]
  cases hm : M.getLsbD j
  · refine beq_iff_eq.2 (BitVec.eq_of_getLsbD_eq fun i hi => ?_)
    rw [BitVec.getLsbD_and, BitVec.getLsbD_shiftLeft]
    by_cases c : i = j
    · subst c; simp [hm]
    · by_cases c2 : i < j
      · simp [c2]
      · have : i - j ≠ 0 := by omega
        simp [this]
  · refine beq_eq_false_iff_ne.2 fun e => ?_
    have h1 : (M &&& 1#64 <<< j).getLsbD j = (0#64).getLsbD j := by rw [e]
    rw [BitVec.getLsbD_and, BitVec.getLsbD_shiftLeft, hm] at h1
    simp [h] at h1
theorem or_bit_at (P : BitVec 64) (k i : Nat) (hk : k < 64) (hi : i < 64) : (P ||| bitZ ((k : Int) + 1)).getLsbD i = (P.getLsbD i || decide (i = k)) := by
  rw [bitZ_at k hk, BitVec.getLsbD_or, BitVec.getLsbD_shiftLeft]
  by_cases c : i = k
  · subst c; simp [hi]
  · by_cases c2 : i < k
    · simp [c, c2, hi]
    · have : i - k ≠ 0 := by omega
      simp [c, c2, hi, this]
/-- Loop 1: what came is what is pending. -/
def Came (P : BitVec 64) (f : Nat → Bool) : Prop := f 0 = false ∧ ∀ j, j < 64 → f (j + 1) = P.getLsbD j
theorem came0 : Came 0#64 (fun _ => false) := ⟨rfl, fun j _ => by simp⟩
theorem came_step {P : BitVec 64} {f : Nat → Bool} (h : Came P f) (k : Nat) (hk : k < 64) : Came (P ||| bitZ ((k : Int) + 1)) (updB f (k + 1) true) := by
  refine ⟨by unfold updB; rw [if_neg (by omega)]; exact h.1, fun j hj => ?_⟩
  rw [or_bit_at P k j hk hj]
  unfold updB
  by_cases c : j = k
  · subst c; simp
  · rw [if_neg (by omega), h.2 j hj, decide_eq_false c, Bool.or_false]
/-- Loop 2: below the last one taken all that is not masked is done. -/
def Mid2 (M P : BitVec 64) (f : Nat → Bool) (l : Nat) : Prop :=
  f 0 = false ∧ (∀ j, j < 64 → M.getLsbD j = true → f (j + 1) = P.getLsbD j) ∧ (∀ j, j < 64 → M.getLsbD j = false → l ≤ j → f (j + 1) = P.getLsbD j) ∧
    ∀ j, j < 64 → M.getLsbD j = false → j < l → P.getLsbD j = false ∧ (f (j + 1) = true → quietZ ((j + 1 : Nat) : Int) = true)
theorem mid2_0 {M P : BitVec 64} {f : Nat → Bool} (h : Came P f) : Mid2 M P f 0 :=
  ⟨h.1, fun j hj _ => h.2 j hj, fun j hj _ _ => h.2 j hj, fun j _ _ hl => absurd hl (Nat.not_lt_zero _)⟩
theorem pass0 (n : Int) : passZ 0 n = quietZ n := by simp [passZ]
/-- One is taken. -/
theorem mid2_take {M P P' : BitVec 64} {f : Nat → Bool} {l k : Nat} (h : Mid2 M P f l) (hk : k < 64) (h1 : P.getLsbD k = true) (h2 : M.getLsbD k = false) (hs : ∀ i, i < k → P.getLsbD i = true → M.getLsbD i = false → passZ 0 ((i + 1 : Nat) : Int) = true)
    (hp : ∀ i, i < 64 → P'.getLsbD i = (P.getLsbD i && (decide (k < i) || M.getLsbD i))) : l ≤ k ∧ f (k + 1) = true ∧ Mid2 M P' (updB f (k + 1) false) (k + 1) := by
  obtain ⟨h0, ha, hb, hc⟩ := h
  have hl : l ≤ k := by
    rcases Nat.lt_or_ge k l with c | c
    · rw [(hc k hk h2 c).1] at h1; cases h1
    · exact c
  refine ⟨hl, (hb k hk h2 hl).trans h1, by unfold updB; rw [if_neg (by omega)]; exact h0, fun j hj hm => ?_, fun j hj hm hlj => ?_, fun j hj hm hlj => ?_⟩
  · have hne : j ≠ k := fun e => by subst e; rw [hm] at h2; cases h2
    unfold updB
    rw [if_neg (by omega), ha j hj hm, hp j hj, hm, Bool.or_true, Bool.and_true]
  · unfold updB
    rw [if_neg (by omega), hb j hj hm (by omega), hp j hj, decide_eq_true (by omega), Bool.true_or, Bool.and_true]
  · refine ⟨by rw [hp j hj, hm, decide_eq_false (by omega)]; simp, fun hf => ?_⟩
    unfold updB at hf
    by_cases c : j = k
    · subst c; rw [if_pos rfl] at hf; cases hf
    · rw [if_neg (by omega)] at hf
      by_cases c2 : j < l
      · exact (hc j hj hm c2).2 hf
      · rw [hb j hj hm (by omega)] at hf
        have := hs j (by omega) hf hm
        rwa [pass0] at this
/-- Loop 3: nothing but masked ones wait; what came and is not masked was quiet. -/
def Last3 (M P : BitVec 64) (f : Nat → Bool) : Prop := ∀ j, j < 64 → (M.getLsbD j = true → f (j + 1) = P.getLsbD j) ∧ (M.getLsbD j = false → P.getLsbD j = false ∧ (f (j + 1) = true → quietZ ((j + 1 : Nat) : Int) = true))
theorem mid2_end {M P P' : BitVec 64} {f : Nat → Bool} {l : Nat} (h : Mid2 M P f l) (hs : ∀ i, i < 64 → P.getLsbD i = true → M.getLsbD i = false → passZ 0 ((i + 1 : Nat) : Int) = true)
    (hp : ∀ i, i < 64 → P'.getLsbD i = (P.getLsbD i && M.getLsbD i)) : Last3 M P' f := by
  obtain ⟨h0, ha, hb, hc⟩ := h
  refine fun j hj => ⟨fun hm => by rw [ha j hj hm, hp j hj, hm, Bool.and_true], fun hm => ⟨by rw [hp j hj, hm, Bool.and_false], fun hf => ?_⟩⟩
  by_cases c : j < l
  · exact (hc j hj hm c).2 hf
  · rw [hb j hj hm (by omega)] at hf
    have := hs j hj hf hm
    rwa [pass0] at this
end Go.Proofs.YtdlcejnkicdjnaaDoor.Sg
