/- A signals' state: Take, walked: the least signal that is pending, not masked, and not passed over. -/
import Derived.Test.YtdlcejnkicdjnaaDoorSgD
import Derived.Deep.LoopGhost
namespace Go.Proofs.YtdlcejnkicdjnaaDoor.Sg
open Go Go.RowKit Go.Proofs.YtdlcejnkicdjnaaDoorW.PrintWords Go.Proofs.YtdlcejnkicdjnaaDoorW.PrintLast Go.Proofs.YtdlcejnkicdjnaaDoorW.PrintMore
open Go.Proofs.YtdlcejnkicdjnaaDoor.Hp Go.Proofs.YtdlcejnkicdjnaaDoor.Bv
attribute [local go_sem] max2_int min2_int max_two min_two max_three min_three max_four min_four
attribute [local go_sem] wrap_add wrap_sub wrap_mul wrap_neg and_U or_U xor_U andNot_U wrap_U
set_option linter.unusedVariables false
set_option linter.unusedSimpArgs false
section
variable {P : Program}
theorem results_tct {fn : Func} {p u v : Tmp} {ty : TypeId} (h : fn.results = #[.tmp u, .cell p ty, .tmp v]) (tmps : Array Value) (w : World) (g : Nat) (t : TypeId) (cs : Array Value) (fr : Nat × Nat) (d : TypeDesc)
    (hp : tmps.getD p undef = .pointer (some ⟨g, 0, none⟩)) (hg : w.heap[g]? = some (.cells cs t fr))
    (hu : P.underlying ty = some d) (hd : (match d with | .struct _ | .array _ _ => true | _ => false) = true) (hi : (P.info? ty).map (·.size) = some cs.size) :
    (results fn tmps).run P w = .ok (.tuple #[tmps.getD u undef, .agg cs, tmps.getD v undef]) w := by
  have hp' : tmps[p]?.getD undef = .pointer (some ⟨g, 0, none⟩) := by simpa using hp
  simp [results, h, hp', asAddr, run_loadVar_row w g t ty cs fr d hg hu hd hi]
end
/-- An action's three cells, of signal n; none of 0. -/
def actC (A : Nat → Int) (n : Nat) : Array Value := if n = 0 then #[.int .u64 0, .int .u64 0, .int .u64 0] else #[.int .u64 (A (n * 3)), .int .u64 (A (n * 3 + 1)), .int .u64 (A (n * 3 + 2))]
/-- What Take answers, and which signals are pending behind it. -/
def TakeOk (A : Nat → Int) (M P : BitVec 64) (n : Nat) (P' : BitVec 64) : Prop :=
  (n = 0 ∧ (∀ i, i < 64 → P.getLsbD i = true → M.getLsbD i = false → passZ (A ((i + 1) * 3)) ((i + 1 : Nat) : Int) = true) ∧ ∀ i, i < 64 → P'.getLsbD i = (P.getLsbD i && M.getLsbD i)) ∨
  ∃ k, k < 64 ∧ n = k + 1 ∧ P.getLsbD k = true ∧ M.getLsbD k = false ∧ passZ (A ((k + 1) * 3)) ((k + 1 : Nat) : Int) = false ∧
    (∀ i, i < k → P.getLsbD i = true → M.getLsbD i = false → passZ (A ((i + 1) * 3)) ((i + 1 : Nat) : Int) = true) ∧ ∀ i, i < 64 → P'.getLsbD i = (P.getLsbD i && (decide (k < i) || M.getLsbD i))
/-- In the middle of Take: below j all is done. -/
def MidOk (A : Nat → Int) (M P Pc : BitVec 64) (j : Nat) : Prop :=
  (∀ i, i < 64 → Pc.getLsbD i = (P.getLsbD i && (decide (j ≤ i) || M.getLsbD i))) ∧ ∀ i, i < j → P.getLsbD i = true → M.getLsbD i = false → passZ (A ((i + 1) * 3)) ((i + 1 : Nat) : Int) = true
theorem low_R {M Pc : BitVec 64} {k q : Nat} (e : (Pc &&& ~~~M).toNat = 2 ^ (k + 1) * q + 2 ^ k) : k < 64 ∧ Pc.getLsbD k = true ∧ M.getLsbD k = false ∧ ∀ i, i < k → Pc.getLsbD i = true → M.getLsbD i = true := by
  have hk := low_lt (Pc &&& ~~~M).isLt e
  have hb : ∀ i, i < 64 → (Pc.getLsbD i && !(M.getLsbD i)) = if i < k then false else if i = k then true else q.testBit (i - (k + 1)) := fun i hi => by
    have h1 : (Pc &&& ~~~M).getLsbD i = (Pc &&& ~~~M).toNat.testBit i := rfl
    rw [low_bits e, BitVec.getLsbD_and, BitVec.getLsbD_not] at h1
    simpa [hi] using h1
  have h1 := hb k hk
  rw [if_neg (Nat.lt_irrefl _), if_pos rfl] at h1
  simp only [Bool.and_eq_true, Bool.not_eq_true'] at h1
  refine ⟨hk, h1.1, h1.2, fun i hi hp => ?_⟩
  have h2 := hb i (by omega)
  rw [if_pos hi, hp, Bool.true_and] at h2
  simpa using h2
theorem mid_none {A : Nat → Int} {M P Pc : BitVec 64} {j : Nat} (h : MidOk A M P Pc j) (hR : Pc &&& ~~~M = 0#64) : TakeOk A M P 0 Pc := by
  have hz : ∀ i, i < 64 → Pc.getLsbD i = true → M.getLsbD i = true := fun i hi hp => by
    have := congrArg (fun b : BitVec 64 => b.getLsbD i) hR
    simp only [BitVec.getLsbD_and, BitVec.getLsbD_not, hp, hi, decide_true, Bool.true_and, BitVec.getLsbD_zero] at this
    simpa using this
  refine .inl ⟨rfl, fun i hi hp hm => ?_, fun i hi => ?_⟩
  · by_cases c : j ≤ i
    · have := hz i hi (by rw [h.1 i hi, hp, decide_eq_true c]; rfl)
      rw [hm] at this
      cases this
    · exact h.2 i (by omega) hp hm
  · rw [h.1 i hi]
    by_cases c : j ≤ i
    · rw [decide_eq_true c, Bool.true_or, Bool.and_true]
      cases hp : P.getLsbD i
      · rfl
      · rw [hz i hi (by rw [h.1 i hi, hp, decide_eq_true c]; rfl)]
        rfl
    · rw [decide_eq_false c, Bool.false_or]
theorem clr_bit (Pc : BitVec 64) (k i : Nat) (hk : k < 64) (hi : i < 64) : (Pc &&& ~~~(bitZ ((k : Int) + 1))).getLsbD i = (Pc.getLsbD i && decide (i ≠ k)) := by
  rw [bitZ_at k hk, BitVec.getLsbD_and, BitVec.getLsbD_not, BitVec.getLsbD_shiftLeft]
  by_cases c : i = k
  · subst c; simp [hi]
  · by_cases c2 : i < k
    · simp [c, c2, hi]
    · have : i - k ≠ 0 := by omega
      simp [c, c2, hi, this]
theorem mid_bits {A : Nat → Int} {M P Pc : BitVec 64} {j k q : Nat} (h : MidOk A M P Pc j) (e : (Pc &&& ~~~M).toNat = 2 ^ (k + 1) * q + 2 ^ k) : j ≤ k ∧ k < 64 ∧ P.getLsbD k = true ∧ M.getLsbD k = false ∧
    (∀ i, i < k → P.getLsbD i = true → M.getLsbD i = false → passZ (A ((i + 1) * 3)) ((i + 1 : Nat) : Int) = true) ∧
    ∀ i, i < 64 → (Pc &&& ~~~(bitZ ((k : Int) + 1))).getLsbD i = (P.getLsbD i && (decide (k < i) || M.getLsbD i)) := by
  obtain ⟨hk, h1, h2, h3⟩ := low_R e
  have h4 := h.1 k hk
  rw [h1, h2, Bool.or_false] at h4
  have h4 := h4.symm
  rw [Bool.and_eq_true, decide_eq_true_eq] at h4
  refine ⟨h4.2, hk, h4.1, h2, fun i hi hp hm => ?_, fun i hi => ?_⟩
  · by_cases c : j ≤ i
    · have := h3 i hi (by rw [h.1 i (by omega), hp, decide_eq_true c]; rfl)
      rw [hm] at this
      cases this
    · exact h.2 i (by omega) hp hm
  · rw [clr_bit Pc k i hk hi, h.1 i hi]
    by_cases c : i = k
    · subst c; simp [h2]
    · by_cases c2 : k < i
      · simp [c, c2, show j ≤ i by omega]
      · have c3 : i < k := by omega
        cases hm : M.getLsbD i
        · by_cases c4 : j ≤ i
          · cases hp : P.getLsbD i
            · rfl
            · have := h3 i c3 (by rw [h.1 i hi, hp, decide_eq_true c4]; rfl)
              rw [hm] at this
              cases this
          · simp [c, c2, c4]
        · simp [c]
theorem mid_next {A : Nat → Int} {M P Pc : BitVec 64} {j k q : Nat} (h : MidOk A M P Pc j) (e : (Pc &&& ~~~M).toNat = 2 ^ (k + 1) * q + 2 ^ k) (hp : passZ (A ((k + 1) * 3)) ((k + 1 : Nat) : Int) = true) : MidOk A M P (Pc &&& ~~~(bitZ ((k : Int) + 1))) (k + 1) := by
  obtain ⟨_, hk, _, h2, h3, h4⟩ := mid_bits h e
  refine ⟨fun i hi => (h4 i hi).trans (by simp only [Nat.lt_iff_add_one_le]), fun i hi hq hm => ?_⟩
  rcases Nat.lt_succ_iff_lt_or_eq.1 hi with h5 | h5
  · exact h3 i h5 hq hm
  · subst h5; exact hp
theorem mid_done {A : Nat → Int} {M P Pc : BitVec 64} {j k q : Nat} (h : MidOk A M P Pc j) (e : (Pc &&& ~~~M).toNat = 2 ^ (k + 1) * q + 2 ^ k) (hp : passZ (A ((k + 1) * 3)) ((k + 1 : Nat) : Int) = false) : TakeOk A M P (k + 1) (Pc &&& ~~~(bitZ ((k : Int) + 1))) := by
  obtain ⟨_, hk, h1, h2, h3, h4⟩ := mid_bits h e
  exact .inr ⟨k, hk, rfl, h1, h2, hp, h3, h4⟩
end Go.Proofs.YtdlcejnkicdjnaaDoor.Sg
