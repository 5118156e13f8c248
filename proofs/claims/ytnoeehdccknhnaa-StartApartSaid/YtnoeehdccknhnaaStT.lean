/- The parameters of the laws, opened. -/
import Derived.Test.YtnoeehdccknhnaaStK
import Derived.SliceStrings
import Derived.SizedLaws
import Derived.OpenShut
import Derived.WideLaws
import Derived.Deep.Slices
import Derived.WideShapes
import Derived.ChangeArms
namespace Go.Proofs.Ytnoeehdccknhnaa.St
open Go Go.ChangeShapes Go.WideShapes Go.RowKit Go.Proofs.YtnoeehdccknhnaaW.PrintWords Go.Proofs.YtnoeehdccknhnaaW.PrintLast Go.Proofs.YtnoeehdccknhnaaW.PrintMore
open Go.Proofs.Ytnoeehdccknhnaa.Hp
attribute [local go_sem] max2_int min2_int max_two min_two max_three min_three max_four min_four
set_option linter.unusedVariables false
set_option linter.unusedSimpArgs false
/-- Texts that came in. -/
def Texts (w : World) (v : Value) : Prop := ∃ (A : Option Addr) (c : Nat) (l : List ByteArray), v = .slice A l.length c ∧ l.length ≤ c ∧ l.length ≤ 140737488351232 ∧ Kd.string.C w A l.length l ∧ ∀ s ∈ l, s.size ≤ 140737488351232
/-- A program that came in. -/
def Prg (v : Value) : Prop := ∃ (entry phdr phnum phsize : Int) (seg : Value), v = .agg #[.int .u64 entry, seg, .int .u64 phdr, .int .i64 phnum, .int .i64 phsize] ∧ seg.oneCell' = true ∧ (0 ≤ entry ∧ entry < 18446744073709551616) ∧ (0 ≤ phdr ∧ phdr < 18446744073709551616)
/-- Sixteen bytes that came in. -/
def Rnd (v : Value) : Prop := ∃ rs : List Int, rs.length = 16 ∧ (∀ r ∈ rs, 0 ≤ r ∧ r ≤ 255) ∧ v = .agg (nums .u8 rs).toArray
section
variable {H : Type} {enc : TypeId × Value → H} {W : World} {base : Nat} {v : Value} {d : DataW H} {p : List MemPlace}
theorem mem_weights (l : List ByteArray) (s : ByteArray) (h : s ∈ l) : s.data.toList.length ∈ DataW.weightsAll Try.prog 9 (strs (H := H) l) := by
  induction l with
  | nil => cases h
  | cons a r ih =>
    simp only [strs, List.map_cons, DataW.weightsAll, List.mem_append]
    rcases List.mem_cons.1 h with rfl | h
    · left
      simp [DataW.weights]
    · right
      exact ih h
theorem open_texts {ts : List TypeId} {ds : List (DataW H)} {j : Nat} (hsz : (DataW.weightsEach Try.prog ts ds).all (· ≤ reachBytes) = true) (ht : ts[j]? = some 22) (hd : ds[j]? = some d) (hv : Value.okWide Try.prog W .any base 22 v) (h : DataW.Trod enc Try.prog W 0 (fun _ => true) true 22 v d p) : Texts W v := by
  obtain ⟨a, len, cap, rfl⟩ := okWide_slice Try.underlying22 hv
  obtain ⟨fuel, hf⟩ := h
  rcases open_strings Try.underlying22 Try.underlying9 (by kernel_rfl) hf with ⟨hcs, hx⟩ | ⟨x, len', cap', ss, hcs, _, hl, hm, hz, hx, hcell, _⟩
  · simp [Value.cells] at hcs
    obtain ⟨rfl, rfl, rfl⟩ := hcs
    exact ⟨none, 0, [], rfl, Nat.le_refl _, Nat.zero_le _, str_nil W, fun s hs => by cases hs⟩
  · simp [Value.cells] at hcs
    obtain ⟨rfl, rfl, rfl⟩ := hcs
    have hl2 : len ≤ ss.length := by
      rw [hz]
      split
      · exact hl
      · exact Nat.le_refl _
    have hlen : (ss.take len).length = len := by rw [List.length_take]; omega
    have hx1 := congrArg Prod.fst hx
    simp only at hx1
    subst hx1
    have hz2 := sized_slice hsz ht hd Try.underlying22
    have hb16 : Try.prog.bytesOf 9 = 16 := by kernel_rfl
    have e : reachBytes = 140737488351232 := rfl
    rw [hb16, e] at hz2
    have hz3 : (strs (H := H) (ss.take len)).length = len := by simp [strs]; omega
    rw [hz3] at hz2
    refine ⟨some x, cap, ss.take len, by rw [hlen], by rw [hlen]; exact hl, by rw [hlen]; omega, ?_, fun s hs => ?_⟩
    · rw [hlen]
      refine Kd.C_of_reads (d := ByteArray.empty) (h1 := fun _ => rfl) ⟨hlen, by unfold maxLen at hm; omega, fun _ => ⟨x, rfl, fun i hi => ?_⟩⟩
      rw [hcell i (by omega)]
      simp [List.getD_eq_getElem?_getD, List.getElem?_take, hi]
    · have hmem : s.data.toList.length ∈ DataW.weights Try.prog 22 (.slice (strs (H := H) (ss.take len)) (strs (ss.drop len))) := by
        simp only [DataW.weights, Try.underlying22, List.mem_cons, List.mem_append]
        exact .inr (.inl (mem_weights _ s hs))
      have hle := List.all_eq_true.1 hsz _ (DataW.weights_mem_each ht hd _ hmem)
      rw [e] at hle
      have hle2 : s.data.toList.length ≤ 140737488351232 := by simpa using hle
      rw [Array.length_toList] at hle2
      exact hle2
theorem szOf_le (l : List ByteArray) (K : Nat) (h : ∀ s ∈ l, s.size ≤ K) : szOf l ≤ l.length * (K + 1) := by
  induction l with
  | nil => simp [szOf]
  | cons a r ih =>
    have h1 := ih (fun s hs => h s (List.mem_cons_of_mem _ hs))
    have h2 := h a List.mem_cons_self
    simp only [szOf, List.length_cons, Nat.succ_mul]
    omega
theorem fits_texts {l1 l2 : List ByteArray} (h1 : ∀ s ∈ l1, s.size ≤ 140737488351232) (h2 : ∀ s ∈ l2, s.size ≤ 140737488351232) (h : l1.length + l2.length ≤ 400) : fitsAll l1 l2 := by
  have a1 := szOf_le l1 _ h1
  have a2 := szOf_le l2 _ h2
  unfold fitsAll
  have b1 : l1.length * (140737488351232 + 1) ≤ 400 * (140737488351232 + 1) := Nat.mul_le_mul_right _ (by omega)
  have b2 : l2.length * (140737488351232 + 1) ≤ 400 * (140737488351232 + 1) := Nat.mul_le_mul_right _ (by omega)
  omega
theorem open_prog (hv : Value.okWide Try.prog W .any base 26 v) (h : DataW.Trod enc Try.prog W 0 (fun _ => true) true 26 v d p) : Prg v := by
  obtain ⟨cs, rfl, hsz⟩ := okWide_struct Try.underlying26 hv
  have hC : Try.prog.cellsOf 26 = 5 := by kernel_rfl
  have q1 : Try.prog.cellsOf 3 = 1 := by kernel_rfl
  have q2 : Try.prog.cellsOf 23 = 1 := by kernel_rfl
  have q3 : Try.prog.cellsOf 24 = 1 := by kernel_rfl
  rw [hC] at hsz
  obtain ⟨l⟩ := cs
  have hsz' : l.length = 5 := hsz
  match l, hsz' with
  | [c0, c1, c2, c3, c4], _ =>
  obtain ⟨fuel, hf⟩ := h
  obtain ⟨xs, m, _, _, _, hxl, hg⟩ := DataW.trod_struct Try.underlying26 hf
  match xs, hxl with
  | [y0, y1, y2, y3, y4], _ =>
  have g0 := hg 0 _ rfl
  have g1 := hg 1 _ rfl
  have g2 := hg 2 _ rfl
  have g3 := hg 3 _ rfl
  have g4 := hg 4 _ rfl
  simp [q1, q2, q3, Value.cells] at g0 g1 g2 g3 g4
  obtain ⟨entry, e0, _, w0⟩ := DataW.trod_int Try.underlying23 g0
  obtain ⟨phdr, e2, _, w2⟩ := DataW.trod_int Try.underlying23 g2
  obtain ⟨phnum, e3, _, w3⟩ := DataW.trod_int Try.underlying3 g3
  obtain ⟨phsize, e4, _, w4⟩ := DataW.trod_int Try.underlying3 g4
  have b0 := Go.bounds_u64 w0
  have b2 := Go.bounds_u64 w2
  have h1 : c1.oneCell' = true := by
    rcases DataW.trod_slice Try.underlying24 g1 with ⟨e, _⟩ | ⟨a, len, cap, elems, rest, n, _, e, _⟩
    · simp at e
      subst e
      rfl
    · simp at e
      subst e
      rfl
  simp at e0 e2 e3 e4
  subst e0 e2 e3 e4
  exact ⟨entry, phdr, phnum, phsize, c1, rfl, h1, by omega, by omega⟩
theorem open_rnd (hv : Value.okWide Try.prog W .any base 27 v) (h : DataW.Trod enc Try.prog W 0 (fun _ => true) true 27 v d p) : Rnd v := by
  simp only [Value.okWide, Try.underlying27] at hv
  obtain ⟨cs, rfl, hsz, _⟩ := hv
  have hC : Try.prog.cellsOf 27 = 16 := by kernel_rfl
  have q1 : Try.prog.cellsOf 5 = 1 := by kernel_rfl
  rw [hC] at hsz
  obtain ⟨l⟩ := cs
  have hsz' : l.length = 16 := hsz
  obtain ⟨fuel, hf⟩ := h
  obtain ⟨xs, m, _, _, _, hxl, hg⟩ := DataW.trod_array Try.underlying27 hf
  have each : ∀ i, (hi : i < l.length) → ∃ r : Int, l[i] = .int .u8 r ∧ 0 ≤ r ∧ r ≤ 255 := fun i hi => by
    have g := hg i (by omega)
    rw [q1, Nat.mul_one, List.getElem?_eq_getElem (by omega)] at g
    obtain ⟨r, e, _, w⟩ := DataW.trod_int Try.underlying5 g
    have b := Go.bounds_u8 w
    refine ⟨r, ?_, b.1, by omega⟩
    have e2 : ((Value.agg l.toArray).cells.toList.drop i).take 1 = [l[i]] := by
      show (l.drop i).take 1 = _
      rw [List.drop_eq_getElem_cons hi]
      rfl
    have e3 : [l[i]] = [Value.int .u8 r] := by rw [← e2]; exact e
    injection e3
  refine ⟨l.map (fun v => match v with | .int _ x => x | _ => 0), by rw [List.length_map, hsz'], fun r hr => ?_, ?_⟩
  · obtain ⟨v, hv, rfl⟩ := List.mem_map.1 hr
    obtain ⟨i, hi, rfl⟩ := List.getElem_of_mem hv
    obtain ⟨r, e, h0, h1⟩ := each i hi
    rw [e]
    exact ⟨h0, h1⟩
  · congr 1
    congr 1
    apply List.ext_getElem
    · simp [nums]
    · intro i h1 h2
      obtain ⟨r, e, _, _⟩ := each i h1
      simp only [nums, List.map_map, List.getElem_map, e, Function.comp]
end
end Go.Proofs.Ytnoeehdccknhnaa.St
