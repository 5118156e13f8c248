/- Pages and regions that say the same: plain laws; built: walked. -/
import Derived.Test.YtnaiccgbjcppaaaRgO
namespace Go.Proofs.Ytnaiccgbjcppaaa.Rg
open Go Go.RowKit Go.Proofs.YtnaiccgbjcppaaaW.PrintWords Go.Proofs.YtnaiccgbjcppaaaW.PrintLast Go.Proofs.YtnaiccgbjcppaaaW.PrintMore
open Go.Proofs.Ytnaiccgbjcppaaa.Hp
attribute [local go_sem] max2_int min2_int max_two min_two max_three min_three max_four min_four
set_option linter.unusedVariables false
set_option linter.unusedSimpArgs false
abbrev pm (P : List Pg) : List Rg := P.map pgR
theorem lk_filter (a b : Nat) (P : List Pg) (y : Int) : lk (pm (withoutP ((a : Int) * 4096) ((b : Int) * 4096) P)) y = if (a : Int) * 4096 ≤ y ∧ y < (b : Int) * 4096 then none else lk (pm P) y := by
  induction P with
  | nil => simp [withoutP, pm, lk_nil]
  | cons x t ih =>
    unfold pm withoutP at *
    rw [List.map_cons, lk_cons]
    by_cases hx : outB ((a : Int) * 4096) ((b : Int) * 4096) x = true
    · rw [List.filter_cons_of_pos hx, List.map_cons, lk_cons, ih]
      by_cases hy : inR y (pgR x)
      · rw [if_pos hy, if_pos hy, if_neg]
        unfold inR pgR at hy
        unfold outB at hx
        simp only [Bool.or_eq_true, decide_eq_true_eq] at hx hy
        omega
      · rw [if_neg hy, if_neg hy]
    · rw [List.filter_cons_of_neg hx, ih]
      by_cases hy : inR y (pgR x)
      · rw [if_pos hy, if_pos, if_pos]
        · unfold inR pgR at hy
          unfold outB at hx
          simp only [Bool.or_eq_true, decide_eq_true_eq] at hx hy
          omega
        · unfold inR pgR at hy
          unfold outB at hx
          simp only [Bool.or_eq_true, decide_eq_true_eq] at hx hy
          omega
      · rw [if_neg hy]
theorem ok_filter (a b : Int) (P : List Pg) (h : Okl (pm P)) : Okl (pm (withoutP a b P)) := by
  refine ⟨fun r hr => ?_, ?_⟩
  · obtain ⟨x, hx, rfl⟩ := List.mem_map.1 hr
    exact h.val _ (List.mem_map.2 ⟨x, (List.mem_filter.1 hx).1, rfl⟩)
  · exact h.srt.sublist (List.Sublist.map pgR List.filter_sublist)
theorem pgAt_eq (P : List Pg) (i : Nat) (h : i < P.length) : pgAt P i = P[i] := by
  unfold pgAt
  rw [List.getD_eq_getElem?_getD, List.getElem?_eq_getElem h]
  rfl
/-- The pages between are in order, and say what they should. -/
theorem new_ok (a N : Nat) (p : Int) (M : List Pg) (ha : a + N ≤ 1000) (hM : M.length = N) (hv : ∀ i, i < N → (pgAt M i).n = ((a + i : Nat) : Int) ∧ (pgAt M i).p = p) : Okl (pm M) ∧ (∀ x ∈ M, (a : Int) * 4096 ≤ x.n * 4096 ∧ x.n * 4096 + 4096 ≤ ((a + N : Nat) : Int) * 4096 ∧ x.p = p) := by
  have hmem : ∀ x ∈ M, (a : Int) * 4096 ≤ x.n * 4096 ∧ x.n * 4096 + 4096 ≤ ((a + N : Nat) : Int) * 4096 ∧ x.p = p := fun x hx => by
    obtain ⟨i, hi, e⟩ := List.mem_iff_getElem.1 hx
    have h := hv i (by omega)
    rw [pgAt_eq M i hi, e] at h
    omega
  refine ⟨⟨fun r hr => ?_, ?_⟩, hmem⟩
  · obtain ⟨x, hx, rfl⟩ := List.mem_map.1 hr
    have h := hmem x hx
    unfold gd pgR
    simp only
    omega
  · rw [List.pairwise_map]
    refine List.pairwise_iff_getElem.2 fun i j hi hj hij => ?_
    have h1 := hv i (by omega)
    have h2 := hv j (by omega)
    rw [pgAt_eq M i hi] at h1
    rw [pgAt_eq M j hj] at h2
    unfold pgR
    simp only
    omega
theorem new_lk (a N : Nat) (p : Int) (M : List Pg) (ha : a + N ≤ 1000) (hM : M.length = N) (hv : ∀ i, i < N → (pgAt M i).n = ((a + i : Nat) : Int) ∧ (pgAt M i).p = p) (y : Int) : lk (pm M) y = if (a : Int) * 4096 ≤ y ∧ y < ((a + N : Nat) : Int) * 4096 then some p else none := by
  obtain ⟨hok, hmem⟩ := new_ok a N p M ha hM hv
  by_cases hy : (a : Int) * 4096 ≤ y ∧ y < ((a + N : Nat) : Int) * 4096
  · rw [if_pos hy]
    obtain ⟨i, hi⟩ : ∃ i : Nat, y / 4096 = ((a + i : Nat) : Int) := ⟨(y / 4096 - a).toNat, by omega⟩
    have hiN : i < N := by omega
    have h := hv i hiN
    have hm := pgAt_mem M i (by omega)
    rw [← h.2]
    refine lk_mem hok (List.mem_map.2 ⟨_, hm, rfl⟩) (r := pgR (pgAt M i)) ?_
    unfold inR pgR
    simp only
    omega
  · rw [if_neg hy]
    refine lk_none _ _ fun r hr hin => hy ?_
    obtain ⟨x, hx, rfl⟩ := List.mem_map.1 hr
    have h := hmem x hx
    unfold inR pgR at hin
    simp only at hin
    omega
theorem lay_ok {a N : Nat} {p : Int} {P P' : List Pg} (h : Okl (pm P)) (hs : Small P) (hN : 0 < N) (ha : a + N ≤ 1000) (hl : LayP a N p P P') : Okl (pm P') ∧ Small P' ∧ (∀ y, lk (pm P') y = if (a : Int) * 4096 ≤ y ∧ y < ((a + N : Nat) : Int) * 4096 then some p else lk (pm P) y) ∧ P'.length ≤ P.length + N := by
  obtain ⟨k, M, hk, hlow, hhigh, hML, hMv, rfl⟩ := hl
  obtain ⟨R, hR⟩ : ∃ R, withoutP ((a : Int) * 4096) (((a + N : Nat) : Int) * 4096) P = R := ⟨_, rfl⟩
  have hRok := ok_filter ((a : Int) * 4096) (((a + N : Nat) : Int) * 4096) P h
  have hRlk := lk_filter a (a + N) P
  have hRs := hs.without ((a : Int) * 4096) (((a + N : Nat) : Int) * 4096)
  have hRl := withoutP_len ((a : Int) * 4096) (((a + N : Nat) : Int) * 4096) P
  have hRo : ∀ x ∈ R, outB ((a : Int) * 4096) (((a + N : Nat) : Int) * 4096) x = true := fun x hx => by
    rw [← hR] at hx
    exact (List.mem_filter.1 hx).2
  rw [hR] at hk hlow hhigh hRok hRlk hRs hRl ⊢
  obtain ⟨hMok, hMm⟩ := new_ok a N p M ha hML hMv
  have hX : ∀ x ∈ R.take k, x.n * 4096 + 4096 ≤ (a : Int) * 4096 := fun x hx => by
    obtain ⟨i, hi, e⟩ := List.mem_iff_getElem.1 hx
    have hi2 : i < R.length := by rw [List.length_take] at hi; omega
    have hik : i < k := by rw [List.length_take] at hi; omega
    rw [List.getElem_take] at e
    have h1 := hlow i hik
    rw [pgAt_eq R i hi2, e] at h1
    omega
  have hsrt : ∀ i j (hi : i < R.length) (hj : j < R.length), i < j → R[i].n * 4096 + 4096 ≤ R[j].n * 4096 := by
    have h1 := hRok.srt
    rw [List.pairwise_map] at h1
    intro i j hi hj hij
    exact List.pairwise_iff_getElem.1 h1 i j hi hj hij
  have hY : ∀ x ∈ R.drop k, ((a + N : Nat) : Int) * 4096 ≤ x.n * 4096 := fun x hx => by
    obtain ⟨i, hi, e⟩ := List.mem_iff_getElem.1 hx
    have hi2 : k + i < R.length := by rw [List.length_drop] at hi; omega
    rw [List.getElem_drop] at e
    have hkl : k < R.length := by omega
    have h1 := hhigh hkl
    rw [pgAt_eq R k hkl] at h1
    have h3 : R[k].n * 4096 ≤ R[k + i].n * 4096 := by
      cases i with
      | zero => exact Int.le_refl _
      | succ i => have := hsrt k (k + (i + 1)) hkl hi2 (by omega); omega
    have h4 := hRo x (by rw [← e]; exact List.getElem_mem _)
    rw [e] at h3
    unfold outB at h4
    simp only [Bool.or_eq_true, decide_eq_true_eq] at h4
    omega
  have hpm : pm (R.take k ++ M ++ R.drop k) = pm (R.take k) ++ pm M ++ pm (R.drop k) := by unfold pm; rw [List.map_append, List.map_append]
  have hRsp : pm R = pm (R.take k) ++ pm (R.drop k) := by unfold pm; rw [← List.map_append, List.take_append_drop]
  have hp2 := hRok.srt
  rw [hRsp] at hp2
  obtain ⟨p1, p2, p3⟩ := List.pairwise_append.1 hp2
  refine ⟨⟨fun r hr => ?_, ?_⟩, fun x hx => ?_, fun y => ?_, ?_⟩
  · rw [hpm] at hr
    rcases List.mem_append.1 hr with hr | hr
    · rcases List.mem_append.1 hr with hr | hr
      · exact hRok.val r (by rw [hRsp]; exact List.mem_append_left _ hr)
      · exact hMok.val r hr
    · exact hRok.val r (by rw [hRsp]; exact List.mem_append_right _ hr)
  · rw [hpm]
    refine List.pairwise_append.2 ⟨List.pairwise_append.2 ⟨p1, hMok.srt, fun r hr q hq => ?_⟩, p2, fun r hr q hq => ?_⟩
    · obtain ⟨x, hx, rfl⟩ := List.mem_map.1 hr
      obtain ⟨z, hz, rfl⟩ := List.mem_map.1 hq
      have h1 := hX x hx
      have h2 := hMm z hz
      unfold pgR
      simp only
      omega
    · rcases List.mem_append.1 hr with hr | hr
      · exact p3 r hr q hq
      · obtain ⟨x, hx, rfl⟩ := List.mem_map.1 hr
        obtain ⟨z, hz, rfl⟩ := List.mem_map.1 hq
        have h1 := hMm x hx
        have h2 := hY z hz
        unfold pgR
        simp only
        omega
  · rcases List.mem_append.1 hx with hx | hx
    · rcases List.mem_append.1 hx with hx | hx
      · exact hRs x (List.mem_of_mem_take hx)
      · have := hMm x hx
        omega
    · exact hRs x (List.mem_of_mem_drop hx)
  · have hA := new_lk a N p M ha hML hMv y
    have hB := hRlk y
    rw [hRsp, lk_app] at hB
    rw [hpm, lk_app, lk_app, hA]
    by_cases hy : (a : Int) * 4096 ≤ y ∧ y < ((a + N : Nat) : Int) * 4096
    · rw [if_pos hy]
      rw [if_pos hy]
      have hXn : lk (pm (R.take k)) y = none := lk_none _ _ fun r hr hin => by
        obtain ⟨x, hx, rfl⟩ := List.mem_map.1 hr
        have h1 := hX x hx
        unfold inR pgR at hin
        simp only at hin
        omega
      rw [hXn]
      rfl
    · rw [if_neg hy] at hB ⊢
      rw [if_neg hy, Option.or_none]
      exact hB
  · rw [List.length_append, List.length_append, List.length_take, List.length_drop, hML]
    omega
/-- Regions and pages that say the same. -/
structure Pair (L : List Rg) (P : List Pg) : Prop where
  cl : Cl L
  ok : Okl (pm P)
  sm : Small P
  eq : ∀ y, lk L y = lk (pm P) y
  pr : ∀ y q, lk L y = some q → 0 ≤ q ∧ q ≤ 7
theorem Pair.nil : Pair [] [] := ⟨⟨Okl.nil, Can.nil⟩, Okl.nil, fun _ h => (by cases h), fun _ => rfl, fun _ _ h => (by cases h)⟩
theorem Pair.regs {L : List Rg} {P : List Pg} (h : Pair L P) : regsL P = L := (Cl.joined h.ok).uniq h.cl (fun y => by rw [lk_joined h.ok, h.eq])
theorem Pair.len {L : List Rg} {P : List Pg} (h : Pair L P) : L.length ≤ P.length := by rw [← h.regs]; exact regsL_len P
theorem mapB_at {a N : Nat} {p : Int} (hN : 0 < N) (ha : a + N ≤ 1000) (hp : 0 ≤ p ∧ p ≤ 7) : mapB ((a : Int) * 4096) (((a + N : Nat) : Int) * 4096) p = true := mapB_of a (a + N) rfl rfl (by omega) (by omega) hp
theorem Pair.map {L : List Rg} {P P' : List Pg} {a N : Nat} {p : Int} (h : Pair L P) (hN : 0 < N) (ha : a + N ≤ 1000) (hp : 0 ≤ p ∧ p ≤ 7) (hl : LayP a N p P P') (hn : P.length ≤ 127) : mapE L ((a : Int) * 4096) (((a + N : Nat) : Int) * 4096) p = 0 ∧ Pair (mapL L ((a : Int) * 4096) (((a + N : Nat) : Int) * 4096) p) P' := by
  obtain ⟨h1, h2, h3, h4⟩ := lay_ok h.ok h.sm hN ha hl
  have hlen := h.len
  obtain ⟨f1, f2, f3, f4⟩ := map_fits h.cl (mapB_at hN ha hp) (by omega) (by omega)
  refine ⟨f1, f2, h1, h2, fun y => by rw [f3, h3, h.eq], fun y q hq => ?_⟩
  rw [f3] at hq
  by_cases hy : (a : Int) * 4096 ≤ y ∧ y < ((a + N : Nat) : Int) * 4096
  · rw [if_pos hy] at hq
    injection hq with hq
    omega
  · rw [if_neg hy] at hq
    exact h.pr y q hq
/-! ### Frames -/
theorem ownP_ne {w : World} {B g : Nat} {v : Value} {l : List Pg} {t : TypeId} {cs : Array Value} (h : OwnP w B v l) (hb : Blk w g t cs) (ht : 67 ≠ t) : ∀ k, v.ownBlock = some k → k ≠ g := by
  intro k hk
  rcases h.2 with ⟨rfl, _⟩ | ⟨g', cap, cur, rfl, _, hh, _⟩
  · simp [Value.ownBlock] at hk
  · have e1 : g' = k := by simpa [Value.ownBlock] using hk
    subst e1
    exact Blk.ne (show Blk w g' 67 cur from hh) hb ht
theorem ownR_ne {w : World} {B g : Nat} {v : Value} {l : List Rg} {t : TypeId} {cs : Array Value} (h : OwnR w B v l) (hb : Blk w g t cs) (ht : 36 ≠ t) : ∀ k, v.ownBlock = some k → k ≠ g := by
  intro k hk
  rcases h.2 with ⟨rfl, _⟩ | ⟨g', cap, cur, rfl, _, hh, _⟩
  · simp [Value.ownBlock] at hk
  · have e1 : g' = k := by simpa [Value.ownBlock] using hk
    subst e1
    exact Blk.ne (show Blk w g' 36 cur from hh) hb ht
theorem Spc.keep {w w1 : World} {B B2 g gm : Nat} {L : List Rg} {P : List Pg} (h : Spc w B gm P) (hl : Lst w B2 g L) (hf : Fr (fun k => k = g) w w1) : Spc w1 B gm P := by
  obtain ⟨v, hb, ho⟩ := h.row
  obtain ⟨v2, hb2, _⟩ := hl.row
  exact ⟨⟨v, hb.fr hf (Blk.ne hb hb2 (by decide)), ho.fr hf (fun k hk e => ownP_ne ho hb2 (by decide) k hk e)⟩, h.gb⟩
theorem Lst.keep {w w1 : World} {B B2 g gm : Nat} {L : List Rg} {P : List Pg} (h : Lst w B g L) (hl : Spc w B2 gm P) (hf : Fr (fun k => k = gm) w w1) : Lst w1 B g L := by
  obtain ⟨v, hb, ho⟩ := h.row
  obtain ⟨v2, hb2, _⟩ := hl.row
  exact ⟨⟨v, hb.fr hf (Blk.ne hb hb2 (by decide)), ho.fr hf (fun k hk e => ownR_ne ho hb2 (by decide) k hk e)⟩, h.gb⟩
end Go.Proofs.Ytnaiccgbjcppaaa.Rg
