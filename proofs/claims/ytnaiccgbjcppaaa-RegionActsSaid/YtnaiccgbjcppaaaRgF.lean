/- slices.Insert of one region: walked. -/
import Derived.Test.YtnaiccgbjcppaaaRgE
namespace Go.Proofs.Ytnaiccgbjcppaaa.Rg
open Go Go.RowKit Go.Proofs.YtnaiccgbjcppaaaW.PrintWords Go.Proofs.YtnaiccgbjcppaaaW.PrintLast Go.Proofs.YtnaiccgbjcppaaaW.PrintMore
open Go.Proofs.Ytnaiccgbjcppaaa.Hp
attribute [local go_sem] max2_int min2_int max_two min_two max_three min_three max_four min_four
set_option linter.unusedVariables false
set_option linter.unusedSimpArgs false
theorem rcsOne (r : Rg) : ∀ u ∈ rc r, u.oneCell' = true := fun u hu => rcs_one [r] u (by simpa [rcs] using hu)
def InsP (B : Nat) (v : Value) (l : List Rg) (i : Nat) (r : Rg) (w : World) (e : Ending) (w' : World) : Prop := ∃ v', e = .returned v' ∧ OwnR w' B v' (insL l i r) ∧ Fr (fun k => v.ownBlock = some k) w w'
set_option maxHeartbeats 2000000 in
theorem insert_end (B : Nat) (v : Value) (l : List Rg) (r : Rg) (vb : Nat) (w : World) (h : OwnR w B v l) (hn : l.length ≤ 5000) (hB : B ≤ w.heap.size) (hv : Blk w vb 36 (rc r).toArray) : Calls Try.prog 51 #[v, .int .i64 (l.length : Int), .slice (some ⟨vb, 0, none⟩) 1 1] w (InsP B v l l.length r w) := by
  obtain ⟨A, c, rfl, hc, hA⟩ := h.form
  have H := Lib.hid h
  have HV := Lib.hid hv
  obtain ⟨n, hnn⟩ : ∃ n, l.length = n := ⟨_, rfl⟩
  have HN := Lib.hid hnn
  have HP := Lib.hid (show insL l n r = l ++ [r] from by unfold insL; rw [← hnn, List.take_length, List.drop_length])
  rw [hnn] at H hc hn ⊢
  have HA0 := hA
  rw [hnn] at hA
  have hA2 : (n = 0 ∧ A = none ∧ c = 0) ∨ ∃ g, A = some ⟨g, 0, none⟩ := by
    rcases h.2 with ⟨e, h0⟩ | ⟨g, cap, cur, e, _⟩
    · injection e with e1 e2 e3
      exact .inl ⟨by omega, e1, e3⟩
    · injection e with e1 e2 e3
      exact .inr ⟨g, e1⟩
  clear h hnn hv HA0 hA
  have hz : ((n : Int) == (n : Int)) = true := by simp
  rcases hA2 with ⟨rfl, rfl, rfl⟩ | ⟨g, rfl⟩
  · go_enter Try.func51, Try.ntmps51
    go_wp2_with ((with_reducible refine gate_builtin (b := .append) (xs := #[.tmp 23, .tmp 24]) rfl ?_); refine Classical.byContradiction fun hgoal => ?_)
    apply hgoal
    clear hgoal
    (try (refine gate_guard (by rfl) ?_; dsimp only))
    obtain ⟨i0, hi0, hz0, hz1, hz2⟩ := info_parts infoRG
    refine wpList_append_own_wide _ rfl (.tmp 23) (.tmp 24) 39 rfl B 36 i0 (.agg #[.int .u64 0, .int .u64 0, .int .i64 0]) 3 24 Try.underlying39 hi0 hz0 hz1 hz2 rfl (by decide) _ _ (rcs l) rfl H.out ⟨vb, 0, none⟩ 1 1 (rc r) rfl rfl (fun j u hj => by rw [add_plain]; exact (HV.out.cell j).trans (by simpa using hj)) (rcsOne r) (by have := HN.out; unfold maxLen; omega) (by have := HN.out; omega) hB ?_
    intro v1 w1 h1 g1 _
    have H1 := Lib.hid h1
    have G1 := Lib.hid g1
    clear h1 g1 i0 hi0 hz0 hz1 hz2
    go_wp2_with fail
    go_ret
    refine ⟨_, rfl, ?_, (Fr.refl _ _).grown G1.out (fun b hb => .inl hb)⟩
    rw [HP.out]
    unfold OwnR
    rw [rcs_append, List.length_append]
    simpa [rcs] using H1.out
  · by_cases hnc : c = n
    · subst hnc
      go_enter Try.func51, Try.ntmps51
      go_wp2_with ((with_reducible refine gate_builtin (b := .append) (xs := #[.tmp 23, .tmp 24]) rfl ?_); refine Classical.byContradiction fun hgoal => ?_)
      apply hgoal
      clear hgoal
      (try (refine gate_guard (by rfl) ?_; dsimp only))
      obtain ⟨i0, hi0, hz0, hz1, hz2⟩ := info_parts infoRG
      refine wpList_append_own_wide _ rfl (.tmp 23) (.tmp 24) 39 rfl B 36 i0 (.agg #[.int .u64 0, .int .u64 0, .int .i64 0]) 3 24 Try.underlying39 hi0 hz0 hz1 hz2 rfl (by decide) _ _ (rcs l) rfl H.out ⟨vb, 0, none⟩ 1 1 (rc r) rfl rfl (fun j u hj => by rw [add_plain]; exact (HV.out.cell j).trans (by simpa using hj)) (rcsOne r) (by have := HN.out; unfold maxLen; omega) (by have := HN.out; omega) hB ?_
      intro v1 w1 h1 g1 _
      have H1 := Lib.hid h1
      have G1 := Lib.hid g1
      clear h1 g1 i0 hi0 hz0 hz1 hz2
      go_wp2_with fail
      go_ret
      refine ⟨_, rfl, ?_, (Fr.refl _ _).grown G1.out (fun b hb => .inl hb)⟩
      rw [HP.out]
      unfold OwnR
      rw [rcs_append, List.length_append]
      simpa [rcs] using H1.out
    · have hb4 : ¬ (c = n) := hnc
      go_enter Try.func51, Try.ntmps51
      go_wp2_with ((with_reducible refine gate_builtin (b := .append) (xs := #[.tmp 23, .tmp 24]) rfl ?_); refine Classical.byContradiction fun hgoal => ?_)
      apply hgoal
      clear hgoal
      (try (refine gate_guard (by rfl) ?_; dsimp only))
      obtain ⟨i0, hi0, hz0, hz1, hz2⟩ := info_parts infoRG
      refine wpList_append_own_wide _ rfl (.tmp 23) (.tmp 24) 39 rfl B 36 i0 (.agg #[.int .u64 0, .int .u64 0, .int .i64 0]) 3 24 Try.underlying39 hi0 hz0 hz1 hz2 rfl (by decide) _ _ (rcs l) rfl H.out ⟨vb, 0, none⟩ 1 1 (rc r) rfl rfl (fun j u hj => by rw [add_plain]; exact (HV.out.cell j).trans (by simpa using hj)) (rcsOne r) (by have := HN.out; unfold maxLen; omega) (by have := HN.out; omega) hB ?_
      intro v1 w1 h1 g1 _
      have H1 := Lib.hid h1
      have G1 := Lib.hid g1
      clear h1 g1 i0 hi0 hz0 hz1 hz2
      go_wp2_with fail
      go_ret
      refine ⟨_, rfl, ?_, (Fr.refl _ _).grown G1.out (fun b hb => .inl hb)⟩
      rw [HP.out]
      unfold OwnR
      rw [rcs_append, List.length_append]
      simpa [rcs] using H1.out
set_option maxHeartbeats 4000000 in
set_option maxRecDepth 100000 in
theorem insert_shift (B : Nat) (g c : Nat) (l : List Rg) (i : Nat) (r : Rg) (vb : Nat) (w : World) (h : OwnR w B (.slice (some ⟨g, 0, none⟩) l.length c) l) (hi : i < l.length) (hn : l.length ≤ 5000) (hc : l.length + 1 ≤ c) (hv : Blk w vb 36 (rc r).toArray) (hvb : vb ≠ g) : Calls Try.prog 51 #[.slice (some ⟨g, 0, none⟩) l.length c, .int .i64 (i : Int), .slice (some ⟨vb, 0, none⟩) 1 1] w (InsP B (.slice (some ⟨g, 0, none⟩) l.length c) l i r w) := by
  obtain ⟨n, hnn⟩ : ∃ n, l.length = n := ⟨_, rfl⟩
  have HN := Lib.hid hnn
  have HV := Lib.hid hv
  have HNE := Lib.hid hvb
  obtain ⟨cur, hb, hbg, hcm, hcs, htk⟩ : ∃ cur, Blk w g 36 cur ∧ B ≤ g ∧ c ≤ maxLen ∧ cur.size = c * 3 ∧ cur.toList.take (l.length * 3) = rcs l := by
    rcases h.2 with ⟨e, h0⟩ | ⟨g', cap, cur, e, h1, h2, h3, h4, h5, h6⟩
    · cases e
    · injection e with e1 e2 e3
      injection e1 with e1
      injection e1 with e1
      subst e1
      subst e3
      exact ⟨cur, h2, h1, h4, h5, h6⟩
  have HB := Lib.hid hb
  have HCS := Lib.hid hcs
  have HTK := Lib.hid htk
  rw [hnn] at hi hn hc ⊢
  have hcm' : c ≤ 9223372036854775807 := by unfold maxLen at hcm; omega
  have HCM := Lib.hid hcm
  have hz2 : ((i : Int) == (n : Int)) = false := by simp; omega
  have hz2' : ¬ ((i : Int) = (n : Int)) := by omega
  have hw1 : IntKind.i64.wrap ((i : Int) + 1) = (i : Int) + 1 := by rw [IntKind.wrap_i64]; omega
  have hw2 : IntKind.i64.wrap ((n : Int) + 1) = (n : Int) + 1 := by rw [IntKind.wrap_i64]; omega
  have hb1 : (0 : Int) ≤ (i : Int) + 1 := by omega
  have htn : ((i : Int) + 1).toNat = i + 1 := by omega
  have htn2 : ((n : Int) + 1).toNat = n + 1 := by omega
  have hb2 : ¬ (c = i + 1) := by omega
  have hb3 : (i : Int) ≤ (n : Int) + 1 := by omega
  have hb4 : ¬ (c = i) := by omega
  have hin : i ≤ n := by omega
  have hin1 : i ≤ n + 1 := by omega
  have hg1 : decide ((c : Int) < (n : Int) + 1) = false := decide_eq_false (by omega)
  have hg1' : ¬ ((c : Int) < (n : Int) + 1) := by omega
  have HOV := Lib.hid (fun (lb cb : Nat) => hovF w vb g ((i + 1) * 3) 1 1 lb cb hvb _ _ hv hb (by rw [hcs]; omega))
  clear h hnn hv hvb hb hcs htk hcm
  go_enter Try.func51, Try.ntmps51
  go_wp2_with (simp only [HOV.out])
  have hds : (rcs (l.drop i)).length = (n - i) * 3 := by rw [rcs_length, List.length_drop, HN.out]
  have hcells : ∀ j u, (rcs (l.drop i))[j]? = some u → w.drew.cell? ⟨g, i * 3 + j, none⟩ = some u := by
    intro j u hj
    have hlt : j < (n - i) * 3 := by rw [← hds]; exact (List.getElem?_eq_some_iff.1 hj).1
    rw [rcs_drop l i (by rw [HN.out]; omega), List.getElem?_drop, ← HTK.out, List.getElem?_take] at hj
    split at hj
    · refine (HB.out.drew.cell _).trans ?_
      rw [← hj, Array.getElem?_toList]
    · cases hj
  have HDS := Lib.hid hds
  have HCE := Lib.hid hcells
  clear hds hcells
  go_region_law (refine step_copy_wide rfl (.tmp 73) (.tmp 76) 39 39 rfl 36 3 Try.underlying39 szRG (some ⟨g, (i + 1) * 3, none⟩) (some ⟨g, i * 3, none⟩) (n - i) (c - (i + 1)) (n + 1 - i) (c - i) (by simp [Act.eval, Act.put]) (by simp [Act.eval, Act.put]) g ((i + 1) * 3) g (i * 3) (n - i) rfl rfl (by simp only [Nat.min_def]; split <;> omega) cur 36 (rcs (l.drop i)) HB.out.drew HDS.out HCE.out (by rw [HDS.out, HCS.out]; omega) (rcs_one _) ?_; intro w1 hb1 hf1)
  have HB1 := Lib.hid hb1
  have HF1 := Lib.hid hf1
  clear hb1 hf1
  go_wp2_with ((with_reducible refine gate_builtin (b := .copy) (xs := #[.tmp 80, .tmp 81]) rfl ?_); refine Classical.byContradiction fun hgoal => ?_)
  apply hgoal
  clear hgoal
  (try (refine gate_guard (by rfl) ?_; dsimp only))
  refine wpList_copy_wide rfl (.tmp 80) (.tmp 81) 39 39 rfl 36 3 Try.underlying39 szRG _ _ _ _ _ _ rfl rfl g (i * 3) vb 0 1 rfl rfl (by simp only [Nat.min_def]; split <;> omega) _ 36 (rc r) HB1.out rfl (fun j u hj => by rw [Nat.zero_add]; exact ((HV.out.drew.fr HF1.out HNE.out).cell j).trans (by simpa using hj)) (by simp [rc, HDS.out, HCS.out]; omega) (rcsOne r) ?_
  intro w2 hb2' hf2
  have HB2 := Lib.hid hb2'
  have HF2 := Lib.hid (HF1.out.trans hf2 (fun _ _ => id))
  clear hb2' hf2
  go_wp2_with fail
  go_ret
  have e1 := insL_len l i r (by rw [HN.out]; omega)
  rw [HN.out] at e1
  have e2 : (rcs (l.take i)).length = i * 3 := by rw [rcs_length, List.length_take, HN.out]; omega
  have e3 : rcs (l.take i) = cur.toList.take (rcs (l.take i)).length := by
    rw [e2, rcs_take l i (by rw [HN.out]; omega), ← HTK.out, List.take_take]
    congr 1
    rw [HN.out]
    omega
  have e4 : cur.toList.length = c * 3 := by rw [Array.length_toList]; exact HCS.out
  have e5 := ins_cells (rcs (l.take i)) cur.toList (rcs (l.drop i)) (rc r) 3 rfl e3 (by rw [e2, HDS.out, e4]; omega)
  rw [e2, show i * 3 + 3 = (i + 1) * 3 by omega] at e5
  have hB2 := HB2.out
  rw [e5, ← insL_rcs] at hB2
  refine ⟨_, rfl, ?_, (HF2.out.undrew).mono (fun _ _ h => by rw [h]; rfl)⟩
  rw [← e1]
  refine OwnR.make hbg hB2 (by omega) HCM.out ?_ ⟨_, rfl⟩
  have e6 := congrArg List.length e5
  simp only [List.size_toArray, List.length_append, rcs_length, List.length_drop, e1, HN.out, e4]
  omega
set_option maxHeartbeats 4000000 in
set_option maxRecDepth 100000 in
theorem insert_grow (B : Nat) (g c : Nat) (l : List Rg) (i : Nat) (r : Rg) (vb : Nat) (w : World) (h : OwnR w B (.slice (some ⟨g, 0, none⟩) l.length c) l) (hi : i < l.length) (hn : l.length ≤ 5000) (hc : c = l.length) (hBw : B ≤ w.heap.size) (hv : Blk w vb 36 (rc r).toArray) : Calls Try.prog 51 #[.slice (some ⟨g, 0, none⟩) l.length c, .int .i64 (i : Int), .slice (some ⟨vb, 0, none⟩) 1 1] w (InsP B (.slice (some ⟨g, 0, none⟩) l.length c) l i r w) := by
  obtain ⟨n, hnn⟩ : ∃ n, l.length = n := ⟨_, rfl⟩
  have HN := Lib.hid hnn
  have HV := Lib.hid hv
  obtain ⟨cur, hb, hcs, htk⟩ : ∃ cur, Blk w g 36 cur ∧ cur.size = c * 3 ∧ cur.toList.take (l.length * 3) = rcs l := by
    rcases h.2 with ⟨e, h0⟩ | ⟨g', cap, cur, e, h1, h2, h3, h4, h5, h6⟩
    · cases e
    · injection e with e1 e2 e3
      injection e1 with e1
      injection e1 with e1
      subst e1
      subst e3
      exact ⟨cur, h2, h5, h6⟩
  rw [hnn] at hi hn hc ⊢
  subst hc
  have hgl := hb.lt
  have hvl := hv.lt
  have hcl : ∀ j u, (rcs l)[j]? = some u → w.cell? ⟨g, j, none⟩ = some u := by
    intro j u hj
    rw [← htk, List.getElem?_take] at hj
    split at hj
    · refine (hb.cell _).trans ?_
      rw [← hj, Array.getElem?_toList]
    · cases hj
  obtain ⟨i0, hi0, hz0, hzs, hzb⟩ := info_parts infoRG
  have hold : (Builtin.firstCells i0.size i (.slice (some ⟨g, 0, none⟩) i c)).run Try.prog w.drew = .ok (rcs (l.take i)).toArray w.drew := by
    rw [hzs]
    exact run_firstCells_some w.drew 3 i ⟨g, 0, none⟩ i c (rcs (l.take i)) (by rw [rcs_length, List.length_take]; omega) (fun j u hj => by
      rw [add_plain]
      rw [rcs_take l i (by omega), List.getElem?_take] at hj
      split at hj
      · exact hcl j u hj
      · cases hj)
  have hkk : (c : Int) + 1 - (i : Int) = ((c + 1 - i : Nat) : Int) := by omega
  have hik : i + (c + 1 - i) = c + 1 := by omega
  obtain ⟨G, hG⟩ : ∃ G, grownCap w (c + 1) c 36 = G := ⟨_, rfl⟩
  have hGn : c + 1 ≤ G := by rw [← hG]; exact grownCap_ge w _ _ _
  have hGm : G ≤ maxLen := by rw [← hG]; exact grownCap_le_maxLen w (c + 1) c 36 (by unfold maxLen; omega)
  have hrz : ∀ ty, ∃ ROW : List Value, ROW.length = G * 3 ∧ rcs (l.take i) = ROW.take (rcs (l.take i)).length ∧ (Builtin.append_ #[39, 3] ty #[.slice (some ⟨g, 0, none⟩) i c, .int .i64 ((c : Int) + 1 - (i : Int))]).run Try.prog w = .ok (.slice (some ⟨w.heap.size, 0, none⟩) (c + 1) G) (w.drew.alloc (.cells ROW.toArray 36)) := fun ty => by
    have h := Lib.run_append_grow_zeros w 39 3 ty 36 i0 _ .i64 .i64 Try.underlying39 Try.underlying3 hi0 hz0 (some ⟨g, 0, none⟩) i c (rcs (l.take i)) hold (c + 1 - i) (by omega) (by omega) (by omega) (by omega) (by rw [hzb]; omega) (by rw [hzb, hik]; exact growslice_fits (by omega) (by omega))
    rw [hik, hG, ← hkk] at h
    refine ⟨rcs (l.take i) ++ ((Builtin.zeroCells (Value.agg #[.int .u64 0, .int .u64 0, .int .i64 0]).cells (c + 1 - i)).toList ++ (Builtin.zeroCells (Value.agg #[.int .u64 0, .int .u64 0, .int .i64 0]).cells (G - (c + 1))).toList), ?_, by rw [List.take_left], ?_⟩
    · simp only [List.length_append, Array.length_toList, size_zeroCells, rcs_length, List.length_take, hnn, show (Value.agg #[Value.int .u64 0, .int .u64 0, .int .i64 0]).cells.size = 3 from rfl]
      omega
    · rw [h]
      congr 3
      apply Array.ext'
      simp
  obtain ⟨N, hN⟩ : ∃ N, w.heap.size = N := ⟨_, rfl⟩
  obtain ⟨ROW, hRl, hRt, hrun⟩ := hrz 39
  obtain ⟨w1, hw1⟩ : ∃ w1, w1 = w.drew.alloc (.cells ROW.toArray 36) := ⟨_, rfl⟩
  have hB1 : Blk w1 N 36 ROW.toArray := by rw [hw1, ← hN]; exact Blk.new w.drew 36 ROW.toArray
  have hF1 : Fr (fun _ => False) w w1 := by rw [hw1]; exact (Fr.refl _ _).drew.alloc _
  rw [← hw1, hN] at hrun
  rw [hN] at hgl hvl hBw
  have HR := Lib.hid hrun
  have HB1 := Lib.hid hB1
  have HF1 := Lib.hid hF1
  have HRL := Lib.hid hRl
  have HRT := Lib.hid hRt
  have HCL := Lib.hid hcl
  have HGM := Lib.hid hGm
  have HWN := Lib.hid hN
  have HBW := Lib.hid hBw
  have hgm : G ≤ 9223372036854775807 := by unfold maxLen at hGm; omega
  have hz2 : ((i : Int) == (c : Int)) = false := by simp; omega
  have hz2' : ¬ ((i : Int) = (c : Int)) := by omega
  have hwi : IntKind.i64.wrap ((i : Int) + 1) = (i : Int) + 1 := by rw [IntKind.wrap_i64]; omega
  have hwn : IntKind.i64.wrap ((c : Int) + 1) = (c : Int) + 1 := by rw [IntKind.wrap_i64]; omega
  have hwk : IntKind.i64.wrap ((c : Int) + 1 - (i : Int)) = (c : Int) + 1 - (i : Int) := by rw [IntKind.wrap_i64]; omega
  have hb1 : (0 : Int) ≤ (i : Int) + 1 := by omega
  have htn : ((i : Int) + 1).toNat = i + 1 := by omega
  have hb2 : ¬ (G = i + 1) := by omega
  have hb4 : ¬ (c = i) := by omega
  have hb5 : ¬ (G = i) := by omega
  have hin : i ≤ c := by omega
  have hin1 : i ≤ c + 1 := by omega
  have hg1 : decide ((c : Int) < (c : Int) + 1) = true := decide_eq_true (by omega)
  have hg1' : (c : Int) < (c : Int) + 1 := by omega
  have HDS := Lib.hid (show (rcs (l.drop i)).length = (c - i) * 3 from by rw [rcs_length, List.length_drop, HN.out])
  have HGB := Lib.hid (show g < w.heap.size ∧ vb < w.heap.size from by rw [hN]; exact ⟨hgl, hvl⟩)
  have HGV := Lib.hid (show N ≠ g ∧ N ≠ vb from ⟨by omega, by omega⟩)
  clear h hv hb hcs htk hnn hgl hvl hcl hkk hG hGm hN hrun hw1 hB1 hF1 hrz hRl hRt hBw i0 hi0 hz0 hzs hzb hold hik
  go_enter Try.func51, Try.ntmps51
  go_wp2_with ((with_reducible refine gate_builtin (b := .append) (xs := #[.tmp 34, .tmp 39]) rfl ?_); refine Classical.byContradiction fun hgoal => ?_)
  apply hgoal
  clear hgoal
  (try (refine gate_guard (by rfl) ?_; dsimp only))
  refine Lib.wpList_append_run _ rfl _ _ _ _ rfl _ _ rfl rfl _ _ HR.out ?_
  go_wp2_with ((with_reducible refine gate_builtin (b := .copy) (xs := #[.tmp 43, .tmp 44]) rfl ?_); refine Classical.byContradiction fun hgoal => ?_)
  apply hgoal
  clear hgoal
  (try (refine gate_guard (by rfl) ?_; dsimp only))
  refine wpList_copy_wide rfl (.tmp 43) (.tmp 44) 39 39 rfl 36 3 Try.underlying39 szRG _ _ _ _ _ _ rfl rfl N (i * 3) vb 0 1 rfl rfl (by simp only [Nat.min_def]; split <;> omega) ROW.toArray 36 (rc r) HB1.out rfl (fun j u hj => by rw [Nat.zero_add]; exact ((HV.out.fr HF1.out id).cell j).trans (by simpa using hj)) (by simp [rc, HRL.out]; omega) (rcsOne r) ?_
  intro w2 hb2' hf2
  have HB2 := Lib.hid hb2'
  have HF2 := Lib.hid hf2
  have hcells : ∀ j u, (rcs (l.drop i))[j]? = some u → w2.drew.cell? ⟨g, i * 3 + j, none⟩ = some u := by
    intro j u hj
    rw [rcs_drop l i (by rw [HN.out]; omega), List.getElem?_drop] at hj
    have e := HCL.out _ _ hj
    have e2 := World.cell?_of_block (w := w) (w' := w1) (a := ⟨g, i * 3 + j, none⟩) (HF1.out.block g HGB.out.1 id)
    have e3 := World.cell?_of_block (w := w1) (w' := w2) (a := ⟨g, i * 3 + j, none⟩) (hf2.block g (Nat.lt_of_lt_of_le HGB.out.1 HF1.out.size) (fun h => HGV.out.1 h.symm))
    exact e3.trans (e2.trans e)
  have HCE := Lib.hid hcells
  clear hb2' hf2 hcells
  go_wp2_with fail
  go_region_law (refine step_copy_wide rfl (.tmp 50) (.tmp 53) 39 39 rfl 36 3 Try.underlying39 szRG (some ⟨N, (i + 1) * 3, none⟩) (some ⟨g, i * 3, none⟩) (c - i) (G - (i + 1)) (c - i) (c - i) (by simp [Act.eval, Act.put]) (by simp [Act.eval, Act.put]) N ((i + 1) * 3) g (i * 3) (c - i) rfl rfl (by simp only [Nat.min_def]; split <;> omega) _ 36 (rcs (l.drop i)) HB2.out.drew HDS.out HCE.out (by simp [rc, HDS.out, HRL.out]; omega) (rcs_one _) ?_; intro w3 hb3 hf3)
  have HB3 := Lib.hid hb3
  have HF3 := Lib.hid (hf3.undrew)
  clear hb3 hf3
  go_wp2_with fail
  go_ret
  have e1 := insL_len l i r (by rw [HN.out]; omega)
  rw [HN.out] at e1
  have e2 : (rcs (l.take i)).length = i * 3 := by rw [rcs_length, List.length_take, HN.out]; omega
  have e3 := HRT.out
  have e4 := HRL.out
  have e5 := ins_cells2 (rcs (l.take i)) ROW (rcs (l.drop i)) (rc r) 3 rfl e3 (by rw [e2, HDS.out, e4]; omega)
  rw [e2, show i * 3 + 3 = (i + 1) * 3 by omega] at e5
  have hB3 := HB3.out
  rw [e5, ← insL_rcs] at hB3
  have hfr := (HF1.out.trans (HF2.out.trans HF3.out (fun _ _ => id)) (T := fun b => b = N) (fun b hb h => by rw [HWN.out] at hb; omega))
  refine ⟨_, rfl, ?_, hfr.mono (fun _ _ h => h.elim)⟩
  rw [← e1]
  refine OwnR.make HBW.out hB3 (by omega) HGM.out ?_ ⟨_, rfl⟩
  simp only [List.size_toArray, List.length_append, rcs_length, List.length_drop, e1, HN.out, e4]
  omega
theorem insert_any (B : Nat) (v : Value) (l : List Rg) (i : Nat) (r : Rg) (vb : Nat) (w : World) (h : OwnR w B v l) (hi : i ≤ l.length) (hn : l.length ≤ 5000) (hB : B ≤ w.heap.size) (hv : Blk w vb 36 (rc r).toArray) (hvb : ∀ k, v.ownBlock = some k → vb ≠ k) : Calls Try.prog 51 #[v, .int .i64 (i : Int), .slice (some ⟨vb, 0, none⟩) 1 1] w (InsP B v l i r w) := by
  by_cases hil : i = l.length
  · subst hil
    exact insert_end B v l r vb w h hn hB hv
  · obtain ⟨A, c, rfl, hc, hA⟩ := h.form
    obtain ⟨g, rfl⟩ := hA (by omega)
    by_cases hroom : l.length + 1 ≤ c
    · exact insert_shift B g c l i r vb w h (by omega) hn hroom hv (hvb g rfl)
    · exact insert_grow B g c l i r vb w h (by omega) hn (by omega) hB hv
end Go.Proofs.Ytnaiccgbjcppaaa.Rg
