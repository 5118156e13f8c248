/- slices.Clone, All, Copy, Pages, At of a list of regions: walked. -/
import Derived.Test.YtnaiccgbjcppaaaRgG
import Derived.WalkSpells
namespace Go.Proofs.Ytnaiccgbjcppaaa.Rg
open Go Go.RowKit Go.Proofs.YtnaiccgbjcppaaaW.PrintWords Go.Proofs.YtnaiccgbjcppaaaW.PrintLast Go.Proofs.YtnaiccgbjcppaaaW.PrintMore
open Go.Proofs.Ytnaiccgbjcppaaa.Hp
attribute [local go_sem] max2_int min2_int max_two min_two max_three min_three max_four min_four
set_option linter.unusedVariables false
set_option linter.unusedSimpArgs false
theorem news_own {w : World} {B g n c : Nat} {l : List Rg} (h : OwnR w B (.slice (some ⟨g, 0, none⟩) n c) l) (hn : n = l.length) : ∀ j u, (rcs l)[j]? = some u → w.cell? ((⟨g, 0, none⟩ : Addr).add j) = some u := by
  subst hn
  exact h.cells (g := g) rfl
set_option maxHeartbeats 2000000 in
theorem clone_any (B : Nat) (v : Value) (l : List Rg) (w : World) (h : OwnR w B v l) (hn : l.length ≤ 5000) : Calls Try.prog 45 #[v] w fun e w' => ∃ v', e = .returned v' ∧ OwnR w' w.heap.size v' l ∧ Fr (fun _ => False) w w' := by
  obtain ⟨A, c, rfl, hc, hA⟩ := h.form
  have H := Lib.hid h
  have HN := Lib.hid hn
  have hA2 : (l = [] ∧ A = none ∧ c = 0) ∨ ∃ g, A = some ⟨g, 0, none⟩ := by
    rcases h.2 with ⟨e, h0⟩ | ⟨g, cap, cur, e, _⟩
    · injection e with e1 e2 e3
      exact .inl ⟨List.length_eq_zero_iff.1 h0, e1, e3⟩
    · injection e with e1 e2 e3
      exact .inr ⟨g, e1⟩
  have heq := fun w => Lib.run_eql_slice_nil (P := Try.prog) w 39 36 A l.length c 0 0 Try.underlying39
  clear h hn hA
  rcases hA2 with ⟨rfl, rfl, rfl⟩ | ⟨g, rfl⟩
  · simp only [List.length_nil] at heq ⊢
    go_enter Try.func45, Try.ntmps45
    go_wp2_with fail
    go_ret
    exact ⟨_, rfl, OwnR.nil _ _, Fr.refl _ _⟩
  · obtain ⟨i0, hi, hz0, hz1, hz2⟩ := info_parts infoRG
    have hi' := Lib.hid hi
    have hz0' := Lib.hid hz0
    have hz1' := Lib.hid hz1
    have hz2' := Lib.hid hz2
    have H2 := Lib.hid (H.out.fr ((Fr.refl (fun _ => False) w).alloc (.cells #[] 36)) (fun _ _ => id))
    have HE := Lib.hid (World.ownsRow_lit (base := w.heap.size) (e := 36) (size := 3) w #[] 0 (Nat.le_refl _) (Nat.zero_le _) rfl)
    obtain ⟨n, hnn⟩ : ∃ n, l.length = n := ⟨_, rfl⟩
    have HNN := Lib.hid hnn
    rw [hnn] at H H2 hc heq ⊢
    clear hi hz0 hz1 hz2 hnn
    go_enter Try.func45, Try.ntmps45
    go_wp2_with ((with_reducible refine gate_builtin (b := .append) (xs := #[.tmp 5, .tmp 6]) rfl ?_); refine Classical.byContradiction fun hgoal => ?_)
    apply hgoal
    clear hgoal
    (try (refine gate_guard (by rfl) ?_; dsimp only))
    refine wpList_append_own_wide _ rfl (.tmp 5) (.tmp 6) 39 rfl w.heap.size 36 i0 (.agg #[.int .u64 0, .int .u64 0, .int .i64 0]) 3 24 Try.underlying39 hi'.out hz0'.out hz1'.out hz2'.out rfl (by decide) _ 0 [] rfl HE.out ⟨g, 0, none⟩ n c (rcs l) rfl (by rw [rcs_length, HNN.out]) (news_own H2.out HNN.out.symm) (fun u hu => rcs_one l u hu) (by have := HN.out; have := HNN.out; first | omega | (simp; omega) | (unfold maxLen; omega)) (by have := HN.out; have := HNN.out; first | omega | (simp; omega) | (unfold maxLen; omega)) (by simp) ?_
    intro v1 w1 h1 g1 _
    have HF1 := Lib.hid (((Fr.refl (fun _ => False) w).alloc (.cells #[] 36)).grown g1 (fun b hb => .inr (by have h9 : some w.heap.size = some b := hb; injection h9 with h9; omega)))
    have HO1 := Lib.hid (show OwnR w1 w.heap.size v1 l from by unfold OwnR; rw [HNN.out]; simpa using h1)
    clear h1 g1
    go_wp2_with fail
    go_ret
    exact ⟨_, rfl, HO1.out, HF1.out⟩
set_option maxHeartbeats 2000000 in
theorem all_any (B g : Nat) (l : List Rg) (w : World) (h : Lst w B g l) (hn : l.length ≤ 5000) : Calls Try.prog 23 #[.pointer (some ⟨g, 0, none⟩)] w fun e w' => ∃ v', e = .returned v' ∧ OwnR w' w.heap.size v' l ∧ Fr (fun _ => False) w w' := by
  have HN := Lib.hid hn
  obtain ⟨v0, hb0, hr0⟩ := h.row
  obtain ⟨A, c, rfl, _, _⟩ := hr0.form
  have HR0 := Lib.hid hr0
  have k0 := hb0.cell 0
  simp at k0
  clear hb0 hr0 hn h
  go_enter Try.func23, Try.ntmps23
  go_wp2_with fail
  refine (clone_any B _ l _ HR0.out HN.out).mono ?_
  rintro x w1 ⟨v1, rfl, ho1, hf1⟩
  have HO1 := Lib.hid ho1
  have HF1 := Lib.hid hf1
  clear ho1 hf1 k0
  obtain ⟨A1, c1, rfl, _, _⟩ := HO1.out.form
  go_wp2_with fail
  go_ret
  exact ⟨_, rfl, HO1.out, HF1.out⟩
set_option maxHeartbeats 2000000 in
theorem copy_any (B g : Nat) (l : List Rg) (w : World) (h : Lst w B g l) (hn : l.length ≤ 5000) : Calls Try.prog 34 #[.pointer (some ⟨g, 0, none⟩)] w fun e w' => ∃ g', e = .returned (.pointer (some ⟨g', 0, none⟩)) ∧ Lst w' w.heap.size g' l ∧ Fr (fun _ => False) w w' := by
  have HN := Lib.hid hn
  obtain ⟨v0, hb0, hr0⟩ := h.row
  obtain ⟨A, c, rfl, _, _⟩ := hr0.form
  have HR0 := Lib.hid hr0
  have k0 := hb0.cell 0
  simp at k0
  clear hb0 hr0 hn h
  go_enter Try.func34, Try.ntmps34
  go_wp2_with fail
  refine (clone_any B _ l _ HR0.out HN.out).mono ?_
  rintro x w1 ⟨v1, rfl, ho1, hf1⟩
  have HO1 := Lib.hid ho1
  have HF1 := Lib.hid hf1
  clear ho1 hf1 k0
  obtain ⟨A1, c1, rfl, _, _⟩ := HO1.out.form
  go_wp2_with fail
  go_ret
  exact ⟨_, rfl, ⟨⟨_, Blk.new w1 65 #[.slice A1 l.length c1], HO1.out.fr ((Fr.refl (fun _ => False) w1).alloc _) (fun _ _ => id)⟩, HF1.out.size⟩, HF1.out.alloc _⟩
/-- Regions whose bounds are words in order. -/
def Val (l : List Rg) : Prop := ∀ r ∈ l, 0 ≤ r.s ∧ r.s ≤ r.e ∧ r.e ≤ 274877906944
def pagesI : List Rg → Int
  | [] => 0
  | r :: t => (r.e - r.s) / 4096 + pagesI t
theorem pagesI_append (l t : List Rg) : pagesI (l ++ t) = pagesI l + pagesI t := by
  induction l with
  | nil => simp [pagesI]
  | cons r s ih => simp only [List.cons_append, pagesI, ih]; omega
theorem pagesI_le (l : List Rg) (h : Val l) : 0 ≤ pagesI l ∧ pagesI l ≤ l.length * 67108864 := by
  induction l with
  | nil => simp [pagesI]
  | cons r s ih =>
    have h1 := ih (fun x hx => h x (by simp [hx]))
    have h2 := h r (by simp)
    simp only [pagesI, List.length_cons]
    omega
theorem rgAt_mem (l : List Rg) (k : Nat) (h : k < l.length) : rgAt l k ∈ l := by
  unfold rgAt
  rw [List.getD_eq_getElem?_getD, List.getElem?_eq_getElem h]
  exact List.getElem_mem h
def AtPg (l : List Rg) (w : World) (n : Nat) (v3 v13 : Value) (kq : Nat) (wr : World) : Prop := ∃ k : Nat, v13 = .int .i64 k ∧ k ≤ n ∧ n - k ≤ kq ∧ v3 = .int .u64 (pagesI (l.take k)) ∧ Fr (fun _ => False) w wr
set_option maxHeartbeats 4000000 in
theorem pages_any (B g0 : Nat) (l : List Rg) (w : World) (h : Lst w B g0 l) (hn : l.length ≤ 5000) (hv : Val l) : Calls Try.prog 33 #[.pointer (some ⟨g0, 0, none⟩)] w fun e w' => e = .returned (.int .i64 (pagesI l)) ∧ Fr (fun _ => False) w w' := by
  have HV := Lib.hid hv
  have HNL := Lib.hid hn
  obtain ⟨v0, hb0, hr0⟩ := h.row
  obtain ⟨A, c, rfl, hc, hA⟩ := hr0.form
  have H := Lib.hid hr0
  have HA := Lib.hid hA
  have k0 := hb0.cell 0
  simp at k0
  obtain ⟨n, hnn⟩ : ∃ n, l.length = n := ⟨_, rfl⟩
  have HN := Lib.hid hnn
  rw [hnn] at H HA hc hn k0
  clear hb0 hr0 h hnn hv hA
  go_enter Try.func33, Try.ntmps33
  go_wp2_with fail
  go_loopg [3, 13] n (fun kq v3 v13 wr => Hid (AtPg l w n v3 v13 kq wr))
  case atStart => exact Lib.hid ⟨0, rfl, by omega, by omega, rfl, Fr.refl _ _⟩
  case round =>
    obtain ⟨k, rfl, hk1, hk2, rfl, hf⟩ := hrel.out
    have HF := Lib.hid hf
    clear hrel hf
    by_cases hk : k < n
    · have u1 : decide ((k : Int) < (n : Int)) = true := decide_eq_true (by omega)
      have u1' : decide (k < n) = true := decide_eq_true hk
      have j0 : (0 : Int) ≤ (k : Int) := by omega
      have j1 : (k : Int) < (n : Int) := by omega
      obtain ⟨g, rfl⟩ := HA.out (by omega)
      obtain ⟨y0, y1, y2⟩ := (H.out.fr HF.out (fun _ _ => id)).at_ k (by rw [HN.out]; exact hk)
      have hrv := HV.out _ (rgAt_mem l k (by rw [HN.out]; exact hk))
      have hpl := pagesI_le (l.take k) (fun x hx => HV.out x (List.mem_of_mem_take hx))
      have hlt : (l.take k).length ≤ 5000 := by rw [List.length_take]; omega
      have HTK := Lib.hid (show pagesI (l.take (k + 1)) = pagesI (l.take k) + ((rgAt l k).e - (rgAt l k).s) / 4096 from by rw [take_rg l k (by rw [HN.out]; exact hk), pagesI_append]; simp [pagesI])
      obtain ⟨r, hr⟩ : ∃ r, rgAt l k = r := ⟨_, rfl⟩
      rw [hr] at y0 y1 y2 HTK hrv
      obtain ⟨q, hq⟩ : ∃ q, pagesI (l.take k) = q := ⟨_, rfl⟩
      rw [hq] at HTK hpl ⊢
      obtain ⟨s, e, p⟩ := r
      obtain ⟨h1, h2, h3⟩ := hrv
      obtain ⟨h4, h5⟩ := hpl
      simp only at h1 h2 h3 HTK
      have e1 : (e - s).tdiv 4096 = (e - s) / 4096 := Int.tdiv_eq_ediv_of_nonneg (by omega)
      have hw1 : IntKind.u64.wrap (e - s) = e - s := IntWalk.u64_in _ (by omega)
      have hw2 : IntKind.u64.wrap (q + (e - s) / 4096) = q + (e - s) / 4096 := IntWalk.u64_in _ (by omega)
      clear hr hq hlt
      go_wp2_with fail
      go_roundg (n - (k + 1))
      case measure => omega
      case rel =>
        refine Lib.hid ⟨k + 1, by go_num, by omega, by omega, ?_, HF.out.alloc _⟩
        rw [HTK.out]
    · obtain rfl : k = n := by omega
      have u1 : decide ((k : Int) < (k : Int)) = false := decide_eq_false (by omega)
      have hpl := pagesI_le l HV.out
      have hl5 := HNL.out
      rw [show l.take k = l from List.take_of_length_le (by rw [HN.out]; exact Nat.le_refl _)]
      obtain ⟨q, hq⟩ : ∃ q, pagesI l = q := ⟨_, rfl⟩
      rw [hq] at hpl ⊢
      have HQ := Lib.hid hq
      have hw1 : IntKind.i64.wrap q = q := IntWalk.i64_in _ (by omega)
      clear hq hpl hl5
      go_wp2_with fail
      go_ret
      rw [HQ.out]
      exact ⟨rfl, HF.out⟩
end Go.Proofs.Ytnaiccgbjcppaaa.Rg
