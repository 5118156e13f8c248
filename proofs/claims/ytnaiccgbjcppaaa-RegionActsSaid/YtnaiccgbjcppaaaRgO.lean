/- The document's Lay: walked. -/
import Derived.Test.YtnaiccgbjcppaaaRgN
import Derived.Deep.Upon
namespace Go.Proofs.Ytnaiccgbjcppaaa.Rg
open Go Go.RowKit Go.Proofs.YtnaiccgbjcppaaaW.PrintWords Go.Proofs.YtnaiccgbjcppaaaW.PrintLast Go.Proofs.YtnaiccgbjcppaaaW.PrintMore
open Go.Proofs.Ytnaiccgbjcppaaa.Hp
attribute [local go_sem] max2_int min2_int max_two min_two max_three min_three max_four min_four
set_option linter.unusedVariables false
set_option linter.unusedSimpArgs false
theorem newsP_own {w : World} {B g n c : Nat} {l : List Pg} (h : OwnP w B (.slice (some ⟨g, 0, none⟩) n c) l) (hn : n = l.length) (k : Nat) (hk : k ≤ l.length) : ∀ j u, (pcs (l.drop k))[j]? = some u → w.cell? ((⟨g, k * 3, none⟩ : Addr).add j) = some u := by
  subst hn
  have hc := h.cells (g := g) rfl
  intro j u hj
  have h1 : (pcs l)[k * 3 + j]? = some u := by
    have e : pcs l = pcs (l.take k) ++ pcs (l.drop k) := by rw [← pcs_append, List.take_append_drop]
    rw [e, List.getElem?_append_right (by rw [pcs_length, List.length_take]; omega), pcs_length, List.length_take, Nat.min_eq_left hk, Nat.add_sub_cancel_left]
    exact hj
  have h2 := hc _ _ h1
  rw [add_plain] at h2
  unfold Addr.add
  simp only
  split
  · rename_i h0
    subst h0
    simpa using h2
  · exact h2
theorem info8b : (Try.prog.info? 5 ).map (fun i => (i.zero, i.size, i.bytes)) = some (some (.int .u8 0), 1, 1) := by kernel_rfl
theorem pgAt_left (M L : List Pg) (i : Nat) (h : i < M.length) : pgAt (M ++ L) i = pgAt M i := by
  unfold pgAt
  rw [List.getD_eq_getElem?_getD, List.getD_eq_getElem?_getD, List.getElem?_append_left h]
theorem pgAt_last (M : List Pg) (x : Pg) (i : Nat) (h : M.length = i) : pgAt (M ++ [x]) i = x := by
  subst h
  unfold pgAt
  simp
section
variable {ops : Array Oper} {rest : List Oper} {o : Oper} {a : Act} {Q : Exit → Act → World → Prop}
/-- append(v, l[k:]...), the rest of a row. -/
theorem rowP_apps {w0 wr : World} (B : Nat) (hgd : o.guard = none) (s x : Operand) (ho : o.op = .call { callee := .builtin .append, args := #[s, x], argTypes := #[41, 41] })
    (v : Value) (l R : List Pg) (hs : a.eval s = v) (ad : Addr) (m c : Nat) (hx : a.eval x = .slice (some ad) m c) (hm : m = R.length) (hnews : ∀ j u, (pcs R)[j]? = some u → wr.cell? (ad.add j) = some u) (H : OwnP wr B v l) (hb : Below B w0 wr) (hw : B = w0.heap.size) (hn : l.length + R.length ≤ 100000)
    (h : ∀ v1 w1, OwnP w1 B v1 (l ++ R) → Below B w0 w1 → wpList Try.prog ops Q rest (a.put o.dst v1) w1) : wpList Try.prog ops Q (o :: rest) a wr := by
  obtain ⟨i0, hi, hz0, hz1, hz2⟩ := info_parts infoPG
  have hsz := hb.size
  subst hw
  subst hm
  refine wpList_append_own_wide _ hgd s x 41 ho w0.heap.size 67 i0 (.agg #[.int .u64 0, .int .i64 0, .slice none 0 0]) 3 40 Try.underlying41 hi hz0 hz1 hz2 rfl (by decide) v l.length (pcs l) hs H ad R.length c (pcs R) hx (pcs_length R) hnews (fun u hu => pcs_one R u hu) (by unfold maxLen; omega) (by omega) (by omega) ?_
  intro v1 w1 h1 g1 _
  have hf : Fr (fun b => v.ownBlock = some b) wr w1 := (Fr.refl (fun b => v.ownBlock = some b) wr).grown g1 (fun b hb => .inl hb)
  refine h v1 w1 ?_ (Fr.below hb hf (fun k hk e => by have := own_ge H k e; omega))
  unfold OwnP
  rw [pcs_append, List.length_append]
  exact h1
theorem rowP_none {wr : World} (hgd : o.guard = none) (s x : Operand) (ho : o.op = .call { callee := .builtin .append, args := #[s, x], argTypes := #[41, 41] })
    (A : Option Addr) (n c : Nat) (hs : a.eval s = .slice A n c) (hle : n ≤ c) (hx : a.eval x = .slice none 0 0)
    (h : wpList Try.prog ops Q rest (a.put o.dst (.slice A n c)) wr) : wpList Try.prog ops Q (o :: rest) a wr := by
  obtain ⟨i0, hi, hz0, hz1, hz2⟩ := info_parts infoPG
  have hrun := run_append_nothing (P := Try.prog) wr 41 41 o.type 67 i0 Try.underlying41 hi A n c hle (.slice none 0 0) (Src.ofNil wr Try.underlying41 0)
  refine wpList_plain hgd fun K hK' => ?_
  unfold Oper.wp
  simp [execOp, ho, hs, hx, resolve, invoke, builtin, hrun, Result.andThen]
  exact hK' _ _ h
end
/-- What Lay makes of the pages. -/
def LayP (a N : Nat) (p : Int) (l l' : List Pg) : Prop := ∃ (k : Nat) (M : List Pg), k ≤ (withoutP ((a : Int) * 4096) (((a + N : Nat) : Int) * 4096) l).length ∧
  (∀ j, j < k → (pgAt (withoutP ((a : Int) * 4096) (((a + N : Nat) : Int) * 4096) l) j).n * 4096 < (a : Int) * 4096) ∧
  (k < (withoutP ((a : Int) * 4096) (((a + N : Nat) : Int) * 4096) l).length → ¬ (pgAt (withoutP ((a : Int) * 4096) (((a + N : Nat) : Int) * 4096) l) k).n * 4096 < (a : Int) * 4096) ∧
  M.length = N ∧ (∀ i, i < N → (pgAt M i).n = ((a + i : Nat) : Int) ∧ (pgAt M i).p = p) ∧
  l' = (withoutP ((a : Int) * 4096) (((a + N : Nat) : Int) * 4096) l).take k ++ M ++ (withoutP ((a : Int) * 4096) (((a + N : Nat) : Int) * 4096) l).drop k
def AtL1 (w0 : World) (R : List Pg) (S : Int) (v10 v11 : Value) (kq : Nat) (wr : World) : Prop := ∃ k : Nat, v11 = .int .i64 k ∧ k ≤ R.length ∧ R.length - k ≤ kq ∧ (∀ j, j < k → (pgAt R j).n * 4096 < S) ∧ OwnP wr w0.heap.size v10 (R.take k) ∧ Below w0.heap.size w0 wr
def AtL2 (w0 : World) (X : List Pg) (a N : Nat) (p S : Int) (v10 v12 : Value) (kq : Nat) (wr : World) : Prop := ∃ (j : Nat) (M : List Pg), v12 = .int .u64 (S + (j : Int) * 4096) ∧ j ≤ N ∧ N - j ≤ kq ∧ M.length = j ∧ (∀ i, i < j → (pgAt M i).n = ((a + i : Nat) : Int) ∧ (pgAt M i).p = p) ∧ OwnP wr w0.heap.size v10 (X ++ M) ∧ Below w0.heap.size w0 wr
theorem Small.without {l : List Pg} (h : Small l) (a b : Int) : Small (withoutP a b l) := fun x hx => h x (List.mem_filter.1 hx).1
theorem withoutP_len (a b : Int) (l : List Pg) : (withoutP a b l).length ≤ l.length := List.length_filter_le _ _
set_option maxHeartbeats 1500000 in
set_option maxRecDepth 100000 in
theorem lay_any (B g : Nat) (l : List Pg) (a N : Nat) (p : Int) (w : World) (h : Spc w B g l) (hBw : B ≤ w.heap.size) (hv : Small l) (hN : 0 < N) (haN : a + N ≤ 1000) (hn : l.length ≤ 2000) (hfit : (withoutP ((a : Int) * 4096) (((a + N : Nat) : Int) * 4096) l).length + N ≤ 100) : Calls Try.prog 28 #[.pointer (some ⟨g, 0, none⟩), .int .u64 ((a : Int) * 4096), .int .u64 (((a + N : Nat) : Int) * 4096), .int .i64 p] w fun e w' => e = .returned (.int .i64 0) ∧ (∃ l', LayP a N p l l' ∧ Spc w' B g l') ∧ Fr (fun k => k = g) w w' := by
  obtain ⟨S, hS⟩ : ∃ S : Int, (a : Int) * 4096 = S := ⟨_, rfl⟩
  obtain ⟨E, hE⟩ : ∃ E : Int, ((a + N : Nat) : Int) * 4096 = E := ⟨_, rfl⟩
  obtain ⟨R, hR⟩ : ∃ R, withoutP S E l = R := ⟨_, rfl⟩
  obtain ⟨nr, hnr⟩ : ∃ nr, R.length = nr := ⟨_, rfl⟩
  have HLAY := Lib.hid (show ∀ (k : Nat) (M : List Pg), k ≤ nr → (∀ j, j < k → (pgAt R j).n * 4096 < S) → (k < nr → ¬ (pgAt R k).n * 4096 < S) → M.length = N → (∀ i, i < N → (pgAt M i).n = ((a + i : Nat) : Int) ∧ (pgAt M i).p = p) → LayP a N p l (R.take k ++ M ++ R.drop k) from by
    intro k M h1 h2 h3 h4 h5
    unfold LayP
    rw [hS, hE, hR, hnr]
    exact ⟨k, M, h1, h2, h3, h4, h5, rfl⟩)
  rw [hS, hE] at hfit ⊢
  rw [hR, hnr] at hfit
  obtain ⟨Dd, hD⟩ : ∃ Dd, E - S = Dd := ⟨_, rfl⟩
  have hd1 : Dd.tdiv 4096 = (N : Int) := by rw [Int.tdiv_eq_ediv_of_nonneg (by omega)]; omega
  have hd2 : Dd / 4096 = (N : Int) := by omega
  have hw1 : IntKind.u64.wrap Dd = Dd := IntWalk.u64_in _ (by omega)
  have hw2 : IntKind.u64.wrap (N : Int) = (N : Int) := IntWalk.u64_in _ (by omega)
  have hw3 : IntKind.u64.wrap (nr : Int) = (nr : Int) := IntWalk.u64_in _ (by omega)
  obtain ⟨T, hT⟩ : ∃ T : Int, (nr : Int) + (N : Int) = T := ⟨_, rfl⟩
  have hw4 : IntKind.u64.wrap T = T := IntWalk.u64_in _ (by omega)
  have c1 : decide ((8192 : Int) < (N : Int)) = false := decide_eq_false (by omega)
  have c2 : decide ((100 : Int) < T) = false := decide_eq_false (by omega)
  have HS := Lib.hid h
  have HV := Lib.hid hv
  have HB := Lib.hid hBw
  have HRR := Lib.hid hR
  have HNR := Lib.hid hnr
  have HN := Lib.hid (And.intro hn (And.intro hN (And.intro haN hfit)))
  have HSE := Lib.hid (And.intro hS hE)
  clear h hv hBw hR hnr hn hN haN hfit hS hE
  go_enter Try.func28, Try.ntmps28
  go_wp2_with fail
  refine (withoutP_any B g l S E _ HS.out HN.out.1 HV.out).mono ?_
  rintro x w3 ⟨v9, rfl, ho9, hb9⟩
  rw [HRR.out] at ho9
  have HO9 := Lib.hid ho9
  have HF3 := Lib.hid (Fr.of_below (S := fun _ => False) hb9)
  obtain ⟨A9, c9, rfl, hc9, hA9⟩ := ho9.form
  rw [HNR.out] at hc9 hA9 ⊢
  have HO9n := Lib.hid (show w3.ownsRow w.heap.size 67 3 (.slice A9 nr c9) nr (pcs R) from by have h := HO9.out; unfold OwnP at h; rw [HNR.out] at h; exact h)
  rw [HNR.out] at HO9
  have HA9 := Lib.hid hA9
  have HA9b := Lib.hid (show (nr = 0 ∧ A9 = none ∧ c9 = 0) ∨ ∃ g, A9 = some ⟨g, 0, none⟩ from by
    rcases HO9n.out.2 with ⟨e, h0⟩ | ⟨g, cap, cur, e, _⟩
    · injection e with e1 e2 e3
      exact .inl ⟨e2, e1, e3⟩
    · injection e with e1 e2 e3
      exact .inr ⟨g, e1⟩)
  clear ho9 hb9 hA9
  obtain ⟨vs, hbs, hrs⟩ := (HS.out.fr HF3.out).row
  have s1 := hbs.cell 1
  simp at s1
  clear hbs hrs
  go_wp2_with fail
  go_loopg [10, 11] nr (fun kq v10 v11 wr => Hid (AtL1 w3 R S v10 v11 kq wr))
  case atStart => exact Lib.hid ⟨0, rfl, by omega, by rw [HNR.out]; omega, fun j hj => absurd hj (by omega), OwnP.nil _ _, Below.refl _ _⟩
  case round =>
    obtain ⟨k, rfl, hk1, hk2, hlow, ho, hb⟩ := hrel.out
    have HO := Lib.hid ho
    have HB1 := Lib.hid hb
    have HLOW := Lib.hid hlow
    rw [HNR.out] at hk1 hk2
    clear hrel ho hb s1 hlow
    have HFB := Lib.hid (Fr.of_below (S := fun _ => False) HB1.out |>.mono (fun _ _ h => h))
    have HR9 := Lib.hid (HO9.out.fr HFB.out (fun _ _ => id))
    have hn9 : nr ≤ 100 := by have := HN.out.2.2.2; omega
    by_cases hk : k < nr
    · have u1 : decide ((k : Int) < (nr : Int)) = true := decide_eq_true (by omega)
      have u1' : decide (k < nr) = true := decide_eq_true hk
      have j0 : (0 : Int) ≤ (k : Int) := by omega
      have j1 : (k : Int) < (nr : Int) := by omega
      obtain ⟨g9, rfl⟩ := HA9.out (by omega)
      have HKN := Lib.hid (show k < R.length from by rw [HNR.out]; exact hk)
      obtain ⟨y0, y1, y2⟩ := HR9.out.at_ k HKN.out
      have hvx := (HV.out.without S E) (pgAt R k) (by rw [HRR.out]; exact pgAt_mem R k HKN.out)
      have HTK := Lib.hid (take_pg R k HKN.out)
      have HLT := Lib.hid (show (R.take k).length ≤ 100000 from by rw [List.length_take]; omega)
      obtain ⟨r, hr⟩ : ∃ r, pgAt R k = r := ⟨_, rfl⟩
      have HPR := Lib.hid hr
      rw [hr] at y0 y1 y2 HTK hvx
      obtain ⟨x, q, kb⟩ := r
      obtain ⟨h0, h1⟩ := hvx
      simp only at h0 h1
      obtain ⟨X, hX⟩ : ∃ X, x * 4096 = X := ⟨_, rfl⟩
      have hwx : IntKind.u64.wrap X = X := IntWalk.u64_in _ (by omega)
      have HLTO := Lib.hid (own_lt HO.out)
      obtain ⟨L, hL⟩ : ∃ L, R.take k = L := ⟨_, rfl⟩
      have HLL := Lib.hid hL
      rw [hL] at HO HTK HLT
      clear hr hL
      by_cases hxs : X < S
      · have u2 : decide (X < S) = true := decide_eq_true hxs
        have HXS := Lib.hid (show (pgAt R k).n * 4096 < S from by rw [HPR.out]; show x * 4096 < S; rw [hX]; exact hxs)
        clear hxs
        go_wp2_with ((with_reducible refine gate_builtin (b := .append) (xs := #[.tmp 52, .tmp 57]) rfl ?_); refine Classical.byContradiction fun hgoal => ?_)
        apply hgoal
        clear hgoal
        (try (refine gate_guard (by rfl) ?_; dsimp only))
        refine rowP_app (w0 := w3) (wr := wr) w3.heap.size rfl (.tmp 52) (.tmp 57) rfl _ L ⟨x, q, kb⟩ rfl rfl HO.out HB1.out rfl HLT.out ?_
        intro v8 w8 ho1 hb1 hf1
        have HO8 := Lib.hid ho1
        have HB8 := Lib.hid hb1
        clear ho1 hb1 hf1
        go_wp2_with fail
        go_roundg (nr - (k + 1))
        case measure => omega
        case rel => exact Lib.hid ⟨k + 1, by go_num, by rw [HNR.out]; omega, by rw [HNR.out]; omega, fun j hj => (Nat.lt_succ_iff_lt_or_eq.1 hj).elim (fun h => HLOW.out j h) (fun h => by rw [h]; exact HXS.out), by rw [HTK.out]; exact HO8.out, HB8.out⟩
      · have u2 : decide (X < S) = false := decide_eq_false hxs
        have HXS := Lib.hid (show k < nr → ¬ (pgAt R k).n * 4096 < S from fun _ => by rw [HPR.out]; show ¬ x * 4096 < S; rw [hX]; exact hxs)
        rw [← HLL.out] at HO
        clear hxs
        obtain ⟨X, hX⟩ : ∃ X, R.take k = X := ⟨_, rfl⟩
        have HX := Lib.hid hX
        rw [hX] at HO
        have HXL := Lib.hid (show X.length = k from by rw [← hX, List.length_take]; have := HNR.out; omega)
        clear hX
        have hbnd := HN.out
        go_wp2_with fail
        go_loopg [10, 12] N (fun kq v10 v12 wr => Hid (AtL2 w3 X a N p S v10 v12 kq wr))
        case atStart =>
          refine Lib.hid ⟨0, [], by simp, by omega, by omega, rfl, fun i hi => absurd hi (by omega), ?_, HB1.out⟩
          rw [List.append_nil]
          exact HO.out
        case round =>
          obtain ⟨j, M, rfl, hj1, hj2, hML, hMv, ho2, hb2⟩ := hrel.out
          have HO2 := Lib.hid ho2
          have HB2 := Lib.hid hb2
          have HMV := Lib.hid (And.intro hML hMv)
          clear hrel ho2 hb2 hML hMv
          obtain ⟨V, hV⟩ : ∃ V, S + (j : Int) * 4096 = V := ⟨_, rfl⟩
          obtain ⟨hSS, hEE⟩ := HSE.out
          rw [hV]
          by_cases hj : j < N
          · have u5 : decide (V < E) = true := decide_eq_true (by omega)
            have hq1 : V.tdiv 4096 = ((a + j : Nat) : Int) := by rw [Int.tdiv_eq_ediv_of_nonneg (by omega)]; omega
            have hq2 : V / 4096 = ((a + j : Nat) : Int) := by omega
            obtain ⟨aj, haj⟩ : ∃ aj : Nat, a + j = aj := ⟨_, rfl⟩
            rw [haj] at hq1 hq2
            have HAJ := Lib.hid haj
            have hwv : IntKind.u64.wrap (aj : Int) = (aj : Int) := IntWalk.u64_in _ (by omega)
            have hV4 : V + 4096 = S + ((j + 1 : Nat) : Int) * 4096 := by omega
            obtain ⟨V4, hV4'⟩ : ∃ V4, V + 4096 = V4 := ⟨_, rfl⟩
            have hwv4 : IntKind.u64.wrap V4 = V4 := IntWalk.u64_in _ (by omega)
            have HV4 := Lib.hid (show S + ((j + 1 : Nat) : Int) * 4096 = V4 from by omega)
            have HLX := Lib.hid (show (X ++ M).length ≤ 100000 from by rw [List.length_append, HXL.out, HMV.out.1]; omega)
            have HJ := Lib.hid (And.intro hj1 (And.intro hj2 hj))
            clear hV hV4 haj hSS hEE hbnd
            obtain ⟨i8, hi8, hz8, hzs8, hzb8⟩ := info_parts info8b
            have HI8 := Lib.hid (And.intro hi8 (And.intro hz8 (And.intro hzs8 hzb8)))
            clear hi8 hz8 hzs8 hzb8
            go_wp2_with (at_make; refine Classical.byContradiction fun hgoal => ?_)
            apply hgoal
            clear hgoal
            refine wpList_make_full _ rfl _ _ 22 rfl wr.heap.size 5 i8 (.int .u8 0) 1 Try.underlying22 HI8.out.1 HI8.out.2.1 HI8.out.2.2.1 .i64 .i64 4096 4096 4096 rfl rfl rfl rfl (by rw [HI8.out.2.2.2]; omega) (by unfold maxLen; omega) (Nat.le_refl _) ?_
            intro wm hm gm
            have HOM := Lib.hid (HO2.out.fr ((Fr.refl (fun _ => False) wr).grown gm (fun k e => by cases e)) (fun _ _ => id))
            have HBM := Lib.hid (Fr.below HB2.out ((Fr.refl (fun _ => False) wr).grown gm (fun k e => by cases e)) (fun _ _ => id))
            clear hm gm
            go_wp2_with ((with_reducible refine gate_builtin (b := .append) (xs := #[.tmp 65, .tmp 71]) rfl ?_); refine Classical.byContradiction fun hgoal => ?_)
            apply hgoal
            clear hgoal
            (try (refine gate_guard (by rfl) ?_; dsimp only))
            refine rowP_app (w0 := w3) (wr := wm) w3.heap.size rfl (.tmp 65) (.tmp 71) rfl _ (X ++ M) ⟨(aj : Int), p, wr.heap.size⟩ rfl rfl HOM.out HBM.out rfl HLX.out ?_
            intro v8 w8 ho1 hb1 hf1
            have HO8 := Lib.hid ho1
            have HB8 := Lib.hid hb1
            clear ho1 hb1 hf1
            go_wp2_with fail
            go_roundg (N - (j + 1))
            case measure => (have := HJ.out; omega)
            case rel =>
              refine Lib.hid ⟨j + 1, M ++ [⟨(aj : Int), p, wr.heap.size⟩], by rw [HV4.out], by have := HJ.out; omega, by omega, by rw [List.length_append, HMV.out.1]; rfl, fun i hi => ?_, by rw [← List.append_assoc]; exact HO8.out, HB8.out⟩
              rcases Nat.lt_succ_iff_lt_or_eq.1 hi with h | h
              · have h2 := HMV.out.2 i h
                rw [pgAt_left M _ i (by rw [HMV.out.1]; exact h)]
                exact h2
              · subst h
                rw [pgAt_last M _ i HMV.out.1, HAJ.out]
                exact ⟨rfl, rfl⟩
          · obtain rfl : j = N := by omega
            have u5 : decide (V < E) = false := decide_eq_false (by omega)
            clear hV hSS hEE
            obtain ⟨A10, c10, rfl, hc10, hA10⟩ := HO2.out.form
            obtain ⟨nx, hnx⟩ : ∃ nx, (X ++ M).length = nx := ⟨_, rfl⟩
            have HNX := Lib.hid hnx
            have hnxE : nx = k + j := by rw [← hnx, List.length_append, HXL.out, HMV.out.1]
            obtain ⟨g10, rfl⟩ := hA10 (by rw [hnx]; omega)
            rw [hnx] at HO2 hc10 ⊢
            have HR9b := Lib.hid (HO9.out.fr (Fr.of_below (S := fun _ => False) HB2.out |>.mono (fun _ _ h => h)) (fun _ _ => id))
            clear hnx hA10
            have HZ0 := Lib.hid (show R.take k ++ M ++ R.drop k = X ++ M ++ R.drop k from by rw [HX.out])
            have HLL2 := Lib.hid (show LayP a j p l (X ++ M ++ R.drop k) from by
              rw [← HZ0.out]
              exact HLAY.out k M hk1 HLOW.out HXS.out HMV.out.1 HMV.out.2)
            have HMS := Lib.hid (show Small M from fun x hx => by
              obtain ⟨i, hi, e⟩ := List.mem_iff_getElem.1 hx
              have h := HMV.out.2 i (by rw [← HMV.out.1]; exact hi)
              unfold pgAt at h
              rw [List.getD_eq_getElem?_getD, List.getElem?_eq_getElem hi, Option.getD_some, e] at h
              have := HN.out
              rw [HMV.out.1] at hi
              omega)
            have HRS := Lib.hid (show Small R from by rw [← HRR.out]; exact HV.out.without S E)
            have HZS := Lib.hid (show Small (X ++ M ++ R.drop k) from fun x hx => by
              rw [← HX.out] at hx
              rcases List.mem_append.1 hx with hx | hx
              · rcases List.mem_append.1 hx with hx | hx
                · exact HRS.out x (List.mem_of_mem_take hx)
                · exact HMS.out x hx
              · exact HRS.out x (List.mem_of_mem_drop hx))
            have HKN9 := Lib.hid (show k ≤ R.length from by rw [HNR.out]; omega)
            have HDL := Lib.hid (show (R.drop k).length = nr - k from by rw [List.length_drop, HNR.out])
            have hc9k : ¬ c9 = k := by omega
            go_wp2_with ((with_reducible refine gate_builtin (b := .append) (xs := #[.tmp 73, .tmp 76]) rfl ?_); refine Classical.byContradiction fun hgoal => ?_)
            apply hgoal
            clear hgoal
            (try (refine gate_guard (by rfl) ?_; dsimp only))
            refine rowP_apps (w0 := w3) (wr := wr) w3.heap.size rfl (.tmp 73) (.tmp 76) rfl _ (X ++ M) (R.drop k) rfl ⟨g9, k * 3, none⟩ (nr - k) (c9 - k) (by rfl) HDL.out.symm (newsP_own HR9b.out HNR.out.symm k HKN9.out) HO2.out HB2.out rfl (by rw [HNX.out, HDL.out]; omega) ?_
            intro v11 wz ho1 hb1
            have HOZ := Lib.hid ho1
            have HBZ := Lib.hid hb1
            clear ho1 hb1
            obtain ⟨AZ, cZ, rfl, _, _⟩ := HOZ.out.form
            obtain ⟨nz, hnz⟩ : ∃ nz, (X ++ M ++ R.drop k).length = nz := ⟨_, rfl⟩
            have HZL := Lib.hid hnz
            have hnz2 : nz ≤ 100 := by rw [← hnz, List.length_append, HNX.out, HDL.out]; omega
            rw [hnz] at HOZ ⊢
            obtain ⟨Z, hZ⟩ : ∃ Z, X ++ M ++ R.drop k = Z := ⟨_, rfl⟩
            rw [hZ] at HOZ HZL HZS HLL2
            clear hnz hZ hnxE
            go_wp2_with fail

            refine (regions_any _ Z _ _ HOZ.out (by rw [HZL.out]; omega) HZS.out).mono ?_
            rintro x w12 ⟨v12, rfl, ho12, hb12⟩
            obtain ⟨A12, c12, rfl, _, _⟩ := ho12.form
            obtain ⟨nq, hnq⟩ : ∃ nq, (regsL Z).length = nq := ⟨_, rfl⟩
            have hnq2 : nq ≤ 100 := by have h := regsL_len Z; rw [hnq, HZL.out] at h; omega
            rw [hnq]
            have c5 : decide ((256 : Int) < (nq : Int)) = false := decide_eq_false (by omega)
            have c6 : decide ((100 : Int) < (nz : Int)) = false := decide_eq_false (by omega)
            have HF12 := Lib.hid ((HF3.out.trans (Fr.of_below (S := fun _ => False) HBZ.out |>.mono (fun _ _ h => h)) (fun _ _ => id)).trans (Fr.of_below (S := fun _ => False) hb12) (fun _ _ => id))
            have HOZ2 := Lib.hid (HOZ.out.fr (Fr.of_below (S := fun _ => False) hb12) (fun _ _ => id))
            obtain ⟨vq, hbq, hrq⟩ := (HS.out.fr HF12.out).row
            have q0 := hbq.cell 0
            have q1 := hbq.cell 1
            have f0 := hbq.frozen 0
            simp at q0 q1
            have HLTG := Lib.hid (show g < w.heap.size from by obtain ⟨v9, hb9, _⟩ := HS.out.row; exact hb9.lt)
            have HS2 := Lib.hid (show Blk (w12.setCell ⟨g, 0, none⟩ (.slice AZ nz cZ)) g 43 #[.slice AZ nz cZ, .int .i64 100, .int .u64 0, .int .u64 0] from by simpa using hbq.set 0 (.slice AZ nz cZ))
            have hfs : Fr (fun k => k = g) w12 (w12.setCell ⟨g, 0, none⟩ (.slice AZ nz cZ)) := (Fr.refl (fun k => k = g) w12).setCell (p := ⟨g, 0, none⟩) (.inl rfl) _
            have HSZ3 := Lib.hid HF3.out.size
            have HOZ3 := Lib.hid (HOZ2.out.fr hfs (fun k e e2 => by have e1 := own_ge HOZ.out k e; have := HLTG.out; have := HSZ3.out; omega))
            have HFF := Lib.hid ((HF12.out.mono (T := fun k => k = g) (fun _ _ h => h.elim)).trans hfs (fun _ _ => id))
            clear ho12 hb12 hbq hrq hnq hfs
            go_wp2_with fail
            go_ret
            exact ⟨rfl, ⟨_, HLL2.out, ⟨⟨_, HS2.out, OwnP.low HOZ3.out (Nat.le_trans HB.out HSZ3.out)⟩, HS.out.gb⟩⟩, HFF.out⟩
    · obtain rfl : k = nr := by omega
      have u1 : decide ((k : Int) < (k : Int)) = false := decide_eq_false (by omega)
      have HXS := Lib.hid (show k < k → ¬ (pgAt R k).n * 4096 < S from fun h => absurd h (Nat.lt_irrefl _))
      obtain ⟨X, hX⟩ : ∃ X, R.take k = X := ⟨_, rfl⟩
      have HX := Lib.hid hX
      rw [hX] at HO
      have HXL := Lib.hid (show X.length = k from by rw [← hX, List.length_take]; have := HNR.out; omega)
      clear hX
      have hbnd := HN.out
      go_wp2_with fail
      go_loopg [10, 12] N (fun kq v10 v12 wr => Hid (AtL2 w3 X a N p S v10 v12 kq wr))
      case atStart =>
        refine Lib.hid ⟨0, [], by simp, by omega, by omega, rfl, fun i hi => absurd hi (by omega), ?_, HB1.out⟩
        rw [List.append_nil]
        exact HO.out
      case round =>
        obtain ⟨j, M, rfl, hj1, hj2, hML, hMv, ho2, hb2⟩ := hrel.out
        have HO2 := Lib.hid ho2
        have HB2 := Lib.hid hb2
        have HMV := Lib.hid (And.intro hML hMv)
        clear hrel ho2 hb2 hML hMv
        obtain ⟨V, hV⟩ : ∃ V, S + (j : Int) * 4096 = V := ⟨_, rfl⟩
        obtain ⟨hSS, hEE⟩ := HSE.out
        rw [hV]
        by_cases hj : j < N
        · have u5 : decide (V < E) = true := decide_eq_true (by omega)
          have hq1 : V.tdiv 4096 = ((a + j : Nat) : Int) := by rw [Int.tdiv_eq_ediv_of_nonneg (by omega)]; omega
          have hq2 : V / 4096 = ((a + j : Nat) : Int) := by omega
          obtain ⟨aj, haj⟩ : ∃ aj : Nat, a + j = aj := ⟨_, rfl⟩
          rw [haj] at hq1 hq2
          have HAJ := Lib.hid haj
          have hwv : IntKind.u64.wrap (aj : Int) = (aj : Int) := IntWalk.u64_in _ (by omega)
          have hV4 : V + 4096 = S + ((j + 1 : Nat) : Int) * 4096 := by omega
          obtain ⟨V4, hV4'⟩ : ∃ V4, V + 4096 = V4 := ⟨_, rfl⟩
          have hwv4 : IntKind.u64.wrap V4 = V4 := IntWalk.u64_in _ (by omega)
          have HV4 := Lib.hid (show S + ((j + 1 : Nat) : Int) * 4096 = V4 from by omega)
          have HLX := Lib.hid (show (X ++ M).length ≤ 100000 from by rw [List.length_append, HXL.out, HMV.out.1]; omega)
          have HJ := Lib.hid (And.intro hj1 (And.intro hj2 hj))
          clear hV hV4 haj hSS hEE hbnd
          obtain ⟨i8, hi8, hz8, hzs8, hzb8⟩ := info_parts info8b
          have HI8 := Lib.hid (And.intro hi8 (And.intro hz8 (And.intro hzs8 hzb8)))
          clear hi8 hz8 hzs8 hzb8
          go_wp2_with (at_make; refine Classical.byContradiction fun hgoal => ?_)
          apply hgoal
          clear hgoal
          refine wpList_make_full _ rfl _ _ 22 rfl wr.heap.size 5 i8 (.int .u8 0) 1 Try.underlying22 HI8.out.1 HI8.out.2.1 HI8.out.2.2.1 .i64 .i64 4096 4096 4096 rfl rfl rfl rfl (by rw [HI8.out.2.2.2]; omega) (by unfold maxLen; omega) (Nat.le_refl _) ?_
          intro wm hm gm
          have HOM := Lib.hid (HO2.out.fr ((Fr.refl (fun _ => False) wr).grown gm (fun k e => by cases e)) (fun _ _ => id))
          have HBM := Lib.hid (Fr.below HB2.out ((Fr.refl (fun _ => False) wr).grown gm (fun k e => by cases e)) (fun _ _ => id))
          clear hm gm
          go_wp2_with ((with_reducible refine gate_builtin (b := .append) (xs := #[.tmp 65, .tmp 71]) rfl ?_); refine Classical.byContradiction fun hgoal => ?_)
          apply hgoal
          clear hgoal
          (try (refine gate_guard (by rfl) ?_; dsimp only))
          refine rowP_app (w0 := w3) (wr := wm) w3.heap.size rfl (.tmp 65) (.tmp 71) rfl _ (X ++ M) ⟨(aj : Int), p, wr.heap.size⟩ rfl rfl HOM.out HBM.out rfl HLX.out ?_
          intro v8 w8 ho1 hb1 hf1
          have HO8 := Lib.hid ho1
          have HB8 := Lib.hid hb1
          clear ho1 hb1 hf1
          go_wp2_with fail
          go_roundg (N - (j + 1))
          case measure => (have := HJ.out; omega)
          case rel =>
            refine Lib.hid ⟨j + 1, M ++ [⟨(aj : Int), p, wr.heap.size⟩], by rw [HV4.out], by have := HJ.out; omega, by omega, by rw [List.length_append, HMV.out.1]; rfl, fun i hi => ?_, by rw [← List.append_assoc]; exact HO8.out, HB8.out⟩
            rcases Nat.lt_succ_iff_lt_or_eq.1 hi with h | h
            · have h2 := HMV.out.2 i h
              rw [pgAt_left M _ i (by rw [HMV.out.1]; exact h)]
              exact h2
            · subst h
              rw [pgAt_last M _ i HMV.out.1, HAJ.out]
              exact ⟨rfl, rfl⟩
        · obtain rfl : j = N := by omega
          have u5 : decide (V < E) = false := decide_eq_false (by omega)
          clear hV hSS hEE
          obtain ⟨A10, c10, rfl, hc10, hA10⟩ := HO2.out.form
          obtain ⟨nx, hnx⟩ : ∃ nx, (X ++ M).length = nx := ⟨_, rfl⟩
          have HNX := Lib.hid hnx
          have hnxE : nx = k + j := by rw [← hnx, List.length_append, HXL.out, HMV.out.1]
          obtain ⟨g10, rfl⟩ := hA10 (by rw [hnx]; omega)
          rw [hnx] at HO2 hc10 ⊢
          have HR9b := Lib.hid (HO9.out.fr (Fr.of_below (S := fun _ => False) HB2.out |>.mono (fun _ _ h => h)) (fun _ _ => id))
          clear hnx hA10
          have HLL2 := Lib.hid (show LayP a j p l (X ++ M) from by
            have h := HLAY.out k M hk1 HLOW.out HXS.out HMV.out.1 HMV.out.2
            rw [HX.out, List.drop_eq_nil_of_le (by rw [HNR.out]; exact Nat.le_refl _), List.append_nil] at h
            exact h)
          have HMS := Lib.hid (show Small M from fun x hx => by
            obtain ⟨i, hi, e⟩ := List.mem_iff_getElem.1 hx
            have h := HMV.out.2 i (by rw [← HMV.out.1]; exact hi)
            unfold pgAt at h
            rw [List.getD_eq_getElem?_getD, List.getElem?_eq_getElem hi, Option.getD_some, e] at h
            have := HN.out
            rw [HMV.out.1] at hi
            omega)
          have HRS := Lib.hid (show Small R from by rw [← HRR.out]; exact HV.out.without S E)
          have HZS := Lib.hid (show Small (X ++ M) from fun x hx => by
            rw [← HX.out] at hx
            rcases List.mem_append.1 hx with hx | hx
            · exact HRS.out x (List.mem_of_mem_take hx)
            · exact HMS.out x hx)
          have HOZ := Lib.hid HO2.out
          have HBZ := Lib.hid HB2.out
          have HZL := Lib.hid HNX.out
          obtain ⟨Z, hZ⟩ : ∃ Z, X ++ M = Z := ⟨_, rfl⟩
          rw [hZ] at HOZ HZL HZS HLL2
          have hnx2 : nx ≤ 100 := by omega
          clear hZ hnxE
          rcases HA9b.out with ⟨e9, rfl, rfl⟩ | ⟨g9, rfl⟩
          · have hk0 : k = 0 := e9
            clear e9
            go_wp2_with ((with_reducible refine gate_builtin (b := .append) (xs := #[.tmp 73, .tmp 76]) rfl ?_); refine Classical.byContradiction fun hgoal => ?_)
            apply hgoal
            clear hgoal
            (try (refine gate_guard (by rfl) ?_; dsimp only))
            refine rowP_none rfl (.tmp 73) (.tmp 76) rfl (some ⟨g10, 0, none⟩) nx c10 rfl hc10 rfl ?_
            go_wp2_with fail
            refine (regions_any _ Z _ _ HOZ.out (by rw [HZL.out]; omega) HZS.out).mono ?_
            rintro x w12 ⟨v12, rfl, ho12, hb12⟩
            obtain ⟨A12, c12, rfl, _, _⟩ := ho12.form
            obtain ⟨nq, hnq⟩ : ∃ nq, (regsL Z).length = nq := ⟨_, rfl⟩
            have hnq2 : nq ≤ 100 := by have h := regsL_len Z; rw [hnq, HZL.out] at h; omega
            rw [hnq]
            have c5 : decide ((256 : Int) < (nq : Int)) = false := decide_eq_false (by omega)
            have c6 : decide ((100 : Int) < (nx : Int)) = false := decide_eq_false (by omega)
            have HF12 := Lib.hid ((HF3.out.trans (Fr.of_below (S := fun _ => False) HBZ.out |>.mono (fun _ _ h => h)) (fun _ _ => id)).trans (Fr.of_below (S := fun _ => False) hb12) (fun _ _ => id))
            have HOZ2 := Lib.hid (HOZ.out.fr (Fr.of_below (S := fun _ => False) hb12) (fun _ _ => id))
            obtain ⟨vq, hbq, hrq⟩ := (HS.out.fr HF12.out).row
            have q0 := hbq.cell 0
            have q1 := hbq.cell 1
            have f0 := hbq.frozen 0
            simp at q0 q1
            have HLTG := Lib.hid (show g < w.heap.size from by obtain ⟨v9, hb9, _⟩ := HS.out.row; exact hb9.lt)
            have HS2 := Lib.hid (show Blk (w12.setCell ⟨g, 0, none⟩ (.slice (some ⟨g10, 0, none⟩) nx c10)) g 43 #[.slice (some ⟨g10, 0, none⟩) nx c10, .int .i64 100, .int .u64 0, .int .u64 0] from by simpa using hbq.set 0 (.slice (some ⟨g10, 0, none⟩) nx c10))
            have hfs : Fr (fun k => k = g) w12 (w12.setCell ⟨g, 0, none⟩ (.slice (some ⟨g10, 0, none⟩) nx c10)) := (Fr.refl (fun k => k = g) w12).setCell (p := ⟨g, 0, none⟩) (.inl rfl) _
            have HSZ3 := Lib.hid HF3.out.size
            have HOZ3 := Lib.hid (HOZ2.out.fr hfs (fun k e e2 => by have e1 := own_ge HOZ.out k e; have := HLTG.out; have := HSZ3.out; omega))
            have HFF := Lib.hid ((HF12.out.mono (T := fun k => k = g) (fun _ _ h => h.elim)).trans hfs (fun _ _ => id))
            clear ho12 hb12 hbq hrq hnq hfs
            go_wp2_with fail
            go_ret
            exact ⟨rfl, ⟨_, HLL2.out, ⟨⟨_, HS2.out, OwnP.low HOZ3.out (Nat.le_trans HB.out HSZ3.out)⟩, HS.out.gb⟩⟩, HFF.out⟩
          · go_wp2_with fail
            all_goals
              refine (regions_any _ Z _ _ HOZ.out (by rw [HZL.out]; omega) HZS.out).mono ?_
              rintro x w12 ⟨v12, rfl, ho12, hb12⟩
              obtain ⟨A12, c12, rfl, _, _⟩ := ho12.form
              obtain ⟨nq, hnq⟩ : ∃ nq, (regsL Z).length = nq := ⟨_, rfl⟩
              have hnq2 : nq ≤ 100 := by have h := regsL_len Z; rw [hnq, HZL.out] at h; omega
              rw [hnq]
              have c5 : decide ((256 : Int) < (nq : Int)) = false := decide_eq_false (by omega)
              have c6 : decide ((100 : Int) < (nx : Int)) = false := decide_eq_false (by omega)
              have HF12 := Lib.hid ((HF3.out.trans (Fr.of_below (S := fun _ => False) HBZ.out |>.mono (fun _ _ h => h)) (fun _ _ => id)).trans (Fr.of_below (S := fun _ => False) hb12) (fun _ _ => id))
              have HOZ2 := Lib.hid (HOZ.out.fr (Fr.of_below (S := fun _ => False) hb12) (fun _ _ => id))
              obtain ⟨vq, hbq, hrq⟩ := (HS.out.fr HF12.out).row
              have q0 := hbq.cell 0
              have q1 := hbq.cell 1
              have f0 := hbq.frozen 0
              simp at q0 q1
              have HLTG := Lib.hid (show g < w.heap.size from by obtain ⟨v9, hb9, _⟩ := HS.out.row; exact hb9.lt)
              have HS2 := Lib.hid (show Blk (w12.setCell ⟨g, 0, none⟩ (.slice (some ⟨g10, 0, none⟩) nx c10)) g 43 #[.slice (some ⟨g10, 0, none⟩) nx c10, .int .i64 100, .int .u64 0, .int .u64 0] from by simpa using hbq.set 0 (.slice (some ⟨g10, 0, none⟩) nx c10))
              have hfs : Fr (fun k => k = g) w12 (w12.setCell ⟨g, 0, none⟩ (.slice (some ⟨g10, 0, none⟩) nx c10)) := (Fr.refl (fun k => k = g) w12).setCell (p := ⟨g, 0, none⟩) (.inl rfl) _
              have HSZ3 := Lib.hid HF3.out.size
              have HOZ3 := Lib.hid (HOZ2.out.fr hfs (fun k e e2 => by have e1 := own_ge HOZ.out k e; have := HLTG.out; have := HSZ3.out; omega))
              have HFF := Lib.hid ((HF12.out.mono (T := fun k => k = g) (fun _ _ h => h.elim)).trans hfs (fun _ _ => id))
              clear ho12 hb12 hbq hrq hnq hfs
              go_wp2_with fail
              go_ret
              exact ⟨rfl, ⟨_, HLL2.out, ⟨⟨_, HS2.out, OwnP.low HOZ3.out (Nat.le_trans HB.out HSZ3.out)⟩, HS.out.gb⟩⟩, HFF.out⟩
end Go.Proofs.Ytnaiccgbjcppaaa.Rg
