/- region.joined: walked. -/
import Derived.Test.YtnaiccgbjcppaaaRgA
namespace Go.Proofs.Ytnaiccgbjcppaaa.Rg
open Go Go.RowKit Go.Proofs.YtnaiccgbjcppaaaW.PrintWords Go.Proofs.YtnaiccgbjcppaaaW.PrintLast Go.Proofs.YtnaiccgbjcppaaaW.PrintMore
open Go.Proofs.Ytnaiccgbjcppaaa.Hp
attribute [local go_sem] max2_int min2_int max_two min_two max_three min_three max_four min_four
set_option linter.unusedVariables false
set_option linter.unusedSimpArgs false
/-- One region more, joined to the last one where they touch and are alike. -/
def joinStep (o : List Rg) (r : Rg) : List Rg := match o.getLast? with
  | some q => if q.e = r.s ∧ q.p = r.p then o.dropLast ++ [⟨q.s, r.e, q.p⟩] else o ++ [r]
  | none => [r]
def joinedL (l : List Rg) : List Rg := l.foldl joinStep []
theorem joinStep_nil (r : Rg) : joinStep [] r = [r] := rfl
theorem joinStep_snoc (L : List Rg) (q r : Rg) : joinStep (L ++ [q]) r = if q.e = r.s ∧ q.p = r.p then L ++ [⟨q.s, r.e, q.p⟩] else L ++ [q] ++ [r] := by
  unfold joinStep
  rw [List.getLast?_concat, List.dropLast_concat]
theorem joinedL_snoc (l : List Rg) (r : Rg) : joinedL (l ++ [r]) = joinStep (joinedL l) r := by
  unfold joinedL
  rw [List.foldl_append]
  rfl
theorem joinStep_len (o : List Rg) (r : Rg) : (joinStep o r).length ≤ o.length + 1 := by
  rcases List.eq_nil_or_concat o with rfl | ⟨L, q, rfl⟩
  · simp [joinStep]
  · rw [List.concat_eq_append, joinStep_snoc]
    split <;> simp
theorem joinedL_len (l : List Rg) : (joinedL l).length ≤ l.length := by
  have h : ∀ (l : List Rg) (o : List Rg), (l.foldl joinStep o).length ≤ o.length + l.length := by
    intro l
    induction l with
    | nil => intro o; simp
    | cons r t ih =>
      intro o
      have h1 := ih (joinStep o r)
      have h2 := joinStep_len o r
      simp only [List.foldl_cons, List.length_cons]
      omega
  have := h l []
  unfold joinedL
  simpa using this
theorem rcs_set (L : List Rg) (q : Rg) (x : Int) : (rcs (L ++ [q])).set (L.length * 3 + 1) (.int .u64 x) = rcs (L ++ [⟨q.s, x, q.p⟩]) := by
  rw [rcs_append, rcs_append, List.set_append_right _ _ (by rw [rcs_length]; omega), rcs_length, Nat.add_sub_cancel_left]
  rfl
theorem OwnR.setE {w : World} {B g n c : Nat} {L : List Rg} {q : Rg} (h : OwnR w B (.slice (some ⟨g, 0, none⟩) n c) (L ++ [q])) (hn : n = (L ++ [q]).length) (m : Nat) (hm : L.length = m) (x : Int) : OwnR (w.setCell ⟨g, m * 3 + 1, none⟩ (.int .u64 x)) B (.slice (some ⟨g, 0, none⟩) n c) (L ++ [⟨q.s, x, q.p⟩]) := by
  subst hm
  subst hn
  have h1 := World.ownsRow.stored h (L.length * 3 + 1) (.int .u64 x)
  rw [rcs_set] at h1
  unfold OwnR
  rw [show (L ++ [(⟨q.s, x, q.p⟩ : Rg)]).length = (L ++ [q]).length by simp]
  exact h1.1
theorem OwnR.fz {w : World} {B g n c : Nat} {l : List Rg} (h : OwnR w B (.slice (some ⟨g, 0, none⟩) n c) l) (hn : n = l.length) (j : Nat) : w.frozen? ⟨g, j, none⟩ = false := by
  subst hn
  exact World.ownsRow.frozenAt h j
theorem rgAt_last (L : List Rg) (q : Rg) (m : Nat) (hm : L.length = m) : rgAt (L ++ [q]) m = q := by
  subst hm
  unfold rgAt
  simp
def AtJo (w : World) (l : List Rg) (n : Nat) (v3 v9 : Value) (kq : Nat) (wr : World) : Prop := ∃ k : Nat, v9 = .int .i64 k ∧ k ≤ n ∧ n - k ≤ kq ∧ OwnR wr w.heap.size v3 (joinedL (l.take k)) ∧ Below w.heap.size w wr
set_option maxHeartbeats 4000000 in
theorem joined_any (v : Value) (l : List Rg) (B : Nat) (w : World) (h : OwnR w B v l) (hn : l.length ≤ 5000) : Calls Try.prog 49 #[v] w fun e w' => ∃ v', e = .returned v' ∧ OwnR w' w.heap.size v' (joinedL l) ∧ Below w.heap.size w w' := by
  obtain ⟨A, c, rfl, hc, hA⟩ := h.form
  have H := Lib.hid h
  have HA := Lib.hid hA
  obtain ⟨n, hnn⟩ : ∃ n, l.length = n := ⟨_, rfl⟩
  have HN := Lib.hid hnn
  rw [hnn] at H HA hc hn ⊢
  clear h hA hnn
  go_enter Try.func49, Try.ntmps49
  go_wp2_with fail
  go_loopg [3, 9] n (fun kq v3 v9 wr => Hid (AtJo w l n v3 v9 kq wr))
  case atStart => exact Lib.hid ⟨0, rfl, by omega, by omega, OwnR.nil _ _, Below.refl _ _⟩
  case round =>
    obtain ⟨k, rfl, hk1, hk2, ho, hb⟩ := hrel.out
    have HO := Lib.hid ho
    have HB := Lib.hid hb
    clear hrel ho hb
    by_cases hk : k < n
    · have u1 : decide ((k : Int) < (n : Int)) = true := decide_eq_true (by omega)
      have u1' : decide (k < n) = true := decide_eq_true hk
      have j0 : (0 : Int) ≤ (k : Int) := by omega
      have j1 : (k : Int) < (n : Int) := by omega
      obtain ⟨g, rfl⟩ := HA.out (by omega)
      obtain ⟨y0, y1, y2⟩ := (H.out.fr (Fr.of_below (S := fun _ => False) HB.out |>.mono (fun _ _ h => h)) (fun _ _ => id)).at_ k (by rw [HN.out]; exact hk)
      have HTK := Lib.hid (show joinedL (l.take (k + 1)) = joinStep (joinedL (l.take k)) (rgAt l k) from by rw [take_rg l k (by rw [HN.out]; exact hk), joinedL_snoc])
      have hwl := joinedL_len (l.take k)
      rw [List.length_take] at hwl
      obtain ⟨r, hr⟩ : ∃ r, rgAt l k = r := ⟨_, rfl⟩
      rw [hr] at y0 y1 y2 HTK
      obtain ⟨s, e, p⟩ := r
      obtain ⟨O, hO⟩ : ∃ x, joinedL (l.take k) = x := ⟨_, rfl⟩
      rw [hO] at HO HTK hwl
      have HXB := Lib.hid (Blk.new wr 36 #[.int .u64 s, .int .u64 e, .int .i64 p])
      have HOa := Lib.hid (HO.out.fr ((Fr.refl (fun _ => False) wr).alloc (.cells #[.int .u64 s, .int .u64 e, .int .i64 p] 36)) (fun _ _ => id))
      have HBa := Lib.hid (Fr.below HB.out ((Fr.refl (fun _ => False) wr).alloc (.cells #[.int .u64 s, .int .u64 e, .int .i64 p] 36)) (fun _ _ => id))
      clear hr hO
      obtain ⟨A3, c3, rfl, hc3, hA3⟩ := HO.out.form
      rcases List.eq_nil_or_concat O with rfl | ⟨L, q, rfl⟩
      · rw [joinStep_nil] at HTK
        go_wp2_with fail
        go_quiet (fail)
        all_goals
          have HOd := Lib.hid (HOa.out.fr ((Fr.refl (fun _ => False) _).drewN nq) (fun _ _ => id))
          have HBd := Lib.hid (Fr.below HBa.out ((Fr.refl (fun _ => False) _).drewN nq) (fun _ _ => id))
          have HXd := Lib.hid (HXB.out.drewN nq)
          generalize (wr.alloc (.cells #[.int .u64 s, .int .u64 e, .int .i64 p] 36)).drewN nq = wd at HOd HBd HXd ⊢
          have k0 := HXd.out.cell 0
          have k1 := HXd.out.cell 1
          have k2 := HXd.out.cell 2
          simp at k0 k1 k2
          go_wp2_with ((with_reducible refine gate_builtin (b := .append) (xs := #[.tmp 46, .tmp 48]) rfl ?_); refine Classical.byContradiction fun hgoal => ?_)
          apply hgoal
          clear hgoal
          (try (refine gate_guard (by rfl) ?_; dsimp only))
          refine rowR_app (w0 := w) (wr := wd) w.heap.size rfl (.tmp 46) (.tmp 48) rfl _ [] ⟨s, e, p⟩ rfl rfl HOd.out HBd.out rfl (by decide) ?_
          intro v1 w1 ho1 hb1 _
          have HO1 := Lib.hid ho1
          have HB1 := Lib.hid hb1
          clear ho1 hb1
          go_wp2_with fail
          go_roundg (n - (k + 1))
          case measure => omega
          case rel => exact Lib.hid ⟨k + 1, by go_num, by omega, by omega, by rw [HTK.out]; exact HO1.out, HB1.out⟩
      · rw [List.concat_eq_append] at HO HOa HTK hwl
        rw [joinStep_snoc] at HTK
        obtain ⟨gO, rfl⟩ := hA3 (by simp)
        rw [List.concat_eq_append] at hc3 ⊢
        obtain ⟨m, hm⟩ : ∃ m, L.length = m := ⟨_, rfl⟩
        have HM := Lib.hid hm
        obtain ⟨n6, hn6⟩ : ∃ z, (L ++ [q]).length = z := ⟨_, rfl⟩
        have hn7 : n6 = m + 1 := by rw [← hn6, ← hm]; simp
        have HN6 := Lib.hid hn6
        rw [hn6] at HO HOa hc3 hwl ⊢
        clear hA3
        obtain ⟨t0, t1, t2⟩ := HOa.out.at_ m (by rw [HN6.out]; omega)
        rw [rgAt_last L q m HM.out] at t0 t1 t2
        have f1 : IntKind.i64.wrap ((n6 : Int) - 1) = (m : Int) := by rw [show (n6 : Int) - 1 = (m : Int) by omega]; exact IntWalk.i64_in _ (by omega)
        have v1 : decide ((0 : Int) < (n6 : Int)) = true := decide_eq_true (by omega)
        have v1' : decide (0 < n6) = true := decide_eq_true (by omega)
        have i0 : (0 : Int) ≤ (m : Int) := by omega
        have i1 : (m : Int) < (n6 : Int) := by omega
        clear hm hn6 hn7
        by_cases c1 : q.e = s
        · by_cases c2 : q.p = p
          · have b1 : (q.e == s) = true := beq_iff_eq.2 c1
            have b2 : (q.p == p) = true := beq_iff_eq.2 c2
            rw [if_pos ⟨c1, c2⟩] at HTK
            clear c1 c2
            go_wp2_with fail
            go_quiet (fail)
            all_goals
              have HOd := Lib.hid (HOa.out.fr ((Fr.refl (fun _ => False) _).drewN nq) (fun _ _ => id))
              have HBd := Lib.hid (Fr.below HBa.out ((Fr.refl (fun _ => False) _).drewN nq) (fun _ _ => id))
              have HXd := Lib.hid (HXB.out.drewN nq)
              generalize (wr.alloc (.cells #[.int .u64 s, .int .u64 e, .int .i64 p] 36)).drewN nq = wd at HOd HBd HXd ⊢
              have k0 := HXd.out.cell 0
              have k1 := HXd.out.cell 1
              have k2 := HXd.out.cell 2
              simp at k0 k1 k2
              have t4 := HOd.out.at_ m (by rw [HN6.out]; omega)
              rw [rgAt_last L q m HM.out] at t4
              obtain ⟨_, t5, _⟩ := t4
              have f5 := HOd.out.fz HN6.out.symm (m * 3 + 1)
              have HOs := Lib.hid (HOd.out.setE HN6.out.symm m HM.out e)
              have HBs := Lib.hid (Fr.below HBd.out ((Fr.refl (fun k => k = gO) wd).setCell (p := ⟨gO, m * 3 + 1, none⟩) (.inl rfl) (.int .u64 e)) (fun k hk e => by have e1 := own_ge HOd.out gO rfl; omega))
              go_wp2_with fail
              go_roundg (n - (k + 1))
              case measure => omega
              case rel => exact Lib.hid ⟨k + 1, by go_num, by omega, by omega, by rw [HTK.out]; exact HOs.out, HBs.out⟩
          · have b1 : (q.e == s) = true := beq_iff_eq.2 c1
            have b2 : (q.p == p) = false := beq_eq_false_iff_ne.2 c2
            rw [if_neg (fun h => c2 h.2)] at HTK
            clear c1 c2
            go_wp2_with fail
            go_quiet (fail)
            all_goals
              have HOd := Lib.hid (HOa.out.fr ((Fr.refl (fun _ => False) _).drewN nq) (fun _ _ => id))
              have HBd := Lib.hid (Fr.below HBa.out ((Fr.refl (fun _ => False) _).drewN nq) (fun _ _ => id))
              have HXd := Lib.hid (HXB.out.drewN nq)
              generalize (wr.alloc (.cells #[.int .u64 s, .int .u64 e, .int .i64 p] 36)).drewN nq = wd at HOd HBd HXd ⊢
              have k0 := HXd.out.cell 0
              have k1 := HXd.out.cell 1
              have k2 := HXd.out.cell 2
              simp at k0 k1 k2
              go_wp2_with ((with_reducible refine gate_builtin (b := .append) (xs := #[.tmp 46, .tmp 48]) rfl ?_); refine Classical.byContradiction fun hgoal => ?_)
              apply hgoal
              clear hgoal
              (try (refine gate_guard (by rfl) ?_; dsimp only))
              refine rowR_app (w0 := w) (wr := wd) w.heap.size rfl (.tmp 46) (.tmp 48) rfl _ (L ++ [q]) ⟨s, e, p⟩ rfl rfl HOd.out HBd.out rfl (by rw [HN6.out]; omega) ?_
              intro v1 w1 ho1 hb1 _
              have HO1 := Lib.hid ho1
              have HB1 := Lib.hid hb1
              clear ho1 hb1
              go_wp2_with fail
              go_roundg (n - (k + 1))
              case measure => omega
              case rel => exact Lib.hid ⟨k + 1, by go_num, by omega, by omega, by rw [HTK.out]; exact HO1.out, HB1.out⟩
        · have b1 : (q.e == s) = false := beq_eq_false_iff_ne.2 c1
          rw [if_neg (fun h => c1 h.1)] at HTK
          clear c1
          go_wp2_with fail
          go_quiet (fail)
          all_goals
            have HOd := Lib.hid (HOa.out.fr ((Fr.refl (fun _ => False) _).drewN nq) (fun _ _ => id))
            have HBd := Lib.hid (Fr.below HBa.out ((Fr.refl (fun _ => False) _).drewN nq) (fun _ _ => id))
            have HXd := Lib.hid (HXB.out.drewN nq)
            generalize (wr.alloc (.cells #[.int .u64 s, .int .u64 e, .int .i64 p] 36)).drewN nq = wd at HOd HBd HXd ⊢
            have k0 := HXd.out.cell 0
            have k1 := HXd.out.cell 1
            have k2 := HXd.out.cell 2
            simp at k0 k1 k2
            go_wp2_with ((with_reducible refine gate_builtin (b := .append) (xs := #[.tmp 46, .tmp 48]) rfl ?_); refine Classical.byContradiction fun hgoal => ?_)
            apply hgoal
            clear hgoal
            (try (refine gate_guard (by rfl) ?_; dsimp only))
            refine rowR_app (w0 := w) (wr := wd) w.heap.size rfl (.tmp 46) (.tmp 48) rfl _ (L ++ [q]) ⟨s, e, p⟩ rfl rfl HOd.out HBd.out rfl (by rw [HN6.out]; omega) ?_
            intro v1 w1 ho1 hb1 _
            have HO1 := Lib.hid ho1
            have HB1 := Lib.hid hb1
            clear ho1 hb1
            go_wp2_with fail
            go_roundg (n - (k + 1))
            case measure => omega
            case rel => exact Lib.hid ⟨k + 1, by go_num, by omega, by omega, by rw [HTK.out]; exact HO1.out, HB1.out⟩
    · obtain rfl : k = n := by omega
      have u1 : decide ((k : Int) < (k : Int)) = false := decide_eq_false (by omega)
      rw [show l.take k = l from List.take_of_length_le (by rw [HN.out]; exact Nat.le_refl _)] at HO
      go_wp2_with fail
      go_ret
      exact ⟨_, rfl, HO.out, HB.out⟩
end Go.Proofs.Ytnaiccgbjcppaaa.Rg
