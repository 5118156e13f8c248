/- The document's Regions, Span, Up, SameRegions: walked. -/
import Derived.Test.YtnaiccgbjcppaaaRgM
namespace Go.Proofs.Ytnaiccgbjcppaaa.Rg
open Go Go.RowKit Go.Proofs.YtnaiccgbjcppaaaW.PrintWords Go.Proofs.YtnaiccgbjcppaaaW.PrintLast Go.Proofs.YtnaiccgbjcppaaaW.PrintMore
open Go.Proofs.Ytnaiccgbjcppaaa.Hp
attribute [local go_sem] max2_int min2_int max_two min_two max_three min_three max_four min_four
set_option linter.unusedVariables false
set_option linter.unusedSimpArgs false
def pgR (x : Pg) : Rg := ⟨x.n * 4096, x.n * 4096 + 4096, x.p⟩
def regsL (l : List Pg) : List Rg := joinedL (l.map pgR)
theorem regsL_len (l : List Pg) : (regsL l).length ≤ l.length := by
  have := joinedL_len (l.map pgR)
  rw [List.length_map] at this
  exact this
theorem regsL_take (l : List Pg) (k : Nat) (h : k < l.length) : regsL (l.take (k + 1)) = joinStep (regsL (l.take k)) (pgR (pgAt l k)) := by
  unfold regsL
  rw [take_pg l k h, List.map_append]
  exact joinedL_snoc _ _
def AtRe (w : World) (l : List Pg) (n : Nat) (v3 v4 : Value) (kq : Nat) (wr : World) : Prop := ∃ k : Nat, v4 = .int .i64 k ∧ k ≤ n ∧ n - k ≤ kq ∧ OwnR wr w.heap.size v3 (regsL (l.take k)) ∧ Below w.heap.size w wr
set_option maxHeartbeats 4000000 in
theorem regions_any (v : Value) (l : List Pg) (B : Nat) (w : World) (h : OwnP w B v l) (hn : l.length ≤ 5000) (hv : Small l) : Calls Try.prog 17 #[v] w fun e w' => ∃ v', e = .returned v' ∧ OwnR w' w.heap.size v' (regsL l) ∧ Below w.heap.size w w' := by
  obtain ⟨A, c, rfl, hc, hA⟩ := h.form
  have H := Lib.hid h
  have HA := Lib.hid hA
  have HV := Lib.hid hv
  obtain ⟨n, hnn⟩ : ∃ n, l.length = n := ⟨_, rfl⟩
  have HN := Lib.hid hnn
  rw [hnn] at H HA hc hn ⊢
  clear h hA hnn hv
  go_enter Try.func17, Try.ntmps17
  go_wp2_with fail
  go_loopg [3, 4] n (fun kq v3 v4 wr => Hid (AtRe w l n v3 v4 kq wr))
  case atStart => exact Lib.hid ⟨0, rfl, by omega, by omega, OwnR.nil _ _, Below.refl _ _⟩
  case round =>
    obtain ⟨k, rfl, hk1, hk2, ho, hb⟩ := hrel.out
    have HO := Lib.hid ho
    have HB := Lib.hid hb
    clear hrel ho hb
    by_cases hk : k < n
    · have u1 : decide ((k : Int) < (n : Int)) = true := decide_eq_true (by omega)
      have u1' : decide (k < n) = true := decide_eq_true hk
      have j0 : (0 : Int) ≤ (k : Int) := by omega
      have j1 : (k : Int) < (n : Int) := by omega
      obtain ⟨g, rfl⟩ := HA.out (by omega)
      have HP := Lib.hid (H.out.fr (Fr.of_below (S := fun _ => False) HB.out |>.mono (fun _ _ h => h)) (fun _ _ => id))
      have HKN := Lib.hid (show k < l.length from by rw [HN.out]; exact hk)
      obtain ⟨y0, y1, y2⟩ := HP.out.at_ k HKN.out
      have HTK := Lib.hid (regsL_take l k HKN.out)
      have hvx := HV.out _ (pgAt_mem l k HKN.out)
      have hwl := regsL_len (l.take k)
      rw [List.length_take] at hwl
      obtain ⟨r, hr⟩ : ∃ r, pgAt l k = r := ⟨_, rfl⟩
      have HPR := Lib.hid hr
      rw [hr] at y0 y1 y2 HTK hvx
      obtain ⟨x, p, kb⟩ := r
      obtain ⟨O, hO⟩ : ∃ x, regsL (l.take k) = x := ⟨_, rfl⟩
      rw [hO] at HO HTK hwl
      obtain ⟨h0, h1⟩ := hvx
      simp only at h0 h1
      obtain ⟨S, hS⟩ : ∃ S, x * 4096 = S := ⟨_, rfl⟩
      obtain ⟨E, hE⟩ : ∃ E, S + 4096 = E := ⟨_, rfl⟩
      have hw1 : IntKind.u64.wrap S = S := IntWalk.u64_in _ (by omega)
      have hw2 : IntKind.u64.wrap E = E := IntWalk.u64_in _ (by omega)
      have hpg : pgR ⟨x, p, kb⟩ = ⟨S, E, p⟩ := by unfold pgR; simp only [hS, hE]
      rw [hpg] at HTK
      clear hr hO hpg
      obtain ⟨A3, c3, rfl, hc3, hA3⟩ := HO.out.form
      rcases List.eq_nil_or_concat O with rfl | ⟨L, q, rfl⟩
      · rw [joinStep_nil] at HTK
        go_wp2_with fail
        go_quiet (fail)
        all_goals
          have HOd := Lib.hid (HO.out.fr ((Fr.refl (fun _ => False) _).drewN nq) (fun _ _ => id))
          have HBd := Lib.hid (Fr.below HB.out ((Fr.refl (fun _ => False) _).drewN nq) (fun _ _ => id))
          have HPd := Lib.hid (HP.out.fr ((Fr.refl (fun _ => False) _).drewN nq) (fun _ _ => id))
          generalize wr.drewN nq = wd at HOd HBd HPd ⊢
          obtain ⟨yd0, yd1, yd2⟩ := HPd.out.at_ k HKN.out
          rw [HPR.out] at yd0 yd1 yd2
          go_wp2_with ((with_reducible refine gate_builtin (b := .append) (xs := #[.tmp 54, .tmp 64]) rfl ?_); refine Classical.byContradiction fun hgoal => ?_)
          apply hgoal
          clear hgoal
          (try (refine gate_guard (by rfl) ?_; dsimp only))
          refine rowR_app (w0 := w) (wr := wd) w.heap.size rfl (.tmp 54) (.tmp 64) rfl _ [] ⟨S, E, p⟩ rfl rfl HOd.out HBd.out rfl (by decide) ?_
          intro v1 w1 ho1 hb1 _
          have HO1 := Lib.hid ho1
          have HB1 := Lib.hid hb1
          clear ho1 hb1
          go_wp2_with fail
          go_roundg (n - (k + 1))
          case measure => omega
          case rel => exact Lib.hid ⟨k + 1, by go_num, by omega, by omega, by rw [HTK.out]; exact HO1.out, HB1.out⟩
      · rw [List.concat_eq_append] at HO HTK hwl
        rw [joinStep_snoc] at HTK
        obtain ⟨gO, rfl⟩ := hA3 (by simp)
        rw [List.concat_eq_append] at hc3 ⊢
        obtain ⟨m, hm⟩ : ∃ m, L.length = m := ⟨_, rfl⟩
        have HM := Lib.hid hm
        obtain ⟨n6, hn6⟩ : ∃ z, (L ++ [q]).length = z := ⟨_, rfl⟩
        have hn7 : n6 = m + 1 := by rw [← hn6, ← hm]; simp
        have HN6 := Lib.hid hn6
        rw [hn6] at HO hc3 hwl ⊢
        clear hA3
        obtain ⟨t0, t1, t2⟩ := HO.out.at_ m (by rw [HN6.out]; omega)
        rw [rgAt_last L q m HM.out] at t0 t1 t2
        have f1 : IntKind.i64.wrap ((n6 : Int) - 1) = (m : Int) := by rw [show (n6 : Int) - 1 = (m : Int) by omega]; exact IntWalk.i64_in _ (by omega)
        have v1 : decide ((0 : Int) < (n6 : Int)) = true := decide_eq_true (by omega)
        have v1' : decide (0 < n6) = true := decide_eq_true (by omega)
        have i0 : (0 : Int) ≤ (m : Int) := by omega
        have i1 : (m : Int) < (n6 : Int) := by omega
        clear hm hn6 hn7
        by_cases c1 : q.e = S
        · by_cases c2 : q.p = p
          · have b1 : (q.e == S) = true := beq_iff_eq.2 c1
            have b2 : (q.p == p) = true := beq_iff_eq.2 c2
            rw [if_pos ⟨c1, c2⟩] at HTK
            clear c1 c2
            go_wp2_with fail
            go_quiet (fail)
            all_goals
              have HOd := Lib.hid (HO.out.fr ((Fr.refl (fun _ => False) _).drewN nq) (fun _ _ => id))
              have HBd := Lib.hid (Fr.below HB.out ((Fr.refl (fun _ => False) _).drewN nq) (fun _ _ => id))
              have HPd := Lib.hid (HP.out.fr ((Fr.refl (fun _ => False) _).drewN nq) (fun _ _ => id))
              generalize wr.drewN nq = wd at HOd HBd HPd ⊢
              obtain ⟨yd0, yd1, yd2⟩ := HPd.out.at_ k HKN.out
              rw [HPR.out] at yd0 yd1 yd2
              have t4 := HOd.out.at_ m (by rw [HN6.out]; omega)
              rw [rgAt_last L q m HM.out] at t4
              obtain ⟨_, t5, _⟩ := t4
              have f5 := HOd.out.fz HN6.out.symm (m * 3 + 1)
              have HOs := Lib.hid (HOd.out.setE HN6.out.symm m HM.out E)
              have HBs := Lib.hid (Fr.below HBd.out ((Fr.refl (fun k => k = gO) wd).setCell (p := ⟨gO, m * 3 + 1, none⟩) (.inl rfl) (.int .u64 E)) (fun k hk e => by have e1 := own_ge HOd.out gO rfl; omega))
              go_wp2_with fail
              go_roundg (n - (k + 1))
              case measure => omega
              case rel => exact Lib.hid ⟨k + 1, by go_num, by omega, by omega, by rw [HTK.out]; exact HOs.out, HBs.out⟩
          · have b1 : (q.e == S) = true := beq_iff_eq.2 c1
            have b2 : (q.p == p) = false := beq_eq_false_iff_ne.2 c2
            rw [if_neg (fun h => c2 h.2)] at HTK
            clear c1 c2
            go_wp2_with fail
            go_quiet (fail)
            all_goals
              have HOd := Lib.hid (HO.out.fr ((Fr.refl (fun _ => False) _).drewN nq) (fun _ _ => id))
              have HBd := Lib.hid (Fr.below HB.out ((Fr.refl (fun _ => False) _).drewN nq) (fun _ _ => id))
              have HPd := Lib.hid (HP.out.fr ((Fr.refl (fun _ => False) _).drewN nq) (fun _ _ => id))
              generalize wr.drewN nq = wd at HOd HBd HPd ⊢
              obtain ⟨yd0, yd1, yd2⟩ := HPd.out.at_ k HKN.out
              rw [HPR.out] at yd0 yd1 yd2
              go_wp2_with ((with_reducible refine gate_builtin (b := .append) (xs := #[.tmp 54, .tmp 64]) rfl ?_); refine Classical.byContradiction fun hgoal => ?_)
              apply hgoal
              clear hgoal
              (try (refine gate_guard (by rfl) ?_; dsimp only))
              refine rowR_app (w0 := w) (wr := wd) w.heap.size rfl (.tmp 54) (.tmp 64) rfl _ (L ++ [q]) ⟨S, E, p⟩ rfl rfl HOd.out HBd.out rfl (by rw [HN6.out]; omega) ?_
              intro v1 w1 ho1 hb1 _
              have HO1 := Lib.hid ho1
              have HB1 := Lib.hid hb1
              clear ho1 hb1
              go_wp2_with fail
              go_roundg (n - (k + 1))
              case measure => omega
              case rel => exact Lib.hid ⟨k + 1, by go_num, by omega, by omega, by rw [HTK.out]; exact HO1.out, HB1.out⟩
        · have b1 : (q.e == S) = false := beq_eq_false_iff_ne.2 c1
          rw [if_neg (fun h => c1 h.1)] at HTK
          clear c1
          go_wp2_with fail
          go_quiet (fail)
          all_goals
            have HOd := Lib.hid (HO.out.fr ((Fr.refl (fun _ => False) _).drewN nq) (fun _ _ => id))
            have HBd := Lib.hid (Fr.below HB.out ((Fr.refl (fun _ => False) _).drewN nq) (fun _ _ => id))
            have HPd := Lib.hid (HP.out.fr ((Fr.refl (fun _ => False) _).drewN nq) (fun _ _ => id))
            generalize wr.drewN nq = wd at HOd HBd HPd ⊢
            obtain ⟨yd0, yd1, yd2⟩ := HPd.out.at_ k HKN.out
            rw [HPR.out] at yd0 yd1 yd2
            go_wp2_with ((with_reducible refine gate_builtin (b := .append) (xs := #[.tmp 54, .tmp 64]) rfl ?_); refine Classical.byContradiction fun hgoal => ?_)
            apply hgoal
            clear hgoal
            (try (refine gate_guard (by rfl) ?_; dsimp only))
            refine rowR_app (w0 := w) (wr := wd) w.heap.size rfl (.tmp 54) (.tmp 64) rfl _ (L ++ [q]) ⟨S, E, p⟩ rfl rfl HOd.out HBd.out rfl (by rw [HN6.out]; omega) ?_
            intro v1 w1 ho1 hb1 _
            have HO1 := Lib.hid ho1
            have HB1 := Lib.hid hb1
            clear ho1 hb1
            go_wp2_with fail
            go_roundg (n - (k + 1))
            case measure => omega
            case rel => exact Lib.hid ⟨k + 1, by go_num, by omega, by omega, by rw [HTK.out]; exact HO1.out, HB1.out⟩
    · obtain rfl : k = n := by omega
      have u1 : decide ((k : Int) < (k : Int)) = false := decide_eq_false (by omega)
      rw [show l.take k = l from List.take_of_length_le (by rw [HN.out]; exact Nat.le_refl _)] at HO
      go_wp2_with fail
      go_ret
      exact ⟨_, rfl, HO.out, HB.out⟩
theorem spanS_any (a b : Int) (ha : 0 ≤ a ∧ a < 18446744073709551616) (hb : 0 ≤ b ∧ b < 18446744073709551616) (w : World) : Calls Try.prog 27 #[.int .u64 a, .int .u64 b] w fun e w' => e = .returned (.bool (spanB a b)) ∧ Fr (fun _ => False) w w' := by
  have e1 : a.tmod 4096 = a % 4096 := Int.tmod_eq_emod_of_nonneg ha.1
  have e2 : b.tmod 4096 = b % 4096 := Int.tmod_eq_emod_of_nonneg hb.1
  unfold spanB
  obtain ⟨x, hx⟩ : ∃ x, a % 4096 = x := ⟨_, rfl⟩
  obtain ⟨y, hy⟩ : ∃ y, b % 4096 = y := ⟨_, rfl⟩
  have e3 : IntKind.u64.wrap x = x := IntWalk.u64_in _ (by omega)
  have e4 : IntKind.u64.wrap y = y := IntWalk.u64_in _ (by omega)
  rw [hx] at e1 ⊢
  rw [hy] at e2 ⊢
  clear hx hy
  by_cases c1 : x = 0
  · have b1 : (x == 0) = true := beq_iff_eq.2 c1
    rw [decide_eq_true c1]
    by_cases c2 : y = 0
    · have b2 : (y == 0) = true := beq_iff_eq.2 c2
      rw [decide_eq_true c2]
      by_cases c3 : a < b
      · have b3 : decide (a < b) = true := decide_eq_true c3
        rw [b3]
        by_cases c4 : b ≤ 274877906944
        · have b4 : decide (b ≤ 274877906944) = true := decide_eq_true c4
          rw [b4]
          clear c1 c2 c3 c4
          go_enter Try.func27, Try.ntmps27
          go_wp2_with fail
          go_ret
          exact ⟨rfl, Fr.refl _ _⟩
        · have b4 : decide (b ≤ 274877906944) = false := decide_eq_false c4
          rw [b4]
          clear c1 c2 c3 c4
          go_enter Try.func27, Try.ntmps27
          go_wp2_with fail
          go_ret
          exact ⟨rfl, Fr.refl _ _⟩
      · have b3 : decide (a < b) = false := decide_eq_false c3
        rw [b3]
        clear c1 c2 c3
        go_enter Try.func27, Try.ntmps27
        go_wp2_with fail
        go_ret
        exact ⟨rfl, Fr.refl _ _⟩
    · have b2 : (y == 0) = false := beq_eq_false_iff_ne.2 c2
      rw [decide_eq_false c2]
      clear c1 c2
      go_enter Try.func27, Try.ntmps27
      go_wp2_with fail
      go_ret
      exact ⟨rfl, Fr.refl _ _⟩
  · have b1 : (x == 0) = false := beq_eq_false_iff_ne.2 c1
    rw [decide_eq_false c1]
    clear c1
    go_enter Try.func27, Try.ntmps27
    go_wp2_with fail
    go_ret
    exact ⟨rfl, Fr.refl _ _⟩
theorem up_any (a : Int) (h0 : 0 ≤ a) (h1 : a ≤ 274877906944) (w : World) : Calls Try.prog 14 #[.int .u64 a] w fun e w' => e = .returned (.int .u64 ((a + 4095) / 4096 * 4096)) ∧ Fr (fun _ => False) w w' := by
  have t1 : (a + 4095).tdiv 4096 = (a + 4095) / 4096 := Int.tdiv_eq_ediv_of_nonneg (by omega)
  have hw1 : IntKind.u64.wrap (a + 4095) = a + 4095 := IntWalk.u64_in _ (by omega)
  have hw2 : IntKind.u64.wrap ((a + 4095) / 4096 * 4096) = (a + 4095) / 4096 * 4096 := IntWalk.u64_in _ (by omega)
  go_enter Try.func14, Try.ntmps14
  go_wp2_with fail
  go_ret
  first | exact ⟨rfl, Fr.refl _ _⟩ | exact ⟨congrArg (fun x => Ending.returned (Value.int .u64 x)) hw2, Fr.refl _ _⟩
theorem neq_rg (x1 x2 x3 y1 y2 y3 : Int) (w : World) : (binOp .neq 36 (.agg #[.int .u64 x1, .int .u64 x2, .int .i64 x3]) (.agg #[.int .u64 y1, .int .u64 y2, .int .i64 y3])).run Try.prog w = .ok (.bool (!eqR x1 x2 x3 y1 y2 y3)) w := by
  have h := eqin_rg x1 x2 x3 y1 y2 y3 w
  simp only [binOp, Op.equal, Op.maxDepth, Sem.run_bind, h, Result.andThen_ok]
  rfl
def AtSr (w : World) (n : Nat) (v5 : Value) (kq : Nat) (wr : World) : Prop := ∃ k : Nat, v5 = .int .i64 k ∧ k ≤ n ∧ n - k ≤ kq ∧ Fr (fun _ => False) w wr
set_option maxHeartbeats 4000000 in
theorem same_any (v1 v2 : Value) (l : List Rg) (B1 B2 : Nat) (w : World) (h1 : OwnR w B1 v1 l) (h2 : OwnR w B2 v2 l) (hn : l.length ≤ 5000) : Calls Try.prog 32 #[v1, v2] w fun e w' => e = .returned (.bool true) ∧ Fr (fun _ => False) w w' := by
  obtain ⟨A1, c1, rfl, hc1, hA1⟩ := h1.form
  obtain ⟨A2, c2, rfl, hc2, hA2⟩ := h2.form
  have H1 := Lib.hid h1
  have H2 := Lib.hid h2
  have HA1 := Lib.hid hA1
  have HA2 := Lib.hid hA2
  obtain ⟨n, hnn⟩ : ∃ n, l.length = n := ⟨_, rfl⟩
  have HN := Lib.hid hnn
  rw [hnn] at H1 H2 HA1 HA2 hc1 hc2 hn ⊢
  clear h1 h2 hA1 hA2 hnn
  have u0 : ((n : Int) != (n : Int)) = false := by simp
  go_enter Try.func32, Try.ntmps32
  go_wp2_with fail
  go_loopg [5] n (fun kq v5 wr => Hid (AtSr w n v5 kq wr))
  case atStart => exact Lib.hid ⟨0, rfl, by omega, by omega, Fr.refl _ _⟩
  case round =>
    obtain ⟨k, rfl, hk1, hk2, hf⟩ := hrel.out
    have HF := Lib.hid hf
    clear hrel hf
    by_cases hk : k < n
    · have u1 : decide ((k : Int) < (n : Int)) = true := decide_eq_true (by omega)
      have u1' : decide (k < n) = true := decide_eq_true hk
      have j0 : (0 : Int) ≤ (k : Int) := by omega
      have j1 : (k : Int) < (n : Int) := by omega
      obtain ⟨g1, rfl⟩ := HA1.out (by omega)
      obtain ⟨g2, rfl⟩ := HA2.out (by omega)
      obtain ⟨y0, y1, y2⟩ := (H1.out.fr HF.out (fun _ _ => id)).at_ k (by rw [HN.out]; exact hk)
      obtain ⟨z0, z1, z2⟩ := (H2.out.fr HF.out (fun _ _ => id)).at_ k (by rw [HN.out]; exact hk)
      obtain ⟨r, hr⟩ : ∃ r, rgAt l k = r := ⟨_, rfl⟩
      rw [hr] at y0 y1 y2 z0 z1 z2
      obtain ⟨s, e, p⟩ := r
      have hne := fun w => neq_rg s e p s e p w
      rw [eqR_self] at hne
      clear hr
      go_wp2_with fail
      go_quiet (fail)
      all_goals
        go_wp2_with fail
        go_roundg (n - (k + 1))
        case measure => omega
        case rel => exact Lib.hid ⟨k + 1, by go_num, by omega, by omega, HF.out.drewN _⟩
    · obtain rfl : k = n := by omega
      have u1 : decide ((k : Int) < (k : Int)) = false := decide_eq_false (by omega)
      go_wp2_with fail
      go_ret
      exact ⟨rfl, HF.out⟩
end Go.Proofs.Ytnaiccgbjcppaaa.Rg
