/- The document's at, prot, First; the law's first: walked. -/
import Derived.Test.YtnaiccgbjcppaaaRgU
namespace Go.Proofs.Ytnaiccgbjcppaaa.Rg
open Go Go.RowKit Go.Proofs.YtnaiccgbjcppaaaW.PrintWords Go.Proofs.YtnaiccgbjcppaaaW.PrintLast Go.Proofs.YtnaiccgbjcppaaaW.PrintMore
open Go.Proofs.Ytnaiccgbjcppaaa.Hp
attribute [local go_sem] max2_int min2_int max_two min_two max_three min_three max_four min_four
set_option linter.unusedVariables false
set_option linter.unusedSimpArgs false
theorem pm_srt {P : List Pg} (h : Okl (pm P)) : ∀ i j, i < j → j < P.length → (pgAt P i).n < (pgAt P j).n := by
  intro i j hij hj
  have h1 := h.srt
  rw [List.pairwise_map] at h1
  have h2 := List.pairwise_iff_getElem.1 h1 i j (by omega) hj hij
  rw [pgAt_eq P i (by omega), pgAt_eq P j hj]
  unfold pgR at h2
  simp only at h2
  omega
def AtAt (P : List Pg) (no : Int) (w : World) (n : Nat) (v6 v7 : Value) (kq : Nat) (wr : World) : Prop := ∃ lo hi : Nat, v6 = .int .i64 lo ∧ v7 = .int .i64 hi ∧ lo ≤ hi ∧ hi ≤ n ∧ hi - lo ≤ kq ∧ (∀ j, j < lo → (pgAt P j).n < no) ∧ (∀ j, hi ≤ j → j < n → no ≤ (pgAt P j).n) ∧ Fr (fun _ => False) w wr
set_option maxHeartbeats 4000000 in
set_option maxRecDepth 100000 in
theorem atP_any (B g : Nat) (P : List Pg) (no : Int) (w : World) (h : Spc w B g P) (hok : Okl (pm P)) (hn : P.length ≤ 5000) : Calls Try.prog 52 #[.pointer (some ⟨g, 0, none⟩), .int .u64 no] w fun x w' => ∃ (k : Nat) (f : Bool), x = .returned (.tuple #[.int .i64 (k : Int), .bool f]) ∧ ((f = true ∧ k < P.length ∧ (pgAt P k).n = no) ∨ (f = false ∧ ∀ j, j < P.length → (pgAt P j).n ≠ no)) ∧ Fr (fun _ => False) w w' := by
  have HL := Lib.hid h
  have HSR := Lib.hid (pm_srt hok)
  obtain ⟨n, hnn⟩ : ∃ n, P.length = n := ⟨_, rfl⟩
  have HNN := Lib.hid hnn
  rw [hnn] at hn
  obtain ⟨v0, hb0, hr0⟩ := h.row
  obtain ⟨A, c, rfl, _, hA⟩ := hr0.form
  have HA := Lib.hid hA
  have k0 := hb0.cell 0
  simp at k0
  rw [hnn] at HA k0
  clear hb0 hr0 hA hnn h hok
  go_enter Try.func52, Try.ntmps52
  go_wp2_with fail
  go_loopg [6, 7] n (fun kq v6 v7 wr => Hid (AtAt P no w n v6 v7 kq wr))
  case atStart => exact Lib.hid ⟨0, n, rfl, rfl, by omega, by omega, by omega, fun j hj => absurd hj (by omega), fun j h1 h2 => absurd h1 (by omega), Fr.refl _ _⟩
  case round =>
    obtain ⟨lo, hi, rfl, rfl, h1, h2, hkq, hlow, hhigh, hf⟩ := hrel.out
    have HF := Lib.hid hf
    have HLO := Lib.hid hlow
    have HHI := Lib.hid hhigh
    have HQ := Lib.hid hkq
    clear hrel hf k0 hlow hhigh hkq
    obtain ⟨vq, hbq, hrq⟩ := (HL.out.fr HF.out).row
    obtain ⟨A2, c2, rfl, _, hA2⟩ := hrq.form
    have HA2 := Lib.hid hA2
    have q0 := hbq.cell 0
    simp at q0
    rw [HNN.out] at q0 hrq HA2
    have HRQ := Lib.hid hrq
    clear hbq hrq hA2
    by_cases hlt : lo < hi
    · have u1 : decide ((lo : Int) < (hi : Int)) = true := decide_eq_true (by omega)
      have u1' : decide (lo < hi) = true := decide_eq_true (by omega)
      obtain ⟨m, hm⟩ : ∃ m, (lo + hi) / 2 = m := ⟨_, rfl⟩
      have hm1 : ((lo : Int) + (hi : Int)).tdiv 2 = (m : Int) := by rw [Int.tdiv_eq_ediv_of_nonneg (by omega)]; omega
      have hm2 : ((lo : Int) + (hi : Int)) / 2 = (m : Int) := by omega
      have hw : IntKind.i64.wrap ((lo : Int) + (hi : Int)) = (lo : Int) + (hi : Int) := IntWalk.i64_in _ (by omega)
      have i0 : (0 : Int) ≤ (m : Int) := by omega
      have i1 : (m : Int) < (n : Int) := by omega
      have HM := Lib.hid (show lo ≤ m ∧ m < hi from by omega)
      obtain ⟨g2, rfl⟩ := HA2.out (by omega)
      obtain ⟨y0, y1, y2⟩ := HRQ.out.at_ m (by rw [HNN.out]; omega)
      obtain ⟨x, hx⟩ : ∃ x, (pgAt P m).n = x := ⟨_, rfl⟩
      have HX := Lib.hid hx
      rw [hx] at y0
      clear hx hm y1 y2
      by_cases hxn : x < no
      · have c1 : decide (x < no) = true := decide_eq_true hxn
        have HLO2 := Lib.hid (show ∀ j, j < m + 1 → (pgAt P j).n < no from fun j hj => by
          rcases Nat.lt_succ_iff_lt_or_eq.1 hj with h | h
          · have := HSR.out j m h (by rw [HNN.out]; omega)
            rw [HX.out] at this
            omega
          · rw [h, HX.out]; exact hxn)
        clear hxn
        go_wp2_with fail
        go_roundg (hi - (m + 1))
        case measure => (have := HQ.out; have := HM.out; omega)
        case rel => exact Lib.hid ⟨m + 1, hi, by go_num, rfl, by have := HM.out; omega, h2, by omega, HLO2.out, HHI.out, HF.out⟩
      · have c1 : decide (x < no) = false := decide_eq_false hxn
        have HHI2 := Lib.hid (show ∀ j, m ≤ j → j < n → no ≤ (pgAt P j).n from fun j hj hjn => by
          rcases Nat.lt_or_eq_of_le hj with h | h
          · have := HSR.out m j h (by rw [HNN.out]; omega)
            rw [HX.out] at this
            omega
          · rw [← h, HX.out]; omega)
        clear hxn
        go_wp2_with fail
        go_roundg (m - lo)
        case measure => (have := HQ.out; have := HM.out; omega)
        case rel => exact Lib.hid ⟨lo, m, rfl, rfl, by have := HM.out; omega, by have := HM.out; omega, by omega, HLO.out, HHI2.out, HF.out⟩
    · obtain rfl : lo = hi := by omega
      have u1 : decide ((lo : Int) < (lo : Int)) = false := decide_eq_false (by omega)
      have HFD := Lib.hid (fun nq => HF.out.drewN nq)
      by_cases hln : lo < n
      · have u3 : decide ((lo : Int) < (n : Int)) = true := decide_eq_true (by omega)
        have u3' : decide (lo < n) = true := decide_eq_true (by omega)
        have i0 : (0 : Int) ≤ (lo : Int) := by omega
        have i1 : (lo : Int) < (n : Int) := by omega
        obtain ⟨g2, rfl⟩ := HA2.out (by omega)
        obtain ⟨y0, y1, y2⟩ := HRQ.out.at_ lo (by rw [HNN.out]; omega)
        obtain ⟨x, hx⟩ : ∃ x, (pgAt P lo).n = x := ⟨_, rfl⟩
        have HX := Lib.hid hx
        rw [hx] at y0
        clear hx y1 y2
        by_cases hxn : x = no
        · have c1 : (x == no) = true := beq_iff_eq.2 hxn
          have HRES := Lib.hid (show lo < P.length ∧ (pgAt P lo).n = no from ⟨by rw [HNN.out]; exact hln, by rw [HX.out]; exact hxn⟩)
          clear hxn
          go_wp2_with fail
          go_quiet (fail)
          all_goals
            go_wp2_with fail
            go_ret2
            exact ⟨lo, _, rfl, .inl ⟨rfl, HRES.out⟩, HFD.out _⟩
        · have c1 : (x == no) = false := beq_eq_false_iff_ne.2 hxn
          have HRES := Lib.hid (show ∀ j, j < P.length → (pgAt P j).n ≠ no from fun j hj => by
            rw [HNN.out] at hj
            rcases Nat.lt_or_ge j lo with h | h
            · have := HLO.out j h
              omega
            · rcases Nat.lt_or_eq_of_le h with h | h
              · have h1 := HHI.out lo (Nat.le_refl _) hln
                have h2 := HSR.out lo j h (by rw [HNN.out]; exact hj)
                omega
              · rw [← h, HX.out]; exact hxn)
          clear hxn
          go_wp2_with fail
          go_quiet (fail)
          all_goals
            go_wp2_with fail
            go_ret2
            exact ⟨lo, _, rfl, .inr ⟨rfl, HRES.out⟩, HFD.out _⟩
      · have u3 : decide ((lo : Int) < (n : Int)) = false := decide_eq_false (by omega)
        have u3' : decide (lo < n) = false := decide_eq_false (by omega)
        have HRES := Lib.hid (show ∀ j, j < P.length → (pgAt P j).n ≠ no from fun j hj => by
          rw [HNN.out] at hj
          have := HLO.out j (by omega)
          omega)
        go_wp2_with fail
        go_quiet (fail)
        all_goals
          go_wp2_with fail
          go_ret2
          exact ⟨lo, _, rfl, .inr ⟨rfl, HRES.out⟩, HFD.out _⟩
/-- What prot answers. -/
def plk (P : List Pg) (a : Int) : Int := (lk (pm P) a).getD (-1)
theorem lk_page {P : List Pg} (hok : Okl (pm P)) (k : Nat) (hk : k < P.length) (a : Int) (ha : (pgAt P k).n = a / 4096) : lk (pm P) a = some (pgAt P k).p := by
  refine lk_mem hok (r := pgR (pgAt P k)) (List.mem_map.2 ⟨_, pgAt_mem P k hk, rfl⟩) ?_
  unfold inR pgR
  simp only
  omega
theorem lk_nopage {P : List Pg} (a : Int) (h : ∀ j, j < P.length → (pgAt P j).n ≠ a / 4096) : lk (pm P) a = none := lk_none _ _ fun r hr hin => by
  obtain ⟨x, hx, rfl⟩ := List.mem_map.1 hr
  obtain ⟨i, hi, e⟩ := List.mem_iff_getElem.1 hx
  have h1 := h i hi
  rw [pgAt_eq P i hi, e] at h1
  unfold inR pgR at hin
  simp only at hin
  omega
theorem protP_any (B g : Nat) (P : List Pg) (a : Int) (ha : 0 ≤ a ∧ a < 18446744073709551616) (w : World) (h : Spc w B g P) (hok : Okl (pm P)) (hn : P.length ≤ 5000) : Calls Try.prog 48 #[.pointer (some ⟨g, 0, none⟩), .int .u64 a] w fun x w' => x = .returned (.int .i64 (plk P a)) ∧ Fr (fun _ => False) w w' := by
  have HL := Lib.hid h
  have HOK := Lib.hid hok
  have HN := Lib.hid hn
  obtain ⟨no, hno⟩ : ∃ no, a / 4096 = no := ⟨_, rfl⟩
  have t1 : a.tdiv 4096 = no := by rw [Int.tdiv_eq_ediv_of_nonneg (by omega)]; exact hno
  have HNO := Lib.hid hno
  clear h hok hn
  go_enter Try.func48, Try.ntmps48
  go_wp2_with fail
  refine (atP_any B g P no _ HL.out HOK.out HN.out).mono ?_
  rintro x w1 ⟨k, f, rfl, hres, hf1⟩
  have HF1 := Lib.hid hf1
  rcases hres with ⟨rfl, hk, hkn⟩ | ⟨rfl, hno2⟩
  · have HE := Lib.hid (show plk P a = (pgAt P k).p from by unfold plk; rw [lk_page HOK.out k hk a (by rw [hkn, HNO.out])]; rfl)
    obtain ⟨vq, hbq, hrq⟩ := (HL.out.fr hf1).row
    obtain ⟨A2, c2, rfl, _, hA2⟩ := hrq.form
    obtain ⟨g2, rfl⟩ := hA2 (by omega)
    have q0 := hbq.cell 0
    simp at q0
    obtain ⟨y0, y1, y2⟩ := hrq.at_ k hk
    have i0 : (0 : Int) ≤ (k : Int) := by omega
    have i1 : (k : Int) < (P.length : Int) := by omega
    obtain ⟨p, hp⟩ : ∃ p, (pgAt P k).p = p := ⟨_, rfl⟩
    rw [hp] at y1 HE
    clear hf1 hkn hbq hrq hA2 y0 y2 hp hno
    go_wp2_with fail
    go_ret
    rw [HE.out]
    exact ⟨rfl, HF1.out⟩
  · have HE := Lib.hid (show plk P a = -1 from by unfold plk; rw [lk_nopage a (by rw [HNO.out]; exact hno2)]; rfl)
    clear hf1 hno2 hno
    go_wp2_with fail
    go_ret
    rw [HE.out]
    exact ⟨rfl, HF1.out⟩
def goodB (P : List Pg) (pr a : Int) : Bool := match lk (pm P) a with
  | some p => !(andI p pr != pr)
  | none => false
theorem goodB_iff (P : List Pg) (L : List Rg) (h : ∀ y, lk L y = lk (pm P) y) (pr a : Int) : goodB P pr a = true ↔ good L pr a := by
  unfold goodB good
  rw [h]
  cases lk (pm P) a with
  | none => simp
  | some p => simp
def AtFp (q : Bool) (w : World) (v10 : Value) (kq : Nat) (wr : World) : Prop := ∃ k : Nat, v10 = .int .i64 k ∧ k ≤ 1 ∧ 1 - k ≤ kq ∧ (k = 1 → q = true) ∧ Fr (fun _ => False) w wr
set_option maxHeartbeats 4000000 in
theorem firstP_any (B g : Nat) (P : List Pg) (a pr : Int) (ha : 0 ≤ a ∧ a < 1000000000000) (q : Bool) (hq : goodB P pr a = q) (w : World) (h : Spc w B g P) (hok : Okl (pm P)) (hpr : ∀ y p, lk (pm P) y = some p → 0 ≤ p ∧ p ≤ 7) (hn : P.length ≤ 5000) : Calls Try.prog 40 #[.pointer (some ⟨g, 0, none⟩), .int .u64 a, .int .i64 1, .int .i64 pr] w fun x w' => x = .returned (.tuple #[.int .u64 (bif q then 0 else a), .bool (!q)]) ∧ Fr (fun _ => False) w w' := by
  have HL := Lib.hid h
  have HOK := Lib.hid hok
  have HN := Lib.hid hn
  have HPR := Lib.hid hpr
  have HQ := Lib.hid hq
  have hwa : IntKind.u64.wrap a = a := IntWalk.u64_in _ (by omega)
  clear h hok hn hpr hq
  go_enter Try.func40, Try.ntmps40
  go_wp2_with fail
  go_loopg [10] 1 (fun kq v10 wr => Hid (AtFp q w v10 kq wr))
  case atStart => exact Lib.hid ⟨0, rfl, by omega, by omega, fun h => (by cases h), Fr.refl _ _⟩
  case round =>
    obtain ⟨k, rfl, h1, h2, h3, hf⟩ := hrel.out
    have HF := Lib.hid hf
    have H3 := Lib.hid h3
    clear hrel hf h3
    rcases (show k = 0 ∨ k = 1 from by omega) with rfl | rfl
    · go_wp2_with fail
      refine (protP_any B g P a (by omega) _ (HL.out.fr HF.out) HOK.out HN.out).mono ?_
      rintro x w1 ⟨rfl, hf1⟩
      have HF1 := Lib.hid (HF.out.trans hf1 (fun _ _ => id))
      clear hf1
      cases hl : lk (pm P) a with
      | none =>
        have HE := Lib.hid (show plk P a = -1 ∧ q = false from ⟨by unfold plk; rw [hl]; rfl, by rw [← HQ.out]; unfold goodB; rw [hl]⟩)
        rw [HE.out.1]
        clear hl
        go_wp2_with fail
        go_ret2
        rw [HE.out.2]
        exact ⟨rfl, HF1.out⟩
      | some p =>
        have hp := HPR.out a p hl
        have HE := Lib.hid (show plk P a = p ∧ q = !(andI p pr != pr) from ⟨by unfold plk; rw [hl]; rfl, by rw [← HQ.out]; unfold goodB; rw [hl]⟩)
        rw [HE.out.1]
        have u1 : decide (p < 0) = false := decide_eq_false (by omega)
        clear hl
        cases hb : (bits BinOp.and IntKind.i64 p pr != pr) with
        | true =>
          have HQ2 := Lib.hid (show q = false from by rw [HE.out.2]; unfold andI; rw [hb]; rfl)
          go_wp2_with fail
          go_ret2
          rw [HQ2.out]
          exact ⟨rfl, HF1.out⟩
        | false =>
          have HQ2 := Lib.hid (show q = true from by rw [HE.out.2]; unfold andI; rw [hb]; rfl)
          go_wp2_with fail
          go_roundg 0
          case measure => omega
          case rel => exact Lib.hid ⟨1, rfl, by omega, by omega, fun _ => HQ2.out, HF1.out⟩
    · have HQ2 := Lib.hid (H3.out rfl)
      go_wp2_with fail
      go_ret2
      rw [HQ2.out]
      exact ⟨rfl, HF.out⟩
def AtFl (L : List Rg) (pr s e : Int) (w : World) (v10 : Value) (kq : Nat) (wr : World) : Prop := ∃ v : Int, v10 = .int .u64 v ∧ s ≤ v ∧ v ≤ 1000000 ∧ (1000000 - v).toNat ≤ kq ∧ (v = s ∨ v % 4096 = 0) ∧ (∀ y, s ≤ y → y < v → y < e → good L pr y) ∧ Fr (fun _ => False) w wr
theorem good_page {L : List Rg} {P : List Pg} (h : Pair L P) {pr v y : Int} (hg : good L pr v) (hy : y / 4096 = v / 4096) : good L pr y := by
  obtain ⟨p, hp, h2⟩ := hg
  refine ⟨p, ?_, h2⟩
  rw [h.eq] at hp ⊢
  obtain ⟨r, hr, hin, rfl⟩ := lk_ex _ _ _ hp
  refine lk_mem h.ok hr ?_
  obtain ⟨x, hx, rfl⟩ := List.mem_map.1 hr
  unfold inR pgR at *
  simp only at *
  omega
set_option maxHeartbeats 4000000 in
theorem firstL_any (B g : Nat) (L : List Rg) (P : List Pg) (s e pr : Int) (hs : 0 ≤ s) (he : e ≤ 900000) (hse : s ≤ 900000) (w : World) (h : Spc w B g P) (hp : Pair L P) (hn : P.length ≤ 5000) : Calls Try.prog 19 #[.pointer (some ⟨g, 0, none⟩), .int .u64 s, .int .u64 e, .int .i64 pr] w fun x w' => ∃ (y : Int) (b : Bool), x = .returned (.tuple #[.int .u64 y, .bool b]) ∧ ((b = true → s ≤ y ∧ y < e ∧ ¬ good L pr y ∧ ∀ z, s ≤ z → z < y → good L pr z) ∧ (b = false → y = 0 ∧ ∀ z, s ≤ z → z < e → good L pr z)) ∧ Fr (fun _ => False) w w' := by
  have HL := Lib.hid h
  have HP := Lib.hid hp
  have HN := Lib.hid hn
  have HSE := Lib.hid (And.intro hs (And.intro he hse))
  clear h hp hn
  go_enter Try.func19, Try.ntmps19
  go_wp2_with fail
  go_loopg [10] (1000000 - s).toNat (fun kq v10 wr => Hid (AtFl L pr s e w v10 kq wr))
  case atStart => exact Lib.hid ⟨s, rfl, Int.le_refl _, by omega, Nat.le_refl _, .inl rfl, fun y h1 h2 => by omega, Fr.refl _ _⟩
  case round =>
    obtain ⟨v, rfl, h1, h2, h3, h4, h5, hf⟩ := hrel.out
    have HF := Lib.hid hf
    have H5 := Lib.hid h5
    have H3 := Lib.hid h3
    clear hrel hf h5 h3
    by_cases hve : v < e
    · have u1 : decide (v < e) = true := decide_eq_true hve
      go_wp2_with fail
      have hfp := fun q hq => firstP_any B g P v pr (by omega) q hq wr (HL.out.fr HF.out) HP.out.ok (fun y p hy => HP.out.pr y p (by rw [HP.out.eq]; exact hy)) HN.out
      cases hq : goodB P pr v with
      | true =>
        refine (hfp true hq).mono ?_
        rintro x w1 ⟨rfl, hf1⟩
        have HG := Lib.hid ((goodB_iff P L HP.out.eq pr v).1 hq)
        have HF1 := Lib.hid (HF.out.trans hf1 (fun _ _ => id))
        simp only [cond_true, Bool.not_true]
        obtain ⟨v2, hv2⟩ : ∃ v2, v / 4096 * 4096 + 4096 = v2 := ⟨_, rfl⟩
        have t1 : v.tdiv 4096 = v / 4096 := Int.tdiv_eq_ediv_of_nonneg (by omega)
        have w2 : IntKind.u64.wrap (v / 4096 * 4096) = v / 4096 * 4096 := IntWalk.u64_in _ (by omega)
        have w3 : IntKind.u64.wrap v2 = v2 := IntWalk.u64_in _ (by omega)
        have HV2 := Lib.hid (show v < v2 ∧ v2 ≤ 1000000 ∧ v2 % 4096 = 0 ∧ ∀ y, v ≤ y → y < v2 → y / 4096 = v / 4096 from ⟨by omega, by omega, by omega, fun y _ _ => by omega⟩)
        have hv3 : 0 ≤ v / 4096 ∧ v / 4096 * 4096 ≤ 1000000 := by omega
        clear hfp hq hf1
        go_wp2_with fail
        go_roundg (1000000 - v2).toNat
        case measure => (have := HV2.out.1; have := HV2.out.2.1; have := H3.out; omega)
        case rel =>
          refine Lib.hid ⟨v2, rfl, by have := HV2.out.1; omega, HV2.out.2.1, Nat.le_refl _, .inr HV2.out.2.2.1, fun y hy1 hy2 hy3 => ?_, HF1.out⟩
          rcases Int.lt_or_le y v with h | h
          · exact H5.out y hy1 h hy3
          · exact good_page HP.out HG.out (HV2.out.2.2.2 y h hy2)
      | false =>
        refine (hfp false hq).mono ?_
        rintro x w1 ⟨rfl, hf1⟩
        have HG := Lib.hid (show ¬ good L pr v from fun h => by rw [(goodB_iff P L HP.out.eq pr v).2 h] at hq; cases hq)
        have HF1 := Lib.hid (HF.out.trans hf1 (fun _ _ => id))
        have HRES := Lib.hid (show s ≤ v ∧ v < e ∧ ¬ good L pr v ∧ ∀ z, s ≤ z → z < v → good L pr z from ⟨h1, hve, HG.out, fun z hz1 hz2 => H5.out z hz1 hz2 (by omega)⟩)
        simp only [cond_false, Bool.not_false]
        clear hfp hq hf1
        go_wp2_with fail
        go_ret2
        exact ⟨v, true, rfl, ⟨fun _ => HRES.out, fun h => (by cases h)⟩, HF1.out⟩
    · have u1 : decide (v < e) = false := decide_eq_false hve
      have HRES := Lib.hid (show ∀ z, s ≤ z → z < e → good L pr z from fun z hz1 hz2 => H5.out z hz1 (by omega) hz2)
      go_wp2_with fail
      go_ret2
      exact ⟨0, .inl ⟨rfl, ⟨rfl, HRES.out⟩, HF.out⟩⟩
end Go.Proofs.Ytnaiccgbjcppaaa.Rg
