/- RegionAsks: walked. -/
import Derived.Test.YtnaiccgbjcppaaaRgW
namespace Go.Proofs.Ytnaiccgbjcppaaa.Rg
open Go Go.RowKit Go.Proofs.YtnaiccgbjcppaaaW.PrintWords Go.Proofs.YtnaiccgbjcppaaaW.PrintLast Go.Proofs.YtnaiccgbjcppaaaW.PrintMore
open Go.Proofs.Ytnaiccgbjcppaaa.Hp
attribute [local go_sem] max2_int min2_int max_two min_two max_three min_three max_four min_four
set_option linter.unusedVariables false
set_option linter.unusedSimpArgs false
/-- The first place that has not all permissions, as both say it. -/
def SpecF (L : List Rg) (pr s e y : Int) (b : Bool) : Prop := (b = true → s ≤ y ∧ y < e ∧ ¬ good L pr y ∧ ∀ z, s ≤ z → z < y → good L pr z) ∧ (b = false → y = 0 ∧ ∀ z, s ≤ z → z < e → good L pr z)
theorem SpecF.uniq {L : List Rg} {pr s e y y' : Int} {b b' : Bool} (h : SpecF L pr s e y b) (k : SpecF L pr s e y' b') : y = y' ∧ b = b' := by
  cases b <;> cases b'
  · exact ⟨by rw [(h.2 rfl).1, (k.2 rfl).1], rfl⟩
  · exfalso
    obtain ⟨h1, h2⟩ := h.2 rfl
    obtain ⟨k1, k2, k3, k4⟩ := k.1 rfl
    exact k3 (h2 y' k1 k2)
  · exfalso
    obtain ⟨h1, h2⟩ := k.2 rfl
    obtain ⟨k1, k2, k3, k4⟩ := h.1 rfl
    exact k3 (h2 y k1 k2)
  · obtain ⟨h1, h2, h3, h4⟩ := h.1 rfl
    obtain ⟨k1, k2, k3, k4⟩ := k.1 rfl
    rcases Int.lt_or_le y y' with hh | hh
    · exact absurd (k4 y h1 hh) h3
    · rcases Int.lt_or_le y' y with h5 | h5
      · exact absurd (h4 y' k1 h5) k3
      · exact ⟨by omega, rfl⟩
set_option maxHeartbeats 4000000 in
theorem first_all (B g : Nat) (l : List Rg) (s e pr : Int) (w : World) (h : Lst w B g l) (hl : Okl l) (hn : l.length ≤ 5000) : Calls Try.prog 18 #[.pointer (some ⟨g, 0, none⟩), .int .u64 s, .int .u64 e, .int .i64 pr] w fun y w' => ∃ x b, y = .returned (.tuple #[.int .u64 x, .bool b]) ∧ SpecF l pr s e x b ∧ Fr (fun _ => False) w w' := by
  by_cases hse : s < e
  · refine (first_any B g l s e pr w h hn hse).mono ?_
    rintro y w1 ⟨x, b, rfl, hf, hf1⟩
    exact ⟨x, b, rfl, first_spec hl hf, hf1⟩
  · have b1 : decide (e ≤ s) = true := decide_eq_true (by omega)
    have HS := Lib.hid (show SpecF l pr s e 0 false from ⟨fun h => (by cases h), fun _ => ⟨rfl, fun z _ _ => by omega⟩⟩)
    clear hse h hl hn
    go_enter Try.func18, Try.ntmps18
    go_wp2_with fail
    go_ret2
    first | exact ⟨0, false, rfl, HS.out, Fr.refl _ _⟩ | exact ⟨0, .inl ⟨rfl, HS.out, Fr.refl _ _⟩⟩
theorem in_uniq {L : List Rg} (h : Okl L) {a b : Rg} (ha : a ∈ L) (hb : b ∈ L) {x : Int} (h1 : inR x a) (h2 : inR x b) : a = b := by
  induction L with
  | nil => cases ha
  | cons r t ih =>
    have hlt := h.lt
    rcases List.mem_cons.1 ha with ha1 | ha1
    · rcases List.mem_cons.1 hb with hb1 | hb1
      · rw [ha1, hb1]
      · have := hlt b hb1
        subst ha1
        unfold inR at *
        omega
    · rcases List.mem_cons.1 hb with hb1 | hb1
      · have := hlt a ha1
        subst hb1
        unfold inR at *
        omega
      · exact ih h.tail ha1 hb1
theorem at_is {L : List Rg} (h : Okl L) (x : Int) (k : Nat) (hk : k < L.length) (hin : inR x (rgAt L k)) : atG L x = rgAt L k ∧ atK L x = true := by
  have h1 := lk_mem h (rgAt_mem L k hk) hin
  have h2 : atK L x = true := by
    cases hh : atK L x with
    | true => rfl
    | false => rw [lk_at_none hh] at h1; cases h1
  obtain ⟨i1, i2, i3⟩ := atG_in L x h2
  exact ⟨in_uniq h i1 (rgAt_mem L k hk) (x := x) ⟨i2, i3⟩ hin, h2⟩
theorem at_some {L : List Rg} {x : Int} (h : atK L x = true) : ∃ j, j < L.length ∧ inR x (rgAt L j) := by
  obtain ⟨i1, i2, i3⟩ := atG_in L x h
  obtain ⟨j, hj, e⟩ := List.mem_iff_getElem.1 i1
  refine ⟨j, hj, ?_⟩
  unfold rgAt
  rw [List.getD_eq_getElem?_getD, List.getElem?_eq_getElem hj, Option.getD_some, e]
  exact ⟨i2, i3⟩
def AtAs (L : List Rg) (x : Int) (w0 : World) (n : Nat) (v17 v18 : Value) (kq : Nat) (wr : World) : Prop := ∃ (k : Nat) (f : Bool), v18 = .int .i64 k ∧ v17 = .bool f ∧ k ≤ n ∧ n - k ≤ kq ∧ (f = true ↔ ∃ j, j < k ∧ inR x (rgAt L j)) ∧ Fr (fun _ => False) w0 wr
set_option maxHeartbeats 8000000 in
set_option maxRecDepth 100000 in
theorem asks_any (A : Option Addr) (c : Nat) (l : List Int) (at_ nn pp : Nat) (hpp : pp < 256) (w : World) (hl : l.length ≤ 140737488351232) (hr : ReadsInt w .u8 A l.length l) (hby : ∀ y ∈ l, 0 ≤ y ∧ y ≤ 255) : Calls Try.prog 4 #[.slice A l.length c, .int .u32 (at_ : Int), .int .u32 (nn : Int), .int .u8 (pp : Int)] w fun e w' => e = .returned (.bool true) ∧ Fr (fun _ => False) w w' := by
  have HL := Lib.hid hl
  have HR := Lib.hid hr
  have HB := Lib.hid hby
  obtain ⟨n, hnn⟩ : ∃ n, l.length = n := ⟨_, rfl⟩
  have HNN := Lib.hid hnn
  rw [hnn]
  obtain ⟨x, hx⟩ : ∃ x, at_ % 300000 = x := ⟨_, rfl⟩
  obtain ⟨z, hz⟩ : ∃ z, nn % 30000 = z := ⟨_, rfl⟩
  obtain ⟨p, hp⟩ : ∃ p, pp % 8 = p := ⟨_, rfl⟩
  have hx1 : (at_ : Int).tmod 300000 = (x : Int) := by rw [Int.tmod_eq_emod_of_nonneg (by omega)]; omega
  have hz1 : (nn : Int).tmod 30000 = (z : Int) := by rw [Int.tmod_eq_emod_of_nonneg (by omega)]; omega
  have hp1 : (pp : Int).tmod 8 = (p : Int) := by rw [Int.tmod_eq_emod_of_nonneg (by omega)]; omega
  have hx2 : (at_ : Int) % 300000 = (x : Int) := by omega
  have hz2 : (nn : Int) % 30000 = (z : Int) := by omega
  have hp2 : (pp : Int) % 8 = (p : Int) := by omega
  have hx3 : x < 300000 := by omega
  have hz3 : z < 30000 := by omega
  have hp3 : p < 8 := by omega
  clear hl hr hby hnn hx hz hp
  go_enter Try.func4, Try.ntmps4
  go_wp2_with fail
  have hbu := built_any A c l w HL.out HR.out HB.out
  rw [HNN.out] at hbu
  refine hbu.mono ?_
  rintro xx w1 ⟨g, gm, L, P, rfl, hl1, hs3, hp1', hn1, _, hf1⟩
  have HL1 := Lib.hid hl1
  have HS1 := Lib.hid hs3
  have HP1 := Lib.hid hp1'
  have HF1 := Lib.hid hf1
  have HLL := Lib.hid (show L.length ≤ 1000 from by have := hp1'.len; omega)
  have HPP := Lib.hid (show P.length ≤ 1000 from by omega)
  clear hbu hl1 hs3 hp1' hn1 hf1
  go_wp2_with fail
  refine (answers_any _).mono ?_
  rintro xx w2 ⟨rfl, hf2⟩
  have HL2 := Lib.hid (HL1.out.fr hf2)
  have HS2 := Lib.hid (HS1.out.fr hf2)
  have HF2 := Lib.hid (HF1.out.trans hf2 (fun _ _ => id))
  clear hf2
  go_wp2_with fail
  refine (at_any _ g L (x : Int) _ HL2.out (by have := HLL.out; omega)).mono ?_
  rintro xx w3 ⟨rfl, hf3⟩
  have HL3 := Lib.hid (HL2.out.fr hf3)
  have HS3 := Lib.hid (HS2.out.fr hf3)
  have HF3 := Lib.hid (HF2.out.trans hf3 (fun _ _ => id))
  obtain ⟨rs, hrs⟩ : ∃ r, (atG L (x : Int)).s = r := ⟨_, rfl⟩
  obtain ⟨re, hre⟩ : ∃ r, (atG L (x : Int)).e = r := ⟨_, rfl⟩
  obtain ⟨rp, hrp⟩ : ∃ r, (atG L (x : Int)).p = r := ⟨_, rfl⟩
  obtain ⟨ok, hok⟩ : ∃ b, atK L (x : Int) = b := ⟨_, rfl⟩
  have HRR := Lib.hid (And.intro hrs (And.intro hre (And.intro hrp hok)))
  rw [hrs, hre, hrp, hok]
  have HBR := Lib.hid (Blk.new w3 36 #[.int .u64 rs, .int .u64 re, .int .i64 rp])
  have HFR := Lib.hid ((Fr.refl (fun _ => False) w3).alloc (.cells #[.int .u64 rs, .int .u64 re, .int .i64 rp] 36))
  obtain ⟨vs, hbs, hrs2⟩ := (HS3.out.fr HFR.out).row
  obtain ⟨As, cs, rfl, _, _⟩ := hrs2.form
  have HRS := Lib.hid hrs2
  have s0 := hbs.cell 0
  simp at s0
  clear hf3 hrs hre hrp hok hbs hrs2
  go_wp2_with fail
  refine (regions_any _ P _ _ HRS.out (by have := HPP.out; omega) HP1.out.sm).mono ?_
  rintro xx w4 ⟨v4, rfl, ho4, hb4⟩
  rw [HP1.out.regs] at ho4
  have HO4 := Lib.hid ho4
  obtain ⟨A4, c4, rfl, hc4, hA4⟩ := ho4.form
  obtain ⟨nl, hnl⟩ : ∃ nl, L.length = nl := ⟨_, rfl⟩
  have HNL := Lib.hid hnl
  have hnl2 : nl ≤ 1000 := by rw [← hnl]; exact HLL.out
  rw [hnl] at HO4 hc4 hA4 ⊢
  have HA4 := Lib.hid hA4
  have hf4 := Fr.of_below (S := fun _ => False) hb4
  have HF43 := Lib.hid (HFR.out.trans hf4 (fun _ _ => id))
  have HB4 := Lib.hid (HBR.out.fr hf4 id)
  have HF4 := Lib.hid ((HF3.out.trans HFR.out (fun _ _ => id)).trans hf4 (fun _ _ => id))
  have HL4 := Lib.hid (HL3.out.fr HF43.out)
  have HS4 := Lib.hid (HS3.out.fr HF43.out)
  clear ho4 hb4 hf4 hA4 s0 hnl
  go_wp2_with fail
  go_loopg [17, 18] nl (fun kq v17 v18 wr => Hid (AtAs L (x : Int) w4 nl v17 v18 kq wr))
  case atStart => exact Lib.hid ⟨0, false, rfl, rfl, by omega, by omega, ⟨fun h => (by cases h), fun ⟨j, hj, _⟩ => absurd hj (by omega)⟩, Fr.refl _ _⟩
  case round =>
    obtain ⟨k, f, rfl, rfl, hk1, hk2, hf, hfr⟩ := hrel.out
    have HF := Lib.hid hfr
    have HIF := Lib.hid hf
    clear hrel hfr hf
    by_cases hk : k < nl
    · have u1 : decide ((k : Int) < (nl : Int)) = true := decide_eq_true (by omega)
      have u1' : decide (k < nl) = true := decide_eq_true hk
      have j0 : (0 : Int) ≤ (k : Int) := by omega
      have j1 : (k : Int) < (nl : Int) := by omega
      obtain ⟨g4, rfl⟩ := HA4.out (by omega)
      have HKL := Lib.hid (show k < L.length from by rw [HNL.out]; exact hk)
      obtain ⟨y0, y1, y2⟩ := (HO4.out.fr HF.out (fun _ _ => id)).at_ k HKL.out
      have HBW := Lib.hid (HB4.out.fr HF.out id)
      have b0 := HBW.out.cell 0
      have b1 := HBW.out.cell 1
      have b2 := HBW.out.cell 2
      simp at b0 b1 b2
      have HFD := Lib.hid (fun nq => HF.out.drewN nq)
      by_cases hin : inR (x : Int) (rgAt L k)
      · obtain ⟨e1, e2⟩ := at_is HP1.out.cl.ok (x : Int) k HKL.out hin
        have HIF2 := Lib.hid (show (true = true ↔ ∃ j, j < k + 1 ∧ inR (x : Int) (rgAt L j)) from ⟨fun _ => ⟨k, by omega, hin⟩, fun _ => rfl⟩)
        rw [← e1, HRR.out.1] at y0
        rw [← e1, HRR.out.2.1] at y1
        rw [← e1, HRR.out.2.2.1] at y2
        have hin2 : rs ≤ (x : Int) ∧ (x : Int) < re := by rw [← e1] at hin; unfold inR at hin; rw [HRR.out.1, HRR.out.2.1] at hin; exact hin
        have c1 : decide (rs ≤ (x : Int)) = true := decide_eq_true hin2.1
        have c2 : decide ((x : Int) < re) = true := decide_eq_true hin2.2
        have hne := fun w => neq_rg rs re rp rs re rp w
        rw [eqR_self] at hne
        clear hin e1 e2 hin2
        go_wp2_with fail
        go_quiet (fail)
        all_goals
          go_wp2_with fail
          go_roundg (nl - (k + 1))
          case measure => omega
          case rel => exact Lib.hid ⟨k + 1, true, by go_num, rfl, by omega, by omega, by simpa using HIF2.out, HFD.out _⟩
      · have HIF2 := Lib.hid (show (f = true ↔ ∃ j, j < k + 1 ∧ inR (x : Int) (rgAt L j)) from ⟨fun h => by
            obtain ⟨j, hj, hj2⟩ := HIF.out.1 h
            exact ⟨j, by omega, hj2⟩, fun ⟨j, hj, hj2⟩ => by
            rcases Nat.lt_succ_iff_lt_or_eq.1 hj with h | h
            · exact HIF.out.2 ⟨j, h, hj2⟩
            · rw [h] at hj2; exact absurd hj2 hin⟩)
        obtain ⟨r, hr⟩ : ∃ r, rgAt L k = r := ⟨_, rfl⟩
        rw [hr] at y0 y1 y2 hin
        obtain ⟨s, e, q⟩ := r
        unfold inR at hin
        simp only at hin
        clear hr
        by_cases hc : s ≤ (x : Int)
        · have c1 : decide (s ≤ (x : Int)) = true := decide_eq_true hc
          have c2 : decide ((x : Int) < e) = false := decide_eq_false (fun h => hin ⟨hc, h⟩)
          clear hin hc
          go_wp2_with fail
          go_roundg (nl - (k + 1))
          case measure => omega
          case rel => exact Lib.hid ⟨k + 1, f, by go_num, rfl, by omega, by omega, HIF2.out, HF.out⟩
        · have c1 : decide (s ≤ (x : Int)) = false := decide_eq_false hc
          clear hin hc
          go_wp2_with fail
          go_roundg (nl - (k + 1))
          case measure => omega
          case rel => exact Lib.hid ⟨k + 1, f, by go_num, rfl, by omega, by omega, HIF2.out, HF.out⟩
    · obtain rfl : k = nl := by omega
      have u1 : decide ((k : Int) < (k : Int)) = false := decide_eq_false (by omega)
      obtain rfl : f = ok := by
        have h1 := HIF.out
        rw [← HRR.out.2.2.2]
        cases hh : atK L (x : Int) with
        | true =>
          obtain ⟨j, hj, hj2⟩ := at_some hh
          exact h1.2 ⟨j, by rw [← HNL.out]; exact hj, hj2⟩
        | false =>
          cases f with
          | false => rfl
          | true =>
            obtain ⟨j, hj, hj2⟩ := h1.1 rfl
            have h2 := (at_is HP1.out.cl.ok (x : Int) j (by rw [HNL.out]; exact hj) hj2).2
            rw [hh] at h2
            cases h2
      have HLW := Lib.hid (HL4.out.fr HF.out)
      have HSW := Lib.hid (HS4.out.fr HF.out)
      have HFW := Lib.hid (HF4.out.trans HF.out (fun _ _ => id))
      obtain ⟨e, he⟩ : ∃ e, x + z = e := ⟨_, rfl⟩
      have he1 : (x : Int) + (z : Int) = (e : Int) := by omega
      have hwe : IntKind.u64.wrap (e : Int) = (e : Int) := IntWalk.u64_in _ (by omega)
      have he3 : e < 330000 := by omega
      clear he
      go_wp2_with fail
      refine (first_all _ g L (x : Int) (e : Int) (p : Int) _ HLW.out HP1.out.cl.ok (by have := HLL.out; omega)).mono ?_
      rintro xx w5 ⟨y1, b1, rfl, hs1, hf5⟩
      have HSP1 := Lib.hid hs1
      have HS5 := Lib.hid (HSW.out.fr hf5)
      have HL5 := Lib.hid (HLW.out.fr hf5)
      have HF5 := Lib.hid (HFW.out.trans hf5 (fun _ _ => id))
      clear hs1 hf5
      go_wp2_with fail
      refine (firstL_any _ gm L P (x : Int) (e : Int) (p : Int) (by omega) (by omega) (by omega) _ HS5.out HP1.out (by have := HPP.out; omega)).mono ?_
      rintro xx w6 ⟨y2, b2, rfl, hs2, hf6⟩
      obtain ⟨rfl, rfl⟩ := SpecF.uniq HSP1.out (show SpecF L (p : Int) (x : Int) (e : Int) y2 b2 from hs2)
      have HS6 := Lib.hid (HS5.out.fr hf6)
      have HL6 := Lib.hid (HL5.out.fr hf6)
      have HF6 := Lib.hid (HF5.out.trans hf6 (fun _ _ => id))
      clear hs2 hf6
      obtain ⟨xa, hxa⟩ : ∃ xa : Nat, x / 4096 = xa := ⟨_, rfl⟩
      obtain ⟨ea, hea⟩ : ∃ ea : Nat, e / 4096 = ea := ⟨_, rfl⟩
      have t1 : (x : Int).tdiv 4096 = (xa : Int) := by rw [Int.tdiv_eq_ediv_of_nonneg (by omega)]; omega
      have t2 : (e : Int).tdiv 4096 = (ea : Int) := by rw [Int.tdiv_eq_ediv_of_nonneg (by omega)]; omega
      have t3 : (x : Int) / 4096 = (xa : Int) := by omega
      have t4 : (e : Int) / 4096 = (ea : Int) := by omega
      have w1 : IntKind.u64.wrap ((xa : Int) * 4096) = (xa : Int) * 4096 := IntWalk.u64_in _ (by omega)
      have w2 : IntKind.u64.wrap ((ea : Int) * 4096) = (ea : Int) * 4096 := IntWalk.u64_in _ (by omega)
      have hxe : xa ≤ 1000 ∧ ea ≤ 1000 := by omega
      have HFE := Lib.hid (free_same HP1.out xa ea)
      clear hxa hea
      go_wp2_with fail
      refine (free_any _ g L ((xa : Int) * 4096) ((ea : Int) * 4096) (by omega) (by omega) _ HL6.out (by have := HLL.out; omega)).mono ?_
      rintro xx w7 ⟨rfl, hf7⟩
      have HS7 := Lib.hid (HS6.out.fr hf7)
      have HF7 := Lib.hid (HF6.out.trans hf7 (fun _ _ => id))
      obtain ⟨fb, hfb⟩ : ∃ fb, freeB L ((xa : Int) * 4096) ((ea : Int) * 4096) = fb := ⟨_, rfl⟩
      rw [hfb] at HFE ⊢
      clear hf7 hfb
      go_wp2_with fail
      refine (freeP_any _ gm P ((xa : Int) * 4096) ((ea : Int) * 4096) (by omega) (by omega) _ HS7.out HP1.out.sm (by have := HPP.out; omega)).mono ?_
      rintro xx w8 ⟨rfl, hf8⟩
      rw [HFE.out]
      have HF8 := Lib.hid (HF7.out.trans hf8 (fun _ _ => id))
      clear hf8
      go_wp2_with fail
      go_ret
      exact ⟨rfl, HF8.out⟩
theorem asks_walk (a0 : Option Addr) (len0 cap0 : Nat) (z0 : List Int) (a1 a2 a3 : Int) (W : World) (w0 : (a0 = none ∧ len0 = 0 ∧ cap0 = 0 ∧ z0 = []) ∨ ∃ x, a0 = some x ∧ len0 ≤ cap0 ∧ cap0 ≤ maxLen ∧ z0.length = cap0 ∧ (∀ i, i < z0.length → W.cell? (x.add i) = some (.int .u8 (z0.getD i 0))) ∧ ∀ n ∈ z0, (Lit.int .u8 n).wf = true)
    (hz : len0 * 1 ≤ 140737488351232) (w1 : (Lit.int .u32 a1).wf = true) (w2 : (Lit.int .u32 a2).wf = true) (w3 : (Lit.int .u8 a3).wf = true) : Calls Try.prog 4 #[.slice a0 len0 cap0, .int .u32 a1, .int .u32 a2, .int .u8 a3] W fun e W' => e = .returned (.bool true) ∧ Below W.heap.size W W' := by
  have b1 := Go.bounds_u32 w1
  have b2 := Go.bounds_u32 w2
  have b3 := Go.bounds_u8 w3
  obtain ⟨m1, rfl⟩ : ∃ m : Nat, a1 = m := ⟨a1.toNat, by omega⟩
  obtain ⟨m2, rfl⟩ : ∃ m : Nat, a2 = m := ⟨a2.toNat, by omega⟩
  obtain ⟨m3, rfl⟩ : ∃ m : Nat, a3 = m := ⟨a3.toNat, by omega⟩
  obtain ⟨l0, rfl, hr0, hm0, hw0, hc0⟩ := ReadsInt.ofRowC w0
  exact (asks_any a0 cap0 l0 m1 m2 m3 (by omega) W (by omega) hr0 (fun y hy => Go.bounds_u8 (hw0 y hy))).mono fun _ _ g => ⟨g.1, Fr.below (Below.refl _ _) g.2 (fun _ _ => id)⟩
end Go.Proofs.Ytnaiccgbjcppaaa.Rg
