/- The law's span; RegionActs: walked. -/
import Derived.Test.YtnaiccgbjcppaaaRgZ
namespace Go.Proofs.Ytnaiccgbjcppaaa.Rg
open Go Go.RowKit Go.Proofs.YtnaiccgbjcppaaaW.PrintWords Go.Proofs.YtnaiccgbjcppaaaW.PrintLast Go.Proofs.YtnaiccgbjcppaaaW.PrintMore
open Go.Proofs.Ytnaiccgbjcppaaa.Hp
attribute [local go_sem] max2_int min2_int max_two min_two max_three min_three max_four min_four
set_option linter.unusedVariables false
set_option linter.unusedSimpArgs false
def SpanR (s e : Int) : Prop := (∃ A N : Nat, A < 60 ∧ 0 < N ∧ N < 12 ∧ (A : Int) * 4096 = s ∧ ((A + N : Nat) : Int) * 4096 = e) ∨ (spanB s e = false ∧ 0 ≤ s ∧ s < 1000000000000 ∧ 0 ≤ e ∧ e < 1000000000000)
theorem u32_nat (a : Int) : ∃ u : Nat, IntKind.u32.wrap a = (u : Int) := by
  have h : 0 ≤ IntKind.u32.wrap a := by
    rw [IntKind.wrap_u32]
    omega
  exact ⟨(IntKind.u32.wrap a).toNat, by omega⟩
theorem span_not {s e : Int} (h : s % 4096 ≠ 0 ∨ e % 4096 ≠ 0 ∨ e ≤ s ∨ 274877906944 < e) : spanB s e = false := by
  cases hh : spanB s e with
  | false => rfl
  | true =>
    unfold spanB at hh
    simp only [Bool.and_eq_true, decide_eq_true_eq] at hh
    omega
set_option maxHeartbeats 4000000 in
theorem spanLaw_any (d a n p : Int) (odd : Bool) (w : World) : Calls Try.prog 26 #[.agg #[.int .i64 d, .int .i64 a, .int .i64 n, .int .i64 p, .bool odd]] w fun x w' => ∃ s e : Int, x = .returned (.tuple #[.int .u64 s, .int .u64 e]) ∧ SpanR s e ∧ Fr (fun _ => False) w w' := by
  obtain ⟨ua, hua⟩ := u32_nat a
  obtain ⟨un, hun⟩ := u32_nat n
  obtain ⟨A, hA⟩ : ∃ A, ua % 60 = A := ⟨_, rfl⟩
  obtain ⟨N, hN⟩ : ∃ N, un % 12 = N := ⟨_, rfl⟩
  obtain ⟨Q, hQ⟩ : ∃ Q, un % 4 = Q := ⟨_, rfl⟩
  have a1 : (ua : Int).tmod 60 = (A : Int) := by rw [Int.tmod_eq_emod_of_nonneg (by omega)]; omega
  have n1 : (un : Int).tmod 12 = (N : Int) := by rw [Int.tmod_eq_emod_of_nonneg (by omega)]; omega
  have q1 : (un : Int).tmod 4 = (Q : Int) := by rw [Int.tmod_eq_emod_of_nonneg (by omega)]; omega
  have a2 : (ua : Int) % 60 = (A : Int) := by omega
  have n2 : (un : Int) % 12 = (N : Int) := by omega
  have q2 : (un : Int) % 4 = (Q : Int) := by omega
  obtain ⟨S, hS⟩ : ∃ S : Int, (A : Int) * 4096 = S := ⟨_, rfl⟩
  obtain ⟨T, hT⟩ : ∃ T : Int, (N : Int) * 4096 = T := ⟨_, rfl⟩
  obtain ⟨E, hE⟩ : ∃ E : Int, S + T = E := ⟨_, rfl⟩
  have wA : IntKind.u64.wrap (A : Int) = (A : Int) := IntWalk.u64_in _ (by omega)
  have wN : IntKind.u64.wrap (N : Int) = (N : Int) := IntWalk.u64_in _ (by omega)
  have wS : IntKind.u64.wrap S = S := IntWalk.u64_in _ (by omega)
  have wT : IntKind.u64.wrap T = T := IntWalk.u64_in _ (by omega)
  have wE : IntKind.u64.wrap E = E := IntWalk.u64_in _ (by omega)
  have hb : 0 ≤ S ∧ S < 250000 ∧ 0 ≤ E ∧ E < 300000 ∧ S % 4096 = 0 ∧ E % 4096 = 0 := by omega
  have HB := Lib.hid hb
  have HFA := Lib.hid ((Fr.refl (fun _ => False) w).alloc (.cells #[.int .i64 d, .int .i64 a, .int .i64 n, .int .i64 p, .bool odd] 56))
  have HG := Lib.hid (show SpanR S E from by
    rcases Nat.eq_zero_or_pos N with h | h
    · exact .inr ⟨span_not (.inr (.inr (.inl (by omega)))), by omega, by omega, by omega, by omega⟩
    · exact .inl ⟨A, N, by omega, h, by omega, hS, by omega⟩)
  have hQ4 : Q < 4 := by omega
  clear hA hN hQ
  cases odd with
  | false =>
    go_enter Try.func26, Try.ntmps26
    go_wp2_with fail
    go_ret2
    exact ⟨S, E, rfl, HG.out, HFA.out⟩
  | true =>
    rcases (show Q = 0 ∨ Q = 1 ∨ Q = 2 ∨ Q = 3 from by omega) with rfl | rfl | rfl | rfl
    · have hw : IntKind.u64.wrap (S + 1) = S + 1 := IntWalk.u64_in _ (by omega)
      have HR := Lib.hid (show SpanR (S + 1) E from .inr ⟨span_not (.inl (by omega)), by omega, by omega, by omega, by omega⟩)
      go_enter Try.func26, Try.ntmps26
      go_wp2_with fail
      go_ret2
      exact ⟨_, _, rfl, HR.out, HFA.out⟩
    · have hw : IntKind.u64.wrap (E + 100) = E + 100 := IntWalk.u64_in _ (by omega)
      have HR := Lib.hid (show SpanR S (E + 100) from .inr ⟨span_not (.inr (.inl (by omega))), by omega, by omega, by omega, by omega⟩)
      go_enter Try.func26, Try.ntmps26
      go_wp2_with fail
      go_ret2
      exact ⟨_, _, rfl, HR.out, HFA.out⟩
    · have HR := Lib.hid (show SpanR S S from .inr ⟨span_not (.inr (.inr (.inl (by omega)))), by omega, by omega, by omega, by omega⟩)
      go_enter Try.func26, Try.ntmps26
      go_wp2_with fail
      go_ret2
      exact ⟨_, _, rfl, HR.out, HFA.out⟩
    · have HR := Lib.hid (show SpanR 274877902848 274877911040 from .inr ⟨span_not (.inr (.inr (.inr (by omega)))), by omega, by omega, by omega, by omega⟩)
      go_enter Try.func26, Try.ntmps26
      go_wp2_with fail
      go_ret2
      exact ⟨_, _, rfl, HR.out, HFA.out⟩
def AtRa (w : World) (g gm n : Nat) (v5 : Value) (kq : Nat) (wr : World) : Prop := ∃ (k : Nat) (L : List Rg) (P : List Pg), v5 = .int .i64 k ∧ k ≤ n ∧ k ≤ 60 ∧ n - k ≤ kq ∧ Lst wr w.heap.size g L ∧ Spc wr w.heap.size gm P ∧ Pair L P ∧ (∀ x ∈ P, x.n < 71) ∧ Fr (fun _ => False) w wr
theorem small_len {P : List Pg} (h : Okl (pm P)) (hs : Small P) (hx : ∀ x ∈ P, x.n < 71) : P.length ≤ 71 := by
  have := sorted_len P 0 71 (by omega) h (fun x hxx => ⟨(hs x hxx).1, hx x hxx⟩)
  omega
set_option maxHeartbeats 16000000 in
set_option maxRecDepth 100000 in
theorem acts_any (v : Value) (w : World) (hv : Acts w v) : Calls Try.prog 6 #[v] w fun e w' => e = .returned (.bool true) ∧ Fr (fun _ => False) w w' := by
  obtain ⟨A, n, c, rfl, hn, hact⟩ := hv
  have HACT := Lib.hid hact
  have hnm : n ≤ 9223372036854775807 := by unfold maxLen at hn; exact hn
  clear hact hn
  go_enter Try.func6, Try.ntmps6
  go_wp2_with fail
  refine (new_any _).mono ?_
  rintro x w1 ⟨rfl, hl1, hf1⟩
  have HL1 := Lib.hid hl1
  have HF1 := Lib.hid hf1
  clear hl1 hf1
  go_wp2_with fail
  refine (newS_any _).mono ?_
  rintro x w2 ⟨rfl, hs2, hf2⟩
  have HS2 := Lib.hid (show Spc w2 w.heap.size w1.heap.size [] from ⟨by obtain ⟨v, h1, h2⟩ := hs2.row; exact ⟨v, h1, OwnP.low h2 HF1.out.size⟩, HF1.out.size⟩)
  have HF2 := Lib.hid (HF1.out.trans hf2 (fun _ _ => id))
  have HL2 := Lib.hid (HL1.out.fr hf2)
  obtain ⟨gm, hgm⟩ : ∃ gm, w1.heap.size = gm := ⟨_, rfl⟩
  rw [hgm] at HS2 ⊢
  clear hf2 hs2 hgm
  go_wp2_with fail
  refine (answers_any _).mono ?_
  rintro x w3 ⟨rfl, hf3⟩
  have HF3 := Lib.hid (HF2.out.trans hf3 (fun _ _ => id))
  have HL3 := Lib.hid (HL2.out.fr hf3)
  have HS3 := Lib.hid (HS2.out.fr hf3)
  clear hf3
  go_wp2_with fail
  go_loopg [5] n (fun kq v5 wr => Hid (AtRa w w.heap.size gm n v5 kq wr))
  case atStart => exact Lib.hid ⟨0, [], [], rfl, by omega, by omega, by omega, HL3.out, HS3.out, Pair.nil, fun x hx => (by cases hx), HF3.out⟩
  case round =>
    obtain ⟨k, L, P, rfl, hkn, hk60, hk2, hl, hs, hp, hpn, hf⟩ := hrel.out
    have HL := Lib.hid hl
    have HS := Lib.hid hs
    have HP := Lib.hid hp
    have HF := Lib.hid hf
    have HPN := Lib.hid hpn
    have HPL := Lib.hid (small_len hp.ok hp.sm hpn)
    clear hrel hl hs hp hf hpn
    by_cases hk : k < n ∧ k < 60
    · obtain ⟨hk1, hk40⟩ := hk
      have u1 : decide ((k : Int) < (n : Int)) = true := decide_eq_true (by omega)
      have u1' : decide (k < n) = true := decide_eq_true (by omega)
      have u2 : decide ((k : Int) < 60) = true := decide_eq_true (by omega)
      have u2' : decide (k < 60) = true := decide_eq_true (by omega)
      have j0 : (0 : Int) ≤ (k : Int) := by omega
      have j1 : (k : Int) < (n : Int) := by omega
      obtain ⟨ad, d, a, nn, p, odd, rfl, hat⟩ := HACT.out k hk1
      have hat2 := hat.fr HF.out
      have c0 : wr.cell? (ad.add (k * 5)) = some (.int .i64 d) := hat2.c0
      have c1 : wr.cell? ⟨(ad.add (k * 5)).block, (ad.add (k * 5)).off + 1, none⟩ = some (.int .i64 a) := hat2.c1
      have c2 : wr.cell? ⟨(ad.add (k * 5)).block, (ad.add (k * 5)).off + 2, none⟩ = some (.int .i64 nn) := hat2.c2
      have c3 : wr.cell? ⟨(ad.add (k * 5)).block, (ad.add (k * 5)).off + 3, none⟩ = some (.int .i64 p) := hat2.c3
      have c4 : wr.cell? ⟨(ad.add (k * 5)).block, (ad.add (k * 5)).off + 4, none⟩ = some (.bool odd) := hat2.c4
      have HK2 := Lib.hid (And.intro hk2 (And.intro hk1 hk40))
      have HBX := Lib.hid (Blk.new wr 56 #[.int .i64 d, .int .i64 a, .int .i64 nn, .int .i64 p, .bool odd])
      have HFX := Lib.hid ((Fr.refl (fun _ => False) wr).alloc (.cells #[.int .i64 d, .int .i64 a, .int .i64 nn, .int .i64 p, .bool odd] 56))
      clear hk2 hat hat2
      go_wp2_with fail
      refine (spanLaw_any d a nn p odd _).mono ?_
      rintro x w4 ⟨s, e, rfl, hsr, hf4⟩
      have HSR := Lib.hid hsr
      have hxs := HFX.out.trans hf4 (fun _ _ => id)
      have HB4 := Lib.hid (HBX.out.fr hf4 id)
      have HL4 := Lib.hid (HL.out.fr hxs)
      have HS4 := Lib.hid (HS.out.fr hxs)
      have HF4 := Lib.hid (HF.out.trans hxs (fun _ _ => id))
      clear hf4 hsr hxs c0 c1 c2 c3 c4
      rcases HSR.out with ⟨A, N, hA, hN0, hN, hS, hE⟩ | ⟨hbad, hs0, hs1, he0, he1⟩
      · have HSP := Lib.hid (fun w => spanS_any s e (by omega) (by omega) w)
        rw [span_at hS hE hN0 (by omega)] at HSP
        have HSPB := Lib.hid (span_at hS hE hN0 (by omega))
        obtain ⟨Z, hZ⟩ : ∃ Z : Int, (N : Int) * 4096 = Z := ⟨_, rfl⟩
        have hsub : e - s = Z := by omega
        have hwz : IntKind.u64.wrap Z = Z := IntWalk.u64_in _ (by omega)
        have HAN := Lib.hid (show A < 60 ∧ 0 < N ∧ N < 12 ∧ (A : Int) * 4096 = s ∧ ((A + N : Nat) : Int) * 4096 = e ∧ (N : Int) * 4096 = Z ∧ 0 ≤ s ∧ s < 18446744073709551616 ∧ 0 ≤ e ∧ e < 18446744073709551616 from by omega)
        clear hA hN0 hN hS hE hZ
        by_cases hpr : 0 ≤ p ∧ p ≤ 7
        · have p1 : decide ((0 : Int) ≤ p) = true := decide_eq_true hpr.1
          have p2 : decide (p ≤ 7) = true := decide_eq_true hpr.2
          have HPP := Lib.hid hpr
          clear hpr
          by_cases hd1 : d = 1
          · subst hd1
            go_wp2_with fail
            refine (HSP.out _).mono ?_
            rintro x w5 ⟨rfl, hf5⟩
            have HB5 := Lib.hid (HB4.out.fr hf5 id)
            have HL5 := Lib.hid (HL4.out.fr hf5)
            have HS5 := Lib.hid (HS4.out.fr hf5)
            have HF5 := Lib.hid (HF4.out.trans hf5 (fun _ _ => id))
            have x0 := HB5.out.cell 0
            have x3 := HB5.out.cell 3
            simp at x0 x3
            clear hf5
            go_wp2_with fail
            refine (map_any _ _ L s e p ⟨HAN.out.2.2.2.2.2.2.1, HAN.out.2.2.2.2.2.2.2.1⟩ ⟨HAN.out.2.2.2.2.2.2.2.2.1, HAN.out.2.2.2.2.2.2.2.2.2⟩ _ HL5.out (by have := HP.out.len; have := HPL.out; omega)).mono ?_
            rintro x w6 ⟨rfl, hl6, hf6⟩
            have hmp := fun P' (h : LayP A N p P P') => HP.out.map HAN.out.2.1 (by have := HAN.out.1; have := HAN.out.2.2.1; omega) HPP.out h (by have := HPL.out; omega)
            rw [HAN.out.2.2.2.1, HAN.out.2.2.2.2.1] at hmp
            have HMP := Lib.hid hmp
            have hlay := fun ww hs hB => lay_any w.heap.size gm P A N p ww hs hB HP.out.sm HAN.out.2.1 (by have := HAN.out.1; have := HAN.out.2.2.1; omega) (by have := HPL.out; omega) (by have := withoutP_len ((A : Int) * 4096) (((A + N : Nat) : Int) * 4096) P; have := HAN.out.2.2.1; have := HPL.out; omega)
            rw [HAN.out.2.2.2.1, HAN.out.2.2.2.2.1] at hlay
            have HLAY := Lib.hid hlay
            have HL6 := Lib.hid hl6
            have HS6 := Lib.hid (HS5.out.keep HL5.out hf6)
            have HF6 := Lib.hid (HF5.out.trans hf6 (fun i hi e => by omega))
            have HB6 := Lib.hid (HB5.out.fr hf6 (fun e => by obtain ⟨vv, hvv, _⟩ := HL5.out.row; exact (HB5.out.ne hvv (by decide)) e))
            have y3 := HB6.out.cell 3
            simp at y3
            obtain ⟨me, hme⟩ : ∃ me, mapE L s e p = me := ⟨_, rfl⟩
            have HME := Lib.hid hme
            rw [hme]
            clear hl6 hf6 x0 x3 hmp hlay hme
            go_wp2_with fail
            refine (HLAY.out _ HS6.out HF6.out.size).mono ?_
            rintro x w7 ⟨rfl, ⟨P', hLP, hs7⟩, hf7⟩
            obtain ⟨hm1, hm2⟩ := HMP.out P' hLP
            obtain rfl : me = 0 := by rw [← HME.out]; exact hm1
            have HP7 := Lib.hid hm2
            have HS7 := Lib.hid hs7
            have HL7 := Lib.hid (HL6.out.keep HS6.out hf7)
            have HF7 := Lib.hid (HF6.out.trans hf7 (fun i hi e => by have := HS6.out.gb; omega))
            have HB7 := Lib.hid (lay_bound A N hLP)
            have HPB7 := Lib.hid (show ∀ x ∈ P', x.n < 71 from fun x hx => by
              rcases HB7.out.2 x hx with h | h
              · exact HPN.out x h
              · have := HAN.out.1; have := HAN.out.2.2.1; omega)
            clear hLP hs7 hf7 hm1 hm2 y3
            have HLX := Lib.hid (HL7.out)
            have HSX := Lib.hid (HS7.out)
            have HPX := Lib.hid (HP7.out)
            have HPB := Lib.hid (HPB7.out)
            have HFXX := Lib.hid (HF7.out)
            obtain ⟨L9, hL9⟩ : ∃ L9, mapL L s e p = L9 := ⟨_, rfl⟩
            obtain ⟨P9, hP9⟩ : ∃ P9, P' = P9 := ⟨_, rfl⟩
            rw [hL9] at HLX HPX
            rw [hP9] at HSX HPX HPB
            clear hL9 hP9
            obtain ⟨vP, hbP, hrP⟩ := HSX.out.row
            obtain ⟨AP, cP, rfl, _, _⟩ := hrP.form
            obtain ⟨np, hnp⟩ : ∃ np, P9.length = np := ⟨_, rfl⟩
            have HPN9E := Lib.hid hnp
            have HPN9 := Lib.hid (small_len HPX.out.ok HPX.out.sm HPB.out)
            rw [hnp] at hbP
            have HBP := Lib.hid hbP
            have HRP := Lib.hid hrP
            rw [hnp] at HRP
            have HLN := Lib.hid (show L9.length ≤ 71 from by have := HPX.out.len; have := HPN9.out; omega)
            obtain ⟨nl, hnl⟩ : ∃ nl, L9.length = nl := ⟨_, rfl⟩
            have HLN9 := Lib.hid hnl
            clear hbP hrP hnp hnl
            go_wp2_with fail
            refine wp_region_noPanic ?_
            refine wp_region_held_drew (S := (fun w' => Below w7.heap.size w7 w')) (by kernel_rfl) ?_ (fun hHeld => ?_)
            · exact below_drew (Below.refl _ _)
            refine wpAnyH_take (i := 0) (v := ?_) rfl (by kernel_rfl) (by kernel_rfl) (by kernel_rfl) (fun _ _ _ h => h) (Or.inl ⟨by rfl, ?_⟩) (by assumption) ?_
            rotate_left
            · (intro w hSw; (try dsimp only at hSw); go_simp; first | done | (with_reducible rfl))
            try simp only [List.getElem_toArray, List.getElem_cons_succ, List.getElem_cons_zero, Act.put, List.setIfInBounds_toArray, List.set_cons_zero, List.set_cons_succ]
            refine wpAnyH_take (i := 1) (v := ?_) rfl (by kernel_rfl) (by kernel_rfl) (by kernel_rfl) (fun _ _ _ h => h) (Or.inl ⟨by rfl, ?_⟩) (by assumption) ?_
            rotate_left
            · (intro w hSw; (try dsimp only at hSw); go_simp; first | done | (with_reducible rfl))
            try simp only [List.getElem_toArray, List.getElem_cons_succ, List.getElem_cons_zero, Act.put, List.setIfInBounds_toArray, List.set_cons_zero, List.set_cons_succ]
            refine wpAnyH_take (i := 2) (v := ?_) rfl (by kernel_rfl) (by kernel_rfl) (by kernel_rfl) (fun _ _ _ h => h) (Or.inl ⟨by rfl, ?_⟩) (by assumption) ?_
            rotate_left
            · (intro w hSw; (try dsimp only at hSw); go_simp; first | done | (with_reducible rfl))
            try simp only [List.getElem_toArray, List.getElem_cons_succ, List.getElem_cons_zero, Act.put, List.setIfInBounds_toArray, List.set_cons_zero, List.set_cons_succ]
            refine wpAnyH_take (i := 3) (v := ?_) rfl (by kernel_rfl) (by kernel_rfl) (by kernel_rfl) (fun _ _ _ h => h) (Or.inl ⟨by rfl, ?_⟩) (by assumption) ?_
            rotate_left
            · (intro w hSw; (try dsimp only at hSw); go_simp; first | done | (with_reducible rfl))
            try simp only [List.getElem_toArray, List.getElem_cons_succ, List.getElem_cons_zero, Act.put, List.setIfInBounds_toArray, List.set_cons_zero, List.set_cons_succ]
            refine wpAnyH_take (i := 4) (v := ?_) rfl (by kernel_rfl) (by kernel_rfl) (by kernel_rfl) (fun _ _ _ h => h) (Or.inl ⟨by rfl, ?_⟩) (by assumption) ?_
            rotate_left
            · (intro w hSw; (try dsimp only at hSw); go_simp; first | done | (with_reducible rfl))
            try simp only [List.getElem_toArray, List.getElem_cons_succ, List.getElem_cons_zero, Act.put, List.setIfInBounds_toArray, List.set_cons_zero, List.set_cons_succ]
            refine wpAnyH_take (i := 6) (v := ?_) rfl (by kernel_rfl) (by kernel_rfl) (by kernel_rfl) (fun _ _ _ h => h) (Or.inl ⟨by rfl, ?_⟩) (by assumption) ?_
            rotate_left
            · (intro w hSw; (try dsimp only at hSw); go_simp; first | done | (with_reducible rfl))
            try simp only [List.getElem_toArray, List.getElem_cons_succ, List.getElem_cons_zero, Act.put, List.setIfInBounds_toArray, List.set_cons_zero, List.set_cons_succ]
            refine wpAnyH_take (i := 7) (v := ?_) rfl (by kernel_rfl) (by kernel_rfl) (by kernel_rfl) (fun _ _ _ h => h) (Or.inl ⟨by rfl, ?_⟩) (by assumption) ?_
            rotate_left
            · (intro w hSw; (try dsimp only at hSw); go_simp; first | done | (with_reducible rfl))
            try simp only [List.getElem_toArray, List.getElem_cons_succ, List.getElem_cons_zero, Act.put, List.setIfInBounds_toArray, List.set_cons_zero, List.set_cons_succ]
            refine wpAnyH_take (i := 8) (v := ?_) rfl (by kernel_rfl) (by kernel_rfl) (by kernel_rfl) (fun _ _ _ h => h) (Or.inl ⟨by rfl, ?_⟩) (by assumption) ?_
            rotate_left
            · (intro w hSw; (try dsimp only at hSw); go_simp; first | done | (with_reducible rfl))
            try simp only [List.getElem_toArray, List.getElem_cons_succ, List.getElem_cons_zero, Act.put, List.setIfInBounds_toArray, List.set_cons_zero, List.set_cons_succ]
            refine wpAnyH_take (i := 9) (v := .slice AP np cP) rfl (by kernel_rfl) (by kernel_rfl) (by kernel_rfl) (fun _ _ _ h => h) (Or.inl ⟨by rfl, fun w h => by have k0 := Blk.cell (show Blk w gm 43 #[.slice AP np cP, .int .i64 100, .int .u64 0, .int .u64 0] from (h.block _ HBP.out.lt).trans HBP.out) 0; simp at k0; go_simp⟩) (by assumption) ?_
            try simp only [List.getElem_toArray, List.getElem_cons_succ, List.getElem_cons_zero, Act.put, List.setIfInBounds_toArray, List.set_cons_zero, List.set_cons_succ]
            refine wpAnyH_ready (rs := [5]) (by kernel_rfl) (by simp) ?_
            refine AllReadyH.cons rfl (fun K' hK' => ?_) AllReadyH.nil
            go_simp
            go_at_call 23
            refine (all_any _ _ L9 _ (HLX.out.fr (Fr.of_below (S := fun _ => False) hHeld)) (by have := HLN.out; omega)).mono ?_
            rintro e1 wa ⟨va, rfl, hoa, hfa⟩
            obtain ⟨Aa, ca, rfl, _, _⟩ := hoa.form
            have HOa := Lib.hid hoa
            have hS1 := Fr.below hHeld hfa (fun _ _ => id)
            rw [HLN9.out]
            clear hoa hfa
            clear hHeld
            refine hK'.out _ _ hS1 (fun hHeld => ?_)
            clear hK' K' hS1
            try simp only [List.getElem_toArray, List.getElem_cons_succ, List.getElem_cons_zero, Act.put, List.setIfInBounds_toArray, List.set_cons_zero, List.set_cons_succ]
            refine wpAnyH_ready (rs := [10]) (by kernel_rfl) (by simp) ?_
            refine AllReadyH.cons rfl (fun K' hK' => ?_) AllReadyH.nil
            go_simp
            go_at_call 17
            refine (regions_any _ P9 _ _ (HRP.out.fr (Fr.of_below (S := fun _ => False) hHeld) (fun _ _ => id)) (by have := HPN9.out; omega) HPX.out.sm).mono ?_
            rintro e1 wb ⟨vb, rfl, hob, hbb⟩
            rw [HPX.out.regs] at hob
            obtain ⟨Ab, cb, rfl, _, _⟩ := hob.form
            have HOb := Lib.hid hob
            have HOa2 := Lib.hid (HOa.out.fr (Fr.of_below (S := fun _ => False) hbb) (fun _ _ => id))
            clear HOa
            have HOa := HOa2
            clear HOa2
            have hS1 := Fr.below hHeld (Fr.of_below (S := fun _ => False) hbb) (fun _ _ => id)
            rw [HLN9.out]
            clear hob hbb
            clear hHeld
            refine hK'.out _ _ hS1 (fun hHeld => ?_)
            clear hK' K' hS1
            try simp only [List.getElem_toArray, List.getElem_cons_succ, List.getElem_cons_zero, Act.put, List.setIfInBounds_toArray, List.set_cons_zero, List.set_cons_succ]
            refine wpAnyH_ready (rs := [11]) (by kernel_rfl) (by simp) ?_
            refine AllReadyH.cons rfl (fun K' hK' => ?_) AllReadyH.nil
            go_simp
            go_at_call 32
            have hoa := HOa.out
            have hob := HOb.out
            rw [HLN9.out] at hoa hob
            refine (same_any _ _ L9 _ _ _ hoa hob (by have := HLN.out; omega)).mono ?_
            rintro e1 wc ⟨rfl, hfc⟩
            have hS1 := Fr.below hHeld hfc (fun _ _ => id)
            clear hfc hoa hob
            clear hHeld
            refine hK'.out _ _ hS1 (fun hHeld => ?_)
            clear hK' K' hS1
            try simp only [List.getElem_toArray, List.getElem_cons_succ, List.getElem_cons_zero, Act.put, List.setIfInBounds_toArray, List.set_cons_zero, List.set_cons_succ]
            refine wpAnyH_take (i := 12) (v := ?_) rfl (by kernel_rfl) (by kernel_rfl) (by kernel_rfl) (fun _ _ _ h => h) (Or.inl ⟨by rfl, ?_⟩) (by assumption) ?_
            rotate_left
            · (intro w hSw; (try dsimp only at hSw); go_simp; first | done | (with_reducible rfl))
            try simp only [List.getElem_toArray, List.getElem_cons_succ, List.getElem_cons_zero, Act.put, List.setIfInBounds_toArray, List.set_cons_zero, List.set_cons_succ]
            refine wpAnyH_take (i := 13) (v := ?_) rfl (by kernel_rfl) (by kernel_rfl) (by kernel_rfl) (fun _ _ _ h => h) (Or.inl ⟨by rfl, ?_⟩) (by assumption) ?_
            rotate_left
            · (intro w hSw; (try dsimp only at hSw); go_simp; first | done | (with_reducible rfl))
            try simp only [List.getElem_toArray, List.getElem_cons_succ, List.getElem_cons_zero, Act.put, List.setIfInBounds_toArray, List.set_cons_zero, List.set_cons_succ]
            refine wpAnyH_take (i := 14) (v := ?_) rfl (by kernel_rfl) (by kernel_rfl) (by kernel_rfl) (fun _ _ _ h => h) (Or.inl ⟨by rfl, ?_⟩) (by assumption) ?_
            rotate_left
            · (intro w hSw; (try dsimp only at hSw); go_simp; first | done | (with_reducible rfl))
            try simp only [List.getElem_toArray, List.getElem_cons_succ, List.getElem_cons_zero, Act.put, List.setIfInBounds_toArray, List.set_cons_zero, List.set_cons_succ]
            refine wpAnyH_take (i := 15) (v := ?_) rfl (by kernel_rfl) (by kernel_rfl) (by kernel_rfl) (fun _ _ _ h => h) (Or.inl ⟨by rfl, ?_⟩) (by assumption) ?_
            rotate_left
            · (intro w hSw; (try dsimp only at hSw); go_simp; first | done | (with_reducible rfl))
            try simp only [List.getElem_toArray, List.getElem_cons_succ, List.getElem_cons_zero, Act.put, List.setIfInBounds_toArray, List.set_cons_zero, List.set_cons_succ]
            refine wpAnyH_take (i := 17) (v := ?_) rfl (by kernel_rfl) (by kernel_rfl) (by kernel_rfl) (fun _ _ _ h => h) (Or.inl ⟨by rfl, ?_⟩) (by assumption) ?_
            rotate_left
            · (intro w hSw; (try dsimp only at hSw); go_simp; first | done | (with_reducible rfl))
            try simp only [List.getElem_toArray, List.getElem_cons_succ, List.getElem_cons_zero, Act.put, List.setIfInBounds_toArray, List.set_cons_zero, List.set_cons_succ]
            refine wpAnyH_take (i := 18) (v := ?_) rfl (by kernel_rfl) (by kernel_rfl) (by kernel_rfl) (fun _ _ _ h => h) (Or.inl ⟨by rfl, ?_⟩) (by assumption) ?_
            rotate_left
            · (intro w hSw; (try dsimp only at hSw); go_simp; first | done | (with_reducible rfl))
            try simp only [List.getElem_toArray, List.getElem_cons_succ, List.getElem_cons_zero, Act.put, List.setIfInBounds_toArray, List.set_cons_zero, List.set_cons_succ]
            refine wpAnyH_take (i := 19) (v := ?_) rfl (by kernel_rfl) (by kernel_rfl) (by kernel_rfl) (fun _ _ _ h => h) (Or.inl ⟨by rfl, ?_⟩) (by assumption) ?_
            rotate_left
            · (intro w hSw; (try dsimp only at hSw); go_simp; first | done | (with_reducible rfl))
            try simp only [List.getElem_toArray, List.getElem_cons_succ, List.getElem_cons_zero, Act.put, List.setIfInBounds_toArray, List.set_cons_zero, List.set_cons_succ]
            refine wpAnyH_take (i := 20) (v := .slice AP np cP) rfl (by kernel_rfl) (by kernel_rfl) (by kernel_rfl) (fun _ _ _ h => h) (Or.inl ⟨by rfl, fun w h => by have k0 := Blk.cell (show Blk w gm 43 #[.slice AP np cP, .int .i64 100, .int .u64 0, .int .u64 0] from (h.block _ HBP.out.lt).trans HBP.out) 0; simp at k0; go_simp⟩) (by assumption) ?_
            try simp only [List.getElem_toArray, List.getElem_cons_succ, List.getElem_cons_zero, Act.put, List.setIfInBounds_toArray, List.set_cons_zero, List.set_cons_succ]
            refine wpAnyH_take (i := 21) (v := ?_) rfl (by kernel_rfl) (by kernel_rfl) (by kernel_rfl) (fun _ _ _ h => h) (Or.inl ⟨by rfl, ?_⟩) (by assumption) ?_
            rotate_left
            · (intro w hSw; (try dsimp only at hSw); go_simp; first | done | (with_reducible rfl))
            try simp only [List.getElem_toArray, List.getElem_cons_succ, List.getElem_cons_zero, Act.put, List.setIfInBounds_toArray, List.set_cons_zero, List.set_cons_succ]
            refine wpAnyH_ready (rs := [16]) (by kernel_rfl) (by simp) ?_
            refine AllReadyH.cons rfl (fun K' hK' => ?_) AllReadyH.nil
            go_simp
            go_at_call 33
            refine (pages_any _ _ L9 _ (HLX.out.fr (Fr.of_below (S := fun _ => False) hHeld)) (by have := HLN.out; omega) HPX.out.cl.ok.Val).mono ?_
            rintro e1 wd ⟨rfl, hfd⟩
            rw [HPX.out.pages, HPN9E.out]
            have hS1 := Fr.below hHeld hfd (fun _ _ => id)
            clear hfd
            clear hHeld
            refine hK'.out _ _ hS1 (fun hHeld => ?_)
            clear hK' K' hS1
            try simp only [List.getElem_toArray, List.getElem_cons_succ, List.getElem_cons_zero, Act.put, List.setIfInBounds_toArray, List.set_cons_zero, List.set_cons_succ]
            refine wpAnyH_take (i := 22) (v := ?_) rfl (by kernel_rfl) (by kernel_rfl) (by kernel_rfl) (fun _ _ _ h => h) (Or.inl ⟨by rfl, ?_⟩) (by assumption) ?_
            rotate_left
            · (intro w hSw; (try dsimp only at hSw); go_simp; first | done | (with_reducible rfl))
            try simp only [List.getElem_toArray, List.getElem_cons_succ, List.getElem_cons_zero, Act.put, List.setIfInBounds_toArray, List.set_cons_zero, List.set_cons_succ]
            refine wpAnyH_take (i := 23) (v := ?_) rfl (by kernel_rfl) (by kernel_rfl) (by kernel_rfl) (fun _ _ _ h => h) (Or.inl ⟨by rfl, ?_⟩) (by assumption) ?_
            rotate_left
            · (intro w hSw; (try dsimp only at hSw); go_simp; first | done | (with_reducible rfl))
            try simp only [List.getElem_toArray, List.getElem_cons_succ, List.getElem_cons_zero, Act.put, List.setIfInBounds_toArray, List.set_cons_zero, List.set_cons_succ]
            refine wpAnyH_done (by kernel_rfl) ?_ _
            refine NoPanic.normal ?_
            have HWX := Lib.hid (Fr.of_below (S := fun _ => False) hHeld)
            clear hHeld
            go_wp2_with fail
            go_roundg (n - (k + 1))
            case measure => (have := HK2.out.1; have := HK2.out.2.1; omega)
            case rel => exact Lib.hid ⟨k + 1, L9, P9, by go_num, by omega, by have := HK2.out.2.2; omega, by omega, HLX.out.fr HWX.out, HSX.out.fr HWX.out, HPX.out, HPB.out, HFXX.out.trans HWX.out (fun _ _ => id)⟩
          · have d1 : (d == 1) = false := beq_eq_false_iff_ne.2 hd1
            by_cases hd2 : d = 2
            · subst hd2
              clear hd1
              go_wp2_with fail
              refine (HSP.out _).mono ?_
              rintro x w5 ⟨rfl, hf5⟩
              have HB5 := Lib.hid (HB4.out.fr hf5 id)
              have HL5 := Lib.hid (HL4.out.fr hf5)
              have HS5 := Lib.hid (HS4.out.fr hf5)
              have HF5 := Lib.hid (HF4.out.trans hf5 (fun _ _ => id))
              have x0 := HB5.out.cell 0
              have x3 := HB5.out.cell 3
              simp at x0 x3
              clear hf5
              go_wp2_with fail
              refine (unmap_any _ _ L s e ⟨HAN.out.2.2.2.2.2.2.1, HAN.out.2.2.2.2.2.2.2.1⟩ ⟨HAN.out.2.2.2.2.2.2.2.2.1, HAN.out.2.2.2.2.2.2.2.2.2⟩ _ HL5.out (by have := HP.out.len; have := HPL.out; omega)).mono ?_
              rintro x w6 ⟨rfl, hl6, hf6⟩
              have HUM := Lib.hid (show unE L s e = 0 ∧ Pair (unL L s e) (withoutP s e P) from by
                have h := HP.out.unmap (a := A) (N := N) HAN.out.2.1 (by have := HAN.out.1; have := HAN.out.2.2.1; omega) (by have := HPL.out; omega)
                rwa [HAN.out.2.2.2.1, HAN.out.2.2.2.2.1] at h)
              rw [HUM.out.1]
              have HL6 := Lib.hid hl6
              have HS6 := Lib.hid (HS5.out.keep HL5.out hf6)
              have HF6 := Lib.hid (HF5.out.trans hf6 (fun i hi e => by omega))
              clear hl6 hf6 x0 x3
              go_wp2_with fail
              refine (HSP.out _).mono ?_
              rintro x w7 ⟨rfl, hf7⟩
              have HL7 := Lib.hid (HL6.out.fr hf7)
              have HS7 := Lib.hid (HS6.out.fr hf7)
              have HF7 := Lib.hid (HF6.out.trans hf7 (fun _ _ => id))
              clear hf7
              go_wp2_with fail
              refine (unmapP_any w.heap.size gm P A N s e Z HAN.out.2.2.2.1 HAN.out.2.2.2.2.1 HAN.out.2.2.2.2.2.1 HAN.out.2.1 (by have := HAN.out.1; have := HAN.out.2.2.1; omega) _ HS7.out HF7.out.size HP.out.sm (by have := HPL.out; omega)).mono ?_
              rintro x w8 ⟨rfl, hs8, hf8⟩
              have HS8 := Lib.hid hs8
              have HL8 := Lib.hid (HL7.out.keep HS7.out hf8)
              have HF8 := Lib.hid (HF7.out.trans hf8 (fun i hi e => by have := HS7.out.gb; omega))
              clear hs8 hf8
              have HLX := Lib.hid (HL8.out)
              have HSX := Lib.hid (HS8.out)
              have HPX := Lib.hid (HUM.out.2)
              have HPB := Lib.hid (show ∀ x ∈ withoutP s e P, x.n < 71 from fun x hx => HPN.out x (List.mem_filter.1 hx).1)
              have HFXX := Lib.hid (HF8.out)
              obtain ⟨L9, hL9⟩ : ∃ L9, unL L s e = L9 := ⟨_, rfl⟩
              obtain ⟨P9, hP9⟩ : ∃ P9, withoutP s e P = P9 := ⟨_, rfl⟩
              rw [hL9] at HLX HPX
              rw [hP9] at HSX HPX HPB
              clear hL9 hP9
              obtain ⟨vP, hbP, hrP⟩ := HSX.out.row
              obtain ⟨AP, cP, rfl, _, _⟩ := hrP.form
              obtain ⟨np, hnp⟩ : ∃ np, P9.length = np := ⟨_, rfl⟩
              have HPN9E := Lib.hid hnp
              have HPN9 := Lib.hid (small_len HPX.out.ok HPX.out.sm HPB.out)
              rw [hnp] at hbP
              have HBP := Lib.hid hbP
              have HRP := Lib.hid hrP
              rw [hnp] at HRP
              have HLN := Lib.hid (show L9.length ≤ 71 from by have := HPX.out.len; have := HPN9.out; omega)
              obtain ⟨nl, hnl⟩ : ∃ nl, L9.length = nl := ⟨_, rfl⟩
              have HLN9 := Lib.hid hnl
              clear hbP hrP hnp hnl
              go_wp2_with fail
              refine wp_region_noPanic ?_
              refine wp_region_held_drew (S := (fun w' => Below w8.heap.size w8 w')) (by kernel_rfl) ?_ (fun hHeld => ?_)
              · exact below_drew (Below.refl _ _)
              refine wpAnyH_take (i := 0) (v := ?_) rfl (by kernel_rfl) (by kernel_rfl) (by kernel_rfl) (fun _ _ _ h => h) (Or.inl ⟨by rfl, ?_⟩) (by assumption) ?_
              rotate_left
              · (intro w hSw; (try dsimp only at hSw); go_simp; first | done | (with_reducible rfl))
              try simp only [List.getElem_toArray, List.getElem_cons_succ, List.getElem_cons_zero, Act.put, List.setIfInBounds_toArray, List.set_cons_zero, List.set_cons_succ]
              refine wpAnyH_take (i := 1) (v := ?_) rfl (by kernel_rfl) (by kernel_rfl) (by kernel_rfl) (fun _ _ _ h => h) (Or.inl ⟨by rfl, ?_⟩) (by assumption) ?_
              rotate_left
              · (intro w hSw; (try dsimp only at hSw); go_simp; first | done | (with_reducible rfl))
              try simp only [List.getElem_toArray, List.getElem_cons_succ, List.getElem_cons_zero, Act.put, List.setIfInBounds_toArray, List.set_cons_zero, List.set_cons_succ]
              refine wpAnyH_take (i := 2) (v := ?_) rfl (by kernel_rfl) (by kernel_rfl) (by kernel_rfl) (fun _ _ _ h => h) (Or.inl ⟨by rfl, ?_⟩) (by assumption) ?_
              rotate_left
              · (intro w hSw; (try dsimp only at hSw); go_simp; first | done | (with_reducible rfl))
              try simp only [List.getElem_toArray, List.getElem_cons_succ, List.getElem_cons_zero, Act.put, List.setIfInBounds_toArray, List.set_cons_zero, List.set_cons_succ]
              refine wpAnyH_take (i := 3) (v := ?_) rfl (by kernel_rfl) (by kernel_rfl) (by kernel_rfl) (fun _ _ _ h => h) (Or.inl ⟨by rfl, ?_⟩) (by assumption) ?_
              rotate_left
              · (intro w hSw; (try dsimp only at hSw); go_simp; first | done | (with_reducible rfl))
              try simp only [List.getElem_toArray, List.getElem_cons_succ, List.getElem_cons_zero, Act.put, List.setIfInBounds_toArray, List.set_cons_zero, List.set_cons_succ]
              refine wpAnyH_take (i := 4) (v := ?_) rfl (by kernel_rfl) (by kernel_rfl) (by kernel_rfl) (fun _ _ _ h => h) (Or.inl ⟨by rfl, ?_⟩) (by assumption) ?_
              rotate_left
              · (intro w hSw; (try dsimp only at hSw); go_simp; first | done | (with_reducible rfl))
              try simp only [List.getElem_toArray, List.getElem_cons_succ, List.getElem_cons_zero, Act.put, List.setIfInBounds_toArray, List.set_cons_zero, List.set_cons_succ]
              refine wpAnyH_take (i := 6) (v := ?_) rfl (by kernel_rfl) (by kernel_rfl) (by kernel_rfl) (fun _ _ _ h => h) (Or.inl ⟨by rfl, ?_⟩) (by assumption) ?_
              rotate_left
              · (intro w hSw; (try dsimp only at hSw); go_simp; first | done | (with_reducible rfl))
              try simp only [List.getElem_toArray, List.getElem_cons_succ, List.getElem_cons_zero, Act.put, List.setIfInBounds_toArray, List.set_cons_zero, List.set_cons_succ]
              refine wpAnyH_take (i := 7) (v := ?_) rfl (by kernel_rfl) (by kernel_rfl) (by kernel_rfl) (fun _ _ _ h => h) (Or.inl ⟨by rfl, ?_⟩) (by assumption) ?_
              rotate_left
              · (intro w hSw; (try dsimp only at hSw); go_simp; first | done | (with_reducible rfl))
              try simp only [List.getElem_toArray, List.getElem_cons_succ, List.getElem_cons_zero, Act.put, List.setIfInBounds_toArray, List.set_cons_zero, List.set_cons_succ]
              refine wpAnyH_take (i := 8) (v := ?_) rfl (by kernel_rfl) (by kernel_rfl) (by kernel_rfl) (fun _ _ _ h => h) (Or.inl ⟨by rfl, ?_⟩) (by assumption) ?_
              rotate_left
              · (intro w hSw; (try dsimp only at hSw); go_simp; first | done | (with_reducible rfl))
              try simp only [List.getElem_toArray, List.getElem_cons_succ, List.getElem_cons_zero, Act.put, List.setIfInBounds_toArray, List.set_cons_zero, List.set_cons_succ]
              refine wpAnyH_take (i := 9) (v := .slice AP np cP) rfl (by kernel_rfl) (by kernel_rfl) (by kernel_rfl) (fun _ _ _ h => h) (Or.inl ⟨by rfl, fun w h => by have k0 := Blk.cell (show Blk w gm 43 #[.slice AP np cP, .int .i64 100, .int .u64 0, .int .u64 0] from (h.block _ HBP.out.lt).trans HBP.out) 0; simp at k0; go_simp⟩) (by assumption) ?_
              try simp only [List.getElem_toArray, List.getElem_cons_succ, List.getElem_cons_zero, Act.put, List.setIfInBounds_toArray, List.set_cons_zero, List.set_cons_succ]
              refine wpAnyH_ready (rs := [5]) (by kernel_rfl) (by simp) ?_
              refine AllReadyH.cons rfl (fun K' hK' => ?_) AllReadyH.nil
              go_simp
              go_at_call 23
              refine (all_any _ _ L9 _ (HLX.out.fr (Fr.of_below (S := fun _ => False) hHeld)) (by have := HLN.out; omega)).mono ?_
              rintro e1 wa ⟨va, rfl, hoa, hfa⟩
              obtain ⟨Aa, ca, rfl, _, _⟩ := hoa.form
              have HOa := Lib.hid hoa
              have hS1 := Fr.below hHeld hfa (fun _ _ => id)
              rw [HLN9.out]
              clear hoa hfa
              clear hHeld
              refine hK'.out _ _ hS1 (fun hHeld => ?_)
              clear hK' K' hS1
              try simp only [List.getElem_toArray, List.getElem_cons_succ, List.getElem_cons_zero, Act.put, List.setIfInBounds_toArray, List.set_cons_zero, List.set_cons_succ]
              refine wpAnyH_ready (rs := [10]) (by kernel_rfl) (by simp) ?_
              refine AllReadyH.cons rfl (fun K' hK' => ?_) AllReadyH.nil
              go_simp
              go_at_call 17
              refine (regions_any _ P9 _ _ (HRP.out.fr (Fr.of_below (S := fun _ => False) hHeld) (fun _ _ => id)) (by have := HPN9.out; omega) HPX.out.sm).mono ?_
              rintro e1 wb ⟨vb, rfl, hob, hbb⟩
              rw [HPX.out.regs] at hob
              obtain ⟨Ab, cb, rfl, _, _⟩ := hob.form
              have HOb := Lib.hid hob
              have HOa2 := Lib.hid (HOa.out.fr (Fr.of_below (S := fun _ => False) hbb) (fun _ _ => id))
              clear HOa
              have HOa := HOa2
              clear HOa2
              have hS1 := Fr.below hHeld (Fr.of_below (S := fun _ => False) hbb) (fun _ _ => id)
              rw [HLN9.out]
              clear hob hbb
              clear hHeld
              refine hK'.out _ _ hS1 (fun hHeld => ?_)
              clear hK' K' hS1
              try simp only [List.getElem_toArray, List.getElem_cons_succ, List.getElem_cons_zero, Act.put, List.setIfInBounds_toArray, List.set_cons_zero, List.set_cons_succ]
              refine wpAnyH_ready (rs := [11]) (by kernel_rfl) (by simp) ?_
              refine AllReadyH.cons rfl (fun K' hK' => ?_) AllReadyH.nil
              go_simp
              go_at_call 32
              have hoa := HOa.out
              have hob := HOb.out
              rw [HLN9.out] at hoa hob
              refine (same_any _ _ L9 _ _ _ hoa hob (by have := HLN.out; omega)).mono ?_
              rintro e1 wc ⟨rfl, hfc⟩
              have hS1 := Fr.below hHeld hfc (fun _ _ => id)
              clear hfc hoa hob
              clear hHeld
              refine hK'.out _ _ hS1 (fun hHeld => ?_)
              clear hK' K' hS1
              try simp only [List.getElem_toArray, List.getElem_cons_succ, List.getElem_cons_zero, Act.put, List.setIfInBounds_toArray, List.set_cons_zero, List.set_cons_succ]
              refine wpAnyH_take (i := 12) (v := ?_) rfl (by kernel_rfl) (by kernel_rfl) (by kernel_rfl) (fun _ _ _ h => h) (Or.inl ⟨by rfl, ?_⟩) (by assumption) ?_
              rotate_left
              · (intro w hSw; (try dsimp only at hSw); go_simp; first | done | (with_reducible rfl))
              try simp only [List.getElem_toArray, List.getElem_cons_succ, List.getElem_cons_zero, Act.put, List.setIfInBounds_toArray, List.set_cons_zero, List.set_cons_succ]
              refine wpAnyH_take (i := 13) (v := ?_) rfl (by kernel_rfl) (by kernel_rfl) (by kernel_rfl) (fun _ _ _ h => h) (Or.inl ⟨by rfl, ?_⟩) (by assumption) ?_
              rotate_left
              · (intro w hSw; (try dsimp only at hSw); go_simp; first | done | (with_reducible rfl))
              try simp only [List.getElem_toArray, List.getElem_cons_succ, List.getElem_cons_zero, Act.put, List.setIfInBounds_toArray, List.set_cons_zero, List.set_cons_succ]
              refine wpAnyH_take (i := 14) (v := ?_) rfl (by kernel_rfl) (by kernel_rfl) (by kernel_rfl) (fun _ _ _ h => h) (Or.inl ⟨by rfl, ?_⟩) (by assumption) ?_
              rotate_left
              · (intro w hSw; (try dsimp only at hSw); go_simp; first | done | (with_reducible rfl))
              try simp only [List.getElem_toArray, List.getElem_cons_succ, List.getElem_cons_zero, Act.put, List.setIfInBounds_toArray, List.set_cons_zero, List.set_cons_succ]
              refine wpAnyH_take (i := 15) (v := ?_) rfl (by kernel_rfl) (by kernel_rfl) (by kernel_rfl) (fun _ _ _ h => h) (Or.inl ⟨by rfl, ?_⟩) (by assumption) ?_
              rotate_left
              · (intro w hSw; (try dsimp only at hSw); go_simp; first | done | (with_reducible rfl))
              try simp only [List.getElem_toArray, List.getElem_cons_succ, List.getElem_cons_zero, Act.put, List.setIfInBounds_toArray, List.set_cons_zero, List.set_cons_succ]
              refine wpAnyH_take (i := 17) (v := ?_) rfl (by kernel_rfl) (by kernel_rfl) (by kernel_rfl) (fun _ _ _ h => h) (Or.inl ⟨by rfl, ?_⟩) (by assumption) ?_
              rotate_left
              · (intro w hSw; (try dsimp only at hSw); go_simp; first | done | (with_reducible rfl))
              try simp only [List.getElem_toArray, List.getElem_cons_succ, List.getElem_cons_zero, Act.put, List.setIfInBounds_toArray, List.set_cons_zero, List.set_cons_succ]
              refine wpAnyH_take (i := 18) (v := ?_) rfl (by kernel_rfl) (by kernel_rfl) (by kernel_rfl) (fun _ _ _ h => h) (Or.inl ⟨by rfl, ?_⟩) (by assumption) ?_
              rotate_left
              · (intro w hSw; (try dsimp only at hSw); go_simp; first | done | (with_reducible rfl))
              try simp only [List.getElem_toArray, List.getElem_cons_succ, List.getElem_cons_zero, Act.put, List.setIfInBounds_toArray, List.set_cons_zero, List.set_cons_succ]
              refine wpAnyH_take (i := 19) (v := ?_) rfl (by kernel_rfl) (by kernel_rfl) (by kernel_rfl) (fun _ _ _ h => h) (Or.inl ⟨by rfl, ?_⟩) (by assumption) ?_
              rotate_left
              · (intro w hSw; (try dsimp only at hSw); go_simp; first | done | (with_reducible rfl))
              try simp only [List.getElem_toArray, List.getElem_cons_succ, List.getElem_cons_zero, Act.put, List.setIfInBounds_toArray, List.set_cons_zero, List.set_cons_succ]
              refine wpAnyH_take (i := 20) (v := .slice AP np cP) rfl (by kernel_rfl) (by kernel_rfl) (by kernel_rfl) (fun _ _ _ h => h) (Or.inl ⟨by rfl, fun w h => by have k0 := Blk.cell (show Blk w gm 43 #[.slice AP np cP, .int .i64 100, .int .u64 0, .int .u64 0] from (h.block _ HBP.out.lt).trans HBP.out) 0; simp at k0; go_simp⟩) (by assumption) ?_
              try simp only [List.getElem_toArray, List.getElem_cons_succ, List.getElem_cons_zero, Act.put, List.setIfInBounds_toArray, List.set_cons_zero, List.set_cons_succ]
              refine wpAnyH_take (i := 21) (v := ?_) rfl (by kernel_rfl) (by kernel_rfl) (by kernel_rfl) (fun _ _ _ h => h) (Or.inl ⟨by rfl, ?_⟩) (by assumption) ?_
              rotate_left
              · (intro w hSw; (try dsimp only at hSw); go_simp; first | done | (with_reducible rfl))
              try simp only [List.getElem_toArray, List.getElem_cons_succ, List.getElem_cons_zero, Act.put, List.setIfInBounds_toArray, List.set_cons_zero, List.set_cons_succ]
              refine wpAnyH_ready (rs := [16]) (by kernel_rfl) (by simp) ?_
              refine AllReadyH.cons rfl (fun K' hK' => ?_) AllReadyH.nil
              go_simp
              go_at_call 33
              refine (pages_any _ _ L9 _ (HLX.out.fr (Fr.of_below (S := fun _ => False) hHeld)) (by have := HLN.out; omega) HPX.out.cl.ok.Val).mono ?_
              rintro e1 wd ⟨rfl, hfd⟩
              rw [HPX.out.pages, HPN9E.out]
              have hS1 := Fr.below hHeld hfd (fun _ _ => id)
              clear hfd
              clear hHeld
              refine hK'.out _ _ hS1 (fun hHeld => ?_)
              clear hK' K' hS1
              try simp only [List.getElem_toArray, List.getElem_cons_succ, List.getElem_cons_zero, Act.put, List.setIfInBounds_toArray, List.set_cons_zero, List.set_cons_succ]
              refine wpAnyH_take (i := 22) (v := ?_) rfl (by kernel_rfl) (by kernel_rfl) (by kernel_rfl) (fun _ _ _ h => h) (Or.inl ⟨by rfl, ?_⟩) (by assumption) ?_
              rotate_left
              · (intro w hSw; (try dsimp only at hSw); go_simp; first | done | (with_reducible rfl))
              try simp only [List.getElem_toArray, List.getElem_cons_succ, List.getElem_cons_zero, Act.put, List.setIfInBounds_toArray, List.set_cons_zero, List.set_cons_succ]
              refine wpAnyH_take (i := 23) (v := ?_) rfl (by kernel_rfl) (by kernel_rfl) (by kernel_rfl) (fun _ _ _ h => h) (Or.inl ⟨by rfl, ?_⟩) (by assumption) ?_
              rotate_left
              · (intro w hSw; (try dsimp only at hSw); go_simp; first | done | (with_reducible rfl))
              try simp only [List.getElem_toArray, List.getElem_cons_succ, List.getElem_cons_zero, Act.put, List.setIfInBounds_toArray, List.set_cons_zero, List.set_cons_succ]
              refine wpAnyH_done (by kernel_rfl) ?_ _
              refine NoPanic.normal ?_
              have HWX := Lib.hid (Fr.of_below (S := fun _ => False) hHeld)
              clear hHeld
              go_wp2_with fail
              go_roundg (n - (k + 1))
              case measure => (have := HK2.out.1; have := HK2.out.2.1; omega)
              case rel => exact Lib.hid ⟨k + 1, L9, P9, by go_num, by omega, by have := HK2.out.2.2; omega, by omega, HLX.out.fr HWX.out, HSX.out.fr HWX.out, HPX.out, HPB.out, HFXX.out.trans HWX.out (fun _ _ => id)⟩
            · have d2 : (d == 2) = false := beq_eq_false_iff_ne.2 hd2
              by_cases hd3 : d = 3
              · subst hd3
                clear hd1 hd2
                go_wp2_with fail
                refine (HSP.out _).mono ?_
                rintro x w5 ⟨rfl, hf5⟩
                have HB5 := Lib.hid (HB4.out.fr hf5 id)
                have HL5 := Lib.hid (HL4.out.fr hf5)
                have HS5 := Lib.hid (HS4.out.fr hf5)
                have HF5 := Lib.hid (HF4.out.trans hf5 (fun _ _ => id))
                have x0 := HB5.out.cell 0
                have x3 := HB5.out.cell 3
                simp at x0 x3
                clear hf5
                go_wp2_with fail
                refine (protect_any _ _ L s e p ⟨HAN.out.2.2.2.2.2.2.1, HAN.out.2.2.2.2.2.2.2.1⟩ ⟨HAN.out.2.2.2.2.2.2.2.2.1, HAN.out.2.2.2.2.2.2.2.2.2⟩ _ HL5.out (by have := HP.out.len; have := HPL.out; omega)).mono ?_
                rintro x w6 ⟨y6, l6, rfl, hp6, hl6, hf6⟩
                have HL6 := Lib.hid hl6
                have HS6 := Lib.hid (HS5.out.keep HL5.out hf6)
                have HF6 := Lib.hid (HF5.out.trans hf6 (fun i hi e => by omega))
                have HB6 := Lib.hid (HB5.out.fr hf6 (fun e => by obtain ⟨vv, hvv, _⟩ := HL5.out.row; exact (HB5.out.ne hvv (by decide)) e))
                have y3 := HB6.out.cell 3
                simp at y3
                rw [← HAN.out.2.2.2.1, ← HAN.out.2.2.2.2.1] at hp6
                have hpp := HP.out.prot HAN.out.2.1 (by have := HAN.out.1; have := HAN.out.2.2.1; omega) HPP.out (by have := HPL.out; omega) hp6
                have hcnt := count_all HP.out.ok A N
                rw [HAN.out.2.2.2.1, HAN.out.2.2.2.2.1] at hpp hcnt
                have HPP2 := Lib.hid hpp
                have HPQ := Lib.hid (fun q hq ww (hs : Spc ww w.heap.size gm P) hB => protP2_any w.heap.size gm P A N s e Z p HAN.out.2.2.2.1 HAN.out.2.2.2.2.1 HAN.out.2.2.2.2.2.1 HAN.out.2.1 (by have := HAN.out.1; have := HAN.out.2.2.1; omega) HPP.out ww hs hB HP.out.sm (by have := HPL.out; omega) q hq)
                clear hl6 hf6 x0 x3 hp6 hpp
                by_cases hall : (P.length : Int) - ((withoutP s e P).length : Int) = (N : Int)
                · obtain ⟨rfl, hpair⟩ := HPP2.out.1 (hcnt.1 hall)
                  have HPR := Lib.hid hpair
                  have HQ := Lib.hid (HPQ.out true (decide_eq_true hall))
                  simp only [cond_true] at HQ
                  clear hall hcnt hpair
                  go_wp2_with fail
                  refine (HQ.out _ HS6.out HF6.out.size).mono ?_
                  rintro x w7 ⟨rfl, hs7, hf7⟩
                  have HS7 := Lib.hid hs7
                  have HL7 := Lib.hid (HL6.out.keep HS6.out hf7)
                  have HF7 := Lib.hid (HF6.out.trans hf7 (fun i hi e => by have := HS6.out.gb; omega))
                  have HPB7 := Lib.hid (show ∀ x ∈ setP s e p P, x.n < 71 from fun z hz => by
                    obtain ⟨x, hx, rfl⟩ := List.mem_map.1 hz
                    have h1 := HPN.out x hx
                    by_cases ho : outB s e x = true
                    · rw [if_pos ho]; exact h1
                    · rw [if_neg ho]; exact h1)
                  clear hs7 hf7 y3
                  have HLX := Lib.hid (HL7.out)
                  have HSX := Lib.hid (HS7.out)
                  have HPX := Lib.hid (HPR.out)
                  have HPB := Lib.hid (HPB7.out)
                  have HFXX := Lib.hid (HF7.out)
                  obtain ⟨L9, hL9⟩ : ∃ L9, l6 = L9 := ⟨_, rfl⟩
                  obtain ⟨P9, hP9⟩ : ∃ P9, setP s e p P = P9 := ⟨_, rfl⟩
                  rw [hL9] at HLX HPX
                  rw [hP9] at HSX HPX HPB
                  clear hL9 hP9
                  obtain ⟨vP, hbP, hrP⟩ := HSX.out.row
                  obtain ⟨AP, cP, rfl, _, _⟩ := hrP.form
                  obtain ⟨np, hnp⟩ : ∃ np, P9.length = np := ⟨_, rfl⟩
                  have HPN9E := Lib.hid hnp
                  have HPN9 := Lib.hid (small_len HPX.out.ok HPX.out.sm HPB.out)
                  rw [hnp] at hbP
                  have HBP := Lib.hid hbP
                  have HRP := Lib.hid hrP
                  rw [hnp] at HRP
                  have HLN := Lib.hid (show L9.length ≤ 71 from by have := HPX.out.len; have := HPN9.out; omega)
                  obtain ⟨nl, hnl⟩ : ∃ nl, L9.length = nl := ⟨_, rfl⟩
                  have HLN9 := Lib.hid hnl
                  clear hbP hrP hnp hnl
                  go_wp2_with fail
                  refine wp_region_noPanic ?_
                  refine wp_region_held_drew (S := (fun w' => Below w7.heap.size w7 w')) (by kernel_rfl) ?_ (fun hHeld => ?_)
                  · exact below_drew (Below.refl _ _)
                  refine wpAnyH_take (i := 0) (v := ?_) rfl (by kernel_rfl) (by kernel_rfl) (by kernel_rfl) (fun _ _ _ h => h) (Or.inl ⟨by rfl, ?_⟩) (by assumption) ?_
                  rotate_left
                  · (intro w hSw; (try dsimp only at hSw); go_simp; first | done | (with_reducible rfl))
                  try simp only [List.getElem_toArray, List.getElem_cons_succ, List.getElem_cons_zero, Act.put, List.setIfInBounds_toArray, List.set_cons_zero, List.set_cons_succ]
                  refine wpAnyH_take (i := 1) (v := ?_) rfl (by kernel_rfl) (by kernel_rfl) (by kernel_rfl) (fun _ _ _ h => h) (Or.inl ⟨by rfl, ?_⟩) (by assumption) ?_
                  rotate_left
                  · (intro w hSw; (try dsimp only at hSw); go_simp; first | done | (with_reducible rfl))
                  try simp only [List.getElem_toArray, List.getElem_cons_succ, List.getElem_cons_zero, Act.put, List.setIfInBounds_toArray, List.set_cons_zero, List.set_cons_succ]
                  refine wpAnyH_take (i := 2) (v := ?_) rfl (by kernel_rfl) (by kernel_rfl) (by kernel_rfl) (fun _ _ _ h => h) (Or.inl ⟨by rfl, ?_⟩) (by assumption) ?_
                  rotate_left
                  · (intro w hSw; (try dsimp only at hSw); go_simp; first | done | (with_reducible rfl))
                  try simp only [List.getElem_toArray, List.getElem_cons_succ, List.getElem_cons_zero, Act.put, List.setIfInBounds_toArray, List.set_cons_zero, List.set_cons_succ]
                  refine wpAnyH_take (i := 3) (v := ?_) rfl (by kernel_rfl) (by kernel_rfl) (by kernel_rfl) (fun _ _ _ h => h) (Or.inl ⟨by rfl, ?_⟩) (by assumption) ?_
                  rotate_left
                  · (intro w hSw; (try dsimp only at hSw); go_simp; first | done | (with_reducible rfl))
                  try simp only [List.getElem_toArray, List.getElem_cons_succ, List.getElem_cons_zero, Act.put, List.setIfInBounds_toArray, List.set_cons_zero, List.set_cons_succ]
                  refine wpAnyH_take (i := 4) (v := ?_) rfl (by kernel_rfl) (by kernel_rfl) (by kernel_rfl) (fun _ _ _ h => h) (Or.inl ⟨by rfl, ?_⟩) (by assumption) ?_
                  rotate_left
                  · (intro w hSw; (try dsimp only at hSw); go_simp; first | done | (with_reducible rfl))
                  try simp only [List.getElem_toArray, List.getElem_cons_succ, List.getElem_cons_zero, Act.put, List.setIfInBounds_toArray, List.set_cons_zero, List.set_cons_succ]
                  refine wpAnyH_take (i := 6) (v := ?_) rfl (by kernel_rfl) (by kernel_rfl) (by kernel_rfl) (fun _ _ _ h => h) (Or.inl ⟨by rfl, ?_⟩) (by assumption) ?_
                  rotate_left
                  · (intro w hSw; (try dsimp only at hSw); go_simp; first | done | (with_reducible rfl))
                  try simp only [List.getElem_toArray, List.getElem_cons_succ, List.getElem_cons_zero, Act.put, List.setIfInBounds_toArray, List.set_cons_zero, List.set_cons_succ]
                  refine wpAnyH_take (i := 7) (v := ?_) rfl (by kernel_rfl) (by kernel_rfl) (by kernel_rfl) (fun _ _ _ h => h) (Or.inl ⟨by rfl, ?_⟩) (by assumption) ?_
                  rotate_left
                  · (intro w hSw; (try dsimp only at hSw); go_simp; first | done | (with_reducible rfl))
                  try simp only [List.getElem_toArray, List.getElem_cons_succ, List.getElem_cons_zero, Act.put, List.setIfInBounds_toArray, List.set_cons_zero, List.set_cons_succ]
                  refine wpAnyH_take (i := 8) (v := ?_) rfl (by kernel_rfl) (by kernel_rfl) (by kernel_rfl) (fun _ _ _ h => h) (Or.inl ⟨by rfl, ?_⟩) (by assumption) ?_
                  rotate_left
                  · (intro w hSw; (try dsimp only at hSw); go_simp; first | done | (with_reducible rfl))
                  try simp only [List.getElem_toArray, List.getElem_cons_succ, List.getElem_cons_zero, Act.put, List.setIfInBounds_toArray, List.set_cons_zero, List.set_cons_succ]
                  refine wpAnyH_take (i := 9) (v := .slice AP np cP) rfl (by kernel_rfl) (by kernel_rfl) (by kernel_rfl) (fun _ _ _ h => h) (Or.inl ⟨by rfl, fun w h => by have k0 := Blk.cell (show Blk w gm 43 #[.slice AP np cP, .int .i64 100, .int .u64 0, .int .u64 0] from (h.block _ HBP.out.lt).trans HBP.out) 0; simp at k0; go_simp⟩) (by assumption) ?_
                  try simp only [List.getElem_toArray, List.getElem_cons_succ, List.getElem_cons_zero, Act.put, List.setIfInBounds_toArray, List.set_cons_zero, List.set_cons_succ]
                  refine wpAnyH_ready (rs := [5]) (by kernel_rfl) (by simp) ?_
                  refine AllReadyH.cons rfl (fun K' hK' => ?_) AllReadyH.nil
                  go_simp
                  go_at_call 23
                  refine (all_any _ _ L9 _ (HLX.out.fr (Fr.of_below (S := fun _ => False) hHeld)) (by have := HLN.out; omega)).mono ?_
                  rintro e1 wa ⟨va, rfl, hoa, hfa⟩
                  obtain ⟨Aa, ca, rfl, _, _⟩ := hoa.form
                  have HOa := Lib.hid hoa
                  have hS1 := Fr.below hHeld hfa (fun _ _ => id)
                  rw [HLN9.out]
                  clear hoa hfa
                  clear hHeld
                  refine hK'.out _ _ hS1 (fun hHeld => ?_)
                  clear hK' K' hS1
                  try simp only [List.getElem_toArray, List.getElem_cons_succ, List.getElem_cons_zero, Act.put, List.setIfInBounds_toArray, List.set_cons_zero, List.set_cons_succ]
                  refine wpAnyH_ready (rs := [10]) (by kernel_rfl) (by simp) ?_
                  refine AllReadyH.cons rfl (fun K' hK' => ?_) AllReadyH.nil
                  go_simp
                  go_at_call 17
                  refine (regions_any _ P9 _ _ (HRP.out.fr (Fr.of_below (S := fun _ => False) hHeld) (fun _ _ => id)) (by have := HPN9.out; omega) HPX.out.sm).mono ?_
                  rintro e1 wb ⟨vb, rfl, hob, hbb⟩
                  rw [HPX.out.regs] at hob
                  obtain ⟨Ab, cb, rfl, _, _⟩ := hob.form
                  have HOb := Lib.hid hob
                  have HOa2 := Lib.hid (HOa.out.fr (Fr.of_below (S := fun _ => False) hbb) (fun _ _ => id))
                  clear HOa
                  have HOa := HOa2
                  clear HOa2
                  have hS1 := Fr.below hHeld (Fr.of_below (S := fun _ => False) hbb) (fun _ _ => id)
                  rw [HLN9.out]
                  clear hob hbb
                  clear hHeld
                  refine hK'.out _ _ hS1 (fun hHeld => ?_)
                  clear hK' K' hS1
                  try simp only [List.getElem_toArray, List.getElem_cons_succ, List.getElem_cons_zero, Act.put, List.setIfInBounds_toArray, List.set_cons_zero, List.set_cons_succ]
                  refine wpAnyH_ready (rs := [11]) (by kernel_rfl) (by simp) ?_
                  refine AllReadyH.cons rfl (fun K' hK' => ?_) AllReadyH.nil
                  go_simp
                  go_at_call 32
                  have hoa := HOa.out
                  have hob := HOb.out
                  rw [HLN9.out] at hoa hob
                  refine (same_any _ _ L9 _ _ _ hoa hob (by have := HLN.out; omega)).mono ?_
                  rintro e1 wc ⟨rfl, hfc⟩
                  have hS1 := Fr.below hHeld hfc (fun _ _ => id)
                  clear hfc hoa hob
                  clear hHeld
                  refine hK'.out _ _ hS1 (fun hHeld => ?_)
                  clear hK' K' hS1
                  try simp only [List.getElem_toArray, List.getElem_cons_succ, List.getElem_cons_zero, Act.put, List.setIfInBounds_toArray, List.set_cons_zero, List.set_cons_succ]
                  refine wpAnyH_take (i := 12) (v := ?_) rfl (by kernel_rfl) (by kernel_rfl) (by kernel_rfl) (fun _ _ _ h => h) (Or.inl ⟨by rfl, ?_⟩) (by assumption) ?_
                  rotate_left
                  · (intro w hSw; (try dsimp only at hSw); go_simp; first | done | (with_reducible rfl))
                  try simp only [List.getElem_toArray, List.getElem_cons_succ, List.getElem_cons_zero, Act.put, List.setIfInBounds_toArray, List.set_cons_zero, List.set_cons_succ]
                  refine wpAnyH_take (i := 13) (v := ?_) rfl (by kernel_rfl) (by kernel_rfl) (by kernel_rfl) (fun _ _ _ h => h) (Or.inl ⟨by rfl, ?_⟩) (by assumption) ?_
                  rotate_left
                  · (intro w hSw; (try dsimp only at hSw); go_simp; first | done | (with_reducible rfl))
                  try simp only [List.getElem_toArray, List.getElem_cons_succ, List.getElem_cons_zero, Act.put, List.setIfInBounds_toArray, List.set_cons_zero, List.set_cons_succ]
                  refine wpAnyH_take (i := 14) (v := ?_) rfl (by kernel_rfl) (by kernel_rfl) (by kernel_rfl) (fun _ _ _ h => h) (Or.inl ⟨by rfl, ?_⟩) (by assumption) ?_
                  rotate_left
                  · (intro w hSw; (try dsimp only at hSw); go_simp; first | done | (with_reducible rfl))
                  try simp only [List.getElem_toArray, List.getElem_cons_succ, List.getElem_cons_zero, Act.put, List.setIfInBounds_toArray, List.set_cons_zero, List.set_cons_succ]
                  refine wpAnyH_take (i := 15) (v := ?_) rfl (by kernel_rfl) (by kernel_rfl) (by kernel_rfl) (fun _ _ _ h => h) (Or.inl ⟨by rfl, ?_⟩) (by assumption) ?_
                  rotate_left
                  · (intro w hSw; (try dsimp only at hSw); go_simp; first | done | (with_reducible rfl))
                  try simp only [List.getElem_toArray, List.getElem_cons_succ, List.getElem_cons_zero, Act.put, List.setIfInBounds_toArray, List.set_cons_zero, List.set_cons_succ]
                  refine wpAnyH_take (i := 17) (v := ?_) rfl (by kernel_rfl) (by kernel_rfl) (by kernel_rfl) (fun _ _ _ h => h) (Or.inl ⟨by rfl, ?_⟩) (by assumption) ?_
                  rotate_left
                  · (intro w hSw; (try dsimp only at hSw); go_simp; first | done | (with_reducible rfl))
                  try simp only [List.getElem_toArray, List.getElem_cons_succ, List.getElem_cons_zero, Act.put, List.setIfInBounds_toArray, List.set_cons_zero, List.set_cons_succ]
                  refine wpAnyH_take (i := 18) (v := ?_) rfl (by kernel_rfl) (by kernel_rfl) (by kernel_rfl) (fun _ _ _ h => h) (Or.inl ⟨by rfl, ?_⟩) (by assumption) ?_
                  rotate_left
                  · (intro w hSw; (try dsimp only at hSw); go_simp; first | done | (with_reducible rfl))
                  try simp only [List.getElem_toArray, List.getElem_cons_succ, List.getElem_cons_zero, Act.put, List.setIfInBounds_toArray, List.set_cons_zero, List.set_cons_succ]
                  refine wpAnyH_take (i := 19) (v := ?_) rfl (by kernel_rfl) (by kernel_rfl) (by kernel_rfl) (fun _ _ _ h => h) (Or.inl ⟨by rfl, ?_⟩) (by assumption) ?_
                  rotate_left
                  · (intro w hSw; (try dsimp only at hSw); go_simp; first | done | (with_reducible rfl))
                  try simp only [List.getElem_toArray, List.getElem_cons_succ, List.getElem_cons_zero, Act.put, List.setIfInBounds_toArray, List.set_cons_zero, List.set_cons_succ]
                  refine wpAnyH_take (i := 20) (v := .slice AP np cP) rfl (by kernel_rfl) (by kernel_rfl) (by kernel_rfl) (fun _ _ _ h => h) (Or.inl ⟨by rfl, fun w h => by have k0 := Blk.cell (show Blk w gm 43 #[.slice AP np cP, .int .i64 100, .int .u64 0, .int .u64 0] from (h.block _ HBP.out.lt).trans HBP.out) 0; simp at k0; go_simp⟩) (by assumption) ?_
                  try simp only [List.getElem_toArray, List.getElem_cons_succ, List.getElem_cons_zero, Act.put, List.setIfInBounds_toArray, List.set_cons_zero, List.set_cons_succ]
                  refine wpAnyH_take (i := 21) (v := ?_) rfl (by kernel_rfl) (by kernel_rfl) (by kernel_rfl) (fun _ _ _ h => h) (Or.inl ⟨by rfl, ?_⟩) (by assumption) ?_
                  rotate_left
                  · (intro w hSw; (try dsimp only at hSw); go_simp; first | done | (with_reducible rfl))
                  try simp only [List.getElem_toArray, List.getElem_cons_succ, List.getElem_cons_zero, Act.put, List.setIfInBounds_toArray, List.set_cons_zero, List.set_cons_succ]
                  refine wpAnyH_ready (rs := [16]) (by kernel_rfl) (by simp) ?_
                  refine AllReadyH.cons rfl (fun K' hK' => ?_) AllReadyH.nil
                  go_simp
                  go_at_call 33
                  refine (pages_any _ _ L9 _ (HLX.out.fr (Fr.of_below (S := fun _ => False) hHeld)) (by have := HLN.out; omega) HPX.out.cl.ok.Val).mono ?_
                  rintro e1 wd ⟨rfl, hfd⟩
                  rw [HPX.out.pages, HPN9E.out]
                  have hS1 := Fr.below hHeld hfd (fun _ _ => id)
                  clear hfd
                  clear hHeld
                  refine hK'.out _ _ hS1 (fun hHeld => ?_)
                  clear hK' K' hS1
                  try simp only [List.getElem_toArray, List.getElem_cons_succ, List.getElem_cons_zero, Act.put, List.setIfInBounds_toArray, List.set_cons_zero, List.set_cons_succ]
                  refine wpAnyH_take (i := 22) (v := ?_) rfl (by kernel_rfl) (by kernel_rfl) (by kernel_rfl) (fun _ _ _ h => h) (Or.inl ⟨by rfl, ?_⟩) (by assumption) ?_
                  rotate_left
                  · (intro w hSw; (try dsimp only at hSw); go_simp; first | done | (with_reducible rfl))
                  try simp only [List.getElem_toArray, List.getElem_cons_succ, List.getElem_cons_zero, Act.put, List.setIfInBounds_toArray, List.set_cons_zero, List.set_cons_succ]
                  refine wpAnyH_take (i := 23) (v := ?_) rfl (by kernel_rfl) (by kernel_rfl) (by kernel_rfl) (fun _ _ _ h => h) (Or.inl ⟨by rfl, ?_⟩) (by assumption) ?_
                  rotate_left
                  · (intro w hSw; (try dsimp only at hSw); go_simp; first | done | (with_reducible rfl))
                  try simp only [List.getElem_toArray, List.getElem_cons_succ, List.getElem_cons_zero, Act.put, List.setIfInBounds_toArray, List.set_cons_zero, List.set_cons_succ]
                  refine wpAnyH_done (by kernel_rfl) ?_ _
                  refine NoPanic.normal ?_
                  have HWX := Lib.hid (Fr.of_below (S := fun _ => False) hHeld)
                  clear hHeld
                  go_wp2_with fail
                  go_roundg (n - (k + 1))
                  case measure => (have := HK2.out.1; have := HK2.out.2.1; omega)
                  case rel => exact Lib.hid ⟨k + 1, L9, P9, by go_num, by omega, by have := HK2.out.2.2; omega, by omega, HLX.out.fr HWX.out, HSX.out.fr HWX.out, HPX.out, HPB.out, HFXX.out.trans HWX.out (fun _ _ => id)⟩
                · obtain ⟨rfl, hlL⟩ := HPP2.out.2 (fun h => hall (hcnt.2 h))
                  have hlL' := hlL.symm
                  clear hlL
                  subst hlL'
                  have HQ := Lib.hid (HPQ.out false (decide_eq_false hall))
                  simp only [cond_false] at HQ
                  clear hall hcnt
                  go_wp2_with fail
                  refine (HQ.out _ HS6.out HF6.out.size).mono ?_
                  rintro x w7 ⟨rfl, hs7, hf7⟩
                  have HS7 := Lib.hid hs7
                  have HL7 := Lib.hid (HL6.out.keep HS6.out hf7)
                  have HF7 := Lib.hid (HF6.out.trans hf7 (fun i hi e => by have := HS6.out.gb; omega))
                  clear hs7 hf7 y3
                  have HLX := Lib.hid (HL7.out)
                  have HSX := Lib.hid (HS7.out)
                  have HPX := Lib.hid (HP.out)
                  have HPB := Lib.hid (HPN.out)
                  have HFXX := Lib.hid (HF7.out)
                  obtain ⟨L9, hL9⟩ : ∃ L9, L = L9 := ⟨_, rfl⟩
                  obtain ⟨P9, hP9⟩ : ∃ P9, P = P9 := ⟨_, rfl⟩
                  rw [hL9] at HLX HPX
                  rw [hP9] at HSX HPX HPB
                  clear hL9 hP9
                  obtain ⟨vP, hbP, hrP⟩ := HSX.out.row
                  obtain ⟨AP, cP, rfl, _, _⟩ := hrP.form
                  obtain ⟨np, hnp⟩ : ∃ np, P9.length = np := ⟨_, rfl⟩
                  have HPN9E := Lib.hid hnp
                  have HPN9 := Lib.hid (small_len HPX.out.ok HPX.out.sm HPB.out)
                  rw [hnp] at hbP
                  have HBP := Lib.hid hbP
                  have HRP := Lib.hid hrP
                  rw [hnp] at HRP
                  have HLN := Lib.hid (show L9.length ≤ 71 from by have := HPX.out.len; have := HPN9.out; omega)
                  obtain ⟨nl, hnl⟩ : ∃ nl, L9.length = nl := ⟨_, rfl⟩
                  have HLN9 := Lib.hid hnl
                  clear hbP hrP hnp hnl
                  go_wp2_with fail
                  refine wp_region_noPanic ?_
                  refine wp_region_held_drew (S := (fun w' => Below w7.heap.size w7 w')) (by kernel_rfl) ?_ (fun hHeld => ?_)
                  · exact below_drew (Below.refl _ _)
                  refine wpAnyH_take (i := 0) (v := ?_) rfl (by kernel_rfl) (by kernel_rfl) (by kernel_rfl) (fun _ _ _ h => h) (Or.inl ⟨by rfl, ?_⟩) (by assumption) ?_
                  rotate_left
                  · (intro w hSw; (try dsimp only at hSw); go_simp; first | done | (with_reducible rfl))
                  try simp only [List.getElem_toArray, List.getElem_cons_succ, List.getElem_cons_zero, Act.put, List.setIfInBounds_toArray, List.set_cons_zero, List.set_cons_succ]
                  refine wpAnyH_take (i := 1) (v := ?_) rfl (by kernel_rfl) (by kernel_rfl) (by kernel_rfl) (fun _ _ _ h => h) (Or.inl ⟨by rfl, ?_⟩) (by assumption) ?_
                  rotate_left
                  · (intro w hSw; (try dsimp only at hSw); go_simp; first | done | (with_reducible rfl))
                  try simp only [List.getElem_toArray, List.getElem_cons_succ, List.getElem_cons_zero, Act.put, List.setIfInBounds_toArray, List.set_cons_zero, List.set_cons_succ]
                  refine wpAnyH_take (i := 2) (v := ?_) rfl (by kernel_rfl) (by kernel_rfl) (by kernel_rfl) (fun _ _ _ h => h) (Or.inl ⟨by rfl, ?_⟩) (by assumption) ?_
                  rotate_left
                  · (intro w hSw; (try dsimp only at hSw); go_simp; first | done | (with_reducible rfl))
                  try simp only [List.getElem_toArray, List.getElem_cons_succ, List.getElem_cons_zero, Act.put, List.setIfInBounds_toArray, List.set_cons_zero, List.set_cons_succ]
                  refine wpAnyH_take (i := 3) (v := ?_) rfl (by kernel_rfl) (by kernel_rfl) (by kernel_rfl) (fun _ _ _ h => h) (Or.inl ⟨by rfl, ?_⟩) (by assumption) ?_
                  rotate_left
                  · (intro w hSw; (try dsimp only at hSw); go_simp; first | done | (with_reducible rfl))
                  try simp only [List.getElem_toArray, List.getElem_cons_succ, List.getElem_cons_zero, Act.put, List.setIfInBounds_toArray, List.set_cons_zero, List.set_cons_succ]
                  refine wpAnyH_take (i := 4) (v := ?_) rfl (by kernel_rfl) (by kernel_rfl) (by kernel_rfl) (fun _ _ _ h => h) (Or.inl ⟨by rfl, ?_⟩) (by assumption) ?_
                  rotate_left
                  · (intro w hSw; (try dsimp only at hSw); go_simp; first | done | (with_reducible rfl))
                  try simp only [List.getElem_toArray, List.getElem_cons_succ, List.getElem_cons_zero, Act.put, List.setIfInBounds_toArray, List.set_cons_zero, List.set_cons_succ]
                  refine wpAnyH_take (i := 6) (v := ?_) rfl (by kernel_rfl) (by kernel_rfl) (by kernel_rfl) (fun _ _ _ h => h) (Or.inl ⟨by rfl, ?_⟩) (by assumption) ?_
                  rotate_left
                  · (intro w hSw; (try dsimp only at hSw); go_simp; first | done | (with_reducible rfl))
                  try simp only [List.getElem_toArray, List.getElem_cons_succ, List.getElem_cons_zero, Act.put, List.setIfInBounds_toArray, List.set_cons_zero, List.set_cons_succ]
                  refine wpAnyH_take (i := 7) (v := ?_) rfl (by kernel_rfl) (by kernel_rfl) (by kernel_rfl) (fun _ _ _ h => h) (Or.inl ⟨by rfl, ?_⟩) (by assumption) ?_
                  rotate_left
                  · (intro w hSw; (try dsimp only at hSw); go_simp; first | done | (with_reducible rfl))
                  try simp only [List.getElem_toArray, List.getElem_cons_succ, List.getElem_cons_zero, Act.put, List.setIfInBounds_toArray, List.set_cons_zero, List.set_cons_succ]
                  refine wpAnyH_take (i := 8) (v := ?_) rfl (by kernel_rfl) (by kernel_rfl) (by kernel_rfl) (fun _ _ _ h => h) (Or.inl ⟨by rfl, ?_⟩) (by assumption) ?_
                  rotate_left
                  · (intro w hSw; (try dsimp only at hSw); go_simp; first | done | (with_reducible rfl))
                  try simp only [List.getElem_toArray, List.getElem_cons_succ, List.getElem_cons_zero, Act.put, List.setIfInBounds_toArray, List.set_cons_zero, List.set_cons_succ]
                  refine wpAnyH_take (i := 9) (v := .slice AP np cP) rfl (by kernel_rfl) (by kernel_rfl) (by kernel_rfl) (fun _ _ _ h => h) (Or.inl ⟨by rfl, fun w h => by have k0 := Blk.cell (show Blk w gm 43 #[.slice AP np cP, .int .i64 100, .int .u64 0, .int .u64 0] from (h.block _ HBP.out.lt).trans HBP.out) 0; simp at k0; go_simp⟩) (by assumption) ?_
                  try simp only [List.getElem_toArray, List.getElem_cons_succ, List.getElem_cons_zero, Act.put, List.setIfInBounds_toArray, List.set_cons_zero, List.set_cons_succ]
                  refine wpAnyH_ready (rs := [5]) (by kernel_rfl) (by simp) ?_
                  refine AllReadyH.cons rfl (fun K' hK' => ?_) AllReadyH.nil
                  go_simp
                  go_at_call 23
                  refine (all_any _ _ L9 _ (HLX.out.fr (Fr.of_below (S := fun _ => False) hHeld)) (by have := HLN.out; omega)).mono ?_
                  rintro e1 wa ⟨va, rfl, hoa, hfa⟩
                  obtain ⟨Aa, ca, rfl, _, _⟩ := hoa.form
                  have HOa := Lib.hid hoa
                  have hS1 := Fr.below hHeld hfa (fun _ _ => id)
                  rw [HLN9.out]
                  clear hoa hfa
                  clear hHeld
                  refine hK'.out _ _ hS1 (fun hHeld => ?_)
                  clear hK' K' hS1
                  try simp only [List.getElem_toArray, List.getElem_cons_succ, List.getElem_cons_zero, Act.put, List.setIfInBounds_toArray, List.set_cons_zero, List.set_cons_succ]
                  refine wpAnyH_ready (rs := [10]) (by kernel_rfl) (by simp) ?_
                  refine AllReadyH.cons rfl (fun K' hK' => ?_) AllReadyH.nil
                  go_simp
                  go_at_call 17
                  refine (regions_any _ P9 _ _ (HRP.out.fr (Fr.of_below (S := fun _ => False) hHeld) (fun _ _ => id)) (by have := HPN9.out; omega) HPX.out.sm).mono ?_
                  rintro e1 wb ⟨vb, rfl, hob, hbb⟩
                  rw [HPX.out.regs] at hob
                  obtain ⟨Ab, cb, rfl, _, _⟩ := hob.form
                  have HOb := Lib.hid hob
                  have HOa2 := Lib.hid (HOa.out.fr (Fr.of_below (S := fun _ => False) hbb) (fun _ _ => id))
                  clear HOa
                  have HOa := HOa2
                  clear HOa2
                  have hS1 := Fr.below hHeld (Fr.of_below (S := fun _ => False) hbb) (fun _ _ => id)
                  rw [HLN9.out]
                  clear hob hbb
                  clear hHeld
                  refine hK'.out _ _ hS1 (fun hHeld => ?_)
                  clear hK' K' hS1
                  try simp only [List.getElem_toArray, List.getElem_cons_succ, List.getElem_cons_zero, Act.put, List.setIfInBounds_toArray, List.set_cons_zero, List.set_cons_succ]
                  refine wpAnyH_ready (rs := [11]) (by kernel_rfl) (by simp) ?_
                  refine AllReadyH.cons rfl (fun K' hK' => ?_) AllReadyH.nil
                  go_simp
                  go_at_call 32
                  have hoa := HOa.out
                  have hob := HOb.out
                  rw [HLN9.out] at hoa hob
                  refine (same_any _ _ L9 _ _ _ hoa hob (by have := HLN.out; omega)).mono ?_
                  rintro e1 wc ⟨rfl, hfc⟩
                  have hS1 := Fr.below hHeld hfc (fun _ _ => id)
                  clear hfc hoa hob
                  clear hHeld
                  refine hK'.out _ _ hS1 (fun hHeld => ?_)
                  clear hK' K' hS1
                  try simp only [List.getElem_toArray, List.getElem_cons_succ, List.getElem_cons_zero, Act.put, List.setIfInBounds_toArray, List.set_cons_zero, List.set_cons_succ]
                  refine wpAnyH_take (i := 12) (v := ?_) rfl (by kernel_rfl) (by kernel_rfl) (by kernel_rfl) (fun _ _ _ h => h) (Or.inl ⟨by rfl, ?_⟩) (by assumption) ?_
                  rotate_left
                  · (intro w hSw; (try dsimp only at hSw); go_simp; first | done | (with_reducible rfl))
                  try simp only [List.getElem_toArray, List.getElem_cons_succ, List.getElem_cons_zero, Act.put, List.setIfInBounds_toArray, List.set_cons_zero, List.set_cons_succ]
                  refine wpAnyH_take (i := 13) (v := ?_) rfl (by kernel_rfl) (by kernel_rfl) (by kernel_rfl) (fun _ _ _ h => h) (Or.inl ⟨by rfl, ?_⟩) (by assumption) ?_
                  rotate_left
                  · (intro w hSw; (try dsimp only at hSw); go_simp; first | done | (with_reducible rfl))
                  try simp only [List.getElem_toArray, List.getElem_cons_succ, List.getElem_cons_zero, Act.put, List.setIfInBounds_toArray, List.set_cons_zero, List.set_cons_succ]
                  refine wpAnyH_take (i := 14) (v := ?_) rfl (by kernel_rfl) (by kernel_rfl) (by kernel_rfl) (fun _ _ _ h => h) (Or.inl ⟨by rfl, ?_⟩) (by assumption) ?_
                  rotate_left
                  · (intro w hSw; (try dsimp only at hSw); go_simp; first | done | (with_reducible rfl))
                  try simp only [List.getElem_toArray, List.getElem_cons_succ, List.getElem_cons_zero, Act.put, List.setIfInBounds_toArray, List.set_cons_zero, List.set_cons_succ]
                  refine wpAnyH_take (i := 15) (v := ?_) rfl (by kernel_rfl) (by kernel_rfl) (by kernel_rfl) (fun _ _ _ h => h) (Or.inl ⟨by rfl, ?_⟩) (by assumption) ?_
                  rotate_left
                  · (intro w hSw; (try dsimp only at hSw); go_simp; first | done | (with_reducible rfl))
                  try simp only [List.getElem_toArray, List.getElem_cons_succ, List.getElem_cons_zero, Act.put, List.setIfInBounds_toArray, List.set_cons_zero, List.set_cons_succ]
                  refine wpAnyH_take (i := 17) (v := ?_) rfl (by kernel_rfl) (by kernel_rfl) (by kernel_rfl) (fun _ _ _ h => h) (Or.inl ⟨by rfl, ?_⟩) (by assumption) ?_
                  rotate_left
                  · (intro w hSw; (try dsimp only at hSw); go_simp; first | done | (with_reducible rfl))
                  try simp only [List.getElem_toArray, List.getElem_cons_succ, List.getElem_cons_zero, Act.put, List.setIfInBounds_toArray, List.set_cons_zero, List.set_cons_succ]
                  refine wpAnyH_take (i := 18) (v := ?_) rfl (by kernel_rfl) (by kernel_rfl) (by kernel_rfl) (fun _ _ _ h => h) (Or.inl ⟨by rfl, ?_⟩) (by assumption) ?_
                  rotate_left
                  · (intro w hSw; (try dsimp only at hSw); go_simp; first | done | (with_reducible rfl))
                  try simp only [List.getElem_toArray, List.getElem_cons_succ, List.getElem_cons_zero, Act.put, List.setIfInBounds_toArray, List.set_cons_zero, List.set_cons_succ]
                  refine wpAnyH_take (i := 19) (v := ?_) rfl (by kernel_rfl) (by kernel_rfl) (by kernel_rfl) (fun _ _ _ h => h) (Or.inl ⟨by rfl, ?_⟩) (by assumption) ?_
                  rotate_left
                  · (intro w hSw; (try dsimp only at hSw); go_simp; first | done | (with_reducible rfl))
                  try simp only [List.getElem_toArray, List.getElem_cons_succ, List.getElem_cons_zero, Act.put, List.setIfInBounds_toArray, List.set_cons_zero, List.set_cons_succ]
                  refine wpAnyH_take (i := 20) (v := .slice AP np cP) rfl (by kernel_rfl) (by kernel_rfl) (by kernel_rfl) (fun _ _ _ h => h) (Or.inl ⟨by rfl, fun w h => by have k0 := Blk.cell (show Blk w gm 43 #[.slice AP np cP, .int .i64 100, .int .u64 0, .int .u64 0] from (h.block _ HBP.out.lt).trans HBP.out) 0; simp at k0; go_simp⟩) (by assumption) ?_
                  try simp only [List.getElem_toArray, List.getElem_cons_succ, List.getElem_cons_zero, Act.put, List.setIfInBounds_toArray, List.set_cons_zero, List.set_cons_succ]
                  refine wpAnyH_take (i := 21) (v := ?_) rfl (by kernel_rfl) (by kernel_rfl) (by kernel_rfl) (fun _ _ _ h => h) (Or.inl ⟨by rfl, ?_⟩) (by assumption) ?_
                  rotate_left
                  · (intro w hSw; (try dsimp only at hSw); go_simp; first | done | (with_reducible rfl))
                  try simp only [List.getElem_toArray, List.getElem_cons_succ, List.getElem_cons_zero, Act.put, List.setIfInBounds_toArray, List.set_cons_zero, List.set_cons_succ]
                  refine wpAnyH_ready (rs := [16]) (by kernel_rfl) (by simp) ?_
                  refine AllReadyH.cons rfl (fun K' hK' => ?_) AllReadyH.nil
                  go_simp
                  go_at_call 33
                  refine (pages_any _ _ L9 _ (HLX.out.fr (Fr.of_below (S := fun _ => False) hHeld)) (by have := HLN.out; omega) HPX.out.cl.ok.Val).mono ?_
                  rintro e1 wd ⟨rfl, hfd⟩
                  rw [HPX.out.pages, HPN9E.out]
                  have hS1 := Fr.below hHeld hfd (fun _ _ => id)
                  clear hfd
                  clear hHeld
                  refine hK'.out _ _ hS1 (fun hHeld => ?_)
                  clear hK' K' hS1
                  try simp only [List.getElem_toArray, List.getElem_cons_succ, List.getElem_cons_zero, Act.put, List.setIfInBounds_toArray, List.set_cons_zero, List.set_cons_succ]
                  refine wpAnyH_take (i := 22) (v := ?_) rfl (by kernel_rfl) (by kernel_rfl) (by kernel_rfl) (fun _ _ _ h => h) (Or.inl ⟨by rfl, ?_⟩) (by assumption) ?_
                  rotate_left
                  · (intro w hSw; (try dsimp only at hSw); go_simp; first | done | (with_reducible rfl))
                  try simp only [List.getElem_toArray, List.getElem_cons_succ, List.getElem_cons_zero, Act.put, List.setIfInBounds_toArray, List.set_cons_zero, List.set_cons_succ]
                  refine wpAnyH_take (i := 23) (v := ?_) rfl (by kernel_rfl) (by kernel_rfl) (by kernel_rfl) (fun _ _ _ h => h) (Or.inl ⟨by rfl, ?_⟩) (by assumption) ?_
                  rotate_left
                  · (intro w hSw; (try dsimp only at hSw); go_simp; first | done | (with_reducible rfl))
                  try simp only [List.getElem_toArray, List.getElem_cons_succ, List.getElem_cons_zero, Act.put, List.setIfInBounds_toArray, List.set_cons_zero, List.set_cons_succ]
                  refine wpAnyH_done (by kernel_rfl) ?_ _
                  refine NoPanic.normal ?_
                  have HWX := Lib.hid (Fr.of_below (S := fun _ => False) hHeld)
                  clear hHeld
                  go_wp2_with fail
                  go_roundg (n - (k + 1))
                  case measure => (have := HK2.out.1; have := HK2.out.2.1; omega)
                  case rel => exact Lib.hid ⟨k + 1, L9, P9, by go_num, by omega, by have := HK2.out.2.2; omega, by omega, HLX.out.fr HWX.out, HSX.out.fr HWX.out, HPX.out, HPB.out, HFXX.out.trans HWX.out (fun _ _ => id)⟩
              · have d3 : (d == 3) = false := beq_eq_false_iff_ne.2 hd3
                clear hd1 hd2 hd3
                go_wp2_with fail
                refine (HSP.out _).mono ?_
                rintro x w5 ⟨rfl, hf5⟩
                have HB5 := Lib.hid (HB4.out.fr hf5 id)
                have HL5 := Lib.hid (HL4.out.fr hf5)
                have HS5 := Lib.hid (HS4.out.fr hf5)
                have HF5 := Lib.hid (HF4.out.trans hf5 (fun _ _ => id))
                have x0 := HB5.out.cell 0
                have x3 := HB5.out.cell 3
                simp at x0 x3
                clear hf5
                go_wp2_with fail
                go_roundg (n - (k + 1))
                case measure => (have := HK2.out.1; have := HK2.out.2.1; omega)
                case rel => exact Lib.hid ⟨k + 1, L, P, by go_num, by omega, by have := HK2.out.2.2; omega, by omega, HL5.out, HS5.out, HP.out, HPN.out, HF5.out⟩
        · have HE3 := Lib.hid (show mapB s e p = false from by unfold mapB protsB; rw [HSPB.out]; by_cases h : 0 ≤ p <;> simp <;> omega)
          have HE1 := Lib.hid (show mapE L s e p = 22 ∧ mapL L s e p = L from by unfold mapE mapL; rw [HE3.out]; exact ⟨rfl, rfl⟩)
          by_cases hp0 : 0 ≤ p
          · have p1 : decide ((0 : Int) ≤ p) = true := decide_eq_true hp0
            have p2 : decide (p ≤ 7) = false := decide_eq_false (fun h => hpr ⟨hp0, h⟩)
            clear hpr hp0
            by_cases hd1 : d = 1
            · subst hd1
              go_wp2_with fail
              refine (HSP.out _).mono ?_
              rintro x w5 ⟨rfl, hf5⟩
              have HB5 := Lib.hid (HB4.out.fr hf5 id)
              have HL5 := Lib.hid (HL4.out.fr hf5)
              have HS5 := Lib.hid (HS4.out.fr hf5)
              have HF5 := Lib.hid (HF4.out.trans hf5 (fun _ _ => id))
              have x0 := HB5.out.cell 0
              have x3 := HB5.out.cell 3
              simp at x0 x3
              clear hf5
              go_wp2_with fail
              refine (map_any _ _ L s e p ⟨HAN.out.2.2.2.2.2.2.1, HAN.out.2.2.2.2.2.2.2.1⟩ ⟨HAN.out.2.2.2.2.2.2.2.2.1, HAN.out.2.2.2.2.2.2.2.2.2⟩ _ HL5.out (by have := HP.out.len; have := HPL.out; omega)).mono ?_
              rintro x w6 ⟨rfl, hl6, hf6⟩
              rw [HE1.out.2] at hl6
              rw [HE1.out.1]
              have HL6 := Lib.hid hl6
              have HS6 := Lib.hid (HS5.out.keep HL5.out hf6)
              have HF6 := Lib.hid (HF5.out.trans hf6 (fun i hi e => by omega))
              clear hl6 hf6 x0 x3
              have HLX := Lib.hid (HL6.out)
              have HSX := Lib.hid (HS6.out)
              have HPX := Lib.hid (HP.out)
              have HPB := Lib.hid (HPN.out)
              have HFXX := Lib.hid (HF6.out)
              obtain ⟨L9, hL9⟩ : ∃ L9, L = L9 := ⟨_, rfl⟩
              obtain ⟨P9, hP9⟩ : ∃ P9, P = P9 := ⟨_, rfl⟩
              rw [hL9] at HLX HPX
              rw [hP9] at HSX HPX HPB
              clear hL9 hP9
              obtain ⟨vP, hbP, hrP⟩ := HSX.out.row
              obtain ⟨AP, cP, rfl, _, _⟩ := hrP.form
              obtain ⟨np, hnp⟩ : ∃ np, P9.length = np := ⟨_, rfl⟩
              have HPN9E := Lib.hid hnp
              have HPN9 := Lib.hid (small_len HPX.out.ok HPX.out.sm HPB.out)
              rw [hnp] at hbP
              have HBP := Lib.hid hbP
              have HRP := Lib.hid hrP
              rw [hnp] at HRP
              have HLN := Lib.hid (show L9.length ≤ 71 from by have := HPX.out.len; have := HPN9.out; omega)
              obtain ⟨nl, hnl⟩ : ∃ nl, L9.length = nl := ⟨_, rfl⟩
              have HLN9 := Lib.hid hnl
              clear hbP hrP hnp hnl
              go_wp2_with fail
              refine wp_region_noPanic ?_
              refine wp_region_held_drew (S := (fun w' => Below w6.heap.size w6 w')) (by kernel_rfl) ?_ (fun hHeld => ?_)
              · exact below_drew (Below.refl _ _)
              refine wpAnyH_take (i := 0) (v := ?_) rfl (by kernel_rfl) (by kernel_rfl) (by kernel_rfl) (fun _ _ _ h => h) (Or.inl ⟨by rfl, ?_⟩) (by assumption) ?_
              rotate_left
              · (intro w hSw; (try dsimp only at hSw); go_simp; first | done | (with_reducible rfl))
              try simp only [List.getElem_toArray, List.getElem_cons_succ, List.getElem_cons_zero, Act.put, List.setIfInBounds_toArray, List.set_cons_zero, List.set_cons_succ]
              refine wpAnyH_take (i := 1) (v := ?_) rfl (by kernel_rfl) (by kernel_rfl) (by kernel_rfl) (fun _ _ _ h => h) (Or.inl ⟨by rfl, ?_⟩) (by assumption) ?_
              rotate_left
              · (intro w hSw; (try dsimp only at hSw); go_simp; first | done | (with_reducible rfl))
              try simp only [List.getElem_toArray, List.getElem_cons_succ, List.getElem_cons_zero, Act.put, List.setIfInBounds_toArray, List.set_cons_zero, List.set_cons_succ]
              refine wpAnyH_take (i := 2) (v := ?_) rfl (by kernel_rfl) (by kernel_rfl) (by kernel_rfl) (fun _ _ _ h => h) (Or.inl ⟨by rfl, ?_⟩) (by assumption) ?_
              rotate_left
              · (intro w hSw; (try dsimp only at hSw); go_simp; first | done | (with_reducible rfl))
              try simp only [List.getElem_toArray, List.getElem_cons_succ, List.getElem_cons_zero, Act.put, List.setIfInBounds_toArray, List.set_cons_zero, List.set_cons_succ]
              refine wpAnyH_take (i := 3) (v := ?_) rfl (by kernel_rfl) (by kernel_rfl) (by kernel_rfl) (fun _ _ _ h => h) (Or.inl ⟨by rfl, ?_⟩) (by assumption) ?_
              rotate_left
              · (intro w hSw; (try dsimp only at hSw); go_simp; first | done | (with_reducible rfl))
              try simp only [List.getElem_toArray, List.getElem_cons_succ, List.getElem_cons_zero, Act.put, List.setIfInBounds_toArray, List.set_cons_zero, List.set_cons_succ]
              refine wpAnyH_take (i := 4) (v := ?_) rfl (by kernel_rfl) (by kernel_rfl) (by kernel_rfl) (fun _ _ _ h => h) (Or.inl ⟨by rfl, ?_⟩) (by assumption) ?_
              rotate_left
              · (intro w hSw; (try dsimp only at hSw); go_simp; first | done | (with_reducible rfl))
              try simp only [List.getElem_toArray, List.getElem_cons_succ, List.getElem_cons_zero, Act.put, List.setIfInBounds_toArray, List.set_cons_zero, List.set_cons_succ]
              refine wpAnyH_take (i := 6) (v := ?_) rfl (by kernel_rfl) (by kernel_rfl) (by kernel_rfl) (fun _ _ _ h => h) (Or.inl ⟨by rfl, ?_⟩) (by assumption) ?_
              rotate_left
              · (intro w hSw; (try dsimp only at hSw); go_simp; first | done | (with_reducible rfl))
              try simp only [List.getElem_toArray, List.getElem_cons_succ, List.getElem_cons_zero, Act.put, List.setIfInBounds_toArray, List.set_cons_zero, List.set_cons_succ]
              refine wpAnyH_take (i := 7) (v := ?_) rfl (by kernel_rfl) (by kernel_rfl) (by kernel_rfl) (fun _ _ _ h => h) (Or.inl ⟨by rfl, ?_⟩) (by assumption) ?_
              rotate_left
              · (intro w hSw; (try dsimp only at hSw); go_simp; first | done | (with_reducible rfl))
              try simp only [List.getElem_toArray, List.getElem_cons_succ, List.getElem_cons_zero, Act.put, List.setIfInBounds_toArray, List.set_cons_zero, List.set_cons_succ]
              refine wpAnyH_take (i := 8) (v := ?_) rfl (by kernel_rfl) (by kernel_rfl) (by kernel_rfl) (fun _ _ _ h => h) (Or.inl ⟨by rfl, ?_⟩) (by assumption) ?_
              rotate_left
              · (intro w hSw; (try dsimp only at hSw); go_simp; first | done | (with_reducible rfl))
              try simp only [List.getElem_toArray, List.getElem_cons_succ, List.getElem_cons_zero, Act.put, List.setIfInBounds_toArray, List.set_cons_zero, List.set_cons_succ]
              refine wpAnyH_take (i := 9) (v := .slice AP np cP) rfl (by kernel_rfl) (by kernel_rfl) (by kernel_rfl) (fun _ _ _ h => h) (Or.inl ⟨by rfl, fun w h => by have k0 := Blk.cell (show Blk w gm 43 #[.slice AP np cP, .int .i64 100, .int .u64 0, .int .u64 0] from (h.block _ HBP.out.lt).trans HBP.out) 0; simp at k0; go_simp⟩) (by assumption) ?_
              try simp only [List.getElem_toArray, List.getElem_cons_succ, List.getElem_cons_zero, Act.put, List.setIfInBounds_toArray, List.set_cons_zero, List.set_cons_succ]
              refine wpAnyH_ready (rs := [5]) (by kernel_rfl) (by simp) ?_
              refine AllReadyH.cons rfl (fun K' hK' => ?_) AllReadyH.nil
              go_simp
              go_at_call 23
              refine (all_any _ _ L9 _ (HLX.out.fr (Fr.of_below (S := fun _ => False) hHeld)) (by have := HLN.out; omega)).mono ?_
              rintro e1 wa ⟨va, rfl, hoa, hfa⟩
              obtain ⟨Aa, ca, rfl, _, _⟩ := hoa.form
              have HOa := Lib.hid hoa
              have hS1 := Fr.below hHeld hfa (fun _ _ => id)
              rw [HLN9.out]
              clear hoa hfa
              clear hHeld
              refine hK'.out _ _ hS1 (fun hHeld => ?_)
              clear hK' K' hS1
              try simp only [List.getElem_toArray, List.getElem_cons_succ, List.getElem_cons_zero, Act.put, List.setIfInBounds_toArray, List.set_cons_zero, List.set_cons_succ]
              refine wpAnyH_ready (rs := [10]) (by kernel_rfl) (by simp) ?_
              refine AllReadyH.cons rfl (fun K' hK' => ?_) AllReadyH.nil
              go_simp
              go_at_call 17
              refine (regions_any _ P9 _ _ (HRP.out.fr (Fr.of_below (S := fun _ => False) hHeld) (fun _ _ => id)) (by have := HPN9.out; omega) HPX.out.sm).mono ?_
              rintro e1 wb ⟨vb, rfl, hob, hbb⟩
              rw [HPX.out.regs] at hob
              obtain ⟨Ab, cb, rfl, _, _⟩ := hob.form
              have HOb := Lib.hid hob
              have HOa2 := Lib.hid (HOa.out.fr (Fr.of_below (S := fun _ => False) hbb) (fun _ _ => id))
              clear HOa
              have HOa := HOa2
              clear HOa2
              have hS1 := Fr.below hHeld (Fr.of_below (S := fun _ => False) hbb) (fun _ _ => id)
              rw [HLN9.out]
              clear hob hbb
              clear hHeld
              refine hK'.out _ _ hS1 (fun hHeld => ?_)
              clear hK' K' hS1
              try simp only [List.getElem_toArray, List.getElem_cons_succ, List.getElem_cons_zero, Act.put, List.setIfInBounds_toArray, List.set_cons_zero, List.set_cons_succ]
              refine wpAnyH_ready (rs := [11]) (by kernel_rfl) (by simp) ?_
              refine AllReadyH.cons rfl (fun K' hK' => ?_) AllReadyH.nil
              go_simp
              go_at_call 32
              have hoa := HOa.out
              have hob := HOb.out
              rw [HLN9.out] at hoa hob
              refine (same_any _ _ L9 _ _ _ hoa hob (by have := HLN.out; omega)).mono ?_
              rintro e1 wc ⟨rfl, hfc⟩
              have hS1 := Fr.below hHeld hfc (fun _ _ => id)
              clear hfc hoa hob
              clear hHeld
              refine hK'.out _ _ hS1 (fun hHeld => ?_)
              clear hK' K' hS1
              try simp only [List.getElem_toArray, List.getElem_cons_succ, List.getElem_cons_zero, Act.put, List.setIfInBounds_toArray, List.set_cons_zero, List.set_cons_succ]
              refine wpAnyH_take (i := 12) (v := ?_) rfl (by kernel_rfl) (by kernel_rfl) (by kernel_rfl) (fun _ _ _ h => h) (Or.inl ⟨by rfl, ?_⟩) (by assumption) ?_
              rotate_left
              · (intro w hSw; (try dsimp only at hSw); go_simp; first | done | (with_reducible rfl))
              try simp only [List.getElem_toArray, List.getElem_cons_succ, List.getElem_cons_zero, Act.put, List.setIfInBounds_toArray, List.set_cons_zero, List.set_cons_succ]
              refine wpAnyH_take (i := 13) (v := ?_) rfl (by kernel_rfl) (by kernel_rfl) (by kernel_rfl) (fun _ _ _ h => h) (Or.inl ⟨by rfl, ?_⟩) (by assumption) ?_
              rotate_left
              · (intro w hSw; (try dsimp only at hSw); go_simp; first | done | (with_reducible rfl))
              try simp only [List.getElem_toArray, List.getElem_cons_succ, List.getElem_cons_zero, Act.put, List.setIfInBounds_toArray, List.set_cons_zero, List.set_cons_succ]
              refine wpAnyH_take (i := 14) (v := ?_) rfl (by kernel_rfl) (by kernel_rfl) (by kernel_rfl) (fun _ _ _ h => h) (Or.inl ⟨by rfl, ?_⟩) (by assumption) ?_
              rotate_left
              · (intro w hSw; (try dsimp only at hSw); go_simp; first | done | (with_reducible rfl))
              try simp only [List.getElem_toArray, List.getElem_cons_succ, List.getElem_cons_zero, Act.put, List.setIfInBounds_toArray, List.set_cons_zero, List.set_cons_succ]
              refine wpAnyH_take (i := 15) (v := ?_) rfl (by kernel_rfl) (by kernel_rfl) (by kernel_rfl) (fun _ _ _ h => h) (Or.inl ⟨by rfl, ?_⟩) (by assumption) ?_
              rotate_left
              · (intro w hSw; (try dsimp only at hSw); go_simp; first | done | (with_reducible rfl))
              try simp only [List.getElem_toArray, List.getElem_cons_succ, List.getElem_cons_zero, Act.put, List.setIfInBounds_toArray, List.set_cons_zero, List.set_cons_succ]
              refine wpAnyH_take (i := 17) (v := ?_) rfl (by kernel_rfl) (by kernel_rfl) (by kernel_rfl) (fun _ _ _ h => h) (Or.inl ⟨by rfl, ?_⟩) (by assumption) ?_
              rotate_left
              · (intro w hSw; (try dsimp only at hSw); go_simp; first | done | (with_reducible rfl))
              try simp only [List.getElem_toArray, List.getElem_cons_succ, List.getElem_cons_zero, Act.put, List.setIfInBounds_toArray, List.set_cons_zero, List.set_cons_succ]
              refine wpAnyH_take (i := 18) (v := ?_) rfl (by kernel_rfl) (by kernel_rfl) (by kernel_rfl) (fun _ _ _ h => h) (Or.inl ⟨by rfl, ?_⟩) (by assumption) ?_
              rotate_left
              · (intro w hSw; (try dsimp only at hSw); go_simp; first | done | (with_reducible rfl))
              try simp only [List.getElem_toArray, List.getElem_cons_succ, List.getElem_cons_zero, Act.put, List.setIfInBounds_toArray, List.set_cons_zero, List.set_cons_succ]
              refine wpAnyH_take (i := 19) (v := ?_) rfl (by kernel_rfl) (by kernel_rfl) (by kernel_rfl) (fun _ _ _ h => h) (Or.inl ⟨by rfl, ?_⟩) (by assumption) ?_
              rotate_left
              · (intro w hSw; (try dsimp only at hSw); go_simp; first | done | (with_reducible rfl))
              try simp only [List.getElem_toArray, List.getElem_cons_succ, List.getElem_cons_zero, Act.put, List.setIfInBounds_toArray, List.set_cons_zero, List.set_cons_succ]
              refine wpAnyH_take (i := 20) (v := .slice AP np cP) rfl (by kernel_rfl) (by kernel_rfl) (by kernel_rfl) (fun _ _ _ h => h) (Or.inl ⟨by rfl, fun w h => by have k0 := Blk.cell (show Blk w gm 43 #[.slice AP np cP, .int .i64 100, .int .u64 0, .int .u64 0] from (h.block _ HBP.out.lt).trans HBP.out) 0; simp at k0; go_simp⟩) (by assumption) ?_
              try simp only [List.getElem_toArray, List.getElem_cons_succ, List.getElem_cons_zero, Act.put, List.setIfInBounds_toArray, List.set_cons_zero, List.set_cons_succ]
              refine wpAnyH_take (i := 21) (v := ?_) rfl (by kernel_rfl) (by kernel_rfl) (by kernel_rfl) (fun _ _ _ h => h) (Or.inl ⟨by rfl, ?_⟩) (by assumption) ?_
              rotate_left
              · (intro w hSw; (try dsimp only at hSw); go_simp; first | done | (with_reducible rfl))
              try simp only [List.getElem_toArray, List.getElem_cons_succ, List.getElem_cons_zero, Act.put, List.setIfInBounds_toArray, List.set_cons_zero, List.set_cons_succ]
              refine wpAnyH_ready (rs := [16]) (by kernel_rfl) (by simp) ?_
              refine AllReadyH.cons rfl (fun K' hK' => ?_) AllReadyH.nil
              go_simp
              go_at_call 33
              refine (pages_any _ _ L9 _ (HLX.out.fr (Fr.of_below (S := fun _ => False) hHeld)) (by have := HLN.out; omega) HPX.out.cl.ok.Val).mono ?_
              rintro e1 wd ⟨rfl, hfd⟩
              rw [HPX.out.pages, HPN9E.out]
              have hS1 := Fr.below hHeld hfd (fun _ _ => id)
              clear hfd
              clear hHeld
              refine hK'.out _ _ hS1 (fun hHeld => ?_)
              clear hK' K' hS1
              try simp only [List.getElem_toArray, List.getElem_cons_succ, List.getElem_cons_zero, Act.put, List.setIfInBounds_toArray, List.set_cons_zero, List.set_cons_succ]
              refine wpAnyH_take (i := 22) (v := ?_) rfl (by kernel_rfl) (by kernel_rfl) (by kernel_rfl) (fun _ _ _ h => h) (Or.inl ⟨by rfl, ?_⟩) (by assumption) ?_
              rotate_left
              · (intro w hSw; (try dsimp only at hSw); go_simp; first | done | (with_reducible rfl))
              try simp only [List.getElem_toArray, List.getElem_cons_succ, List.getElem_cons_zero, Act.put, List.setIfInBounds_toArray, List.set_cons_zero, List.set_cons_succ]
              refine wpAnyH_take (i := 23) (v := ?_) rfl (by kernel_rfl) (by kernel_rfl) (by kernel_rfl) (fun _ _ _ h => h) (Or.inl ⟨by rfl, ?_⟩) (by assumption) ?_
              rotate_left
              · (intro w hSw; (try dsimp only at hSw); go_simp; first | done | (with_reducible rfl))
              try simp only [List.getElem_toArray, List.getElem_cons_succ, List.getElem_cons_zero, Act.put, List.setIfInBounds_toArray, List.set_cons_zero, List.set_cons_succ]
              refine wpAnyH_done (by kernel_rfl) ?_ _
              refine NoPanic.normal ?_
              have HWX := Lib.hid (Fr.of_below (S := fun _ => False) hHeld)
              clear hHeld
              go_wp2_with fail
              go_roundg (n - (k + 1))
              case measure => (have := HK2.out.1; have := HK2.out.2.1; omega)
              case rel => exact Lib.hid ⟨k + 1, L9, P9, by go_num, by omega, by have := HK2.out.2.2; omega, by omega, HLX.out.fr HWX.out, HSX.out.fr HWX.out, HPX.out, HPB.out, HFXX.out.trans HWX.out (fun _ _ => id)⟩
            · have d1 : (d == 1) = false := beq_eq_false_iff_ne.2 hd1
              by_cases hd2 : d = 2
              · subst hd2
                clear hd1
                go_wp2_with fail
                refine (HSP.out _).mono ?_
                rintro x w5 ⟨rfl, hf5⟩
                have HB5 := Lib.hid (HB4.out.fr hf5 id)
                have HL5 := Lib.hid (HL4.out.fr hf5)
                have HS5 := Lib.hid (HS4.out.fr hf5)
                have HF5 := Lib.hid (HF4.out.trans hf5 (fun _ _ => id))
                have x0 := HB5.out.cell 0
                have x3 := HB5.out.cell 3
                simp at x0 x3
                clear hf5
                go_wp2_with fail
                refine (unmap_any _ _ L s e ⟨HAN.out.2.2.2.2.2.2.1, HAN.out.2.2.2.2.2.2.2.1⟩ ⟨HAN.out.2.2.2.2.2.2.2.2.1, HAN.out.2.2.2.2.2.2.2.2.2⟩ _ HL5.out (by have := HP.out.len; have := HPL.out; omega)).mono ?_
                rintro x w6 ⟨rfl, hl6, hf6⟩
                have HUM := Lib.hid (show unE L s e = 0 ∧ Pair (unL L s e) (withoutP s e P) from by
                  have h := HP.out.unmap (a := A) (N := N) HAN.out.2.1 (by have := HAN.out.1; have := HAN.out.2.2.1; omega) (by have := HPL.out; omega)
                  rwa [HAN.out.2.2.2.1, HAN.out.2.2.2.2.1] at h)
                rw [HUM.out.1]
                have HL6 := Lib.hid hl6
                have HS6 := Lib.hid (HS5.out.keep HL5.out hf6)
                have HF6 := Lib.hid (HF5.out.trans hf6 (fun i hi e => by omega))
                clear hl6 hf6 x0 x3
                go_wp2_with fail
                refine (HSP.out _).mono ?_
                rintro x w7 ⟨rfl, hf7⟩
                have HL7 := Lib.hid (HL6.out.fr hf7)
                have HS7 := Lib.hid (HS6.out.fr hf7)
                have HF7 := Lib.hid (HF6.out.trans hf7 (fun _ _ => id))
                clear hf7
                go_wp2_with fail
                refine (unmapP_any w.heap.size gm P A N s e Z HAN.out.2.2.2.1 HAN.out.2.2.2.2.1 HAN.out.2.2.2.2.2.1 HAN.out.2.1 (by have := HAN.out.1; have := HAN.out.2.2.1; omega) _ HS7.out HF7.out.size HP.out.sm (by have := HPL.out; omega)).mono ?_
                rintro x w8 ⟨rfl, hs8, hf8⟩
                have HS8 := Lib.hid hs8
                have HL8 := Lib.hid (HL7.out.keep HS7.out hf8)
                have HF8 := Lib.hid (HF7.out.trans hf8 (fun i hi e => by have := HS7.out.gb; omega))
                clear hs8 hf8
                have HLX := Lib.hid (HL8.out)
                have HSX := Lib.hid (HS8.out)
                have HPX := Lib.hid (HUM.out.2)
                have HPB := Lib.hid (show ∀ x ∈ withoutP s e P, x.n < 71 from fun x hx => HPN.out x (List.mem_filter.1 hx).1)
                have HFXX := Lib.hid (HF8.out)
                obtain ⟨L9, hL9⟩ : ∃ L9, unL L s e = L9 := ⟨_, rfl⟩
                obtain ⟨P9, hP9⟩ : ∃ P9, withoutP s e P = P9 := ⟨_, rfl⟩
                rw [hL9] at HLX HPX
                rw [hP9] at HSX HPX HPB
                clear hL9 hP9
                obtain ⟨vP, hbP, hrP⟩ := HSX.out.row
                obtain ⟨AP, cP, rfl, _, _⟩ := hrP.form
                obtain ⟨np, hnp⟩ : ∃ np, P9.length = np := ⟨_, rfl⟩
                have HPN9E := Lib.hid hnp
                have HPN9 := Lib.hid (small_len HPX.out.ok HPX.out.sm HPB.out)
                rw [hnp] at hbP
                have HBP := Lib.hid hbP
                have HRP := Lib.hid hrP
                rw [hnp] at HRP
                have HLN := Lib.hid (show L9.length ≤ 71 from by have := HPX.out.len; have := HPN9.out; omega)
                obtain ⟨nl, hnl⟩ : ∃ nl, L9.length = nl := ⟨_, rfl⟩
                have HLN9 := Lib.hid hnl
                clear hbP hrP hnp hnl
                go_wp2_with fail
                refine wp_region_noPanic ?_
                refine wp_region_held_drew (S := (fun w' => Below w8.heap.size w8 w')) (by kernel_rfl) ?_ (fun hHeld => ?_)
                · exact below_drew (Below.refl _ _)
                refine wpAnyH_take (i := 0) (v := ?_) rfl (by kernel_rfl) (by kernel_rfl) (by kernel_rfl) (fun _ _ _ h => h) (Or.inl ⟨by rfl, ?_⟩) (by assumption) ?_
                rotate_left
                · (intro w hSw; (try dsimp only at hSw); go_simp; first | done | (with_reducible rfl))
                try simp only [List.getElem_toArray, List.getElem_cons_succ, List.getElem_cons_zero, Act.put, List.setIfInBounds_toArray, List.set_cons_zero, List.set_cons_succ]
                refine wpAnyH_take (i := 1) (v := ?_) rfl (by kernel_rfl) (by kernel_rfl) (by kernel_rfl) (fun _ _ _ h => h) (Or.inl ⟨by rfl, ?_⟩) (by assumption) ?_
                rotate_left
                · (intro w hSw; (try dsimp only at hSw); go_simp; first | done | (with_reducible rfl))
                try simp only [List.getElem_toArray, List.getElem_cons_succ, List.getElem_cons_zero, Act.put, List.setIfInBounds_toArray, List.set_cons_zero, List.set_cons_succ]
                refine wpAnyH_take (i := 2) (v := ?_) rfl (by kernel_rfl) (by kernel_rfl) (by kernel_rfl) (fun _ _ _ h => h) (Or.inl ⟨by rfl, ?_⟩) (by assumption) ?_
                rotate_left
                · (intro w hSw; (try dsimp only at hSw); go_simp; first | done | (with_reducible rfl))
                try simp only [List.getElem_toArray, List.getElem_cons_succ, List.getElem_cons_zero, Act.put, List.setIfInBounds_toArray, List.set_cons_zero, List.set_cons_succ]
                refine wpAnyH_take (i := 3) (v := ?_) rfl (by kernel_rfl) (by kernel_rfl) (by kernel_rfl) (fun _ _ _ h => h) (Or.inl ⟨by rfl, ?_⟩) (by assumption) ?_
                rotate_left
                · (intro w hSw; (try dsimp only at hSw); go_simp; first | done | (with_reducible rfl))
                try simp only [List.getElem_toArray, List.getElem_cons_succ, List.getElem_cons_zero, Act.put, List.setIfInBounds_toArray, List.set_cons_zero, List.set_cons_succ]
                refine wpAnyH_take (i := 4) (v := ?_) rfl (by kernel_rfl) (by kernel_rfl) (by kernel_rfl) (fun _ _ _ h => h) (Or.inl ⟨by rfl, ?_⟩) (by assumption) ?_
                rotate_left
                · (intro w hSw; (try dsimp only at hSw); go_simp; first | done | (with_reducible rfl))
                try simp only [List.getElem_toArray, List.getElem_cons_succ, List.getElem_cons_zero, Act.put, List.setIfInBounds_toArray, List.set_cons_zero, List.set_cons_succ]
                refine wpAnyH_take (i := 6) (v := ?_) rfl (by kernel_rfl) (by kernel_rfl) (by kernel_rfl) (fun _ _ _ h => h) (Or.inl ⟨by rfl, ?_⟩) (by assumption) ?_
                rotate_left
                · (intro w hSw; (try dsimp only at hSw); go_simp; first | done | (with_reducible rfl))
                try simp only [List.getElem_toArray, List.getElem_cons_succ, List.getElem_cons_zero, Act.put, List.setIfInBounds_toArray, List.set_cons_zero, List.set_cons_succ]
                refine wpAnyH_take (i := 7) (v := ?_) rfl (by kernel_rfl) (by kernel_rfl) (by kernel_rfl) (fun _ _ _ h => h) (Or.inl ⟨by rfl, ?_⟩) (by assumption) ?_
                rotate_left
                · (intro w hSw; (try dsimp only at hSw); go_simp; first | done | (with_reducible rfl))
                try simp only [List.getElem_toArray, List.getElem_cons_succ, List.getElem_cons_zero, Act.put, List.setIfInBounds_toArray, List.set_cons_zero, List.set_cons_succ]
                refine wpAnyH_take (i := 8) (v := ?_) rfl (by kernel_rfl) (by kernel_rfl) (by kernel_rfl) (fun _ _ _ h => h) (Or.inl ⟨by rfl, ?_⟩) (by assumption) ?_
                rotate_left
                · (intro w hSw; (try dsimp only at hSw); go_simp; first | done | (with_reducible rfl))
                try simp only [List.getElem_toArray, List.getElem_cons_succ, List.getElem_cons_zero, Act.put, List.setIfInBounds_toArray, List.set_cons_zero, List.set_cons_succ]
                refine wpAnyH_take (i := 9) (v := .slice AP np cP) rfl (by kernel_rfl) (by kernel_rfl) (by kernel_rfl) (fun _ _ _ h => h) (Or.inl ⟨by rfl, fun w h => by have k0 := Blk.cell (show Blk w gm 43 #[.slice AP np cP, .int .i64 100, .int .u64 0, .int .u64 0] from (h.block _ HBP.out.lt).trans HBP.out) 0; simp at k0; go_simp⟩) (by assumption) ?_
                try simp only [List.getElem_toArray, List.getElem_cons_succ, List.getElem_cons_zero, Act.put, List.setIfInBounds_toArray, List.set_cons_zero, List.set_cons_succ]
                refine wpAnyH_ready (rs := [5]) (by kernel_rfl) (by simp) ?_
                refine AllReadyH.cons rfl (fun K' hK' => ?_) AllReadyH.nil
                go_simp
                go_at_call 23
                refine (all_any _ _ L9 _ (HLX.out.fr (Fr.of_below (S := fun _ => False) hHeld)) (by have := HLN.out; omega)).mono ?_
                rintro e1 wa ⟨va, rfl, hoa, hfa⟩
                obtain ⟨Aa, ca, rfl, _, _⟩ := hoa.form
                have HOa := Lib.hid hoa
                have hS1 := Fr.below hHeld hfa (fun _ _ => id)
                rw [HLN9.out]
                clear hoa hfa
                clear hHeld
                refine hK'.out _ _ hS1 (fun hHeld => ?_)
                clear hK' K' hS1
                try simp only [List.getElem_toArray, List.getElem_cons_succ, List.getElem_cons_zero, Act.put, List.setIfInBounds_toArray, List.set_cons_zero, List.set_cons_succ]
                refine wpAnyH_ready (rs := [10]) (by kernel_rfl) (by simp) ?_
                refine AllReadyH.cons rfl (fun K' hK' => ?_) AllReadyH.nil
                go_simp
                go_at_call 17
                refine (regions_any _ P9 _ _ (HRP.out.fr (Fr.of_below (S := fun _ => False) hHeld) (fun _ _ => id)) (by have := HPN9.out; omega) HPX.out.sm).mono ?_
                rintro e1 wb ⟨vb, rfl, hob, hbb⟩
                rw [HPX.out.regs] at hob
                obtain ⟨Ab, cb, rfl, _, _⟩ := hob.form
                have HOb := Lib.hid hob
                have HOa2 := Lib.hid (HOa.out.fr (Fr.of_below (S := fun _ => False) hbb) (fun _ _ => id))
                clear HOa
                have HOa := HOa2
                clear HOa2
                have hS1 := Fr.below hHeld (Fr.of_below (S := fun _ => False) hbb) (fun _ _ => id)
                rw [HLN9.out]
                clear hob hbb
                clear hHeld
                refine hK'.out _ _ hS1 (fun hHeld => ?_)
                clear hK' K' hS1
                try simp only [List.getElem_toArray, List.getElem_cons_succ, List.getElem_cons_zero, Act.put, List.setIfInBounds_toArray, List.set_cons_zero, List.set_cons_succ]
                refine wpAnyH_ready (rs := [11]) (by kernel_rfl) (by simp) ?_
                refine AllReadyH.cons rfl (fun K' hK' => ?_) AllReadyH.nil
                go_simp
                go_at_call 32
                have hoa := HOa.out
                have hob := HOb.out
                rw [HLN9.out] at hoa hob
                refine (same_any _ _ L9 _ _ _ hoa hob (by have := HLN.out; omega)).mono ?_
                rintro e1 wc ⟨rfl, hfc⟩
                have hS1 := Fr.below hHeld hfc (fun _ _ => id)
                clear hfc hoa hob
                clear hHeld
                refine hK'.out _ _ hS1 (fun hHeld => ?_)
                clear hK' K' hS1
                try simp only [List.getElem_toArray, List.getElem_cons_succ, List.getElem_cons_zero, Act.put, List.setIfInBounds_toArray, List.set_cons_zero, List.set_cons_succ]
                refine wpAnyH_take (i := 12) (v := ?_) rfl (by kernel_rfl) (by kernel_rfl) (by kernel_rfl) (fun _ _ _ h => h) (Or.inl ⟨by rfl, ?_⟩) (by assumption) ?_
                rotate_left
                · (intro w hSw; (try dsimp only at hSw); go_simp; first | done | (with_reducible rfl))
                try simp only [List.getElem_toArray, List.getElem_cons_succ, List.getElem_cons_zero, Act.put, List.setIfInBounds_toArray, List.set_cons_zero, List.set_cons_succ]
                refine wpAnyH_take (i := 13) (v := ?_) rfl (by kernel_rfl) (by kernel_rfl) (by kernel_rfl) (fun _ _ _ h => h) (Or.inl ⟨by rfl, ?_⟩) (by assumption) ?_
                rotate_left
                · (intro w hSw; (try dsimp only at hSw); go_simp; first | done | (with_reducible rfl))
                try simp only [List.getElem_toArray, List.getElem_cons_succ, List.getElem_cons_zero, Act.put, List.setIfInBounds_toArray, List.set_cons_zero, List.set_cons_succ]
                refine wpAnyH_take (i := 14) (v := ?_) rfl (by kernel_rfl) (by kernel_rfl) (by kernel_rfl) (fun _ _ _ h => h) (Or.inl ⟨by rfl, ?_⟩) (by assumption) ?_
                rotate_left
                · (intro w hSw; (try dsimp only at hSw); go_simp; first | done | (with_reducible rfl))
                try simp only [List.getElem_toArray, List.getElem_cons_succ, List.getElem_cons_zero, Act.put, List.setIfInBounds_toArray, List.set_cons_zero, List.set_cons_succ]
                refine wpAnyH_take (i := 15) (v := ?_) rfl (by kernel_rfl) (by kernel_rfl) (by kernel_rfl) (fun _ _ _ h => h) (Or.inl ⟨by rfl, ?_⟩) (by assumption) ?_
                rotate_left
                · (intro w hSw; (try dsimp only at hSw); go_simp; first | done | (with_reducible rfl))
                try simp only [List.getElem_toArray, List.getElem_cons_succ, List.getElem_cons_zero, Act.put, List.setIfInBounds_toArray, List.set_cons_zero, List.set_cons_succ]
                refine wpAnyH_take (i := 17) (v := ?_) rfl (by kernel_rfl) (by kernel_rfl) (by kernel_rfl) (fun _ _ _ h => h) (Or.inl ⟨by rfl, ?_⟩) (by assumption) ?_
                rotate_left
                · (intro w hSw; (try dsimp only at hSw); go_simp; first | done | (with_reducible rfl))
                try simp only [List.getElem_toArray, List.getElem_cons_succ, List.getElem_cons_zero, Act.put, List.setIfInBounds_toArray, List.set_cons_zero, List.set_cons_succ]
                refine wpAnyH_take (i := 18) (v := ?_) rfl (by kernel_rfl) (by kernel_rfl) (by kernel_rfl) (fun _ _ _ h => h) (Or.inl ⟨by rfl, ?_⟩) (by assumption) ?_
                rotate_left
                · (intro w hSw; (try dsimp only at hSw); go_simp; first | done | (with_reducible rfl))
                try simp only [List.getElem_toArray, List.getElem_cons_succ, List.getElem_cons_zero, Act.put, List.setIfInBounds_toArray, List.set_cons_zero, List.set_cons_succ]
                refine wpAnyH_take (i := 19) (v := ?_) rfl (by kernel_rfl) (by kernel_rfl) (by kernel_rfl) (fun _ _ _ h => h) (Or.inl ⟨by rfl, ?_⟩) (by assumption) ?_
                rotate_left
                · (intro w hSw; (try dsimp only at hSw); go_simp; first | done | (with_reducible rfl))
                try simp only [List.getElem_toArray, List.getElem_cons_succ, List.getElem_cons_zero, Act.put, List.setIfInBounds_toArray, List.set_cons_zero, List.set_cons_succ]
                refine wpAnyH_take (i := 20) (v := .slice AP np cP) rfl (by kernel_rfl) (by kernel_rfl) (by kernel_rfl) (fun _ _ _ h => h) (Or.inl ⟨by rfl, fun w h => by have k0 := Blk.cell (show Blk w gm 43 #[.slice AP np cP, .int .i64 100, .int .u64 0, .int .u64 0] from (h.block _ HBP.out.lt).trans HBP.out) 0; simp at k0; go_simp⟩) (by assumption) ?_
                try simp only [List.getElem_toArray, List.getElem_cons_succ, List.getElem_cons_zero, Act.put, List.setIfInBounds_toArray, List.set_cons_zero, List.set_cons_succ]
                refine wpAnyH_take (i := 21) (v := ?_) rfl (by kernel_rfl) (by kernel_rfl) (by kernel_rfl) (fun _ _ _ h => h) (Or.inl ⟨by rfl, ?_⟩) (by assumption) ?_
                rotate_left
                · (intro w hSw; (try dsimp only at hSw); go_simp; first | done | (with_reducible rfl))
                try simp only [List.getElem_toArray, List.getElem_cons_succ, List.getElem_cons_zero, Act.put, List.setIfInBounds_toArray, List.set_cons_zero, List.set_cons_succ]
                refine wpAnyH_ready (rs := [16]) (by kernel_rfl) (by simp) ?_
                refine AllReadyH.cons rfl (fun K' hK' => ?_) AllReadyH.nil
                go_simp
                go_at_call 33
                refine (pages_any _ _ L9 _ (HLX.out.fr (Fr.of_below (S := fun _ => False) hHeld)) (by have := HLN.out; omega) HPX.out.cl.ok.Val).mono ?_
                rintro e1 wd ⟨rfl, hfd⟩
                rw [HPX.out.pages, HPN9E.out]
                have hS1 := Fr.below hHeld hfd (fun _ _ => id)
                clear hfd
                clear hHeld
                refine hK'.out _ _ hS1 (fun hHeld => ?_)
                clear hK' K' hS1
                try simp only [List.getElem_toArray, List.getElem_cons_succ, List.getElem_cons_zero, Act.put, List.setIfInBounds_toArray, List.set_cons_zero, List.set_cons_succ]
                refine wpAnyH_take (i := 22) (v := ?_) rfl (by kernel_rfl) (by kernel_rfl) (by kernel_rfl) (fun _ _ _ h => h) (Or.inl ⟨by rfl, ?_⟩) (by assumption) ?_
                rotate_left
                · (intro w hSw; (try dsimp only at hSw); go_simp; first | done | (with_reducible rfl))
                try simp only [List.getElem_toArray, List.getElem_cons_succ, List.getElem_cons_zero, Act.put, List.setIfInBounds_toArray, List.set_cons_zero, List.set_cons_succ]
                refine wpAnyH_take (i := 23) (v := ?_) rfl (by kernel_rfl) (by kernel_rfl) (by kernel_rfl) (fun _ _ _ h => h) (Or.inl ⟨by rfl, ?_⟩) (by assumption) ?_
                rotate_left
                · (intro w hSw; (try dsimp only at hSw); go_simp; first | done | (with_reducible rfl))
                try simp only [List.getElem_toArray, List.getElem_cons_succ, List.getElem_cons_zero, Act.put, List.setIfInBounds_toArray, List.set_cons_zero, List.set_cons_succ]
                refine wpAnyH_done (by kernel_rfl) ?_ _
                refine NoPanic.normal ?_
                have HWX := Lib.hid (Fr.of_below (S := fun _ => False) hHeld)
                clear hHeld
                go_wp2_with fail
                go_roundg (n - (k + 1))
                case measure => (have := HK2.out.1; have := HK2.out.2.1; omega)
                case rel => exact Lib.hid ⟨k + 1, L9, P9, by go_num, by omega, by have := HK2.out.2.2; omega, by omega, HLX.out.fr HWX.out, HSX.out.fr HWX.out, HPX.out, HPB.out, HFXX.out.trans HWX.out (fun _ _ => id)⟩
              · have d2 : (d == 2) = false := beq_eq_false_iff_ne.2 hd2
                by_cases hd3 : d = 3
                · subst hd3
                  clear hd1 hd2
                  go_wp2_with fail
                  refine (HSP.out _).mono ?_
                  rintro x w5 ⟨rfl, hf5⟩
                  have HB5 := Lib.hid (HB4.out.fr hf5 id)
                  have HL5 := Lib.hid (HL4.out.fr hf5)
                  have HS5 := Lib.hid (HS4.out.fr hf5)
                  have HF5 := Lib.hid (HF4.out.trans hf5 (fun _ _ => id))
                  have x0 := HB5.out.cell 0
                  have x3 := HB5.out.cell 3
                  simp at x0 x3
                  clear hf5
                  go_wp2_with fail
                  refine (protect_any _ _ L s e p ⟨HAN.out.2.2.2.2.2.2.1, HAN.out.2.2.2.2.2.2.2.1⟩ ⟨HAN.out.2.2.2.2.2.2.2.2.1, HAN.out.2.2.2.2.2.2.2.2.2⟩ _ HL5.out (by have := HP.out.len; have := HPL.out; omega)).mono ?_
                  rintro x w6 ⟨y6, l6, rfl, hp6, hl6, hf6⟩
                  obtain ⟨rfl, hlL⟩ : y6 = 22 ∧ L = l6 := by
                    rcases hp6 with ⟨_, h1, h2⟩ | ⟨h1, _⟩ | ⟨h1, _⟩
                    · exact ⟨h1, h2.symm⟩
                    · rw [HE3.out] at h1; cases h1
                    · rw [HE3.out] at h1; cases h1
                  subst hlL
                  have HL6 := Lib.hid hl6
                  have HS6 := Lib.hid (HS5.out.keep HL5.out hf6)
                  have HF6 := Lib.hid (HF5.out.trans hf6 (fun i hi e => by omega))
                  clear hl6 hf6 hp6 x0 x3
                  have HLX := Lib.hid (HL6.out)
                  have HSX := Lib.hid (HS6.out)
                  have HPX := Lib.hid (HP.out)
                  have HPB := Lib.hid (HPN.out)
                  have HFXX := Lib.hid (HF6.out)
                  obtain ⟨L9, hL9⟩ : ∃ L9, L = L9 := ⟨_, rfl⟩
                  obtain ⟨P9, hP9⟩ : ∃ P9, P = P9 := ⟨_, rfl⟩
                  rw [hL9] at HLX HPX
                  rw [hP9] at HSX HPX HPB
                  clear hL9 hP9
                  obtain ⟨vP, hbP, hrP⟩ := HSX.out.row
                  obtain ⟨AP, cP, rfl, _, _⟩ := hrP.form
                  obtain ⟨np, hnp⟩ : ∃ np, P9.length = np := ⟨_, rfl⟩
                  have HPN9E := Lib.hid hnp
                  have HPN9 := Lib.hid (small_len HPX.out.ok HPX.out.sm HPB.out)
                  rw [hnp] at hbP
                  have HBP := Lib.hid hbP
                  have HRP := Lib.hid hrP
                  rw [hnp] at HRP
                  have HLN := Lib.hid (show L9.length ≤ 71 from by have := HPX.out.len; have := HPN9.out; omega)
                  obtain ⟨nl, hnl⟩ : ∃ nl, L9.length = nl := ⟨_, rfl⟩
                  have HLN9 := Lib.hid hnl
                  clear hbP hrP hnp hnl
                  go_wp2_with fail
                  refine wp_region_noPanic ?_
                  refine wp_region_held_drew (S := (fun w' => Below w6.heap.size w6 w')) (by kernel_rfl) ?_ (fun hHeld => ?_)
                  · exact below_drew (Below.refl _ _)
                  refine wpAnyH_take (i := 0) (v := ?_) rfl (by kernel_rfl) (by kernel_rfl) (by kernel_rfl) (fun _ _ _ h => h) (Or.inl ⟨by rfl, ?_⟩) (by assumption) ?_
                  rotate_left
                  · (intro w hSw; (try dsimp only at hSw); go_simp; first | done | (with_reducible rfl))
                  try simp only [List.getElem_toArray, List.getElem_cons_succ, List.getElem_cons_zero, Act.put, List.setIfInBounds_toArray, List.set_cons_zero, List.set_cons_succ]
                  refine wpAnyH_take (i := 1) (v := ?_) rfl (by kernel_rfl) (by kernel_rfl) (by kernel_rfl) (fun _ _ _ h => h) (Or.inl ⟨by rfl, ?_⟩) (by assumption) ?_
                  rotate_left
                  · (intro w hSw; (try dsimp only at hSw); go_simp; first | done | (with_reducible rfl))
                  try simp only [List.getElem_toArray, List.getElem_cons_succ, List.getElem_cons_zero, Act.put, List.setIfInBounds_toArray, List.set_cons_zero, List.set_cons_succ]
                  refine wpAnyH_take (i := 2) (v := ?_) rfl (by kernel_rfl) (by kernel_rfl) (by kernel_rfl) (fun _ _ _ h => h) (Or.inl ⟨by rfl, ?_⟩) (by assumption) ?_
                  rotate_left
                  · (intro w hSw; (try dsimp only at hSw); go_simp; first | done | (with_reducible rfl))
                  try simp only [List.getElem_toArray, List.getElem_cons_succ, List.getElem_cons_zero, Act.put, List.setIfInBounds_toArray, List.set_cons_zero, List.set_cons_succ]
                  refine wpAnyH_take (i := 3) (v := ?_) rfl (by kernel_rfl) (by kernel_rfl) (by kernel_rfl) (fun _ _ _ h => h) (Or.inl ⟨by rfl, ?_⟩) (by assumption) ?_
                  rotate_left
                  · (intro w hSw; (try dsimp only at hSw); go_simp; first | done | (with_reducible rfl))
                  try simp only [List.getElem_toArray, List.getElem_cons_succ, List.getElem_cons_zero, Act.put, List.setIfInBounds_toArray, List.set_cons_zero, List.set_cons_succ]
                  refine wpAnyH_take (i := 4) (v := ?_) rfl (by kernel_rfl) (by kernel_rfl) (by kernel_rfl) (fun _ _ _ h => h) (Or.inl ⟨by rfl, ?_⟩) (by assumption) ?_
                  rotate_left
                  · (intro w hSw; (try dsimp only at hSw); go_simp; first | done | (with_reducible rfl))
                  try simp only [List.getElem_toArray, List.getElem_cons_succ, List.getElem_cons_zero, Act.put, List.setIfInBounds_toArray, List.set_cons_zero, List.set_cons_succ]
                  refine wpAnyH_take (i := 6) (v := ?_) rfl (by kernel_rfl) (by kernel_rfl) (by kernel_rfl) (fun _ _ _ h => h) (Or.inl ⟨by rfl, ?_⟩) (by assumption) ?_
                  rotate_left
                  · (intro w hSw; (try dsimp only at hSw); go_simp; first | done | (with_reducible rfl))
                  try simp only [List.getElem_toArray, List.getElem_cons_succ, List.getElem_cons_zero, Act.put, List.setIfInBounds_toArray, List.set_cons_zero, List.set_cons_succ]
                  refine wpAnyH_take (i := 7) (v := ?_) rfl (by kernel_rfl) (by kernel_rfl) (by kernel_rfl) (fun _ _ _ h => h) (Or.inl ⟨by rfl, ?_⟩) (by assumption) ?_
                  rotate_left
                  · (intro w hSw; (try dsimp only at hSw); go_simp; first | done | (with_reducible rfl))
                  try simp only [List.getElem_toArray, List.getElem_cons_succ, List.getElem_cons_zero, Act.put, List.setIfInBounds_toArray, List.set_cons_zero, List.set_cons_succ]
                  refine wpAnyH_take (i := 8) (v := ?_) rfl (by kernel_rfl) (by kernel_rfl) (by kernel_rfl) (fun _ _ _ h => h) (Or.inl ⟨by rfl, ?_⟩) (by assumption) ?_
                  rotate_left
                  · (intro w hSw; (try dsimp only at hSw); go_simp; first | done | (with_reducible rfl))
                  try simp only [List.getElem_toArray, List.getElem_cons_succ, List.getElem_cons_zero, Act.put, List.setIfInBounds_toArray, List.set_cons_zero, List.set_cons_succ]
                  refine wpAnyH_take (i := 9) (v := .slice AP np cP) rfl (by kernel_rfl) (by kernel_rfl) (by kernel_rfl) (fun _ _ _ h => h) (Or.inl ⟨by rfl, fun w h => by have k0 := Blk.cell (show Blk w gm 43 #[.slice AP np cP, .int .i64 100, .int .u64 0, .int .u64 0] from (h.block _ HBP.out.lt).trans HBP.out) 0; simp at k0; go_simp⟩) (by assumption) ?_
                  try simp only [List.getElem_toArray, List.getElem_cons_succ, List.getElem_cons_zero, Act.put, List.setIfInBounds_toArray, List.set_cons_zero, List.set_cons_succ]
                  refine wpAnyH_ready (rs := [5]) (by kernel_rfl) (by simp) ?_
                  refine AllReadyH.cons rfl (fun K' hK' => ?_) AllReadyH.nil
                  go_simp
                  go_at_call 23
                  refine (all_any _ _ L9 _ (HLX.out.fr (Fr.of_below (S := fun _ => False) hHeld)) (by have := HLN.out; omega)).mono ?_
                  rintro e1 wa ⟨va, rfl, hoa, hfa⟩
                  obtain ⟨Aa, ca, rfl, _, _⟩ := hoa.form
                  have HOa := Lib.hid hoa
                  have hS1 := Fr.below hHeld hfa (fun _ _ => id)
                  rw [HLN9.out]
                  clear hoa hfa
                  clear hHeld
                  refine hK'.out _ _ hS1 (fun hHeld => ?_)
                  clear hK' K' hS1
                  try simp only [List.getElem_toArray, List.getElem_cons_succ, List.getElem_cons_zero, Act.put, List.setIfInBounds_toArray, List.set_cons_zero, List.set_cons_succ]
                  refine wpAnyH_ready (rs := [10]) (by kernel_rfl) (by simp) ?_
                  refine AllReadyH.cons rfl (fun K' hK' => ?_) AllReadyH.nil
                  go_simp
                  go_at_call 17
                  refine (regions_any _ P9 _ _ (HRP.out.fr (Fr.of_below (S := fun _ => False) hHeld) (fun _ _ => id)) (by have := HPN9.out; omega) HPX.out.sm).mono ?_
                  rintro e1 wb ⟨vb, rfl, hob, hbb⟩
                  rw [HPX.out.regs] at hob
                  obtain ⟨Ab, cb, rfl, _, _⟩ := hob.form
                  have HOb := Lib.hid hob
                  have HOa2 := Lib.hid (HOa.out.fr (Fr.of_below (S := fun _ => False) hbb) (fun _ _ => id))
                  clear HOa
                  have HOa := HOa2
                  clear HOa2
                  have hS1 := Fr.below hHeld (Fr.of_below (S := fun _ => False) hbb) (fun _ _ => id)
                  rw [HLN9.out]
                  clear hob hbb
                  clear hHeld
                  refine hK'.out _ _ hS1 (fun hHeld => ?_)
                  clear hK' K' hS1
                  try simp only [List.getElem_toArray, List.getElem_cons_succ, List.getElem_cons_zero, Act.put, List.setIfInBounds_toArray, List.set_cons_zero, List.set_cons_succ]
                  refine wpAnyH_ready (rs := [11]) (by kernel_rfl) (by simp) ?_
                  refine AllReadyH.cons rfl (fun K' hK' => ?_) AllReadyH.nil
                  go_simp
                  go_at_call 32
                  have hoa := HOa.out
                  have hob := HOb.out
                  rw [HLN9.out] at hoa hob
                  refine (same_any _ _ L9 _ _ _ hoa hob (by have := HLN.out; omega)).mono ?_
                  rintro e1 wc ⟨rfl, hfc⟩
                  have hS1 := Fr.below hHeld hfc (fun _ _ => id)
                  clear hfc hoa hob
                  clear hHeld
                  refine hK'.out _ _ hS1 (fun hHeld => ?_)
                  clear hK' K' hS1
                  try simp only [List.getElem_toArray, List.getElem_cons_succ, List.getElem_cons_zero, Act.put, List.setIfInBounds_toArray, List.set_cons_zero, List.set_cons_succ]
                  refine wpAnyH_take (i := 12) (v := ?_) rfl (by kernel_rfl) (by kernel_rfl) (by kernel_rfl) (fun _ _ _ h => h) (Or.inl ⟨by rfl, ?_⟩) (by assumption) ?_
                  rotate_left
                  · (intro w hSw; (try dsimp only at hSw); go_simp; first | done | (with_reducible rfl))
                  try simp only [List.getElem_toArray, List.getElem_cons_succ, List.getElem_cons_zero, Act.put, List.setIfInBounds_toArray, List.set_cons_zero, List.set_cons_succ]
                  refine wpAnyH_take (i := 13) (v := ?_) rfl (by kernel_rfl) (by kernel_rfl) (by kernel_rfl) (fun _ _ _ h => h) (Or.inl ⟨by rfl, ?_⟩) (by assumption) ?_
                  rotate_left
                  · (intro w hSw; (try dsimp only at hSw); go_simp; first | done | (with_reducible rfl))
                  try simp only [List.getElem_toArray, List.getElem_cons_succ, List.getElem_cons_zero, Act.put, List.setIfInBounds_toArray, List.set_cons_zero, List.set_cons_succ]
                  refine wpAnyH_take (i := 14) (v := ?_) rfl (by kernel_rfl) (by kernel_rfl) (by kernel_rfl) (fun _ _ _ h => h) (Or.inl ⟨by rfl, ?_⟩) (by assumption) ?_
                  rotate_left
                  · (intro w hSw; (try dsimp only at hSw); go_simp; first | done | (with_reducible rfl))
                  try simp only [List.getElem_toArray, List.getElem_cons_succ, List.getElem_cons_zero, Act.put, List.setIfInBounds_toArray, List.set_cons_zero, List.set_cons_succ]
                  refine wpAnyH_take (i := 15) (v := ?_) rfl (by kernel_rfl) (by kernel_rfl) (by kernel_rfl) (fun _ _ _ h => h) (Or.inl ⟨by rfl, ?_⟩) (by assumption) ?_
                  rotate_left
                  · (intro w hSw; (try dsimp only at hSw); go_simp; first | done | (with_reducible rfl))
                  try simp only [List.getElem_toArray, List.getElem_cons_succ, List.getElem_cons_zero, Act.put, List.setIfInBounds_toArray, List.set_cons_zero, List.set_cons_succ]
                  refine wpAnyH_take (i := 17) (v := ?_) rfl (by kernel_rfl) (by kernel_rfl) (by kernel_rfl) (fun _ _ _ h => h) (Or.inl ⟨by rfl, ?_⟩) (by assumption) ?_
                  rotate_left
                  · (intro w hSw; (try dsimp only at hSw); go_simp; first | done | (with_reducible rfl))
                  try simp only [List.getElem_toArray, List.getElem_cons_succ, List.getElem_cons_zero, Act.put, List.setIfInBounds_toArray, List.set_cons_zero, List.set_cons_succ]
                  refine wpAnyH_take (i := 18) (v := ?_) rfl (by kernel_rfl) (by kernel_rfl) (by kernel_rfl) (fun _ _ _ h => h) (Or.inl ⟨by rfl, ?_⟩) (by assumption) ?_
                  rotate_left
                  · (intro w hSw; (try dsimp only at hSw); go_simp; first | done | (with_reducible rfl))
                  try simp only [List.getElem_toArray, List.getElem_cons_succ, List.getElem_cons_zero, Act.put, List.setIfInBounds_toArray, List.set_cons_zero, List.set_cons_succ]
                  refine wpAnyH_take (i := 19) (v := ?_) rfl (by kernel_rfl) (by kernel_rfl) (by kernel_rfl) (fun _ _ _ h => h) (Or.inl ⟨by rfl, ?_⟩) (by assumption) ?_
                  rotate_left
                  · (intro w hSw; (try dsimp only at hSw); go_simp; first | done | (with_reducible rfl))
                  try simp only [List.getElem_toArray, List.getElem_cons_succ, List.getElem_cons_zero, Act.put, List.setIfInBounds_toArray, List.set_cons_zero, List.set_cons_succ]
                  refine wpAnyH_take (i := 20) (v := .slice AP np cP) rfl (by kernel_rfl) (by kernel_rfl) (by kernel_rfl) (fun _ _ _ h => h) (Or.inl ⟨by rfl, fun w h => by have k0 := Blk.cell (show Blk w gm 43 #[.slice AP np cP, .int .i64 100, .int .u64 0, .int .u64 0] from (h.block _ HBP.out.lt).trans HBP.out) 0; simp at k0; go_simp⟩) (by assumption) ?_
                  try simp only [List.getElem_toArray, List.getElem_cons_succ, List.getElem_cons_zero, Act.put, List.setIfInBounds_toArray, List.set_cons_zero, List.set_cons_succ]
                  refine wpAnyH_take (i := 21) (v := ?_) rfl (by kernel_rfl) (by kernel_rfl) (by kernel_rfl) (fun _ _ _ h => h) (Or.inl ⟨by rfl, ?_⟩) (by assumption) ?_
                  rotate_left
                  · (intro w hSw; (try dsimp only at hSw); go_simp; first | done | (with_reducible rfl))
                  try simp only [List.getElem_toArray, List.getElem_cons_succ, List.getElem_cons_zero, Act.put, List.setIfInBounds_toArray, List.set_cons_zero, List.set_cons_succ]
                  refine wpAnyH_ready (rs := [16]) (by kernel_rfl) (by simp) ?_
                  refine AllReadyH.cons rfl (fun K' hK' => ?_) AllReadyH.nil
                  go_simp
                  go_at_call 33
                  refine (pages_any _ _ L9 _ (HLX.out.fr (Fr.of_below (S := fun _ => False) hHeld)) (by have := HLN.out; omega) HPX.out.cl.ok.Val).mono ?_
                  rintro e1 wd ⟨rfl, hfd⟩
                  rw [HPX.out.pages, HPN9E.out]
                  have hS1 := Fr.below hHeld hfd (fun _ _ => id)
                  clear hfd
                  clear hHeld
                  refine hK'.out _ _ hS1 (fun hHeld => ?_)
                  clear hK' K' hS1
                  try simp only [List.getElem_toArray, List.getElem_cons_succ, List.getElem_cons_zero, Act.put, List.setIfInBounds_toArray, List.set_cons_zero, List.set_cons_succ]
                  refine wpAnyH_take (i := 22) (v := ?_) rfl (by kernel_rfl) (by kernel_rfl) (by kernel_rfl) (fun _ _ _ h => h) (Or.inl ⟨by rfl, ?_⟩) (by assumption) ?_
                  rotate_left
                  · (intro w hSw; (try dsimp only at hSw); go_simp; first | done | (with_reducible rfl))
                  try simp only [List.getElem_toArray, List.getElem_cons_succ, List.getElem_cons_zero, Act.put, List.setIfInBounds_toArray, List.set_cons_zero, List.set_cons_succ]
                  refine wpAnyH_take (i := 23) (v := ?_) rfl (by kernel_rfl) (by kernel_rfl) (by kernel_rfl) (fun _ _ _ h => h) (Or.inl ⟨by rfl, ?_⟩) (by assumption) ?_
                  rotate_left
                  · (intro w hSw; (try dsimp only at hSw); go_simp; first | done | (with_reducible rfl))
                  try simp only [List.getElem_toArray, List.getElem_cons_succ, List.getElem_cons_zero, Act.put, List.setIfInBounds_toArray, List.set_cons_zero, List.set_cons_succ]
                  refine wpAnyH_done (by kernel_rfl) ?_ _
                  refine NoPanic.normal ?_
                  have HWX := Lib.hid (Fr.of_below (S := fun _ => False) hHeld)
                  clear hHeld
                  go_wp2_with fail
                  go_roundg (n - (k + 1))
                  case measure => (have := HK2.out.1; have := HK2.out.2.1; omega)
                  case rel => exact Lib.hid ⟨k + 1, L9, P9, by go_num, by omega, by have := HK2.out.2.2; omega, by omega, HLX.out.fr HWX.out, HSX.out.fr HWX.out, HPX.out, HPB.out, HFXX.out.trans HWX.out (fun _ _ => id)⟩
                · have d3 : (d == 3) = false := beq_eq_false_iff_ne.2 hd3
                  clear hd1 hd2 hd3
                  go_wp2_with fail
                  refine (HSP.out _).mono ?_
                  rintro x w5 ⟨rfl, hf5⟩
                  have HB5 := Lib.hid (HB4.out.fr hf5 id)
                  have HL5 := Lib.hid (HL4.out.fr hf5)
                  have HS5 := Lib.hid (HS4.out.fr hf5)
                  have HF5 := Lib.hid (HF4.out.trans hf5 (fun _ _ => id))
                  have x0 := HB5.out.cell 0
                  have x3 := HB5.out.cell 3
                  simp at x0 x3
                  clear hf5
                  go_wp2_with fail
                  go_roundg (n - (k + 1))
                  case measure => (have := HK2.out.1; have := HK2.out.2.1; omega)
                  case rel => exact Lib.hid ⟨k + 1, L, P, by go_num, by omega, by have := HK2.out.2.2; omega, by omega, HL5.out, HS5.out, HP.out, HPN.out, HF5.out⟩
          · have p1 : decide ((0 : Int) ≤ p) = false := decide_eq_false hp0
            clear hpr hp0
            by_cases hd1 : d = 1
            · subst hd1
              go_wp2_with fail
              refine (HSP.out _).mono ?_
              rintro x w5 ⟨rfl, hf5⟩
              have HB5 := Lib.hid (HB4.out.fr hf5 id)
              have HL5 := Lib.hid (HL4.out.fr hf5)
              have HS5 := Lib.hid (HS4.out.fr hf5)
              have HF5 := Lib.hid (HF4.out.trans hf5 (fun _ _ => id))
              have x0 := HB5.out.cell 0
              have x3 := HB5.out.cell 3
              simp at x0 x3
              clear hf5
              go_wp2_with fail
              refine (map_any _ _ L s e p ⟨HAN.out.2.2.2.2.2.2.1, HAN.out.2.2.2.2.2.2.2.1⟩ ⟨HAN.out.2.2.2.2.2.2.2.2.1, HAN.out.2.2.2.2.2.2.2.2.2⟩ _ HL5.out (by have := HP.out.len; have := HPL.out; omega)).mono ?_
              rintro x w6 ⟨rfl, hl6, hf6⟩
              rw [HE1.out.2] at hl6
              rw [HE1.out.1]
              have HL6 := Lib.hid hl6
              have HS6 := Lib.hid (HS5.out.keep HL5.out hf6)
              have HF6 := Lib.hid (HF5.out.trans hf6 (fun i hi e => by omega))
              clear hl6 hf6 x0 x3
              have HLX := Lib.hid (HL6.out)
              have HSX := Lib.hid (HS6.out)
              have HPX := Lib.hid (HP.out)
              have HPB := Lib.hid (HPN.out)
              have HFXX := Lib.hid (HF6.out)
              obtain ⟨L9, hL9⟩ : ∃ L9, L = L9 := ⟨_, rfl⟩
              obtain ⟨P9, hP9⟩ : ∃ P9, P = P9 := ⟨_, rfl⟩
              rw [hL9] at HLX HPX
              rw [hP9] at HSX HPX HPB
              clear hL9 hP9
              obtain ⟨vP, hbP, hrP⟩ := HSX.out.row
              obtain ⟨AP, cP, rfl, _, _⟩ := hrP.form
              obtain ⟨np, hnp⟩ : ∃ np, P9.length = np := ⟨_, rfl⟩
              have HPN9E := Lib.hid hnp
              have HPN9 := Lib.hid (small_len HPX.out.ok HPX.out.sm HPB.out)
              rw [hnp] at hbP
              have HBP := Lib.hid hbP
              have HRP := Lib.hid hrP
              rw [hnp] at HRP
              have HLN := Lib.hid (show L9.length ≤ 71 from by have := HPX.out.len; have := HPN9.out; omega)
              obtain ⟨nl, hnl⟩ : ∃ nl, L9.length = nl := ⟨_, rfl⟩
              have HLN9 := Lib.hid hnl
              clear hbP hrP hnp hnl
              go_wp2_with fail
              refine wp_region_noPanic ?_
              refine wp_region_held_drew (S := (fun w' => Below w6.heap.size w6 w')) (by kernel_rfl) ?_ (fun hHeld => ?_)
              · exact below_drew (Below.refl _ _)
              refine wpAnyH_take (i := 0) (v := ?_) rfl (by kernel_rfl) (by kernel_rfl) (by kernel_rfl) (fun _ _ _ h => h) (Or.inl ⟨by rfl, ?_⟩) (by assumption) ?_
              rotate_left
              · (intro w hSw; (try dsimp only at hSw); go_simp; first | done | (with_reducible rfl))
              try simp only [List.getElem_toArray, List.getElem_cons_succ, List.getElem_cons_zero, Act.put, List.setIfInBounds_toArray, List.set_cons_zero, List.set_cons_succ]
              refine wpAnyH_take (i := 1) (v := ?_) rfl (by kernel_rfl) (by kernel_rfl) (by kernel_rfl) (fun _ _ _ h => h) (Or.inl ⟨by rfl, ?_⟩) (by assumption) ?_
              rotate_left
              · (intro w hSw; (try dsimp only at hSw); go_simp; first | done | (with_reducible rfl))
              try simp only [List.getElem_toArray, List.getElem_cons_succ, List.getElem_cons_zero, Act.put, List.setIfInBounds_toArray, List.set_cons_zero, List.set_cons_succ]
              refine wpAnyH_take (i := 2) (v := ?_) rfl (by kernel_rfl) (by kernel_rfl) (by kernel_rfl) (fun _ _ _ h => h) (Or.inl ⟨by rfl, ?_⟩) (by assumption) ?_
              rotate_left
              · (intro w hSw; (try dsimp only at hSw); go_simp; first | done | (with_reducible rfl))
              try simp only [List.getElem_toArray, List.getElem_cons_succ, List.getElem_cons_zero, Act.put, List.setIfInBounds_toArray, List.set_cons_zero, List.set_cons_succ]
              refine wpAnyH_take (i := 3) (v := ?_) rfl (by kernel_rfl) (by kernel_rfl) (by kernel_rfl) (fun _ _ _ h => h) (Or.inl ⟨by rfl, ?_⟩) (by assumption) ?_
              rotate_left
              · (intro w hSw; (try dsimp only at hSw); go_simp; first | done | (with_reducible rfl))
              try simp only [List.getElem_toArray, List.getElem_cons_succ, List.getElem_cons_zero, Act.put, List.setIfInBounds_toArray, List.set_cons_zero, List.set_cons_succ]
              refine wpAnyH_take (i := 4) (v := ?_) rfl (by kernel_rfl) (by kernel_rfl) (by kernel_rfl) (fun _ _ _ h => h) (Or.inl ⟨by rfl, ?_⟩) (by assumption) ?_
              rotate_left
              · (intro w hSw; (try dsimp only at hSw); go_simp; first | done | (with_reducible rfl))
              try simp only [List.getElem_toArray, List.getElem_cons_succ, List.getElem_cons_zero, Act.put, List.setIfInBounds_toArray, List.set_cons_zero, List.set_cons_succ]
              refine wpAnyH_take (i := 6) (v := ?_) rfl (by kernel_rfl) (by kernel_rfl) (by kernel_rfl) (fun _ _ _ h => h) (Or.inl ⟨by rfl, ?_⟩) (by assumption) ?_
              rotate_left
              · (intro w hSw; (try dsimp only at hSw); go_simp; first | done | (with_reducible rfl))
              try simp only [List.getElem_toArray, List.getElem_cons_succ, List.getElem_cons_zero, Act.put, List.setIfInBounds_toArray, List.set_cons_zero, List.set_cons_succ]
              refine wpAnyH_take (i := 7) (v := ?_) rfl (by kernel_rfl) (by kernel_rfl) (by kernel_rfl) (fun _ _ _ h => h) (Or.inl ⟨by rfl, ?_⟩) (by assumption) ?_
              rotate_left
              · (intro w hSw; (try dsimp only at hSw); go_simp; first | done | (with_reducible rfl))
              try simp only [List.getElem_toArray, List.getElem_cons_succ, List.getElem_cons_zero, Act.put, List.setIfInBounds_toArray, List.set_cons_zero, List.set_cons_succ]
              refine wpAnyH_take (i := 8) (v := ?_) rfl (by kernel_rfl) (by kernel_rfl) (by kernel_rfl) (fun _ _ _ h => h) (Or.inl ⟨by rfl, ?_⟩) (by assumption) ?_
              rotate_left
              · (intro w hSw; (try dsimp only at hSw); go_simp; first | done | (with_reducible rfl))
              try simp only [List.getElem_toArray, List.getElem_cons_succ, List.getElem_cons_zero, Act.put, List.setIfInBounds_toArray, List.set_cons_zero, List.set_cons_succ]
              refine wpAnyH_take (i := 9) (v := .slice AP np cP) rfl (by kernel_rfl) (by kernel_rfl) (by kernel_rfl) (fun _ _ _ h => h) (Or.inl ⟨by rfl, fun w h => by have k0 := Blk.cell (show Blk w gm 43 #[.slice AP np cP, .int .i64 100, .int .u64 0, .int .u64 0] from (h.block _ HBP.out.lt).trans HBP.out) 0; simp at k0; go_simp⟩) (by assumption) ?_
              try simp only [List.getElem_toArray, List.getElem_cons_succ, List.getElem_cons_zero, Act.put, List.setIfInBounds_toArray, List.set_cons_zero, List.set_cons_succ]
              refine wpAnyH_ready (rs := [5]) (by kernel_rfl) (by simp) ?_
              refine AllReadyH.cons rfl (fun K' hK' => ?_) AllReadyH.nil
              go_simp
              go_at_call 23
              refine (all_any _ _ L9 _ (HLX.out.fr (Fr.of_below (S := fun _ => False) hHeld)) (by have := HLN.out; omega)).mono ?_
              rintro e1 wa ⟨va, rfl, hoa, hfa⟩
              obtain ⟨Aa, ca, rfl, _, _⟩ := hoa.form
              have HOa := Lib.hid hoa
              have hS1 := Fr.below hHeld hfa (fun _ _ => id)
              rw [HLN9.out]
              clear hoa hfa
              clear hHeld
              refine hK'.out _ _ hS1 (fun hHeld => ?_)
              clear hK' K' hS1
              try simp only [List.getElem_toArray, List.getElem_cons_succ, List.getElem_cons_zero, Act.put, List.setIfInBounds_toArray, List.set_cons_zero, List.set_cons_succ]
              refine wpAnyH_ready (rs := [10]) (by kernel_rfl) (by simp) ?_
              refine AllReadyH.cons rfl (fun K' hK' => ?_) AllReadyH.nil
              go_simp
              go_at_call 17
              refine (regions_any _ P9 _ _ (HRP.out.fr (Fr.of_below (S := fun _ => False) hHeld) (fun _ _ => id)) (by have := HPN9.out; omega) HPX.out.sm).mono ?_
              rintro e1 wb ⟨vb, rfl, hob, hbb⟩
              rw [HPX.out.regs] at hob
              obtain ⟨Ab, cb, rfl, _, _⟩ := hob.form
              have HOb := Lib.hid hob
              have HOa2 := Lib.hid (HOa.out.fr (Fr.of_below (S := fun _ => False) hbb) (fun _ _ => id))
              clear HOa
              have HOa := HOa2
              clear HOa2
              have hS1 := Fr.below hHeld (Fr.of_below (S := fun _ => False) hbb) (fun _ _ => id)
              rw [HLN9.out]
              clear hob hbb
              clear hHeld
              refine hK'.out _ _ hS1 (fun hHeld => ?_)
              clear hK' K' hS1
              try simp only [List.getElem_toArray, List.getElem_cons_succ, List.getElem_cons_zero, Act.put, List.setIfInBounds_toArray, List.set_cons_zero, List.set_cons_succ]
              refine wpAnyH_ready (rs := [11]) (by kernel_rfl) (by simp) ?_
              refine AllReadyH.cons rfl (fun K' hK' => ?_) AllReadyH.nil
              go_simp
              go_at_call 32
              have hoa := HOa.out
              have hob := HOb.out
              rw [HLN9.out] at hoa hob
              refine (same_any _ _ L9 _ _ _ hoa hob (by have := HLN.out; omega)).mono ?_
              rintro e1 wc ⟨rfl, hfc⟩
              have hS1 := Fr.below hHeld hfc (fun _ _ => id)
              clear hfc hoa hob
              clear hHeld
              refine hK'.out _ _ hS1 (fun hHeld => ?_)
              clear hK' K' hS1
              try simp only [List.getElem_toArray, List.getElem_cons_succ, List.getElem_cons_zero, Act.put, List.setIfInBounds_toArray, List.set_cons_zero, List.set_cons_succ]
              refine wpAnyH_take (i := 12) (v := ?_) rfl (by kernel_rfl) (by kernel_rfl) (by kernel_rfl) (fun _ _ _ h => h) (Or.inl ⟨by rfl, ?_⟩) (by assumption) ?_
              rotate_left
              · (intro w hSw; (try dsimp only at hSw); go_simp; first | done | (with_reducible rfl))
              try simp only [List.getElem_toArray, List.getElem_cons_succ, List.getElem_cons_zero, Act.put, List.setIfInBounds_toArray, List.set_cons_zero, List.set_cons_succ]
              refine wpAnyH_take (i := 13) (v := ?_) rfl (by kernel_rfl) (by kernel_rfl) (by kernel_rfl) (fun _ _ _ h => h) (Or.inl ⟨by rfl, ?_⟩) (by assumption) ?_
              rotate_left
              · (intro w hSw; (try dsimp only at hSw); go_simp; first | done | (with_reducible rfl))
              try simp only [List.getElem_toArray, List.getElem_cons_succ, List.getElem_cons_zero, Act.put, List.setIfInBounds_toArray, List.set_cons_zero, List.set_cons_succ]
              refine wpAnyH_take (i := 14) (v := ?_) rfl (by kernel_rfl) (by kernel_rfl) (by kernel_rfl) (fun _ _ _ h => h) (Or.inl ⟨by rfl, ?_⟩) (by assumption) ?_
              rotate_left
              · (intro w hSw; (try dsimp only at hSw); go_simp; first | done | (with_reducible rfl))
              try simp only [List.getElem_toArray, List.getElem_cons_succ, List.getElem_cons_zero, Act.put, List.setIfInBounds_toArray, List.set_cons_zero, List.set_cons_succ]
              refine wpAnyH_take (i := 15) (v := ?_) rfl (by kernel_rfl) (by kernel_rfl) (by kernel_rfl) (fun _ _ _ h => h) (Or.inl ⟨by rfl, ?_⟩) (by assumption) ?_
              rotate_left
              · (intro w hSw; (try dsimp only at hSw); go_simp; first | done | (with_reducible rfl))
              try simp only [List.getElem_toArray, List.getElem_cons_succ, List.getElem_cons_zero, Act.put, List.setIfInBounds_toArray, List.set_cons_zero, List.set_cons_succ]
              refine wpAnyH_take (i := 17) (v := ?_) rfl (by kernel_rfl) (by kernel_rfl) (by kernel_rfl) (fun _ _ _ h => h) (Or.inl ⟨by rfl, ?_⟩) (by assumption) ?_
              rotate_left
              · (intro w hSw; (try dsimp only at hSw); go_simp; first | done | (with_reducible rfl))
              try simp only [List.getElem_toArray, List.getElem_cons_succ, List.getElem_cons_zero, Act.put, List.setIfInBounds_toArray, List.set_cons_zero, List.set_cons_succ]
              refine wpAnyH_take (i := 18) (v := ?_) rfl (by kernel_rfl) (by kernel_rfl) (by kernel_rfl) (fun _ _ _ h => h) (Or.inl ⟨by rfl, ?_⟩) (by assumption) ?_
              rotate_left
              · (intro w hSw; (try dsimp only at hSw); go_simp; first | done | (with_reducible rfl))
              try simp only [List.getElem_toArray, List.getElem_cons_succ, List.getElem_cons_zero, Act.put, List.setIfInBounds_toArray, List.set_cons_zero, List.set_cons_succ]
              refine wpAnyH_take (i := 19) (v := ?_) rfl (by kernel_rfl) (by kernel_rfl) (by kernel_rfl) (fun _ _ _ h => h) (Or.inl ⟨by rfl, ?_⟩) (by assumption) ?_
              rotate_left
              · (intro w hSw; (try dsimp only at hSw); go_simp; first | done | (with_reducible rfl))
              try simp only [List.getElem_toArray, List.getElem_cons_succ, List.getElem_cons_zero, Act.put, List.setIfInBounds_toArray, List.set_cons_zero, List.set_cons_succ]
              refine wpAnyH_take (i := 20) (v := .slice AP np cP) rfl (by kernel_rfl) (by kernel_rfl) (by kernel_rfl) (fun _ _ _ h => h) (Or.inl ⟨by rfl, fun w h => by have k0 := Blk.cell (show Blk w gm 43 #[.slice AP np cP, .int .i64 100, .int .u64 0, .int .u64 0] from (h.block _ HBP.out.lt).trans HBP.out) 0; simp at k0; go_simp⟩) (by assumption) ?_
              try simp only [List.getElem_toArray, List.getElem_cons_succ, List.getElem_cons_zero, Act.put, List.setIfInBounds_toArray, List.set_cons_zero, List.set_cons_succ]
              refine wpAnyH_take (i := 21) (v := ?_) rfl (by kernel_rfl) (by kernel_rfl) (by kernel_rfl) (fun _ _ _ h => h) (Or.inl ⟨by rfl, ?_⟩) (by assumption) ?_
              rotate_left
              · (intro w hSw; (try dsimp only at hSw); go_simp; first | done | (with_reducible rfl))
              try simp only [List.getElem_toArray, List.getElem_cons_succ, List.getElem_cons_zero, Act.put, List.setIfInBounds_toArray, List.set_cons_zero, List.set_cons_succ]
              refine wpAnyH_ready (rs := [16]) (by kernel_rfl) (by simp) ?_
              refine AllReadyH.cons rfl (fun K' hK' => ?_) AllReadyH.nil
              go_simp
              go_at_call 33
              refine (pages_any _ _ L9 _ (HLX.out.fr (Fr.of_below (S := fun _ => False) hHeld)) (by have := HLN.out; omega) HPX.out.cl.ok.Val).mono ?_
              rintro e1 wd ⟨rfl, hfd⟩
              rw [HPX.out.pages, HPN9E.out]
              have hS1 := Fr.below hHeld hfd (fun _ _ => id)
              clear hfd
              clear hHeld
              refine hK'.out _ _ hS1 (fun hHeld => ?_)
              clear hK' K' hS1
              try simp only [List.getElem_toArray, List.getElem_cons_succ, List.getElem_cons_zero, Act.put, List.setIfInBounds_toArray, List.set_cons_zero, List.set_cons_succ]
              refine wpAnyH_take (i := 22) (v := ?_) rfl (by kernel_rfl) (by kernel_rfl) (by kernel_rfl) (fun _ _ _ h => h) (Or.inl ⟨by rfl, ?_⟩) (by assumption) ?_
              rotate_left
              · (intro w hSw; (try dsimp only at hSw); go_simp; first | done | (with_reducible rfl))
              try simp only [List.getElem_toArray, List.getElem_cons_succ, List.getElem_cons_zero, Act.put, List.setIfInBounds_toArray, List.set_cons_zero, List.set_cons_succ]
              refine wpAnyH_take (i := 23) (v := ?_) rfl (by kernel_rfl) (by kernel_rfl) (by kernel_rfl) (fun _ _ _ h => h) (Or.inl ⟨by rfl, ?_⟩) (by assumption) ?_
              rotate_left
              · (intro w hSw; (try dsimp only at hSw); go_simp; first | done | (with_reducible rfl))
              try simp only [List.getElem_toArray, List.getElem_cons_succ, List.getElem_cons_zero, Act.put, List.setIfInBounds_toArray, List.set_cons_zero, List.set_cons_succ]
              refine wpAnyH_done (by kernel_rfl) ?_ _
              refine NoPanic.normal ?_
              have HWX := Lib.hid (Fr.of_below (S := fun _ => False) hHeld)
              clear hHeld
              go_wp2_with fail
              go_roundg (n - (k + 1))
              case measure => (have := HK2.out.1; have := HK2.out.2.1; omega)
              case rel => exact Lib.hid ⟨k + 1, L9, P9, by go_num, by omega, by have := HK2.out.2.2; omega, by omega, HLX.out.fr HWX.out, HSX.out.fr HWX.out, HPX.out, HPB.out, HFXX.out.trans HWX.out (fun _ _ => id)⟩
            · have d1 : (d == 1) = false := beq_eq_false_iff_ne.2 hd1
              by_cases hd2 : d = 2
              · subst hd2
                clear hd1
                go_wp2_with fail
                refine (HSP.out _).mono ?_
                rintro x w5 ⟨rfl, hf5⟩
                have HB5 := Lib.hid (HB4.out.fr hf5 id)
                have HL5 := Lib.hid (HL4.out.fr hf5)
                have HS5 := Lib.hid (HS4.out.fr hf5)
                have HF5 := Lib.hid (HF4.out.trans hf5 (fun _ _ => id))
                have x0 := HB5.out.cell 0
                have x3 := HB5.out.cell 3
                simp at x0 x3
                clear hf5
                go_wp2_with fail
                refine (unmap_any _ _ L s e ⟨HAN.out.2.2.2.2.2.2.1, HAN.out.2.2.2.2.2.2.2.1⟩ ⟨HAN.out.2.2.2.2.2.2.2.2.1, HAN.out.2.2.2.2.2.2.2.2.2⟩ _ HL5.out (by have := HP.out.len; have := HPL.out; omega)).mono ?_
                rintro x w6 ⟨rfl, hl6, hf6⟩
                have HUM := Lib.hid (show unE L s e = 0 ∧ Pair (unL L s e) (withoutP s e P) from by
                  have h := HP.out.unmap (a := A) (N := N) HAN.out.2.1 (by have := HAN.out.1; have := HAN.out.2.2.1; omega) (by have := HPL.out; omega)
                  rwa [HAN.out.2.2.2.1, HAN.out.2.2.2.2.1] at h)
                rw [HUM.out.1]
                have HL6 := Lib.hid hl6
                have HS6 := Lib.hid (HS5.out.keep HL5.out hf6)
                have HF6 := Lib.hid (HF5.out.trans hf6 (fun i hi e => by omega))
                clear hl6 hf6 x0 x3
                go_wp2_with fail
                refine (HSP.out _).mono ?_
                rintro x w7 ⟨rfl, hf7⟩
                have HL7 := Lib.hid (HL6.out.fr hf7)
                have HS7 := Lib.hid (HS6.out.fr hf7)
                have HF7 := Lib.hid (HF6.out.trans hf7 (fun _ _ => id))
                clear hf7
                go_wp2_with fail
                refine (unmapP_any w.heap.size gm P A N s e Z HAN.out.2.2.2.1 HAN.out.2.2.2.2.1 HAN.out.2.2.2.2.2.1 HAN.out.2.1 (by have := HAN.out.1; have := HAN.out.2.2.1; omega) _ HS7.out HF7.out.size HP.out.sm (by have := HPL.out; omega)).mono ?_
                rintro x w8 ⟨rfl, hs8, hf8⟩
                have HS8 := Lib.hid hs8
                have HL8 := Lib.hid (HL7.out.keep HS7.out hf8)
                have HF8 := Lib.hid (HF7.out.trans hf8 (fun i hi e => by have := HS7.out.gb; omega))
                clear hs8 hf8
                have HLX := Lib.hid (HL8.out)
                have HSX := Lib.hid (HS8.out)
                have HPX := Lib.hid (HUM.out.2)
                have HPB := Lib.hid (show ∀ x ∈ withoutP s e P, x.n < 71 from fun x hx => HPN.out x (List.mem_filter.1 hx).1)
                have HFXX := Lib.hid (HF8.out)
                obtain ⟨L9, hL9⟩ : ∃ L9, unL L s e = L9 := ⟨_, rfl⟩
                obtain ⟨P9, hP9⟩ : ∃ P9, withoutP s e P = P9 := ⟨_, rfl⟩
                rw [hL9] at HLX HPX
                rw [hP9] at HSX HPX HPB
                clear hL9 hP9
                obtain ⟨vP, hbP, hrP⟩ := HSX.out.row
                obtain ⟨AP, cP, rfl, _, _⟩ := hrP.form
                obtain ⟨np, hnp⟩ : ∃ np, P9.length = np := ⟨_, rfl⟩
                have HPN9E := Lib.hid hnp
                have HPN9 := Lib.hid (small_len HPX.out.ok HPX.out.sm HPB.out)
                rw [hnp] at hbP
                have HBP := Lib.hid hbP
                have HRP := Lib.hid hrP
                rw [hnp] at HRP
                have HLN := Lib.hid (show L9.length ≤ 71 from by have := HPX.out.len; have := HPN9.out; omega)
                obtain ⟨nl, hnl⟩ : ∃ nl, L9.length = nl := ⟨_, rfl⟩
                have HLN9 := Lib.hid hnl
                clear hbP hrP hnp hnl
                go_wp2_with fail
                refine wp_region_noPanic ?_
                refine wp_region_held_drew (S := (fun w' => Below w8.heap.size w8 w')) (by kernel_rfl) ?_ (fun hHeld => ?_)
                · exact below_drew (Below.refl _ _)
                refine wpAnyH_take (i := 0) (v := ?_) rfl (by kernel_rfl) (by kernel_rfl) (by kernel_rfl) (fun _ _ _ h => h) (Or.inl ⟨by rfl, ?_⟩) (by assumption) ?_
                rotate_left
                · (intro w hSw; (try dsimp only at hSw); go_simp; first | done | (with_reducible rfl))
                try simp only [List.getElem_toArray, List.getElem_cons_succ, List.getElem_cons_zero, Act.put, List.setIfInBounds_toArray, List.set_cons_zero, List.set_cons_succ]
                refine wpAnyH_take (i := 1) (v := ?_) rfl (by kernel_rfl) (by kernel_rfl) (by kernel_rfl) (fun _ _ _ h => h) (Or.inl ⟨by rfl, ?_⟩) (by assumption) ?_
                rotate_left
                · (intro w hSw; (try dsimp only at hSw); go_simp; first | done | (with_reducible rfl))
                try simp only [List.getElem_toArray, List.getElem_cons_succ, List.getElem_cons_zero, Act.put, List.setIfInBounds_toArray, List.set_cons_zero, List.set_cons_succ]
                refine wpAnyH_take (i := 2) (v := ?_) rfl (by kernel_rfl) (by kernel_rfl) (by kernel_rfl) (fun _ _ _ h => h) (Or.inl ⟨by rfl, ?_⟩) (by assumption) ?_
                rotate_left
                · (intro w hSw; (try dsimp only at hSw); go_simp; first | done | (with_reducible rfl))
                try simp only [List.getElem_toArray, List.getElem_cons_succ, List.getElem_cons_zero, Act.put, List.setIfInBounds_toArray, List.set_cons_zero, List.set_cons_succ]
                refine wpAnyH_take (i := 3) (v := ?_) rfl (by kernel_rfl) (by kernel_rfl) (by kernel_rfl) (fun _ _ _ h => h) (Or.inl ⟨by rfl, ?_⟩) (by assumption) ?_
                rotate_left
                · (intro w hSw; (try dsimp only at hSw); go_simp; first | done | (with_reducible rfl))
                try simp only [List.getElem_toArray, List.getElem_cons_succ, List.getElem_cons_zero, Act.put, List.setIfInBounds_toArray, List.set_cons_zero, List.set_cons_succ]
                refine wpAnyH_take (i := 4) (v := ?_) rfl (by kernel_rfl) (by kernel_rfl) (by kernel_rfl) (fun _ _ _ h => h) (Or.inl ⟨by rfl, ?_⟩) (by assumption) ?_
                rotate_left
                · (intro w hSw; (try dsimp only at hSw); go_simp; first | done | (with_reducible rfl))
                try simp only [List.getElem_toArray, List.getElem_cons_succ, List.getElem_cons_zero, Act.put, List.setIfInBounds_toArray, List.set_cons_zero, List.set_cons_succ]
                refine wpAnyH_take (i := 6) (v := ?_) rfl (by kernel_rfl) (by kernel_rfl) (by kernel_rfl) (fun _ _ _ h => h) (Or.inl ⟨by rfl, ?_⟩) (by assumption) ?_
                rotate_left
                · (intro w hSw; (try dsimp only at hSw); go_simp; first | done | (with_reducible rfl))
                try simp only [List.getElem_toArray, List.getElem_cons_succ, List.getElem_cons_zero, Act.put, List.setIfInBounds_toArray, List.set_cons_zero, List.set_cons_succ]
                refine wpAnyH_take (i := 7) (v := ?_) rfl (by kernel_rfl) (by kernel_rfl) (by kernel_rfl) (fun _ _ _ h => h) (Or.inl ⟨by rfl, ?_⟩) (by assumption) ?_
                rotate_left
                · (intro w hSw; (try dsimp only at hSw); go_simp; first | done | (with_reducible rfl))
                try simp only [List.getElem_toArray, List.getElem_cons_succ, List.getElem_cons_zero, Act.put, List.setIfInBounds_toArray, List.set_cons_zero, List.set_cons_succ]
                refine wpAnyH_take (i := 8) (v := ?_) rfl (by kernel_rfl) (by kernel_rfl) (by kernel_rfl) (fun _ _ _ h => h) (Or.inl ⟨by rfl, ?_⟩) (by assumption) ?_
                rotate_left
                · (intro w hSw; (try dsimp only at hSw); go_simp; first | done | (with_reducible rfl))
                try simp only [List.getElem_toArray, List.getElem_cons_succ, List.getElem_cons_zero, Act.put, List.setIfInBounds_toArray, List.set_cons_zero, List.set_cons_succ]
                refine wpAnyH_take (i := 9) (v := .slice AP np cP) rfl (by kernel_rfl) (by kernel_rfl) (by kernel_rfl) (fun _ _ _ h => h) (Or.inl ⟨by rfl, fun w h => by have k0 := Blk.cell (show Blk w gm 43 #[.slice AP np cP, .int .i64 100, .int .u64 0, .int .u64 0] from (h.block _ HBP.out.lt).trans HBP.out) 0; simp at k0; go_simp⟩) (by assumption) ?_
                try simp only [List.getElem_toArray, List.getElem_cons_succ, List.getElem_cons_zero, Act.put, List.setIfInBounds_toArray, List.set_cons_zero, List.set_cons_succ]
                refine wpAnyH_ready (rs := [5]) (by kernel_rfl) (by simp) ?_
                refine AllReadyH.cons rfl (fun K' hK' => ?_) AllReadyH.nil
                go_simp
                go_at_call 23
                refine (all_any _ _ L9 _ (HLX.out.fr (Fr.of_below (S := fun _ => False) hHeld)) (by have := HLN.out; omega)).mono ?_
                rintro e1 wa ⟨va, rfl, hoa, hfa⟩
                obtain ⟨Aa, ca, rfl, _, _⟩ := hoa.form
                have HOa := Lib.hid hoa
                have hS1 := Fr.below hHeld hfa (fun _ _ => id)
                rw [HLN9.out]
                clear hoa hfa
                clear hHeld
                refine hK'.out _ _ hS1 (fun hHeld => ?_)
                clear hK' K' hS1
                try simp only [List.getElem_toArray, List.getElem_cons_succ, List.getElem_cons_zero, Act.put, List.setIfInBounds_toArray, List.set_cons_zero, List.set_cons_succ]
                refine wpAnyH_ready (rs := [10]) (by kernel_rfl) (by simp) ?_
                refine AllReadyH.cons rfl (fun K' hK' => ?_) AllReadyH.nil
                go_simp
                go_at_call 17
                refine (regions_any _ P9 _ _ (HRP.out.fr (Fr.of_below (S := fun _ => False) hHeld) (fun _ _ => id)) (by have := HPN9.out; omega) HPX.out.sm).mono ?_
                rintro e1 wb ⟨vb, rfl, hob, hbb⟩
                rw [HPX.out.regs] at hob
                obtain ⟨Ab, cb, rfl, _, _⟩ := hob.form
                have HOb := Lib.hid hob
                have HOa2 := Lib.hid (HOa.out.fr (Fr.of_below (S := fun _ => False) hbb) (fun _ _ => id))
                clear HOa
                have HOa := HOa2
                clear HOa2
                have hS1 := Fr.below hHeld (Fr.of_below (S := fun _ => False) hbb) (fun _ _ => id)
                rw [HLN9.out]
                clear hob hbb
                clear hHeld
                refine hK'.out _ _ hS1 (fun hHeld => ?_)
                clear hK' K' hS1
                try simp only [List.getElem_toArray, List.getElem_cons_succ, List.getElem_cons_zero, Act.put, List.setIfInBounds_toArray, List.set_cons_zero, List.set_cons_succ]
                refine wpAnyH_ready (rs := [11]) (by kernel_rfl) (by simp) ?_
                refine AllReadyH.cons rfl (fun K' hK' => ?_) AllReadyH.nil
                go_simp
                go_at_call 32
                have hoa := HOa.out
                have hob := HOb.out
                rw [HLN9.out] at hoa hob
                refine (same_any _ _ L9 _ _ _ hoa hob (by have := HLN.out; omega)).mono ?_
                rintro e1 wc ⟨rfl, hfc⟩
                have hS1 := Fr.below hHeld hfc (fun _ _ => id)
                clear hfc hoa hob
                clear hHeld
                refine hK'.out _ _ hS1 (fun hHeld => ?_)
                clear hK' K' hS1
                try simp only [List.getElem_toArray, List.getElem_cons_succ, List.getElem_cons_zero, Act.put, List.setIfInBounds_toArray, List.set_cons_zero, List.set_cons_succ]
                refine wpAnyH_take (i := 12) (v := ?_) rfl (by kernel_rfl) (by kernel_rfl) (by kernel_rfl) (fun _ _ _ h => h) (Or.inl ⟨by rfl, ?_⟩) (by assumption) ?_
                rotate_left
                · (intro w hSw; (try dsimp only at hSw); go_simp; first | done | (with_reducible rfl))
                try simp only [List.getElem_toArray, List.getElem_cons_succ, List.getElem_cons_zero, Act.put, List.setIfInBounds_toArray, List.set_cons_zero, List.set_cons_succ]
                refine wpAnyH_take (i := 13) (v := ?_) rfl (by kernel_rfl) (by kernel_rfl) (by kernel_rfl) (fun _ _ _ h => h) (Or.inl ⟨by rfl, ?_⟩) (by assumption) ?_
                rotate_left
                · (intro w hSw; (try dsimp only at hSw); go_simp; first | done | (with_reducible rfl))
                try simp only [List.getElem_toArray, List.getElem_cons_succ, List.getElem_cons_zero, Act.put, List.setIfInBounds_toArray, List.set_cons_zero, List.set_cons_succ]
                refine wpAnyH_take (i := 14) (v := ?_) rfl (by kernel_rfl) (by kernel_rfl) (by kernel_rfl) (fun _ _ _ h => h) (Or.inl ⟨by rfl, ?_⟩) (by assumption) ?_
                rotate_left
                · (intro w hSw; (try dsimp only at hSw); go_simp; first | done | (with_reducible rfl))
                try simp only [List.getElem_toArray, List.getElem_cons_succ, List.getElem_cons_zero, Act.put, List.setIfInBounds_toArray, List.set_cons_zero, List.set_cons_succ]
                refine wpAnyH_take (i := 15) (v := ?_) rfl (by kernel_rfl) (by kernel_rfl) (by kernel_rfl) (fun _ _ _ h => h) (Or.inl ⟨by rfl, ?_⟩) (by assumption) ?_
                rotate_left
                · (intro w hSw; (try dsimp only at hSw); go_simp; first | done | (with_reducible rfl))
                try simp only [List.getElem_toArray, List.getElem_cons_succ, List.getElem_cons_zero, Act.put, List.setIfInBounds_toArray, List.set_cons_zero, List.set_cons_succ]
                refine wpAnyH_take (i := 17) (v := ?_) rfl (by kernel_rfl) (by kernel_rfl) (by kernel_rfl) (fun _ _ _ h => h) (Or.inl ⟨by rfl, ?_⟩) (by assumption) ?_
                rotate_left
                · (intro w hSw; (try dsimp only at hSw); go_simp; first | done | (with_reducible rfl))
                try simp only [List.getElem_toArray, List.getElem_cons_succ, List.getElem_cons_zero, Act.put, List.setIfInBounds_toArray, List.set_cons_zero, List.set_cons_succ]
                refine wpAnyH_take (i := 18) (v := ?_) rfl (by kernel_rfl) (by kernel_rfl) (by kernel_rfl) (fun _ _ _ h => h) (Or.inl ⟨by rfl, ?_⟩) (by assumption) ?_
                rotate_left
                · (intro w hSw; (try dsimp only at hSw); go_simp; first | done | (with_reducible rfl))
                try simp only [List.getElem_toArray, List.getElem_cons_succ, List.getElem_cons_zero, Act.put, List.setIfInBounds_toArray, List.set_cons_zero, List.set_cons_succ]
                refine wpAnyH_take (i := 19) (v := ?_) rfl (by kernel_rfl) (by kernel_rfl) (by kernel_rfl) (fun _ _ _ h => h) (Or.inl ⟨by rfl, ?_⟩) (by assumption) ?_
                rotate_left
                · (intro w hSw; (try dsimp only at hSw); go_simp; first | done | (with_reducible rfl))
                try simp only [List.getElem_toArray, List.getElem_cons_succ, List.getElem_cons_zero, Act.put, List.setIfInBounds_toArray, List.set_cons_zero, List.set_cons_succ]
                refine wpAnyH_take (i := 20) (v := .slice AP np cP) rfl (by kernel_rfl) (by kernel_rfl) (by kernel_rfl) (fun _ _ _ h => h) (Or.inl ⟨by rfl, fun w h => by have k0 := Blk.cell (show Blk w gm 43 #[.slice AP np cP, .int .i64 100, .int .u64 0, .int .u64 0] from (h.block _ HBP.out.lt).trans HBP.out) 0; simp at k0; go_simp⟩) (by assumption) ?_
                try simp only [List.getElem_toArray, List.getElem_cons_succ, List.getElem_cons_zero, Act.put, List.setIfInBounds_toArray, List.set_cons_zero, List.set_cons_succ]
                refine wpAnyH_take (i := 21) (v := ?_) rfl (by kernel_rfl) (by kernel_rfl) (by kernel_rfl) (fun _ _ _ h => h) (Or.inl ⟨by rfl, ?_⟩) (by assumption) ?_
                rotate_left
                · (intro w hSw; (try dsimp only at hSw); go_simp; first | done | (with_reducible rfl))
                try simp only [List.getElem_toArray, List.getElem_cons_succ, List.getElem_cons_zero, Act.put, List.setIfInBounds_toArray, List.set_cons_zero, List.set_cons_succ]
                refine wpAnyH_ready (rs := [16]) (by kernel_rfl) (by simp) ?_
                refine AllReadyH.cons rfl (fun K' hK' => ?_) AllReadyH.nil
                go_simp
                go_at_call 33
                refine (pages_any _ _ L9 _ (HLX.out.fr (Fr.of_below (S := fun _ => False) hHeld)) (by have := HLN.out; omega) HPX.out.cl.ok.Val).mono ?_
                rintro e1 wd ⟨rfl, hfd⟩
                rw [HPX.out.pages, HPN9E.out]
                have hS1 := Fr.below hHeld hfd (fun _ _ => id)
                clear hfd
                clear hHeld
                refine hK'.out _ _ hS1 (fun hHeld => ?_)
                clear hK' K' hS1
                try simp only [List.getElem_toArray, List.getElem_cons_succ, List.getElem_cons_zero, Act.put, List.setIfInBounds_toArray, List.set_cons_zero, List.set_cons_succ]
                refine wpAnyH_take (i := 22) (v := ?_) rfl (by kernel_rfl) (by kernel_rfl) (by kernel_rfl) (fun _ _ _ h => h) (Or.inl ⟨by rfl, ?_⟩) (by assumption) ?_
                rotate_left
                · (intro w hSw; (try dsimp only at hSw); go_simp; first | done | (with_reducible rfl))
                try simp only [List.getElem_toArray, List.getElem_cons_succ, List.getElem_cons_zero, Act.put, List.setIfInBounds_toArray, List.set_cons_zero, List.set_cons_succ]
                refine wpAnyH_take (i := 23) (v := ?_) rfl (by kernel_rfl) (by kernel_rfl) (by kernel_rfl) (fun _ _ _ h => h) (Or.inl ⟨by rfl, ?_⟩) (by assumption) ?_
                rotate_left
                · (intro w hSw; (try dsimp only at hSw); go_simp; first | done | (with_reducible rfl))
                try simp only [List.getElem_toArray, List.getElem_cons_succ, List.getElem_cons_zero, Act.put, List.setIfInBounds_toArray, List.set_cons_zero, List.set_cons_succ]
                refine wpAnyH_done (by kernel_rfl) ?_ _
                refine NoPanic.normal ?_
                have HWX := Lib.hid (Fr.of_below (S := fun _ => False) hHeld)
                clear hHeld
                go_wp2_with fail
                go_roundg (n - (k + 1))
                case measure => (have := HK2.out.1; have := HK2.out.2.1; omega)
                case rel => exact Lib.hid ⟨k + 1, L9, P9, by go_num, by omega, by have := HK2.out.2.2; omega, by omega, HLX.out.fr HWX.out, HSX.out.fr HWX.out, HPX.out, HPB.out, HFXX.out.trans HWX.out (fun _ _ => id)⟩
              · have d2 : (d == 2) = false := beq_eq_false_iff_ne.2 hd2
                by_cases hd3 : d = 3
                · subst hd3
                  clear hd1 hd2
                  go_wp2_with fail
                  refine (HSP.out _).mono ?_
                  rintro x w5 ⟨rfl, hf5⟩
                  have HB5 := Lib.hid (HB4.out.fr hf5 id)
                  have HL5 := Lib.hid (HL4.out.fr hf5)
                  have HS5 := Lib.hid (HS4.out.fr hf5)
                  have HF5 := Lib.hid (HF4.out.trans hf5 (fun _ _ => id))
                  have x0 := HB5.out.cell 0
                  have x3 := HB5.out.cell 3
                  simp at x0 x3
                  clear hf5
                  go_wp2_with fail
                  refine (protect_any _ _ L s e p ⟨HAN.out.2.2.2.2.2.2.1, HAN.out.2.2.2.2.2.2.2.1⟩ ⟨HAN.out.2.2.2.2.2.2.2.2.1, HAN.out.2.2.2.2.2.2.2.2.2⟩ _ HL5.out (by have := HP.out.len; have := HPL.out; omega)).mono ?_
                  rintro x w6 ⟨y6, l6, rfl, hp6, hl6, hf6⟩
                  obtain ⟨rfl, hlL⟩ : y6 = 22 ∧ L = l6 := by
                    rcases hp6 with ⟨_, h1, h2⟩ | ⟨h1, _⟩ | ⟨h1, _⟩
                    · exact ⟨h1, h2.symm⟩
                    · rw [HE3.out] at h1; cases h1
                    · rw [HE3.out] at h1; cases h1
                  subst hlL
                  have HL6 := Lib.hid hl6
                  have HS6 := Lib.hid (HS5.out.keep HL5.out hf6)
                  have HF6 := Lib.hid (HF5.out.trans hf6 (fun i hi e => by omega))
                  clear hl6 hf6 hp6 x0 x3
                  have HLX := Lib.hid (HL6.out)
                  have HSX := Lib.hid (HS6.out)
                  have HPX := Lib.hid (HP.out)
                  have HPB := Lib.hid (HPN.out)
                  have HFXX := Lib.hid (HF6.out)
                  obtain ⟨L9, hL9⟩ : ∃ L9, L = L9 := ⟨_, rfl⟩
                  obtain ⟨P9, hP9⟩ : ∃ P9, P = P9 := ⟨_, rfl⟩
                  rw [hL9] at HLX HPX
                  rw [hP9] at HSX HPX HPB
                  clear hL9 hP9
                  obtain ⟨vP, hbP, hrP⟩ := HSX.out.row
                  obtain ⟨AP, cP, rfl, _, _⟩ := hrP.form
                  obtain ⟨np, hnp⟩ : ∃ np, P9.length = np := ⟨_, rfl⟩
                  have HPN9E := Lib.hid hnp
                  have HPN9 := Lib.hid (small_len HPX.out.ok HPX.out.sm HPB.out)
                  rw [hnp] at hbP
                  have HBP := Lib.hid hbP
                  have HRP := Lib.hid hrP
                  rw [hnp] at HRP
                  have HLN := Lib.hid (show L9.length ≤ 71 from by have := HPX.out.len; have := HPN9.out; omega)
                  obtain ⟨nl, hnl⟩ : ∃ nl, L9.length = nl := ⟨_, rfl⟩
                  have HLN9 := Lib.hid hnl
                  clear hbP hrP hnp hnl
                  go_wp2_with fail
                  refine wp_region_noPanic ?_
                  refine wp_region_held_drew (S := (fun w' => Below w6.heap.size w6 w')) (by kernel_rfl) ?_ (fun hHeld => ?_)
                  · exact below_drew (Below.refl _ _)
                  refine wpAnyH_take (i := 0) (v := ?_) rfl (by kernel_rfl) (by kernel_rfl) (by kernel_rfl) (fun _ _ _ h => h) (Or.inl ⟨by rfl, ?_⟩) (by assumption) ?_
                  rotate_left
                  · (intro w hSw; (try dsimp only at hSw); go_simp; first | done | (with_reducible rfl))
                  try simp only [List.getElem_toArray, List.getElem_cons_succ, List.getElem_cons_zero, Act.put, List.setIfInBounds_toArray, List.set_cons_zero, List.set_cons_succ]
                  refine wpAnyH_take (i := 1) (v := ?_) rfl (by kernel_rfl) (by kernel_rfl) (by kernel_rfl) (fun _ _ _ h => h) (Or.inl ⟨by rfl, ?_⟩) (by assumption) ?_
                  rotate_left
                  · (intro w hSw; (try dsimp only at hSw); go_simp; first | done | (with_reducible rfl))
                  try simp only [List.getElem_toArray, List.getElem_cons_succ, List.getElem_cons_zero, Act.put, List.setIfInBounds_toArray, List.set_cons_zero, List.set_cons_succ]
                  refine wpAnyH_take (i := 2) (v := ?_) rfl (by kernel_rfl) (by kernel_rfl) (by kernel_rfl) (fun _ _ _ h => h) (Or.inl ⟨by rfl, ?_⟩) (by assumption) ?_
                  rotate_left
                  · (intro w hSw; (try dsimp only at hSw); go_simp; first | done | (with_reducible rfl))
                  try simp only [List.getElem_toArray, List.getElem_cons_succ, List.getElem_cons_zero, Act.put, List.setIfInBounds_toArray, List.set_cons_zero, List.set_cons_succ]
                  refine wpAnyH_take (i := 3) (v := ?_) rfl (by kernel_rfl) (by kernel_rfl) (by kernel_rfl) (fun _ _ _ h => h) (Or.inl ⟨by rfl, ?_⟩) (by assumption) ?_
                  rotate_left
                  · (intro w hSw; (try dsimp only at hSw); go_simp; first | done | (with_reducible rfl))
                  try simp only [List.getElem_toArray, List.getElem_cons_succ, List.getElem_cons_zero, Act.put, List.setIfInBounds_toArray, List.set_cons_zero, List.set_cons_succ]
                  refine wpAnyH_take (i := 4) (v := ?_) rfl (by kernel_rfl) (by kernel_rfl) (by kernel_rfl) (fun _ _ _ h => h) (Or.inl ⟨by rfl, ?_⟩) (by assumption) ?_
                  rotate_left
                  · (intro w hSw; (try dsimp only at hSw); go_simp; first | done | (with_reducible rfl))
                  try simp only [List.getElem_toArray, List.getElem_cons_succ, List.getElem_cons_zero, Act.put, List.setIfInBounds_toArray, List.set_cons_zero, List.set_cons_succ]
                  refine wpAnyH_take (i := 6) (v := ?_) rfl (by kernel_rfl) (by kernel_rfl) (by kernel_rfl) (fun _ _ _ h => h) (Or.inl ⟨by rfl, ?_⟩) (by assumption) ?_
                  rotate_left
                  · (intro w hSw; (try dsimp only at hSw); go_simp; first | done | (with_reducible rfl))
                  try simp only [List.getElem_toArray, List.getElem_cons_succ, List.getElem_cons_zero, Act.put, List.setIfInBounds_toArray, List.set_cons_zero, List.set_cons_succ]
                  refine wpAnyH_take (i := 7) (v := ?_) rfl (by kernel_rfl) (by kernel_rfl) (by kernel_rfl) (fun _ _ _ h => h) (Or.inl ⟨by rfl, ?_⟩) (by assumption) ?_
                  rotate_left
                  · (intro w hSw; (try dsimp only at hSw); go_simp; first | done | (with_reducible rfl))
                  try simp only [List.getElem_toArray, List.getElem_cons_succ, List.getElem_cons_zero, Act.put, List.setIfInBounds_toArray, List.set_cons_zero, List.set_cons_succ]
                  refine wpAnyH_take (i := 8) (v := ?_) rfl (by kernel_rfl) (by kernel_rfl) (by kernel_rfl) (fun _ _ _ h => h) (Or.inl ⟨by rfl, ?_⟩) (by assumption) ?_
                  rotate_left
                  · (intro w hSw; (try dsimp only at hSw); go_simp; first | done | (with_reducible rfl))
                  try simp only [List.getElem_toArray, List.getElem_cons_succ, List.getElem_cons_zero, Act.put, List.setIfInBounds_toArray, List.set_cons_zero, List.set_cons_succ]
                  refine wpAnyH_take (i := 9) (v := .slice AP np cP) rfl (by kernel_rfl) (by kernel_rfl) (by kernel_rfl) (fun _ _ _ h => h) (Or.inl ⟨by rfl, fun w h => by have k0 := Blk.cell (show Blk w gm 43 #[.slice AP np cP, .int .i64 100, .int .u64 0, .int .u64 0] from (h.block _ HBP.out.lt).trans HBP.out) 0; simp at k0; go_simp⟩) (by assumption) ?_
                  try simp only [List.getElem_toArray, List.getElem_cons_succ, List.getElem_cons_zero, Act.put, List.setIfInBounds_toArray, List.set_cons_zero, List.set_cons_succ]
                  refine wpAnyH_ready (rs := [5]) (by kernel_rfl) (by simp) ?_
                  refine AllReadyH.cons rfl (fun K' hK' => ?_) AllReadyH.nil
                  go_simp
                  go_at_call 23
                  refine (all_any _ _ L9 _ (HLX.out.fr (Fr.of_below (S := fun _ => False) hHeld)) (by have := HLN.out; omega)).mono ?_
                  rintro e1 wa ⟨va, rfl, hoa, hfa⟩
                  obtain ⟨Aa, ca, rfl, _, _⟩ := hoa.form
                  have HOa := Lib.hid hoa
                  have hS1 := Fr.below hHeld hfa (fun _ _ => id)
                  rw [HLN9.out]
                  clear hoa hfa
                  clear hHeld
                  refine hK'.out _ _ hS1 (fun hHeld => ?_)
                  clear hK' K' hS1
                  try simp only [List.getElem_toArray, List.getElem_cons_succ, List.getElem_cons_zero, Act.put, List.setIfInBounds_toArray, List.set_cons_zero, List.set_cons_succ]
                  refine wpAnyH_ready (rs := [10]) (by kernel_rfl) (by simp) ?_
                  refine AllReadyH.cons rfl (fun K' hK' => ?_) AllReadyH.nil
                  go_simp
                  go_at_call 17
                  refine (regions_any _ P9 _ _ (HRP.out.fr (Fr.of_below (S := fun _ => False) hHeld) (fun _ _ => id)) (by have := HPN9.out; omega) HPX.out.sm).mono ?_
                  rintro e1 wb ⟨vb, rfl, hob, hbb⟩
                  rw [HPX.out.regs] at hob
                  obtain ⟨Ab, cb, rfl, _, _⟩ := hob.form
                  have HOb := Lib.hid hob
                  have HOa2 := Lib.hid (HOa.out.fr (Fr.of_below (S := fun _ => False) hbb) (fun _ _ => id))
                  clear HOa
                  have HOa := HOa2
                  clear HOa2
                  have hS1 := Fr.below hHeld (Fr.of_below (S := fun _ => False) hbb) (fun _ _ => id)
                  rw [HLN9.out]
                  clear hob hbb
                  clear hHeld
                  refine hK'.out _ _ hS1 (fun hHeld => ?_)
                  clear hK' K' hS1
                  try simp only [List.getElem_toArray, List.getElem_cons_succ, List.getElem_cons_zero, Act.put, List.setIfInBounds_toArray, List.set_cons_zero, List.set_cons_succ]
                  refine wpAnyH_ready (rs := [11]) (by kernel_rfl) (by simp) ?_
                  refine AllReadyH.cons rfl (fun K' hK' => ?_) AllReadyH.nil
                  go_simp
                  go_at_call 32
                  have hoa := HOa.out
                  have hob := HOb.out
                  rw [HLN9.out] at hoa hob
                  refine (same_any _ _ L9 _ _ _ hoa hob (by have := HLN.out; omega)).mono ?_
                  rintro e1 wc ⟨rfl, hfc⟩
                  have hS1 := Fr.below hHeld hfc (fun _ _ => id)
                  clear hfc hoa hob
                  clear hHeld
                  refine hK'.out _ _ hS1 (fun hHeld => ?_)
                  clear hK' K' hS1
                  try simp only [List.getElem_toArray, List.getElem_cons_succ, List.getElem_cons_zero, Act.put, List.setIfInBounds_toArray, List.set_cons_zero, List.set_cons_succ]
                  refine wpAnyH_take (i := 12) (v := ?_) rfl (by kernel_rfl) (by kernel_rfl) (by kernel_rfl) (fun _ _ _ h => h) (Or.inl ⟨by rfl, ?_⟩) (by assumption) ?_
                  rotate_left
                  · (intro w hSw; (try dsimp only at hSw); go_simp; first | done | (with_reducible rfl))
                  try simp only [List.getElem_toArray, List.getElem_cons_succ, List.getElem_cons_zero, Act.put, List.setIfInBounds_toArray, List.set_cons_zero, List.set_cons_succ]
                  refine wpAnyH_take (i := 13) (v := ?_) rfl (by kernel_rfl) (by kernel_rfl) (by kernel_rfl) (fun _ _ _ h => h) (Or.inl ⟨by rfl, ?_⟩) (by assumption) ?_
                  rotate_left
                  · (intro w hSw; (try dsimp only at hSw); go_simp; first | done | (with_reducible rfl))
                  try simp only [List.getElem_toArray, List.getElem_cons_succ, List.getElem_cons_zero, Act.put, List.setIfInBounds_toArray, List.set_cons_zero, List.set_cons_succ]
                  refine wpAnyH_take (i := 14) (v := ?_) rfl (by kernel_rfl) (by kernel_rfl) (by kernel_rfl) (fun _ _ _ h => h) (Or.inl ⟨by rfl, ?_⟩) (by assumption) ?_
                  rotate_left
                  · (intro w hSw; (try dsimp only at hSw); go_simp; first | done | (with_reducible rfl))
                  try simp only [List.getElem_toArray, List.getElem_cons_succ, List.getElem_cons_zero, Act.put, List.setIfInBounds_toArray, List.set_cons_zero, List.set_cons_succ]
                  refine wpAnyH_take (i := 15) (v := ?_) rfl (by kernel_rfl) (by kernel_rfl) (by kernel_rfl) (fun _ _ _ h => h) (Or.inl ⟨by rfl, ?_⟩) (by assumption) ?_
                  rotate_left
                  · (intro w hSw; (try dsimp only at hSw); go_simp; first | done | (with_reducible rfl))
                  try simp only [List.getElem_toArray, List.getElem_cons_succ, List.getElem_cons_zero, Act.put, List.setIfInBounds_toArray, List.set_cons_zero, List.set_cons_succ]
                  refine wpAnyH_take (i := 17) (v := ?_) rfl (by kernel_rfl) (by kernel_rfl) (by kernel_rfl) (fun _ _ _ h => h) (Or.inl ⟨by rfl, ?_⟩) (by assumption) ?_
                  rotate_left
                  · (intro w hSw; (try dsimp only at hSw); go_simp; first | done | (with_reducible rfl))
                  try simp only [List.getElem_toArray, List.getElem_cons_succ, List.getElem_cons_zero, Act.put, List.setIfInBounds_toArray, List.set_cons_zero, List.set_cons_succ]
                  refine wpAnyH_take (i := 18) (v := ?_) rfl (by kernel_rfl) (by kernel_rfl) (by kernel_rfl) (fun _ _ _ h => h) (Or.inl ⟨by rfl, ?_⟩) (by assumption) ?_
                  rotate_left
                  · (intro w hSw; (try dsimp only at hSw); go_simp; first | done | (with_reducible rfl))
                  try simp only [List.getElem_toArray, List.getElem_cons_succ, List.getElem_cons_zero, Act.put, List.setIfInBounds_toArray, List.set_cons_zero, List.set_cons_succ]
                  refine wpAnyH_take (i := 19) (v := ?_) rfl (by kernel_rfl) (by kernel_rfl) (by kernel_rfl) (fun _ _ _ h => h) (Or.inl ⟨by rfl, ?_⟩) (by assumption) ?_
                  rotate_left
                  · (intro w hSw; (try dsimp only at hSw); go_simp; first | done | (with_reducible rfl))
                  try simp only [List.getElem_toArray, List.getElem_cons_succ, List.getElem_cons_zero, Act.put, List.setIfInBounds_toArray, List.set_cons_zero, List.set_cons_succ]
                  refine wpAnyH_take (i := 20) (v := .slice AP np cP) rfl (by kernel_rfl) (by kernel_rfl) (by kernel_rfl) (fun _ _ _ h => h) (Or.inl ⟨by rfl, fun w h => by have k0 := Blk.cell (show Blk w gm 43 #[.slice AP np cP, .int .i64 100, .int .u64 0, .int .u64 0] from (h.block _ HBP.out.lt).trans HBP.out) 0; simp at k0; go_simp⟩) (by assumption) ?_
                  try simp only [List.getElem_toArray, List.getElem_cons_succ, List.getElem_cons_zero, Act.put, List.setIfInBounds_toArray, List.set_cons_zero, List.set_cons_succ]
                  refine wpAnyH_take (i := 21) (v := ?_) rfl (by kernel_rfl) (by kernel_rfl) (by kernel_rfl) (fun _ _ _ h => h) (Or.inl ⟨by rfl, ?_⟩) (by assumption) ?_
                  rotate_left
                  · (intro w hSw; (try dsimp only at hSw); go_simp; first | done | (with_reducible rfl))
                  try simp only [List.getElem_toArray, List.getElem_cons_succ, List.getElem_cons_zero, Act.put, List.setIfInBounds_toArray, List.set_cons_zero, List.set_cons_succ]
                  refine wpAnyH_ready (rs := [16]) (by kernel_rfl) (by simp) ?_
                  refine AllReadyH.cons rfl (fun K' hK' => ?_) AllReadyH.nil
                  go_simp
                  go_at_call 33
                  refine (pages_any _ _ L9 _ (HLX.out.fr (Fr.of_below (S := fun _ => False) hHeld)) (by have := HLN.out; omega) HPX.out.cl.ok.Val).mono ?_
                  rintro e1 wd ⟨rfl, hfd⟩
                  rw [HPX.out.pages, HPN9E.out]
                  have hS1 := Fr.below hHeld hfd (fun _ _ => id)
                  clear hfd
                  clear hHeld
                  refine hK'.out _ _ hS1 (fun hHeld => ?_)
                  clear hK' K' hS1
                  try simp only [List.getElem_toArray, List.getElem_cons_succ, List.getElem_cons_zero, Act.put, List.setIfInBounds_toArray, List.set_cons_zero, List.set_cons_succ]
                  refine wpAnyH_take (i := 22) (v := ?_) rfl (by kernel_rfl) (by kernel_rfl) (by kernel_rfl) (fun _ _ _ h => h) (Or.inl ⟨by rfl, ?_⟩) (by assumption) ?_
                  rotate_left
                  · (intro w hSw; (try dsimp only at hSw); go_simp; first | done | (with_reducible rfl))
                  try simp only [List.getElem_toArray, List.getElem_cons_succ, List.getElem_cons_zero, Act.put, List.setIfInBounds_toArray, List.set_cons_zero, List.set_cons_succ]
                  refine wpAnyH_take (i := 23) (v := ?_) rfl (by kernel_rfl) (by kernel_rfl) (by kernel_rfl) (fun _ _ _ h => h) (Or.inl ⟨by rfl, ?_⟩) (by assumption) ?_
                  rotate_left
                  · (intro w hSw; (try dsimp only at hSw); go_simp; first | done | (with_reducible rfl))
                  try simp only [List.getElem_toArray, List.getElem_cons_succ, List.getElem_cons_zero, Act.put, List.setIfInBounds_toArray, List.set_cons_zero, List.set_cons_succ]
                  refine wpAnyH_done (by kernel_rfl) ?_ _
                  refine NoPanic.normal ?_
                  have HWX := Lib.hid (Fr.of_below (S := fun _ => False) hHeld)
                  clear hHeld
                  go_wp2_with fail
                  go_roundg (n - (k + 1))
                  case measure => (have := HK2.out.1; have := HK2.out.2.1; omega)
                  case rel => exact Lib.hid ⟨k + 1, L9, P9, by go_num, by omega, by have := HK2.out.2.2; omega, by omega, HLX.out.fr HWX.out, HSX.out.fr HWX.out, HPX.out, HPB.out, HFXX.out.trans HWX.out (fun _ _ => id)⟩
                · have d3 : (d == 3) = false := beq_eq_false_iff_ne.2 hd3
                  clear hd1 hd2 hd3
                  go_wp2_with fail
                  refine (HSP.out _).mono ?_
                  rintro x w5 ⟨rfl, hf5⟩
                  have HB5 := Lib.hid (HB4.out.fr hf5 id)
                  have HL5 := Lib.hid (HL4.out.fr hf5)
                  have HS5 := Lib.hid (HS4.out.fr hf5)
                  have HF5 := Lib.hid (HF4.out.trans hf5 (fun _ _ => id))
                  have x0 := HB5.out.cell 0
                  have x3 := HB5.out.cell 3
                  simp at x0 x3
                  clear hf5
                  go_wp2_with fail
                  go_roundg (n - (k + 1))
                  case measure => (have := HK2.out.1; have := HK2.out.2.1; omega)
                  case rel => exact Lib.hid ⟨k + 1, L, P, by go_num, by omega, by have := HK2.out.2.2; omega, by omega, HL5.out, HS5.out, HP.out, HPN.out, HF5.out⟩
      · have HSP := Lib.hid (fun w => spanS_any s e (by omega) (by omega) w)
        rw [hbad] at HSP
        have HSPB := Lib.hid hbad
        have HAN := Lib.hid (show 0 ≤ s ∧ s < 18446744073709551616 ∧ 0 ≤ e ∧ e < 18446744073709551616 from by omega)
        have HE1 := Lib.hid (show mapE L s e p = 22 ∧ mapL L s e p = L from by unfold mapE mapL mapB; rw [hbad]; exact ⟨rfl, rfl⟩)
        have HE2 := Lib.hid (show unE L s e = 22 ∧ unL L s e = L from by unfold unE unL; rw [hbad]; exact ⟨rfl, rfl⟩)
        have HE3 := Lib.hid (show mapB s e p = false from by unfold mapB; rw [hbad]; rfl)
        clear hbad hs0 hs1 he0 he1
        by_cases hd1 : d = 1
        · subst hd1
          go_wp2_with fail
          refine (HSP.out _).mono ?_
          rintro x w5 ⟨rfl, hf5⟩
          have HB5 := Lib.hid (HB4.out.fr hf5 id)
          have HL5 := Lib.hid (HL4.out.fr hf5)
          have HS5 := Lib.hid (HS4.out.fr hf5)
          have HF5 := Lib.hid (HF4.out.trans hf5 (fun _ _ => id))
          have x0 := HB5.out.cell 0
          have x3 := HB5.out.cell 3
          simp at x0 x3
          clear hf5
          go_wp2_with fail
          refine (map_any _ _ L s e p ⟨HAN.out.1, HAN.out.2.1⟩ ⟨HAN.out.2.2.1, HAN.out.2.2.2⟩ _ HL5.out (by have := HP.out.len; have := HPL.out; omega)).mono ?_
          rintro x w6 ⟨rfl, hl6, hf6⟩
          rw [HE1.out.2] at hl6
          rw [HE1.out.1]
          have HL6 := Lib.hid hl6
          have HS6 := Lib.hid (HS5.out.keep HL5.out hf6)
          have HF6 := Lib.hid (HF5.out.trans hf6 (fun i hi e => by omega))
          clear hl6 hf6 x0 x3
          have HLX := Lib.hid (HL6.out)
          have HSX := Lib.hid (HS6.out)
          have HPX := Lib.hid (HP.out)
          have HPB := Lib.hid (HPN.out)
          have HFXX := Lib.hid (HF6.out)
          obtain ⟨L9, hL9⟩ : ∃ L9, L = L9 := ⟨_, rfl⟩
          obtain ⟨P9, hP9⟩ : ∃ P9, P = P9 := ⟨_, rfl⟩
          rw [hL9] at HLX HPX
          rw [hP9] at HSX HPX HPB
          clear hL9 hP9
          obtain ⟨vP, hbP, hrP⟩ := HSX.out.row
          obtain ⟨AP, cP, rfl, _, _⟩ := hrP.form
          obtain ⟨np, hnp⟩ : ∃ np, P9.length = np := ⟨_, rfl⟩
          have HPN9E := Lib.hid hnp
          have HPN9 := Lib.hid (small_len HPX.out.ok HPX.out.sm HPB.out)
          rw [hnp] at hbP
          have HBP := Lib.hid hbP
          have HRP := Lib.hid hrP
          rw [hnp] at HRP
          have HLN := Lib.hid (show L9.length ≤ 71 from by have := HPX.out.len; have := HPN9.out; omega)
          obtain ⟨nl, hnl⟩ : ∃ nl, L9.length = nl := ⟨_, rfl⟩
          have HLN9 := Lib.hid hnl
          clear hbP hrP hnp hnl
          go_wp2_with fail
          refine wp_region_noPanic ?_
          refine wp_region_held_drew (S := (fun w' => Below w6.heap.size w6 w')) (by kernel_rfl) ?_ (fun hHeld => ?_)
          · exact below_drew (Below.refl _ _)
          refine wpAnyH_take (i := 0) (v := ?_) rfl (by kernel_rfl) (by kernel_rfl) (by kernel_rfl) (fun _ _ _ h => h) (Or.inl ⟨by rfl, ?_⟩) (by assumption) ?_
          rotate_left
          · (intro w hSw; (try dsimp only at hSw); go_simp; first | done | (with_reducible rfl))
          try simp only [List.getElem_toArray, List.getElem_cons_succ, List.getElem_cons_zero, Act.put, List.setIfInBounds_toArray, List.set_cons_zero, List.set_cons_succ]
          refine wpAnyH_take (i := 1) (v := ?_) rfl (by kernel_rfl) (by kernel_rfl) (by kernel_rfl) (fun _ _ _ h => h) (Or.inl ⟨by rfl, ?_⟩) (by assumption) ?_
          rotate_left
          · (intro w hSw; (try dsimp only at hSw); go_simp; first | done | (with_reducible rfl))
          try simp only [List.getElem_toArray, List.getElem_cons_succ, List.getElem_cons_zero, Act.put, List.setIfInBounds_toArray, List.set_cons_zero, List.set_cons_succ]
          refine wpAnyH_take (i := 2) (v := ?_) rfl (by kernel_rfl) (by kernel_rfl) (by kernel_rfl) (fun _ _ _ h => h) (Or.inl ⟨by rfl, ?_⟩) (by assumption) ?_
          rotate_left
          · (intro w hSw; (try dsimp only at hSw); go_simp; first | done | (with_reducible rfl))
          try simp only [List.getElem_toArray, List.getElem_cons_succ, List.getElem_cons_zero, Act.put, List.setIfInBounds_toArray, List.set_cons_zero, List.set_cons_succ]
          refine wpAnyH_take (i := 3) (v := ?_) rfl (by kernel_rfl) (by kernel_rfl) (by kernel_rfl) (fun _ _ _ h => h) (Or.inl ⟨by rfl, ?_⟩) (by assumption) ?_
          rotate_left
          · (intro w hSw; (try dsimp only at hSw); go_simp; first | done | (with_reducible rfl))
          try simp only [List.getElem_toArray, List.getElem_cons_succ, List.getElem_cons_zero, Act.put, List.setIfInBounds_toArray, List.set_cons_zero, List.set_cons_succ]
          refine wpAnyH_take (i := 4) (v := ?_) rfl (by kernel_rfl) (by kernel_rfl) (by kernel_rfl) (fun _ _ _ h => h) (Or.inl ⟨by rfl, ?_⟩) (by assumption) ?_
          rotate_left
          · (intro w hSw; (try dsimp only at hSw); go_simp; first | done | (with_reducible rfl))
          try simp only [List.getElem_toArray, List.getElem_cons_succ, List.getElem_cons_zero, Act.put, List.setIfInBounds_toArray, List.set_cons_zero, List.set_cons_succ]
          refine wpAnyH_take (i := 6) (v := ?_) rfl (by kernel_rfl) (by kernel_rfl) (by kernel_rfl) (fun _ _ _ h => h) (Or.inl ⟨by rfl, ?_⟩) (by assumption) ?_
          rotate_left
          · (intro w hSw; (try dsimp only at hSw); go_simp; first | done | (with_reducible rfl))
          try simp only [List.getElem_toArray, List.getElem_cons_succ, List.getElem_cons_zero, Act.put, List.setIfInBounds_toArray, List.set_cons_zero, List.set_cons_succ]
          refine wpAnyH_take (i := 7) (v := ?_) rfl (by kernel_rfl) (by kernel_rfl) (by kernel_rfl) (fun _ _ _ h => h) (Or.inl ⟨by rfl, ?_⟩) (by assumption) ?_
          rotate_left
          · (intro w hSw; (try dsimp only at hSw); go_simp; first | done | (with_reducible rfl))
          try simp only [List.getElem_toArray, List.getElem_cons_succ, List.getElem_cons_zero, Act.put, List.setIfInBounds_toArray, List.set_cons_zero, List.set_cons_succ]
          refine wpAnyH_take (i := 8) (v := ?_) rfl (by kernel_rfl) (by kernel_rfl) (by kernel_rfl) (fun _ _ _ h => h) (Or.inl ⟨by rfl, ?_⟩) (by assumption) ?_
          rotate_left
          · (intro w hSw; (try dsimp only at hSw); go_simp; first | done | (with_reducible rfl))
          try simp only [List.getElem_toArray, List.getElem_cons_succ, List.getElem_cons_zero, Act.put, List.setIfInBounds_toArray, List.set_cons_zero, List.set_cons_succ]
          refine wpAnyH_take (i := 9) (v := .slice AP np cP) rfl (by kernel_rfl) (by kernel_rfl) (by kernel_rfl) (fun _ _ _ h => h) (Or.inl ⟨by rfl, fun w h => by have k0 := Blk.cell (show Blk w gm 43 #[.slice AP np cP, .int .i64 100, .int .u64 0, .int .u64 0] from (h.block _ HBP.out.lt).trans HBP.out) 0; simp at k0; go_simp⟩) (by assumption) ?_
          try simp only [List.getElem_toArray, List.getElem_cons_succ, List.getElem_cons_zero, Act.put, List.setIfInBounds_toArray, List.set_cons_zero, List.set_cons_succ]
          refine wpAnyH_ready (rs := [5]) (by kernel_rfl) (by simp) ?_
          refine AllReadyH.cons rfl (fun K' hK' => ?_) AllReadyH.nil
          go_simp
          go_at_call 23
          refine (all_any _ _ L9 _ (HLX.out.fr (Fr.of_below (S := fun _ => False) hHeld)) (by have := HLN.out; omega)).mono ?_
          rintro e1 wa ⟨va, rfl, hoa, hfa⟩
          obtain ⟨Aa, ca, rfl, _, _⟩ := hoa.form
          have HOa := Lib.hid hoa
          have hS1 := Fr.below hHeld hfa (fun _ _ => id)
          rw [HLN9.out]
          clear hoa hfa
          clear hHeld
          refine hK'.out _ _ hS1 (fun hHeld => ?_)
          clear hK' K' hS1
          try simp only [List.getElem_toArray, List.getElem_cons_succ, List.getElem_cons_zero, Act.put, List.setIfInBounds_toArray, List.set_cons_zero, List.set_cons_succ]
          refine wpAnyH_ready (rs := [10]) (by kernel_rfl) (by simp) ?_
          refine AllReadyH.cons rfl (fun K' hK' => ?_) AllReadyH.nil
          go_simp
          go_at_call 17
          refine (regions_any _ P9 _ _ (HRP.out.fr (Fr.of_below (S := fun _ => False) hHeld) (fun _ _ => id)) (by have := HPN9.out; omega) HPX.out.sm).mono ?_
          rintro e1 wb ⟨vb, rfl, hob, hbb⟩
          rw [HPX.out.regs] at hob
          obtain ⟨Ab, cb, rfl, _, _⟩ := hob.form
          have HOb := Lib.hid hob
          have HOa2 := Lib.hid (HOa.out.fr (Fr.of_below (S := fun _ => False) hbb) (fun _ _ => id))
          clear HOa
          have HOa := HOa2
          clear HOa2
          have hS1 := Fr.below hHeld (Fr.of_below (S := fun _ => False) hbb) (fun _ _ => id)
          rw [HLN9.out]
          clear hob hbb
          clear hHeld
          refine hK'.out _ _ hS1 (fun hHeld => ?_)
          clear hK' K' hS1
          try simp only [List.getElem_toArray, List.getElem_cons_succ, List.getElem_cons_zero, Act.put, List.setIfInBounds_toArray, List.set_cons_zero, List.set_cons_succ]
          refine wpAnyH_ready (rs := [11]) (by kernel_rfl) (by simp) ?_
          refine AllReadyH.cons rfl (fun K' hK' => ?_) AllReadyH.nil
          go_simp
          go_at_call 32
          have hoa := HOa.out
          have hob := HOb.out
          rw [HLN9.out] at hoa hob
          refine (same_any _ _ L9 _ _ _ hoa hob (by have := HLN.out; omega)).mono ?_
          rintro e1 wc ⟨rfl, hfc⟩
          have hS1 := Fr.below hHeld hfc (fun _ _ => id)
          clear hfc hoa hob
          clear hHeld
          refine hK'.out _ _ hS1 (fun hHeld => ?_)
          clear hK' K' hS1
          try simp only [List.getElem_toArray, List.getElem_cons_succ, List.getElem_cons_zero, Act.put, List.setIfInBounds_toArray, List.set_cons_zero, List.set_cons_succ]
          refine wpAnyH_take (i := 12) (v := ?_) rfl (by kernel_rfl) (by kernel_rfl) (by kernel_rfl) (fun _ _ _ h => h) (Or.inl ⟨by rfl, ?_⟩) (by assumption) ?_
          rotate_left
          · (intro w hSw; (try dsimp only at hSw); go_simp; first | done | (with_reducible rfl))
          try simp only [List.getElem_toArray, List.getElem_cons_succ, List.getElem_cons_zero, Act.put, List.setIfInBounds_toArray, List.set_cons_zero, List.set_cons_succ]
          refine wpAnyH_take (i := 13) (v := ?_) rfl (by kernel_rfl) (by kernel_rfl) (by kernel_rfl) (fun _ _ _ h => h) (Or.inl ⟨by rfl, ?_⟩) (by assumption) ?_
          rotate_left
          · (intro w hSw; (try dsimp only at hSw); go_simp; first | done | (with_reducible rfl))
          try simp only [List.getElem_toArray, List.getElem_cons_succ, List.getElem_cons_zero, Act.put, List.setIfInBounds_toArray, List.set_cons_zero, List.set_cons_succ]
          refine wpAnyH_take (i := 14) (v := ?_) rfl (by kernel_rfl) (by kernel_rfl) (by kernel_rfl) (fun _ _ _ h => h) (Or.inl ⟨by rfl, ?_⟩) (by assumption) ?_
          rotate_left
          · (intro w hSw; (try dsimp only at hSw); go_simp; first | done | (with_reducible rfl))
          try simp only [List.getElem_toArray, List.getElem_cons_succ, List.getElem_cons_zero, Act.put, List.setIfInBounds_toArray, List.set_cons_zero, List.set_cons_succ]
          refine wpAnyH_take (i := 15) (v := ?_) rfl (by kernel_rfl) (by kernel_rfl) (by kernel_rfl) (fun _ _ _ h => h) (Or.inl ⟨by rfl, ?_⟩) (by assumption) ?_
          rotate_left
          · (intro w hSw; (try dsimp only at hSw); go_simp; first | done | (with_reducible rfl))
          try simp only [List.getElem_toArray, List.getElem_cons_succ, List.getElem_cons_zero, Act.put, List.setIfInBounds_toArray, List.set_cons_zero, List.set_cons_succ]
          refine wpAnyH_take (i := 17) (v := ?_) rfl (by kernel_rfl) (by kernel_rfl) (by kernel_rfl) (fun _ _ _ h => h) (Or.inl ⟨by rfl, ?_⟩) (by assumption) ?_
          rotate_left
          · (intro w hSw; (try dsimp only at hSw); go_simp; first | done | (with_reducible rfl))
          try simp only [List.getElem_toArray, List.getElem_cons_succ, List.getElem_cons_zero, Act.put, List.setIfInBounds_toArray, List.set_cons_zero, List.set_cons_succ]
          refine wpAnyH_take (i := 18) (v := ?_) rfl (by kernel_rfl) (by kernel_rfl) (by kernel_rfl) (fun _ _ _ h => h) (Or.inl ⟨by rfl, ?_⟩) (by assumption) ?_
          rotate_left
          · (intro w hSw; (try dsimp only at hSw); go_simp; first | done | (with_reducible rfl))
          try simp only [List.getElem_toArray, List.getElem_cons_succ, List.getElem_cons_zero, Act.put, List.setIfInBounds_toArray, List.set_cons_zero, List.set_cons_succ]
          refine wpAnyH_take (i := 19) (v := ?_) rfl (by kernel_rfl) (by kernel_rfl) (by kernel_rfl) (fun _ _ _ h => h) (Or.inl ⟨by rfl, ?_⟩) (by assumption) ?_
          rotate_left
          · (intro w hSw; (try dsimp only at hSw); go_simp; first | done | (with_reducible rfl))
          try simp only [List.getElem_toArray, List.getElem_cons_succ, List.getElem_cons_zero, Act.put, List.setIfInBounds_toArray, List.set_cons_zero, List.set_cons_succ]
          refine wpAnyH_take (i := 20) (v := .slice AP np cP) rfl (by kernel_rfl) (by kernel_rfl) (by kernel_rfl) (fun _ _ _ h => h) (Or.inl ⟨by rfl, fun w h => by have k0 := Blk.cell (show Blk w gm 43 #[.slice AP np cP, .int .i64 100, .int .u64 0, .int .u64 0] from (h.block _ HBP.out.lt).trans HBP.out) 0; simp at k0; go_simp⟩) (by assumption) ?_
          try simp only [List.getElem_toArray, List.getElem_cons_succ, List.getElem_cons_zero, Act.put, List.setIfInBounds_toArray, List.set_cons_zero, List.set_cons_succ]
          refine wpAnyH_take (i := 21) (v := ?_) rfl (by kernel_rfl) (by kernel_rfl) (by kernel_rfl) (fun _ _ _ h => h) (Or.inl ⟨by rfl, ?_⟩) (by assumption) ?_
          rotate_left
          · (intro w hSw; (try dsimp only at hSw); go_simp; first | done | (with_reducible rfl))
          try simp only [List.getElem_toArray, List.getElem_cons_succ, List.getElem_cons_zero, Act.put, List.setIfInBounds_toArray, List.set_cons_zero, List.set_cons_succ]
          refine wpAnyH_ready (rs := [16]) (by kernel_rfl) (by simp) ?_
          refine AllReadyH.cons rfl (fun K' hK' => ?_) AllReadyH.nil
          go_simp
          go_at_call 33
          refine (pages_any _ _ L9 _ (HLX.out.fr (Fr.of_below (S := fun _ => False) hHeld)) (by have := HLN.out; omega) HPX.out.cl.ok.Val).mono ?_
          rintro e1 wd ⟨rfl, hfd⟩
          rw [HPX.out.pages, HPN9E.out]
          have hS1 := Fr.below hHeld hfd (fun _ _ => id)
          clear hfd
          clear hHeld
          refine hK'.out _ _ hS1 (fun hHeld => ?_)
          clear hK' K' hS1
          try simp only [List.getElem_toArray, List.getElem_cons_succ, List.getElem_cons_zero, Act.put, List.setIfInBounds_toArray, List.set_cons_zero, List.set_cons_succ]
          refine wpAnyH_take (i := 22) (v := ?_) rfl (by kernel_rfl) (by kernel_rfl) (by kernel_rfl) (fun _ _ _ h => h) (Or.inl ⟨by rfl, ?_⟩) (by assumption) ?_
          rotate_left
          · (intro w hSw; (try dsimp only at hSw); go_simp; first | done | (with_reducible rfl))
          try simp only [List.getElem_toArray, List.getElem_cons_succ, List.getElem_cons_zero, Act.put, List.setIfInBounds_toArray, List.set_cons_zero, List.set_cons_succ]
          refine wpAnyH_take (i := 23) (v := ?_) rfl (by kernel_rfl) (by kernel_rfl) (by kernel_rfl) (fun _ _ _ h => h) (Or.inl ⟨by rfl, ?_⟩) (by assumption) ?_
          rotate_left
          · (intro w hSw; (try dsimp only at hSw); go_simp; first | done | (with_reducible rfl))
          try simp only [List.getElem_toArray, List.getElem_cons_succ, List.getElem_cons_zero, Act.put, List.setIfInBounds_toArray, List.set_cons_zero, List.set_cons_succ]
          refine wpAnyH_done (by kernel_rfl) ?_ _
          refine NoPanic.normal ?_
          have HWX := Lib.hid (Fr.of_below (S := fun _ => False) hHeld)
          clear hHeld
          go_wp2_with fail
          go_roundg (n - (k + 1))
          case measure => (have := HK2.out.1; have := HK2.out.2.1; omega)
          case rel => exact Lib.hid ⟨k + 1, L9, P9, by go_num, by omega, by have := HK2.out.2.2; omega, by omega, HLX.out.fr HWX.out, HSX.out.fr HWX.out, HPX.out, HPB.out, HFXX.out.trans HWX.out (fun _ _ => id)⟩
        · have d1 : (d == 1) = false := beq_eq_false_iff_ne.2 hd1
          by_cases hd2 : d = 2
          · subst hd2
            clear hd1
            go_wp2_with fail
            refine (HSP.out _).mono ?_
            rintro x w5 ⟨rfl, hf5⟩
            have HB5 := Lib.hid (HB4.out.fr hf5 id)
            have HL5 := Lib.hid (HL4.out.fr hf5)
            have HS5 := Lib.hid (HS4.out.fr hf5)
            have HF5 := Lib.hid (HF4.out.trans hf5 (fun _ _ => id))
            have x0 := HB5.out.cell 0
            have x3 := HB5.out.cell 3
            simp at x0 x3
            clear hf5
            go_wp2_with fail
            refine (unmap_any _ _ L s e ⟨HAN.out.1, HAN.out.2.1⟩ ⟨HAN.out.2.2.1, HAN.out.2.2.2⟩ _ HL5.out (by have := HP.out.len; have := HPL.out; omega)).mono ?_
            rintro x w6 ⟨rfl, hl6, hf6⟩
            rw [HE2.out.2] at hl6
            rw [HE2.out.1]
            have HL6 := Lib.hid hl6
            have HS6 := Lib.hid (HS5.out.keep HL5.out hf6)
            have HF6 := Lib.hid (HF5.out.trans hf6 (fun i hi e => by omega))
            clear hl6 hf6 x0 x3
            go_wp2_with fail
            refine (HSP.out _).mono ?_
            rintro x w7 ⟨rfl, hf7⟩
            have HL7 := Lib.hid (HL6.out.fr hf7)
            have HS7 := Lib.hid (HS6.out.fr hf7)
            have HF7 := Lib.hid (HF6.out.trans hf7 (fun _ _ => id))
            clear hf7
            have HLX := Lib.hid (HL7.out)
            have HSX := Lib.hid (HS7.out)
            have HPX := Lib.hid (HP.out)
            have HPB := Lib.hid (HPN.out)
            have HFXX := Lib.hid (HF7.out)
            obtain ⟨L9, hL9⟩ : ∃ L9, L = L9 := ⟨_, rfl⟩
            obtain ⟨P9, hP9⟩ : ∃ P9, P = P9 := ⟨_, rfl⟩
            rw [hL9] at HLX HPX
            rw [hP9] at HSX HPX HPB
            clear hL9 hP9
            obtain ⟨vP, hbP, hrP⟩ := HSX.out.row
            obtain ⟨AP, cP, rfl, _, _⟩ := hrP.form
            obtain ⟨np, hnp⟩ : ∃ np, P9.length = np := ⟨_, rfl⟩
            have HPN9E := Lib.hid hnp
            have HPN9 := Lib.hid (small_len HPX.out.ok HPX.out.sm HPB.out)
            rw [hnp] at hbP
            have HBP := Lib.hid hbP
            have HRP := Lib.hid hrP
            rw [hnp] at HRP
            have HLN := Lib.hid (show L9.length ≤ 71 from by have := HPX.out.len; have := HPN9.out; omega)
            obtain ⟨nl, hnl⟩ : ∃ nl, L9.length = nl := ⟨_, rfl⟩
            have HLN9 := Lib.hid hnl
            clear hbP hrP hnp hnl
            go_wp2_with fail
            refine wp_region_noPanic ?_
            refine wp_region_held_drew (S := (fun w' => Below w7.heap.size w7 w')) (by kernel_rfl) ?_ (fun hHeld => ?_)
            · exact below_drew (Below.refl _ _)
            refine wpAnyH_take (i := 0) (v := ?_) rfl (by kernel_rfl) (by kernel_rfl) (by kernel_rfl) (fun _ _ _ h => h) (Or.inl ⟨by rfl, ?_⟩) (by assumption) ?_
            rotate_left
            · (intro w hSw; (try dsimp only at hSw); go_simp; first | done | (with_reducible rfl))
            try simp only [List.getElem_toArray, List.getElem_cons_succ, List.getElem_cons_zero, Act.put, List.setIfInBounds_toArray, List.set_cons_zero, List.set_cons_succ]
            refine wpAnyH_take (i := 1) (v := ?_) rfl (by kernel_rfl) (by kernel_rfl) (by kernel_rfl) (fun _ _ _ h => h) (Or.inl ⟨by rfl, ?_⟩) (by assumption) ?_
            rotate_left
            · (intro w hSw; (try dsimp only at hSw); go_simp; first | done | (with_reducible rfl))
            try simp only [List.getElem_toArray, List.getElem_cons_succ, List.getElem_cons_zero, Act.put, List.setIfInBounds_toArray, List.set_cons_zero, List.set_cons_succ]
            refine wpAnyH_take (i := 2) (v := ?_) rfl (by kernel_rfl) (by kernel_rfl) (by kernel_rfl) (fun _ _ _ h => h) (Or.inl ⟨by rfl, ?_⟩) (by assumption) ?_
            rotate_left
            · (intro w hSw; (try dsimp only at hSw); go_simp; first | done | (with_reducible rfl))
            try simp only [List.getElem_toArray, List.getElem_cons_succ, List.getElem_cons_zero, Act.put, List.setIfInBounds_toArray, List.set_cons_zero, List.set_cons_succ]
            refine wpAnyH_take (i := 3) (v := ?_) rfl (by kernel_rfl) (by kernel_rfl) (by kernel_rfl) (fun _ _ _ h => h) (Or.inl ⟨by rfl, ?_⟩) (by assumption) ?_
            rotate_left
            · (intro w hSw; (try dsimp only at hSw); go_simp; first | done | (with_reducible rfl))
            try simp only [List.getElem_toArray, List.getElem_cons_succ, List.getElem_cons_zero, Act.put, List.setIfInBounds_toArray, List.set_cons_zero, List.set_cons_succ]
            refine wpAnyH_take (i := 4) (v := ?_) rfl (by kernel_rfl) (by kernel_rfl) (by kernel_rfl) (fun _ _ _ h => h) (Or.inl ⟨by rfl, ?_⟩) (by assumption) ?_
            rotate_left
            · (intro w hSw; (try dsimp only at hSw); go_simp; first | done | (with_reducible rfl))
            try simp only [List.getElem_toArray, List.getElem_cons_succ, List.getElem_cons_zero, Act.put, List.setIfInBounds_toArray, List.set_cons_zero, List.set_cons_succ]
            refine wpAnyH_take (i := 6) (v := ?_) rfl (by kernel_rfl) (by kernel_rfl) (by kernel_rfl) (fun _ _ _ h => h) (Or.inl ⟨by rfl, ?_⟩) (by assumption) ?_
            rotate_left
            · (intro w hSw; (try dsimp only at hSw); go_simp; first | done | (with_reducible rfl))
            try simp only [List.getElem_toArray, List.getElem_cons_succ, List.getElem_cons_zero, Act.put, List.setIfInBounds_toArray, List.set_cons_zero, List.set_cons_succ]
            refine wpAnyH_take (i := 7) (v := ?_) rfl (by kernel_rfl) (by kernel_rfl) (by kernel_rfl) (fun _ _ _ h => h) (Or.inl ⟨by rfl, ?_⟩) (by assumption) ?_
            rotate_left
            · (intro w hSw; (try dsimp only at hSw); go_simp; first | done | (with_reducible rfl))
            try simp only [List.getElem_toArray, List.getElem_cons_succ, List.getElem_cons_zero, Act.put, List.setIfInBounds_toArray, List.set_cons_zero, List.set_cons_succ]
            refine wpAnyH_take (i := 8) (v := ?_) rfl (by kernel_rfl) (by kernel_rfl) (by kernel_rfl) (fun _ _ _ h => h) (Or.inl ⟨by rfl, ?_⟩) (by assumption) ?_
            rotate_left
            · (intro w hSw; (try dsimp only at hSw); go_simp; first | done | (with_reducible rfl))
            try simp only [List.getElem_toArray, List.getElem_cons_succ, List.getElem_cons_zero, Act.put, List.setIfInBounds_toArray, List.set_cons_zero, List.set_cons_succ]
            refine wpAnyH_take (i := 9) (v := .slice AP np cP) rfl (by kernel_rfl) (by kernel_rfl) (by kernel_rfl) (fun _ _ _ h => h) (Or.inl ⟨by rfl, fun w h => by have k0 := Blk.cell (show Blk w gm 43 #[.slice AP np cP, .int .i64 100, .int .u64 0, .int .u64 0] from (h.block _ HBP.out.lt).trans HBP.out) 0; simp at k0; go_simp⟩) (by assumption) ?_
            try simp only [List.getElem_toArray, List.getElem_cons_succ, List.getElem_cons_zero, Act.put, List.setIfInBounds_toArray, List.set_cons_zero, List.set_cons_succ]
            refine wpAnyH_ready (rs := [5]) (by kernel_rfl) (by simp) ?_
            refine AllReadyH.cons rfl (fun K' hK' => ?_) AllReadyH.nil
            go_simp
            go_at_call 23
            refine (all_any _ _ L9 _ (HLX.out.fr (Fr.of_below (S := fun _ => False) hHeld)) (by have := HLN.out; omega)).mono ?_
            rintro e1 wa ⟨va, rfl, hoa, hfa⟩
            obtain ⟨Aa, ca, rfl, _, _⟩ := hoa.form
            have HOa := Lib.hid hoa
            have hS1 := Fr.below hHeld hfa (fun _ _ => id)
            rw [HLN9.out]
            clear hoa hfa
            clear hHeld
            refine hK'.out _ _ hS1 (fun hHeld => ?_)
            clear hK' K' hS1
            try simp only [List.getElem_toArray, List.getElem_cons_succ, List.getElem_cons_zero, Act.put, List.setIfInBounds_toArray, List.set_cons_zero, List.set_cons_succ]
            refine wpAnyH_ready (rs := [10]) (by kernel_rfl) (by simp) ?_
            refine AllReadyH.cons rfl (fun K' hK' => ?_) AllReadyH.nil
            go_simp
            go_at_call 17
            refine (regions_any _ P9 _ _ (HRP.out.fr (Fr.of_below (S := fun _ => False) hHeld) (fun _ _ => id)) (by have := HPN9.out; omega) HPX.out.sm).mono ?_
            rintro e1 wb ⟨vb, rfl, hob, hbb⟩
            rw [HPX.out.regs] at hob
            obtain ⟨Ab, cb, rfl, _, _⟩ := hob.form
            have HOb := Lib.hid hob
            have HOa2 := Lib.hid (HOa.out.fr (Fr.of_below (S := fun _ => False) hbb) (fun _ _ => id))
            clear HOa
            have HOa := HOa2
            clear HOa2
            have hS1 := Fr.below hHeld (Fr.of_below (S := fun _ => False) hbb) (fun _ _ => id)
            rw [HLN9.out]
            clear hob hbb
            clear hHeld
            refine hK'.out _ _ hS1 (fun hHeld => ?_)
            clear hK' K' hS1
            try simp only [List.getElem_toArray, List.getElem_cons_succ, List.getElem_cons_zero, Act.put, List.setIfInBounds_toArray, List.set_cons_zero, List.set_cons_succ]
            refine wpAnyH_ready (rs := [11]) (by kernel_rfl) (by simp) ?_
            refine AllReadyH.cons rfl (fun K' hK' => ?_) AllReadyH.nil
            go_simp
            go_at_call 32
            have hoa := HOa.out
            have hob := HOb.out
            rw [HLN9.out] at hoa hob
            refine (same_any _ _ L9 _ _ _ hoa hob (by have := HLN.out; omega)).mono ?_
            rintro e1 wc ⟨rfl, hfc⟩
            have hS1 := Fr.below hHeld hfc (fun _ _ => id)
            clear hfc hoa hob
            clear hHeld
            refine hK'.out _ _ hS1 (fun hHeld => ?_)
            clear hK' K' hS1
            try simp only [List.getElem_toArray, List.getElem_cons_succ, List.getElem_cons_zero, Act.put, List.setIfInBounds_toArray, List.set_cons_zero, List.set_cons_succ]
            refine wpAnyH_take (i := 12) (v := ?_) rfl (by kernel_rfl) (by kernel_rfl) (by kernel_rfl) (fun _ _ _ h => h) (Or.inl ⟨by rfl, ?_⟩) (by assumption) ?_
            rotate_left
            · (intro w hSw; (try dsimp only at hSw); go_simp; first | done | (with_reducible rfl))
            try simp only [List.getElem_toArray, List.getElem_cons_succ, List.getElem_cons_zero, Act.put, List.setIfInBounds_toArray, List.set_cons_zero, List.set_cons_succ]
            refine wpAnyH_take (i := 13) (v := ?_) rfl (by kernel_rfl) (by kernel_rfl) (by kernel_rfl) (fun _ _ _ h => h) (Or.inl ⟨by rfl, ?_⟩) (by assumption) ?_
            rotate_left
            · (intro w hSw; (try dsimp only at hSw); go_simp; first | done | (with_reducible rfl))
            try simp only [List.getElem_toArray, List.getElem_cons_succ, List.getElem_cons_zero, Act.put, List.setIfInBounds_toArray, List.set_cons_zero, List.set_cons_succ]
            refine wpAnyH_take (i := 14) (v := ?_) rfl (by kernel_rfl) (by kernel_rfl) (by kernel_rfl) (fun _ _ _ h => h) (Or.inl ⟨by rfl, ?_⟩) (by assumption) ?_
            rotate_left
            · (intro w hSw; (try dsimp only at hSw); go_simp; first | done | (with_reducible rfl))
            try simp only [List.getElem_toArray, List.getElem_cons_succ, List.getElem_cons_zero, Act.put, List.setIfInBounds_toArray, List.set_cons_zero, List.set_cons_succ]
            refine wpAnyH_take (i := 15) (v := ?_) rfl (by kernel_rfl) (by kernel_rfl) (by kernel_rfl) (fun _ _ _ h => h) (Or.inl ⟨by rfl, ?_⟩) (by assumption) ?_
            rotate_left
            · (intro w hSw; (try dsimp only at hSw); go_simp; first | done | (with_reducible rfl))
            try simp only [List.getElem_toArray, List.getElem_cons_succ, List.getElem_cons_zero, Act.put, List.setIfInBounds_toArray, List.set_cons_zero, List.set_cons_succ]
            refine wpAnyH_take (i := 17) (v := ?_) rfl (by kernel_rfl) (by kernel_rfl) (by kernel_rfl) (fun _ _ _ h => h) (Or.inl ⟨by rfl, ?_⟩) (by assumption) ?_
            rotate_left
            · (intro w hSw; (try dsimp only at hSw); go_simp; first | done | (with_reducible rfl))
            try simp only [List.getElem_toArray, List.getElem_cons_succ, List.getElem_cons_zero, Act.put, List.setIfInBounds_toArray, List.set_cons_zero, List.set_cons_succ]
            refine wpAnyH_take (i := 18) (v := ?_) rfl (by kernel_rfl) (by kernel_rfl) (by kernel_rfl) (fun _ _ _ h => h) (Or.inl ⟨by rfl, ?_⟩) (by assumption) ?_
            rotate_left
            · (intro w hSw; (try dsimp only at hSw); go_simp; first | done | (with_reducible rfl))
            try simp only [List.getElem_toArray, List.getElem_cons_succ, List.getElem_cons_zero, Act.put, List.setIfInBounds_toArray, List.set_cons_zero, List.set_cons_succ]
            refine wpAnyH_take (i := 19) (v := ?_) rfl (by kernel_rfl) (by kernel_rfl) (by kernel_rfl) (fun _ _ _ h => h) (Or.inl ⟨by rfl, ?_⟩) (by assumption) ?_
            rotate_left
            · (intro w hSw; (try dsimp only at hSw); go_simp; first | done | (with_reducible rfl))
            try simp only [List.getElem_toArray, List.getElem_cons_succ, List.getElem_cons_zero, Act.put, List.setIfInBounds_toArray, List.set_cons_zero, List.set_cons_succ]
            refine wpAnyH_take (i := 20) (v := .slice AP np cP) rfl (by kernel_rfl) (by kernel_rfl) (by kernel_rfl) (fun _ _ _ h => h) (Or.inl ⟨by rfl, fun w h => by have k0 := Blk.cell (show Blk w gm 43 #[.slice AP np cP, .int .i64 100, .int .u64 0, .int .u64 0] from (h.block _ HBP.out.lt).trans HBP.out) 0; simp at k0; go_simp⟩) (by assumption) ?_
            try simp only [List.getElem_toArray, List.getElem_cons_succ, List.getElem_cons_zero, Act.put, List.setIfInBounds_toArray, List.set_cons_zero, List.set_cons_succ]
            refine wpAnyH_take (i := 21) (v := ?_) rfl (by kernel_rfl) (by kernel_rfl) (by kernel_rfl) (fun _ _ _ h => h) (Or.inl ⟨by rfl, ?_⟩) (by assumption) ?_
            rotate_left
            · (intro w hSw; (try dsimp only at hSw); go_simp; first | done | (with_reducible rfl))
            try simp only [List.getElem_toArray, List.getElem_cons_succ, List.getElem_cons_zero, Act.put, List.setIfInBounds_toArray, List.set_cons_zero, List.set_cons_succ]
            refine wpAnyH_ready (rs := [16]) (by kernel_rfl) (by simp) ?_
            refine AllReadyH.cons rfl (fun K' hK' => ?_) AllReadyH.nil
            go_simp
            go_at_call 33
            refine (pages_any _ _ L9 _ (HLX.out.fr (Fr.of_below (S := fun _ => False) hHeld)) (by have := HLN.out; omega) HPX.out.cl.ok.Val).mono ?_
            rintro e1 wd ⟨rfl, hfd⟩
            rw [HPX.out.pages, HPN9E.out]
            have hS1 := Fr.below hHeld hfd (fun _ _ => id)
            clear hfd
            clear hHeld
            refine hK'.out _ _ hS1 (fun hHeld => ?_)
            clear hK' K' hS1
            try simp only [List.getElem_toArray, List.getElem_cons_succ, List.getElem_cons_zero, Act.put, List.setIfInBounds_toArray, List.set_cons_zero, List.set_cons_succ]
            refine wpAnyH_take (i := 22) (v := ?_) rfl (by kernel_rfl) (by kernel_rfl) (by kernel_rfl) (fun _ _ _ h => h) (Or.inl ⟨by rfl, ?_⟩) (by assumption) ?_
            rotate_left
            · (intro w hSw; (try dsimp only at hSw); go_simp; first | done | (with_reducible rfl))
            try simp only [List.getElem_toArray, List.getElem_cons_succ, List.getElem_cons_zero, Act.put, List.setIfInBounds_toArray, List.set_cons_zero, List.set_cons_succ]
            refine wpAnyH_take (i := 23) (v := ?_) rfl (by kernel_rfl) (by kernel_rfl) (by kernel_rfl) (fun _ _ _ h => h) (Or.inl ⟨by rfl, ?_⟩) (by assumption) ?_
            rotate_left
            · (intro w hSw; (try dsimp only at hSw); go_simp; first | done | (with_reducible rfl))
            try simp only [List.getElem_toArray, List.getElem_cons_succ, List.getElem_cons_zero, Act.put, List.setIfInBounds_toArray, List.set_cons_zero, List.set_cons_succ]
            refine wpAnyH_done (by kernel_rfl) ?_ _
            refine NoPanic.normal ?_
            have HWX := Lib.hid (Fr.of_below (S := fun _ => False) hHeld)
            clear hHeld
            go_wp2_with fail
            go_roundg (n - (k + 1))
            case measure => (have := HK2.out.1; have := HK2.out.2.1; omega)
            case rel => exact Lib.hid ⟨k + 1, L9, P9, by go_num, by omega, by have := HK2.out.2.2; omega, by omega, HLX.out.fr HWX.out, HSX.out.fr HWX.out, HPX.out, HPB.out, HFXX.out.trans HWX.out (fun _ _ => id)⟩
          · have d2 : (d == 2) = false := beq_eq_false_iff_ne.2 hd2
            by_cases hd3 : d = 3
            · subst hd3
              clear hd1 hd2
              go_wp2_with fail
              refine (HSP.out _).mono ?_
              rintro x w5 ⟨rfl, hf5⟩
              have HB5 := Lib.hid (HB4.out.fr hf5 id)
              have HL5 := Lib.hid (HL4.out.fr hf5)
              have HS5 := Lib.hid (HS4.out.fr hf5)
              have HF5 := Lib.hid (HF4.out.trans hf5 (fun _ _ => id))
              have x0 := HB5.out.cell 0
              have x3 := HB5.out.cell 3
              simp at x0 x3
              clear hf5
              go_wp2_with fail
              refine (protect_any _ _ L s e p ⟨HAN.out.1, HAN.out.2.1⟩ ⟨HAN.out.2.2.1, HAN.out.2.2.2⟩ _ HL5.out (by have := HP.out.len; have := HPL.out; omega)).mono ?_
              rintro x w6 ⟨y6, l6, rfl, hp6, hl6, hf6⟩
              obtain ⟨rfl, hlL⟩ : y6 = 22 ∧ L = l6 := by
                rcases hp6 with ⟨_, h1, h2⟩ | ⟨h1, _⟩ | ⟨h1, _⟩
                · exact ⟨h1, h2.symm⟩
                · rw [HE3.out] at h1; cases h1
                · rw [HE3.out] at h1; cases h1
              subst hlL
              have HL6 := Lib.hid hl6
              have HS6 := Lib.hid (HS5.out.keep HL5.out hf6)
              have HF6 := Lib.hid (HF5.out.trans hf6 (fun i hi e => by omega))
              clear hl6 hf6 hp6 x0 x3
              have HLX := Lib.hid (HL6.out)
              have HSX := Lib.hid (HS6.out)
              have HPX := Lib.hid (HP.out)
              have HPB := Lib.hid (HPN.out)
              have HFXX := Lib.hid (HF6.out)
              obtain ⟨L9, hL9⟩ : ∃ L9, L = L9 := ⟨_, rfl⟩
              obtain ⟨P9, hP9⟩ : ∃ P9, P = P9 := ⟨_, rfl⟩
              rw [hL9] at HLX HPX
              rw [hP9] at HSX HPX HPB
              clear hL9 hP9
              obtain ⟨vP, hbP, hrP⟩ := HSX.out.row
              obtain ⟨AP, cP, rfl, _, _⟩ := hrP.form
              obtain ⟨np, hnp⟩ : ∃ np, P9.length = np := ⟨_, rfl⟩
              have HPN9E := Lib.hid hnp
              have HPN9 := Lib.hid (small_len HPX.out.ok HPX.out.sm HPB.out)
              rw [hnp] at hbP
              have HBP := Lib.hid hbP
              have HRP := Lib.hid hrP
              rw [hnp] at HRP
              have HLN := Lib.hid (show L9.length ≤ 71 from by have := HPX.out.len; have := HPN9.out; omega)
              obtain ⟨nl, hnl⟩ : ∃ nl, L9.length = nl := ⟨_, rfl⟩
              have HLN9 := Lib.hid hnl
              clear hbP hrP hnp hnl
              go_wp2_with fail
              refine wp_region_noPanic ?_
              refine wp_region_held_drew (S := (fun w' => Below w6.heap.size w6 w')) (by kernel_rfl) ?_ (fun hHeld => ?_)
              · exact below_drew (Below.refl _ _)
              refine wpAnyH_take (i := 0) (v := ?_) rfl (by kernel_rfl) (by kernel_rfl) (by kernel_rfl) (fun _ _ _ h => h) (Or.inl ⟨by rfl, ?_⟩) (by assumption) ?_
              rotate_left
              · (intro w hSw; (try dsimp only at hSw); go_simp; first | done | (with_reducible rfl))
              try simp only [List.getElem_toArray, List.getElem_cons_succ, List.getElem_cons_zero, Act.put, List.setIfInBounds_toArray, List.set_cons_zero, List.set_cons_succ]
              refine wpAnyH_take (i := 1) (v := ?_) rfl (by kernel_rfl) (by kernel_rfl) (by kernel_rfl) (fun _ _ _ h => h) (Or.inl ⟨by rfl, ?_⟩) (by assumption) ?_
              rotate_left
              · (intro w hSw; (try dsimp only at hSw); go_simp; first | done | (with_reducible rfl))
              try simp only [List.getElem_toArray, List.getElem_cons_succ, List.getElem_cons_zero, Act.put, List.setIfInBounds_toArray, List.set_cons_zero, List.set_cons_succ]
              refine wpAnyH_take (i := 2) (v := ?_) rfl (by kernel_rfl) (by kernel_rfl) (by kernel_rfl) (fun _ _ _ h => h) (Or.inl ⟨by rfl, ?_⟩) (by assumption) ?_
              rotate_left
              · (intro w hSw; (try dsimp only at hSw); go_simp; first | done | (with_reducible rfl))
              try simp only [List.getElem_toArray, List.getElem_cons_succ, List.getElem_cons_zero, Act.put, List.setIfInBounds_toArray, List.set_cons_zero, List.set_cons_succ]
              refine wpAnyH_take (i := 3) (v := ?_) rfl (by kernel_rfl) (by kernel_rfl) (by kernel_rfl) (fun _ _ _ h => h) (Or.inl ⟨by rfl, ?_⟩) (by assumption) ?_
              rotate_left
              · (intro w hSw; (try dsimp only at hSw); go_simp; first | done | (with_reducible rfl))
              try simp only [List.getElem_toArray, List.getElem_cons_succ, List.getElem_cons_zero, Act.put, List.setIfInBounds_toArray, List.set_cons_zero, List.set_cons_succ]
              refine wpAnyH_take (i := 4) (v := ?_) rfl (by kernel_rfl) (by kernel_rfl) (by kernel_rfl) (fun _ _ _ h => h) (Or.inl ⟨by rfl, ?_⟩) (by assumption) ?_
              rotate_left
              · (intro w hSw; (try dsimp only at hSw); go_simp; first | done | (with_reducible rfl))
              try simp only [List.getElem_toArray, List.getElem_cons_succ, List.getElem_cons_zero, Act.put, List.setIfInBounds_toArray, List.set_cons_zero, List.set_cons_succ]
              refine wpAnyH_take (i := 6) (v := ?_) rfl (by kernel_rfl) (by kernel_rfl) (by kernel_rfl) (fun _ _ _ h => h) (Or.inl ⟨by rfl, ?_⟩) (by assumption) ?_
              rotate_left
              · (intro w hSw; (try dsimp only at hSw); go_simp; first | done | (with_reducible rfl))
              try simp only [List.getElem_toArray, List.getElem_cons_succ, List.getElem_cons_zero, Act.put, List.setIfInBounds_toArray, List.set_cons_zero, List.set_cons_succ]
              refine wpAnyH_take (i := 7) (v := ?_) rfl (by kernel_rfl) (by kernel_rfl) (by kernel_rfl) (fun _ _ _ h => h) (Or.inl ⟨by rfl, ?_⟩) (by assumption) ?_
              rotate_left
              · (intro w hSw; (try dsimp only at hSw); go_simp; first | done | (with_reducible rfl))
              try simp only [List.getElem_toArray, List.getElem_cons_succ, List.getElem_cons_zero, Act.put, List.setIfInBounds_toArray, List.set_cons_zero, List.set_cons_succ]
              refine wpAnyH_take (i := 8) (v := ?_) rfl (by kernel_rfl) (by kernel_rfl) (by kernel_rfl) (fun _ _ _ h => h) (Or.inl ⟨by rfl, ?_⟩) (by assumption) ?_
              rotate_left
              · (intro w hSw; (try dsimp only at hSw); go_simp; first | done | (with_reducible rfl))
              try simp only [List.getElem_toArray, List.getElem_cons_succ, List.getElem_cons_zero, Act.put, List.setIfInBounds_toArray, List.set_cons_zero, List.set_cons_succ]
              refine wpAnyH_take (i := 9) (v := .slice AP np cP) rfl (by kernel_rfl) (by kernel_rfl) (by kernel_rfl) (fun _ _ _ h => h) (Or.inl ⟨by rfl, fun w h => by have k0 := Blk.cell (show Blk w gm 43 #[.slice AP np cP, .int .i64 100, .int .u64 0, .int .u64 0] from (h.block _ HBP.out.lt).trans HBP.out) 0; simp at k0; go_simp⟩) (by assumption) ?_
              try simp only [List.getElem_toArray, List.getElem_cons_succ, List.getElem_cons_zero, Act.put, List.setIfInBounds_toArray, List.set_cons_zero, List.set_cons_succ]
              refine wpAnyH_ready (rs := [5]) (by kernel_rfl) (by simp) ?_
              refine AllReadyH.cons rfl (fun K' hK' => ?_) AllReadyH.nil
              go_simp
              go_at_call 23
              refine (all_any _ _ L9 _ (HLX.out.fr (Fr.of_below (S := fun _ => False) hHeld)) (by have := HLN.out; omega)).mono ?_
              rintro e1 wa ⟨va, rfl, hoa, hfa⟩
              obtain ⟨Aa, ca, rfl, _, _⟩ := hoa.form
              have HOa := Lib.hid hoa
              have hS1 := Fr.below hHeld hfa (fun _ _ => id)
              rw [HLN9.out]
              clear hoa hfa
              clear hHeld
              refine hK'.out _ _ hS1 (fun hHeld => ?_)
              clear hK' K' hS1
              try simp only [List.getElem_toArray, List.getElem_cons_succ, List.getElem_cons_zero, Act.put, List.setIfInBounds_toArray, List.set_cons_zero, List.set_cons_succ]
              refine wpAnyH_ready (rs := [10]) (by kernel_rfl) (by simp) ?_
              refine AllReadyH.cons rfl (fun K' hK' => ?_) AllReadyH.nil
              go_simp
              go_at_call 17
              refine (regions_any _ P9 _ _ (HRP.out.fr (Fr.of_below (S := fun _ => False) hHeld) (fun _ _ => id)) (by have := HPN9.out; omega) HPX.out.sm).mono ?_
              rintro e1 wb ⟨vb, rfl, hob, hbb⟩
              rw [HPX.out.regs] at hob
              obtain ⟨Ab, cb, rfl, _, _⟩ := hob.form
              have HOb := Lib.hid hob
              have HOa2 := Lib.hid (HOa.out.fr (Fr.of_below (S := fun _ => False) hbb) (fun _ _ => id))
              clear HOa
              have HOa := HOa2
              clear HOa2
              have hS1 := Fr.below hHeld (Fr.of_below (S := fun _ => False) hbb) (fun _ _ => id)
              rw [HLN9.out]
              clear hob hbb
              clear hHeld
              refine hK'.out _ _ hS1 (fun hHeld => ?_)
              clear hK' K' hS1
              try simp only [List.getElem_toArray, List.getElem_cons_succ, List.getElem_cons_zero, Act.put, List.setIfInBounds_toArray, List.set_cons_zero, List.set_cons_succ]
              refine wpAnyH_ready (rs := [11]) (by kernel_rfl) (by simp) ?_
              refine AllReadyH.cons rfl (fun K' hK' => ?_) AllReadyH.nil
              go_simp
              go_at_call 32
              have hoa := HOa.out
              have hob := HOb.out
              rw [HLN9.out] at hoa hob
              refine (same_any _ _ L9 _ _ _ hoa hob (by have := HLN.out; omega)).mono ?_
              rintro e1 wc ⟨rfl, hfc⟩
              have hS1 := Fr.below hHeld hfc (fun _ _ => id)
              clear hfc hoa hob
              clear hHeld
              refine hK'.out _ _ hS1 (fun hHeld => ?_)
              clear hK' K' hS1
              try simp only [List.getElem_toArray, List.getElem_cons_succ, List.getElem_cons_zero, Act.put, List.setIfInBounds_toArray, List.set_cons_zero, List.set_cons_succ]
              refine wpAnyH_take (i := 12) (v := ?_) rfl (by kernel_rfl) (by kernel_rfl) (by kernel_rfl) (fun _ _ _ h => h) (Or.inl ⟨by rfl, ?_⟩) (by assumption) ?_
              rotate_left
              · (intro w hSw; (try dsimp only at hSw); go_simp; first | done | (with_reducible rfl))
              try simp only [List.getElem_toArray, List.getElem_cons_succ, List.getElem_cons_zero, Act.put, List.setIfInBounds_toArray, List.set_cons_zero, List.set_cons_succ]
              refine wpAnyH_take (i := 13) (v := ?_) rfl (by kernel_rfl) (by kernel_rfl) (by kernel_rfl) (fun _ _ _ h => h) (Or.inl ⟨by rfl, ?_⟩) (by assumption) ?_
              rotate_left
              · (intro w hSw; (try dsimp only at hSw); go_simp; first | done | (with_reducible rfl))
              try simp only [List.getElem_toArray, List.getElem_cons_succ, List.getElem_cons_zero, Act.put, List.setIfInBounds_toArray, List.set_cons_zero, List.set_cons_succ]
              refine wpAnyH_take (i := 14) (v := ?_) rfl (by kernel_rfl) (by kernel_rfl) (by kernel_rfl) (fun _ _ _ h => h) (Or.inl ⟨by rfl, ?_⟩) (by assumption) ?_
              rotate_left
              · (intro w hSw; (try dsimp only at hSw); go_simp; first | done | (with_reducible rfl))
              try simp only [List.getElem_toArray, List.getElem_cons_succ, List.getElem_cons_zero, Act.put, List.setIfInBounds_toArray, List.set_cons_zero, List.set_cons_succ]
              refine wpAnyH_take (i := 15) (v := ?_) rfl (by kernel_rfl) (by kernel_rfl) (by kernel_rfl) (fun _ _ _ h => h) (Or.inl ⟨by rfl, ?_⟩) (by assumption) ?_
              rotate_left
              · (intro w hSw; (try dsimp only at hSw); go_simp; first | done | (with_reducible rfl))
              try simp only [List.getElem_toArray, List.getElem_cons_succ, List.getElem_cons_zero, Act.put, List.setIfInBounds_toArray, List.set_cons_zero, List.set_cons_succ]
              refine wpAnyH_take (i := 17) (v := ?_) rfl (by kernel_rfl) (by kernel_rfl) (by kernel_rfl) (fun _ _ _ h => h) (Or.inl ⟨by rfl, ?_⟩) (by assumption) ?_
              rotate_left
              · (intro w hSw; (try dsimp only at hSw); go_simp; first | done | (with_reducible rfl))
              try simp only [List.getElem_toArray, List.getElem_cons_succ, List.getElem_cons_zero, Act.put, List.setIfInBounds_toArray, List.set_cons_zero, List.set_cons_succ]
              refine wpAnyH_take (i := 18) (v := ?_) rfl (by kernel_rfl) (by kernel_rfl) (by kernel_rfl) (fun _ _ _ h => h) (Or.inl ⟨by rfl, ?_⟩) (by assumption) ?_
              rotate_left
              · (intro w hSw; (try dsimp only at hSw); go_simp; first | done | (with_reducible rfl))
              try simp only [List.getElem_toArray, List.getElem_cons_succ, List.getElem_cons_zero, Act.put, List.setIfInBounds_toArray, List.set_cons_zero, List.set_cons_succ]
              refine wpAnyH_take (i := 19) (v := ?_) rfl (by kernel_rfl) (by kernel_rfl) (by kernel_rfl) (fun _ _ _ h => h) (Or.inl ⟨by rfl, ?_⟩) (by assumption) ?_
              rotate_left
              · (intro w hSw; (try dsimp only at hSw); go_simp; first | done | (with_reducible rfl))
              try simp only [List.getElem_toArray, List.getElem_cons_succ, List.getElem_cons_zero, Act.put, List.setIfInBounds_toArray, List.set_cons_zero, List.set_cons_succ]
              refine wpAnyH_take (i := 20) (v := .slice AP np cP) rfl (by kernel_rfl) (by kernel_rfl) (by kernel_rfl) (fun _ _ _ h => h) (Or.inl ⟨by rfl, fun w h => by have k0 := Blk.cell (show Blk w gm 43 #[.slice AP np cP, .int .i64 100, .int .u64 0, .int .u64 0] from (h.block _ HBP.out.lt).trans HBP.out) 0; simp at k0; go_simp⟩) (by assumption) ?_
              try simp only [List.getElem_toArray, List.getElem_cons_succ, List.getElem_cons_zero, Act.put, List.setIfInBounds_toArray, List.set_cons_zero, List.set_cons_succ]
              refine wpAnyH_take (i := 21) (v := ?_) rfl (by kernel_rfl) (by kernel_rfl) (by kernel_rfl) (fun _ _ _ h => h) (Or.inl ⟨by rfl, ?_⟩) (by assumption) ?_
              rotate_left
              · (intro w hSw; (try dsimp only at hSw); go_simp; first | done | (with_reducible rfl))
              try simp only [List.getElem_toArray, List.getElem_cons_succ, List.getElem_cons_zero, Act.put, List.setIfInBounds_toArray, List.set_cons_zero, List.set_cons_succ]
              refine wpAnyH_ready (rs := [16]) (by kernel_rfl) (by simp) ?_
              refine AllReadyH.cons rfl (fun K' hK' => ?_) AllReadyH.nil
              go_simp
              go_at_call 33
              refine (pages_any _ _ L9 _ (HLX.out.fr (Fr.of_below (S := fun _ => False) hHeld)) (by have := HLN.out; omega) HPX.out.cl.ok.Val).mono ?_
              rintro e1 wd ⟨rfl, hfd⟩
              rw [HPX.out.pages, HPN9E.out]
              have hS1 := Fr.below hHeld hfd (fun _ _ => id)
              clear hfd
              clear hHeld
              refine hK'.out _ _ hS1 (fun hHeld => ?_)
              clear hK' K' hS1
              try simp only [List.getElem_toArray, List.getElem_cons_succ, List.getElem_cons_zero, Act.put, List.setIfInBounds_toArray, List.set_cons_zero, List.set_cons_succ]
              refine wpAnyH_take (i := 22) (v := ?_) rfl (by kernel_rfl) (by kernel_rfl) (by kernel_rfl) (fun _ _ _ h => h) (Or.inl ⟨by rfl, ?_⟩) (by assumption) ?_
              rotate_left
              · (intro w hSw; (try dsimp only at hSw); go_simp; first | done | (with_reducible rfl))
              try simp only [List.getElem_toArray, List.getElem_cons_succ, List.getElem_cons_zero, Act.put, List.setIfInBounds_toArray, List.set_cons_zero, List.set_cons_succ]
              refine wpAnyH_take (i := 23) (v := ?_) rfl (by kernel_rfl) (by kernel_rfl) (by kernel_rfl) (fun _ _ _ h => h) (Or.inl ⟨by rfl, ?_⟩) (by assumption) ?_
              rotate_left
              · (intro w hSw; (try dsimp only at hSw); go_simp; first | done | (with_reducible rfl))
              try simp only [List.getElem_toArray, List.getElem_cons_succ, List.getElem_cons_zero, Act.put, List.setIfInBounds_toArray, List.set_cons_zero, List.set_cons_succ]
              refine wpAnyH_done (by kernel_rfl) ?_ _
              refine NoPanic.normal ?_
              have HWX := Lib.hid (Fr.of_below (S := fun _ => False) hHeld)
              clear hHeld
              go_wp2_with fail
              go_roundg (n - (k + 1))
              case measure => (have := HK2.out.1; have := HK2.out.2.1; omega)
              case rel => exact Lib.hid ⟨k + 1, L9, P9, by go_num, by omega, by have := HK2.out.2.2; omega, by omega, HLX.out.fr HWX.out, HSX.out.fr HWX.out, HPX.out, HPB.out, HFXX.out.trans HWX.out (fun _ _ => id)⟩
            · have d3 : (d == 3) = false := beq_eq_false_iff_ne.2 hd3
              clear hd1 hd2 hd3
              go_wp2_with fail
              refine (HSP.out _).mono ?_
              rintro x w5 ⟨rfl, hf5⟩
              have HB5 := Lib.hid (HB4.out.fr hf5 id)
              have HL5 := Lib.hid (HL4.out.fr hf5)
              have HS5 := Lib.hid (HS4.out.fr hf5)
              have HF5 := Lib.hid (HF4.out.trans hf5 (fun _ _ => id))
              have x0 := HB5.out.cell 0
              have x3 := HB5.out.cell 3
              simp at x0 x3
              clear hf5
              go_wp2_with fail
              go_roundg (n - (k + 1))
              case measure => (have := HK2.out.1; have := HK2.out.2.1; omega)
              case rel => exact Lib.hid ⟨k + 1, L, P, by go_num, by omega, by have := HK2.out.2.2; omega, by omega, HL5.out, HS5.out, HP.out, HPN.out, HF5.out⟩
    · by_cases hk1 : k < n
      · have u1 : decide ((k : Int) < (n : Int)) = true := decide_eq_true (by omega)
        have u1' : decide (k < n) = true := decide_eq_true (by omega)
        have u2 : decide ((k : Int) < 60) = false := decide_eq_false (by omega)
        have u2' : decide (k < 60) = false := decide_eq_false (by omega)
        go_wp2_with fail
        go_ret
        exact ⟨rfl, HF.out⟩
      · have u1 : decide ((k : Int) < (n : Int)) = false := decide_eq_false (by omega)
        have u1' : decide (k < n) = false := decide_eq_false (by omega)
        go_wp2_with fail
        go_ret
        exact ⟨rfl, HF.out⟩
theorem acts_walk (v : Value) (W : World) (hv : Acts W v) : Calls Try.prog 6 #[v] W fun e W' => e = .returned (.bool true) ∧ Below W.heap.size W W' :=
  (acts_any v W hv).mono fun _ _ g => ⟨g.1, Fr.below (Below.refl _ _) g.2 (fun _ _ => id)⟩
end Go.Proofs.Ytnaiccgbjcppaaa.Rg
