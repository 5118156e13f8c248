/- Equal regions, what fits, RegionBack: walked. -/
import Derived.Test.YtnaiccgbjcppaaaRgK
import Derived.Test.YtnaiccgbjcppaaaWEqStruct
namespace Go.Proofs.Ytnaiccgbjcppaaa.Rg
open Go Go.RowKit Go.Proofs.YtnaiccgbjcppaaaW.PrintWords Go.Proofs.YtnaiccgbjcppaaaW.PrintLast Go.Proofs.YtnaiccgbjcppaaaW.PrintMore
open Go.Proofs.Ytnaiccgbjcppaaa.Hp
attribute [local go_sem] max2_int min2_int max_two min_two max_three min_three max_four min_four
set_option linter.unusedVariables false
set_option linter.unusedSimpArgs false
theorem eq_u64 (x y : Int) (w : World) : (Op.equalIn 9999 23 (.int .u64 x) (.int .u64 y)).run Try.prog w = .ok (x == y) w := run_equalIn_int (P := Try.prog) w 9998 23 .u64 .u64 x y Try.underlying23
theorem eq_i64 (x y : Int) (w : World) : (Op.equalIn 9999 3 (.int .i64 x) (.int .i64 y)).run Try.prog w = .ok (x == y) w := run_equalIn_int (P := Try.prog) w 9998 3 .i64 .i64 x y Try.underlying3
def eqR (x1 x2 x3 y1 y2 y3 : Int) : Bool := (x1 == y1) && ((x2 == y2) && (x3 == y3))
theorem eqin_rg (x1 x2 x3 y1 y2 y3 : Int) (w : World) : (Op.equalIn 10000 36 (.agg #[.int .u64 x1, .int .u64 x2, .int .i64 x3]) (.agg #[.int .u64 y1, .int .u64 y2, .int .i64 y3])).run Try.prog w = .ok (eqR x1 x2 x3 y1 y2 y3) w :=
  eqA_of Try.underlying36 (by kernel_rfl) (eqf_cons (by kernel_rfl) (a := .int .u64 x1) (b := .int .u64 y1) (by kernel_rfl) (by kernel_rfl) (eq_u64 _ _ _)
    (eqf_cons (by kernel_rfl) (a := .int .u64 x2) (b := .int .u64 y2) (by kernel_rfl) (by kernel_rfl) (eq_u64 _ _ _) (eqf_last (by kernel_rfl) (a := .int .i64 x3) (b := .int .i64 y3) (by kernel_rfl) (by kernel_rfl) (eq_i64 _ _ _))))
theorem eq_rg (x1 x2 x3 y1 y2 y3 : Int) (w : World) : (binOp .eql 36 (.agg #[.int .u64 x1, .int .u64 x2, .int .i64 x3]) (.agg #[.int .u64 y1, .int .u64 y2, .int .i64 y3])).run Try.prog w = .ok (.bool (eqR x1 x2 x3 y1 y2 y3)) w := by
  rw [run_eql_struct, eqin_rg]
  rfl
theorem eqR_self (x1 x2 x3 : Int) : eqR x1 x2 x3 x1 x2 x3 = true := by simp [eqR]
theorem byte_at {w : World} {A : Option Addr} {n : Nat} {l : List Int} (hr : ReadsInt w .u8 A n l) (hb : ∀ y ∈ l, 0 ≤ y ∧ y ≤ 255) (k : Nat) (hk : k < n) : ∃ (ad : Addr) (x : Nat), A = some ad ∧ w.cell? (ad.add k) = some (.int .u8 (x : Int)) ∧ l.getD k 0 = (x : Int) ∧ x < 256 := by
  obtain ⟨ad, e, hc⟩ := hr.2.2 (by omega)
  have hm : l.getD k 0 ∈ l := by
    have hkl : k < l.length := by rw [hr.1]; exact hk
    rw [show l.getD k 0 = l[k]'hkl from by simp [List.getD, hkl]]
    exact List.getElem_mem _
  have hx := hb _ hm
  refine ⟨ad, (l.getD k 0).toNat, e, ?_, by omega, by omega⟩
  rw [hc k hk]
  congr 2
  omega
theorem and0 (p : Int) (h0 : 0 ≤ p) (h7 : p ≤ 7) : (andI p 0 != 0) = false := by
  obtain ⟨n, rfl⟩ := Int.eq_ofNat_of_zero_le h0
  have hn : n < 8 := by omega
  rcases (show n = 0 ∨ n = 1 ∨ n = 2 ∨ n = 3 ∨ n = 4 ∨ n = 5 ∨ n = 6 ∨ n = 7 from by omega) with rfl | rfl | rfl | rfl | rfl | rfl | rfl | rfl <;> rfl
/-! ### What fits. -/
theorem take_fits {l : List Rg} (hn : l.length ≤ 256) (old : List Rg) : takeE l = 0 ∧ takeL old l = joinedL l := by
  have h := joinedL_len l
  unfold takeE takeL
  rw [if_neg (by omega), if_neg (by omega)]
  exact ⟨rfl, rfl⟩
theorem map_fits {l : List Rg} {s e p : Int} (h : Cl l) (hb : mapB s e p = true) (hs : 0 ≤ s) (hn : 2 * l.length + 1 ≤ 256) : mapE l s e p = 0 ∧ Cl (mapL l s e p) ∧ (∀ y, lk (mapL l s e p) y = if s ≤ y ∧ y < e then some p else lk l y) ∧ (mapL l s e p).length ≤ 2 * l.length + 1 := by
  have hsp : spanB s e = true := by
    unfold mapB at hb
    simp only [Bool.and_eq_true] at hb
    exact hb.1
  have hok := with_ok l h.ok ⟨s, e, p⟩ hsp hs
  have hl := withL_len l ⟨s, e, p⟩
  have ht := take_fits (l := withL l ⟨s, e, p⟩) (by omega) l
  unfold mapE mapL
  rw [if_pos hb, if_pos hb, ht.1, ht.2]
  exact ⟨rfl, Cl.joined hok, fun y => by rw [lk_joined hok, lk_with l h.ok ⟨s, e, p⟩ hsp], by have := joinedL_len (withL l ⟨s, e, p⟩); omega⟩
theorem un_fits {l : List Rg} {s e : Int} (h : Cl l) (hsp : spanB s e = true) (hn : 2 * l.length ≤ 256) : unE l s e = 0 ∧ Cl (unL l s e) ∧ (∀ y, lk (unL l s e) y = if s ≤ y ∧ y < e then none else lk l y) ∧ (unL l s e).length ≤ 2 * l.length := by
  have hok := without_ok s e hsp l h.ok
  have hl := withoutL_len s e l
  have ht := take_fits (l := withoutL s e l) (by omega) l
  unfold unE unL
  rw [if_pos hsp, if_pos hsp, ht.1, ht.2]
  exact ⟨rfl, Cl.joined hok, fun y => by rw [lk_joined hok, lk_without s e (span_lt hsp) l h.ok.val], by have := joinedL_len (withoutL s e l); omega⟩
theorem free_none {l : List Rg} (h : Okl l) {s e : Int} (hsp : spanB s e = true) (hf : ∀ y, s ≤ y → y < e → lk l y = none) : freeB l s e = true := by
  unfold freeB
  rw [hsp]
  rcases idxL_spec (fun r => decide (r.s < e) && decide (s < r.e)) l 0 with ⟨he, _⟩ | ⟨k, hk, _, hp, _⟩
  · rw [he]
    rfl
  · exfalso
    have hm := rgAt_mem l k hk
    have hg := h.val _ hm
    simp only [Bool.and_eq_true, decide_eq_true_eq] at hp
    have hse := span_lt hsp
    unfold gd at hg
    have h1 := lk_mem h hm (y := max s (rgAt l k).s) (by unfold inR; omega)
    rw [hf _ (by omega) (by omega)] at h1
    cases h1
theorem free_some {l : List Rg} (h : Okl l) {s e y p : Int} (h1 : s ≤ y) (h2 : y < e) (hl : lk l y = some p) : freeB l s e = false := by
  unfold freeB
  rcases idxL_spec (fun r => decide (r.s < e) && decide (s < r.e)) l 0 with ⟨_, hno⟩ | ⟨k, hk, he, _, _⟩
  · obtain ⟨r, hr, h3, _⟩ := lk_ex _ _ _ hl
    have h4 := hno r hr
    unfold inR at h3
    simp only [Bool.and_eq_false_iff, decide_eq_false_iff_not] at h4
    omega
  · rw [he, decide_eq_true (by omega)]
    simp
theorem prot_fits {l : List Rg} {s e p : Int} (h : Cl l) (hb : mapB s e p = true) (hs : 0 ≤ s) (hn : 2 * l.length + 1 ≤ 256) (hall : ∀ y, s ≤ y → y < e → ∃ q, lk l y = some q ∧ 0 ≤ q ∧ q ≤ 7) {x : Int} {l' : List Rg} (hp : protR l s e p x l') : x = 0 ∧ Cl l' ∧ (∀ y, lk l' y = if s ≤ y ∧ y < e then some p else lk l y) ∧ l'.length ≤ 2 * l.length + 1 := by
  rcases hp with ⟨h1, _⟩ | ⟨_, ⟨y, h1⟩, _⟩ | ⟨_, _, rfl, rfl⟩
  · rw [hb] at h1
    cases h1
  · exfalso
    obtain ⟨h2, h3, h4, _⟩ := (first_spec h.ok h1).1 rfl
    obtain ⟨q, hq, q0, q7⟩ := hall y h2 h3
    exact h4 ⟨q, hq, and0 q q0 q7⟩
  · have hf := map_fits h hb hs hn
    unfold mapE mapL at hf
    rwa [if_pos hb, if_pos hb] at hf
/-! ### RegionBack -/
def base (p : Int) : List Rg := [⟨4096, 413696, p⟩]
theorem base_cl (p : Int) : Cl (base p) := ⟨⟨fun x hx => by
  obtain rfl := List.mem_singleton.1 hx
  unfold gd
  simp only
  omega, List.pairwise_singleton _ _⟩, List.pairwise_singleton _ _⟩
theorem base_lk (p y : Int) : lk (base p) y = if 4096 ≤ y ∧ y < 413696 then some p else none := by
  unfold base
  rw [lk_cons, lk_nil]
theorem base_pages (p : Int) : pagesI (base p) = 100 := by
  show (413696 - 4096 : Int) / 4096 + 0 = 100
  decide
theorem base_at (p : Int) : atK (base p) 5000 = true ∧ (atG (base p) 5000).s = 4096 ∧ (atG (base p) 5000).e = 413696 ∧ (atG (base p) 5000).p = p := ⟨rfl, rfl, rfl, rfl⟩
theorem base_back {p s e : Int} {l : List Rg} (h : Cl l) (hb : mapB s e p = true) (hs : 4096 ≤ s) (he : e ≤ 413696) (hn : l.length ≤ 3) (hl : ∀ y, ¬ (s ≤ y ∧ y < e) → lk l y = lk (base p) y) : mapE l s e p = 0 ∧ mapL l s e p = base p := by
  refine map_to h hb (by omega) (base_cl p) (fun y => ?_) (by show 1 ≤ 256; omega)
  by_cases h1 : s ≤ y ∧ y < e
  · rw [if_pos h1, base_lk, if_pos (by omega)]
  · rw [if_neg h1, hl y h1]
theorem mapB_of {s e p : Int} (a b : Nat) (hs : s = (a : Int) * 4096) (he : e = (b : Int) * 4096) (hab : a < b) (hb : b ≤ 1000000) (hp : 0 ≤ p ∧ p ≤ 7) : mapB s e p = true := by
  unfold mapB spanB protsB
  simp only [Bool.and_eq_true, decide_eq_true_eq]
  omega
def AtBk (w : World) (p : Int) (g n : Nat) (v7 : Value) (kq : Nat) (wr : World) : Prop := ∃ k : Nat, v7 = .int .i64 k ∧ k ≤ 41 ∧ k ≤ n ∧ n - k ≤ kq ∧ Lst wr w.heap.size g (base p) ∧ Fr (fun _ => False) w wr
theorem ans_base (p : Int) (hp : 0 ≤ p ∧ p ≤ 7) : mapE [] 4096 413696 p = 0 ∧ mapL [] 4096 413696 p = base p :=
  map_to ⟨Okl.nil, Can.nil⟩ (mapB_of 1 101 (by omega) (by omega) (by omega) (by omega) hp) (by omega) (base_cl p) (fun y => by rw [base_lk, lk_nil]) (by show 1 ≤ 256; omega)
set_option maxHeartbeats 8000000 in
set_option maxRecDepth 100000 in
theorem back_any (m : Nat) (hm : m < 256) (A : Option Addr) (c : Nat) (l : List Int) (w : World) (hl : l.length ≤ 140737488351232) (hr : ReadsInt w .u8 A l.length l) (hb : ∀ y ∈ l, 0 ≤ y ∧ y ≤ 255) : Calls Try.prog 7 #[.slice A l.length c, .int .u8 (m : Int)] w fun e w' => e = .returned (.bool true) ∧ Fr (fun _ => False) w w' := by
  obtain ⟨p, hp⟩ : ∃ p, m % 8 = p := ⟨_, rfl⟩
  have hp7 : p ≤ 7 := by omega
  have hm1 : ((m : Int).tmod 8) = (p : Int) := by rw [Int.tmod_eq_emod_of_nonneg (by omega)]; omega
  have hm2 : ((m : Int) % 8) = (p : Int) := by omega
  have hw0 : IntKind.i64.wrap (p : Int) = p := IntWalk.i64_in _ (by omega)
  obtain ⟨n, hnn⟩ : ∃ n, l.length = n := ⟨_, rfl⟩
  rw [hnn] at hr hl ⊢
  have HR := Lib.hid hr
  have HB := Lib.hid hb
  clear hr hb hnn hp
  go_enter Try.func7, Try.ntmps7
  go_wp2_with fail
  refine (new_any _).mono ?_
  rintro x w1 ⟨rfl, hl1, hf1⟩
  have HL1 := Lib.hid hl1
  have HF1 := Lib.hid hf1
  clear hl1 hf1
  go_wp2_with fail
  refine (answers_any _).mono ?_
  rintro x w2 ⟨rfl, hf2⟩
  have HF2 := Lib.hid (HF1.out.trans hf2 (fun _ _ => id))
  have HL2 := Lib.hid (HL1.out.fr hf2)
  clear hf2
  go_wp2_with fail
  refine (map_any _ _ [] 4096 413696 (p : Int) (by omega) (by omega) _ HL2.out (by simp)).mono ?_
  rintro x w3 ⟨rfl, hl3, hf3⟩
  rw [(ans_base p (by omega)).2] at hl3
  rw [(ans_base p (by omega)).1]
  have HL3 := Lib.hid hl3
  have HF3 := Lib.hid (HF2.out.trans hf3 (fun i hi e => by omega))
  clear hl3 hf3
  go_wp2_with fail
  go_loopg [7] n (fun kq v7 wr => Hid (AtBk w p w.heap.size n v7 kq wr))
  case atStart => exact Lib.hid ⟨0, rfl, by omega, by omega, by omega, HL3.out, HF3.out⟩
  case round =>
    obtain ⟨k, rfl, hk41, hkn, hk2, hl, hf⟩ := hrel.out
    have HL := Lib.hid hl
    have HF := Lib.hid hf
    clear hrel hl hf
    by_cases hk : k + 1 < n ∧ k < 40
    · obtain ⟨hk1, hk40⟩ := hk
      obtain ⟨k1, hke⟩ : ∃ k1, k + 1 = k1 := ⟨_, rfl⟩
      have hke1 : (k : Int) + 1 = (k1 : Int) := by omega
      have u1 : decide ((k1 : Int) < (n : Int)) = true := decide_eq_true (by omega)
      have u1' : decide (k1 < n) = true := decide_eq_true (by omega)
      have u2 : decide ((k : Int) < 40) = true := decide_eq_true (by omega)
      have j0 : (0 : Int) ≤ (k : Int) := by omega
      have j1 : (k : Int) < (n : Int) := by omega
      have j2 : (0 : Int) ≤ (k1 : Int) := by omega
      have j3 : (k1 : Int) < (n : Int) := by omega
      have HRW := Lib.hid (reads_fr HR.out HF.out (fun _ _ _ => id))
      obtain ⟨ad, x, rfl, hx, -, hx256⟩ := byte_at HRW.out HB.out k (by omega)
      obtain ⟨ad2, y, e2, hy, -, hy256⟩ := byte_at HRW.out HB.out k1 (by omega)
      injection e2 with e2
      subst e2
      obtain ⟨a, ha⟩ : ∃ a, x % 99 = a := ⟨_, rfl⟩
      obtain ⟨b, hb⟩ : ∃ b, y % 20 = b := ⟨_, rfl⟩
      have ha1 : ((x : Int).tmod 99) = (a : Int) := by rw [Int.tmod_eq_emod_of_nonneg (by omega)]; omega
      have ha2 : ((x : Int) % 99) = (a : Int) := by omega
      have hb1 : ((y : Int).tmod 20) = (b : Int) := by rw [Int.tmod_eq_emod_of_nonneg (by omega)]; omega
      have hb2 : ((y : Int) % 20) = (b : Int) := by omega
      have ha9 : a < 99 := by omega
      have hb9 : b < 20 := by omega
      have HKE := Lib.hid hke
      have HK2 := Lib.hid (And.intro hk2 hk1)
      obtain ⟨S, hS⟩ : ∃ S : Nat, (1 + a) * 4096 = S := ⟨_, rfl⟩
      obtain ⟨T, hT⟩ : ∃ T : Nat, (1 + b) * 4096 = T := ⟨_, rfl⟩
      obtain ⟨E, hE⟩ : ∃ E : Nat, S + T = E := ⟨_, rfl⟩
      have hS1 : (1 + (a : Int)) * 4096 = (S : Int) := by omega
      have hT1 : (1 + (b : Int)) * 4096 = (T : Int) := by omega
      have hE1 : (S : Int) + (T : Int) = (E : Int) := by omega
      have hw1 : IntKind.u64.wrap (S : Int) = (S : Int) := IntWalk.u64_in _ (by omega)
      have hw2 : IntKind.u64.wrap (T : Int) = (T : Int) := IntWalk.u64_in _ (by omega)
      have hw3 : IntKind.u64.wrap (E : Int) = (E : Int) := IntWalk.u64_in _ (by omega)
      have HSE := Lib.hid (And.intro hS (And.intro hT hE))
      clear hS hT hE
      clear hl hk2 ha hb hke
      obtain ⟨d, hd⟩ : ∃ d, k % 4 = d := ⟨_, rfl⟩
      have hd1 : ((k : Int).tmod 4) = (d : Int) := by rw [Int.tmod_eq_emod_of_nonneg (by omega)]; omega
      have hd2 : ((k : Int) % 4) = (d : Int) := by omega
      obtain ⟨q, hq⟩ : ∃ q, (p + 1) % 8 = q := ⟨_, rfl⟩
      have hq1 : (((p : Int) + 1).tmod 8) = (q : Int) := by rw [Int.tmod_eq_emod_of_nonneg (by omega)]; omega
      have hq2 : (((p : Int) + 1) % 8) = (q : Int) := by omega
      have hq8 : q < 8 := by omega
      clear hd hq
      by_cases hbig : 413696 < E
      · have u5 : decide ((413696 : Int) < (E : Int)) = true := decide_eq_true (by omega)
        have HMB := Lib.hid (fun (r : Int) (hr : 0 ≤ r ∧ r ≤ 7) => mapB_of (s := (S : Int)) (e := 413696) (p := r) (a + 1) 101 (by have := HSE.out; omega) (by omega) (by omega) (by omega) hr)
        have hs1 : 4096 ≤ (S : Int) := by have := HSE.out; omega
        have hs2 : (413696 : Int) ≤ 413696 := by omega
        clear hbig
        by_cases hd0 : d = 0
        · have u6 : ((d : Int) == 0) = true := by simp [hd0]
          have u6' : (d == 0) = true := by simp [hd0]
          clear hd0
          go_wp2_with fail
          refine (protect_any _ _ (base p) (S : Int) (413696) (q : Int) (by omega) (by omega) _ HL.out (by show 1 ≤ 1000; omega)).mono ?_
          rintro x0 w4 ⟨y0, l1, rfl, hp4, hl4, hf4⟩
          obtain ⟨rfl, h41, h42, h43⟩ := prot_fits (base_cl p) (HMB.out q (by omega)) (by omega) (by show 3 ≤ 256; omega) (fun y hy1 hy2 => ⟨p, by rw [base_lk, if_pos (by omega)], by omega, by omega⟩) hp4
          have HL1 := Lib.hid hl4
          have HC1 := Lib.hid (show Cl l1 ∧ (∀ y, ¬ ((S : Int) ≤ y ∧ y < 413696) → lk l1 y = lk (base p) y) ∧ l1.length ≤ 3 from ⟨h41, fun y hy => by rw [h42, if_neg hy], h43⟩)
          have HF4 := Lib.hid (HF.out.trans hf4 (fun i hi e => by omega))
          clear hl4 hf4 hp4 h41 h42 h43
          have HBK := Lib.hid (base_back HC1.out.1 (HMB.out p (by omega)) hs1 hs2 HC1.out.2.2 HC1.out.2.1)
          go_wp2_with fail
          refine (map_any _ _ l1 (S : Int) (413696) (p : Int) (by omega) (by omega) _ HL1.out (by have := HC1.out.2.2; omega)).mono ?_
          rintro x1 w5 ⟨rfl, hl5, hf5⟩
          rw [HBK.out.2] at hl5
          rw [HBK.out.1]
          have HL5 := Lib.hid hl5
          have HF5 := Lib.hid (HF4.out.trans hf5 (fun i hi e => by omega))
          clear hl5 hf5
          go_wp2_with fail
          refine (all_any _ _ _ _ HL5.out (by show 1 ≤ 5000; omega)).mono ?_
          rintro x2 w6 ⟨v6, rfl, ho6, hf6⟩
          obtain ⟨A6, c6, rfl, _, _⟩ := ho6.form
          rw [show (base (p : Int)).length = 1 from rfl]
          have HL6 := Lib.hid (HL5.out.fr hf6)
          have HF6 := Lib.hid (HF5.out.trans hf6 (fun _ _ => id))
          clear hf6 ho6
          go_wp2_with fail
          refine (pages_any _ _ _ _ HL6.out (by show 1 ≤ 5000; omega) (base_cl p).ok.Val).mono ?_
          rintro x3 w7 ⟨rfl, hf7⟩
          rw [base_pages]
          have HL7 := Lib.hid (HL6.out.fr hf7)
          have HF7 := Lib.hid (HF6.out.trans hf7 (fun _ _ => id))
          clear hf7
          go_wp2_with fail
          go_roundg (n - (k + 2))
          case measure => (have := HK2.out.1; have := HK2.out.2; omega)
          case rel => exact Lib.hid ⟨k + 2, by go_num, by omega, by have := HKE.out; omega, by omega, HL7.out, HF7.out⟩

        · have u6 : ((d : Int) == 0) = false := beq_eq_false_iff_ne.2 (by omega)
          have u6' : (d == 0) = false := beq_eq_false_iff_ne.2 hd0
          clear hd0
          go_wp2_with fail
          refine (unmap_any _ _ (base p) (S : Int) (413696) (by omega) (by omega) _ HL.out (by show 1 ≤ 1000; omega)).mono ?_
          rintro x0 w4 ⟨rfl, hl4, hf4⟩
          have HSP := Lib.hid (show spanB (S : Int) (413696) = true from by
            have h := HMB.out p (by omega)
            unfold mapB at h
            simp only [Bool.and_eq_true] at h
            exact h.1)
          obtain ⟨l1, hl1⟩ : ∃ l1, unL (base p) (S : Int) (413696) = l1 := ⟨_, rfl⟩
          have hu := un_fits (base_cl p) HSP.out (by show 2 ≤ 256; omega)
          rw [hl1] at hu hl4
          obtain ⟨h40, h41, h42, h43⟩ := hu
          rw [h40]
          have HL1' := Lib.hid hl4
          have HC1 := Lib.hid (show Cl l1 ∧ (∀ y, ¬ ((S : Int) ≤ y ∧ y < 413696) → lk l1 y = lk (base p) y) ∧ l1.length ≤ 3 from ⟨h41, fun y hy => by rw [h42, if_neg hy], Nat.le_trans h43 (by show 2 ≤ 3; omega)⟩)
          have HFRE := Lib.hid (free_none h41.ok HSP.out (fun y hy1 hy2 => by rw [h42, if_pos ⟨hy1, hy2⟩]))
          have HF4' := Lib.hid (HF.out.trans hf4 (fun i hi e => by omega))
          clear hl4 hf4 h40 h41 h42 h43 hl1
          have HBK := Lib.hid (base_back HC1.out.1 (HMB.out p (by omega)) hs1 hs2 HC1.out.2.2 HC1.out.2.1)

          go_wp2_with fail
          refine (free_any _ _ l1 (S : Int) (413696) (by omega) (by omega) _ HL1'.out (by have := HC1.out.2.2; omega)).mono ?_
          rintro x9 w9 ⟨rfl, hf9⟩
          rw [HFRE.out]
          have HL1 := Lib.hid (HL1'.out.fr hf9)
          have HF4 := Lib.hid (HF4'.out.trans hf9 (fun _ _ => id))
          clear hf9
          go_wp2_with fail
          refine (map_any _ _ l1 (S : Int) (413696) (p : Int) (by omega) (by omega) _ HL1.out (by have := HC1.out.2.2; omega)).mono ?_
          rintro x1 w5 ⟨rfl, hl5, hf5⟩
          rw [HBK.out.2] at hl5
          rw [HBK.out.1]
          have HL5 := Lib.hid hl5
          have HF5 := Lib.hid (HF4.out.trans hf5 (fun i hi e => by omega))
          clear hl5 hf5
          go_wp2_with fail
          refine (all_any _ _ _ _ HL5.out (by show 1 ≤ 5000; omega)).mono ?_
          rintro x2 w6 ⟨v6, rfl, ho6, hf6⟩
          obtain ⟨A6, c6, rfl, _, _⟩ := ho6.form
          rw [show (base (p : Int)).length = 1 from rfl]
          have HL6 := Lib.hid (HL5.out.fr hf6)
          have HF6 := Lib.hid (HF5.out.trans hf6 (fun _ _ => id))
          clear hf6 ho6
          go_wp2_with fail
          refine (pages_any _ _ _ _ HL6.out (by show 1 ≤ 5000; omega) (base_cl p).ok.Val).mono ?_
          rintro x3 w7 ⟨rfl, hf7⟩
          rw [base_pages]
          have HL7 := Lib.hid (HL6.out.fr hf7)
          have HF7 := Lib.hid (HF6.out.trans hf7 (fun _ _ => id))
          clear hf7
          go_wp2_with fail
          go_roundg (n - (k + 2))
          case measure => (have := HK2.out.1; have := HK2.out.2; omega)
          case rel => exact Lib.hid ⟨k + 2, by go_num, by omega, by have := HKE.out; omega, by omega, HL7.out, HF7.out⟩
      · have u5 : decide ((413696 : Int) < (E : Int)) = false := decide_eq_false (by omega)
        have HMB := Lib.hid (fun (r : Int) (hr : 0 ≤ r ∧ r ≤ 7) => mapB_of (s := (S : Int)) (e := (E : Int)) (p := r) (a + 1) (a + b + 2) (by have := HSE.out; omega) (by have := HSE.out; omega) (by omega) (by omega) hr)
        have hs1 : 4096 ≤ (S : Int) := by have := HSE.out; omega
        have hs2 : (E : Int) ≤ 413696 := by omega
        clear hbig
        by_cases hd0 : d = 0
        · have u6 : ((d : Int) == 0) = true := by simp [hd0]
          have u6' : (d == 0) = true := by simp [hd0]
          clear hd0
          go_wp2_with fail
          refine (protect_any _ _ (base p) (S : Int) ((E : Int)) (q : Int) (by omega) (by omega) _ HL.out (by show 1 ≤ 1000; omega)).mono ?_
          rintro x0 w4 ⟨y0, l1, rfl, hp4, hl4, hf4⟩
          obtain ⟨rfl, h41, h42, h43⟩ := prot_fits (base_cl p) (HMB.out q (by omega)) (by omega) (by show 3 ≤ 256; omega) (fun y hy1 hy2 => ⟨p, by rw [base_lk, if_pos (by omega)], by omega, by omega⟩) hp4
          have HL1 := Lib.hid hl4
          have HC1 := Lib.hid (show Cl l1 ∧ (∀ y, ¬ ((S : Int) ≤ y ∧ y < (E : Int)) → lk l1 y = lk (base p) y) ∧ l1.length ≤ 3 from ⟨h41, fun y hy => by rw [h42, if_neg hy], h43⟩)
          have HF4 := Lib.hid (HF.out.trans hf4 (fun i hi e => by omega))
          clear hl4 hf4 hp4 h41 h42 h43
          have HBK := Lib.hid (base_back HC1.out.1 (HMB.out p (by omega)) hs1 hs2 HC1.out.2.2 HC1.out.2.1)
          go_wp2_with fail
          refine (map_any _ _ l1 (S : Int) ((E : Int)) (p : Int) (by omega) (by omega) _ HL1.out (by have := HC1.out.2.2; omega)).mono ?_
          rintro x1 w5 ⟨rfl, hl5, hf5⟩
          rw [HBK.out.2] at hl5
          rw [HBK.out.1]
          have HL5 := Lib.hid hl5
          have HF5 := Lib.hid (HF4.out.trans hf5 (fun i hi e => by omega))
          clear hl5 hf5
          go_wp2_with fail
          refine (all_any _ _ _ _ HL5.out (by show 1 ≤ 5000; omega)).mono ?_
          rintro x2 w6 ⟨v6, rfl, ho6, hf6⟩
          obtain ⟨A6, c6, rfl, _, _⟩ := ho6.form
          rw [show (base (p : Int)).length = 1 from rfl]
          have HL6 := Lib.hid (HL5.out.fr hf6)
          have HF6 := Lib.hid (HF5.out.trans hf6 (fun _ _ => id))
          clear hf6 ho6
          go_wp2_with fail
          refine (pages_any _ _ _ _ HL6.out (by show 1 ≤ 5000; omega) (base_cl p).ok.Val).mono ?_
          rintro x3 w7 ⟨rfl, hf7⟩
          rw [base_pages]
          have HL7 := Lib.hid (HL6.out.fr hf7)
          have HF7 := Lib.hid (HF6.out.trans hf7 (fun _ _ => id))
          clear hf7
          go_wp2_with fail
          go_roundg (n - (k + 2))
          case measure => (have := HK2.out.1; have := HK2.out.2; omega)
          case rel => exact Lib.hid ⟨k + 2, by go_num, by omega, by have := HKE.out; omega, by omega, HL7.out, HF7.out⟩

        · have u6 : ((d : Int) == 0) = false := beq_eq_false_iff_ne.2 (by omega)
          have u6' : (d == 0) = false := beq_eq_false_iff_ne.2 hd0
          clear hd0
          go_wp2_with fail
          refine (unmap_any _ _ (base p) (S : Int) ((E : Int)) (by omega) (by omega) _ HL.out (by show 1 ≤ 1000; omega)).mono ?_
          rintro x0 w4 ⟨rfl, hl4, hf4⟩
          have HSP := Lib.hid (show spanB (S : Int) ((E : Int)) = true from by
            have h := HMB.out p (by omega)
            unfold mapB at h
            simp only [Bool.and_eq_true] at h
            exact h.1)
          obtain ⟨l1, hl1⟩ : ∃ l1, unL (base p) (S : Int) ((E : Int)) = l1 := ⟨_, rfl⟩
          have hu := un_fits (base_cl p) HSP.out (by show 2 ≤ 256; omega)
          rw [hl1] at hu hl4
          obtain ⟨h40, h41, h42, h43⟩ := hu
          rw [h40]
          have HL1' := Lib.hid hl4
          have HC1 := Lib.hid (show Cl l1 ∧ (∀ y, ¬ ((S : Int) ≤ y ∧ y < (E : Int)) → lk l1 y = lk (base p) y) ∧ l1.length ≤ 3 from ⟨h41, fun y hy => by rw [h42, if_neg hy], Nat.le_trans h43 (by show 2 ≤ 3; omega)⟩)
          have HFRE := Lib.hid (free_none h41.ok HSP.out (fun y hy1 hy2 => by rw [h42, if_pos ⟨hy1, hy2⟩]))
          have HF4' := Lib.hid (HF.out.trans hf4 (fun i hi e => by omega))
          clear hl4 hf4 h40 h41 h42 h43 hl1
          have HBK := Lib.hid (base_back HC1.out.1 (HMB.out p (by omega)) hs1 hs2 HC1.out.2.2 HC1.out.2.1)

          go_wp2_with fail
          refine (free_any _ _ l1 (S : Int) ((E : Int)) (by omega) (by omega) _ HL1'.out (by have := HC1.out.2.2; omega)).mono ?_
          rintro x9 w9 ⟨rfl, hf9⟩
          rw [HFRE.out]
          have HL1 := Lib.hid (HL1'.out.fr hf9)
          have HF4 := Lib.hid (HF4'.out.trans hf9 (fun _ _ => id))
          clear hf9
          go_wp2_with fail
          refine (map_any _ _ l1 (S : Int) ((E : Int)) (p : Int) (by omega) (by omega) _ HL1.out (by have := HC1.out.2.2; omega)).mono ?_
          rintro x1 w5 ⟨rfl, hl5, hf5⟩
          rw [HBK.out.2] at hl5
          rw [HBK.out.1]
          have HL5 := Lib.hid hl5
          have HF5 := Lib.hid (HF4.out.trans hf5 (fun i hi e => by omega))
          clear hl5 hf5
          go_wp2_with fail
          refine (all_any _ _ _ _ HL5.out (by show 1 ≤ 5000; omega)).mono ?_
          rintro x2 w6 ⟨v6, rfl, ho6, hf6⟩
          obtain ⟨A6, c6, rfl, _, _⟩ := ho6.form
          rw [show (base (p : Int)).length = 1 from rfl]
          have HL6 := Lib.hid (HL5.out.fr hf6)
          have HF6 := Lib.hid (HF5.out.trans hf6 (fun _ _ => id))
          clear hf6 ho6
          go_wp2_with fail
          refine (pages_any _ _ _ _ HL6.out (by show 1 ≤ 5000; omega) (base_cl p).ok.Val).mono ?_
          rintro x3 w7 ⟨rfl, hf7⟩
          rw [base_pages]
          have HL7 := Lib.hid (HL6.out.fr hf7)
          have HF7 := Lib.hid (HF6.out.trans hf7 (fun _ _ => id))
          clear hf7
          go_wp2_with fail
          go_roundg (n - (k + 2))
          case measure => (have := HK2.out.1; have := HK2.out.2; omega)
          case rel => exact Lib.hid ⟨k + 2, by go_num, by omega, by have := HKE.out; omega, by omega, HL7.out, HF7.out⟩
    · have HD := Lib.hid (base_at (p : Int))
      have HEQ := Lib.hid (eq_rg)
      by_cases hk1 : k + 1 < n
      · have u1 : decide ((k : Int) + 1 < (n : Int)) = true := decide_eq_true (by omega)
        have u2 : decide ((k : Int) < 40) = false := decide_eq_false (by omega)
        go_wp2_with fail
        refine (at_any _ _ (base p) 5000 _ HL.out (by show 1 ≤ 5000; omega)).mono ?_
        rintro x4 w8 ⟨rfl, hf8⟩
        rw [HD.out.1, HD.out.2.1, HD.out.2.2.1, HD.out.2.2.2]
        have HF8 := Lib.hid (HF.out.trans hf8 (fun _ _ => id))
        have heq := fun w => eq_rg 4096 413696 (p : Int) 4096 413696 (p : Int) w
        rw [eqR_self] at heq
        clear hf8
        go_wp2_with fail
        go_ret
        exact ⟨rfl, HF8.out.alloc _⟩
      · have u1 : decide ((k : Int) + 1 < (n : Int)) = false := decide_eq_false (by omega)
        go_wp2_with fail
        refine (at_any _ _ (base p) 5000 _ HL.out (by show 1 ≤ 5000; omega)).mono ?_
        rintro x4 w8 ⟨rfl, hf8⟩
        rw [HD.out.1, HD.out.2.1, HD.out.2.2.1, HD.out.2.2.2]
        have HF8 := Lib.hid (HF.out.trans hf8 (fun _ _ => id))
        have heq := fun w => eq_rg 4096 413696 (p : Int) 4096 413696 (p : Int) w
        rw [eqR_self] at heq
        clear hf8
        go_wp2_with fail
        go_ret
        exact ⟨rfl, HF8.out.alloc _⟩
theorem back_walk (a0 : Option Addr) (len0 cap0 : Nat) (z0 : List Int) (a1 : Int) (W : World) (w0 : (a0 = none ∧ len0 = 0 ∧ cap0 = 0 ∧ z0 = []) ∨ ∃ x, a0 = some x ∧ len0 ≤ cap0 ∧ cap0 ≤ maxLen ∧ z0.length = cap0 ∧ (∀ i, i < z0.length → W.cell? (x.add i) = some (.int .u8 (z0.getD i 0))) ∧ ∀ n ∈ z0, (Lit.int .u8 n).wf = true)
    (hz : len0 * 1 ≤ 140737488351232) (w1 : (Lit.int .u8 a1).wf = true) : Calls Try.prog 7 #[.slice a0 len0 cap0, .int .u8 a1] W fun e W' => e = .returned (.bool true) ∧ Below W.heap.size W W' := by
  have b1 := Go.bounds_u8 w1
  obtain ⟨m, rfl⟩ : ∃ m : Nat, a1 = m := ⟨a1.toNat, by omega⟩
  obtain ⟨l0, rfl, hr0, hm0, hw0, hc0⟩ := ReadsInt.ofRowC w0
  exact (back_any m (by omega) a0 cap0 l0 W (by omega) hr0 (fun y hy => Go.bounds_u8 (hw0 y hy))).mono fun _ _ g => ⟨g.1, Fr.below (Below.refl _ _) g.2 (fun _ _ => id)⟩
end Go.Proofs.Ytnaiccgbjcppaaa.Rg
