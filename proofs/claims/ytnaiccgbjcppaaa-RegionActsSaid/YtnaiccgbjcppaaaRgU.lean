/- maybe, RegionRooms: walked. -/
import Derived.Test.YtnaiccgbjcppaaaRgT
namespace Go.Proofs.Ytnaiccgbjcppaaa.Rg
open Go Go.RowKit Go.Proofs.YtnaiccgbjcppaaaW.PrintWords Go.Proofs.YtnaiccgbjcppaaaW.PrintLast Go.Proofs.YtnaiccgbjcppaaaW.PrintMore
open Go.Proofs.Ytnaiccgbjcppaaa.Hp
attribute [local go_sem] max2_int min2_int max_two min_two max_three min_three max_four min_four
set_option linter.unusedVariables false
set_option linter.unusedSimpArgs false
theorem roomT_same {L : List Rg} {P : List Pg} (h : Pair L P) (size below : Int) (hs : 0 ≤ size) : roomT (pm P) size below = roomT L size below := by
  unfold roomT
  by_cases hb : 274877906944 < size
  · rw [if_pos hb, if_pos hb]
  · rw [if_neg hb, if_neg hb]
    exact (room_same h.cl.ok h.ok h.eq _ _ (by omega)).symm
/-- What Room answers is free, and lies ahead of the bound. -/
theorem roomT_free {L : List Rg} (h : Okl L) (size below a sz : Int) (hs : 0 ≤ size) (hs2 : size < 50000) (hb : 0 ≤ below) (hb2 : below < 300000) (hsz : sz = max ((size + 4095) / 4096) 1 * 4096) (hr : roomT L size below = some a) : freeB L a (a + sz) = true ∧ a + sz ≤ below ∧ 0 ≤ a ∧ a < 300000 ∧ 0 < sz ∧ sz < 60000 := by
  unfold roomT at hr
  rw [if_neg (by omega), ← hsz] at hr
  have h1 := ((room_spec L h sz (by omega) L.length (Nat.le_refl _) _).1 a hr).1
  have h2 := room_al L h sz (by omega) L.length (Nat.le_refl _) _ a (by omega) hr
  rw [List.take_length] at h1
  obtain ⟨f1, f2, f3⟩ := h1
  refine ⟨free_none h ?_ f3, by omega, by omega, by omega, by omega, by omega⟩
  unfold spanB
  simp only [Bool.and_eq_true, decide_eq_true_eq]
  omega
def maybeI (x : Int) : Int := if x = 0 then 1 else 0
theorem maybe_any (x : Int) (w : World) : Calls Try.prog 15 #[.int .u64 x] w fun e w' => e = .returned (.int .u64 (maybeI x)) ∧ Fr (fun _ => False) w w' := by
  by_cases h : x = 0
  · have h1 : (x == 0) = true := beq_iff_eq.2 h
    have HE := Lib.hid (show maybeI x = 1 from if_pos h)
    clear h
    go_enter Try.func15, Try.ntmps15
    go_wp2_with fail
    go_ret
    rw [HE.out]
    exact ⟨rfl, Fr.refl _ _⟩
  · have h1 : (x == 0) = false := beq_eq_false_iff_ne.2 h
    have HE := Lib.hid (show maybeI x = 0 from if_neg h)
    clear h
    go_enter Try.func15, Try.ntmps15
    go_wp2_with fail
    go_ret
    rw [HE.out]
    exact ⟨rfl, Fr.refl _ _⟩
set_option maxHeartbeats 4000000 in
set_option maxRecDepth 100000 in
theorem rooms_any (A : Option Addr) (c : Nat) (l : List Int) (size below : Int) (hs : 0 ≤ size ∧ size < 18446744073709551616) (hb : 0 ≤ below ∧ below < 18446744073709551616) (w : World) (hl : l.length ≤ 140737488351232) (hr : ReadsInt w .u8 A l.length l) (hby : ∀ y ∈ l, 0 ≤ y ∧ y ≤ 255) : Calls Try.prog 3 #[.slice A l.length c, .int .u64 size, .int .u64 below] w fun e w' => e = .returned (.bool true) ∧ Fr (fun _ => False) w w' := by
  have HL := Lib.hid hl
  have HR := Lib.hid hr
  have HB := Lib.hid hby
  obtain ⟨n, hnn⟩ : ∃ n, l.length = n := ⟨_, rfl⟩
  have HNN := Lib.hid hnn
  rw [hnn]
  obtain ⟨s, hs9⟩ : ∃ s, size % 50000 = s := ⟨_, rfl⟩
  obtain ⟨b, hb9⟩ : ∃ b, below % 300000 = b := ⟨_, rfl⟩
  have hs1 : size.tmod 50000 = s := by rw [Int.tmod_eq_emod_of_nonneg (by omega)]; exact hs9
  have hb1 : below.tmod 300000 = b := by rw [Int.tmod_eq_emod_of_nonneg (by omega)]; exact hb9
  have hs2 : 0 ≤ s ∧ s < 50000 := by omega
  have hb2 : 0 ≤ b ∧ b < 300000 := by omega
  have HSB := Lib.hid (And.intro hs hb)
  clear hl hr hby hnn hs hb
  go_enter Try.func3, Try.ntmps3
  go_wp2_with fail
  have hbu := built_any A c l w HL.out HR.out HB.out
  rw [HNN.out] at hbu
  refine hbu.mono ?_
  rintro x w1 ⟨g, gm, L, P, rfl, hl1, hs3, hp1, hn1, _, hf1⟩
  have HL1 := Lib.hid hl1
  have HS1 := Lib.hid hs3
  have HP1 := Lib.hid hp1
  have HN1 := Lib.hid hn1
  have HF1 := Lib.hid hf1
  have HLL := Lib.hid (show L.length ≤ 5000 from by have := hp1.len; omega)
  have HPP := Lib.hid (show P.length ≤ 5000 from by omega)
  clear hbu hl1 hs3 hp1 hn1 hf1
  go_wp2_with fail
  refine (answers_any _).mono ?_
  rintro x w2 ⟨rfl, hf2⟩
  have HL2 := Lib.hid (HL1.out.fr hf2)
  have HS2 := Lib.hid (HS1.out.fr hf2)
  have HF2 := Lib.hid (HF1.out.trans hf2 (fun _ _ => id))
  clear hf2
  go_wp2_with fail
  refine (room_any _ g L size below HSB.out.1 HSB.out.2 _ HL2.out HP1.out.cl.ok HLL.out).mono ?_
  rintro x w3 ⟨rfl, hf3⟩
  have HS3 := Lib.hid (HS2.out.fr hf3)
  have HL3 := Lib.hid (HL2.out.fr hf3)
  have HF3 := Lib.hid (HF2.out.trans hf3 (fun _ _ => id))
  have HTS := Lib.hid (roomT_same HP1.out size below HSB.out.1.1)
  obtain ⟨o1, ho1⟩ : ∃ o1, roomT L size below = o1 := ⟨_, rfl⟩
  rw [ho1] at HTS ⊢
  obtain ⟨aa, haa⟩ : ∃ aa, o1.getD 0 = aa := ⟨_, rfl⟩
  obtain ⟨bb, hbb⟩ : ∃ bb, o1.isSome = bb := ⟨_, rfl⟩
  have HAB := Lib.hid (And.intro haa hbb)
  rw [haa, hbb]
  clear hf3 ho1 haa hbb
  go_wp2_with fail
  refine (roomP_any _ gm P size below HSB.out.1 HSB.out.2 _ HS3.out HP1.out.sm HPP.out).mono ?_
  rintro x w4 ⟨rfl, hf4⟩
  rw [HTS.out, HAB.out.1, HAB.out.2]
  have HS4 := Lib.hid (HS3.out.fr hf4)
  have HL4 := Lib.hid (HL3.out.fr hf4)
  have HF4 := Lib.hid (HF3.out.trans hf4 (fun _ _ => id))
  clear hf4
  go_wp2_with fail
  refine (room_any _ g L s b (by omega) (by omega) _ HL4.out HP1.out.cl.ok HLL.out).mono ?_
  rintro x w5 ⟨rfl, hf5⟩
  have HS5 := Lib.hid (HS4.out.fr hf5)
  have HL5 := Lib.hid (HL4.out.fr hf5)
  have HF5 := Lib.hid (HF4.out.trans hf5 (fun _ _ => id))
  have HT2 := Lib.hid (roomT_same HP1.out s b hs2.1)
  obtain ⟨o2, ho2⟩ : ∃ o2, roomT L s b = o2 := ⟨_, rfl⟩
  have HO2 := Lib.hid ho2
  rw [ho2] at HT2 ⊢
  clear hf5 ho2
  cases o2 with
  | none =>
    simp only [Option.getD_none, Option.isSome_none] at HT2 ⊢
    go_wp2_with fail
    refine (roomP_any _ gm P s b (by omega) (by omega) _ HS5.out HP1.out.sm HPP.out).mono ?_
    rintro x w6 ⟨rfl, hf6⟩
    rw [HT2.out, Option.getD_none, Option.isSome_none]
    have HF6 := Lib.hid (HF5.out.trans hf6 (fun _ _ => id))
    clear hf6
    go_wp2_with fail
    go_ret
    exact ⟨rfl, HF6.out⟩
  | some a =>
    simp only [Option.getD_some, Option.isSome_some] at HT2 ⊢
    go_wp2_with fail
    refine (roomP_any _ gm P s b (by omega) (by omega) _ HS5.out HP1.out.sm HPP.out).mono ?_
    rintro x w6 ⟨rfl, hf6⟩
    rw [HT2.out, Option.getD_some, Option.isSome_some]
    have HL6 := Lib.hid (HL5.out.fr hf6)
    have HF6 := Lib.hid (HF5.out.trans hf6 (fun _ _ => id))
    clear hf6
    by_cases hs0 : s = 0
    · have hm : maybeI s = 1 := if_pos hs0
      have HM := Lib.hid hm
      clear hm
      have hfree := roomT_free HP1.out.cl.ok s b a 4096 hs2.1 hs2.2 hb2.1 hb2.2 (by omega) HO2.out
      have hup : (s + 1 + 4095) / 4096 * 4096 = 4096 := by omega
      obtain ⟨e, he⟩ : ∃ e, a + 4096 = e := ⟨_, rfl⟩
      rw [he] at hfree
      have HFR := Lib.hid hfree
      have h1 : 0 ≤ e ∧ e < 18446744073709551616 ∧ 0 ≤ a ∧ a < 18446744073709551616 := by omega
      have hwe : IntKind.u64.wrap e = e := IntWalk.u64_in _ (by omega)
      have hws : IntKind.u64.wrap (s + 1) = s + 1 := IntWalk.u64_in _ (by omega)
      have hd : decide (e ≤ b) = true := decide_eq_true hfree.2.1
      have hbs : 0 ≤ s + 1 ∧ s + 1 ≤ 274877906944 := by omega
      clear hfree hs0
      go_wp2_with fail
      refine (maybe_any s _).mono ?_
      rintro x wa1 ⟨rfl, hfa⟩
      rw [HM.out]
      have HLa1 := Lib.hid (HL6.out.fr hfa)
      have HFa1 := Lib.hid (HF6.out.trans hfa (fun _ _ => id))
      clear hfa
      go_wp2_with fail
      refine (up_any (s + 1) hbs.1 hbs.2 _).mono ?_
      rintro x wb1 ⟨rfl, hfb⟩
      rw [hup]
      have HLb1 := Lib.hid (HLa1.out.fr hfb)
      have HFb1 := Lib.hid (HFa1.out.trans hfb (fun _ _ => id))
      clear hfb
      go_wp2_with fail
      refine (free_any _ g L a e (by omega) (by omega) _ HLb1.out HLL.out).mono ?_
      rintro x w9 ⟨rfl, hf9⟩
      rw [HFR.out.1]
      have HL9 := Lib.hid (HLb1.out.fr hf9)
      have HF9 := Lib.hid (HFb1.out.trans hf9 (fun _ _ => id))
      clear hf9
      go_wp2_with fail
      refine (maybe_any s _).mono ?_
      rintro x wa2 ⟨rfl, hfa⟩
      rw [HM.out]
      have HLa2 := Lib.hid (HL9.out.fr hfa)
      have HFa2 := Lib.hid (HF9.out.trans hfa (fun _ _ => id))
      clear hfa
      go_wp2_with fail
      refine (up_any (s + 1) hbs.1 hbs.2 _).mono ?_
      rintro x wb2 ⟨rfl, hfb⟩
      rw [hup]
      have HLb2 := Lib.hid (HLa2.out.fr hfb)
      have HFb2 := Lib.hid (HFa2.out.trans hfb (fun _ _ => id))
      clear hfb
      go_wp2_with fail
      go_ret
      exact ⟨rfl, HFb2.out⟩
    · have hm : maybeI s = 0 := if_neg hs0
      have HM := Lib.hid hm
      clear hm
      obtain ⟨sz, hsz⟩ : ∃ sz, (s + 4095) / 4096 * 4096 = sz := ⟨_, rfl⟩
      have hfree := roomT_free HP1.out.cl.ok s b a sz hs2.1 hs2.2 hb2.1 hb2.2 (by omega) HO2.out
      have hup : (s + 4095) / 4096 * 4096 = sz := hsz
      obtain ⟨e, he⟩ : ∃ e, a + sz = e := ⟨_, rfl⟩
      rw [he] at hfree
      have HFR := Lib.hid hfree
      have h1 : 0 ≤ e ∧ e < 18446744073709551616 ∧ 0 ≤ a ∧ a < 18446744073709551616 := by omega
      have hwe : IntKind.u64.wrap e = e := IntWalk.u64_in _ (by omega)
      have hws : IntKind.u64.wrap s = s := IntWalk.u64_in _ (by omega)
      have hd : decide (e ≤ b) = true := decide_eq_true hfree.2.1
      have hbs : 0 ≤ s ∧ s ≤ 274877906944 := by omega
      clear hfree hs0 hsz
      go_wp2_with fail
      refine (maybe_any s _).mono ?_
      rintro x wa1 ⟨rfl, hfa⟩
      rw [HM.out]
      have HLa1 := Lib.hid (HL6.out.fr hfa)
      have HFa1 := Lib.hid (HF6.out.trans hfa (fun _ _ => id))
      clear hfa
      go_wp2_with fail
      refine (up_any s hbs.1 hbs.2 _).mono ?_
      rintro x wb1 ⟨rfl, hfb⟩
      rw [hup]
      have HLb1 := Lib.hid (HLa1.out.fr hfb)
      have HFb1 := Lib.hid (HFa1.out.trans hfb (fun _ _ => id))
      clear hfb
      go_wp2_with fail
      refine (free_any _ g L a e (by omega) (by omega) _ HLb1.out HLL.out).mono ?_
      rintro x w9 ⟨rfl, hf9⟩
      rw [HFR.out.1]
      have HL9 := Lib.hid (HLb1.out.fr hf9)
      have HF9 := Lib.hid (HFb1.out.trans hf9 (fun _ _ => id))
      clear hf9
      go_wp2_with fail
      refine (maybe_any s _).mono ?_
      rintro x wa2 ⟨rfl, hfa⟩
      rw [HM.out]
      have HLa2 := Lib.hid (HL9.out.fr hfa)
      have HFa2 := Lib.hid (HF9.out.trans hfa (fun _ _ => id))
      clear hfa
      go_wp2_with fail
      refine (up_any s hbs.1 hbs.2 _).mono ?_
      rintro x wb2 ⟨rfl, hfb⟩
      rw [hup]
      have HLb2 := Lib.hid (HLa2.out.fr hfb)
      have HFb2 := Lib.hid (HFa2.out.trans hfb (fun _ _ => id))
      clear hfb
      go_wp2_with fail
      go_ret
      exact ⟨rfl, HFb2.out⟩
theorem rooms_walk (a0 : Option Addr) (len0 cap0 : Nat) (z0 : List Int) (a1 a2 : Int) (W : World) (w0 : (a0 = none ∧ len0 = 0 ∧ cap0 = 0 ∧ z0 = []) ∨ ∃ x, a0 = some x ∧ len0 ≤ cap0 ∧ cap0 ≤ maxLen ∧ z0.length = cap0 ∧ (∀ i, i < z0.length → W.cell? (x.add i) = some (.int .u8 (z0.getD i 0))) ∧ ∀ n ∈ z0, (Lit.int .u8 n).wf = true)
    (hz : len0 * 1 ≤ 140737488351232) (w1 : (Lit.int .u64 a1).wf = true) (w2 : (Lit.int .u64 a2).wf = true) : Calls Try.prog 3 #[.slice a0 len0 cap0, .int .u64 a1, .int .u64 a2] W fun e W' => e = .returned (.bool true) ∧ Below W.heap.size W W' := by
  have b1 := Go.bounds_u64 w1
  have b2 := Go.bounds_u64 w2
  obtain ⟨l0, rfl, hr0, hm0, hw0, hc0⟩ := ReadsInt.ofRowC w0
  exact (rooms_any a0 cap0 l0 a1 a2 (by omega) (by omega) W (by omega) hr0 (fun y hy => Go.bounds_u8 (hw0 y hy))).mono fun _ _ g => ⟨g.1, Fr.below (Below.refl _ _) g.2 (fun _ _ => id)⟩
end Go.Proofs.Ytnaiccgbjcppaaa.Rg
