/- built: walked. -/
import Derived.Test.YtnaiccgbjcppaaaRgP
namespace Go.Proofs.Ytnaiccgbjcppaaa.Rg
open Go Go.RowKit Go.Proofs.YtnaiccgbjcppaaaW.PrintWords Go.Proofs.YtnaiccgbjcppaaaW.PrintLast Go.Proofs.YtnaiccgbjcppaaaW.PrintMore
open Go.Proofs.Ytnaiccgbjcppaaa.Hp
attribute [local go_sem] max2_int min2_int max_two min_two max_three min_three max_four min_four
set_option linter.unusedVariables false
set_option linter.unusedSimpArgs false
theorem byte_old {w wr : World} {ad : Addr} {n : Nat} {l : List Int} {k : Nat} {v : Value} (hr : ReadsInt w .u8 (some ad) n l) (hf : Fr (fun _ => False) w wr) (hx : wr.cell? (ad.add k) = some v) (hk : k < n) : w.cell? (ad.add k) = some v := by
  obtain ⟨ad2, e, hc⟩ := hr.2.2 (by omega)
  injection e with e
  subst e
  have h1 := hc k hk
  have h2 := World.block_lt_of_cell? w _ h1
  rw [World.cell?_of_block (w := w) (hf.block _ h2 id), h1] at hx
  rw [h1]
  exact hx
theorem lay_bound (a N : Nat) {p : Int} {P P' : List Pg} (hl : LayP a N p P P') : P'.length ≤ P.length + N ∧ ∀ x ∈ P', x ∈ P ∨ ((a : Int) ≤ x.n ∧ x.n < ((a + N : Nat) : Int)) := by
  obtain ⟨k, M, hk, hlow, hhigh, hML, hMv, rfl⟩ := hl
  have hRl := withoutP_len ((a : Int) * 4096) (((a + N : Nat) : Int) * 4096) P
  refine ⟨?_, fun x hx => ?_⟩
  · rw [List.length_append, List.length_append, List.length_take, List.length_drop, hML]
    omega
  · rcases List.mem_append.1 hx with hx | hx
    · rcases List.mem_append.1 hx with hx | hx
      · exact .inl (List.mem_filter.1 (List.mem_of_mem_take hx)).1
      · obtain ⟨i, hi, e⟩ := List.mem_iff_getElem.1 hx
        have h := hMv i (by omega)
        rw [pgAt_eq M i hi, e] at h
        exact .inr (by omega)
    · exact .inl (List.mem_filter.1 (List.mem_of_mem_drop hx)).1
def AtBu (w : World) (g gm n : Nat) (v6 : Value) (kq : Nat) (wr : World) : Prop := ∃ (k : Nat) (L : List Rg) (P : List Pg), v6 = .int .i64 k ∧ k ≤ n ∧ k ≤ 60 ∧ n - k ≤ kq ∧ Lst wr w.heap.size g L ∧ Spc wr w.heap.size gm P ∧ Pair L P ∧ P.length ≤ k ∧ (∀ x ∈ P, x.n < k) ∧ Fr (fun _ => False) w wr
set_option maxHeartbeats 4000000 in
set_option maxRecDepth 100000 in
theorem built_any (A : Option Addr) (c : Nat) (l : List Int) (w : World) (hl : l.length ≤ 140737488351232) (hr : ReadsInt w .u8 A l.length l) (hb : ∀ y ∈ l, 0 ≤ y ∧ y ≤ 255) : Calls Try.prog 9 #[.slice A l.length c] w fun e w' => ∃ g gm L P, e = .returned (.tuple #[.pointer (some ⟨g, 0, none⟩), .pointer (some ⟨gm, 0, none⟩)]) ∧ Lst w' w.heap.size g L ∧ Spc w' w.heap.size gm P ∧ Pair L P ∧ P.length ≤ 60 ∧ (∀ x ∈ P, x.n < 60) ∧ Fr (fun _ => False) w w' := by
  obtain ⟨n, hnn⟩ : ∃ n, l.length = n := ⟨_, rfl⟩
  rw [hnn] at hr hl ⊢
  have HR := Lib.hid hr
  have HB := Lib.hid hb
  clear hr hb hnn
  go_enter Try.func9, Try.ntmps9
  go_wp2_with fail
  refine (new_any _).mono ?_
  rintro x w1 ⟨rfl, hl1, hf1⟩
  have HL1 := Lib.hid hl1
  have HF1 := Lib.hid hf1
  clear hl1 hf1
  go_wp2_with fail
  refine (newS_any _).mono ?_
  rintro x w2 ⟨rfl, hs2, hf2⟩
  have HS2 := Lib.hid (show Spc w2 w.heap.size w1.heap.size [] from ⟨by obtain ⟨v, h1, h2⟩ := hs2.row; exact ⟨v, h1, OwnP.low h2 HF1.out.size⟩, HF1.out.size⟩)
  have HF2 := Lib.hid (HF1.out.trans hf2 (fun _ _ => id))
  have HL2 := Lib.hid (HL1.out.fr hf2)
  obtain ⟨gm, hgm⟩ : ∃ gm, w1.heap.size = gm := ⟨_, rfl⟩
  rw [hgm] at HS2 ⊢
  clear hf2 hs2 hgm
  go_wp2_with fail
  go_loopg [6] n (fun kq v6 wr => Hid (AtBu w w.heap.size gm n v6 kq wr))
  case atStart => exact Lib.hid ⟨0, [], [], rfl, by omega, by omega, by omega, HL2.out, HS2.out, Pair.nil, Nat.le_refl _, fun x hx => (by cases hx), HF2.out⟩
  case round =>
    obtain ⟨k, L, P, rfl, hkn, hk60, hk2, hl, hs, hp, hpl, hpn, hf⟩ := hrel.out
    have HL := Lib.hid hl
    have HS := Lib.hid hs
    have HP := Lib.hid hp
    have HF := Lib.hid hf
    have HPL := Lib.hid (And.intro hpl hpn)
    clear hrel hl hs hp hf hpl hpn
    by_cases hk : k < n ∧ k < 60
    · obtain ⟨hk1, hk40⟩ := hk
      have u1 : decide ((k : Int) < (n : Int)) = true := decide_eq_true (by omega)
      have u1' : decide (k < n) = true := decide_eq_true (by omega)
      have u2 : decide ((k : Int) < 60) = true := decide_eq_true (by omega)
      have u2' : decide (k < 60) = true := decide_eq_true (by omega)
      have j0 : (0 : Int) ≤ (k : Int) := by omega
      have j1 : (k : Int) < (n : Int) := by omega
      have HRW := Lib.hid (reads_fr HR.out HF.out (fun _ _ _ => id))
      obtain ⟨ad, x, rfl, hx, -, hx256⟩ := byte_at HRW.out HB.out k (by omega)
      have HCX := Lib.hid (byte_old HR.out HF.out hx (by omega))
      obtain ⟨p, hp⟩ : ∃ p, x % 16 = p := ⟨_, rfl⟩
      have hp1 : ((x : Int).tmod 16) = (p : Int) := by rw [Int.tmod_eq_emod_of_nonneg (by omega)]; omega
      have hp2 : ((x : Int) % 16) = (p : Int) := by omega
      have hp9 : p < 16 := by omega
      have hw1 : IntKind.u64.wrap ((k : Int) * 4096) = (k : Int) * 4096 := IntWalk.u64_in _ (by omega)
      have hw2 : IntKind.u64.wrap (((k : Int) + 1) * 4096) = ((k : Int) + 1) * 4096 := IntWalk.u64_in _ (by omega)
      have HK2 := Lib.hid (And.intro hk2 hk1)
      clear hk2 hp hl
      by_cases hp8 : p < 8
      · have u3 : decide ((p : Int) < 8) = true := decide_eq_true (by omega)
        have u3' : decide (p < 8) = true := decide_eq_true (by omega)
        go_wp2_with fail
        refine (map_any _ _ L ((k : Int) * 4096) (((k : Int) + 1) * 4096) (p : Int) (by omega) (by omega) _ HL.out (by have := HP.out.len; have := HPL.out.1; omega)).mono ?_
        rintro x1 w3 ⟨rfl, hl3, hf3⟩
        have HL3 := Lib.hid hl3
        have HS3 := Lib.hid (HS.out.keep HL.out hf3)
        have HF3 := Lib.hid (HF.out.trans hf3 (fun i hi e => by omega))
        have hx4 : w3.cell? (ad.add k) = some (.int .u8 (x : Int)) := by
          have h1 := World.block_lt_of_cell? w _ (HCX.out)
          rw [World.cell?_of_block (w := w) (HF3.out.block _ h1 id)]
          exact HCX.out
        clear hl3 hf3
        go_wp2_with fail
        have hlay := lay_any w.heap.size gm P k 1 (p : Int) w3 HS3.out HF3.out.size HP.out.sm (by omega) (by omega) (by have := HPL.out.1; omega) (by have := withoutP_len ((k : Int) * 4096) (((k + 1 : Nat) : Int) * 4096) P; have := HPL.out.1; omega)
        have hmp := fun P' (h : LayP k 1 (p : Int) P P') => HP.out.map (by omega) (by omega) (by omega) h (by have := HPL.out.1; omega)
        have hcc : ((k + 1 : Nat) : Int) = (k : Int) + 1 := by omega
        rw [hcc] at hlay
        rw [hcc] at hmp
        have HMP := Lib.hid hmp
        clear hmp hcc
        refine hlay.mono ?_
        rintro x2 w4 ⟨rfl, ⟨P', hLP, hs4⟩, hf4⟩
        obtain ⟨hm1, hm2⟩ := HMP.out P' hLP
        have HP4 := Lib.hid hm2
        have HS4 := Lib.hid hs4
        have HL4 := Lib.hid (HL3.out.keep HS3.out hf4)
        have HF4 := Lib.hid (HF3.out.trans hf4 (fun i hi e => by have := HS3.out.gb; omega))
        have HB4 := Lib.hid (lay_bound k 1 hLP)
        clear hlay hLP hs4 hf4 hm1 hm2
        go_wp2_with fail
        go_roundg (n - (k + 1))
        case measure => (have := HK2.out.1; have := HK2.out.2; omega)
        case rel => exact Lib.hid ⟨k + 1, _, P', by go_num, by omega, by omega, by omega, HL4.out, HS4.out, HP4.out, by have := HPL.out.1; have := HB4.out.1; omega, fun x hx => by rcases HB4.out.2 x hx with h | h; (have := HPL.out.2 x h; omega); omega, HF4.out⟩
      · have u3 : decide ((p : Int) < 8) = false := decide_eq_false (by omega)
        have u3' : decide (p < 8) = false := decide_eq_false (by omega)
        go_wp2_with fail
        go_roundg (n - (k + 1))
        case measure => (have := HK2.out.1; have := HK2.out.2; omega)
        case rel => exact Lib.hid ⟨k + 1, L, P, by go_num, by omega, by omega, by omega, HL.out, HS.out, HP.out, by have := HPL.out.1; omega, fun x hx => by have := HPL.out.2 x hx; omega, HF.out⟩
    · by_cases hk1 : k < n
      · have u1 : decide ((k : Int) < (n : Int)) = true := decide_eq_true (by omega)
        have u1' : decide (k < n) = true := decide_eq_true (by omega)
        have u2 : decide ((k : Int) < 60) = false := decide_eq_false (by omega)
        have u2' : decide (k < 60) = false := decide_eq_false (by omega)
        go_wp2_with fail
        go_ret2
        exact ⟨_, _, L, P, rfl, HL.out, HS.out, HP.out, by have := HPL.out.1; omega, fun x hx => by have := HPL.out.2 x hx; omega, HF.out⟩
      · have u1 : decide ((k : Int) < (n : Int)) = false := decide_eq_false (by omega)
        have u1' : decide (k < n) = false := decide_eq_false (by omega)
        go_wp2_with fail
        go_ret2
        exact ⟨_, _, L, P, rfl, HL.out, HS.out, HP.out, by have := HPL.out.1; omega, fun x hx => by have := HPL.out.2 x hx; omega, HF.out⟩
end Go.Proofs.Ytnaiccgbjcppaaa.Rg
