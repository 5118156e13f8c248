/- The document's Room, maybe, RegionRooms: walked. -/
import Derived.Test.YtnaiccgbjcppaaaRgS
namespace Go.Proofs.Ytnaiccgbjcppaaa.Rg
open Go Go.RowKit Go.Proofs.YtnaiccgbjcppaaaW.PrintWords Go.Proofs.YtnaiccgbjcppaaaW.PrintLast Go.Proofs.YtnaiccgbjcppaaaW.PrintMore
open Go.Proofs.Ytnaiccgbjcppaaa.Hp
attribute [local go_sem] max2_int min2_int max_two min_two max_three min_three max_four min_four
set_option linter.unusedVariables false
set_option linter.unusedSimpArgs false
theorem rgAt_pm (P : List Pg) (k : Nat) (h : k < P.length) : rgAt (pm P) k = pgR (pgAt P k) := by
  unfold rgAt pgAt pm
  rw [List.getD_eq_getElem?_getD, List.getElem?_map, List.getElem?_eq_getElem h, List.getD_eq_getElem?_getD, List.getElem?_eq_getElem h]
  rfl
def AtRp (l : List Rg) (sz e0 : Int) (w : World) (n : Nat) (v8 v9 : Value) (kq : Nat) (wr : World) : Prop := ∃ z e : Int, v9 = .int .i64 z ∧ v8 = .int .u64 e ∧ 0 ≤ e ∧ e ≤ 274877906944 ∧ ((z = -1 ∧ roomF l sz n e0 = none) ∨ ∃ k : Nat, z = k ∧ k ≤ n ∧ k < kq ∧ roomF l sz n e0 = roomF l sz k e) ∧ Fr (fun _ => False) w wr
set_option maxHeartbeats 4000000 in
set_option maxRecDepth 100000 in
theorem roomP_any (B g : Nat) (P : List Pg) (size below : Int) (hs : 0 ≤ size ∧ size < 18446744073709551616) (hb : 0 ≤ below ∧ below < 18446744073709551616) (w : World) (h : Spc w B g P) (hv : Small P) (hn : P.length ≤ 5000) : Calls Try.prog 12 #[.pointer (some ⟨g, 0, none⟩), .int .u64 size, .int .u64 below] w fun x w' => x = .returned (.tuple #[.int .u64 ((roomT (pm P) size below).getD 0), .bool (roomT (pm P) size below).isSome]) ∧ Fr (fun _ => False) w w' := by
  have HL := Lib.hid h
  have HV := Lib.hid hv
  have HN := Lib.hid hn
  have HPM := Lib.hid (show (pm P).length = P.length from List.length_map ..)
  clear h hv hn
  by_cases hbig : 274877906944 < size
  · have u1 : decide ((274877906944 : Int) < size) = true := decide_eq_true hbig
    have HE := Lib.hid (show roomT (pm P) size below = none from if_pos hbig)
    clear hbig
    go_enter Try.func12, Try.ntmps12
    go_wp2_with fail
    go_ret2
    rw [HE.out]
    exact ⟨rfl, Fr.refl _ _⟩
  · have u1 : decide ((274877906944 : Int) < size) = false := decide_eq_false hbig
    obtain ⟨n, hnn⟩ : ∃ n, P.length = n := ⟨_, rfl⟩
    have HNN := Lib.hid hnn
    have hn5 : n ≤ 5000 := by rw [← hnn]; exact HN.out
    obtain ⟨sz, hsz⟩ : ∃ sz, max ((size + 4095) / 4096) 1 * 4096 = sz := ⟨_, rfl⟩
    obtain ⟨e0, he0⟩ : ∃ e0, min below 274877906944 / 4096 * 4096 = e0 := ⟨_, rfl⟩
    have HE2 := Lib.hid (show roomT (pm P) size below = roomF (pm P) sz n e0 from by unfold roomT; rw [if_neg hbig, hsz, he0, HPM.out, hnn])
    obtain ⟨v0, hb0, hr0⟩ := HL.out.row
    obtain ⟨A, c, rfl, _, hA⟩ := hr0.form
    have HA := Lib.hid hA
    have k0 := hb0.cell 0
    simp at k0
    rw [hnn] at HA k0
    obtain ⟨up, hup⟩ : ∃ up, (size + 4095) / 4096 * 4096 = up := ⟨_, rfl⟩
    have hup1 : 0 ≤ up ∧ up ≤ 274877906944 := by omega
    have HUP := Lib.hid (fun w => up_any size hs.1 (by omega) w)
    rw [hup] at HUP
    have hub : IntKind.u64.wrap up = up := IntWalk.u64_in _ (by omega)
    clear hb0 hr0 hA hnn
    by_cases hz : up = 0
    · have z1 : (up == 0) = true := beq_iff_eq.2 hz
      obtain rfl : sz = 4096 := by omega
      clear hsz hz hup
      by_cases hbt : 274877906944 < below
      · have b1 : decide ((274877906944 : Int) < below) = true := decide_eq_true hbt
        obtain rfl : e0 = 274877906944 := by omega
        clear he0 hbt
        go_enter Try.func12, Try.ntmps12
        go_wp2_with fail
        refine (HUP.out _).mono ?_
        rintro x wu ⟨rfl, hfu⟩
        have HFU := Lib.hid hfu
        have k0 := ((HL.out.fr hfu).row)
        obtain ⟨vz, hbz, hrz⟩ := k0
        obtain ⟨Az, cz, rfl, _, _⟩ := hrz.form
        have kz := hbz.cell 0
        simp at kz
        rw [HNN.out] at kz
        clear hfu hbz hrz
        go_wp2_with fail
        go_loopg [8, 9] (n + 1) (fun kq v8 v9 wr => Hid (AtRp (pm P) 4096 274877906944 w n v8 v9 kq wr))
        case atStart => exact Lib.hid ⟨n, 274877906944, rfl, rfl, by omega, by omega, .inr ⟨n, rfl, Nat.le_refl _, by omega, rfl⟩, HFU.out⟩
        case round =>
          obtain ⟨z, e, rfl, rfl, h0, h1, hz2, hf⟩ := hrel.out
          have HF := Lib.hid hf
          clear hrel hf kz
          rcases hz2 with ⟨rfl, hz2⟩ | ⟨k, rfl, hkn, hkq, hz2⟩
          · have HZ := Lib.hid hz2
            clear hz2
            go_wp2_with fail
            go_ret2
            rw [HE2.out, HZ.out]
            exact ⟨rfl, HF.out⟩
          · have HZ := Lib.hid hz2
            clear hz2
            have c0 : decide ((0 : Int) ≤ (k : Int)) = true := decide_eq_true (by omega)
            cases k with
            | zero =>
              by_cases hfit : 4096 ≤ e ∧ 4096 ≤ e - 4096
              · have HR := Lib.hid (show roomF (pm P) 4096 n 274877906944 = some (e - 4096) from by rw [HZ.out]; exact if_pos hfit)
                have d1 : decide ((4096 : Int) ≤ e) = true := decide_eq_true hfit.1
                have d2 : decide (4096 ≤ e - 4096) = true := decide_eq_true hfit.2
                have w5 : IntKind.u64.wrap (e - 4096) = e - 4096 := IntWalk.u64_in _ (by omega)
                have w6 : IntKind.u64.wrap (e - 4096) = e - 4096 := IntWalk.u64_in _ (by omega)
                go_wp2_with fail
                go_ret2
                rw [HE2.out, HR.out]
                exact ⟨rfl, HF.out⟩
              · have HR := Lib.hid (show roomF (pm P) 4096 n 274877906944 = none from by rw [HZ.out]; exact if_neg hfit)
                by_cases d : 4096 ≤ e
                · have d1 : decide ((4096 : Int) ≤ e) = true := decide_eq_true d
                  have d2 : decide (4096 ≤ e - 4096) = false := decide_eq_false (fun h => hfit ⟨d, h⟩)
                  have w5 : IntKind.u64.wrap (e - 4096) = e - 4096 := IntWalk.u64_in _ (by omega)
                  clear hfit
                  go_wp2_with fail
                  go_roundg 0
                  case measure => omega
                  case rel => exact Lib.hid ⟨-1, e, rfl, rfl, h0, h1, .inl ⟨rfl, HR.out⟩, HF.out⟩
                · have d1 : decide ((4096 : Int) ≤ e) = false := decide_eq_false d
                  clear hfit
                  go_wp2_with fail
                  go_roundg 0
                  case measure => omega
                  case rel => exact Lib.hid ⟨-1, e, rfl, rfl, h0, h1, .inl ⟨rfl, HR.out⟩, HF.out⟩
            | succ k =>
              obtain ⟨kk, hkk⟩ : ∃ kk, k + 1 = kk := ⟨_, rfl⟩
              have HKL := Lib.hid (show k < P.length from by rw [HNN.out]; omega)
              have HZR := Lib.hid (show roomF (pm P) 4096 n 274877906944 = if max 4096 (rgAt (pm P) k).e ≤ e ∧ 4096 ≤ e - max 4096 (rgAt (pm P) k).e then some (e - 4096) else roomF (pm P) 4096 k (min e (rgAt (pm P) k).s) from HZ.out)
              rw [rgAt_pm P k HKL.out] at HZR
              have hgd := HV.out _ (pgAt_mem P k HKL.out)
              rw [hkk] at hkn hkq ⊢
              rw [hkk] at c0
              have kw : IntKind.i64.wrap ((kk : Int) - 1) = (k : Int) := by rw [show (kk : Int) - 1 = (k : Int) from by omega]; exact IntWalk.i64_in _ (by omega)
              have kw2 : (kk : Int) - 1 = (k : Int) := by omega
              have c1 : decide ((0 : Int) < (kk : Int)) = true := decide_eq_true (by omega)
              have c1' : decide (0 < kk) = true := decide_eq_true (by omega)
              have i0 : (0 : Int) ≤ (k : Int) := by omega
              have i1 : (k : Int) < (n : Int) := by omega
              obtain ⟨vq, hbq, hrq⟩ := (HL.out.fr HF.out).row
              obtain ⟨A2, c2, rfl, _, hA2⟩ := hrq.form
              obtain ⟨g2, rfl⟩ := hA2 (by have := HKL.out; omega)
              have q0 := hbq.cell 0
              simp at q0
              rw [HNN.out] at q0 hrq
              obtain ⟨y0, y1, y2⟩ := hrq.at_ k HKL.out
              obtain ⟨r, hr⟩ : ∃ r, pgAt P k = r := ⟨_, rfl⟩
              rw [hr] at y0 y1 y2 HZR hgd
              obtain ⟨x, p, kb⟩ := r
              obtain ⟨g1, g3⟩ := hgd
              simp only at g1 g3
              obtain ⟨s, hs2⟩ : ∃ s, x * 4096 = s := ⟨_, rfl⟩
              obtain ⟨q, hq2⟩ : ∃ q, (x + 1) * 4096 = q := ⟨_, rfl⟩
              have hws : IntKind.u64.wrap s = s := IntWalk.u64_in _ (by omega)
              have hwq : IntKind.u64.wrap q = q := IntWalk.u64_in _ (by omega)
              have hwx : IntKind.u64.wrap (x + 1) = x + 1 := IntWalk.u64_in _ (by omega)
              have hsq : s + 4096 = q := by omega
              have hpg : pgR ⟨x, p, kb⟩ = (⟨s, q, p⟩ : Rg) := by unfold pgR; simp only [hs2, hsq]
              rw [hpg] at HZR
              have HZR := Lib.hid (show roomF (pm P) 4096 n 274877906944 = if max 4096 q ≤ e ∧ 4096 ≤ e - max 4096 q then some (e - 4096) else roomF (pm P) 4096 k (min e s) from HZR.out)
              have HKK := Lib.hid hkk
              have hs0 : 0 ≤ s := by omega
              clear hbq hrq hA2 hr hkk hsq hpg
              by_cases hl : 4096 < q
              · have l1 : decide ((4096 : Int) < q) = true := decide_eq_true hl
                rw [show max 4096 q = q from by omega] at HZR
                have hlo : 4096 ≤ q := by omega
                clear hl
                by_cases hfit : q ≤ e ∧ 4096 ≤ e - q
                · have HR := Lib.hid (show roomF (pm P) 4096 n 274877906944 = some (e - 4096) from by rw [HZR.out]; exact if_pos hfit)
                  have d1 : decide ((q : Int) ≤ e) = true := decide_eq_true hfit.1
                  have d2 : decide (4096 ≤ e - q) = true := decide_eq_true hfit.2
                  have w5 : IntKind.u64.wrap (e - q) = e - q := IntWalk.u64_in _ (by omega)
                  have w6 : IntKind.u64.wrap (e - 4096) = e - 4096 := IntWalk.u64_in _ (by omega)
                  go_wp2_with fail
                  go_ret2
                  rw [HE2.out, HR.out]
                  exact ⟨rfl, HF.out⟩
                · have HR := Lib.hid (show roomF (pm P) 4096 n 274877906944 = roomF (pm P) 4096 k (min e s) from by rw [HZR.out]; exact if_neg hfit)
                  by_cases d : q ≤ e
                  · have d1 : decide ((q : Int) ≤ e) = true := decide_eq_true d
                    have d2 : decide (4096 ≤ e - q) = false := decide_eq_false (fun h => hfit ⟨d, h⟩)
                    have w5 : IntKind.u64.wrap (e - q) = e - q := IntWalk.u64_in _ (by omega)
                    clear hfit
                    by_cases hm : s < e
                    · have m1 : decide (s < e) = true := decide_eq_true hm
                      rw [show min e s = s from by omega] at HR
                      have hse : s ≤ 274877906944 := by omega
                      clear hm
                      go_wp2_with fail
                      go_roundg kk
                      case measure => omega
                      case rel => exact Lib.hid ⟨k, s, rfl, rfl, hs0, hse, .inr ⟨k, rfl, by omega, by have := HKK.out; omega, HR.out⟩, HF.out⟩
                    · have m1 : decide (s < e) = false := decide_eq_false hm
                      rw [show min e s = e from by omega] at HR
                      clear hm
                      go_wp2_with fail
                      go_roundg kk
                      case measure => omega
                      case rel => exact Lib.hid ⟨k, e, rfl, rfl, h0, h1, .inr ⟨k, rfl, by omega, by have := HKK.out; omega, HR.out⟩, HF.out⟩
                  · have d1 : decide ((q : Int) ≤ e) = false := decide_eq_false d
                    clear hfit
                    by_cases hm : s < e
                    · have m1 : decide (s < e) = true := decide_eq_true hm
                      rw [show min e s = s from by omega] at HR
                      have hse : s ≤ 274877906944 := by omega
                      clear hm
                      go_wp2_with fail
                      go_roundg kk
                      case measure => omega
                      case rel => exact Lib.hid ⟨k, s, rfl, rfl, hs0, hse, .inr ⟨k, rfl, by omega, by have := HKK.out; omega, HR.out⟩, HF.out⟩
                    · have m1 : decide (s < e) = false := decide_eq_false hm
                      rw [show min e s = e from by omega] at HR
                      clear hm
                      go_wp2_with fail
                      go_roundg kk
                      case measure => omega
                      case rel => exact Lib.hid ⟨k, e, rfl, rfl, h0, h1, .inr ⟨k, rfl, by omega, by have := HKK.out; omega, HR.out⟩, HF.out⟩
              · have l1 : decide ((4096 : Int) < q) = false := decide_eq_false hl
                rw [show max 4096 q = 4096 from by omega] at HZR
                clear hl
                by_cases hfit : 4096 ≤ e ∧ 4096 ≤ e - 4096
                · have HR := Lib.hid (show roomF (pm P) 4096 n 274877906944 = some (e - 4096) from by rw [HZR.out]; exact if_pos hfit)
                  have d1 : decide ((4096 : Int) ≤ e) = true := decide_eq_true hfit.1
                  have d2 : decide (4096 ≤ e - 4096) = true := decide_eq_true hfit.2
                  have w5 : IntKind.u64.wrap (e - 4096) = e - 4096 := IntWalk.u64_in _ (by omega)
                  have w6 : IntKind.u64.wrap (e - 4096) = e - 4096 := IntWalk.u64_in _ (by omega)
                  go_wp2_with fail
                  go_ret2
                  rw [HE2.out, HR.out]
                  exact ⟨rfl, HF.out⟩
                · have HR := Lib.hid (show roomF (pm P) 4096 n 274877906944 = roomF (pm P) 4096 k (min e s) from by rw [HZR.out]; exact if_neg hfit)
                  by_cases d : 4096 ≤ e
                  · have d1 : decide ((4096 : Int) ≤ e) = true := decide_eq_true d
                    have d2 : decide (4096 ≤ e - 4096) = false := decide_eq_false (fun h => hfit ⟨d, h⟩)
                    have w5 : IntKind.u64.wrap (e - 4096) = e - 4096 := IntWalk.u64_in _ (by omega)
                    clear hfit
                    by_cases hm : s < e
                    · have m1 : decide (s < e) = true := decide_eq_true hm
                      rw [show min e s = s from by omega] at HR
                      have hse : s ≤ 274877906944 := by omega
                      clear hm
                      go_wp2_with fail
                      go_roundg kk
                      case measure => omega
                      case rel => exact Lib.hid ⟨k, s, rfl, rfl, hs0, hse, .inr ⟨k, rfl, by omega, by have := HKK.out; omega, HR.out⟩, HF.out⟩
                    · have m1 : decide (s < e) = false := decide_eq_false hm
                      rw [show min e s = e from by omega] at HR
                      clear hm
                      go_wp2_with fail
                      go_roundg kk
                      case measure => omega
                      case rel => exact Lib.hid ⟨k, e, rfl, rfl, h0, h1, .inr ⟨k, rfl, by omega, by have := HKK.out; omega, HR.out⟩, HF.out⟩
                  · have d1 : decide ((4096 : Int) ≤ e) = false := decide_eq_false d
                    clear hfit
                    by_cases hm : s < e
                    · have m1 : decide (s < e) = true := decide_eq_true hm
                      rw [show min e s = s from by omega] at HR
                      have hse : s ≤ 274877906944 := by omega
                      clear hm
                      go_wp2_with fail
                      go_roundg kk
                      case measure => omega
                      case rel => exact Lib.hid ⟨k, s, rfl, rfl, hs0, hse, .inr ⟨k, rfl, by omega, by have := HKK.out; omega, HR.out⟩, HF.out⟩
                    · have m1 : decide (s < e) = false := decide_eq_false hm
                      rw [show min e s = e from by omega] at HR
                      clear hm
                      go_wp2_with fail
                      go_roundg kk
                      case measure => omega
                      case rel => exact Lib.hid ⟨k, e, rfl, rfl, h0, h1, .inr ⟨k, rfl, by omega, by have := HKK.out; omega, HR.out⟩, HF.out⟩
      · have b1 : decide ((274877906944 : Int) < below) = false := decide_eq_false hbt
        have he0' : below / 4096 * 4096 = e0 := by omega
        have t2 : below.tdiv 4096 = below / 4096 := Int.tdiv_eq_ediv_of_nonneg (by omega)
        have w4 : IntKind.u64.wrap e0 = e0 := IntWalk.u64_in _ (by omega)
        have he1 : 0 ≤ e0 := by omega
        have he2 : e0 ≤ 274877906944 := by omega
        clear he0 hbt
        go_enter Try.func12, Try.ntmps12
        go_wp2_with fail
        refine (HUP.out _).mono ?_
        rintro x wu ⟨rfl, hfu⟩
        have HFU := Lib.hid hfu
        have k0 := ((HL.out.fr hfu).row)
        obtain ⟨vz, hbz, hrz⟩ := k0
        obtain ⟨Az, cz, rfl, _, _⟩ := hrz.form
        have kz := hbz.cell 0
        simp at kz
        rw [HNN.out] at kz
        clear hfu hbz hrz
        go_wp2_with fail
        go_loopg [8, 9] (n + 1) (fun kq v8 v9 wr => Hid (AtRp (pm P) 4096 e0 w n v8 v9 kq wr))
        case atStart => exact Lib.hid ⟨n, e0, rfl, rfl, by omega, by omega, .inr ⟨n, rfl, Nat.le_refl _, by omega, rfl⟩, HFU.out⟩
        case round =>
          obtain ⟨z, e, rfl, rfl, h0, h1, hz2, hf⟩ := hrel.out
          have HF := Lib.hid hf
          clear hrel hf kz
          rcases hz2 with ⟨rfl, hz2⟩ | ⟨k, rfl, hkn, hkq, hz2⟩
          · have HZ := Lib.hid hz2
            clear hz2
            go_wp2_with fail
            go_ret2
            rw [HE2.out, HZ.out]
            exact ⟨rfl, HF.out⟩
          · have HZ := Lib.hid hz2
            clear hz2
            have c0 : decide ((0 : Int) ≤ (k : Int)) = true := decide_eq_true (by omega)
            cases k with
            | zero =>
              by_cases hfit : 4096 ≤ e ∧ 4096 ≤ e - 4096
              · have HR := Lib.hid (show roomF (pm P) 4096 n e0 = some (e - 4096) from by rw [HZ.out]; exact if_pos hfit)
                have d1 : decide ((4096 : Int) ≤ e) = true := decide_eq_true hfit.1
                have d2 : decide (4096 ≤ e - 4096) = true := decide_eq_true hfit.2
                have w5 : IntKind.u64.wrap (e - 4096) = e - 4096 := IntWalk.u64_in _ (by omega)
                have w6 : IntKind.u64.wrap (e - 4096) = e - 4096 := IntWalk.u64_in _ (by omega)
                go_wp2_with fail
                go_ret2
                rw [HE2.out, HR.out]
                exact ⟨rfl, HF.out⟩
              · have HR := Lib.hid (show roomF (pm P) 4096 n e0 = none from by rw [HZ.out]; exact if_neg hfit)
                by_cases d : 4096 ≤ e
                · have d1 : decide ((4096 : Int) ≤ e) = true := decide_eq_true d
                  have d2 : decide (4096 ≤ e - 4096) = false := decide_eq_false (fun h => hfit ⟨d, h⟩)
                  have w5 : IntKind.u64.wrap (e - 4096) = e - 4096 := IntWalk.u64_in _ (by omega)
                  clear hfit
                  go_wp2_with fail
                  go_roundg 0
                  case measure => omega
                  case rel => exact Lib.hid ⟨-1, e, rfl, rfl, h0, h1, .inl ⟨rfl, HR.out⟩, HF.out⟩
                · have d1 : decide ((4096 : Int) ≤ e) = false := decide_eq_false d
                  clear hfit
                  go_wp2_with fail
                  go_roundg 0
                  case measure => omega
                  case rel => exact Lib.hid ⟨-1, e, rfl, rfl, h0, h1, .inl ⟨rfl, HR.out⟩, HF.out⟩
            | succ k =>
              obtain ⟨kk, hkk⟩ : ∃ kk, k + 1 = kk := ⟨_, rfl⟩
              have HKL := Lib.hid (show k < P.length from by rw [HNN.out]; omega)
              have HZR := Lib.hid (show roomF (pm P) 4096 n e0 = if max 4096 (rgAt (pm P) k).e ≤ e ∧ 4096 ≤ e - max 4096 (rgAt (pm P) k).e then some (e - 4096) else roomF (pm P) 4096 k (min e (rgAt (pm P) k).s) from HZ.out)
              rw [rgAt_pm P k HKL.out] at HZR
              have hgd := HV.out _ (pgAt_mem P k HKL.out)
              rw [hkk] at hkn hkq ⊢
              rw [hkk] at c0
              have kw : IntKind.i64.wrap ((kk : Int) - 1) = (k : Int) := by rw [show (kk : Int) - 1 = (k : Int) from by omega]; exact IntWalk.i64_in _ (by omega)
              have kw2 : (kk : Int) - 1 = (k : Int) := by omega
              have c1 : decide ((0 : Int) < (kk : Int)) = true := decide_eq_true (by omega)
              have c1' : decide (0 < kk) = true := decide_eq_true (by omega)
              have i0 : (0 : Int) ≤ (k : Int) := by omega
              have i1 : (k : Int) < (n : Int) := by omega
              obtain ⟨vq, hbq, hrq⟩ := (HL.out.fr HF.out).row
              obtain ⟨A2, c2, rfl, _, hA2⟩ := hrq.form
              obtain ⟨g2, rfl⟩ := hA2 (by have := HKL.out; omega)
              have q0 := hbq.cell 0
              simp at q0
              rw [HNN.out] at q0 hrq
              obtain ⟨y0, y1, y2⟩ := hrq.at_ k HKL.out
              obtain ⟨r, hr⟩ : ∃ r, pgAt P k = r := ⟨_, rfl⟩
              rw [hr] at y0 y1 y2 HZR hgd
              obtain ⟨x, p, kb⟩ := r
              obtain ⟨g1, g3⟩ := hgd
              simp only at g1 g3
              obtain ⟨s, hs2⟩ : ∃ s, x * 4096 = s := ⟨_, rfl⟩
              obtain ⟨q, hq2⟩ : ∃ q, (x + 1) * 4096 = q := ⟨_, rfl⟩
              have hws : IntKind.u64.wrap s = s := IntWalk.u64_in _ (by omega)
              have hwq : IntKind.u64.wrap q = q := IntWalk.u64_in _ (by omega)
              have hwx : IntKind.u64.wrap (x + 1) = x + 1 := IntWalk.u64_in _ (by omega)
              have hsq : s + 4096 = q := by omega
              have hpg : pgR ⟨x, p, kb⟩ = (⟨s, q, p⟩ : Rg) := by unfold pgR; simp only [hs2, hsq]
              rw [hpg] at HZR
              have HZR := Lib.hid (show roomF (pm P) 4096 n e0 = if max 4096 q ≤ e ∧ 4096 ≤ e - max 4096 q then some (e - 4096) else roomF (pm P) 4096 k (min e s) from HZR.out)
              have HKK := Lib.hid hkk
              have hs0 : 0 ≤ s := by omega
              clear hbq hrq hA2 hr hkk hsq hpg
              by_cases hl : 4096 < q
              · have l1 : decide ((4096 : Int) < q) = true := decide_eq_true hl
                rw [show max 4096 q = q from by omega] at HZR
                have hlo : 4096 ≤ q := by omega
                clear hl
                by_cases hfit : q ≤ e ∧ 4096 ≤ e - q
                · have HR := Lib.hid (show roomF (pm P) 4096 n e0 = some (e - 4096) from by rw [HZR.out]; exact if_pos hfit)
                  have d1 : decide ((q : Int) ≤ e) = true := decide_eq_true hfit.1
                  have d2 : decide (4096 ≤ e - q) = true := decide_eq_true hfit.2
                  have w5 : IntKind.u64.wrap (e - q) = e - q := IntWalk.u64_in _ (by omega)
                  have w6 : IntKind.u64.wrap (e - 4096) = e - 4096 := IntWalk.u64_in _ (by omega)
                  go_wp2_with fail
                  go_ret2
                  rw [HE2.out, HR.out]
                  exact ⟨rfl, HF.out⟩
                · have HR := Lib.hid (show roomF (pm P) 4096 n e0 = roomF (pm P) 4096 k (min e s) from by rw [HZR.out]; exact if_neg hfit)
                  by_cases d : q ≤ e
                  · have d1 : decide ((q : Int) ≤ e) = true := decide_eq_true d
                    have d2 : decide (4096 ≤ e - q) = false := decide_eq_false (fun h => hfit ⟨d, h⟩)
                    have w5 : IntKind.u64.wrap (e - q) = e - q := IntWalk.u64_in _ (by omega)
                    clear hfit
                    by_cases hm : s < e
                    · have m1 : decide (s < e) = true := decide_eq_true hm
                      rw [show min e s = s from by omega] at HR
                      have hse : s ≤ 274877906944 := by omega
                      clear hm
                      go_wp2_with fail
                      go_roundg kk
                      case measure => omega
                      case rel => exact Lib.hid ⟨k, s, rfl, rfl, hs0, hse, .inr ⟨k, rfl, by omega, by have := HKK.out; omega, HR.out⟩, HF.out⟩
                    · have m1 : decide (s < e) = false := decide_eq_false hm
                      rw [show min e s = e from by omega] at HR
                      clear hm
                      go_wp2_with fail
                      go_roundg kk
                      case measure => omega
                      case rel => exact Lib.hid ⟨k, e, rfl, rfl, h0, h1, .inr ⟨k, rfl, by omega, by have := HKK.out; omega, HR.out⟩, HF.out⟩
                  · have d1 : decide ((q : Int) ≤ e) = false := decide_eq_false d
                    clear hfit
                    by_cases hm : s < e
                    · have m1 : decide (s < e) = true := decide_eq_true hm
                      rw [show min e s = s from by omega] at HR
                      have hse : s ≤ 274877906944 := by omega
                      clear hm
                      go_wp2_with fail
                      go_roundg kk
                      case measure => omega
                      case rel => exact Lib.hid ⟨k, s, rfl, rfl, hs0, hse, .inr ⟨k, rfl, by omega, by have := HKK.out; omega, HR.out⟩, HF.out⟩
                    · have m1 : decide (s < e) = false := decide_eq_false hm
                      rw [show min e s = e from by omega] at HR
                      clear hm
                      go_wp2_with fail
                      go_roundg kk
                      case measure => omega
                      case rel => exact Lib.hid ⟨k, e, rfl, rfl, h0, h1, .inr ⟨k, rfl, by omega, by have := HKK.out; omega, HR.out⟩, HF.out⟩
              · have l1 : decide ((4096 : Int) < q) = false := decide_eq_false hl
                rw [show max 4096 q = 4096 from by omega] at HZR
                clear hl
                by_cases hfit : 4096 ≤ e ∧ 4096 ≤ e - 4096
                · have HR := Lib.hid (show roomF (pm P) 4096 n e0 = some (e - 4096) from by rw [HZR.out]; exact if_pos hfit)
                  have d1 : decide ((4096 : Int) ≤ e) = true := decide_eq_true hfit.1
                  have d2 : decide (4096 ≤ e - 4096) = true := decide_eq_true hfit.2
                  have w5 : IntKind.u64.wrap (e - 4096) = e - 4096 := IntWalk.u64_in _ (by omega)
                  have w6 : IntKind.u64.wrap (e - 4096) = e - 4096 := IntWalk.u64_in _ (by omega)
                  go_wp2_with fail
                  go_ret2
                  rw [HE2.out, HR.out]
                  exact ⟨rfl, HF.out⟩
                · have HR := Lib.hid (show roomF (pm P) 4096 n e0 = roomF (pm P) 4096 k (min e s) from by rw [HZR.out]; exact if_neg hfit)
                  by_cases d : 4096 ≤ e
                  · have d1 : decide ((4096 : Int) ≤ e) = true := decide_eq_true d
                    have d2 : decide (4096 ≤ e - 4096) = false := decide_eq_false (fun h => hfit ⟨d, h⟩)
                    have w5 : IntKind.u64.wrap (e - 4096) = e - 4096 := IntWalk.u64_in _ (by omega)
                    clear hfit
                    by_cases hm : s < e
                    · have m1 : decide (s < e) = true := decide_eq_true hm
                      rw [show min e s = s from by omega] at HR
                      have hse : s ≤ 274877906944 := by omega
                      clear hm
                      go_wp2_with fail
                      go_roundg kk
                      case measure => omega
                      case rel => exact Lib.hid ⟨k, s, rfl, rfl, hs0, hse, .inr ⟨k, rfl, by omega, by have := HKK.out; omega, HR.out⟩, HF.out⟩
                    · have m1 : decide (s < e) = false := decide_eq_false hm
                      rw [show min e s = e from by omega] at HR
                      clear hm
                      go_wp2_with fail
                      go_roundg kk
                      case measure => omega
                      case rel => exact Lib.hid ⟨k, e, rfl, rfl, h0, h1, .inr ⟨k, rfl, by omega, by have := HKK.out; omega, HR.out⟩, HF.out⟩
                  · have d1 : decide ((4096 : Int) ≤ e) = false := decide_eq_false d
                    clear hfit
                    by_cases hm : s < e
                    · have m1 : decide (s < e) = true := decide_eq_true hm
                      rw [show min e s = s from by omega] at HR
                      have hse : s ≤ 274877906944 := by omega
                      clear hm
                      go_wp2_with fail
                      go_roundg kk
                      case measure => omega
                      case rel => exact Lib.hid ⟨k, s, rfl, rfl, hs0, hse, .inr ⟨k, rfl, by omega, by have := HKK.out; omega, HR.out⟩, HF.out⟩
                    · have m1 : decide (s < e) = false := decide_eq_false hm
                      rw [show min e s = e from by omega] at HR
                      clear hm
                      go_wp2_with fail
                      go_roundg kk
                      case measure => omega
                      case rel => exact Lib.hid ⟨k, e, rfl, rfl, h0, h1, .inr ⟨k, rfl, by omega, by have := HKK.out; omega, HR.out⟩, HF.out⟩
    · have z1 : (up == 0) = false := beq_eq_false_iff_ne.2 hz
      obtain rfl : up = sz := by omega
      clear hsz hup
      by_cases hbt : 274877906944 < below
      · have b1 : decide ((274877906944 : Int) < below) = true := decide_eq_true hbt
        obtain rfl : e0 = 274877906944 := by omega
        clear he0 hbt
        go_enter Try.func12, Try.ntmps12
        go_wp2_with fail
        refine (HUP.out _).mono ?_
        rintro x wu ⟨rfl, hfu⟩
        have HFU := Lib.hid hfu
        have k0 := ((HL.out.fr hfu).row)
        obtain ⟨vz, hbz, hrz⟩ := k0
        obtain ⟨Az, cz, rfl, _, _⟩ := hrz.form
        have kz := hbz.cell 0
        simp at kz
        rw [HNN.out] at kz
        clear hfu hbz hrz
        go_wp2_with fail
        go_loopg [8, 9] (n + 1) (fun kq v8 v9 wr => Hid (AtRp (pm P) up 274877906944 w n v8 v9 kq wr))
        case atStart => exact Lib.hid ⟨n, 274877906944, rfl, rfl, by omega, by omega, .inr ⟨n, rfl, Nat.le_refl _, by omega, rfl⟩, HFU.out⟩
        case round =>
          obtain ⟨z, e, rfl, rfl, h0, h1, hz2, hf⟩ := hrel.out
          have HF := Lib.hid hf
          clear hrel hf kz
          rcases hz2 with ⟨rfl, hz2⟩ | ⟨k, rfl, hkn, hkq, hz2⟩
          · have HZ := Lib.hid hz2
            clear hz2
            go_wp2_with fail
            go_ret2
            rw [HE2.out, HZ.out]
            exact ⟨rfl, HF.out⟩
          · have HZ := Lib.hid hz2
            clear hz2
            have c0 : decide ((0 : Int) ≤ (k : Int)) = true := decide_eq_true (by omega)
            cases k with
            | zero =>
              by_cases hfit : 4096 ≤ e ∧ up ≤ e - 4096
              · have HR := Lib.hid (show roomF (pm P) up n 274877906944 = some (e - up) from by rw [HZ.out]; exact if_pos hfit)
                have d1 : decide ((4096 : Int) ≤ e) = true := decide_eq_true hfit.1
                have d2 : decide (up ≤ e - 4096) = true := decide_eq_true hfit.2
                have w5 : IntKind.u64.wrap (e - 4096) = e - 4096 := IntWalk.u64_in _ (by omega)
                have w6 : IntKind.u64.wrap (e - up) = e - up := IntWalk.u64_in _ (by omega)
                go_wp2_with fail
                go_ret2
                rw [HE2.out, HR.out]
                exact ⟨rfl, HF.out⟩
              · have HR := Lib.hid (show roomF (pm P) up n 274877906944 = none from by rw [HZ.out]; exact if_neg hfit)
                by_cases d : 4096 ≤ e
                · have d1 : decide ((4096 : Int) ≤ e) = true := decide_eq_true d
                  have d2 : decide (up ≤ e - 4096) = false := decide_eq_false (fun h => hfit ⟨d, h⟩)
                  have w5 : IntKind.u64.wrap (e - 4096) = e - 4096 := IntWalk.u64_in _ (by omega)
                  clear hfit
                  go_wp2_with fail
                  go_roundg 0
                  case measure => omega
                  case rel => exact Lib.hid ⟨-1, e, rfl, rfl, h0, h1, .inl ⟨rfl, HR.out⟩, HF.out⟩
                · have d1 : decide ((4096 : Int) ≤ e) = false := decide_eq_false d
                  clear hfit
                  go_wp2_with fail
                  go_roundg 0
                  case measure => omega
                  case rel => exact Lib.hid ⟨-1, e, rfl, rfl, h0, h1, .inl ⟨rfl, HR.out⟩, HF.out⟩
            | succ k =>
              obtain ⟨kk, hkk⟩ : ∃ kk, k + 1 = kk := ⟨_, rfl⟩
              have HKL := Lib.hid (show k < P.length from by rw [HNN.out]; omega)
              have HZR := Lib.hid (show roomF (pm P) up n 274877906944 = if max 4096 (rgAt (pm P) k).e ≤ e ∧ up ≤ e - max 4096 (rgAt (pm P) k).e then some (e - up) else roomF (pm P) up k (min e (rgAt (pm P) k).s) from HZ.out)
              rw [rgAt_pm P k HKL.out] at HZR
              have hgd := HV.out _ (pgAt_mem P k HKL.out)
              rw [hkk] at hkn hkq ⊢
              rw [hkk] at c0
              have kw : IntKind.i64.wrap ((kk : Int) - 1) = (k : Int) := by rw [show (kk : Int) - 1 = (k : Int) from by omega]; exact IntWalk.i64_in _ (by omega)
              have kw2 : (kk : Int) - 1 = (k : Int) := by omega
              have c1 : decide ((0 : Int) < (kk : Int)) = true := decide_eq_true (by omega)
              have c1' : decide (0 < kk) = true := decide_eq_true (by omega)
              have i0 : (0 : Int) ≤ (k : Int) := by omega
              have i1 : (k : Int) < (n : Int) := by omega
              obtain ⟨vq, hbq, hrq⟩ := (HL.out.fr HF.out).row
              obtain ⟨A2, c2, rfl, _, hA2⟩ := hrq.form
              obtain ⟨g2, rfl⟩ := hA2 (by have := HKL.out; omega)
              have q0 := hbq.cell 0
              simp at q0
              rw [HNN.out] at q0 hrq
              obtain ⟨y0, y1, y2⟩ := hrq.at_ k HKL.out
              obtain ⟨r, hr⟩ : ∃ r, pgAt P k = r := ⟨_, rfl⟩
              rw [hr] at y0 y1 y2 HZR hgd
              obtain ⟨x, p, kb⟩ := r
              obtain ⟨g1, g3⟩ := hgd
              simp only at g1 g3
              obtain ⟨s, hs2⟩ : ∃ s, x * 4096 = s := ⟨_, rfl⟩
              obtain ⟨q, hq2⟩ : ∃ q, (x + 1) * 4096 = q := ⟨_, rfl⟩
              have hws : IntKind.u64.wrap s = s := IntWalk.u64_in _ (by omega)
              have hwq : IntKind.u64.wrap q = q := IntWalk.u64_in _ (by omega)
              have hwx : IntKind.u64.wrap (x + 1) = x + 1 := IntWalk.u64_in _ (by omega)
              have hsq : s + 4096 = q := by omega
              have hpg : pgR ⟨x, p, kb⟩ = (⟨s, q, p⟩ : Rg) := by unfold pgR; simp only [hs2, hsq]
              rw [hpg] at HZR
              have HZR := Lib.hid (show roomF (pm P) up n 274877906944 = if max 4096 q ≤ e ∧ up ≤ e - max 4096 q then some (e - up) else roomF (pm P) up k (min e s) from HZR.out)
              have HKK := Lib.hid hkk
              have hs0 : 0 ≤ s := by omega
              clear hbq hrq hA2 hr hkk hsq hpg
              by_cases hl : 4096 < q
              · have l1 : decide ((4096 : Int) < q) = true := decide_eq_true hl
                rw [show max 4096 q = q from by omega] at HZR
                have hlo : 4096 ≤ q := by omega
                clear hl
                by_cases hfit : q ≤ e ∧ up ≤ e - q
                · have HR := Lib.hid (show roomF (pm P) up n 274877906944 = some (e - up) from by rw [HZR.out]; exact if_pos hfit)
                  have d1 : decide ((q : Int) ≤ e) = true := decide_eq_true hfit.1
                  have d2 : decide (up ≤ e - q) = true := decide_eq_true hfit.2
                  have w5 : IntKind.u64.wrap (e - q) = e - q := IntWalk.u64_in _ (by omega)
                  have w6 : IntKind.u64.wrap (e - up) = e - up := IntWalk.u64_in _ (by omega)
                  go_wp2_with fail
                  go_ret2
                  rw [HE2.out, HR.out]
                  exact ⟨rfl, HF.out⟩
                · have HR := Lib.hid (show roomF (pm P) up n 274877906944 = roomF (pm P) up k (min e s) from by rw [HZR.out]; exact if_neg hfit)
                  by_cases d : q ≤ e
                  · have d1 : decide ((q : Int) ≤ e) = true := decide_eq_true d
                    have d2 : decide (up ≤ e - q) = false := decide_eq_false (fun h => hfit ⟨d, h⟩)
                    have w5 : IntKind.u64.wrap (e - q) = e - q := IntWalk.u64_in _ (by omega)
                    clear hfit
                    by_cases hm : s < e
                    · have m1 : decide (s < e) = true := decide_eq_true hm
                      rw [show min e s = s from by omega] at HR
                      have hse : s ≤ 274877906944 := by omega
                      clear hm
                      go_wp2_with fail
                      go_roundg kk
                      case measure => omega
                      case rel => exact Lib.hid ⟨k, s, rfl, rfl, hs0, hse, .inr ⟨k, rfl, by omega, by have := HKK.out; omega, HR.out⟩, HF.out⟩
                    · have m1 : decide (s < e) = false := decide_eq_false hm
                      rw [show min e s = e from by omega] at HR
                      clear hm
                      go_wp2_with fail
                      go_roundg kk
                      case measure => omega
                      case rel => exact Lib.hid ⟨k, e, rfl, rfl, h0, h1, .inr ⟨k, rfl, by omega, by have := HKK.out; omega, HR.out⟩, HF.out⟩
                  · have d1 : decide ((q : Int) ≤ e) = false := decide_eq_false d
                    clear hfit
                    by_cases hm : s < e
                    · have m1 : decide (s < e) = true := decide_eq_true hm
                      rw [show min e s = s from by omega] at HR
                      have hse : s ≤ 274877906944 := by omega
                      clear hm
                      go_wp2_with fail
                      go_roundg kk
                      case measure => omega
                      case rel => exact Lib.hid ⟨k, s, rfl, rfl, hs0, hse, .inr ⟨k, rfl, by omega, by have := HKK.out; omega, HR.out⟩, HF.out⟩
                    · have m1 : decide (s < e) = false := decide_eq_false hm
                      rw [show min e s = e from by omega] at HR
                      clear hm
                      go_wp2_with fail
                      go_roundg kk
                      case measure => omega
                      case rel => exact Lib.hid ⟨k, e, rfl, rfl, h0, h1, .inr ⟨k, rfl, by omega, by have := HKK.out; omega, HR.out⟩, HF.out⟩
              · have l1 : decide ((4096 : Int) < q) = false := decide_eq_false hl
                rw [show max 4096 q = 4096 from by omega] at HZR
                clear hl
                by_cases hfit : 4096 ≤ e ∧ up ≤ e - 4096
                · have HR := Lib.hid (show roomF (pm P) up n 274877906944 = some (e - up) from by rw [HZR.out]; exact if_pos hfit)
                  have d1 : decide ((4096 : Int) ≤ e) = true := decide_eq_true hfit.1
                  have d2 : decide (up ≤ e - 4096) = true := decide_eq_true hfit.2
                  have w5 : IntKind.u64.wrap (e - 4096) = e - 4096 := IntWalk.u64_in _ (by omega)
                  have w6 : IntKind.u64.wrap (e - up) = e - up := IntWalk.u64_in _ (by omega)
                  go_wp2_with fail
                  go_ret2
                  rw [HE2.out, HR.out]
                  exact ⟨rfl, HF.out⟩
                · have HR := Lib.hid (show roomF (pm P) up n 274877906944 = roomF (pm P) up k (min e s) from by rw [HZR.out]; exact if_neg hfit)
                  by_cases d : 4096 ≤ e
                  · have d1 : decide ((4096 : Int) ≤ e) = true := decide_eq_true d
                    have d2 : decide (up ≤ e - 4096) = false := decide_eq_false (fun h => hfit ⟨d, h⟩)
                    have w5 : IntKind.u64.wrap (e - 4096) = e - 4096 := IntWalk.u64_in _ (by omega)
                    clear hfit
                    by_cases hm : s < e
                    · have m1 : decide (s < e) = true := decide_eq_true hm
                      rw [show min e s = s from by omega] at HR
                      have hse : s ≤ 274877906944 := by omega
                      clear hm
                      go_wp2_with fail
                      go_roundg kk
                      case measure => omega
                      case rel => exact Lib.hid ⟨k, s, rfl, rfl, hs0, hse, .inr ⟨k, rfl, by omega, by have := HKK.out; omega, HR.out⟩, HF.out⟩
                    · have m1 : decide (s < e) = false := decide_eq_false hm
                      rw [show min e s = e from by omega] at HR
                      clear hm
                      go_wp2_with fail
                      go_roundg kk
                      case measure => omega
                      case rel => exact Lib.hid ⟨k, e, rfl, rfl, h0, h1, .inr ⟨k, rfl, by omega, by have := HKK.out; omega, HR.out⟩, HF.out⟩
                  · have d1 : decide ((4096 : Int) ≤ e) = false := decide_eq_false d
                    clear hfit
                    by_cases hm : s < e
                    · have m1 : decide (s < e) = true := decide_eq_true hm
                      rw [show min e s = s from by omega] at HR
                      have hse : s ≤ 274877906944 := by omega
                      clear hm
                      go_wp2_with fail
                      go_roundg kk
                      case measure => omega
                      case rel => exact Lib.hid ⟨k, s, rfl, rfl, hs0, hse, .inr ⟨k, rfl, by omega, by have := HKK.out; omega, HR.out⟩, HF.out⟩
                    · have m1 : decide (s < e) = false := decide_eq_false hm
                      rw [show min e s = e from by omega] at HR
                      clear hm
                      go_wp2_with fail
                      go_roundg kk
                      case measure => omega
                      case rel => exact Lib.hid ⟨k, e, rfl, rfl, h0, h1, .inr ⟨k, rfl, by omega, by have := HKK.out; omega, HR.out⟩, HF.out⟩
      · have b1 : decide ((274877906944 : Int) < below) = false := decide_eq_false hbt
        have he0' : below / 4096 * 4096 = e0 := by omega
        have t2 : below.tdiv 4096 = below / 4096 := Int.tdiv_eq_ediv_of_nonneg (by omega)
        have w4 : IntKind.u64.wrap e0 = e0 := IntWalk.u64_in _ (by omega)
        have he1 : 0 ≤ e0 := by omega
        have he2 : e0 ≤ 274877906944 := by omega
        clear he0 hbt
        go_enter Try.func12, Try.ntmps12
        go_wp2_with fail
        refine (HUP.out _).mono ?_
        rintro x wu ⟨rfl, hfu⟩
        have HFU := Lib.hid hfu
        have k0 := ((HL.out.fr hfu).row)
        obtain ⟨vz, hbz, hrz⟩ := k0
        obtain ⟨Az, cz, rfl, _, _⟩ := hrz.form
        have kz := hbz.cell 0
        simp at kz
        rw [HNN.out] at kz
        clear hfu hbz hrz
        go_wp2_with fail
        go_loopg [8, 9] (n + 1) (fun kq v8 v9 wr => Hid (AtRp (pm P) up e0 w n v8 v9 kq wr))
        case atStart => exact Lib.hid ⟨n, e0, rfl, rfl, by omega, by omega, .inr ⟨n, rfl, Nat.le_refl _, by omega, rfl⟩, HFU.out⟩
        case round =>
          obtain ⟨z, e, rfl, rfl, h0, h1, hz2, hf⟩ := hrel.out
          have HF := Lib.hid hf
          clear hrel hf kz
          rcases hz2 with ⟨rfl, hz2⟩ | ⟨k, rfl, hkn, hkq, hz2⟩
          · have HZ := Lib.hid hz2
            clear hz2
            go_wp2_with fail
            go_ret2
            rw [HE2.out, HZ.out]
            exact ⟨rfl, HF.out⟩
          · have HZ := Lib.hid hz2
            clear hz2
            have c0 : decide ((0 : Int) ≤ (k : Int)) = true := decide_eq_true (by omega)
            cases k with
            | zero =>
              by_cases hfit : 4096 ≤ e ∧ up ≤ e - 4096
              · have HR := Lib.hid (show roomF (pm P) up n e0 = some (e - up) from by rw [HZ.out]; exact if_pos hfit)
                have d1 : decide ((4096 : Int) ≤ e) = true := decide_eq_true hfit.1
                have d2 : decide (up ≤ e - 4096) = true := decide_eq_true hfit.2
                have w5 : IntKind.u64.wrap (e - 4096) = e - 4096 := IntWalk.u64_in _ (by omega)
                have w6 : IntKind.u64.wrap (e - up) = e - up := IntWalk.u64_in _ (by omega)
                go_wp2_with fail
                go_ret2
                rw [HE2.out, HR.out]
                exact ⟨rfl, HF.out⟩
              · have HR := Lib.hid (show roomF (pm P) up n e0 = none from by rw [HZ.out]; exact if_neg hfit)
                by_cases d : 4096 ≤ e
                · have d1 : decide ((4096 : Int) ≤ e) = true := decide_eq_true d
                  have d2 : decide (up ≤ e - 4096) = false := decide_eq_false (fun h => hfit ⟨d, h⟩)
                  have w5 : IntKind.u64.wrap (e - 4096) = e - 4096 := IntWalk.u64_in _ (by omega)
                  clear hfit
                  go_wp2_with fail
                  go_roundg 0
                  case measure => omega
                  case rel => exact Lib.hid ⟨-1, e, rfl, rfl, h0, h1, .inl ⟨rfl, HR.out⟩, HF.out⟩
                · have d1 : decide ((4096 : Int) ≤ e) = false := decide_eq_false d
                  clear hfit
                  go_wp2_with fail
                  go_roundg 0
                  case measure => omega
                  case rel => exact Lib.hid ⟨-1, e, rfl, rfl, h0, h1, .inl ⟨rfl, HR.out⟩, HF.out⟩
            | succ k =>
              obtain ⟨kk, hkk⟩ : ∃ kk, k + 1 = kk := ⟨_, rfl⟩
              have HKL := Lib.hid (show k < P.length from by rw [HNN.out]; omega)
              have HZR := Lib.hid (show roomF (pm P) up n e0 = if max 4096 (rgAt (pm P) k).e ≤ e ∧ up ≤ e - max 4096 (rgAt (pm P) k).e then some (e - up) else roomF (pm P) up k (min e (rgAt (pm P) k).s) from HZ.out)
              rw [rgAt_pm P k HKL.out] at HZR
              have hgd := HV.out _ (pgAt_mem P k HKL.out)
              rw [hkk] at hkn hkq ⊢
              rw [hkk] at c0
              have kw : IntKind.i64.wrap ((kk : Int) - 1) = (k : Int) := by rw [show (kk : Int) - 1 = (k : Int) from by omega]; exact IntWalk.i64_in _ (by omega)
              have kw2 : (kk : Int) - 1 = (k : Int) := by omega
              have c1 : decide ((0 : Int) < (kk : Int)) = true := decide_eq_true (by omega)
              have c1' : decide (0 < kk) = true := decide_eq_true (by omega)
              have i0 : (0 : Int) ≤ (k : Int) := by omega
              have i1 : (k : Int) < (n : Int) := by omega
              obtain ⟨vq, hbq, hrq⟩ := (HL.out.fr HF.out).row
              obtain ⟨A2, c2, rfl, _, hA2⟩ := hrq.form
              obtain ⟨g2, rfl⟩ := hA2 (by have := HKL.out; omega)
              have q0 := hbq.cell 0
              simp at q0
              rw [HNN.out] at q0 hrq
              obtain ⟨y0, y1, y2⟩ := hrq.at_ k HKL.out
              obtain ⟨r, hr⟩ : ∃ r, pgAt P k = r := ⟨_, rfl⟩
              rw [hr] at y0 y1 y2 HZR hgd
              obtain ⟨x, p, kb⟩ := r
              obtain ⟨g1, g3⟩ := hgd
              simp only at g1 g3
              obtain ⟨s, hs2⟩ : ∃ s, x * 4096 = s := ⟨_, rfl⟩
              obtain ⟨q, hq2⟩ : ∃ q, (x + 1) * 4096 = q := ⟨_, rfl⟩
              have hws : IntKind.u64.wrap s = s := IntWalk.u64_in _ (by omega)
              have hwq : IntKind.u64.wrap q = q := IntWalk.u64_in _ (by omega)
              have hwx : IntKind.u64.wrap (x + 1) = x + 1 := IntWalk.u64_in _ (by omega)
              have hsq : s + 4096 = q := by omega
              have hpg : pgR ⟨x, p, kb⟩ = (⟨s, q, p⟩ : Rg) := by unfold pgR; simp only [hs2, hsq]
              rw [hpg] at HZR
              have HZR := Lib.hid (show roomF (pm P) up n e0 = if max 4096 q ≤ e ∧ up ≤ e - max 4096 q then some (e - up) else roomF (pm P) up k (min e s) from HZR.out)
              have HKK := Lib.hid hkk
              have hs0 : 0 ≤ s := by omega
              clear hbq hrq hA2 hr hkk hsq hpg
              by_cases hl : 4096 < q
              · have l1 : decide ((4096 : Int) < q) = true := decide_eq_true hl
                rw [show max 4096 q = q from by omega] at HZR
                have hlo : 4096 ≤ q := by omega
                clear hl
                by_cases hfit : q ≤ e ∧ up ≤ e - q
                · have HR := Lib.hid (show roomF (pm P) up n e0 = some (e - up) from by rw [HZR.out]; exact if_pos hfit)
                  have d1 : decide ((q : Int) ≤ e) = true := decide_eq_true hfit.1
                  have d2 : decide (up ≤ e - q) = true := decide_eq_true hfit.2
                  have w5 : IntKind.u64.wrap (e - q) = e - q := IntWalk.u64_in _ (by omega)
                  have w6 : IntKind.u64.wrap (e - up) = e - up := IntWalk.u64_in _ (by omega)
                  go_wp2_with fail
                  go_ret2
                  rw [HE2.out, HR.out]
                  exact ⟨rfl, HF.out⟩
                · have HR := Lib.hid (show roomF (pm P) up n e0 = roomF (pm P) up k (min e s) from by rw [HZR.out]; exact if_neg hfit)
                  by_cases d : q ≤ e
                  · have d1 : decide ((q : Int) ≤ e) = true := decide_eq_true d
                    have d2 : decide (up ≤ e - q) = false := decide_eq_false (fun h => hfit ⟨d, h⟩)
                    have w5 : IntKind.u64.wrap (e - q) = e - q := IntWalk.u64_in _ (by omega)
                    clear hfit
                    by_cases hm : s < e
                    · have m1 : decide (s < e) = true := decide_eq_true hm
                      rw [show min e s = s from by omega] at HR
                      have hse : s ≤ 274877906944 := by omega
                      clear hm
                      go_wp2_with fail
                      go_roundg kk
                      case measure => omega
                      case rel => exact Lib.hid ⟨k, s, rfl, rfl, hs0, hse, .inr ⟨k, rfl, by omega, by have := HKK.out; omega, HR.out⟩, HF.out⟩
                    · have m1 : decide (s < e) = false := decide_eq_false hm
                      rw [show min e s = e from by omega] at HR
                      clear hm
                      go_wp2_with fail
                      go_roundg kk
                      case measure => omega
                      case rel => exact Lib.hid ⟨k, e, rfl, rfl, h0, h1, .inr ⟨k, rfl, by omega, by have := HKK.out; omega, HR.out⟩, HF.out⟩
                  · have d1 : decide ((q : Int) ≤ e) = false := decide_eq_false d
                    clear hfit
                    by_cases hm : s < e
                    · have m1 : decide (s < e) = true := decide_eq_true hm
                      rw [show min e s = s from by omega] at HR
                      have hse : s ≤ 274877906944 := by omega
                      clear hm
                      go_wp2_with fail
                      go_roundg kk
                      case measure => omega
                      case rel => exact Lib.hid ⟨k, s, rfl, rfl, hs0, hse, .inr ⟨k, rfl, by omega, by have := HKK.out; omega, HR.out⟩, HF.out⟩
                    · have m1 : decide (s < e) = false := decide_eq_false hm
                      rw [show min e s = e from by omega] at HR
                      clear hm
                      go_wp2_with fail
                      go_roundg kk
                      case measure => omega
                      case rel => exact Lib.hid ⟨k, e, rfl, rfl, h0, h1, .inr ⟨k, rfl, by omega, by have := HKK.out; omega, HR.out⟩, HF.out⟩
              · have l1 : decide ((4096 : Int) < q) = false := decide_eq_false hl
                rw [show max 4096 q = 4096 from by omega] at HZR
                clear hl
                by_cases hfit : 4096 ≤ e ∧ up ≤ e - 4096
                · have HR := Lib.hid (show roomF (pm P) up n e0 = some (e - up) from by rw [HZR.out]; exact if_pos hfit)
                  have d1 : decide ((4096 : Int) ≤ e) = true := decide_eq_true hfit.1
                  have d2 : decide (up ≤ e - 4096) = true := decide_eq_true hfit.2
                  have w5 : IntKind.u64.wrap (e - 4096) = e - 4096 := IntWalk.u64_in _ (by omega)
                  have w6 : IntKind.u64.wrap (e - up) = e - up := IntWalk.u64_in _ (by omega)
                  go_wp2_with fail
                  go_ret2
                  rw [HE2.out, HR.out]
                  exact ⟨rfl, HF.out⟩
                · have HR := Lib.hid (show roomF (pm P) up n e0 = roomF (pm P) up k (min e s) from by rw [HZR.out]; exact if_neg hfit)
                  by_cases d : 4096 ≤ e
                  · have d1 : decide ((4096 : Int) ≤ e) = true := decide_eq_true d
                    have d2 : decide (up ≤ e - 4096) = false := decide_eq_false (fun h => hfit ⟨d, h⟩)
                    have w5 : IntKind.u64.wrap (e - 4096) = e - 4096 := IntWalk.u64_in _ (by omega)
                    clear hfit
                    by_cases hm : s < e
                    · have m1 : decide (s < e) = true := decide_eq_true hm
                      rw [show min e s = s from by omega] at HR
                      have hse : s ≤ 274877906944 := by omega
                      clear hm
                      go_wp2_with fail
                      go_roundg kk
                      case measure => omega
                      case rel => exact Lib.hid ⟨k, s, rfl, rfl, hs0, hse, .inr ⟨k, rfl, by omega, by have := HKK.out; omega, HR.out⟩, HF.out⟩
                    · have m1 : decide (s < e) = false := decide_eq_false hm
                      rw [show min e s = e from by omega] at HR
                      clear hm
                      go_wp2_with fail
                      go_roundg kk
                      case measure => omega
                      case rel => exact Lib.hid ⟨k, e, rfl, rfl, h0, h1, .inr ⟨k, rfl, by omega, by have := HKK.out; omega, HR.out⟩, HF.out⟩
                  · have d1 : decide ((4096 : Int) ≤ e) = false := decide_eq_false d
                    clear hfit
                    by_cases hm : s < e
                    · have m1 : decide (s < e) = true := decide_eq_true hm
                      rw [show min e s = s from by omega] at HR
                      have hse : s ≤ 274877906944 := by omega
                      clear hm
                      go_wp2_with fail
                      go_roundg kk
                      case measure => omega
                      case rel => exact Lib.hid ⟨k, s, rfl, rfl, hs0, hse, .inr ⟨k, rfl, by omega, by have := HKK.out; omega, HR.out⟩, HF.out⟩
                    · have m1 : decide (s < e) = false := decide_eq_false hm
                      rw [show min e s = e from by omega] at HR
                      clear hm
                      go_wp2_with fail
                      go_roundg kk
                      case measure => omega
                      case rel => exact Lib.hid ⟨k, e, rfl, rfl, h0, h1, .inr ⟨k, rfl, by omega, by have := HKK.out; omega, HR.out⟩, HF.out⟩
end Go.Proofs.Ytnaiccgbjcppaaa.Rg
