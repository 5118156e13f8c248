/- The document's Refused, walked. -/
import Derived.Test.YtnoeehdccknhnaaStR
namespace Go.Proofs.Ytnoeehdccknhnaa.St
open Go Go.RowKit Go.Proofs.YtnoeehdccknhnaaW.PrintWords Go.Proofs.YtnoeehdccknhnaaW.PrintLast Go.Proofs.YtnoeehdccknhnaaW.PrintMore
open Go.Proofs.Ytnoeehdccknhnaa.Hp
attribute [local go_sem] max2_int min2_int max_two min_two max_three min_three max_four min_four
set_option linter.unusedVariables false
set_option linter.unusedSimpArgs false
def noZero (s : ByteArray) (j : Nat) : Prop := ∀ i : Nat, i < j → bt s i ≠ 0
theorem bad_of_zero {s : ByteArray} {j : Nat} (hj : j < s.size) (h : bt s j = 0) : bad s = true := by
  rw [bad_iff, List.any_eq_true]
  refine ⟨s[j], ?_, ?_⟩
  · rw [Array.mem_toList_iff]
    exact Array.getElem_mem (xs := s.data) hj
  · have e : ((s[j]).toNat : Int) = bt s j := bt_at s j hj
    rw [h] at e
    rw [beq_iff_eq]
    exact UInt8.toNat_inj.1 (by show (s[j]).toNat = 0; omega)
theorem good_of_all {s : ByteArray} (h : noZero s s.size) : bad s = false := by
  rw [bad_iff, List.any_eq_false]
  intro x hx
  obtain ⟨j, hj, rfl⟩ := List.getElem_of_mem hx
  have hj' : j < s.size := by
    have h1 := hj
    rw [Array.length_toList] at h1
    exact h1
  have e : ((s[j]'hj').toNat : Int) = bt s j := bt_at s j hj'
  have h2 := h j hj'
  intro e2
  rw [beq_iff_eq] at e2
  apply h2
  rw [← e]
  have e3 : s[j]'hj' = 0 := e2
  rw [e3]
  rfl
theorem chk_bad1 {a b : List ByteArray} (h : badL a = true) : chk [a, b] = 22 := by rw [chk_two, h]; rfl
theorem chk_bad2 {a b : List ByteArray} (h : badL b = true) : chk [a, b] = 22 := by rw [chk_two, h, Bool.or_true]; rfl
theorem chk_good {a b : List ByteArray} (h1 : badL a = false) (h2 : badL b = false) : chk [a, b] = if 256 < a.length + b.length ∨ 32768 < szOf a + szOf b then 7 else 0 := by rw [chk_two, h1, h2]; rfl
theorem badL_snoc {l : List ByteArray} {i : Nat} (hi : i < l.length) (h : badL (l.take i) = false) (hs : bad (rdS l i) = false) : badL (l.take (i + 1)) = false := by
  rw [take_snoc ByteArray.empty l i hi, badL, List.any_append, show (l.take i).any bad = false from h, show l.getD i ByteArray.empty = rdS l i from rfl]
  simp [hs]
def totOf (l1 l2 : List ByteArray) (k : Nat) : Nat := if k = 0 then 0 else if k = 1 then szOf l1 else szOf l1 + szOf l2
def AtK (l1 l2 : List ByteArray) (w : World) (v5 v6 : Value) (kq : Nat) (wr : World) : Prop := ∃ k : Nat, v6 = .int .i64 k ∧ k ≤ 2 ∧ 2 - k ≤ kq ∧ v5 = .int .i64 (totOf l1 l2 k : Nat) ∧ (1 ≤ k → badL l1 = false) ∧ (2 ≤ k → badL l2 = false) ∧ wr = w
def AtM (l : List ByteArray) (T : Nat) (w : World) (v5 v8 : Value) (kq : Nat) (wr : World) : Prop := ∃ i : Nat, v8 = .int .i64 i ∧ i ≤ l.length ∧ l.length - i ≤ kq ∧ v5 = .int .i64 (T + szOf (l.take i) : Nat) ∧ badL (l.take i) = false ∧ wr = w
def AtZ (s : ByteArray) (w : World) (v9 : Value) (kq : Nat) (wr : World) : Prop := ∃ j : Nat, v9 = .int .i64 j ∧ j ≤ s.size ∧ s.size - j ≤ kq ∧ noZero s j ∧ wr = w
set_option maxHeartbeats 8000000 in
theorem refused_any (A1 A2 : Option Addr) (c1 c2 : Nat) (l1 l2 : List ByteArray) (w : World) (h1 : Kd.string.C w A1 l1.length l1) (h2 : Kd.string.C w A2 l2.length l2) (hf : fitsAll l1 l2) :
    Calls Try.prog 9 #[.slice A1 l1.length c1, .slice A2 l2.length c2] w fun e w' => e = .returned (.int .i64 (chk [l1, l2])) ∧ w' = w := by
  have H1 := Lib.hid h1
  have H2 := Lib.hid h2
  have HF := Lib.hid hf
  obtain ⟨n1, hn1⟩ : ∃ n, l1.length = n := ⟨_, rfl⟩
  obtain ⟨n2, hn2⟩ : ∃ n, l2.length = n := ⟨_, rfl⟩
  have HN1 := Lib.hid hn1
  have HN2 := Lib.hid hn2
  rw [hn1] at H1 ⊢
  rw [hn2] at H2 ⊢
  clear h1 h2 hf hn1 hn2
  go_enter Try.func9, Try.ntmps9
  go_wp2_with fail
  go_loopg [5, 6] 2 (fun kq v5 v6 wr => Hid (AtK l1 l2 w v5 v6 kq wr))
  case atStart => exact Lib.hid ⟨0, rfl, by omega, by omega, rfl, fun h => absurd h (by decide), fun h => absurd h (by decide), rfl⟩
  case round =>
    obtain ⟨k, rfl, hk1, hk2, rfl, hb1, hb2, rfl⟩ := hrel.out
    clear hrel
    have hcases : k = 0 ∨ k = 1 ∨ k = 2 := by omega
    rcases hcases with rfl | rfl | rfl
    · have HB1 := Lib.hid hb1
      obtain ⟨T, hT⟩ : ∃ T, totOf l1 l2 0 = T := ⟨_, rfl⟩
      have HT := Lib.hid hT
      have HTB := Lib.hid (show T + szOf l1 ≤ 1152921504606846976 from by rw [← hT]; have e := HF.out; unfold fitsAll at e; unfold totOf; simp; omega)
      have HTS := Lib.hid (show totOf l1 l2 1 = T + szOf l1 from by rw [← hT]; simp [totOf])
      rw [hT]
      clear hT hb1 hb2
      have hnx : n1 ≤ 1152921504606846976 := by have e := HF.out; unfold fitsAll at e; rw [HN1.out, HN2.out] at e; omega
      go_wp2_with fail
      go_loopg [5, 8] n1 (fun kq v5 v8 wr2 => Hid (AtM l1 T wr v5 v8 kq wr2))
      case atStart => exact Lib.hid ⟨0, rfl, by omega, by rw [HN1.out]; omega, by simp [szOf], by simp [badL], rfl⟩
      case round =>
        obtain ⟨i, rfl, hi1, hi2, rfl, hb, rfl⟩ := hrel.out
        have HBI := Lib.hid hb
        rw [HN1.out] at hi1 hi2
        clear hrel hb
        by_cases hi : i < n1
        · have u1 : decide ((i : Int) < (n1 : Int)) = true := decide_eq_true (by omega)
          have u1' : decide (i < n1) = true := decide_eq_true hi
          have j0 : (0 : Int) ≤ (i : Int) := by omega
          have j1 : (i : Int) < (n1 : Int) := by omega
          have HIL := Lib.hid (show i < l1.length from by rw [HN1.out]; exact hi)
          obtain ⟨ad2, e2, hx2⟩ := at_S H1.out i hi
          subst e2
          have HST := Lib.hid (show T + szOf (l1.take (i + 1)) = T + szOf (l1.take i) + ((rdS l1 i).size + 1) from by rw [take_snoc ByteArray.empty l1 i HIL.out, szOf_snoc]; show T + (szOf _ + ((rdS l1 i).size + 1)) = _; omega)
          have HSL := Lib.hid (szOf_take l1 (i + 1))
          obtain ⟨s, hs1⟩ : ∃ s, rdS l1 i = s := ⟨_, rfl⟩
          have HSI := Lib.hid hs1
          rw [hs1] at hx2 HST
          clear hs1
          obtain ⟨T1, hT1⟩ : ∃ t, T + szOf (l1.take i) = t := ⟨_, rfl⟩
          rw [hT1] at HST ⊢
          clear hT1
          have hb3 : T1 + (s.size + 1) ≤ 1152921504606846976 := by
            have e1 := HST.out
            have e2 := HSL.out
            have e3 := HTB.out
            omega
          have hw1 : IntKind.i64.wrap ((T1 : Int) + (s.size : Int)) = (T1 : Int) + (s.size : Int) := IntWalk.i64_in _ (by omega)
          have hw2 : IntKind.i64.wrap ((T1 : Int) + (s.size : Int) + 1) = (T1 : Int) + (s.size : Int) + 1 := IntWalk.i64_in _ (by omega)
          obtain ⟨z, hz⟩ : ∃ z, s.size = z := ⟨_, rfl⟩
          have HZ := Lib.hid hz
          rw [hz] at hw1 hw2 hb3 HST
          go_wp2_with fail
          go_loopg [9] z (fun kq v9 wr2 => Hid (AtZ s wr v9 kq wr2))
          case atStart => exact Lib.hid ⟨0, rfl, by omega, by rw [HZ.out]; omega, fun i hi => absurd hi (by omega), rfl⟩
          case round =>
            obtain ⟨j, rfl, hj1, hj2, hnz, rfl⟩ := hrel.out
            have HNZ := Lib.hid hnz
            rw [HZ.out] at hj1 hj2
            clear hrel hnz
            by_cases hj : j < z
            · have v1 : decide ((j : Int) < (z : Int)) = true := decide_eq_true (by omega)
              have v1' : decide (j < z) = true := decide_eq_true hj
              have k0 : (0 : Int) ≤ (j : Int) := by omega
              have k1 : (j : Int) < (s.size : Int) := by rw [hz]; omega
              have k2 : j < s.size := by rw [hz]; exact hj
              have k3 := bt_at s (j : Int)
              rw [Int.toNat_natCast] at k3
              obtain ⟨b, hb⟩ : ∃ b, bt s (j : Int) = b := ⟨_, rfl⟩
              have HBJ := Lib.hid hb
              rw [hb] at k3
              clear hb
              by_cases hb0 : b = 0
              · have m1 : (b == 0) = true := beq_iff_eq.2 hb0
                have hbad := bad_of_zero k2 (HBJ.out.trans hb0)
                have HBAD := Lib.hid (show badL l1 = true from any_get ByteArray.empty i HIL.out (by rw [show l1.getD i ByteArray.empty = s from HSI.out]; exact hbad))
                clear hbad
                go_wp2_with fail
                go_ret
                rw [chk_bad1 HBAD.out]
                exact ⟨rfl, rfl⟩
              · have m1 : (b == 0) = false := beq_eq_false_iff_ne.2 hb0
                go_wp2_with fail
                go_roundg (z - (j + 1))
                case measure => omega
                case rel =>
                  refine Lib.hid ⟨j + 1, by go_num, by rw [HZ.out]; omega, by rw [HZ.out]; omega, fun q hq => ?_, rfl⟩
                  rcases Nat.lt_succ_iff_lt_or_eq.1 hq with h | rfl
                  · exact HNZ.out q h
                  · rw [HBJ.out]; exact hb0
            · obtain rfl : j = z := by omega
              have v1 : decide ((j : Int) < (j : Int)) = false := decide_eq_false (by omega)
              have HGOOD := Lib.hid (good_of_all (by rw [HZ.out]; exact HNZ.out))
              go_wp2_with fail
              go_roundg (n1 - (i + 1))
              case measure => omega
              case rel => exact Lib.hid ⟨i + 1, by go_num, by rw [HN1.out]; omega, by rw [HN1.out]; omega, by rw [HST.out]; go_num, badL_snoc HIL.out HBI.out (by rw [HSI.out]; exact HGOOD.out), rfl⟩
        · obtain rfl : i = n1 := by omega
          have u1 : decide ((i : Int) < (i : Int)) = false := decide_eq_false (by omega)
          rw [show l1.take i = l1 from List.take_of_length_le (by rw [HN1.out]; exact Nat.le_refl _)] at HBI ⊢
          rw [← HTS.out]
          go_wp2_with fail
          go_roundg (2 - 1)
          case measure => omega
          case rel => exact Lib.hid ⟨1, rfl, by omega, by omega, rfl, fun _ => HBI.out, fun h => absurd h (by decide), rfl⟩
    · have HB1 := Lib.hid hb1
      obtain ⟨T, hT⟩ : ∃ T, totOf l1 l2 1 = T := ⟨_, rfl⟩
      have HT := Lib.hid hT
      have HTB := Lib.hid (show T + szOf l2 ≤ 1152921504606846976 from by rw [← hT]; have e := HF.out; unfold fitsAll at e; unfold totOf; simp; omega)
      have HTS := Lib.hid (show totOf l1 l2 2 = T + szOf l2 from by rw [← hT]; simp [totOf])
      rw [hT]
      clear hT hb1 hb2
      have hnx : n2 ≤ 1152921504606846976 := by have e := HF.out; unfold fitsAll at e; rw [HN1.out, HN2.out] at e; omega
      go_wp2_with fail
      go_loopg [5, 8] n2 (fun kq v5 v8 wr2 => Hid (AtM l2 T wr v5 v8 kq wr2))
      case atStart => exact Lib.hid ⟨0, rfl, by omega, by rw [HN2.out]; omega, by simp [szOf], by simp [badL], rfl⟩
      case round =>
        obtain ⟨i, rfl, hi1, hi2, rfl, hb, rfl⟩ := hrel.out
        have HBI := Lib.hid hb
        rw [HN2.out] at hi1 hi2
        clear hrel hb
        by_cases hi : i < n2
        · have u1 : decide ((i : Int) < (n2 : Int)) = true := decide_eq_true (by omega)
          have u1' : decide (i < n2) = true := decide_eq_true hi
          have j0 : (0 : Int) ≤ (i : Int) := by omega
          have j1 : (i : Int) < (n2 : Int) := by omega
          have HIL := Lib.hid (show i < l2.length from by rw [HN2.out]; exact hi)
          obtain ⟨ad2, e2, hx2⟩ := at_S H2.out i hi
          subst e2
          have HST := Lib.hid (show T + szOf (l2.take (i + 1)) = T + szOf (l2.take i) + ((rdS l2 i).size + 1) from by rw [take_snoc ByteArray.empty l2 i HIL.out, szOf_snoc]; show T + (szOf _ + ((rdS l2 i).size + 1)) = _; omega)
          have HSL := Lib.hid (szOf_take l2 (i + 1))
          obtain ⟨s, hs1⟩ : ∃ s, rdS l2 i = s := ⟨_, rfl⟩
          have HSI := Lib.hid hs1
          rw [hs1] at hx2 HST
          clear hs1
          obtain ⟨T1, hT1⟩ : ∃ t, T + szOf (l2.take i) = t := ⟨_, rfl⟩
          rw [hT1] at HST ⊢
          clear hT1
          have hb3 : T1 + (s.size + 1) ≤ 1152921504606846976 := by
            have e1 := HST.out
            have e2 := HSL.out
            have e3 := HTB.out
            omega
          have hw1 : IntKind.i64.wrap ((T1 : Int) + (s.size : Int)) = (T1 : Int) + (s.size : Int) := IntWalk.i64_in _ (by omega)
          have hw2 : IntKind.i64.wrap ((T1 : Int) + (s.size : Int) + 1) = (T1 : Int) + (s.size : Int) + 1 := IntWalk.i64_in _ (by omega)
          obtain ⟨z, hz⟩ : ∃ z, s.size = z := ⟨_, rfl⟩
          have HZ := Lib.hid hz
          rw [hz] at hw1 hw2 hb3 HST
          go_wp2_with fail
          go_loopg [9] z (fun kq v9 wr2 => Hid (AtZ s wr v9 kq wr2))
          case atStart => exact Lib.hid ⟨0, rfl, by omega, by rw [HZ.out]; omega, fun i hi => absurd hi (by omega), rfl⟩
          case round =>
            obtain ⟨j, rfl, hj1, hj2, hnz, rfl⟩ := hrel.out
            have HNZ := Lib.hid hnz
            rw [HZ.out] at hj1 hj2
            clear hrel hnz
            by_cases hj : j < z
            · have v1 : decide ((j : Int) < (z : Int)) = true := decide_eq_true (by omega)
              have v1' : decide (j < z) = true := decide_eq_true hj
              have k0 : (0 : Int) ≤ (j : Int) := by omega
              have k1 : (j : Int) < (s.size : Int) := by rw [hz]; omega
              have k2 : j < s.size := by rw [hz]; exact hj
              have k3 := bt_at s (j : Int)
              rw [Int.toNat_natCast] at k3
              obtain ⟨b, hb⟩ : ∃ b, bt s (j : Int) = b := ⟨_, rfl⟩
              have HBJ := Lib.hid hb
              rw [hb] at k3
              clear hb
              by_cases hb0 : b = 0
              · have m1 : (b == 0) = true := beq_iff_eq.2 hb0
                have hbad := bad_of_zero k2 (HBJ.out.trans hb0)
                have HBAD := Lib.hid (show badL l2 = true from any_get ByteArray.empty i HIL.out (by rw [show l2.getD i ByteArray.empty = s from HSI.out]; exact hbad))
                clear hbad
                go_wp2_with fail
                go_ret
                rw [chk_bad2 HBAD.out]
                exact ⟨rfl, rfl⟩
              · have m1 : (b == 0) = false := beq_eq_false_iff_ne.2 hb0
                go_wp2_with fail
                go_roundg (z - (j + 1))
                case measure => omega
                case rel =>
                  refine Lib.hid ⟨j + 1, by go_num, by rw [HZ.out]; omega, by rw [HZ.out]; omega, fun q hq => ?_, rfl⟩
                  rcases Nat.lt_succ_iff_lt_or_eq.1 hq with h | rfl
                  · exact HNZ.out q h
                  · rw [HBJ.out]; exact hb0
            · obtain rfl : j = z := by omega
              have v1 : decide ((j : Int) < (j : Int)) = false := decide_eq_false (by omega)
              have HGOOD := Lib.hid (good_of_all (by rw [HZ.out]; exact HNZ.out))
              go_wp2_with fail
              go_roundg (n2 - (i + 1))
              case measure => omega
              case rel => exact Lib.hid ⟨i + 1, by go_num, by rw [HN2.out]; omega, by rw [HN2.out]; omega, by rw [HST.out]; go_num, badL_snoc HIL.out HBI.out (by rw [HSI.out]; exact HGOOD.out), rfl⟩
        · obtain rfl : i = n2 := by omega
          have u1 : decide ((i : Int) < (i : Int)) = false := decide_eq_false (by omega)
          rw [show l2.take i = l2 from List.take_of_length_le (by rw [HN2.out]; exact Nat.le_refl _)] at HBI ⊢
          rw [← HTS.out]
          go_wp2_with fail
          go_roundg (2 - 2)
          case measure => omega
          case rel => exact Lib.hid ⟨2, rfl, by omega, by omega, rfl, fun _ => HB1.out (by decide), fun _ => HBI.out, rfl⟩
    · have HB1 := Lib.hid (hb1 (by decide))
      have HB2 := Lib.hid (hb2 (by decide))
      have HT := Lib.hid (show totOf l1 l2 2 = szOf l1 + szOf l2 from rfl)
      obtain ⟨T, hT⟩ : ∃ T, totOf l1 l2 2 = T := ⟨_, rfl⟩
      rw [hT] at HT ⊢
      have hff := HF.out
      unfold fitsAll at hff
      rw [HN1.out, HN2.out, ← HT.out] at hff
      have f1 : IntKind.i64.wrap ((n1 : Int) + (n2 : Int)) = (n1 : Int) + (n2 : Int) := IntWalk.i64_in _ (by omega)
      have HCH := Lib.hid (chk_good HB1.out HB2.out)
      rw [HN1.out, HN2.out, ← HT.out] at HCH
      clear hT hb1 hb2
      by_cases g1 : 256 < n1 + n2
      · have d1 : decide ((256 : Int) < (n1 : Int) + (n2 : Int)) = true := decide_eq_true (by omega)
        go_wp2_with fail
        go_ret
        rw [HCH.out, if_pos (.inl g1)]
        exact ⟨rfl, rfl⟩
      · have d1 : decide ((256 : Int) < (n1 : Int) + (n2 : Int)) = false := decide_eq_false (by omega)
        by_cases g2 : 32768 < T
        · have d2 : decide ((32768 : Int) < (T : Int)) = true := decide_eq_true (by omega)
          have d2' : decide (32768 < T) = true := decide_eq_true g2
          go_wp2_with fail
          go_ret
          rw [HCH.out, if_pos (.inr g2)]
          exact ⟨rfl, rfl⟩
        · have d2 : decide ((32768 : Int) < (T : Int)) = false := decide_eq_false (by omega)
          have d2' : decide (32768 < T) = false := decide_eq_false g2
          go_wp2_with fail
          go_ret
          rw [HCH.out, if_neg (by omega)]
          exact ⟨rfl, rfl⟩
end Go.Proofs.Ytnoeehdccknhnaa.St
