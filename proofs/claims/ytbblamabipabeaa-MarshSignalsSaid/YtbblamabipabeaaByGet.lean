/- The contract of word.Get, walked: for every slice of bytes. -/
import Derived.Test.YtbblamabipabeaaBy
namespace Go.Proofs.Ytbblamabipabeaa.By
open Go Go.RowKit Go.Proofs.YtbblamabipabeaaW.PrintWords Go.Proofs.YtbblamabipabeaaW.PrintLast Go.Proofs.YtbblamabipabeaaW.PrintMore
open Go.Proofs.Ytbblamabipabeaa.Bv
attribute [local go_sem] max2_int min2_int max_two min_two max_three min_three max_four min_four
set_option linter.unusedVariables false
set_option linter.unusedSimpArgs false
set_option maxHeartbeats 1000000 in
theorem get_in (A : Option Addr) (c : Nat) (l : List Int) (n : Nat) (w : World) (hr : Kd.C (Kd.int .u8) w A l.length l) (hc : l.length ≤ c) (hb : bytes l) (h1 : 1 ≤ n) (h2 : n ≤ 8) :
    Calls Try.prog 30 #[.slice A l.length c, .int .i64 (n : Int)] w fun e w' => e = .returned (.int .u64 (le (l.take n))) ∧ Drawn0 w w' := by
  have b1 : decide ((n : Int) < 1) = false := decide_eq_false (by omega)
  have b2 : decide (8 < (n : Int)) = false := decide_eq_false (by omega)
  have HR := Lib.hid hr
  obtain ⟨m, hm1, hm2, hm3, hm4⟩ : ∃ m : Nat, m ≤ l.length ∧ m ≤ n ∧ (n ≤ l.length → m = n) ∧ (l.length < n → m = l.length) := by
    by_cases h : n ≤ l.length
    · exact ⟨n, h, by omega, fun _ => rfl, fun h' => by omega⟩
    · exact ⟨l.length, by omega, by omega, fun h' => by omega, fun _ => rfl⟩
  have htk : l.take m = l.take n := by
    by_cases h : n ≤ l.length
    · rw [hm3 h]
    · rw [hm4 (by omega), List.take_of_length_le (by omega), List.take_of_length_le (by omega)]
  have HT := Lib.hid htk
  clear htk
  by_cases hlt : (l.length : Int) < n
  · have e := hm4 (by omega)
    subst e
    clear hm3 hm4
    have hcut := fun W => cut_to A c l.length l.length (Nat.le_refl _) hc W
    clear hr hc
    go_enter Try.func30, Try.ntmps30
    go_wp2
    go_loopw [5, 21] (fun x i wr => ∃ k : Nat, k ≤ l.length ∧ i = .int .i64 k ∧ x = .int .u64 (le (l.take k)) ∧ Drawn0 w wr) (fun _ i _ => l.length - (intOf i).toNat)
    case atStart => exact ⟨0, by omega, rfl, rfl, Drawn0.refl _⟩
    case round =>
      obtain ⟨k, hk, rfl, rfl, nd, rfl⟩ := hrel
      by_cases hkm : k < l.length
      · have hby := rd_byte l k (by omega) hb
        have hst := Lib.hid (le_step l k (by omega) (by omega) hb)
        obtain ⟨ad, e124, hx⟩ := Kd.at_int HR.out (k : Int) (by omega) (by omega)
        cases e124
        rw [Int.toNat_natCast] at hx
        clear hcut
        go_wp2
        go_roundw
        case rel => exact ⟨k + 1, by omega, by go_num, by rw [← hst.out.1], by repeat (first | exact Drawn0.refl _ | apply Drawn0.step)⟩
        case measure => simp [intOf]; omega
      · obtain rfl : k = l.length := by omega
        clear hcut
        go_wp2
        go_ret
        exact ⟨ret_u64 (by first | rfl | rw [HT.out]), ⟨nd, rfl⟩⟩
  · have e := hm3 (by omega)
    subst e
    clear hm3 hm4
    have hcut := fun W => cut_to A c l.length m hm1 hc W
    clear hr hc
    go_enter Try.func30, Try.ntmps30
    go_wp2
    go_loopw [5, 21] (fun x i wr => ∃ k : Nat, k ≤ m ∧ i = .int .i64 k ∧ x = .int .u64 (le (l.take k)) ∧ Drawn0 w wr) (fun _ i _ => m - (intOf i).toNat)
    case atStart => exact ⟨0, by omega, rfl, rfl, Drawn0.refl _⟩
    case round =>
      obtain ⟨k, hk, rfl, rfl, nd, rfl⟩ := hrel
      by_cases hkm : k < m
      · have hby := rd_byte l k (by omega) hb
        have hst := Lib.hid (le_step l k (by omega) (by omega) hb)
        obtain ⟨ad, e124, hx⟩ := Kd.at_int HR.out (k : Int) (by omega) (by omega)
        cases e124
        rw [Int.toNat_natCast] at hx
        clear hcut
        go_wp2
        go_roundw
        case rel => exact ⟨k + 1, by omega, by go_num, by rw [← hst.out.1], by repeat (first | exact Drawn0.refl _ | apply Drawn0.step)⟩
        case measure => simp [intOf]; omega
      · obtain rfl : k = m := by omega
        clear hcut
        go_wp2
        go_ret
        exact ⟨rfl, ⟨nd, rfl⟩⟩
theorem get_out (A : Option Addr) (c m : Nat) (n : Int) (w : World) (h : n < 1 ∨ 8 < n) :
    Calls Try.prog 30 #[.slice A m c, .int .i64 n] w fun e w' => e = .returned (.int .u64 0) ∧ Drawn0 w w' := by
  rcases h with h | h
  · have b1 : decide (n < 1) = true := decide_eq_true h
    go_enter Try.func30, Try.ntmps30
    go_wp2
    go_ret
    exact ⟨rfl, Drawn0.refl _⟩
  · have b1 : decide (n < 1) = false := decide_eq_false (by omega)
    have b2 : decide (8 < n) = true := decide_eq_true h
    go_enter Try.func30, Try.ntmps30
    go_wp2
    go_ret
    exact ⟨rfl, Drawn0.refl _⟩
theorem get_any (A : Option Addr) (c : Nat) (l : List Int) (n : Int) (w : World) (hr : Kd.C (Kd.int .u8) w A l.length l) (hc : l.length ≤ c) (hb : bytes l) :
    Calls Try.prog 30 #[.slice A l.length c, .int .i64 n] w fun e w' => e = .returned (.int .u64 (getv l n)) ∧ Drawn0 w w' := by
  unfold getv
  by_cases h : 1 ≤ n ∧ n ≤ 8
  · rw [if_pos h]
    obtain ⟨m, rfl⟩ := Int.eq_ofNat_of_zero_le (show 0 ≤ n by omega)
    exact get_in A c l m w hr hc hb (by omega) (by omega)
  · rw [if_neg h]
    exact get_out A c l.length n w (by omega)

end Go.Proofs.Ytbblamabipabeaa.By
