/- The contract of the document's Get, walked: for every slice of bytes. -/
import Derived.Test.YtnoeehdccknhnaaBy
namespace Go.Proofs.Ytnoeehdccknhnaa.By
open Go Go.RowKit Go.Proofs.YtnoeehdccknhnaaW.PrintWords Go.Proofs.YtnoeehdccknhnaaW.PrintLast Go.Proofs.YtnoeehdccknhnaaW.PrintMore
open Go.Proofs.Ytnoeehdccknhnaa.Bv
attribute [local go_sem] max2_int min2_int max_two min_two max_three min_three max_four min_four
set_option linter.unusedVariables false
set_option linter.unusedSimpArgs false
set_option maxHeartbeats 1000000 in
theorem rget_in (A : Option Addr) (c : Nat) (l : List Int) (n : Nat) (w : World) (hr : Kd.C (Kd.int .u8) w A l.length l) (hb : bytes l) (h1 : 1 ≤ n) (h2 : n ≤ 8) :
    Calls Try.prog 22 #[.slice A l.length c, .int .i64 (n : Int)] w fun e w' => e = .returned (.int .u64 (le (l.take n))) ∧ Drawn0 w w' := by
  have b1 : decide ((n : Int) < 1) = false := decide_eq_false (by omega)
  have b2 : decide (8 < (n : Int)) = false := decide_eq_false (by omega)
  have HR := Lib.hid hr
  have hlen := Kd.C_max hr
  clear hr
  go_enter Try.func22, Try.ntmps22
  go_wp2
  go_loopw [5, 6] (fun x i wr => ∃ k : Nat, k ≤ n ∧ k ≤ l.length ∧ i = .int .i64 k ∧ x = .int .u64 (le (l.take k)) ∧ Drawn0 w wr) (fun _ i _ => n - (intOf i).toNat)
  case atStart => exact ⟨0, by omega, by omega, rfl, rfl, Drawn0.refl _⟩
  case round =>
    obtain ⟨k, hk, hk2, rfl, rfl, nd, rfl⟩ := hrel
    by_cases hkn : k < n
    · by_cases hkl : k < l.length
      · have hby := rd_byte l k (by omega) hb
        have hst := Lib.hid (le_step l k (by omega) (by omega) hb)
        obtain ⟨ad, e124, hx⟩ := Kd.at_int HR.out (k : Int) (by omega) (by omega)
        cases e124
        rw [Int.toNat_natCast] at hx
        have t1 : decide ((k : Int) < n) = true := decide_eq_true (by omega)
        have t2 : decide (k < l.length) = true := decide_eq_true hkl
        go_wp2
        go_roundw
        case rel => exact ⟨k + 1, by omega, by omega, by go_num, by rw [← hst.out.2], by repeat (first | exact Drawn0.refl _ | apply Drawn0.step)⟩
        case measure => simp [intOf]; omega
      · have HT := Lib.hid (show l.take k = l.take n by rw [List.take_of_length_le (by omega), List.take_of_length_le (by omega)])
        have t1 : decide ((k : Int) < n) = true := decide_eq_true (by omega)
        have t2 : decide (k < l.length) = false := decide_eq_false hkl
        go_wp2
        go_ret
        exact ⟨ret_u64 (by rw [HT.out]), ⟨nd, rfl⟩⟩
    · obtain rfl : k = n := by omega
      have t1 : decide ((k : Int) < k) = false := decide_eq_false (by omega)
      go_wp2
      go_ret
      exact ⟨rfl, ⟨nd, rfl⟩⟩
theorem rget_out (A : Option Addr) (c m : Nat) (n : Int) (w : World) (h : n < 1 ∨ 8 < n) :
    Calls Try.prog 22 #[.slice A m c, .int .i64 n] w fun e w' => e = .returned (.int .u64 0) ∧ Drawn0 w w' := by
  rcases h with h | h
  · have b1 : decide (n < 1) = true := decide_eq_true h
    go_enter Try.func22, Try.ntmps22
    go_wp2
    go_ret
    exact ⟨rfl, Drawn0.refl _⟩
  · have b1 : decide (n < 1) = false := decide_eq_false (by omega)
    have b2 : decide (8 < n) = true := decide_eq_true h
    go_enter Try.func22, Try.ntmps22
    go_wp2
    go_ret
    exact ⟨rfl, Drawn0.refl _⟩
theorem rget_any (A : Option Addr) (c : Nat) (l : List Int) (n : Int) (w : World) (hr : Kd.C (Kd.int .u8) w A l.length l) (hb : bytes l) :
    Calls Try.prog 22 #[.slice A l.length c, .int .i64 n] w fun e w' => e = .returned (.int .u64 (getv l n)) ∧ Drawn0 w w' := by
  unfold getv
  by_cases h : 1 ≤ n ∧ n ≤ 8
  · rw [if_pos h]
    obtain ⟨m, rfl⟩ := Int.eq_ofNat_of_zero_le (show 0 ≤ n by omega)
    exact rget_in A c l m w hr hb (by omega) (by omega)
  · rw [if_neg h]
    exact rget_out A c l.length n w (by omega)

end Go.Proofs.Ytnoeehdccknhnaa.By
