/- The contracts of the document's bit and of its Sext, walked: for every word and every width from 1 to 64. -/
import Derived.Test.YtdjgjedmbgnjbaaPWordStepsx1
import Derived.Test.YtdjgjedmbgnjbaaPWordQuotientsx1
import Derived.Test.YtdjgjedmbgnjbaaBv
import Derived.Lib.Hide
namespace Go.Proofs.Ytdjgjedmbgnjbaa.SgHand
open Go Go.RowKit Go.Proofs.YtdjgjedmbgnjbaaW.PrintWords Go.Proofs.YtdjgjedmbgnjbaaW.PrintLast Go.Proofs.YtdjgjedmbgnjbaaW.PrintMore
open Go.Proofs.Ytdjgjedmbgnjbaa.Bv
def bt1 (x : BitVec 64) (k : Nat) : BitVec 64 := (x >>> k) &&& 1#64
def part (x : BitVec 64) (n : Nat) : Nat → BitVec 64
  | 0 => 0#64
  | i + 1 => part x n i ||| (bt1 x (min i (n - 1)) <<< i)
theorem bt1_val (x : BitVec 64) (k : Nat) : Int.tmod (U x / 2 ^ k) 2 = U (bt1 x k) := by
  have h0 : 0 ≤ U x / 2 ^ k := Int.ediv_nonneg (U_nonneg x) (Int.pow_nonneg (by decide))
  rw [Int.tmod_eq_emod_of_nonneg h0]
  unfold bt1 U
  rw [BitVec.toNat_and, BitVec.toNat_ushiftRight, Nat.shiftRight_eq_div_pow]
  show _ = ((x.toNat / 2 ^ k &&& 1 : Nat) : Int)
  rw [Nat.and_one_is_mod]
  simp
theorem bit_any (x : BitVec 64) (k : Int) (h0 : 0 ≤ k) (h1 : k ≤ 63) (w : World) : Calls Try.prog 39 #[.int .u64 (U x), .int .i64 k] w fun e w' => e = .returned (.int .u64 (U (bt1 x k.toNat))) ∧ Drawn0 w w' := by
  refine PWordQuotients.marionetteref01_bit.calls (U x) k _ w ?_
  unfold PWordQuotients.marionetteref01_bit.f
  rw [wrap_in h0 (by omega), if_pos h0, ← bt1_val]
  congr 2
  show U x / 2 ^ min k.toNat 64 = _
  rw [Nat.min_eq_left (by omega)]
set_option maxHeartbeats 1000000 in
theorem rsext_in (x : BitVec 64) (n : Nat) (h1 : 1 ≤ n) (h2 : n ≤ 64) (w : World) :
    Calls Try.prog 16 #[.int .u64 (U x), .int .i64 (n : Int)] w fun e w' => e = .returned (.int .u64 (U (part x n 64))) ∧ Drawn0 w w' := by
  have b1 : decide ((n : Int) < 1) = false := decide_eq_false (by omega)
  have b2 : decide (64 < (n : Int)) = false := decide_eq_false (by omega)
  go_enter Try.func16, Try.ntmps16
  go_wp2
  go_loopw [5, 6, 7] (fun o i _ wr => ∃ k : Nat, k ≤ 64 ∧ i = .int .i64 k ∧ o = .int .u64 (U (part x n k)) ∧ Drawn0 w wr) (fun _ i _ _ => 64 - (intOf i).toNat)
  case atStart => exact ⟨0, by omega, rfl, rfl, Drawn0.refl _⟩
  case round =>
    obtain ⟨k, hk, rfl, rfl, hd⟩ := hrel
    obtain ⟨nd, rfl⟩ := hd
    have hp : part x n (k + 1) = part x n k ||| (bt1 x (min k (n - 1)) <<< k) := rfl
    have HP := Lib.hid hp
    clear hp
    by_cases hlt : k < 64
    · by_cases hc : n - 1 < k
      · go_wp2_with (go_at_call 39; refine (bit_any x _ (by omega) (by omega) _).mono ?_; rintro e w' ⟨rfl, ⟨m, rfl⟩⟩)
        go_roundw
        case rel => exact ⟨k + 1, by omega, by go_num, by rw [HP.out, Nat.min_eq_right (by omega), shl_U', or_U], by repeat (first | exact Drawn0.refl _ | apply Drawn0.step)⟩
        case measure => simp [intOf]; omega
      · go_wp2_with (go_at_call 39; refine (bit_any x _ (by omega) (by omega) _).mono ?_; rintro e w' ⟨rfl, ⟨m, rfl⟩⟩)
        go_roundw
        case rel => exact ⟨k + 1, by omega, by go_num, by rw [HP.out, Nat.min_eq_left (by omega), shl_U', or_U], by repeat (first | exact Drawn0.refl _ | apply Drawn0.step)⟩
        case measure => simp [intOf]; omega
    · go_wp2
      go_ret
      obtain rfl : k = 64 := by omega
      exact ⟨rfl, ⟨nd, rfl⟩⟩
end Go.Proofs.Ytdjgjedmbgnjbaa.SgHand
