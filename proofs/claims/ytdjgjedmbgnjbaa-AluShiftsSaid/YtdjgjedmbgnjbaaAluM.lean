/- The law AluShifts, walked out of alu.Do at their operators. No further condition. -/
import Derived.Test.YtdjgjedmbgnjbaaAluL
namespace Go.Proofs.Ytdjgjedmbgnjbaa.Alu
open Go Go.RowKit Go.Proofs.YtdjgjedmbgnjbaaW.PrintWords Go.Proofs.YtdjgjedmbgnjbaaW.PrintLast Go.Proofs.YtdjgjedmbgnjbaaW.PrintMore
open Go.Proofs.Ytdjgjedmbgnjbaa.Bv
set_option linter.unusedVariables false
set_option linter.unusedSimpArgs false
theorem back (a : BitVec 64) (s : Nat) : (a <<< s >>> s) <<< s = a <<< s := by
  apply BitVec.eq_of_getLsbD_eq
  intro i hi
  rw [BitVec.getLsbD_shiftLeft, BitVec.getLsbD_ushiftRight, BitVec.getLsbD_shiftLeft, BitVec.getLsbD_shiftLeft]
  by_cases h : i < s
  · simp [h]
  · rw [show s + (i - s) = i by omega]; simp [h]
theorem half_q (a : BitVec 64) (s : Nat) (h : s < 64) : qu a (1#64 <<< s) = a >>> s := by
  have h2 : 2 ^ s < 2 ^ 64 := Nat.pow_lt_pow_right (by decide) h
  have h1 : (1#64 <<< s).toNat = 2 ^ s := by
    rw [BitVec.toNat_shiftLeft, Nat.shiftLeft_eq, BitVec.toNat_ofNat, Nat.mod_eq_of_lt (a := 1) (by decide), Nat.one_mul, Nat.mod_eq_of_lt h2]
  unfold qu
  rw [if_neg]
  · apply BitVec.eq_of_toNat_eq
    rw [BitVec.toNat_udiv, h1, BitVec.toNat_ushiftRight, Nat.shiftRight_eq_div_pow]
  · intro e
    have := congrArg BitVec.toNat e
    rw [h1] at this
    have h3 := Nat.two_pow_pos s
    rw [this] at h3
    exact absurd h3 (by decide)
theorem down_le (x : BitVec 64) (s : Nat) : decide (U (x >>> s) ≤ (18446744073709551615 : Int) / 2 ^ s) = true := by
  rw [ones, shr_U', decide_eq_true_eq]
  unfold U
  rw [BitVec.toNat_ushiftRight, BitVec.toNat_ushiftRight, Nat.shiftRight_eq_div_pow, Nat.shiftRight_eq_div_pow]
  have : x.toNat / 2 ^ s ≤ (BitVec.allOnes 64).toNat / 2 ^ s := Nat.div_le_div_right (by rw [BitVec.toNat_allOnes]; have := x.isLt; omega)
  omega
set_option maxHeartbeats 2000000 in
theorem shifts_law (a n : BitVec 64) (w : World) : Calls Try.prog 8 #[.int .u64 (U a), .int .u64 (U n)] w fun e w' => e = .returned (.bool true) ∧ Drawn0 w w' := by
  have hs : n.toNat % 64 < 64 := Nat.mod_lt _ (by decide)
  have hk := U_64 n
  have h1 := do_33 a n
  have h2 := do_37 (a <<< (n.toNat % 64)) n
  have h3 := do_33 (a <<< (n.toNat % 64) >>> (n.toNat % 64)) n
  have h4 := do_37 a n
  have h5 := do_55 a (1#64 <<< (n.toNat % 64))
  rw [back] at h3
  rw [half_q _ _ hs] at h5
  have hd := down_le (a <<< (n.toNat % 64)) (n.toNat % 64)
  have h1s := shl_U' 1#64 (n.toNat % 64)
  rw [show U 1#64 = 1 from rfl, Int.one_mul] at h1s
  generalize n.toNat % 64 = s at *
  have h1 := Lib.hid h1
  have h2 := Lib.hid h2
  have h3 := Lib.hid h3
  have h4 := Lib.hid h4
  have h5 := Lib.hid h5
  generalize a <<< s >>> s = d at *
  generalize a <<< s = u at *
  generalize a >>> s = h at *
  have g63 : s ≤ 63 := by omega
  go_enter Try.func8, Try.ntmps8
  go_wp2_with fail
  refine (h1.out _).mono ?_; rintro e w' ⟨rfl, ⟨m1, rfl⟩⟩
  go_wp2_with fail
  refine (h2.out _).mono ?_; rintro e w' ⟨rfl, ⟨m2, rfl⟩⟩
  go_wp2_with fail
  refine (h3.out _).mono ?_; rintro e w' ⟨rfl, ⟨m3, rfl⟩⟩
  go_wp2_with fail
  refine (h4.out _).mono ?_; rintro e w' ⟨rfl, ⟨m4, rfl⟩⟩
  go_wp2_with fail
  refine (h5.out _).mono ?_; rintro e w' ⟨rfl, ⟨m5, rfl⟩⟩
  go_wp2_with fail
  refine (answers_any _).mono ?_; rintro e w' ⟨rfl, ⟨m9, rfl⟩⟩
  go_wp2_with fail
  go_ret
  exact ⟨rfl, by repeat (first | exact Drawn0.refl _ | apply Drawn0.step)⟩
theorem shifts_walk (a0 a1 : Int) (W : World) (w0 : (Lit.int .u64 a0).wf = true) (w1 : (Lit.int .u64 a1).wf = true) :
    Calls Try.prog 8 #[.int .u64 a0, .int .u64 a1] W fun e w' => e = .returned (.bool true) ∧ Below W.heap.size W w' := by
  obtain ⟨x, rfl⟩ := ex_U (Go.bounds_u64 w0).1 (Go.bounds_u64 w0).2
  obtain ⟨y, rfl⟩ := ex_U (Go.bounds_u64 w1).1 (Go.bounds_u64 w1).2
  exact (shifts_law x y W).mono fun _ _ h => ⟨h.1, h.2.below⟩
end Go.Proofs.Ytdjgjedmbgnjbaa.Alu
