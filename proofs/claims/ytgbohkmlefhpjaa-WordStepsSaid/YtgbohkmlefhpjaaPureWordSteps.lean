/- For every word and every two widths from 1 to 64: the sign extension from one width and then from another is the sign extension from the smaller one. No further condition. -/
import Derived.Test.YtgbohkmlefhpjaaPWordStepsx1
import Derived.Test.YtgbohkmlefhpjaaBv
namespace Go.Proofs.Ytgbohkmlefhpjaa.Pure
open Go.RowKit Go.Proofs.Ytgbohkmlefhpjaa.PWordSteps Go.Proofs.YtgbohkmlefhpjaaW.PrintWords Go.Proofs.YtgbohkmlefhpjaaW.PrintLast
open Go.Proofs.Ytgbohkmlefhpjaa.Bv
namespace WStep
theorem sext_f (x : BitVec 64) (n : Nat) (h1 : 1 ≤ n) (h2 : n ≤ 64) : word_Sext.f (U x) (n : Int) = some (U (sx x n)) := by
  unfold word_Sext.f
  have e : wrap64 (64 - (n:Int)) = ((64 - n : Nat) : Int) := by rw [wrap64_in (by omega) (by omega)]; omega
  rw [if_neg (by omega), if_neg (by omega), e, if_pos (by omega)]
  congr 1
  show IntKind.u64.wrap ((wrap64 (IntKind.u64.wrap (U x * 2 ^ min (64-n) 64))) / 2 ^ min (64-n) 64) = _
  rw [shl_U, wrap64_U, sar_toInt, u64_toInt]; rfl
theorem answers_f : marionettelaw01_answers.f = some true := by kernel_rfl
theorem width (a : Int) (h0 : 0 ≤ a) (_ : a ≤ 255) : ∃ n : Nat, wrap64 (wrap64 (Int.tmod a 64) + 1) = n ∧ 1 ≤ n ∧ n ≤ 64 := by
  have e : Int.tmod a 64 = a % 64 := Int.tmod_eq_emod_of_nonneg h0
  rw [e, wrap64_in (n := a % 64) (by omega) (by omega), wrap64_in (by omega) (by omega)]
  exact ⟨(a % 64 + 1).toNat, by omega, by omega, by omega⟩
end WStep
open WStep
theorem WordSteps : marionettelaw01_WordSteps.Pure := by
  intro a0 a1 a2 w0 w1 w2
  obtain ⟨x, rfl⟩ := ex_U (Go.bounds_u64 w0).1 (Go.bounds_u64 w0).2
  obtain ⟨p, ep, hp1, hp2⟩ := width a1 (Go.bounds_u8 w1).1 (Go.bounds_u8 w1).2
  obtain ⟨q, eq, hq1, hq2⟩ := width a2 (Go.bounds_u8 w2).1 (Go.bounds_u8 w2).2
  refine ⟨1, ?_⟩
  unfold marionettelaw01_WordSteps.f
  rw [ep, eq]
  by_cases h : (q : Int) < p
  · rw [if_pos h]
    simp only [marionettelaw01_WordSteps.j0, answers_f, sext_f x p hp1 hp2, sext_f _ q hq1 hq2, sx_sx x p q hp1 hp2 hq1 hq2, Option.bind_some, if_true]
    rw [Nat.min_eq_right (by omega)]
    simp
  · rw [if_neg h]
    simp only [marionettelaw01_WordSteps.j0, answers_f, sext_f x p hp1 hp2, sext_f _ q hq1 hq2, sx_sx x p q hp1 hp2 hq1 hq2, Option.bind_some, if_true]
    rw [Nat.min_eq_left (by omega)]
    simp
end Go.Proofs.Ytgbohkmlefhpjaa.Pure
