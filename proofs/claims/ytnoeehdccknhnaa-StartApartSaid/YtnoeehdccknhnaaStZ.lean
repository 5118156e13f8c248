/- The law StartApart, of its parameters as they come in. -/
import Derived.Test.YtnoeehdccknhnaaStY
namespace Go.Proofs.Ytnoeehdccknhnaa.St
open Go Go.RowKit Go.Proofs.YtnoeehdccknhnaaW.PrintWords Go.Proofs.YtnoeehdccknhnaaW.PrintLast Go.Proofs.YtnoeehdccknhnaaW.PrintMore
open Go.Proofs.Ytnoeehdccknhnaa.Hp
attribute [local go_sem] max2_int min2_int max_two min_two max_three min_three max_four min_four
set_option linter.unusedVariables false
set_option linter.unusedSimpArgs false
theorem apart_walk (a0 a1 a2 a3 : Value) (W : World) (w0 : Texts W a0) (w1 : Rnd a1) (w2 : Rnd a2) (w3 : Text1 a3) : Calls Try.prog 6 #[a0, a1, a2, a3] W fun e W' => e = .returned (.bool true) ∧ Below W.heap.size W W' := by
  obtain ⟨A1, c1, l1, rfl, hc1, hn1, hC1, hs1⟩ := w0
  obtain ⟨ra, hra, hba, rfl⟩ := w1
  obtain ⟨rb, hrb, hbb, rfl⟩ := w2
  obtain ⟨m, rfl, hm⟩ := w3
  match ra, hra, hba, rb, hrb, hbb with
  | [a0, a1, a2, a3, a4, a5, a6, a7, a8, a9, a10, a11, a12, a13, a14, a15], _, hba, [b0, b1, b2, b3, b4, b5, b6, b7, b8, b9, b10, b11, b12, b13, b14, b15], _, hbb => exact (apart_in A1 c1 l1 a0 a1 a2 a3 a4 a5 a6 a7 a8 a9 a10 a11 a12 a13 a14 a15 b0 b1 b2 b3 b4 b5 b6 b7 b8 b9 b10 b11 b12 b13 b14 b15 m W hC1 hc1 hn1 hs1 hm hba hbb).mono fun _ _ g => ⟨g.1, Fr.below (Below.refl _ _) g.2 (fun _ _ => id)⟩
end Go.Proofs.Ytnoeehdccknhnaa.St
