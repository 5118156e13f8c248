/- For all words: quotient times divisor plus remainder is the dividend, without and with signs, and the remainder without signs is less than a divisor that is not 0. No further condition. -/
import Derived.Test.YtgbohkmlefhpjaaPWordWholex1
import Derived.Test.YtgbohkmlefhpjaaBv
namespace Go.Proofs.Ytgbohkmlefhpjaa.Pure
open Go Go.RowKit Go.Proofs.Ytgbohkmlefhpjaa.PWordWhole Go.Proofs.YtgbohkmlefhpjaaW.PrintWords Go.Proofs.YtgbohkmlefhpjaaW.PrintLast
open Go.Proofs.Ytgbohkmlefhpjaa.Bv
namespace WWhole
theorem answers_f : marionettelaw01_answers.f = some true := by kernel_rfl
theorem whole_u (a b : Int) (ha : 0 ≤ a) (ha' : a < 18446744073709551616) (hb : 0 ≤ b) (_ : b < 18446744073709551616) (h0 : b ≠ 0) :
    IntKind.u64.wrap (IntKind.u64.wrap (IntKind.u64.wrap (Int.tdiv a b) * b) + Int.tmod a b) = a := by
  rw [Int.tdiv_eq_ediv_of_nonneg ha, Int.tmod_eq_emod_of_nonneg ha]
  have h1 : 0 ≤ a / b := Int.ediv_nonneg ha hb
  have h2 : a / b ≤ a := Int.ediv_le_self b ha
  have h3 : b * (a / b) + a % b = a := Int.mul_ediv_add_emod a b
  have h4 : 0 ≤ a % b := Int.emod_nonneg a h0
  have e : IntKind.u64.wrap (a / b) = a / b := by rw [IntKind.wrap_u64]; omega
  rw [e, Int.mul_comm, IntKind.wrap_u64, IntKind.wrap_u64]
  omega
theorem whole_s (A B : BitVec 64) : IntKind.u64.wrap (IntKind.u64.wrap (IntKind.u64.wrap (wrap64 (Int.tdiv A.toInt B.toInt)) * U B) + IntKind.u64.wrap (Int.tmod A.toInt B.toInt)) = U A := by
  have e : ∀ n, IntKind.u64.wrap (wrap64 n) = U (BitVec.ofInt 64 n) := fun n => by
    rw [← Bv.wrap_u64, IntKind.wrap_u64, IntKind.wrap_u64]; unfold wrap64; omega
  rw [e, Bv.wrap_mul, Bv.wrap_u64 (Int.tmod _ _), Bv.wrap_add]
  congr 1
  have eB : B = BitVec.ofInt 64 B.toInt := BitVec.ofInt_toInt.symm
  conv => lhs; lhs; rhs; rw [eB]
  rw [← BitVec.ofInt_mul, ← BitVec.ofInt_add, Int.mul_comm, Int.mul_tdiv_add_tmod, BitVec.ofInt_toInt]
end WWhole
open WWhole
theorem WordWhole : marionettelaw01_WordWhole.Pure := by
  intro a b wa wb
  have ba := Go.bounds_u64 wa
  have bb := Go.bounds_u64 wb
  refine ⟨1, ?_⟩
  unfold marionettelaw01_WordWhole.f
  have hs : ∃ q r, word_Div.f a b = some q ∧ word_Rem.f a b = some r ∧ IntKind.u64.wrap (IntKind.u64.wrap (q * b) + r) = a := by
    by_cases h0 : b = 0
    · subst h0
      exact ⟨_, _, by unfold word_Div.f; rw [if_pos rfl], by unfold word_Rem.f; rw [if_pos rfl], by rw [IntKind.wrap_u64, IntKind.wrap_u64]; omega⟩
    · by_cases h1 : a = 9223372036854775808 ∧ b = 18446744073709551615
      · obtain ⟨rfl, rfl⟩ := h1
        exact ⟨_, _, by unfold word_Div.f; rw [if_neg h0, if_pos rfl, if_pos rfl], by unfold word_Rem.f; rw [if_neg h0, if_pos rfl, if_pos rfl], by rw [IntKind.wrap_u64, IntKind.wrap_u64]; omega⟩
      · obtain ⟨A, rfl⟩ := ex_U ba.1 ba.2
        obtain ⟨B, rfl⟩ := ex_U bb.1 bb.2
        have hn : ¬ wrap64 (U B) = 0 := by unfold wrap64; omega
        refine ⟨_, _, ?_, ?_, whole_s A B⟩
        · unfold word_Div.f
          rw [if_neg h0, if_neg hn, wrap64_U, wrap64_U]
          by_cases h2 : U A = 9223372036854775808
          · rw [if_pos h2, if_neg (fun h3 => h1 ⟨h2, h3⟩)]
          · rw [if_neg h2]
        · unfold word_Rem.f
          rw [if_neg h0, if_neg hn, wrap64_U, wrap64_U]
          by_cases h2 : U A = 9223372036854775808
          · rw [if_pos h2, if_neg (fun h3 => h1 ⟨h2, h3⟩)]
          · rw [if_neg h2]
  have hu : ∃ q r, word_DivU.f a b = some q ∧ word_RemU.f a b = some r ∧ IntKind.u64.wrap (IntKind.u64.wrap (q * b) + r) = a ∧ (b ≠ 0 → r < b) := by
    by_cases h0 : b = 0
    · subst h0
      exact ⟨_, _, by unfold word_DivU.f; rw [if_pos rfl], by unfold word_RemU.f; rw [if_pos rfl], by rw [IntKind.wrap_u64, IntKind.wrap_u64]; omega, fun h => absurd rfl h⟩
    · refine ⟨_, _, by unfold word_DivU.f; rw [if_neg h0], by unfold word_RemU.f; rw [if_neg h0], whole_u a b ba.1 (by omega) bb.1 (by omega) h0, fun _ => ?_⟩
      rw [Int.tmod_eq_emod_of_nonneg ba.1]
      exact Int.emod_lt_of_pos a (by omega)
  obtain ⟨q, r, e1, e2, e3⟩ := hs
  obtain ⟨q', r', e4, e5, e6, e7⟩ := hu
  rw [e4, e5, e1, e2]
  simp only [Option.bind_some]
  rw [if_pos e6, e3]
  simp only [marionettelaw01_WordWhole.j0, answers_f, e5, Option.bind_some, bne_self_eq_false, if_true]
  by_cases h0 : b = 0
  · simp [h0]
  · simp [h0, e7 h0]
end Go.Proofs.Ytgbohkmlefhpjaa.Pure
