/- What MarshSignals says, in plain Lean: actions and stacks as bytes, and back. -/
import Derived.Test.YtbblamabipabeaaMarK
namespace Go.Proofs.Ytbblamabipabeaa.Mar
open Go Go.RowKit Go.Proofs.YtbblamabipabeaaW.PrintWords Go.Proofs.YtbblamabipabeaaW.PrintLast Go.Proofs.YtbblamabipabeaaW.PrintMore
open Go.Proofs.Ytbblamabipabeaa.Hp Go.Proofs.Ytbblamabipabeaa.By Go.Proofs.Ytbblamabipabeaa.Bv
attribute [local go_sem] max2_int min2_int max_two min_two max_three min_three max_four min_four
set_option linter.unusedVariables false
set_option linter.unusedSimpArgs false
theorem encs_three (x y z : Int) (hx : 0 ≤ x ∧ x < 18446744073709551616) (hy : 0 ≤ y ∧ y < 18446744073709551616) (hz : 0 ≤ z ∧ z < 18446744073709551616) :
    (encs [x, y, z]).length = 24 ∧ w0 (encs [x, y, z]) = x ∧ w1 (encs [x, y, z]) = y ∧ w2 (encs [x, y, z]) = z ∧ By.bytes (encs [x, y, z]) := by
  have lx : (enc x 8).length = 8 := enc_length _ _
  have ly : (enc y 8).length = 8 := enc_length _ _
  have lz : (enc z 8).length = 8 := enc_length _ _
  have e : encs [x, y, z] = enc x 8 ++ (enc y 8 ++ enc z 8) := by simp [encs]
  refine ⟨encs_length _, ?_, ?_, ?_, ?_⟩
  · unfold w0
    rw [e, List.take_append_of_le_length (by omega), List.take_of_length_le (by omega), le_enc _ _ hx.1]
    omega
  · unfold w1
    rw [e, List.drop_append_of_le_length (by omega), List.drop_of_length_le (by omega), List.nil_append, List.take_append_of_le_length (by omega), List.take_of_length_le (by omega), le_enc _ _ hy.1]
    omega
  · unfold w2
    rw [e, ← List.append_assoc, List.drop_left' (by rw [List.length_append]; omega), List.take_of_length_le (by omega), le_enc _ _ hz.1]
    omega
  · rw [e]
    intro q hq
    rcases List.mem_append.1 hq with h | h
    · exact enc_bytes _ _ q h
    · rcases List.mem_append.1 h with h | h
      · exact enc_bytes _ _ q h
      · exact enc_bytes _ _ q h
theorem action_back (x y z : Int) (hx : 0 ≤ x ∧ x < 18446744073709551616) (hy : 0 ≤ y ∧ y < 18446744073709551616) (hz : 0 ≤ z ∧ z < 18446744073709551616) :
    atv (encs [x, y, z]) 0 = x ∧ atv (encs [x, y, z]) 1 = y ∧ atv (encs [x, y, z]) 2 = z := by
  obtain ⟨a, b, c, d, _⟩ := encs_three x y z hx hy hz
  obtain ⟨e0, e1, e2⟩ := atv_24 _ a
  exact ⟨e0.trans b, e1.trans c, e2.trans d⟩
theorem stack_back (a s : Int) (ha : 0 ≤ a ∧ a < 18446744073709551616) (hs : 0 ≤ s ∧ s < 18446744073709551616) :
    (kB a s).length = 24 ∧ By.bytes (kB a s) ∧ sk (kB a s) = if s = 0 then (0, 0, true) else if s < 2048 then (0, 0, false) else (a, s, true) := by
  unfold kB
  by_cases h : s = 0
  · rw [if_pos h, if_pos h]
    obtain ⟨h1, h2, h3, h4, h5⟩ := encs_three a 2 s ha (by decide) hs
    refine ⟨h1, h5, ?_⟩
    unfold sk
    rw [if_pos h1, h3, if_pos rfl]
  · rw [if_neg h, if_neg h]
    obtain ⟨h1, h2, h3, h4, h5⟩ := encs_three a 0 s ha (by decide) hs
    refine ⟨h1, h5, ?_⟩
    unfold sk
    rw [if_pos h1, h3, if_neg (by decide), if_pos rfl, h4, h2]
/-- What is in the list with 24 noughts behind it, word by word. -/
theorem le_zeros (l : List Int) (m : Nat) : le (l ++ List.replicate m 0) = le l := by
  induction l with
  | nil =>
    induction m with
    | zero => rfl
    | succ m ih =>
      rw [List.nil_append] at ih ⊢
      rw [List.replicate_succ]
      simp only [le]
      rw [ih]
      rfl
  | cons c r ih => simp only [List.cons_append, le, ih]
theorem pad_at (l : List Int) (i : Nat) (hi : i ≤ 2) : le (((l ++ List.replicate 24 0).drop (8 * i)).take 8) = atv l i := by
  unfold atv
  by_cases h : 8 * i < l.length
  · rw [if_pos h, List.drop_append_of_le_length (by omega), List.take_append, List.take_replicate, le_zeros]
  · rw [if_neg h, List.drop_append, List.drop_of_length_le (by omega), List.nil_append, List.drop_replicate, List.take_replicate]
    have := le_zeros [] (min 8 (24 - (8 * i - l.length)))
    rw [List.nil_append] at this
    rw [this]
    rfl
end Go.Proofs.Ytbblamabipabeaa.Mar
