/- The law MarshSignals, walked out of its callees' contracts. No further condition. -/
import Derived.Test.YtbblamabipabeaaMarP
namespace Go.Proofs.Ytbblamabipabeaa.Mar
open Go Go.RowKit Go.Proofs.YtbblamabipabeaaW.PrintWords Go.Proofs.YtbblamabipabeaaW.PrintLast Go.Proofs.YtbblamabipabeaaW.PrintMore
open Go.Proofs.Ytbblamabipabeaa.Hp Go.Proofs.Ytbblamabipabeaa.By Go.Proofs.Ytbblamabipabeaa.Bv
attribute [local go_sem] max2_int min2_int max_two min_two max_three min_three max_four min_four
set_option linter.unusedVariables false
set_option linter.unusedSimpArgs false
set_option maxHeartbeats 2000000 in
theorem signals_long (A : Option Addr) (c : Nat) (l : List Int) (h f m a s n : Int) (w : World) (hm : l.length ≤ 9223372036854775807) (hl : 100 < l.length) :
    Calls Try.prog 4 #[.agg #[.int .u64 h, .int .u64 f, .int .u64 m], .agg #[.int .u64 a, .int .u64 s], .int .u32 n, .slice A l.length c] w fun e w' => e = .returned (.bool true) ∧ Fr (fun _ => False) w w' := by
  have u1 : decide (100 < (l.length : Int)) = true := decide_eq_true (by omega)
  have u2 : decide (100 < l.length) = true := decide_eq_true (by omega)
  clear hl
  go_enter Try.func4, Try.ntmps4
  go_wp2_with fail
  refine (answers_any _).mono ?_
  rintro e w1 ⟨rfl, hf⟩
  have HF := Lib.hid (show Fr (fun _ => False) w w1 from Fr.trans (by (repeat (first | exact Fr.refl _ _ | apply Fr.drewN | apply Fr.alloc | apply Fr.drew | refine Fr.setCell ?_ (Or.inr (by simp)) _))) hf (fun _ _ h => h))
  clear hf
  go_wp2_with fail
  go_ret
  exact ⟨rfl, HF.out⟩
end Go.Proofs.Ytbblamabipabeaa.Mar
