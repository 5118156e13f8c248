/- The law SigNone, walked: the cases joined. -/
import Derived.Test.YtdlcejnkicdjnaaDoorSgN0
import Derived.Test.YtdlcejnkicdjnaaDoorSgN1
import Derived.Test.YtdlcejnkicdjnaaDoorSgN2
namespace Go.Proofs.YtdlcejnkicdjnaaDoor.Sg
open Go Go.RowKit Go.Proofs.YtdlcejnkicdjnaaDoorW.PrintWords Go.Proofs.YtdlcejnkicdjnaaDoorW.PrintLast Go.Proofs.YtdlcejnkicdjnaaDoorW.PrintMore
open Go.Proofs.YtdlcejnkicdjnaaDoor.Hp Go.Proofs.YtdlcejnkicdjnaaDoor.Bv
attribute [local go_sem] max2_int min2_int max_two min_two max_three min_three max_four min_four
attribute [local go_sem] wrap_add wrap_sub wrap_mul wrap_neg and_U or_U xor_U andNot_U wrap_U
set_option linter.unusedVariables false
set_option linter.unusedSimpArgs false
theorem none_any (n a0 a1 : Int) (v X : BitVec 64) (w : World) (ht : Tb w) : Calls Tryd.prog 6 #[.int .i64 n, .agg #[.int .u64 a0, .int .u64 a1, .int .u64 (U v)], .int .u64 (U X)] w fun e w' => e = .returned (.bool true) ∧ Fr (fun _ => False) w w' := by
  by_cases hn : 1 ≤ n ∧ n ≤ 64
  · obtain ⟨m, rfl⟩ : ∃ m : Nat, n = m + 1 := ⟨(n - 1).toNat, by omega⟩
    cases hq : quietZ ((m : Int) + 1)
    · exact none_2 m (by omega) hq a0 a1 v X w ht
    · exact none_1 m (by omega) hq a0 a1 v X w ht
  · exact none_0 n hn a0 a1 v X w ht
theorem none_walk (a0 a1_0 a1_1 a1_2 a2 : Int) (W : World) (w0 : (Lit.int .i64 a0).wf = true) (w1_0 : (Lit.int .u64 a1_0).wf = true) (w1_1 : (Lit.int .u64 a1_1).wf = true) (w1_2 : (Lit.int .u64 a1_2).wf = true) (w2 : (Lit.int .u64 a2).wf = true) (ht : Tb W) :
    Calls Tryd.prog 6 #[.int .i64 a0, .agg #[.int .u64 a1_0, .int .u64 a1_1, .int .u64 a1_2], .int .u64 a2] W fun e W' => e = .returned (.bool true) ∧ Below W.heap.size W W' := by
  have b2 := Go.bounds_u64 w1_2
  have b3 := Go.bounds_u64 w2
  obtain ⟨v, rfl⟩ := ex_U b2.1 (by omega)
  obtain ⟨X, rfl⟩ := ex_U b3.1 (by omega)
  exact (none_any a0 a1_0 a1_1 v X W ht).mono fun _ _ g => ⟨g.1, Fr.below (Below.refl _ _) g.2 (fun _ _ => id)⟩
end Go.Proofs.YtdlcejnkicdjnaaDoor.Sg
