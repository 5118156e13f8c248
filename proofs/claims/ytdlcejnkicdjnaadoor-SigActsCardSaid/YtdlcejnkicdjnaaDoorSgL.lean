/- The law SigNone, walked. -/
import Derived.Test.YtdlcejnkicdjnaaDoorSgK
import Derived.Test.YtdlcejnkicdjnaaDoorWEqStruct
namespace Go.Proofs.YtdlcejnkicdjnaaDoor.Sg
open Go Go.RowKit Go.Proofs.YtdlcejnkicdjnaaDoorW.PrintWords Go.Proofs.YtdlcejnkicdjnaaDoorW.PrintLast Go.Proofs.YtdlcejnkicdjnaaDoorW.PrintMore
open Go.Proofs.YtdlcejnkicdjnaaDoor.Hp Go.Proofs.YtdlcejnkicdjnaaDoor.Bv
attribute [local go_sem] max2_int min2_int max_two min_two max_three min_three max_four min_four
attribute [local go_sem] wrap_add wrap_sub wrap_mul wrap_neg and_U or_U xor_U andNot_U wrap_U
set_option linter.unusedVariables false
set_option linter.unusedSimpArgs false
theorem eqg_u64 (x y : Int) (w : World) : (Op.equalIn 9999 23 (.int .u64 x) (.int .u64 y)).run Tryd.prog w = .ok (x == y) w := by
  rw [run_equalIn_int (P := Tryd.prog) w 9998 23 .u64 .u64 x y Tryd.underlying23]
theorem eq_stack (a b c d : Int) (w : World) : (Op.equalIn 10000 53 (.agg #[.int .u64 a, .int .u64 b]) (.agg #[.int .u64 c, .int .u64 d])).run Tryd.prog w = .ok (a == c && b == d) w :=
  eqA_of Tryd.underlying53 (by kernel_rfl) (eqf_cons (r := (a == c)) (by kernel_rfl) (a := .int .u64 a) (b := .int .u64 c) (by kernel_rfl) (by kernel_rfl) (eqg_u64 _ _ _) (eqf_last (r := (b == d)) (by kernel_rfl) (a := .int .u64 b) (b := .int .u64 d) (by kernel_rfl) (by kernel_rfl) (eqg_u64 _ _ _)))
theorem eq_act (a b c d e f : Int) (w : World) : (Op.equalIn 10000 33 (.agg #[.int .u64 a, .int .u64 b, .int .u64 c]) (.agg #[.int .u64 d, .int .u64 e, .int .u64 f])).run Tryd.prog w = .ok (a == d && (b == e && c == f)) w :=
  eqA_of Tryd.underlying33 (by kernel_rfl) (eqf_cons (r := (a == d)) (by kernel_rfl) (a := .int .u64 a) (b := .int .u64 d) (by kernel_rfl) (by kernel_rfl) (eqg_u64 _ _ _) (eqf_cons (r := (b == e)) (by kernel_rfl) (a := .int .u64 b) (b := .int .u64 e) (by kernel_rfl) (by kernel_rfl) (eqg_u64 _ _ _) (eqf_last (r := (c == f)) (by kernel_rfl) (a := .int .u64 c) (b := .int .u64 f) (by kernel_rfl) (by kernel_rfl) (eqg_u64 _ _ _))))
theorem setaction_fr {g : Nat} {A : Nat → Int} {M P x y : BitVec 64} (n a0 a1 : Int) (v : BitVec 64) (w : World) (h : St w g A M P x y) : Calls Tryd.prog 17 #[.pointer (some ⟨g, 0, none⟩), .int .i64 n, .agg #[.int .u64 a0, .int .u64 a1, .int .u64 (U v)]] w fun e w' => (∃ k, e = .returned (.int .i64 k)) ∧ Fr (fun k => k = g) w w' := by
  by_cases hn : 1 ≤ n ∧ n ≤ 64
  · by_cases hb : n = 9 ∨ n = 19
    · exact (setaction_bar (g := g) (A := A) (M := M) (P := P) (x := x) (y := y) n a0 a1 v hb w).mono fun _ _ k => ⟨⟨_, k.1⟩, k.2.mono fun _ _ e => e.elim⟩
    · obtain ⟨m, rfl⟩ : ∃ m : Nat, n = m := ⟨n.toNat, by omega⟩
      exact (setaction_yes m a0 a1 v (by omega) (by omega) (by omega) w h).mono fun _ _ k => ⟨⟨_, k.1⟩, k.2.2⟩
  · exact (setaction_out (g := g) (A := A) (M := M) (P := P) (x := x) (y := y) n a0 a1 v hn w).mono fun _ _ k => ⟨⟨_, k.1⟩, k.2.mono fun _ _ e => e.elim⟩
theorem raise_fr {g : Nat} {A : Nat → Int} {M P x y : BitVec 64} (n : Int) (w : World) (h : St w g A M P x y) : Calls Tryd.prog 11 #[.pointer (some ⟨g, 0, none⟩), .int .i64 n] w fun e w' => (∃ k, e = .returned (.int .i64 k)) ∧ St w' g A M (P ||| bitZ n) x y ∧ Fr (fun k => k = g) w w' := by
  by_cases hn : 1 ≤ n ∧ n ≤ 64
  · exact (raise_yes n hn w h).mono fun _ _ k => ⟨⟨_, k.1⟩, k.2.1, k.2.2⟩
  · exact (raise_no (g := g) (A := A) (M := M) (P := P) (x := x) (y := y) n hn w).mono fun _ _ k => ⟨⟨_, k.1⟩, by
      rw [bitZ_no hn, BitVec.or_zero]
      exact h.fr k.2 id, k.2.mono fun _ _ e => e.elim⟩
theorem action_fr {g : Nat} {M P x y : BitVec 64} (n : Int) (w : World) (h : St w g (fun _ => 0) M P x y) : Calls Tryd.prog 20 #[.pointer (some ⟨g, 0, none⟩), .int .i64 n] w fun e w' => (∃ k, e = .returned (.tuple #[.agg #[.int .u64 0, .int .u64 0, .int .u64 0], .int .i64 k])) ∧ Fr (fun _ => False) w w' := by
  by_cases hn : 1 ≤ n ∧ n ≤ 64
  · obtain ⟨m, rfl⟩ : ∃ m : Nat, n = m := ⟨n.toNat, by omega⟩
    exact (action_in m (by omega) w h).mono fun _ _ k => ⟨⟨0, by rw [k.1, actC_zero]⟩, k.2⟩
  · exact (action_out (g := g) (A := fun _ => 0) (M := M) (P := P) (x := x) (y := y) n hn w).mono fun _ _ k => ⟨⟨_, k.1⟩, k.2⟩
end Go.Proofs.YtdlcejnkicdjnaaDoor.Sg
