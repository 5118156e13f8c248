/- Two instructions that are the same are equal; what the law's answers says. -/
import Derived.Test.YtnopppamfleniaaInsD
import Derived.Test.YtnopppamfleniaaWEqStruct
namespace Go.Proofs.Ytnopppamfleniaa.Ins
open Go Go.RowKit Go.Proofs.YtnopppamfleniaaW.PrintWords Go.Proofs.YtnopppamfleniaaW.PrintLast Go.Proofs.YtnopppamfleniaaW.PrintMore
open Go.Proofs.Ytnopppamfleniaa.Hp Go.Proofs.Ytnopppamfleniaa.Bv
attribute [local go_sem] max2_int min2_int max_two min_two max_three min_three max_four min_four
set_option linter.unusedVariables false
set_option linter.unusedSimpArgs false
theorem eq_i64 (x : Int) (w : World) : (Op.equalIn 9999 3 (.int .i64 x) (.int .i64 x)).run Try.prog w = .ok true w := by
  rw [run_equalIn_int (P := Try.prog) w 9998 3 .i64 .i64 x x Try.underlying3, beq_self_eq_true]
theorem eqin_inst (x0 x1 x2 x3 x4 x5 x6 : Int) (w : World) : (Op.equalIn 10000 24 (.agg #[.int .i64 x0, .int .i64 x1, .int .i64 x2, .int .i64 x3, .int .i64 x4, .int .i64 x5, .int .i64 x6]) (.agg #[.int .i64 x0, .int .i64 x1, .int .i64 x2, .int .i64 x3, .int .i64 x4, .int .i64 x5, .int .i64 x6])).run Try.prog w = .ok true w :=
  eqA_of (r := true) Try.underlying24 (by kernel_rfl) (eqf_cons (r := true) (s := true) (by kernel_rfl) (a := .int .i64 x0) (b := .int .i64 x0) (by kernel_rfl) (by kernel_rfl) (eq_i64 _ _) (eqf_cons (r := true) (s := true) (by kernel_rfl) (a := .int .i64 x1) (b := .int .i64 x1) (by kernel_rfl) (by kernel_rfl) (eq_i64 _ _) (eqf_cons (r := true) (s := true) (by kernel_rfl) (a := .int .i64 x2) (b := .int .i64 x2) (by kernel_rfl) (by kernel_rfl) (eq_i64 _ _) (eqf_cons (r := true) (s := true) (by kernel_rfl) (a := .int .i64 x3) (b := .int .i64 x3) (by kernel_rfl) (by kernel_rfl) (eq_i64 _ _) (eqf_cons (r := true) (s := true) (by kernel_rfl) (a := .int .i64 x4) (b := .int .i64 x4) (by kernel_rfl) (by kernel_rfl) (eq_i64 _ _) (eqf_cons (r := true) (s := true) (by kernel_rfl) (a := .int .i64 x5) (b := .int .i64 x5) (by kernel_rfl) (by kernel_rfl) (eq_i64 _ _) (eqf_last (r := true) (by kernel_rfl) (a := .int .i64 x6) (b := .int .i64 x6) (by kernel_rfl) (by kernel_rfl) (eq_i64 _ _))))))))
theorem eq_inst (x0 x1 x2 x3 x4 x5 x6 : Int) (w : World) : (binOp .eql 24 (.agg #[.int .i64 x0, .int .i64 x1, .int .i64 x2, .int .i64 x3, .int .i64 x4, .int .i64 x5, .int .i64 x6]) (.agg #[.int .i64 x0, .int .i64 x1, .int .i64 x2, .int .i64 x3, .int .i64 x4, .int .i64 x5, .int .i64 x6])).run Try.prog w = .ok (.bool true) w := by
  rw [run_eql_struct, eqin_inst]
  rfl
theorem answers_any (w : World) : Calls Try.prog 11 #[] w fun e w' => e = .returned (.bool true) ∧ Fr (fun _ => False) w w' := by
  have HE := Lib.hid (show ∀ w, Calls Try.prog 9 #[.int .u32 5243027] w fun e w' => e = .returned (.tuple #[.agg #[.int .i64 22, .int .i64 1, .int .i64 0, .int .i64 0, .int .i64 5, .int .i64 0, .int .i64 4], .bool true]) ∧ Fr (fun _ => False) w w' from
    fun w => (dec_any 5243027 (by decide) w).mono fun _ _ g => ⟨g.1.trans (by rw [show decP 5243027 = ((22, 1, 0, 0, 5, 0, 4), true) by kernel_rfl]; rfl), g.2⟩)
  go_enter Try.func11, Try.ntmps11
  go_wp2_with fail
  refine (HE.out _).mono ?_
  rintro e w' ⟨rfl, hf⟩
  have HF := Lib.hid hf
  clear hf
  go_wp2_with fail
  first | (go_quiet (fail); go_wp2_with fail) | skip
  go_ret
  exact ⟨rfl, by (repeat (first | (with_reducible exact HF.out) | (with_reducible apply Fr.drewN) | (with_reducible apply Fr.alloc) | (with_reducible apply Fr.drew)))⟩
end Go.Proofs.Ytnopppamfleniaa.Ins
