/- The law InstDecodes, walked. No further condition. -/
import Derived.Test.YtnopppamfleniaaInsU
import Derived.Test.YtnopppamfleniaaWEqStruct
namespace Go.Proofs.Ytnopppamfleniaa.Ins
open Go Go.RowKit Go.Proofs.YtnopppamfleniaaW.PrintWords Go.Proofs.YtnopppamfleniaaW.PrintLast Go.Proofs.YtnopppamfleniaaW.PrintMore
open Go.Proofs.Ytnopppamfleniaa.Hp Go.Proofs.Ytnopppamfleniaa.Bv
attribute [local go_sem] max2_int min2_int max_two min_two max_three min_three max_four min_four
set_option linter.unusedVariables false
set_option linter.unusedSimpArgs false
theorem eq_i64 (x : Int) (w : World) : (Op.equalIn 9999 3 (.int .i64 x) (.int .i64 x)).run Try.prog w = .ok true w := by
  rw [run_equalIn_int (P := Try.prog) w 9998 3 .i64 .i64 x x Try.underlying3, beq_self_eq_true]
theorem eqin_inst (x0 x1 x2 x3 x4 x5 x6 : Int) (w : World) : (Op.equalIn 10000 24 (.agg #[.int .i64 x0, .int .i64 x1, .int .i64 x2, .int .i64 x3, .int .i64 x4, .int .i64 x5, .int .i64 x6]) (.agg #[.int .i64 x0, .int .i64 x1, .int .i64 x2, .int .i64 x3, .int .i64 x4, .int .i64 x5, .int .i64 x6])).run Try.prog w = .ok true w :=
  eqA_of (r := true) Try.underlying24 (by kernel_rfl) (eqf_cons (r := true) (s := true) (by kernel_rfl) (a := .int .i64 x0) (b := .int .i64 x0) (by kernel_rfl) (by kernel_rfl) (eq_i64 _ _) (eqf_cons (r := true) (s := true) (by kernel_rfl) (a := .int .i64 x1) (b := .int .i64 x1) (by kernel_rfl) (by kernel_rfl) (eq_i64 _ _) (eqf_cons (r := true) (s := true) (by kernel_rfl) (a := .int .i64 x2) (b := .int .i64 x2) (by kernel_rfl) (by kernel_rfl) (eq_i64 _ _) (eqf_cons (r := true) (s := true) (by kernel_rfl) (a := .int .i64 x3) (b := .int .i64 x3) (by kernel_rfl) (by kernel_rfl) (eq_i64 _ _) (eqf_cons (r := true) (s := true) (by kernel_rfl) (a := .int .i64 x4) (b := .int .i64 x4) (by kernel_rfl) (by kernel_rfl) (eq_i64 _ _) (eqf_cons (r := true) (s := true) (by kernel_rfl) (a := .int .i64 x5) (b := .int .i64 x5) (by kernel_rfl) (by kernel_rfl) (eq_i64 _ _) (eqf_last (r := true) (by kernel_rfl) (a := .int .i64 x6) (b := .int .i64 x6) (by kernel_rfl) (by kernel_rfl) (eq_i64 _ _))))))))
theorem eq_inst (x0 x1 x2 x3 x4 x5 x6 : Int) (w : World) : (binOp .eql 24 (.agg #[.int .i64 x0, .int .i64 x1, .int .i64 x2, .int .i64 x3, .int .i64 x4, .int .i64 x5, .int .i64 x6]) (.agg #[.int .i64 x0, .int .i64 x1, .int .i64 x2, .int .i64 x3, .int .i64 x4, .int .i64 x5, .int .i64 x6])).run Try.prog w = .ok (.bool true) w := by
  rw [run_eql_struct, eqin_inst]
  rfl
theorem answers_any (w : World) : Calls Try.prog 11 #[] w fun e w' => e = .returned (.bool true) ∧ Fr (fun _ => False) w w' := by
  have HE := Lib.hid (show ∀ w, Calls Try.prog 9 #[.int .u32 5243027] w fun e w' => e = .returned (.tuple #[.agg #[.int .i64 22, .int .i64 1, .int .i64 0, .int .i64 0, .int .i64 5, .int .i64 0, .int .i64 4], .bool true]) ∧ Fr (fun _ => False) w w' from
    fun w => (dec_any 5243027 (by decide) w).mono fun _ _ g => ⟨g.1.trans (by rw [show decP 5243027 = ((22, 1, 0, 0, 5, 0, 4), true) by kernel_rfl]; rfl), g.2⟩)
  go_enter Try.func11, Try.ntmps11
  go_wp2_with fail
  refine (HE.out _).mono ?_
  rintro e w' ⟨rfl, hf⟩
  have HF := Lib.hid hf
  clear hf
  go_wp2_with fail
  first | (go_quiet (fail); go_wp2_with fail) | skip
  go_ret
  exact ⟨rfl, by (repeat (first | (with_reducible exact HF.out) | (with_reducible apply Fr.drewN) | (with_reducible apply Fr.alloc) | (with_reducible apply Fr.drew)))⟩
set_option maxHeartbeats 4000000 in
theorem decodes_any (h : Nat) (hh : h < 4294967296) (w : World) : Calls Try.prog 3 #[.int .u32 (h : Int)] w fun e w' => e = .returned (.bool true) ∧ Fr (fun _ => False) w w' := by
  have hC := dec_any h hh
  have hR := rdec_any h hh
  rw [← dec_same] at hR
  generalize decP h = r at *
  obtain ⟨⟨x0, x1, x2, x3, x4, x5, x6⟩, ok⟩ := r
  have HC := Lib.hid (show ∀ w, Calls Try.prog 9 #[.int .u32 (h : Int)] w fun e w' => e = .returned (.tuple #[.agg #[.int .i64 x0, .int .i64 x1, .int .i64 x2, .int .i64 x3, .int .i64 x4, .int .i64 x5, .int .i64 x6], .bool ok]) ∧ Fr (fun _ => False) w w' from hC)
  have HR := Lib.hid (show ∀ w, Calls Try.prog 10 #[.int .u32 (h : Int)] w fun e w' => e = .returned (.tuple #[.agg #[.int .i64 x0, .int .i64 x1, .int .i64 x2, .int .i64 x3, .int .i64 x4, .int .i64 x5, .int .i64 x6], .bool ok]) ∧ Fr (fun _ => False) w w' from hR)
  have ea := eq_inst x0 x1 x2 x3 x4 x5 x6
  have eb : (ok == ok) = true := beq_self_eq_true _
  clear hC hR
  go_enter Try.func3, Try.ntmps3
  go_wp2_with fail
  refine (HC.out _).mono ?_
  rintro e w1 ⟨rfl, hf⟩
  have HB1 := Lib.hid (Blk.new w1 24 #[.int .i64 x0, .int .i64 x1, .int .i64 x2, .int .i64 x3, .int .i64 x4, .int .i64 x5, .int .i64 x6])
  have HF1 := Lib.hid (hf.alloc (.cells #[.int .i64 x0, .int .i64 x1, .int .i64 x2, .int .i64 x3, .int .i64 x4, .int .i64 x5, .int .i64 x6] 24))
  clear hf HC
  go_wp2_with fail
  refine (HR.out _).mono ?_
  rintro e w2 ⟨rfl, hf⟩
  have HB1 := Lib.hid ((HB1.out.fr hf id).alloc (.cells #[.int .i64 x0, .int .i64 x1, .int .i64 x2, .int .i64 x3, .int .i64 x4, .int .i64 x5, .int .i64 x6] 24))
  have HB2 := Lib.hid (Blk.new w2 24 #[.int .i64 x0, .int .i64 x1, .int .i64 x2, .int .i64 x3, .int .i64 x4, .int .i64 x5, .int .i64 x6])
  have HF1 := Lib.hid ((HF1.out.trans hf (fun _ _ h => h)).alloc (.cells #[.int .i64 x0, .int .i64 x1, .int .i64 x2, .int .i64 x3, .int .i64 x4, .int .i64 x5, .int .i64 x6] 24))
  clear hf HR
  go_wp2_with fail
  refine (answers_any _).mono ?_
  rintro e w3 ⟨rfl, hf⟩
  have HB1 := Lib.hid (HB1.out.fr hf id)
  have HB2 := Lib.hid (HB2.out.fr hf id)
  have HF1 := Lib.hid (HF1.out.trans hf (fun _ _ h => h))
  clear hf
  have k10 := HB1.out.cell 0
  have k11 := HB1.out.cell 1
  have k12 := HB1.out.cell 2
  have k13 := HB1.out.cell 3
  have k14 := HB1.out.cell 4
  have k15 := HB1.out.cell 5
  have k16 := HB1.out.cell 6
  have k20 := HB2.out.cell 0
  have k21 := HB2.out.cell 1
  have k22 := HB2.out.cell 2
  have k23 := HB2.out.cell 3
  have k24 := HB2.out.cell 4
  have k25 := HB2.out.cell 5
  have k26 := HB2.out.cell 6
  simp at k10 k11 k12 k13 k14 k15 k16 k20 k21 k22 k23 k24 k25 k26
  go_wp2_with fail
  go_ret
  exact ⟨by first | rfl | simp, HF1.out⟩
theorem decodes_walk (a0 : Int) (W : World) (w0 : (Lit.int .u32 a0).wf = true) :
    Calls Try.prog 3 #[.int .u32 a0] W fun e W' => e = .returned (.bool true) ∧ Below W.heap.size W W' := by
  have b := Go.bounds_u32 w0
  obtain ⟨h, rfl⟩ := Int.eq_ofNat_of_zero_le b.1
  exact (decodes_any h (by omega) W).mono fun _ _ g => ⟨g.1, Fr.below (Below.refl _ _) g.2 (fun _ _ => id)⟩
end Go.Proofs.Ytnopppamfleniaa.Ins
