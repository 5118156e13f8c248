/- The document's Expand, joined; and the laws CompExpands and CompAll, walked. No further condition. -/
import Derived.Test.YtgefhoikpjiamaaCmpR0
import Derived.Test.YtgefhoikpjiamaaCmpR1
import Derived.Test.YtgefhoikpjiamaaCmpR2
import Derived.Test.YtgefhoikpjiamaaCmpR3
import Derived.Test.YtgefhoikpjiamaaCmpF
import Derived.Test.YtgefhoikpjiamaaCmpQ
import Derived.Test.YtgefhoikpjiamaaWEqStruct
namespace Go.Proofs.Ytgefhoikpjiamaa.Cmp
open Go Go.RowKit Go.Proofs.YtgefhoikpjiamaaW.PrintWords Go.Proofs.YtgefhoikpjiamaaW.PrintLast Go.Proofs.YtgefhoikpjiamaaW.PrintMore
open Go.Proofs.Ytgefhoikpjiamaa.Hp Go.Proofs.Ytgefhoikpjiamaa.Bv
attribute [local go_sem] max2_int min2_int max_two min_two max_three min_three max_four min_four
set_option linter.unusedVariables false
set_option linter.unusedSimpArgs false
theorem rexpand_any (h : Nat) (hh : h < 65536) (w : World) : Calls Try.prog 8 #[.int .u16 (h : Int)] w fun e w' => e = .returned (.tuple #[i7 (rexpandP h).1, .bool (rexpandP h).2]) ∧ Fr (fun _ => False) w w' := by
  have hk : fN h 1 0 * 8 + fN h 15 13 = 0 ∨ fN h 1 0 * 8 + fN h 15 13 = 1 ∨ fN h 1 0 * 8 + fN h 15 13 = 2 ∨ fN h 1 0 * 8 + fN h 15 13 = 3 ∨ fN h 1 0 * 8 + fN h 15 13 = 4 ∨ fN h 1 0 * 8 + fN h 15 13 = 5 ∨ fN h 1 0 * 8 + fN h 15 13 = 6 ∨ fN h 1 0 * 8 + fN h 15 13 = 7 ∨ fN h 1 0 * 8 + fN h 15 13 = 8 ∨ fN h 1 0 * 8 + fN h 15 13 = 9 ∨ fN h 1 0 * 8 + fN h 15 13 = 10 ∨ fN h 1 0 * 8 + fN h 15 13 = 11 ∨ fN h 1 0 * 8 + fN h 15 13 = 12 ∨ fN h 1 0 * 8 + fN h 15 13 = 13 ∨ fN h 1 0 * 8 + fN h 15 13 = 14 ∨ fN h 1 0 * 8 + fN h 15 13 = 15 ∨ fN h 1 0 * 8 + fN h 15 13 = 16 ∨ fN h 1 0 * 8 + fN h 15 13 = 17 ∨ fN h 1 0 * 8 + fN h 15 13 = 18 ∨ fN h 1 0 * 8 + fN h 15 13 = 19 ∨ fN h 1 0 * 8 + fN h 15 13 = 20 ∨ fN h 1 0 * 8 + fN h 15 13 = 21 ∨ fN h 1 0 * 8 + fN h 15 13 = 22 ∨ fN h 1 0 * 8 + fN h 15 13 = 23 ∨ fN h 1 0 * 8 + fN h 15 13 = 24 ∨ fN h 1 0 * 8 + fN h 15 13 = 25 ∨ fN h 1 0 * 8 + fN h 15 13 = 26 ∨ fN h 1 0 * 8 + fN h 15 13 = 27 ∨ fN h 1 0 * 8 + fN h 15 13 = 28 ∨ fN h 1 0 * 8 + fN h 15 13 = 29 ∨ fN h 1 0 * 8 + fN h 15 13 = 30 ∨ fN h 1 0 * 8 + fN h 15 13 = 31 := by
    have a1 : fN h 1 0 < 4 := Nat.mod_lt _ (by decide)
    have a2 : fN h 15 13 < 8 := Nat.mod_lt _ (by decide)
    omega
  rcases hk with ck | ck | ck | ck | ck | ck | ck | ck | ck | ck | ck | ck | ck | ck | ck | ck | ck | ck | ck | ck | ck | ck | ck | ck | ck | ck | ck | ck | ck | ck | ck | ck
  · exact rexpand_0 h hh w ck
  · exact rexpand_1 h hh w ck
  · exact rexpand_2 h hh w ck
  · exact rexpand_3 h hh w ck
  · exact rexpand_4 h hh w ck
  · exact rexpand_5 h hh w ck
  · exact rexpand_6 h hh w ck
  · exact rexpand_7 h hh w ck
  · exact rexpand_8 h hh w ck
  · exact rexpand_9 h hh w ck
  · exact rexpand_10 h hh w ck
  · exact rexpand_11 h hh w ck
  · exact rexpand_12 h hh w ck
  · exact rexpand_13 h hh w ck
  · exact rexpand_14 h hh w ck
  · exact rexpand_15 h hh w ck
  · exact rexpand_16 h hh w ck
  · exact rexpand_17 h hh w ck
  · exact rexpand_18 h hh w ck
  · exact rexpand_19 h hh w ck
  · exact rexpand_20 h hh w ck
  · exact rexpand_21 h hh w ck
  · exact rexpand_22 h hh w ck
  · exact rexpand_23 h hh w ck
  · exact rexpand_24 h hh w ck
  · exact rexpand_25 h hh w ck
  · exact rexpand_26 h hh w ck
  · exact rexpand_27 h hh w ck
  · exact rexpand_28 h hh w ck
  · exact rexpand_29 h hh w ck
  · exact rexpand_30 h hh w ck
  · exact rexpand_31 h hh w ck
theorem eq_i64 (x : Int) (w : World) : (Op.equalIn 9999 3 (.int .i64 x) (.int .i64 x)).run Try.prog w = .ok true w := by
  rw [run_equalIn_int (P := Try.prog) w 9998 3 .i64 .i64 x x Try.underlying3, beq_self_eq_true]
theorem eqin_inst (x0 x1 x2 x3 x4 x5 x6 : Int) (w : World) : (Op.equalIn 10000 25 (.agg #[.int .i64 x0, .int .i64 x1, .int .i64 x2, .int .i64 x3, .int .i64 x4, .int .i64 x5, .int .i64 x6]) (.agg #[.int .i64 x0, .int .i64 x1, .int .i64 x2, .int .i64 x3, .int .i64 x4, .int .i64 x5, .int .i64 x6])).run Try.prog w = .ok true w :=
  eqA_of (r := true) Try.underlying25 (by kernel_rfl) (eqf_cons (r := true) (s := true) (by kernel_rfl) (a := .int .i64 x0) (b := .int .i64 x0) (by kernel_rfl) (by kernel_rfl) (eq_i64 _ _) (eqf_cons (r := true) (s := true) (by kernel_rfl) (a := .int .i64 x1) (b := .int .i64 x1) (by kernel_rfl) (by kernel_rfl) (eq_i64 _ _) (eqf_cons (r := true) (s := true) (by kernel_rfl) (a := .int .i64 x2) (b := .int .i64 x2) (by kernel_rfl) (by kernel_rfl) (eq_i64 _ _) (eqf_cons (r := true) (s := true) (by kernel_rfl) (a := .int .i64 x3) (b := .int .i64 x3) (by kernel_rfl) (by kernel_rfl) (eq_i64 _ _) (eqf_cons (r := true) (s := true) (by kernel_rfl) (a := .int .i64 x4) (b := .int .i64 x4) (by kernel_rfl) (by kernel_rfl) (eq_i64 _ _) (eqf_cons (r := true) (s := true) (by kernel_rfl) (a := .int .i64 x5) (b := .int .i64 x5) (by kernel_rfl) (by kernel_rfl) (eq_i64 _ _) (eqf_last (r := true) (by kernel_rfl) (a := .int .i64 x6) (b := .int .i64 x6) (by kernel_rfl) (by kernel_rfl) (eq_i64 _ _))))))))
theorem eq_inst (x0 x1 x2 x3 x4 x5 x6 : Int) (w : World) : (binOp .eql 25 (.agg #[.int .i64 x0, .int .i64 x1, .int .i64 x2, .int .i64 x3, .int .i64 x4, .int .i64 x5, .int .i64 x6]) (.agg #[.int .i64 x0, .int .i64 x1, .int .i64 x2, .int .i64 x3, .int .i64 x4, .int .i64 x5, .int .i64 x6])).run Try.prog w = .ok (.bool true) w := by
  rw [run_eql_struct, eqin_inst]
  rfl
theorem neq_inst (x0 x1 x2 x3 x4 x5 x6 : Int) (w : World) : (binOp .neq 25 (.agg #[.int .i64 x0, .int .i64 x1, .int .i64 x2, .int .i64 x3, .int .i64 x4, .int .i64 x5, .int .i64 x6]) (.agg #[.int .i64 x0, .int .i64 x1, .int .i64 x2, .int .i64 x3, .int .i64 x4, .int .i64 x5, .int .i64 x6])).run Try.prog w = .ok (.bool false) w := by
  rw [run_neq_struct, eqin_inst]
  rfl
set_option maxHeartbeats 4000000 in
theorem expands_any (h : Nat) (hh : h < 65536) (w : World) : Calls Try.prog 5 #[.int .u16 (h : Int)] w fun e w' => e = .returned (.bool true) ∧ Fr (fun _ => False) w w' := by
  have hC := expand_any h hh
  have hR := rexpand_any h hh
  rw [← expand_same h hh] at hR
  generalize expandP h = r at *
  obtain ⟨⟨x0, x1, x2, x3, x4, x5, x6⟩, ok⟩ := r
  have HC := Lib.hid (show ∀ w, Calls Try.prog 7 #[.int .u16 (h : Int)] w fun e w' => e = .returned (.tuple #[.agg #[.int .i64 x0, .int .i64 x1, .int .i64 x2, .int .i64 x3, .int .i64 x4, .int .i64 x5, .int .i64 x6], .bool ok]) ∧ Fr (fun _ => False) w w' from hC)
  have HR := Lib.hid (show ∀ w, Calls Try.prog 8 #[.int .u16 (h : Int)] w fun e w' => e = .returned (.tuple #[.agg #[.int .i64 x0, .int .i64 x1, .int .i64 x2, .int .i64 x3, .int .i64 x4, .int .i64 x5, .int .i64 x6], .bool ok]) ∧ Fr (fun _ => False) w w' from hR)
  have HS := Lib.hid (short2_any h hh)
  have hrem : (h : Int).tmod 4 = ((h % 4 : Nat) : Int) := by rw [Int.tmod_eq_emod_of_nonneg (Int.natCast_nonneg _)]; rfl
  have HB := Lib.hid (show (decide (h % 4 ≠ 3) == (((h % 4 : Nat) : Int) != 3)) = true from by
    have h4 : h % 4 < 4 := Nat.mod_lt _ (by decide)
    generalize h % 4 = q at *
    have hq : q = 0 ∨ q = 1 ∨ q = 2 ∨ q = 3 := by omega
    rcases hq with rfl | rfl | rfl | rfl <;> rfl)
  obtain ⟨b1, hb1⟩ : ∃ b, b = decide (h % 4 ≠ 3) := ⟨_, rfl⟩
  rw [← hb1] at HS HB
  have hremb : ((h : Int) % 4) = ((h % 4 : Nat) : Int) := rfl
  obtain ⟨q, hq⟩ : ∃ q, q = h % 4 := ⟨_, rfl⟩
  rw [← hq] at hrem hremb HB
  have HQ := Lib.hid hq
  have hq4 : q < 4 := by rw [hq]; exact Nat.mod_lt _ (by decide)
  have ea := eq_inst x0 x1 x2 x3 x4 x5 x6
  have eb : (ok == ok) = true := beq_self_eq_true _
  have ec := HB.out
  clear hC hR hb1 hq
  go_enter Try.func5, Try.ntmps5
  go_wp2_with fail
  refine (HC.out _).mono ?_
  rintro e w1 ⟨rfl, hf⟩
  have HB1 := Lib.hid (Blk.new w1 25 #[.int .i64 x0, .int .i64 x1, .int .i64 x2, .int .i64 x3, .int .i64 x4, .int .i64 x5, .int .i64 x6])
  have HF1 := Lib.hid (hf.alloc (.cells #[.int .i64 x0, .int .i64 x1, .int .i64 x2, .int .i64 x3, .int .i64 x4, .int .i64 x5, .int .i64 x6] 25))
  clear hf HC
  go_wp2_with fail
  refine (HR.out _).mono ?_
  rintro e w2 ⟨rfl, hf⟩
  have HB1 := Lib.hid ((HB1.out.fr hf id).alloc (.cells #[.int .i64 x0, .int .i64 x1, .int .i64 x2, .int .i64 x3, .int .i64 x4, .int .i64 x5, .int .i64 x6] 25))
  have HB2 := Lib.hid (Blk.new w2 25 #[.int .i64 x0, .int .i64 x1, .int .i64 x2, .int .i64 x3, .int .i64 x4, .int .i64 x5, .int .i64 x6])
  have HF1 := Lib.hid ((HF1.out.trans hf (fun _ _ h => h)).alloc (.cells #[.int .i64 x0, .int .i64 x1, .int .i64 x2, .int .i64 x3, .int .i64 x4, .int .i64 x5, .int .i64 x6] 25))
  clear hf HR
  go_wp2_with fail
  refine (answers_any _).mono ?_
  rintro e w3 ⟨rfl, hf⟩
  have HB1 := Lib.hid (HB1.out.fr hf id)
  have HB2 := Lib.hid (HB2.out.fr hf id)
  have HF1 := Lib.hid (HF1.out.trans hf (fun _ _ h => h))
  clear hf
  have k10 := HB1.out.cell 0
  have k11 := HB1.out.cell 1
  have k12 := HB1.out.cell 2
  have k13 := HB1.out.cell 3
  have k14 := HB1.out.cell 4
  have k15 := HB1.out.cell 5
  have k16 := HB1.out.cell 6
  have k20 := HB2.out.cell 0
  have k21 := HB2.out.cell 1
  have k22 := HB2.out.cell 2
  have k23 := HB2.out.cell 3
  have k24 := HB2.out.cell 4
  have k25 := HB2.out.cell 5
  have k26 := HB2.out.cell 6
  simp at k10 k11 k12 k13 k14 k15 k16 k20 k21 k22 k23 k24 k25 k26
  go_wp2_with fail
  first
  | (refine (HS.out _).mono ?_; rintro e w4 ⟨rfl, ⟨m, rfl⟩⟩)
  | (go_outline; fail)
  go_wp2_with fail
  go_ret
  exact ⟨by first | rfl | rw [ec], HF1.out.drewN _⟩
theorem expands_walk (a0 : Int) (W : World) (w0 : (Lit.int .u16 a0).wf = true) :
    Calls Try.prog 5 #[.int .u16 a0] W fun e W' => e = .returned (.bool true) ∧ Below W.heap.size W W' := by
  have b := Go.bounds_u16 w0
  obtain ⟨h, rfl⟩ := Int.eq_ofNat_of_zero_le b.1
  exact (expands_any h (by omega) W).mono fun _ _ g => ⟨g.1, Fr.below (Below.refl _ _) g.2 (fun _ _ => id)⟩
end Go.Proofs.Ytgefhoikpjiamaa.Cmp
