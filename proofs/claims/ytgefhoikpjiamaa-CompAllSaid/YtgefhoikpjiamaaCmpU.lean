/- The law CompAll: for every upper byte all 256 words with it. No further condition. -/
import Derived.Test.YtgefhoikpjiamaaCmpS
namespace Go.Proofs.Ytgefhoikpjiamaa.Cmp
open Go Go.RowKit Go.Proofs.YtgefhoikpjiamaaW.PrintWords Go.Proofs.YtgefhoikpjiamaaW.PrintLast Go.Proofs.YtgefhoikpjiamaaW.PrintMore
open Go.Proofs.Ytgefhoikpjiamaa.Hp Go.Proofs.Ytgefhoikpjiamaa.Bv
attribute [local go_sem] max2_int min2_int max_two min_two max_three min_three max_four min_four
set_option linter.unusedVariables false
set_option linter.unusedSimpArgs false
set_option maxRecDepth 100000 in
set_option maxHeartbeats 1000000 in
theorem all_any (u : Nat) (hu : u < 256) (w : World) : Calls Try.prog 3 #[.int .u8 (u : Int)] w fun e w' => e = .returned (.bool true) ∧ Fr (fun _ => False) w w' := by
  have s1 : IntKind.u16.wrap ((u : Int) * 256) = ((u * 256 : Nat) : Int) := by rw [IntKind.wrap_u16]; omega
  have s2 : IntKind.u16.wrap (u : Int) = (u : Int) := by rw [IntKind.wrap_u16]; omega
  go_enter Try.func3, Try.ntmps3
  go_wp2
  go_loopw [3] (fun i wr => ∃ k : Nat, k ≤ 256 ∧ i = .int .i64 k ∧ Fr (fun _ => False) w wr) (fun i _ => 256 - (intOf i).toNat)
  case atStart => exact ⟨0, by omega, rfl, Fr.refl _ _⟩
  case round =>
    obtain ⟨k, hk, rfl, hf0⟩ := hrel
    have HF0 := Lib.hid hf0
    clear hf0
    by_cases hlt : k < 256
    · have hh : u * 256 + k < 65536 := by omega
      have hC := expand_any (u * 256 + k) hh
      have hR := rexpand_any (u * 256 + k) hh
      rw [← expand_same _ hh] at hR
      generalize expandP (u * 256 + k) = r at *
      obtain ⟨⟨x0, x1, x2, x3, x4, x5, x6⟩, ok⟩ := r
      obtain ⟨h, hhe⟩ : ∃ h, h = u * 256 + k := ⟨_, rfl⟩
      rw [← hhe] at hC hR hh
      have HC := Lib.hid (show ∀ w, Calls Try.prog 7 #[.int .u16 (h : Int)] w fun e w' => e = .returned (.tuple #[.agg #[.int .i64 x0, .int .i64 x1, .int .i64 x2, .int .i64 x3, .int .i64 x4, .int .i64 x5, .int .i64 x6], .bool ok]) ∧ Fr (fun _ => False) w w' from hC)
      have HR := Lib.hid (show ∀ w, Calls Try.prog 8 #[.int .u16 (h : Int)] w fun e w' => e = .returned (.tuple #[.agg #[.int .i64 x0, .int .i64 x1, .int .i64 x2, .int .i64 x3, .int .i64 x4, .int .i64 x5, .int .i64 x6], .bool ok]) ∧ Fr (fun _ => False) w w' from hR)
      have t1 : ((u : Int) * 256 + (k : Int)) = (h : Int) := by omega
      have T1 := Lib.hid t1
      clear t1
      have t2 : IntKind.u16.wrap (h : Int) = (h : Int) := by rw [IntKind.wrap_u16]; omega
      have t3 : IntKind.u16.wrap (k : Int) = (k : Int) := by rw [IntKind.wrap_u16]; omega
      have ea := neq_inst x0 x1 x2 x3 x4 x5 x6
      have eb : (ok != ok) = false := bne_self_eq_false _
      clear hC hR hhe t2 t3
      go_wp2_with fail
      rw [T1.out]
      refine (HC.out _).mono ?_
      rintro e w1 ⟨rfl, hf⟩
      have HB1 := Lib.hid (Blk.new w1 25 #[.int .i64 x0, .int .i64 x1, .int .i64 x2, .int .i64 x3, .int .i64 x4, .int .i64 x5, .int .i64 x6])
      have HF1 := Lib.hid ((HF0.out.trans hf (fun _ _ h => h)).alloc (.cells #[.int .i64 x0, .int .i64 x1, .int .i64 x2, .int .i64 x3, .int .i64 x4, .int .i64 x5, .int .i64 x6] 25))
      clear hf HC HF0
      go_wp2_with fail
      refine (HR.out _).mono ?_
      rintro e w2 ⟨rfl, hf⟩
      have HB1 := Lib.hid ((HB1.out.fr hf id).alloc (.cells #[.int .i64 x0, .int .i64 x1, .int .i64 x2, .int .i64 x3, .int .i64 x4, .int .i64 x5, .int .i64 x6] 25))
      have HB2 := Lib.hid (Blk.new w2 25 #[.int .i64 x0, .int .i64 x1, .int .i64 x2, .int .i64 x3, .int .i64 x4, .int .i64 x5, .int .i64 x6])
      have HF1 := Lib.hid ((HF1.out.trans hf (fun _ _ h => h)).alloc (.cells #[.int .i64 x0, .int .i64 x1, .int .i64 x2, .int .i64 x3, .int .i64 x4, .int .i64 x5, .int .i64 x6] 25))
      clear hf HR
      have k10 := HB1.out.cell 0
      have k11 := HB1.out.cell 1
      have k12 := HB1.out.cell 2
      have k13 := HB1.out.cell 3
      have k14 := HB1.out.cell 4
      have k15 := HB1.out.cell 5
      have k16 := HB1.out.cell 6
      have k20 := HB2.out.cell 0
      have k21 := HB2.out.cell 1
      have k22 := HB2.out.cell 2
      have k23 := HB2.out.cell 3
      have k24 := HB2.out.cell 4
      have k25 := HB2.out.cell 5
      have k26 := HB2.out.cell 6
      simp at k10 k11 k12 k13 k14 k15 k16 k20 k21 k22 k23 k24 k25 k26
      go_wp2_with fail
      go_roundw
      case rel => exact ⟨k + 1, by omega, by go_num, by (repeat (first | (with_reducible exact HF1.out) | (with_reducible apply Fr.drewN) | (with_reducible apply Fr.drew)))⟩
      case measure => simp [intOf]; omega
    · obtain rfl : k = 256 := by omega
      go_wp2_with fail
      refine (answers_any _).mono ?_
      rintro e w1 ⟨rfl, hf⟩
      have HF1 := Lib.hid (HF0.out.trans hf (fun _ _ h => h))
      clear hf
      go_wp2_with fail
      go_ret
      exact ⟨rfl, HF1.out⟩
theorem all_walk (a0 : Int) (W : World) (w0 : (Lit.int .u8 a0).wf = true) :
    Calls Try.prog 3 #[.int .u8 a0] W fun e W' => e = .returned (.bool true) ∧ Below W.heap.size W W' := by
  have b := Go.bounds_u8 w0
  obtain ⟨u, rfl⟩ := Int.eq_ofNat_of_zero_le b.1
  exact (all_any u (by omega) W).mono fun _ _ g => ⟨g.1, Fr.below (Below.refl _ _) g.2 (fun _ _ => id)⟩
end Go.Proofs.Ytgefhoikpjiamaa.Cmp
