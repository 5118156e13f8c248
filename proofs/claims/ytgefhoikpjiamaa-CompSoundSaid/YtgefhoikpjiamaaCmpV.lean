/- The law CompSound, walked: for every word of 16 bits. -/
import Derived.Test.YtgefhoikpjiamaaCmpF
import Derived.Test.YtgefhoikpjiamaaCmpL
import Derived.Test.YtgefhoikpjiamaaEncF
namespace Go.Proofs.Ytgefhoikpjiamaa.Cmp
open Go Go.RowKit Go.Proofs.YtgefhoikpjiamaaW.PrintWords Go.Proofs.YtgefhoikpjiamaaW.PrintLast Go.Proofs.YtgefhoikpjiamaaW.PrintMore
open Go.Proofs.Ytgefhoikpjiamaa.Hp Go.Proofs.Ytgefhoikpjiamaa.Bv
attribute [local go_sem] max2_int min2_int max_two min_two max_three min_three max_four min_four
set_option linter.unusedVariables false
set_option linter.unusedSimpArgs false
theorem sound_no (h : Nat) (HC : ∀ w, Calls Try.prog 7 #[.int .u16 (h : Int)] w fun e w' => e = .returned (.tuple #[.agg #[.int .i64 0, .int .i64 0, .int .i64 0, .int .i64 0, .int .i64 0, .int .i64 0, .int .i64 0], .bool false]) ∧ Fr (fun _ => False) w w') (w : World) :
    Calls Try.prog 6 #[.int .u16 (h : Int)] w fun e w' => e = .returned (.bool true) ∧ Fr (fun _ => False) w w' := by
  have HC := Lib.hid HC
  have hq := Ins.eqin_yes (show ((0, 0, 0, 0, 0, 0, 0) : Ins.I7) = (0, 0, 0, 0, 0, 0, 0) from rfl)
  go_enter Try.func6, Try.ntmps6
  go_wp2_with fail
  refine (HC.out _).mono ?_
  rintro e w1 ⟨rfl, hf⟩
  have HB := Lib.hid (Blk.new w1 25 #[.int .i64 0, .int .i64 0, .int .i64 0, .int .i64 0, .int .i64 0, .int .i64 0, .int .i64 0])
  have HF := Lib.hid (hf.alloc (.cells #[.int .i64 0, .int .i64 0, .int .i64 0, .int .i64 0, .int .i64 0, .int .i64 0, .int .i64 0] 25))
  clear hf HC
  go_wp2_with fail
  refine (answers_any _).mono ?_
  rintro e w2 ⟨rfl, hf⟩
  have HB := Lib.hid (HB.out.fr hf id)
  have HF := Lib.hid (HF.out.trans hf (fun _ _ => id))
  clear hf
  obtain ⟨k0, k1, k2, k3, k4, k5, k6, _, _, _, _, _, _, _⟩ := Ins.blkat7 HB.out
  go_wp2_with fail
  go_ret
  exact ⟨rfl, HF.out⟩
set_option maxHeartbeats 1000000 in
theorem sound_yes (h : Nat) (x0 x1 x2 x3 x4 x5 : Int) (HC : ∀ w, Calls Try.prog 7 #[.int .u16 (h : Int)] w fun e w' => e = .returned (.tuple #[.agg #[.int .i64 x0, .int .i64 x1, .int .i64 x2, .int .i64 x3, .int .i64 x4, .int .i64 x5, .int .i64 2], .bool true]) ∧ Fr (fun _ => False) w w')
    (he : (Ins.EncE (x0, x1, x2, x3, x4, x5, 4)).2 = true) (w : World) :
    Calls Try.prog 6 #[.int .u16 (h : Int)] w fun e w' => e = .returned (.bool true) ∧ Fr (fun _ => False) w w' := by
  have HC := Lib.hid HC
  have HS := Lib.hid (show ∀ W, Calls Try.prog 11 #[.agg #[.int .i64 x0, .int .i64 x1, .int .i64 x2, .int .i64 x3, .int .i64 x4, .int .i64 x5, .int .i64 4]] W fun e w' => e = .returned (.bool true) ∧ Fr (fun _ => False) W w' from fun W => by have e := Ins.Sound_any x0 x1 x2 x3 x4 x5 4 W; rw [he] at e; exact e)
  clear he
  go_enter Try.func6, Try.ntmps6
  go_wp2_with fail
  refine (HC.out _).mono ?_
  rintro e w1 ⟨rfl, hf⟩
  have HB := Lib.hid (Blk.new w1 25 #[.int .i64 x0, .int .i64 x1, .int .i64 x2, .int .i64 x3, .int .i64 x4, .int .i64 x5, .int .i64 4])
  have HF := Lib.hid (hf.alloc (.cells #[.int .i64 x0, .int .i64 x1, .int .i64 x2, .int .i64 x3, .int .i64 x4, .int .i64 x5, .int .i64 4] 25))
  clear hf HC
  go_wp2_with fail
  refine (answers_any _).mono ?_
  rintro e w2 ⟨rfl, hf⟩
  have HB := Lib.hid (HB.out.fr hf id)
  have HF := Lib.hid (HF.out.trans hf (fun _ _ => id))
  clear hf
  obtain ⟨k0, k1, k2, k3, k4, k5, k6, _, _, _, _, _, _, _⟩ := Ins.blkat7 HB.out
  go_wp2_with fail
  refine (HS.out _).mono ?_
  rintro e w3 ⟨rfl, hf⟩
  have HF := Lib.hid (HF.out.trans hf (fun _ _ => id))
  clear hf
  go_wp2_with fail
  go_ret
  exact ⟨rfl, HF.out⟩
theorem sound_any (h : Nat) (hh : h < 65536) (w : World) :
    Calls Try.prog 6 #[.int .u16 (h : Int)] w fun e w' => e = .returned (.bool true) ∧ Fr (fun _ => False) w w' := by
  have HC := expand_any h hh
  obtain ⟨⟨⟨x0, x1, x2, x3, x4, x5, x6⟩, ok⟩, he⟩ : ∃ r, expandP h = r := ⟨_, rfl⟩
  rw [he] at HC
  cases ok with
  | false =>
    have e := none_at h he
    obtain ⟨rfl, rfl, rfl, rfl, rfl, rfl, rfl⟩ : x0 = 0 ∧ x1 = 0 ∧ x2 = 0 ∧ x3 = 0 ∧ x4 = 0 ∧ x5 = 0 ∧ x6 = 0 := by simpa [i0] using e
    exact sound_no h HC w
  | true =>
    have e : x6 = 2 := size_at h he
    subst e
    exact sound_yes h x0 x1 x2 x3 x4 x5 HC (sound_at h hh he) w
theorem sound_walk (a0 : Int) (W : World) (w0 : (Lit.int .u16 a0).wf = true) :
    Calls Try.prog 6 #[.int .u16 a0] W fun e W' => e = .returned (.bool true) ∧ Below W.heap.size W W' := by
  have b := Go.bounds_u16 w0
  obtain ⟨h, rfl⟩ := Int.eq_ofNat_of_zero_le b.1
  exact (sound_any h (by omega) W).mono fun _ _ g => ⟨g.1, Fr.below (Below.refl _ _) g.2 (fun _ _ => id)⟩
end Go.Proofs.Ytgefhoikpjiamaa.Cmp
