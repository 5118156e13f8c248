/- What a law of signals first asks, walked; which signals are quiet, by the document. -/
import Derived.Test.YtdlcejnkicdjnaaDoorSgF
namespace Go.Proofs.YtdlcejnkicdjnaaDoor.Sg
open Go Go.RowKit Go.Proofs.YtdlcejnkicdjnaaDoorW.PrintWords Go.Proofs.YtdlcejnkicdjnaaDoorW.PrintLast Go.Proofs.YtdlcejnkicdjnaaDoorW.PrintMore
open Go.Proofs.YtdlcejnkicdjnaaDoor.Hp Go.Proofs.YtdlcejnkicdjnaaDoor.Bv
attribute [local go_sem] max2_int min2_int max_two min_two max_three min_three max_four min_four
attribute [local go_sem] wrap_add wrap_sub wrap_mul wrap_neg and_U or_U xor_U andNot_U wrap_U
set_option linter.unusedVariables false
set_option linter.unusedSimpArgs false
theorem answers_take {n : Nat} {P' : BitVec 64} (h : TakeOk (fun _ => 0) 0#64 (bitZ 15 ||| bitZ 2) n P') : n = 2 := by
  have e : bitZ 15 ||| bitZ 2 = 16386#64 := by decide
  rw [e] at h
  have p2 : passZ 0 2 = false := by decide
  have b1 : (16386#64).getLsbD 1 = true := by decide
  rcases h with ⟨_, h, _⟩ | ⟨k, hk, rfl, h1, _, _, h2, _⟩
  · have := h 1 (by decide) b1 (by decide)
    exact absurd (p2.symm.trans this) (by decide)
  · by_cases c : 1 < k
    · have := h2 1 c b1 (by decide)
      exact absurd (p2.symm.trans this) (by decide)
    · obtain rfl | rfl : k = 0 ∨ k = 1 := by omega
      · exact absurd h1 (by decide)
      · rfl
theorem answers_any (w : World) (ht : Tb w) : Calls Tryd.prog 8 #[] w fun e w' => e = .returned (.bool true) ∧ Fr (fun _ => False) w w' := by
  have h0 := ht.lt
  have HR := Lib.hid (show ∀ (n : Int), 1 ≤ n ∧ n ≤ 64 → ∀ (A : Nat → Int) (M P x y : BitVec 64) (g : Nat) (w : World), St w g A M P x y → Calls Tryd.prog 11 #[.pointer (some ⟨g, 0, none⟩), .int .i64 n] w fun e w' => e = .returned (.int .i64 0) ∧ St w' g A M (P ||| bitZ n) x y ∧ Fr (fun k => k = g) w w' from fun n hn A M P x y g w h => raise_yes n hn w h)
  have HT := Lib.hid ht
  have HN := Lib.hid new_any
  have HI := Lib.hid bit_any
  have eb : (U (bitZ 1) == 1) = true := by decide +kernel
  clear ht
  go_enter Tryd.func8, Tryd.ntmps8
  go_wp2_with fail
  refine (HN.out _).mono ?_
  rintro e w1 ⟨rfl, hb, hf⟩
  have HB := Lib.hid hb
  have HF := Lib.hid hf
  clear hb hf
  go_wp2_with fail
  refine (HR.out 15 (by decide) _ _ _ _ _ _ _ HB.out).mono ?_
  rintro e w2 ⟨rfl, hb, hf⟩
  have HB := Lib.hid hb
  have HF := Lib.hid (HF.out.trans hf (fun i hi e => absurd e (by omega)))
  clear hb hf
  go_wp2_with fail
  refine (HR.out 2 (by decide) _ _ _ _ _ _ _ HB.out).mono ?_
  rintro e w3 ⟨rfl, hb, hf⟩
  have HB := Lib.hid hb
  have HF := Lib.hid (HF.out.trans hf (fun i hi e => absurd e (by omega)))
  clear hb hf
  go_wp2_with fail
  refine (take_any _ (by omega) (show St w3 w.heap.size (fun _ => 0) 0#64 (bitZ 15 ||| bitZ 2) 0#64 0#64 from by have e := HB.out; rwa [BitVec.zero_or] at e) (HT.out.fr HF.out id)).mono ?_
  rintro e w4 ⟨n, P', hk, rfl, hb, hf⟩
  obtain rfl := answers_take hk
  have ha : actC (fun _ => 0) 2 = #[.int .u64 0, .int .u64 0, .int .u64 0] := rfl
  rw [ha, show decide (0 < 2) = true from rfl]
  have HF := Lib.hid ((HF.out.trans hf (fun i hi e => absurd e (by omega))).alloc (.cells #[.int .u64 0, .int .u64 0, .int .u64 0] 33))
  clear hb hf hk HB
  go_wp2_with fail
  refine (HI.out _ _).mono ?_
  rintro e w5 ⟨rfl, hf⟩
  have HF := Lib.hid (HF.out.trans hf (fun _ _ => id))
  clear hf
  go_wp2_with fail
  go_ret
  exact ⟨by first | rfl | simp, HF.out⟩
end Go.Proofs.YtdlcejnkicdjnaaDoor.Sg
