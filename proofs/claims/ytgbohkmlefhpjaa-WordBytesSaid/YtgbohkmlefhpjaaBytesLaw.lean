/- For every slice of bytes, word and count: Put and Get answer what the document says, and what Put wrote is read back by Get. No further condition. The law's walk out of its callees' contracts. -/
import Derived.Test.YtgbohkmlefhpjaaByGet
import Derived.Test.YtgbohkmlefhpjaaByRGet
import Derived.Test.YtgbohkmlefhpjaaByPut
import Derived.Test.YtgbohkmlefhpjaaByRPut
import Derived.Test.YtgbohkmlefhpjaaBySame
import Derived.Test.YtgbohkmlefhpjaaPWordStepsx1
namespace Go.Proofs.Ytgbohkmlefhpjaa.By
open Go Go.RowKit Go.Proofs.YtgbohkmlefhpjaaW.PrintWords Go.Proofs.YtgbohkmlefhpjaaW.PrintLast Go.Proofs.YtgbohkmlefhpjaaW.PrintMore
open Go.Proofs.Ytgbohkmlefhpjaa.Bv
attribute [local go_sem] max2_int min2_int max_two min_two max_three min_three max_four min_four
set_option linter.unusedVariables false
set_option linter.unusedSimpArgs false
theorem answers_any (w : World) : Calls Try.prog 10 #[] w fun e w' => e = .returned (.bool true) ∧ Drawn0 w w' :=
  PWordSteps.marionettelaw01_answers.calls true w (by kernel_rfl)
/-- What is left of a word when it is shifted to the left and back. -/
theorem back (x : Int) (k : Nat) (hx : 0 ≤ x) (h1 : 1 ≤ k) (h8 : k ≤ 8) : IntKind.u64.wrap (x * 2 ^ (64 - 8 * k)) / 2 ^ (64 - 8 * k) = x % 256 ^ k := by
  have e : (18446744073709551616 : Int) = 256 ^ k * 2 ^ (64 - 8 * k) := by
    have e2 : ((256 : Int) ^ k) = 2 ^ (8 * k) := by rw [Int.pow_mul]; rfl
    rw [e2, ← Int.pow_add, show 8 * k + (64 - 8 * k) = 64 by omega]; rfl
  have hp : (0 : Int) < 2 ^ (64 - 8 * k) := Int.pow_pos (by decide)
  rw [IntKind.wrap_u64, e, Int.mul_comm (256 ^ k), Int.mul_comm x, Int.mul_emod_mul_of_pos _ _ hp, Int.mul_comm, Int.mul_ediv_cancel _ (by omega)]
theorem cut_from (A : Option Addr) (c : Nat) (xs : List Int) (j : Nat) (hj : j ≤ xs.length) (hc : xs.length ≤ c) :
    ∃ A' c', (∀ W : World, (Instr.slice 30 (.slice A xs.length c) (some (.int .i64 (j : Int))) none none).run Try.prog W = .ok (.slice A' (xs.drop j).length c') W) ∧
      (∀ w : World, Kd.C (Kd.int .u8) w A xs.length xs → Kd.C (Kd.int .u8) w A' (xs.drop j).length (xs.drop j)) ∧ (xs.drop j).length ≤ c' := by
  obtain ⟨i0, hi, _, hsz, _⟩ := info_parts info5
  obtain ⟨A', h1, h2, h3⟩ := print_drop_of (P := Try.prog) (Value.int .u8) 0 30 5 .i64 Try.underlying30 hi hsz A c xs (j : Int) (by omega) (by omega) hc
  rw [Int.toNat_natCast] at h1 h2 h3
  exact ⟨A', _, h1, fun w h => Kd.C_of_reads (h1 := fun _ => rfl) (h2 w (Kd.reads_of_C h)), h3⟩
set_option maxHeartbeats 4000000 in
theorem bytes_in (A : Option Addr) (c : Nat) (l : List Int) (x n : Int) (w : World) (hr : Kd.C (Kd.int .u8) w A l.length l) (hc : l.length ≤ c) (hb : bytes l) (hl : l.length ≤ 5000) (hx0 : 0 ≤ x) (hx1 : x < 18446744073709551616) :
    Calls Try.prog 7 #[.slice A l.length c, .int .u64 x, .int .i64 n] w fun e w' => e = .returned (.bool true) ∧ Below w.heap.size w w' := by
  have t0 : decide (5000 < (l.length : Int)) = false := decide_eq_false (by omega)
  have t1 : decide (5000 < l.length) = false := decide_eq_false (by omega)
  have HR := Aside0.mk hr
  have HC := Aside0.mk hc
  have HB := Aside0.mk (Below.refl w.heap.size w)
  clear hr hc
  go_enter Try.func7, Try.ntmps7
  go_wp2_with (first | ((with_reducible refine gate_dst (N := 13) rfl ?_); (try (refine gate_guard (by rfl) ?_; dsimp only)); refine Kd.R_lit (Kd.int .u8) _ 5 ?hg (N := 13) ?hd (xs := ([] : List Int)) (inner := []) (ok := fun _ => True) (okp := fun _ => True) ?hr ?hp (fun _ hk => hk) trivial (Below.refl _ _) (Nat.le_refl _) (by simp) ?_; (case hd => rfl); (case hg => rfl); (case hr => first | (go_simp; done) | (go_simp; rfl)); (case hp => exact (Reps.none _ _)); intro v1 wlit ho_ hb_ hg_ hnew_; clear hg_ hnew_; have n0_ := Aside0.mk (Kd.R_lower ho_ (below_size (by repeat (first | (with_reducible first | exact HB.out | apply below_alloc | apply pw_below_drewN | apply below_drew1) | exact HB.out)))); have n1_ := Aside0.mk (below_step (by repeat (first | (with_reducible first | exact HB.out | apply below_alloc | apply pw_below_drewN | apply below_drew1) | exact HB.out)) hb_); clear HB; have HO1 := n0_; have HB := n1_; clear n0_ n1_ hb_ ho_) | ((with_reducible refine gate_builtin (b := .append) (xs := #[.tmp 13, .tmp 14]) rfl ?_); (try (refine gate_guard (by rfl) ?_; dsimp only)); at_builtin; refine Kd.R_append_rows (Kd.int .u8) (w0 := w) w.heap.size rfl (.tmp 13) (.tmp 14) 30 5 (.int .u8 0) 1 rfl Try.underlying30 info5 rfl (by decide) (by omega) v1 ([] : List Int) l _ _ _ (fun _ => True) (fun _ => False) rfl rfl ?aO ?aR (fun _ _ h => h) (fun _ h => h.elim) ?aF ?aB ?aS ?aL ?_; (case aR => exact (by repeat (first | exact (Kd.C_below HR.out (by repeat (first | (with_reducible first | exact HB.out | apply below_alloc | apply pw_below_drewN | apply below_drew1) | exact HB.out))) | (with_reducible refine Kd.C_alloc ?_ _) | (with_reducible refine Kd.C_drewN ?_ _) | (with_reducible refine Kd.C_drew ?_)))); (case aB => exact (by repeat (first | (with_reducible first | exact HB.out | apply below_alloc | apply pw_below_drewN | apply below_drew1) | exact HB.out))); (case aF => exact (fun _ _ => trivial)); (case aO => exact (by (with_reducible repeat (first | apply Kd.R_alloc | apply Kd.R_drewN | apply Kd.R_drew)); exact HO1.out)); (case aS => exact (below_size (by repeat (first | (with_reducible first | exact HB.out | apply below_alloc | apply pw_below_drewN | apply below_drew1) | exact HB.out)))); (case aL => (simp only [List.length_append, List.length_nil, List.length_cons] at *; omega)); intro v2 wapp ho_ hb_ hg_ hat_; clear hg_ hat_; have n0_ := Aside0.mk (hb_); have n1_ := Aside0.mk (ho_); clear HB; clear HO1; have HB := n0_; have HO2 := n1_; clear n0_ n1_ ho_ hb_))
  have hO2 := HO2.out
  rw [List.nil_append] at hO2
  obtain ⟨A2, c2, rfl, hc2, hr2⟩ := Kd.R_reads hO2
  clear HO2
  refine (put_any A2 c2 l x n _ hr2 hc2 (by omega) hx0 hx1).mono ?_
  rintro e w3 ⟨v3, rfl, hO3, hB3⟩
  have HO3 := Aside0.mk (Kd.R_lower hO3 (below_size HB.out))
  have HB3 := Aside0.mk (below_step HB.out hB3)
  clear hO2 hr2 hc2 hO3 hB3 HB
  have HB := HB3
  clear HB3
  go_wp2_with fail
  refine (answers_any _).mono ?_
  rintro e w4 ⟨rfl, ⟨m4, rfl⟩⟩
  go_wp2_with fail
  refine (rput_any A c l x n _ (by repeat (first | exact (Kd.C_below HR.out (by repeat (first | (with_reducible first | exact HB.out | apply below_alloc | apply pw_below_drewN | apply below_drew1) | exact HB.out))) | (with_reducible refine Kd.C_alloc ?_ _) | (with_reducible refine Kd.C_drewN ?_ _) | (with_reducible refine Kd.C_drew ?_))) HC.out (by omega) hx0 hx1).mono ?_
  rintro e w5 ⟨v5, rfl, hO5, hB5⟩
  have HO3b := Aside0.mk (Kd.R_below (Kd.R_drewN HO3.out m4) hB5)
  have HO5 := Aside0.mk (Kd.R_lower hO5 (below_size (pw_below_drewN HB.out m4)))
  have HB5 := Aside0.mk (below_step (pw_below_drewN HB.out m4) hB5)
  clear hO5 hB5 HB HO3
  have HB := HB5
  clear HB5
  obtain ⟨A3, c3, rfl, hc3, hr3⟩ := Kd.R_reads HO3b.out
  obtain ⟨A5, c5, rfl, hc5, hr5⟩ := Kd.R_reads HO5.out
  have HC3 := Aside0.mk hc3
  have HR3 := Aside0.mk hr3
  clear hc3 hc5
  go_wp2_with fail
  refine (same_any A3 A5 c3 c5 _ _ _ hr3 hr5).mono ?_
  rintro e w6 ⟨rfl, ⟨m6, rfl⟩⟩
  have HR3b := Aside0.mk (Kd.C_drewN HR3.out m6)
  have HBw := Aside0.mk (pw_below_drewN HB.out m6)
  have HRb := Aside0.mk (Kd.C_below HR.out HBw.out)
  clear hr3 hr5 HR3 HO3b HO5 HB HR
  generalize w5.drewN m6 = W5 at *
  have HB := Aside0.mk (Below.refl W5.heap.size W5)
  have hdec : decide (putv l x n = putv l x n) = true := decide_eq_true rfl
  go_wp2_with (first | ((with_reducible refine gate_dst (N := 31) rfl ?_); (try (refine gate_guard (by rfl) ?_; dsimp only)); refine Kd.R_lit (Kd.int .u8) _ 5 ?hg (N := 31) ?hd (xs := ([] : List Int)) (inner := []) (ok := fun _ => True) (okp := fun _ => True) ?hr ?hp (fun _ hk => hk) trivial (Below.refl _ _) (Nat.le_refl _) (by simp) ?_; (case hd => rfl); (case hg => rfl); (case hr => first | (go_simp; done) | (go_simp; rfl)); (case hp => exact (Reps.none _ _)); intro v7 wlit ho_ hb_ hg_ hnew_; clear hg_ hnew_; have n0_ := Aside0.mk (Kd.R_lower ho_ (below_size (by repeat (first | (with_reducible first | exact HB.out | apply below_alloc | apply pw_below_drewN | apply below_drew1) | exact HB.out)))); have n1_ := Aside0.mk (below_step (by repeat (first | (with_reducible first | exact HB.out | apply below_alloc | apply pw_below_drewN | apply below_drew1) | exact HB.out)) hb_); clear HB; have HO7 := n0_; have HB := n1_; clear n0_ n1_ hb_ ho_) | ((with_reducible refine gate_builtin (b := .append) (xs := #[.tmp 31, .tmp 32]) rfl ?_); (try (refine gate_guard (by rfl) ?_; dsimp only)); at_builtin; refine Kd.R_append_rows (Kd.int .u8) (w0 := W5) W5.heap.size rfl (.tmp 31) (.tmp 32) 30 5 (.int .u8 0) 1 rfl Try.underlying30 info5 rfl (by decide) (by omega) v7 ([] : List Int) l _ _ _ (fun _ => True) (fun _ => False) rfl rfl ?aO ?aR (fun _ _ h => h) (fun _ h => h.elim) ?aF ?aB ?aS ?aL ?_; (case aR => exact (by repeat (first | exact (Kd.C_below HRb.out (by repeat (first | (with_reducible first | exact HB.out | apply below_alloc | apply pw_below_drewN | apply below_drew1) | exact HB.out))) | (with_reducible refine Kd.C_alloc ?_ _) | (with_reducible refine Kd.C_drewN ?_ _) | (with_reducible refine Kd.C_drew ?_)))); (case aB => exact (by repeat (first | (with_reducible first | exact HB.out | apply below_alloc | apply pw_below_drewN | apply below_drew1) | exact HB.out))); (case aF => exact (fun _ _ => trivial)); (case aO => exact (by (with_reducible repeat (first | apply Kd.R_alloc | apply Kd.R_drewN | apply Kd.R_drew)); exact HO7.out)); (case aS => exact (below_size (by repeat (first | (with_reducible first | exact HB.out | apply below_alloc | apply pw_below_drewN | apply below_drew1) | exact HB.out)))); (case aL => (simp only [List.length_append, List.length_nil, List.length_cons] at *; omega)); intro v8 wapp ho_ hb_ hg_ hat_; clear hg_ hat_; have n0_ := Aside0.mk (hb_); have n1_ := Aside0.mk (ho_); clear HB; clear HO7; have HB := n0_; have HO8 := n1_; clear n0_ n1_ ho_ hb_))
  have hO8 := HO8.out
  rw [List.nil_append] at hO8
  obtain ⟨A8, c8, rfl, hc8, hr8⟩ := Kd.R_reads hO8
  clear HO8 hO8
  refine (get_any A8 c8 l n _ hr8 hc8 hb).mono ?_
  rintro e w9 ⟨rfl, ⟨m9, rfl⟩⟩
  clear hr8 hc8
  go_wp2_with fail
  refine (rget_any A c l n _ (by repeat (first | exact (Kd.C_below HRb.out (by repeat (first | (with_reducible first | exact HB.out | apply below_alloc | apply pw_below_drewN | apply below_drew1) | exact HB.out))) | (with_reducible refine Kd.C_alloc ?_ _) | (with_reducible refine Kd.C_drewN ?_ _) | (with_reducible refine Kd.C_drew ?_))) hb).mono ?_
  rintro e w10 ⟨rfl, ⟨m10, rfl⟩⟩
  have hg : (getv l n != getv l n) = false := bne_self_eq_false _
  by_cases hn : 1 ≤ n ∧ n ≤ 8
  · obtain ⟨hn1, hn2⟩ := hn
    obtain ⟨k, rfl⟩ := Int.eq_ofNat_of_zero_le (show 0 ≤ n by omega)
    have u0 : decide ((k : Int) < 1) = false := decide_eq_false (by omega)
    have u1 : decide (8 < (k : Int)) = false := decide_eq_false (by omega)
    have hp : putv l x k = l ++ enc x k := by unfold putv; rw [if_pos ⟨hn1, hn2⟩, Int.toNat_natCast]
    rw [hp] at HR3b HC3 ⊢
    clear hp hdec
    have hlen := Lib.hid (show (l ++ enc x k).length = l.length + k by rw [List.length_append, enc_length])
    have hdrop := Lib.hid (show (l ++ enc x k).drop l.length = enc x k by rw [List.drop_left])
    generalize l ++ enc x k = o at *
    obtain ⟨Ad, cd, hcut, hrd, hcd⟩ := cut_from A3 c3 o l.length (by have := hlen.out; omega) HC3.out
    have hrd2 := Aside0.mk (hrd _ HR3b.out)
    have hcd2 := Aside0.mk hcd
    clear hrd hcd
    generalize o.drop l.length = d at *
    have hfin := Lib.hid (back x k hx0 (by omega) (by omega))
    go_wp2_with fail
    refine (get_any Ad cd d k _ (by repeat (first | exact (Kd.C_below hrd2.out (by repeat (first | (with_reducible first | exact HB.out | apply below_alloc | apply pw_below_drewN | apply below_drew1) | exact HB.out))) | (with_reducible refine Kd.C_alloc ?_ _) | (with_reducible refine Kd.C_drewN ?_ _) | (with_reducible refine Kd.C_drew ?_))) hcd2.out (by rw [hdrop.out]; exact enc_bytes _ _)).mono ?_
    rintro e w11 ⟨rfl, ⟨m11, rfl⟩⟩
    rw [hdrop.out]
    have hg2 : getv (enc x k) k = x % 256 ^ k := by
      unfold getv; rw [if_pos ⟨hn1, hn2⟩, Int.toNat_natCast, List.take_of_length_le (by rw [enc_length]; omega), le_enc _ _ hx0]
    rw [hg2]
    clear hg2 hcut
    go_wp2_with fail
    go_ret
    exact ⟨ret_bool (by rw [hfin.out]; exact beq_self_eq_true _), below_step HBw.out (by repeat (first | (with_reducible first | exact HB.out | apply below_alloc | apply pw_below_drewN | apply below_drew1) | exact HB.out))⟩
  · have u : n < 1 ∨ 8 < n := by omega
    have hp : putv l x n = l := by unfold putv; rw [if_neg hn]
    rw [hp]
    clear hn hp hdec HR3b HC3
    have hb0 : ((l.length : Int) == (l.length : Int)) = true := beq_self_eq_true _
    rcases u with u | u
    · have u0 : decide (n < 1) = true := decide_eq_true u
      go_wp2_with fail
      go_ret
      exact ⟨rfl, below_step HBw.out (by repeat (first | (with_reducible first | exact HB.out | apply below_alloc | apply pw_below_drewN | apply below_drew1) | exact HB.out))⟩
    · have u0 : decide (n < 1) = false := decide_eq_false (by omega)
      have u1 : decide (8 < n) = true := decide_eq_true u
      go_wp2_with fail
      go_ret
      exact ⟨rfl, below_step HBw.out (by repeat (first | (with_reducible first | exact HB.out | apply below_alloc | apply pw_below_drewN | apply below_drew1) | exact HB.out))⟩
theorem bytes_long (A : Option Addr) (c : Nat) (l : List Int) (x n : Int) (w : World) (hl : 5000 < l.length) (hm : l.length ≤ maxLen) :
    Calls Try.prog 7 #[.slice A l.length c, .int .u64 x, .int .i64 n] w fun e w' => e = .returned (.bool true) ∧ Below w.heap.size w w' := by
  unfold maxLen at hm
  have t0 : decide (5000 < (l.length : Int)) = true := decide_eq_true (by omega)
  have t1 : decide (5000 < l.length) = true := decide_eq_true (by omega)
  go_enter Try.func7, Try.ntmps7
  go_wp2_with fail
  refine (answers_any _).mono ?_
  rintro e w4 ⟨rfl, hd⟩
  have hb := hd.below
  clear hd
  go_wp2_with fail
  go_ret
  exact ⟨rfl, hb⟩
theorem bytes_walk (A : Option Addr) (c : Nat) (l : List Int) (x n : Int) (w : World) (hr : Kd.C (Kd.int .u8) w A l.length l) (hc : l.length ≤ c) (hm : l.length ≤ maxLen) (hb : ∀ y ∈ l, (Lit.int .u8 y).wf = true) (hx : (Lit.int .u64 x).wf = true) :
    Calls Try.prog 7 #[.slice A l.length c, .int .u64 x, .int .i64 n] w fun e w' => e = .returned (.bool true) ∧ Below w.heap.size w w' := by
  have bx := Go.bounds_u64 hx
  by_cases hl : l.length ≤ 5000
  · exact bytes_in A c l x n w hr hc (fun y hy => Go.bounds_u8 (hb y hy)) hl bx.1 (by omega)
  · exact bytes_long A c l x n w (by omega) hm
/-- The same, as the row opens its arguments. -/
theorem walk (a0 : Option Addr) (len0 cap0 : Nat) (z0 : List Int) (a1 : Int) (a2 : Int) (w : World) (w0 : (a0 = none ∧ len0 = 0 ∧ cap0 = 0 ∧ z0 = []) ∨ ∃ x, a0 = some x ∧ len0 ≤ cap0 ∧ cap0 ≤ maxLen ∧ z0.length = cap0 ∧ (∀ i, i < z0.length → w.cell? (x.add i) = some (.int .u8 (z0.getD i 0))) ∧ ∀ n ∈ z0, (Lit.int .u8 n).wf = true)
    (_ : len0 * 1 ≤ 140737488351232) (w1 : (Lit.int .u64 a1).wf = true) (_ : (Lit.int .i64 a2).wf = true) :
    Calls Try.prog 7 #[.slice a0 len0 cap0, .int .u64 a1, .int .i64 a2] w fun e w' => e = .returned (.bool true) ∧ Below w.heap.size w w' := by
  obtain ⟨l0, rfl, hr0, hm0, hw0, hc0⟩ := ReadsInt.ofRowC w0
  exact bytes_walk a0 cap0 l0 a1 a2 w (Kd.C_of_reads (d := (0 : Int)) (h1 := fun _ => rfl) hr0) hc0 hm0 hw0 w1
end Go.Proofs.Ytgbohkmlefhpjaa.By
