/- What CompFar says of short instructions, in plain Lean, and the law's walk: for every word of 16 bits. -/
import Derived.Test.YtgefhoikpjiamaaCmpE
import Derived.Deep.RegionHeld3
namespace Go.Proofs.Ytgefhoikpjiamaa.Cmp
open Go Go.RowKit Go.Proofs.YtgefhoikpjiamaaW.PrintWords Go.Proofs.YtgefhoikpjiamaaW.PrintLast Go.Proofs.YtgefhoikpjiamaaW.PrintMore
open Go.Proofs.Ytgefhoikpjiamaa.Hp Go.Proofs.Ytgefhoikpjiamaa.Bv
attribute [local go_sem] max2_int min2_int max_two min_two max_three min_three max_four min_four
set_option linter.unusedVariables false
set_option linter.unusedSimpArgs false
def farB (h : Nat) : Bool :=
  let i := (expandP h).1
  !(expandP h).2 || (if i.1 = 3 then decide (i.2.2.2.2.1 % 2 = 0) && (decide (-2048 ≤ i.2.2.2.2.1) && decide (i.2.2.2.2.1 < 2048))
  else if i.1 = 5 ∨ i.1 = 6 then decide (i.2.2.2.2.1 % 2 = 0) && (decide (-256 ≤ i.2.2.2.2.1) && (decide (i.2.2.2.2.1 < 256) && (decide (8 ≤ i.2.2.1) && decide (i.2.2.1 < 16))))
  else if i.1 = 13 ∨ i.1 = 20 then decide (i.2.2.2.2.1 % 4 = 0) && (decide (0 ≤ i.2.2.2.2.1) && decide (i.2.2.2.2.1 < 256))
  else if i.1 = 14 ∨ i.1 = 21 then decide (i.2.2.2.2.1 % 8 = 0) && (decide (0 ≤ i.2.2.2.2.1) && decide (i.2.2.2.2.1 < 512))
  else decide (0 ≤ i.2.1) && decide (i.2.1 < 32))
theorem far0 : allB farB 13 0 = true := by kernel_rfl
theorem far1 : allB farB 13 8192 = true := by kernel_rfl
theorem far2 : allB farB 13 16384 = true := by kernel_rfl
theorem far3 : allB farB 13 24576 = true := by kernel_rfl
theorem far4 : allB farB 13 32768 = true := by kernel_rfl
theorem far5 : allB farB 13 40960 = true := by kernel_rfl
theorem far6 : allB farB 13 49152 = true := by kernel_rfl
theorem far7 : allB farB 13 57344 = true := by kernel_rfl
theorem far_at (h : Nat) (hh : h < 65536) : farB h = true := by
  rcases Nat.lt_or_ge h 8192 with h0 | h0
  · exact allB_at _ _ _ _ far0 (by omega) (by omega)
  rcases Nat.lt_or_ge h 16384 with h1 | h1
  · exact allB_at _ _ _ _ far1 (by omega) (by omega)
  rcases Nat.lt_or_ge h 24576 with h2 | h2
  · exact allB_at _ _ _ _ far2 (by omega) (by omega)
  rcases Nat.lt_or_ge h 32768 with h3 | h3
  · exact allB_at _ _ _ _ far3 (by omega) (by omega)
  rcases Nat.lt_or_ge h 40960 with h4 | h4
  · exact allB_at _ _ _ _ far4 (by omega) (by omega)
  rcases Nat.lt_or_ge h 49152 with h5 | h5
  · exact allB_at _ _ _ _ far5 (by omega) (by omega)
  rcases Nat.lt_or_ge h 57344 with h6 | h6
  · exact allB_at _ _ _ _ far6 (by omega) (by omega)
  exact allB_at _ _ _ _ far7 (by omega) (by omega)
theorem answers_any (w : World) : Calls Try.prog 9 #[] w fun e w' => e = .returned (.bool true) ∧ Fr (fun _ => False) w w' := by
  have HE := Lib.hid (show ∀ w, Calls Try.prog 7 #[.int .u16 17669] w fun e w' => e = .returned (.tuple #[.agg #[.int .i64 22, .int .i64 10, .int .i64 0, .int .i64 0, .int .i64 1, .int .i64 0, .int .i64 2], .bool true]) ∧ Fr (fun _ => False) w w' from
    fun w => (expand_any 17669 (by decide) w).mono fun _ _ g => ⟨g.1.trans (by rw [show expandP 17669 = ((22, 10, 0, 0, 1, 0, 2), true) by kernel_rfl]; rfl), g.2⟩)
  go_enter Try.func9, Try.ntmps9
  go_wp2_with fail
  refine (HE.out _).mono ?_
  rintro e w' ⟨rfl, hf⟩
  have HF := Lib.hid hf
  clear hf
  go_wp2_with fail
  first | (go_quiet (fail); go_wp2_with fail) | skip
  go_ret
  exact ⟨rfl, by (repeat (first | (with_reducible exact HF.out) | (with_reducible apply Fr.drewN) | (with_reducible apply Fr.alloc) | (with_reducible apply Fr.drew)))⟩
/-- The block of i, and what is known of the world. -/
structure FS (w0 w : World) (g : Nat) (x0 x1 x2 x3 x4 x5 x6 : Int) : Prop where
  fr : Fr (fun _ => False) w0 w
  b : Blk w g 25 #[.int .i64 x0, .int .i64 x1, .int .i64 x2, .int .i64 x3, .int .i64 x4, .int .i64 x5, .int .i64 x6]
theorem FS.fr0 {w0 w w' : World} {g : Nat} {x0 x1 x2 x3 x4 x5 x6 : Int} (t : FS w0 w g x0 x1 x2 x3 x4 x5 x6) (k : Fr (fun _ => False) w w') : FS w0 w' g x0 x1 x2 x3 x4 x5 x6 := ⟨t.fr.trans k (fun _ _ h => h), t.b.fr k id⟩
theorem FS.all {w0 w : World} {g : Nat} {x0 x1 x2 x3 x4 x5 x6 : Int} (t : FS w0 w g x0 x1 x2 x3 x4 x5 x6) : FS w0 w g x0 x1 x2 x3 x4 x5 x6 ∧ w.cell? ⟨g, 1, none⟩ = some (.int .i64 x1) ∧ w.cell? ⟨g, 2, none⟩ = some (.int .i64 x2) ∧ w.cell? ⟨g, 4, none⟩ = some (.int .i64 x4) :=
  ⟨t, t.b.cell 1, t.b.cell 2, t.b.cell 4⟩
set_option maxHeartbeats 4000000 in
theorem far_k3 (h : Nat) (x0 x1 x2 x3 x4 x5 x6 : Int) (HC : ∀ w, Calls Try.prog 7 #[.int .u16 (h : Int)] w fun e w' => e = .returned (.tuple #[.agg #[.int .i64 x0, .int .i64 x1, .int .i64 x2, .int .i64 x3, .int .i64 x4, .int .i64 x5, .int .i64 x6], .bool true]) ∧ Fr (fun _ => False) w w') (ck : x0 = 3) (hm : x4 % 2 = 0) (h1 : -2048 ≤ x4) (h2 : x4 < 2048) (w : World) :
    Calls Try.prog 4 #[.int .u16 (h : Int)] w fun e w' => e = .returned (.bool true) ∧ Fr (fun _ => False) w w' := by
  subst ck
  have m1 : (x4.tmod 2 == 0) = true := by rw [beq_iff_eq]; exact Int.tmod_eq_zero_of_dvd (Int.dvd_of_emod_eq_zero hm)
  have l1 : decide (-2048 ≤ x4) = true := decide_eq_true (by omega)
  have l2 : decide (x4 < 2048) = true := decide_eq_true (by omega)
  clear hm h1 h2
  have HC := Lib.hid HC
  go_enter Try.func4, Try.ntmps4
  go_wp2_with fail
  refine (HC.out _).mono ?_
  rintro e w1 ⟨rfl, hf⟩
  have HB := Lib.hid (Blk.new w1 25 #[.int .i64 3, .int .i64 x1, .int .i64 x2, .int .i64 x3, .int .i64 x4, .int .i64 x5, .int .i64 x6])
  have HF := Lib.hid (hf.alloc (.cells #[.int .i64 3, .int .i64 x1, .int .i64 x2, .int .i64 x3, .int .i64 x4, .int .i64 x5, .int .i64 x6] 25))
  clear hf HC
  go_wp2_with fail
  have hss : FS w (w1.alloc (.cells #[.int .i64 3, .int .i64 x1, .int .i64 x2, .int .i64 x3, .int .i64 x4, .int .i64 x5, .int .i64 x6] 25)) w1.heap.size 3 x1 x2 x3 x4 x5 x6 := ⟨HF.out, HB.out⟩
  clear HF HB
  generalize w1.alloc (.cells #[.int .i64 3, .int .i64 x1, .int .i64 x2, .int .i64 x3, .int .i64 x4, .int .i64 x5, .int .i64 x6] 25) = w2 at *
  refine (answers_any _).mono ?_
  rintro e w3 ⟨rfl, hf⟩
  have h3 := FS.fr0 hss hf
  obtain ⟨-, k1, k2, k4⟩ := FS.all h3
  have H3 := Lib.hid h3
  clear h3 hss hf
  go_wp2_with fail
  go_ret
  exact ⟨rfl, H3.out.fr⟩
set_option maxHeartbeats 4000000 in
theorem far_k5 (h : Nat) (x0 x1 x2 x3 x4 x5 x6 : Int) (HC : ∀ w, Calls Try.prog 7 #[.int .u16 (h : Int)] w fun e w' => e = .returned (.tuple #[.agg #[.int .i64 x0, .int .i64 x1, .int .i64 x2, .int .i64 x3, .int .i64 x4, .int .i64 x5, .int .i64 x6], .bool true]) ∧ Fr (fun _ => False) w w') (ck : x0 = 5) (hm : x4 % 2 = 0) (h1 : -256 ≤ x4) (h2 : x4 < 256) (h3 : 8 ≤ x2) (h4 : x2 < 16) (w : World) :
    Calls Try.prog 4 #[.int .u16 (h : Int)] w fun e w' => e = .returned (.bool true) ∧ Fr (fun _ => False) w w' := by
  subst ck
  have m1 : (x4.tmod 2 == 0) = true := by rw [beq_iff_eq]; exact Int.tmod_eq_zero_of_dvd (Int.dvd_of_emod_eq_zero hm)
  have l1 : decide (-256 ≤ x4) = true := decide_eq_true (by omega)
  have l2 : decide (x4 < 256) = true := decide_eq_true (by omega)
  have l3 : decide (8 ≤ x2) = true := decide_eq_true (by omega)
  have l4 : decide (x2 < 16) = true := decide_eq_true (by omega)
  clear hm h1 h2 h3 h4
  have HC := Lib.hid HC
  go_enter Try.func4, Try.ntmps4
  go_wp2_with fail
  refine (HC.out _).mono ?_
  rintro e w1 ⟨rfl, hf⟩
  have HB := Lib.hid (Blk.new w1 25 #[.int .i64 5, .int .i64 x1, .int .i64 x2, .int .i64 x3, .int .i64 x4, .int .i64 x5, .int .i64 x6])
  have HF := Lib.hid (hf.alloc (.cells #[.int .i64 5, .int .i64 x1, .int .i64 x2, .int .i64 x3, .int .i64 x4, .int .i64 x5, .int .i64 x6] 25))
  clear hf HC
  go_wp2_with fail
  have hss : FS w (w1.alloc (.cells #[.int .i64 5, .int .i64 x1, .int .i64 x2, .int .i64 x3, .int .i64 x4, .int .i64 x5, .int .i64 x6] 25)) w1.heap.size 5 x1 x2 x3 x4 x5 x6 := ⟨HF.out, HB.out⟩
  clear HF HB
  generalize w1.alloc (.cells #[.int .i64 5, .int .i64 x1, .int .i64 x2, .int .i64 x3, .int .i64 x4, .int .i64 x5, .int .i64 x6] 25) = w2 at *
  refine (answers_any _).mono ?_
  rintro e w3 ⟨rfl, hf⟩
  have h3 := FS.fr0 hss hf
  obtain ⟨-, k1, k2, k4⟩ := FS.all h3
  have H3 := Lib.hid h3
  clear h3 hss hf
  go_wp2_with fail
  go_ret
  exact ⟨rfl, H3.out.fr⟩
set_option maxHeartbeats 4000000 in
theorem far_k6 (h : Nat) (x0 x1 x2 x3 x4 x5 x6 : Int) (HC : ∀ w, Calls Try.prog 7 #[.int .u16 (h : Int)] w fun e w' => e = .returned (.tuple #[.agg #[.int .i64 x0, .int .i64 x1, .int .i64 x2, .int .i64 x3, .int .i64 x4, .int .i64 x5, .int .i64 x6], .bool true]) ∧ Fr (fun _ => False) w w') (ck : x0 = 6) (hm : x4 % 2 = 0) (h1 : -256 ≤ x4) (h2 : x4 < 256) (h3 : 8 ≤ x2) (h4 : x2 < 16) (w : World) :
    Calls Try.prog 4 #[.int .u16 (h : Int)] w fun e w' => e = .returned (.bool true) ∧ Fr (fun _ => False) w w' := by
  subst ck
  have m1 : (x4.tmod 2 == 0) = true := by rw [beq_iff_eq]; exact Int.tmod_eq_zero_of_dvd (Int.dvd_of_emod_eq_zero hm)
  have l1 : decide (-256 ≤ x4) = true := decide_eq_true (by omega)
  have l2 : decide (x4 < 256) = true := decide_eq_true (by omega)
  have l3 : decide (8 ≤ x2) = true := decide_eq_true (by omega)
  have l4 : decide (x2 < 16) = true := decide_eq_true (by omega)
  clear hm h1 h2 h3 h4
  have HC := Lib.hid HC
  go_enter Try.func4, Try.ntmps4
  go_wp2_with fail
  refine (HC.out _).mono ?_
  rintro e w1 ⟨rfl, hf⟩
  have HB := Lib.hid (Blk.new w1 25 #[.int .i64 6, .int .i64 x1, .int .i64 x2, .int .i64 x3, .int .i64 x4, .int .i64 x5, .int .i64 x6])
  have HF := Lib.hid (hf.alloc (.cells #[.int .i64 6, .int .i64 x1, .int .i64 x2, .int .i64 x3, .int .i64 x4, .int .i64 x5, .int .i64 x6] 25))
  clear hf HC
  go_wp2_with fail
  have hss : FS w (w1.alloc (.cells #[.int .i64 6, .int .i64 x1, .int .i64 x2, .int .i64 x3, .int .i64 x4, .int .i64 x5, .int .i64 x6] 25)) w1.heap.size 6 x1 x2 x3 x4 x5 x6 := ⟨HF.out, HB.out⟩
  clear HF HB
  generalize w1.alloc (.cells #[.int .i64 6, .int .i64 x1, .int .i64 x2, .int .i64 x3, .int .i64 x4, .int .i64 x5, .int .i64 x6] 25) = w2 at *
  refine (answers_any _).mono ?_
  rintro e w3 ⟨rfl, hf⟩
  have h3 := FS.fr0 hss hf
  obtain ⟨-, k1, k2, k4⟩ := FS.all h3
  have H3 := Lib.hid h3
  clear h3 hss hf
  go_wp2_with fail
  go_ret
  exact ⟨rfl, H3.out.fr⟩
set_option maxHeartbeats 4000000 in
theorem far_k13 (h : Nat) (x0 x1 x2 x3 x4 x5 x6 : Int) (HC : ∀ w, Calls Try.prog 7 #[.int .u16 (h : Int)] w fun e w' => e = .returned (.tuple #[.agg #[.int .i64 x0, .int .i64 x1, .int .i64 x2, .int .i64 x3, .int .i64 x4, .int .i64 x5, .int .i64 x6], .bool true]) ∧ Fr (fun _ => False) w w') (ck : x0 = 13) (hm : x4 % 4 = 0) (h1 : 0 ≤ x4) (h2 : x4 < 256) (w : World) :
    Calls Try.prog 4 #[.int .u16 (h : Int)] w fun e w' => e = .returned (.bool true) ∧ Fr (fun _ => False) w w' := by
  subst ck
  have m1 : (x4.tmod 4 == 0) = true := by rw [beq_iff_eq]; exact Int.tmod_eq_zero_of_dvd (Int.dvd_of_emod_eq_zero hm)
  have m2 : ((x4 % 4) == 0) = true := by rw [beq_iff_eq]; exact hm
  have l1 : decide (0 ≤ x4) = true := decide_eq_true (by omega)
  have l2 : decide (x4 < 256) = true := decide_eq_true (by omega)
  clear hm h1 h2
  have HC := Lib.hid HC
  go_enter Try.func4, Try.ntmps4
  go_wp2_with fail
  refine (HC.out _).mono ?_
  rintro e w1 ⟨rfl, hf⟩
  have HB := Lib.hid (Blk.new w1 25 #[.int .i64 13, .int .i64 x1, .int .i64 x2, .int .i64 x3, .int .i64 x4, .int .i64 x5, .int .i64 x6])
  have HF := Lib.hid (hf.alloc (.cells #[.int .i64 13, .int .i64 x1, .int .i64 x2, .int .i64 x3, .int .i64 x4, .int .i64 x5, .int .i64 x6] 25))
  clear hf HC
  go_wp2_with fail
  have hss : FS w (w1.alloc (.cells #[.int .i64 13, .int .i64 x1, .int .i64 x2, .int .i64 x3, .int .i64 x4, .int .i64 x5, .int .i64 x6] 25)) w1.heap.size 13 x1 x2 x3 x4 x5 x6 := ⟨HF.out, HB.out⟩
  clear HF HB
  generalize w1.alloc (.cells #[.int .i64 13, .int .i64 x1, .int .i64 x2, .int .i64 x3, .int .i64 x4, .int .i64 x5, .int .i64 x6] 25) = w2 at *
  refine (answers_any _).mono ?_
  rintro e w3 ⟨rfl, hf⟩
  have h3 := FS.fr0 hss hf
  obtain ⟨-, k1, k2, k4⟩ := FS.all h3
  have H3 := Lib.hid h3
  clear h3 hss hf
  go_wp2_with fail
  go_ret
  exact ⟨rfl, H3.out.fr⟩
set_option maxHeartbeats 4000000 in
theorem far_k20 (h : Nat) (x0 x1 x2 x3 x4 x5 x6 : Int) (HC : ∀ w, Calls Try.prog 7 #[.int .u16 (h : Int)] w fun e w' => e = .returned (.tuple #[.agg #[.int .i64 x0, .int .i64 x1, .int .i64 x2, .int .i64 x3, .int .i64 x4, .int .i64 x5, .int .i64 x6], .bool true]) ∧ Fr (fun _ => False) w w') (ck : x0 = 20) (hm : x4 % 4 = 0) (h1 : 0 ≤ x4) (h2 : x4 < 256) (w : World) :
    Calls Try.prog 4 #[.int .u16 (h : Int)] w fun e w' => e = .returned (.bool true) ∧ Fr (fun _ => False) w w' := by
  subst ck
  have m1 : (x4.tmod 4 == 0) = true := by rw [beq_iff_eq]; exact Int.tmod_eq_zero_of_dvd (Int.dvd_of_emod_eq_zero hm)
  have m2 : ((x4 % 4) == 0) = true := by rw [beq_iff_eq]; exact hm
  have l1 : decide (0 ≤ x4) = true := decide_eq_true (by omega)
  have l2 : decide (x4 < 256) = true := decide_eq_true (by omega)
  clear hm h1 h2
  have HC := Lib.hid HC
  go_enter Try.func4, Try.ntmps4
  go_wp2_with fail
  refine (HC.out _).mono ?_
  rintro e w1 ⟨rfl, hf⟩
  have HB := Lib.hid (Blk.new w1 25 #[.int .i64 20, .int .i64 x1, .int .i64 x2, .int .i64 x3, .int .i64 x4, .int .i64 x5, .int .i64 x6])
  have HF := Lib.hid (hf.alloc (.cells #[.int .i64 20, .int .i64 x1, .int .i64 x2, .int .i64 x3, .int .i64 x4, .int .i64 x5, .int .i64 x6] 25))
  clear hf HC
  go_wp2_with fail
  have hss : FS w (w1.alloc (.cells #[.int .i64 20, .int .i64 x1, .int .i64 x2, .int .i64 x3, .int .i64 x4, .int .i64 x5, .int .i64 x6] 25)) w1.heap.size 20 x1 x2 x3 x4 x5 x6 := ⟨HF.out, HB.out⟩
  clear HF HB
  generalize w1.alloc (.cells #[.int .i64 20, .int .i64 x1, .int .i64 x2, .int .i64 x3, .int .i64 x4, .int .i64 x5, .int .i64 x6] 25) = w2 at *
  refine (answers_any _).mono ?_
  rintro e w3 ⟨rfl, hf⟩
  have h3 := FS.fr0 hss hf
  obtain ⟨-, k1, k2, k4⟩ := FS.all h3
  have H3 := Lib.hid h3
  clear h3 hss hf
  go_wp2_with fail
  go_ret
  exact ⟨rfl, H3.out.fr⟩
set_option maxHeartbeats 4000000 in
theorem far_k14 (h : Nat) (x0 x1 x2 x3 x4 x5 x6 : Int) (HC : ∀ w, Calls Try.prog 7 #[.int .u16 (h : Int)] w fun e w' => e = .returned (.tuple #[.agg #[.int .i64 x0, .int .i64 x1, .int .i64 x2, .int .i64 x3, .int .i64 x4, .int .i64 x5, .int .i64 x6], .bool true]) ∧ Fr (fun _ => False) w w') (ck : x0 = 14) (hm : x4 % 8 = 0) (h1 : 0 ≤ x4) (h2 : x4 < 512) (w : World) :
    Calls Try.prog 4 #[.int .u16 (h : Int)] w fun e w' => e = .returned (.bool true) ∧ Fr (fun _ => False) w w' := by
  subst ck
  have m1 : (x4.tmod 8 == 0) = true := by rw [beq_iff_eq]; exact Int.tmod_eq_zero_of_dvd (Int.dvd_of_emod_eq_zero hm)
  have m2 : ((x4 % 8) == 0) = true := by rw [beq_iff_eq]; exact hm
  have l1 : decide (0 ≤ x4) = true := decide_eq_true (by omega)
  have l2 : decide (x4 < 512) = true := decide_eq_true (by omega)
  clear hm h1 h2
  have HC := Lib.hid HC
  go_enter Try.func4, Try.ntmps4
  go_wp2_with fail
  refine (HC.out _).mono ?_
  rintro e w1 ⟨rfl, hf⟩
  have HB := Lib.hid (Blk.new w1 25 #[.int .i64 14, .int .i64 x1, .int .i64 x2, .int .i64 x3, .int .i64 x4, .int .i64 x5, .int .i64 x6])
  have HF := Lib.hid (hf.alloc (.cells #[.int .i64 14, .int .i64 x1, .int .i64 x2, .int .i64 x3, .int .i64 x4, .int .i64 x5, .int .i64 x6] 25))
  clear hf HC
  go_wp2_with fail
  have hss : FS w (w1.alloc (.cells #[.int .i64 14, .int .i64 x1, .int .i64 x2, .int .i64 x3, .int .i64 x4, .int .i64 x5, .int .i64 x6] 25)) w1.heap.size 14 x1 x2 x3 x4 x5 x6 := ⟨HF.out, HB.out⟩
  clear HF HB
  generalize w1.alloc (.cells #[.int .i64 14, .int .i64 x1, .int .i64 x2, .int .i64 x3, .int .i64 x4, .int .i64 x5, .int .i64 x6] 25) = w2 at *
  refine (answers_any _).mono ?_
  rintro e w3 ⟨rfl, hf⟩
  have h3 := FS.fr0 hss hf
  obtain ⟨-, k1, k2, k4⟩ := FS.all h3
  have H3 := Lib.hid h3
  clear h3 hss hf
  go_wp2_with fail
  go_ret
  exact ⟨rfl, H3.out.fr⟩
set_option maxHeartbeats 4000000 in
theorem far_k21 (h : Nat) (x0 x1 x2 x3 x4 x5 x6 : Int) (HC : ∀ w, Calls Try.prog 7 #[.int .u16 (h : Int)] w fun e w' => e = .returned (.tuple #[.agg #[.int .i64 x0, .int .i64 x1, .int .i64 x2, .int .i64 x3, .int .i64 x4, .int .i64 x5, .int .i64 x6], .bool true]) ∧ Fr (fun _ => False) w w') (ck : x0 = 21) (hm : x4 % 8 = 0) (h1 : 0 ≤ x4) (h2 : x4 < 512) (w : World) :
    Calls Try.prog 4 #[.int .u16 (h : Int)] w fun e w' => e = .returned (.bool true) ∧ Fr (fun _ => False) w w' := by
  subst ck
  have m1 : (x4.tmod 8 == 0) = true := by rw [beq_iff_eq]; exact Int.tmod_eq_zero_of_dvd (Int.dvd_of_emod_eq_zero hm)
  have m2 : ((x4 % 8) == 0) = true := by rw [beq_iff_eq]; exact hm
  have l1 : decide (0 ≤ x4) = true := decide_eq_true (by omega)
  have l2 : decide (x4 < 512) = true := decide_eq_true (by omega)
  clear hm h1 h2
  have HC := Lib.hid HC
  go_enter Try.func4, Try.ntmps4
  go_wp2_with fail
  refine (HC.out _).mono ?_
  rintro e w1 ⟨rfl, hf⟩
  have HB := Lib.hid (Blk.new w1 25 #[.int .i64 21, .int .i64 x1, .int .i64 x2, .int .i64 x3, .int .i64 x4, .int .i64 x5, .int .i64 x6])
  have HF := Lib.hid (hf.alloc (.cells #[.int .i64 21, .int .i64 x1, .int .i64 x2, .int .i64 x3, .int .i64 x4, .int .i64 x5, .int .i64 x6] 25))
  clear hf HC
  go_wp2_with fail
  have hss : FS w (w1.alloc (.cells #[.int .i64 21, .int .i64 x1, .int .i64 x2, .int .i64 x3, .int .i64 x4, .int .i64 x5, .int .i64 x6] 25)) w1.heap.size 21 x1 x2 x3 x4 x5 x6 := ⟨HF.out, HB.out⟩
  clear HF HB
  generalize w1.alloc (.cells #[.int .i64 21, .int .i64 x1, .int .i64 x2, .int .i64 x3, .int .i64 x4, .int .i64 x5, .int .i64 x6] 25) = w2 at *
  refine (answers_any _).mono ?_
  rintro e w3 ⟨rfl, hf⟩
  have h3 := FS.fr0 hss hf
  obtain ⟨-, k1, k2, k4⟩ := FS.all h3
  have H3 := Lib.hid h3
  clear h3 hss hf
  go_wp2_with fail
  go_ret
  exact ⟨rfl, H3.out.fr⟩
set_option maxHeartbeats 4000000 in
theorem far_other (h : Nat) (x0 x1 x2 x3 x4 x5 x6 : Int) (HC : ∀ w, Calls Try.prog 7 #[.int .u16 (h : Int)] w fun e w' => e = .returned (.tuple #[.agg #[.int .i64 x0, .int .i64 x1, .int .i64 x2, .int .i64 x3, .int .i64 x4, .int .i64 x5, .int .i64 x6], .bool true]) ∧ Fr (fun _ => False) w w') (ck : x0 ≠ 3 ∧ x0 ≠ 5 ∧ x0 ≠ 6 ∧ x0 ≠ 13 ∧ x0 ≠ 20 ∧ x0 ≠ 14 ∧ x0 ≠ 21) (h1 : 0 ≤ x1) (h2 : x1 < 32) (w : World) :
    Calls Try.prog 4 #[.int .u16 (h : Int)] w fun e w' => e = .returned (.bool true) ∧ Fr (fun _ => False) w w' := by
  obtain ⟨c3, c5, c6, c13, c20, c14, c21⟩ := ck
  have q3 : (x0 == 3) = false := beq_eq_false_iff_ne.2 c3
  have q5 : (x0 == 5) = false := beq_eq_false_iff_ne.2 c5
  have q6 : (x0 == 6) = false := beq_eq_false_iff_ne.2 c6
  have q13 : (x0 == 13) = false := beq_eq_false_iff_ne.2 c13
  have q20 : (x0 == 20) = false := beq_eq_false_iff_ne.2 c20
  have q14 : (x0 == 14) = false := beq_eq_false_iff_ne.2 c14
  have q21 : (x0 == 21) = false := beq_eq_false_iff_ne.2 c21
  have l1 : decide (0 ≤ x1) = true := decide_eq_true (by omega)
  have l2 : decide (x1 < 32) = true := decide_eq_true (by omega)
  clear h1 h2 c3 c5 c6 c13 c20 c14 c21
  have HC := Lib.hid HC
  go_enter Try.func4, Try.ntmps4
  go_wp2_with fail
  refine (HC.out _).mono ?_
  rintro e w1 ⟨rfl, hf⟩
  have HB := Lib.hid (Blk.new w1 25 #[.int .i64 x0, .int .i64 x1, .int .i64 x2, .int .i64 x3, .int .i64 x4, .int .i64 x5, .int .i64 x6])
  have HF := Lib.hid (hf.alloc (.cells #[.int .i64 x0, .int .i64 x1, .int .i64 x2, .int .i64 x3, .int .i64 x4, .int .i64 x5, .int .i64 x6] 25))
  clear hf HC
  go_wp2_with fail
  have hss : FS w (w1.alloc (.cells #[.int .i64 x0, .int .i64 x1, .int .i64 x2, .int .i64 x3, .int .i64 x4, .int .i64 x5, .int .i64 x6] 25)) w1.heap.size x0 x1 x2 x3 x4 x5 x6 := ⟨HF.out, HB.out⟩
  clear HF HB
  generalize w1.alloc (.cells #[.int .i64 x0, .int .i64 x1, .int .i64 x2, .int .i64 x3, .int .i64 x4, .int .i64 x5, .int .i64 x6] 25) = w2 at *
  refine (answers_any _).mono ?_
  rintro e w3 ⟨rfl, hf⟩
  have h3 := FS.fr0 hss hf
  obtain ⟨-, k1, k2, k4⟩ := FS.all h3
  have H3 := Lib.hid h3
  clear h3 hss hf
  go_wp2_with fail
  go_ret
  exact ⟨rfl, H3.out.fr⟩
theorem far_no (h : Nat) (i : I7) (HC : ∀ w, Calls Try.prog 7 #[.int .u16 (h : Int)] w fun e w' => e = .returned (.tuple #[i7 i, .bool false]) ∧ Fr (fun _ => False) w w') (w : World) :
    Calls Try.prog 4 #[.int .u16 (h : Int)] w fun e w' => e = .returned (.bool true) ∧ Fr (fun _ => False) w w' := by
  obtain ⟨x0, x1, x2, x3, x4, x5, x6⟩ := i
  have HC := Lib.hid (show ∀ w, Calls Try.prog 7 #[.int .u16 (h : Int)] w fun e w' => e = .returned (.tuple #[.agg #[.int .i64 x0, .int .i64 x1, .int .i64 x2, .int .i64 x3, .int .i64 x4, .int .i64 x5, .int .i64 x6], .bool false]) ∧ Fr (fun _ => False) w w' from HC)
  go_enter Try.func4, Try.ntmps4
  go_wp2_with fail
  refine (HC.out _).mono ?_
  rintro e w1 ⟨rfl, hf⟩
  have HF := Lib.hid hf
  clear hf HC
  go_wp2_with fail
  refine (answers_any _).mono ?_
  rintro e w2 ⟨rfl, hf⟩
  have HF2 := Lib.hid hf
  clear hf
  go_wp2_with fail
  go_ret
  exact ⟨rfl, Fr.trans (HF.out.alloc _) HF2.out (fun _ _ h => h)⟩
theorem far_any (h : Nat) (hh : h < 65536) (w : World) :
    Calls Try.prog 4 #[.int .u16 (h : Int)] w fun e w' => e = .returned (.bool true) ∧ Fr (fun _ => False) w w' := by
  have hB := far_at h hh
  have HC := expand_any h hh
  unfold farB at hB
  generalize expandP h = r at *
  obtain ⟨i, ok⟩ := r
  obtain ⟨x0, x1, x2, x3, x4, x5, x6⟩ := i
  cases ok with
  | false => exact far_no h _ HC w
  | true =>
    have HC : ∀ w, Calls Try.prog 7 #[.int .u16 (h : Int)] w fun e w' => e = .returned (.tuple #[.agg #[.int .i64 x0, .int .i64 x1, .int .i64 x2, .int .i64 x3, .int .i64 x4, .int .i64 x5, .int .i64 x6], .bool true]) ∧ Fr (fun _ => False) w w' := HC
    simp only [Bool.not_true, Bool.false_or] at hB
    by_cases k3 : x0 = 3
    · rw [if_pos k3] at hB
      simp only [Bool.and_eq_true, decide_eq_true_eq] at hB
      exact far_k3 h _ _ _ _ _ _ _ HC k3 hB.1 hB.2.1 hB.2.2 w
    rw [if_neg k3] at hB
    by_cases k5 : x0 = 5 ∨ x0 = 6
    · rw [if_pos k5] at hB
      simp only [Bool.and_eq_true, decide_eq_true_eq] at hB
      rcases k5 with k | k
      · exact far_k5 h _ _ _ _ _ _ _ HC k hB.1 hB.2.1 hB.2.2.1 hB.2.2.2.1 hB.2.2.2.2 w
      · exact far_k6 h _ _ _ _ _ _ _ HC k hB.1 hB.2.1 hB.2.2.1 hB.2.2.2.1 hB.2.2.2.2 w
    rw [if_neg k5] at hB
    by_cases k13 : x0 = 13 ∨ x0 = 20
    · rw [if_pos k13] at hB
      simp only [Bool.and_eq_true, decide_eq_true_eq] at hB
      rcases k13 with k | k
      · exact far_k13 h _ _ _ _ _ _ _ HC k hB.1 hB.2.1 hB.2.2 w
      · exact far_k20 h _ _ _ _ _ _ _ HC k hB.1 hB.2.1 hB.2.2 w
    rw [if_neg k13] at hB
    by_cases k14 : x0 = 14 ∨ x0 = 21
    · rw [if_pos k14] at hB
      simp only [Bool.and_eq_true, decide_eq_true_eq] at hB
      rcases k14 with k | k
      · exact far_k14 h _ _ _ _ _ _ _ HC k hB.1 hB.2.1 hB.2.2 w
      · exact far_k21 h _ _ _ _ _ _ _ HC k hB.1 hB.2.1 hB.2.2 w
    rw [if_neg k14] at hB
    simp only [Bool.and_eq_true, decide_eq_true_eq] at hB
    exact far_other h _ _ _ _ _ _ _ HC ⟨k3, fun k => k5 (.inl k), fun k => k5 (.inr k), fun k => k13 (.inl k), fun k => k13 (.inr k), fun k => k14 (.inl k), fun k => k14 (.inr k)⟩ hB.1 hB.2 w
theorem far_walk (a0 : Int) (W : World) (w0 : (Lit.int .u16 a0).wf = true) :
    Calls Try.prog 4 #[.int .u16 a0] W fun e W' => e = .returned (.bool true) ∧ Below W.heap.size W W' := by
  have b := Go.bounds_u16 w0
  obtain ⟨h, rfl⟩ := Int.eq_ofNat_of_zero_le b.1
  exact (far_any h (by omega) W).mono fun _ _ g => ⟨g.1, Fr.below (Below.refl _ _) g.2 (fun _ _ => id)⟩
end Go.Proofs.Ytgefhoikpjiamaa.Cmp
