/- The contracts of package comp's reckon and second, walked: each answers what its plain twin says, for every word of 16 bits. -/
import Derived.Test.YtgefhoikpjiamaaCmpW
import Derived.Outline
import Derived.Laws.ResultCell
namespace Go.Proofs.Ytgefhoikpjiamaa.Cmp
open Go Go.RowKit Go.Proofs.YtgefhoikpjiamaaW.PrintWords Go.Proofs.YtgefhoikpjiamaaW.PrintLast Go.Proofs.YtgefhoikpjiamaaW.PrintMore
open Go.Proofs.Ytgefhoikpjiamaa.Hp Go.Proofs.Ytgefhoikpjiamaa.Bv
attribute [local go_sem] max2_int min2_int max_two min_two max_three min_three max_four min_four
set_option linter.unusedVariables false
set_option linter.unusedSimpArgs false
set_option maxHeartbeats 1000000 in
theorem reckon_0 (h : Nat) (hh : h < 65536) (w : World) (ck : bv h 10 2 0 = 0) : Calls Try.prog 28 #[.int .u16 (h : Int)] w fun e w' => e = .returned (i7 (reckonP h)) ∧ Fr (fun _ => False) w w' := by
  have HK := Lib.hid (show ∀ w, Calls Try.prog 22 #[.int .u16 (h : Int), .int .i64 10, .int .i64 2, .int .i64 0] w fun e w' => e = .returned (.int .i64 (0)) ∧ Drawn0 w w' from fun w => by have g := bits_any h 10 2 0 hh (by decide) (by decide) w; rw [ck] at g; exact g)
  have HG7 := Lib.hid (show ∀ w, Calls Try.prog 21 #[.int .u16 (h : Int), .int .i64 7] w fun e w' => e = .returned (.int .i64 ((regP h 7 : Nat) : Int)) ∧ Drawn0 w w' from reg_any h 7 hh (by decide))
  have HX6 := Lib.hid (six_any h hh)
  have hP : reckonP h = (29, ((regP h 7 : Nat) : Int), ((regP h 7 : Nat) : Int), 0, ((sixP h : Nat) : Int), 0, 0) := by unfold reckonP; rw [if_pos ck]
  rw [hP]
  clear hP ck
  generalize regP h 7 = a at *
  generalize sixP h = n at *
  go_enter Try.func28, Try.ntmps28
  go_wp2_with (first | (go_at_call 21; (with_reducible refine (HG7.out _).mono ?_); rintro e w' ⟨rfl, ⟨m, rfl⟩⟩) | (go_at_call 22; (with_reducible refine (HK.out _).mono ?_); rintro e w' ⟨rfl, ⟨m, rfl⟩⟩) | (go_at_call 31; (with_reducible refine (HX6.out _).mono ?_); rintro e w' ⟨rfl, ⟨m, rfl⟩⟩))
  refine bodyPost_ret (results_cell_row rfl _ _ w.heap.size 25 #[.int .i64 (29), .int .i64 ((a : Int)), .int .i64 ((a : Int)), .int .i64 (0), .int .i64 ((n : Int)), .int .i64 (0), .int .i64 (0)] (0, 0) _ rfl ?_ Try.underlying25 rfl (by kernel_rfl)) rfl ?_
  exact blk7 (by repeat (first | (with_reducible exact Blk.new _ _ _) | (with_reducible apply Blk.drewN) | (with_reducible apply Blk.drew) | (with_reducible apply Blk.alloc))) _ _ _ _ _ _ _
  exact ⟨rfl, by (repeat (first | (with_reducible exact Fr.refl _ _) | (with_reducible apply Fr.drewN) | (with_reducible apply Fr.alloc) | (with_reducible apply Fr.drew) | (with_reducible refine Fr.setCell ?_ (Or.inr (by simp)) _)))⟩
set_option maxHeartbeats 1000000 in
theorem reckon_1 (h : Nat) (hh : h < 65536) (w : World) (ck : bv h 10 2 0 = 1) : Calls Try.prog 28 #[.int .u16 (h : Int)] w fun e w' => e = .returned (i7 (reckonP h)) ∧ Fr (fun _ => False) w w' := by
  have HK := Lib.hid (show ∀ w, Calls Try.prog 22 #[.int .u16 (h : Int), .int .i64 10, .int .i64 2, .int .i64 0] w fun e w' => e = .returned (.int .i64 (1)) ∧ Drawn0 w w' from fun w => by have g := bits_any h 10 2 0 hh (by decide) (by decide) w; rw [ck] at g; exact g)
  have HG7 := Lib.hid (show ∀ w, Calls Try.prog 21 #[.int .u16 (h : Int), .int .i64 7] w fun e w' => e = .returned (.int .i64 ((regP h 7 : Nat) : Int)) ∧ Drawn0 w w' from reg_any h 7 hh (by decide))
  have HX6 := Lib.hid (six_any h hh)
  have hP : reckonP h = (30, ((regP h 7 : Nat) : Int), ((regP h 7 : Nat) : Int), 0, ((sixP h : Nat) : Int), 0, 0) := by unfold reckonP; rw [if_neg (by omega), if_pos ck]
  rw [hP]
  clear hP ck
  generalize regP h 7 = a at *
  generalize sixP h = n at *
  go_enter Try.func28, Try.ntmps28
  go_wp2_with (first | (go_at_call 21; (with_reducible refine (HG7.out _).mono ?_); rintro e w' ⟨rfl, ⟨m, rfl⟩⟩) | (go_at_call 22; (with_reducible refine (HK.out _).mono ?_); rintro e w' ⟨rfl, ⟨m, rfl⟩⟩) | (go_at_call 31; (with_reducible refine (HX6.out _).mono ?_); rintro e w' ⟨rfl, ⟨m, rfl⟩⟩))
  refine bodyPost_ret (results_cell_row rfl _ _ w.heap.size 25 #[.int .i64 (30), .int .i64 ((a : Int)), .int .i64 ((a : Int)), .int .i64 (0), .int .i64 ((n : Int)), .int .i64 (0), .int .i64 (0)] (0, 0) _ rfl ?_ Try.underlying25 rfl (by kernel_rfl)) rfl ?_
  exact blk7 (by repeat (first | (with_reducible exact Blk.new _ _ _) | (with_reducible apply Blk.drewN) | (with_reducible apply Blk.drew) | (with_reducible apply Blk.alloc))) _ _ _ _ _ _ _
  exact ⟨rfl, by (repeat (first | (with_reducible exact Fr.refl _ _) | (with_reducible apply Fr.drewN) | (with_reducible apply Fr.alloc) | (with_reducible apply Fr.drew) | (with_reducible refine Fr.setCell ?_ (Or.inr (by simp)) _)))⟩
set_option maxHeartbeats 1000000 in
theorem reckon_2 (h : Nat) (hh : h < 65536) (w : World) (ck : bv h 10 2 0 = 2) : Calls Try.prog 28 #[.int .u16 (h : Int)] w fun e w' => e = .returned (i7 (reckonP h)) ∧ Fr (fun _ => False) w w' := by
  have HK := Lib.hid (show ∀ w, Calls Try.prog 22 #[.int .u16 (h : Int), .int .i64 10, .int .i64 2, .int .i64 0] w fun e w' => e = .returned (.int .i64 (2)) ∧ Drawn0 w w' from fun w => by have g := bits_any h 10 2 0 hh (by decide) (by decide) w; rw [ck] at g; exact g)
  have HG7 := Lib.hid (show ∀ w, Calls Try.prog 21 #[.int .u16 (h : Int), .int .i64 7] w fun e w' => e = .returned (.int .i64 ((regP h 7 : Nat) : Int)) ∧ Drawn0 w w' from reg_any h 7 hh (by decide))
  have HSH := Lib.hid (short_any h hh)
  have hP : reckonP h = (27, ((regP h 7 : Nat) : Int), ((regP h 7 : Nat) : Int), 0, shortP h, 0, 0) := by unfold reckonP; rw [if_neg (by omega), if_neg (by omega), if_pos ck]
  rw [hP]
  clear hP ck
  generalize regP h 7 = a at *
  generalize shortP h = n at *
  go_enter Try.func28, Try.ntmps28
  go_wp2_with (first | (go_at_call 21; (with_reducible refine (HG7.out _).mono ?_); rintro e w' ⟨rfl, ⟨m, rfl⟩⟩) | (go_at_call 22; (with_reducible refine (HK.out _).mono ?_); rintro e w' ⟨rfl, ⟨m, rfl⟩⟩) | (go_at_call 26; (with_reducible refine (HSH.out _).mono ?_); rintro e w' ⟨rfl, ⟨m, rfl⟩⟩))
  refine bodyPost_ret (results_cell_row rfl _ _ w.heap.size 25 #[.int .i64 (27), .int .i64 ((a : Int)), .int .i64 ((a : Int)), .int .i64 (0), .int .i64 (n), .int .i64 (0), .int .i64 (0)] (0, 0) _ rfl ?_ Try.underlying25 rfl (by kernel_rfl)) rfl ?_
  exact blk7 (by repeat (first | (with_reducible exact Blk.new _ _ _) | (with_reducible apply Blk.drewN) | (with_reducible apply Blk.drew) | (with_reducible apply Blk.alloc))) _ _ _ _ _ _ _
  exact ⟨rfl, by (repeat (first | (with_reducible exact Fr.refl _ _) | (with_reducible apply Fr.drewN) | (with_reducible apply Fr.alloc) | (with_reducible apply Fr.drew) | (with_reducible refine Fr.setCell ?_ (Or.inr (by simp)) _)))⟩
set_option maxHeartbeats 1000000 in
theorem reckon_3 (h : Nat) (hh : h < 65536) (w : World) (ck : bv h 10 2 0 = 3) : Calls Try.prog 28 #[.int .u16 (h : Int)] w fun e w' => e = .returned (i7 (reckonP h)) ∧ Fr (fun _ => False) w w' := by
  have HK := Lib.hid (show ∀ w, Calls Try.prog 22 #[.int .u16 (h : Int), .int .i64 10, .int .i64 2, .int .i64 0] w fun e w' => e = .returned (.int .i64 (3)) ∧ Drawn0 w w' from fun w => by have g := bits_any h 10 2 0 hh (by decide) (by decide) w; rw [ck] at g; exact g)
  have HG7 := Lib.hid (show ∀ w, Calls Try.prog 21 #[.int .u16 (h : Int), .int .i64 7] w fun e w' => e = .returned (.int .i64 ((regP h 7 : Nat) : Int)) ∧ Drawn0 w w' from reg_any h 7 hh (by decide))
  have HG2 := Lib.hid (show ∀ w, Calls Try.prog 21 #[.int .u16 (h : Int), .int .i64 2] w fun e w' => e = .returned (.int .i64 ((regP h 2 : Nat) : Int)) ∧ Drawn0 w w' from reg_any h 2 hh (by decide))
  have HB0 := Lib.hid (show ∀ w, Calls Try.prog 22 #[.int .u16 (h : Int), .int .i64 12, .int .i64 1, .int .i64 2] w fun e w' => e = .returned (.int .i64 (((bv h 12 1 2 : Nat) : Int))) ∧ Drawn0 w w' from bits_any h 12 1 2 hh (by decide) (by decide))
  have HB1 := Lib.hid (show ∀ w, Calls Try.prog 22 #[.int .u16 (h : Int), .int .i64 5, .int .i64 2, .int .i64 0] w fun e w' => e = .returned (.int .i64 (((bv h 5 2 0 : Nat) : Int))) ∧ Drawn0 w w' from bits_any h 5 2 0 hh (by decide) (by decide))
  have ho := (op_or h).1
  have hol := (op_or h).2
  have hP : reckonP h = if opT (bv h 12 1 2 ||| bv h 5 2 0) = 0 then i0 else ((opT (bv h 12 1 2 ||| bv h 5 2 0), ((regP h 7 : Nat) : Int), ((regP h 7 : Nat) : Int), ((regP h 2 : Nat) : Int), 0, 0, 0) : I7) := by unfold reckonP; rw [if_neg (by omega), if_neg (by omega), if_neg (by omega)]
  rw [hP]
  clear hP ck
  generalize (bv h 12 1 2 ||| bv h 5 2 0) = q at *
  generalize bv h 12 1 2 = p0 at *
  generalize bv h 5 2 0 = p1 at *
  generalize regP h 7 = a at *
  generalize regP h 2 = b at *
  have hq : q = 0 ∨ q = 1 ∨ q = 2 ∨ q = 3 ∨ q = 4 ∨ q = 5 ∨ q = 6 ∨ q = 7 := by omega
  rcases hq with rfl | rfl | rfl | rfl | rfl | rfl | rfl | rfl
  · have ho : bits .or .i64 ((p0 : Nat) : Int) ((p1 : Nat) : Int) = 0 := ho
    have hix : ∀ w, (Instr.index 48 (.agg #[.int .i64 32, .int .i64 36, .int .i64 39, .int .i64 40, .int .i64 46, .int .i64 45, .int .i64 0, .int .i64 0]) (.int .i64 0)).run Try.prog w = .ok (.int .i64 32) w := fun _ => by kernel_rfl
    clear hol
    rw [if_neg (by decide)]
    go_enter Try.func28, Try.ntmps28
    go_wp2_with (first | (go_at_call 21; (with_reducible refine (HG7.out _).mono ?_); rintro e w' ⟨rfl, ⟨m, rfl⟩⟩) | (go_at_call 22; (with_reducible refine (HK.out _).mono ?_); rintro e w' ⟨rfl, ⟨m, rfl⟩⟩) | (go_at_call 21; (with_reducible refine (HG2.out _).mono ?_); rintro e w' ⟨rfl, ⟨m, rfl⟩⟩) | (go_at_call 22; (with_reducible refine (HB0.out _).mono ?_); rintro e w' ⟨rfl, ⟨m, rfl⟩⟩) | (go_at_call 22; (with_reducible refine (HB1.out _).mono ?_); rintro e w' ⟨rfl, ⟨m, rfl⟩⟩))
    refine bodyPost_ret (results_cell_row rfl _ _ w.heap.size 25 #[.int .i64 (32), .int .i64 ((a : Int)), .int .i64 ((a : Int)), .int .i64 ((b : Int)), .int .i64 (0), .int .i64 (0), .int .i64 (0)] (0, 0) _ rfl ?_ Try.underlying25 rfl (by kernel_rfl)) rfl ?_
    exact blk7 (by repeat (first | (with_reducible exact Blk.new _ _ _) | (with_reducible apply Blk.drewN) | (with_reducible apply Blk.drew) | (with_reducible apply Blk.alloc))) _ _ _ _ _ _ _
    exact ⟨rfl, by (repeat (first | (with_reducible exact Fr.refl _ _) | (with_reducible apply Fr.drewN) | (with_reducible apply Fr.alloc) | (with_reducible apply Fr.drew) | (with_reducible refine Fr.setCell ?_ (Or.inr (by simp)) _)))⟩
  · have ho : bits .or .i64 ((p0 : Nat) : Int) ((p1 : Nat) : Int) = 1 := ho
    have hix : ∀ w, (Instr.index 48 (.agg #[.int .i64 32, .int .i64 36, .int .i64 39, .int .i64 40, .int .i64 46, .int .i64 45, .int .i64 0, .int .i64 0]) (.int .i64 1)).run Try.prog w = .ok (.int .i64 36) w := fun _ => by kernel_rfl
    clear hol
    rw [if_neg (by decide)]
    go_enter Try.func28, Try.ntmps28
    go_wp2_with (first | (go_at_call 21; (with_reducible refine (HG7.out _).mono ?_); rintro e w' ⟨rfl, ⟨m, rfl⟩⟩) | (go_at_call 22; (with_reducible refine (HK.out _).mono ?_); rintro e w' ⟨rfl, ⟨m, rfl⟩⟩) | (go_at_call 21; (with_reducible refine (HG2.out _).mono ?_); rintro e w' ⟨rfl, ⟨m, rfl⟩⟩) | (go_at_call 22; (with_reducible refine (HB0.out _).mono ?_); rintro e w' ⟨rfl, ⟨m, rfl⟩⟩) | (go_at_call 22; (with_reducible refine (HB1.out _).mono ?_); rintro e w' ⟨rfl, ⟨m, rfl⟩⟩))
    refine bodyPost_ret (results_cell_row rfl _ _ w.heap.size 25 #[.int .i64 (36), .int .i64 ((a : Int)), .int .i64 ((a : Int)), .int .i64 ((b : Int)), .int .i64 (0), .int .i64 (0), .int .i64 (0)] (0, 0) _ rfl ?_ Try.underlying25 rfl (by kernel_rfl)) rfl ?_
    exact blk7 (by repeat (first | (with_reducible exact Blk.new _ _ _) | (with_reducible apply Blk.drewN) | (with_reducible apply Blk.drew) | (with_reducible apply Blk.alloc))) _ _ _ _ _ _ _
    exact ⟨rfl, by (repeat (first | (with_reducible exact Fr.refl _ _) | (with_reducible apply Fr.drewN) | (with_reducible apply Fr.alloc) | (with_reducible apply Fr.drew) | (with_reducible refine Fr.setCell ?_ (Or.inr (by simp)) _)))⟩
  · have ho : bits .or .i64 ((p0 : Nat) : Int) ((p1 : Nat) : Int) = 2 := ho
    have hix : ∀ w, (Instr.index 48 (.agg #[.int .i64 32, .int .i64 36, .int .i64 39, .int .i64 40, .int .i64 46, .int .i64 45, .int .i64 0, .int .i64 0]) (.int .i64 2)).run Try.prog w = .ok (.int .i64 39) w := fun _ => by kernel_rfl
    clear hol
    rw [if_neg (by decide)]
    go_enter Try.func28, Try.ntmps28
    go_wp2_with (first | (go_at_call 21; (with_reducible refine (HG7.out _).mono ?_); rintro e w' ⟨rfl, ⟨m, rfl⟩⟩) | (go_at_call 22; (with_reducible refine (HK.out _).mono ?_); rintro e w' ⟨rfl, ⟨m, rfl⟩⟩) | (go_at_call 21; (with_reducible refine (HG2.out _).mono ?_); rintro e w' ⟨rfl, ⟨m, rfl⟩⟩) | (go_at_call 22; (with_reducible refine (HB0.out _).mono ?_); rintro e w' ⟨rfl, ⟨m, rfl⟩⟩) | (go_at_call 22; (with_reducible refine (HB1.out _).mono ?_); rintro e w' ⟨rfl, ⟨m, rfl⟩⟩))
    refine bodyPost_ret (results_cell_row rfl _ _ w.heap.size 25 #[.int .i64 (39), .int .i64 ((a : Int)), .int .i64 ((a : Int)), .int .i64 ((b : Int)), .int .i64 (0), .int .i64 (0), .int .i64 (0)] (0, 0) _ rfl ?_ Try.underlying25 rfl (by kernel_rfl)) rfl ?_
    exact blk7 (by repeat (first | (with_reducible exact Blk.new _ _ _) | (with_reducible apply Blk.drewN) | (with_reducible apply Blk.drew) | (with_reducible apply Blk.alloc))) _ _ _ _ _ _ _
    exact ⟨rfl, by (repeat (first | (with_reducible exact Fr.refl _ _) | (with_reducible apply Fr.drewN) | (with_reducible apply Fr.alloc) | (with_reducible apply Fr.drew) | (with_reducible refine Fr.setCell ?_ (Or.inr (by simp)) _)))⟩
  · have ho : bits .or .i64 ((p0 : Nat) : Int) ((p1 : Nat) : Int) = 3 := ho
    have hix : ∀ w, (Instr.index 48 (.agg #[.int .i64 32, .int .i64 36, .int .i64 39, .int .i64 40, .int .i64 46, .int .i64 45, .int .i64 0, .int .i64 0]) (.int .i64 3)).run Try.prog w = .ok (.int .i64 40) w := fun _ => by kernel_rfl
    clear hol
    rw [if_neg (by decide)]
    go_enter Try.func28, Try.ntmps28
    go_wp2_with (first | (go_at_call 21; (with_reducible refine (HG7.out _).mono ?_); rintro e w' ⟨rfl, ⟨m, rfl⟩⟩) | (go_at_call 22; (with_reducible refine (HK.out _).mono ?_); rintro e w' ⟨rfl, ⟨m, rfl⟩⟩) | (go_at_call 21; (with_reducible refine (HG2.out _).mono ?_); rintro e w' ⟨rfl, ⟨m, rfl⟩⟩) | (go_at_call 22; (with_reducible refine (HB0.out _).mono ?_); rintro e w' ⟨rfl, ⟨m, rfl⟩⟩) | (go_at_call 22; (with_reducible refine (HB1.out _).mono ?_); rintro e w' ⟨rfl, ⟨m, rfl⟩⟩))
    refine bodyPost_ret (results_cell_row rfl _ _ w.heap.size 25 #[.int .i64 (40), .int .i64 ((a : Int)), .int .i64 ((a : Int)), .int .i64 ((b : Int)), .int .i64 (0), .int .i64 (0), .int .i64 (0)] (0, 0) _ rfl ?_ Try.underlying25 rfl (by kernel_rfl)) rfl ?_
    exact blk7 (by repeat (first | (with_reducible exact Blk.new _ _ _) | (with_reducible apply Blk.drewN) | (with_reducible apply Blk.drew) | (with_reducible apply Blk.alloc))) _ _ _ _ _ _ _
    exact ⟨rfl, by (repeat (first | (with_reducible exact Fr.refl _ _) | (with_reducible apply Fr.drewN) | (with_reducible apply Fr.alloc) | (with_reducible apply Fr.drew) | (with_reducible refine Fr.setCell ?_ (Or.inr (by simp)) _)))⟩
  · have ho : bits .or .i64 ((p0 : Nat) : Int) ((p1 : Nat) : Int) = 4 := ho
    have hix : ∀ w, (Instr.index 48 (.agg #[.int .i64 32, .int .i64 36, .int .i64 39, .int .i64 40, .int .i64 46, .int .i64 45, .int .i64 0, .int .i64 0]) (.int .i64 4)).run Try.prog w = .ok (.int .i64 46) w := fun _ => by kernel_rfl
    clear hol
    rw [if_neg (by decide)]
    go_enter Try.func28, Try.ntmps28
    go_wp2_with (first | (go_at_call 21; (with_reducible refine (HG7.out _).mono ?_); rintro e w' ⟨rfl, ⟨m, rfl⟩⟩) | (go_at_call 22; (with_reducible refine (HK.out _).mono ?_); rintro e w' ⟨rfl, ⟨m, rfl⟩⟩) | (go_at_call 21; (with_reducible refine (HG2.out _).mono ?_); rintro e w' ⟨rfl, ⟨m, rfl⟩⟩) | (go_at_call 22; (with_reducible refine (HB0.out _).mono ?_); rintro e w' ⟨rfl, ⟨m, rfl⟩⟩) | (go_at_call 22; (with_reducible refine (HB1.out _).mono ?_); rintro e w' ⟨rfl, ⟨m, rfl⟩⟩))
    refine bodyPost_ret (results_cell_row rfl _ _ w.heap.size 25 #[.int .i64 (46), .int .i64 ((a : Int)), .int .i64 ((a : Int)), .int .i64 ((b : Int)), .int .i64 (0), .int .i64 (0), .int .i64 (0)] (0, 0) _ rfl ?_ Try.underlying25 rfl (by kernel_rfl)) rfl ?_
    exact blk7 (by repeat (first | (with_reducible exact Blk.new _ _ _) | (with_reducible apply Blk.drewN) | (with_reducible apply Blk.drew) | (with_reducible apply Blk.alloc))) _ _ _ _ _ _ _
    exact ⟨rfl, by (repeat (first | (with_reducible exact Fr.refl _ _) | (with_reducible apply Fr.drewN) | (with_reducible apply Fr.alloc) | (with_reducible apply Fr.drew) | (with_reducible refine Fr.setCell ?_ (Or.inr (by simp)) _)))⟩
  · have ho : bits .or .i64 ((p0 : Nat) : Int) ((p1 : Nat) : Int) = 5 := ho
    have hix : ∀ w, (Instr.index 48 (.agg #[.int .i64 32, .int .i64 36, .int .i64 39, .int .i64 40, .int .i64 46, .int .i64 45, .int .i64 0, .int .i64 0]) (.int .i64 5)).run Try.prog w = .ok (.int .i64 45) w := fun _ => by kernel_rfl
    clear hol
    rw [if_neg (by decide)]
    go_enter Try.func28, Try.ntmps28
    go_wp2_with (first | (go_at_call 21; (with_reducible refine (HG7.out _).mono ?_); rintro e w' ⟨rfl, ⟨m, rfl⟩⟩) | (go_at_call 22; (with_reducible refine (HK.out _).mono ?_); rintro e w' ⟨rfl, ⟨m, rfl⟩⟩) | (go_at_call 21; (with_reducible refine (HG2.out _).mono ?_); rintro e w' ⟨rfl, ⟨m, rfl⟩⟩) | (go_at_call 22; (with_reducible refine (HB0.out _).mono ?_); rintro e w' ⟨rfl, ⟨m, rfl⟩⟩) | (go_at_call 22; (with_reducible refine (HB1.out _).mono ?_); rintro e w' ⟨rfl, ⟨m, rfl⟩⟩))
    refine bodyPost_ret (results_cell_row rfl _ _ w.heap.size 25 #[.int .i64 (45), .int .i64 ((a : Int)), .int .i64 ((a : Int)), .int .i64 ((b : Int)), .int .i64 (0), .int .i64 (0), .int .i64 (0)] (0, 0) _ rfl ?_ Try.underlying25 rfl (by kernel_rfl)) rfl ?_
    exact blk7 (by repeat (first | (with_reducible exact Blk.new _ _ _) | (with_reducible apply Blk.drewN) | (with_reducible apply Blk.drew) | (with_reducible apply Blk.alloc))) _ _ _ _ _ _ _
    exact ⟨rfl, by (repeat (first | (with_reducible exact Fr.refl _ _) | (with_reducible apply Fr.drewN) | (with_reducible apply Fr.alloc) | (with_reducible apply Fr.drew) | (with_reducible refine Fr.setCell ?_ (Or.inr (by simp)) _)))⟩
  · have ho : bits .or .i64 ((p0 : Nat) : Int) ((p1 : Nat) : Int) = 6 := ho
    have hix : ∀ w, (Instr.index 48 (.agg #[.int .i64 32, .int .i64 36, .int .i64 39, .int .i64 40, .int .i64 46, .int .i64 45, .int .i64 0, .int .i64 0]) (.int .i64 6)).run Try.prog w = .ok (.int .i64 0) w := fun _ => by kernel_rfl
    clear hol
    rw [if_pos (by decide)]
    go_enter Try.func28, Try.ntmps28
    go_wp2_with (first | (go_at_call 21; (with_reducible refine (HG7.out _).mono ?_); rintro e w' ⟨rfl, ⟨m, rfl⟩⟩) | (go_at_call 22; (with_reducible refine (HK.out _).mono ?_); rintro e w' ⟨rfl, ⟨m, rfl⟩⟩) | (go_at_call 21; (with_reducible refine (HG2.out _).mono ?_); rintro e w' ⟨rfl, ⟨m, rfl⟩⟩) | (go_at_call 22; (with_reducible refine (HB0.out _).mono ?_); rintro e w' ⟨rfl, ⟨m, rfl⟩⟩) | (go_at_call 22; (with_reducible refine (HB1.out _).mono ?_); rintro e w' ⟨rfl, ⟨m, rfl⟩⟩))
    refine bodyPost_ret (results_cell_row rfl _ _ w.heap.size 25 #[.int .i64 (0), .int .i64 (0), .int .i64 (0), .int .i64 (0), .int .i64 (0), .int .i64 (0), .int .i64 (0)] (0, 0) _ rfl ?_ Try.underlying25 rfl (by kernel_rfl)) rfl ?_
    exact blk7 (by repeat (first | (with_reducible exact Blk.new _ _ _) | (with_reducible apply Blk.drewN) | (with_reducible apply Blk.drew) | (with_reducible apply Blk.alloc))) _ _ _ _ _ _ _
    exact ⟨rfl, by (repeat (first | (with_reducible exact Fr.refl _ _) | (with_reducible apply Fr.drewN) | (with_reducible apply Fr.alloc) | (with_reducible apply Fr.drew) | (with_reducible refine Fr.setCell ?_ (Or.inr (by simp)) _)))⟩
  · have ho : bits .or .i64 ((p0 : Nat) : Int) ((p1 : Nat) : Int) = 7 := ho
    have hix : ∀ w, (Instr.index 48 (.agg #[.int .i64 32, .int .i64 36, .int .i64 39, .int .i64 40, .int .i64 46, .int .i64 45, .int .i64 0, .int .i64 0]) (.int .i64 7)).run Try.prog w = .ok (.int .i64 0) w := fun _ => by kernel_rfl
    clear hol
    rw [if_pos (by decide)]
    go_enter Try.func28, Try.ntmps28
    go_wp2_with (first | (go_at_call 21; (with_reducible refine (HG7.out _).mono ?_); rintro e w' ⟨rfl, ⟨m, rfl⟩⟩) | (go_at_call 22; (with_reducible refine (HK.out _).mono ?_); rintro e w' ⟨rfl, ⟨m, rfl⟩⟩) | (go_at_call 21; (with_reducible refine (HG2.out _).mono ?_); rintro e w' ⟨rfl, ⟨m, rfl⟩⟩) | (go_at_call 22; (with_reducible refine (HB0.out _).mono ?_); rintro e w' ⟨rfl, ⟨m, rfl⟩⟩) | (go_at_call 22; (with_reducible refine (HB1.out _).mono ?_); rintro e w' ⟨rfl, ⟨m, rfl⟩⟩))
    refine bodyPost_ret (results_cell_row rfl _ _ w.heap.size 25 #[.int .i64 (0), .int .i64 (0), .int .i64 (0), .int .i64 (0), .int .i64 (0), .int .i64 (0), .int .i64 (0)] (0, 0) _ rfl ?_ Try.underlying25 rfl (by kernel_rfl)) rfl ?_
    exact blk7 (by repeat (first | (with_reducible exact Blk.new _ _ _) | (with_reducible apply Blk.drewN) | (with_reducible apply Blk.drew) | (with_reducible apply Blk.alloc))) _ _ _ _ _ _ _
    exact ⟨rfl, by (repeat (first | (with_reducible exact Fr.refl _ _) | (with_reducible apply Fr.drewN) | (with_reducible apply Fr.alloc) | (with_reducible apply Fr.drew) | (with_reducible refine Fr.setCell ?_ (Or.inr (by simp)) _)))⟩
theorem reckon_any (h : Nat) (hh : h < 65536) (w : World) : Calls Try.prog 28 #[.int .u16 (h : Int)] w fun e w' => e = .returned (i7 (reckonP h)) ∧ Fr (fun _ => False) w w' := by
  have hk : bv h 10 2 0 = 0 ∨ bv h 10 2 0 = 1 ∨ bv h 10 2 0 = 2 ∨ bv h 10 2 0 = 3 := by unfold bv; omega
  rcases hk with ck | ck | ck | ck
  · exact reckon_0 h hh w ck
  · exact reckon_1 h hh w ck
  · exact reckon_2 h hh w ck
  · exact reckon_3 h hh w ck
set_option maxHeartbeats 1000000 in
theorem second_0 (h : Nat) (hh : h < 65536) (w : World) (ck : bv h 13 3 0 = 0) : Calls Try.prog 13 #[.int .u16 (h : Int)] w fun e w' => e = .returned (i7 (secondP h)) ∧ Fr (fun _ => False) w w' := by
  have HK := Lib.hid (show ∀ w, Calls Try.prog 22 #[.int .u16 (h : Int), .int .i64 13, .int .i64 3, .int .i64 0] w fun e w' => e = .returned (.int .i64 (0)) ∧ Drawn0 w w' from fun w => by have g := bits_any h 13 3 0 hh (by decide) (by decide) w; rw [ck] at g; exact g)
  have HR := Lib.hid (rd_any h hh)
  have HSH := Lib.hid (short_any h hh)
  have hP : secondP h = (22, ((bv h 7 5 0 : Nat) : Int), ((bv h 7 5 0 : Nat) : Int), 0, shortP h, 0, 0) := by unfold secondP; rw [if_pos ck]
  rw [hP]
  clear hP ck
  generalize bv h 7 5 0 = rd at *
  generalize shortP h = n at *
  go_enter Try.func13, Try.ntmps13
  go_wp2_with (first | (go_at_call 25; (with_reducible refine (HR.out _).mono ?_); rintro e w' ⟨rfl, ⟨m, rfl⟩⟩) | (go_at_call 22; (with_reducible refine (HK.out _).mono ?_); rintro e w' ⟨rfl, ⟨m, rfl⟩⟩) | (go_at_call 26; (with_reducible refine (HSH.out _).mono ?_); rintro e w' ⟨rfl, ⟨m, rfl⟩⟩))
  refine bodyPost_ret (results_cell_row rfl _ _ w.heap.size 25 #[.int .i64 (22), .int .i64 ((rd : Int)), .int .i64 ((rd : Int)), .int .i64 (0), .int .i64 (n), .int .i64 (0), .int .i64 (0)] (0, 0) _ rfl ?_ Try.underlying25 rfl (by kernel_rfl)) rfl ?_
  exact blk7 (by repeat (first | (with_reducible exact Blk.new _ _ _) | (with_reducible apply Blk.drewN) | (with_reducible apply Blk.drew) | (with_reducible apply Blk.alloc))) _ _ _ _ _ _ _
  exact ⟨rfl, by (repeat (first | (with_reducible exact Fr.refl _ _) | (with_reducible apply Fr.drewN) | (with_reducible apply Fr.alloc) | (with_reducible apply Fr.drew) | (with_reducible refine Fr.setCell ?_ (Or.inr (by simp)) _)))⟩
set_option maxHeartbeats 1000000 in
theorem second_1 (h : Nat) (hh : h < 65536) (w : World) (ck : bv h 13 3 0 = 1) : Calls Try.prog 13 #[.int .u16 (h : Int)] w fun e w' => e = .returned (i7 (secondP h)) ∧ Fr (fun _ => False) w w' := by
  have HK := Lib.hid (show ∀ w, Calls Try.prog 22 #[.int .u16 (h : Int), .int .i64 13, .int .i64 3, .int .i64 0] w fun e w' => e = .returned (.int .i64 (1)) ∧ Drawn0 w w' from fun w => by have g := bits_any h 13 3 0 hh (by decide) (by decide) w; rw [ck] at g; exact g)
  have HR := Lib.hid (rd_any h hh)
  have HSH := Lib.hid (short_any h hh)
  have hP : secondP h = if 0 < bv h 7 5 0 then ((41, ((bv h 7 5 0 : Nat) : Int), ((bv h 7 5 0 : Nat) : Int), 0, shortP h, 0, 0) : I7) else i0 := by unfold secondP; rw [if_neg (by omega), if_pos ck]
  rw [hP]
  clear hP ck
  generalize bv h 7 5 0 = rd at *
  generalize shortP h = n at *
  by_cases c : 0 < rd
  · rw [if_pos c]
    have t1 : decide ((0 : Int) < (rd : Int)) = true := decide_eq_true (by omega)
    have n1 : decide (0 < rd) = true := decide_eq_true c
    clear c
    go_enter Try.func13, Try.ntmps13
    go_wp2_with (first | (go_at_call 25; (with_reducible refine (HR.out _).mono ?_); rintro e w' ⟨rfl, ⟨m, rfl⟩⟩) | (go_at_call 22; (with_reducible refine (HK.out _).mono ?_); rintro e w' ⟨rfl, ⟨m, rfl⟩⟩) | (go_at_call 26; (with_reducible refine (HSH.out _).mono ?_); rintro e w' ⟨rfl, ⟨m, rfl⟩⟩))
    refine bodyPost_ret (results_cell_row rfl _ _ w.heap.size 25 #[.int .i64 (41), .int .i64 ((rd : Int)), .int .i64 ((rd : Int)), .int .i64 (0), .int .i64 (n), .int .i64 (0), .int .i64 (0)] (0, 0) _ rfl ?_ Try.underlying25 rfl (by kernel_rfl)) rfl ?_
    exact blk7 (by repeat (first | (with_reducible exact Blk.new _ _ _) | (with_reducible apply Blk.drewN) | (with_reducible apply Blk.drew) | (with_reducible apply Blk.alloc))) _ _ _ _ _ _ _
    exact ⟨rfl, by (repeat (first | (with_reducible exact Fr.refl _ _) | (with_reducible apply Fr.drewN) | (with_reducible apply Fr.alloc) | (with_reducible apply Fr.drew) | (with_reducible refine Fr.setCell ?_ (Or.inr (by simp)) _)))⟩
  · rw [if_neg c]
    have t1 : decide ((0 : Int) < (rd : Int)) = false := decide_eq_false (by omega)
    have n1 : decide (0 < rd) = false := decide_eq_false c
    clear c
    go_enter Try.func13, Try.ntmps13
    go_wp2_with (first | (go_at_call 25; (with_reducible refine (HR.out _).mono ?_); rintro e w' ⟨rfl, ⟨m, rfl⟩⟩) | (go_at_call 22; (with_reducible refine (HK.out _).mono ?_); rintro e w' ⟨rfl, ⟨m, rfl⟩⟩) | (go_at_call 26; (with_reducible refine (HSH.out _).mono ?_); rintro e w' ⟨rfl, ⟨m, rfl⟩⟩))
    refine bodyPost_ret (results_cell_row rfl _ _ w.heap.size 25 #[.int .i64 (0), .int .i64 (0), .int .i64 (0), .int .i64 (0), .int .i64 (0), .int .i64 (0), .int .i64 (0)] (0, 0) _ rfl ?_ Try.underlying25 rfl (by kernel_rfl)) rfl ?_
    exact blk7 (by repeat (first | (with_reducible exact Blk.new _ _ _) | (with_reducible apply Blk.drewN) | (with_reducible apply Blk.drew) | (with_reducible apply Blk.alloc))) _ _ _ _ _ _ _
    exact ⟨rfl, by (repeat (first | (with_reducible exact Fr.refl _ _) | (with_reducible apply Fr.drewN) | (with_reducible apply Fr.alloc) | (with_reducible apply Fr.drew) | (with_reducible refine Fr.setCell ?_ (Or.inr (by simp)) _)))⟩
set_option maxHeartbeats 1000000 in
theorem second_2 (h : Nat) (hh : h < 65536) (w : World) (ck : bv h 13 3 0 = 2) : Calls Try.prog 13 #[.int .u16 (h : Int)] w fun e w' => e = .returned (i7 (secondP h)) ∧ Fr (fun _ => False) w w' := by
  have HK := Lib.hid (show ∀ w, Calls Try.prog 22 #[.int .u16 (h : Int), .int .i64 13, .int .i64 3, .int .i64 0] w fun e w' => e = .returned (.int .i64 (2)) ∧ Drawn0 w w' from fun w => by have g := bits_any h 13 3 0 hh (by decide) (by decide) w; rw [ck] at g; exact g)
  have HR := Lib.hid (rd_any h hh)
  have HSH := Lib.hid (short_any h hh)
  have hP : secondP h = (22, ((bv h 7 5 0 : Nat) : Int), 0, 0, shortP h, 0, 0) := by unfold secondP; rw [if_neg (by omega), if_neg (by omega), if_pos ck]
  rw [hP]
  clear hP ck
  generalize bv h 7 5 0 = rd at *
  generalize shortP h = n at *
  go_enter Try.func13, Try.ntmps13
  go_wp2_with (first | (go_at_call 25; (with_reducible refine (HR.out _).mono ?_); rintro e w' ⟨rfl, ⟨m, rfl⟩⟩) | (go_at_call 22; (with_reducible refine (HK.out _).mono ?_); rintro e w' ⟨rfl, ⟨m, rfl⟩⟩) | (go_at_call 26; (with_reducible refine (HSH.out _).mono ?_); rintro e w' ⟨rfl, ⟨m, rfl⟩⟩))
  refine bodyPost_ret (results_cell_row rfl _ _ w.heap.size 25 #[.int .i64 (22), .int .i64 ((rd : Int)), .int .i64 (0), .int .i64 (0), .int .i64 (n), .int .i64 (0), .int .i64 (0)] (0, 0) _ rfl ?_ Try.underlying25 rfl (by kernel_rfl)) rfl ?_
  exact blk7 (by repeat (first | (with_reducible exact Blk.new _ _ _) | (with_reducible apply Blk.drewN) | (with_reducible apply Blk.drew) | (with_reducible apply Blk.alloc))) _ _ _ _ _ _ _
  exact ⟨rfl, by (repeat (first | (with_reducible exact Fr.refl _ _) | (with_reducible apply Fr.drewN) | (with_reducible apply Fr.alloc) | (with_reducible apply Fr.drew) | (with_reducible refine Fr.setCell ?_ (Or.inr (by simp)) _)))⟩
set_option maxHeartbeats 1000000 in
theorem second_3 (h : Nat) (hh : h < 65536) (w : World) (ck : bv h 13 3 0 = 3) : Calls Try.prog 13 #[.int .u16 (h : Int)] w fun e w' => e = .returned (i7 (secondP h)) ∧ Fr (fun _ => False) w w' := by
  have HK := Lib.hid (show ∀ w, Calls Try.prog 22 #[.int .u16 (h : Int), .int .i64 13, .int .i64 3, .int .i64 0] w fun e w' => e = .returned (.int .i64 (3)) ∧ Drawn0 w w' from fun w => by have g := bits_any h 13 3 0 hh (by decide) (by decide) w; rw [ck] at g; exact g)
  have HR := Lib.hid (rd_any h hh)
  have HC := Lib.hid (lui_any h hh)
  have hP : secondP h = luiP h := by unfold secondP; rw [if_neg (by omega), if_neg (by omega), if_neg (by omega), if_pos ck]
  rw [hP]
  clear hP ck
  generalize luiP h = i at *
  obtain ⟨x0, x1, x2, x3, x4, x5, x6⟩ := i
  have HC := Lib.hid (show ∀ w, Calls Try.prog 27 #[.int .u16 (h : Int)] w fun e w' => e = .returned (.agg #[.int .i64 x0, .int .i64 x1, .int .i64 x2, .int .i64 x3, .int .i64 x4, .int .i64 x5, .int .i64 x6]) ∧ Fr (fun _ => False) w w' from HC.out)
  go_enter Try.func13, Try.ntmps13
  go_wp2_with (first | (go_at_call 25; (with_reducible refine (HR.out _).mono ?_); rintro e w' ⟨rfl, ⟨m, rfl⟩⟩) | (go_at_call 22; (with_reducible refine (HK.out _).mono ?_); rintro e w' ⟨rfl, ⟨m, rfl⟩⟩))
  refine (HC.out _).mono ?_
  rintro e w' ⟨rfl, hf⟩
  have hb0 : Blk w' w.heap.size 25 #[.int .i64 0, .int .i64 0, .int .i64 0, .int .i64 0, .int .i64 0, .int .i64 0, .int .i64 0] := Blk.fr (by repeat (first | (with_reducible exact Blk.new _ _ _) | (with_reducible apply Blk.drewN) | (with_reducible apply Blk.drew) | (with_reducible apply Blk.alloc))) hf id
  have hfr : Fr (fun _ => False) w w' := Fr.trans (by (repeat (first | (with_reducible exact Fr.refl _ _) | (with_reducible apply Fr.drewN) | (with_reducible apply Fr.alloc) | (with_reducible apply Fr.drew) | (with_reducible refine Fr.setCell ?_ (Or.inr (by simp)) _)))) hf (fun _ _ h => h)
  have k0 := hb0.cell 0
  have k1 := hb0.cell 1
  have k2 := hb0.cell 2
  have k3 := hb0.cell 3
  have k4 := hb0.cell 4
  have k5 := hb0.cell 5
  have k6 := hb0.cell 6
  have f0 := hb0.frozen 0
  have f1 := hb0.frozen 1
  have f2 := hb0.frozen 2
  have f3 := hb0.frozen 3
  have f4 := hb0.frozen 4
  have f5 := hb0.frozen 5
  have f6 := hb0.frozen 6
  simp at k0 k1 k2 k3 k4 k5 k6
  have HB0 := Lib.hid hb0
  have HFR := Lib.hid hfr
  clear hb0 hfr hf
  have hne : ¬ w'.heap.size = w.heap.size := by have := HB0.out.lt; omega
  go_wp2_with fail
  refine bodyPost_ret (results_cell_row rfl _ _ w.heap.size 25 #[.int .i64 x0, .int .i64 x1, .int .i64 x2, .int .i64 x3, .int .i64 x4, .int .i64 x5, .int .i64 x6] (0, 0) _ rfl ?_ Try.underlying25 rfl (by kernel_rfl)) rfl ?_
  exact blk7 HB0.out _ _ _ _ _ _ _
  exact ⟨rfl, by (repeat (first | (with_reducible exact HFR.out) | (with_reducible refine Fr.setCell ?_ (Or.inr (by simp)) _)))⟩
set_option maxHeartbeats 1000000 in
theorem second_4 (h : Nat) (hh : h < 65536) (w : World) (ck : bv h 13 3 0 = 4) : Calls Try.prog 13 #[.int .u16 (h : Int)] w fun e w' => e = .returned (i7 (secondP h)) ∧ Fr (fun _ => False) w w' := by
  have HK := Lib.hid (show ∀ w, Calls Try.prog 22 #[.int .u16 (h : Int), .int .i64 13, .int .i64 3, .int .i64 0] w fun e w' => e = .returned (.int .i64 (4)) ∧ Drawn0 w w' from fun w => by have g := bits_any h 13 3 0 hh (by decide) (by decide) w; rw [ck] at g; exact g)
  have HR := Lib.hid (rd_any h hh)
  have HC := Lib.hid (reckon_any h hh)
  have hP : secondP h = reckonP h := by unfold secondP; rw [if_neg (by omega), if_neg (by omega), if_neg (by omega), if_neg (by omega), if_pos ck]
  rw [hP]
  clear hP ck
  generalize reckonP h = i at *
  obtain ⟨x0, x1, x2, x3, x4, x5, x6⟩ := i
  have HC := Lib.hid (show ∀ w, Calls Try.prog 28 #[.int .u16 (h : Int)] w fun e w' => e = .returned (.agg #[.int .i64 x0, .int .i64 x1, .int .i64 x2, .int .i64 x3, .int .i64 x4, .int .i64 x5, .int .i64 x6]) ∧ Fr (fun _ => False) w w' from HC.out)
  go_enter Try.func13, Try.ntmps13
  go_wp2_with (first | (go_at_call 25; (with_reducible refine (HR.out _).mono ?_); rintro e w' ⟨rfl, ⟨m, rfl⟩⟩) | (go_at_call 22; (with_reducible refine (HK.out _).mono ?_); rintro e w' ⟨rfl, ⟨m, rfl⟩⟩))
  refine (HC.out _).mono ?_
  rintro e w' ⟨rfl, hf⟩
  have hb0 : Blk w' w.heap.size 25 #[.int .i64 0, .int .i64 0, .int .i64 0, .int .i64 0, .int .i64 0, .int .i64 0, .int .i64 0] := Blk.fr (by repeat (first | (with_reducible exact Blk.new _ _ _) | (with_reducible apply Blk.drewN) | (with_reducible apply Blk.drew) | (with_reducible apply Blk.alloc))) hf id
  have hfr : Fr (fun _ => False) w w' := Fr.trans (by (repeat (first | (with_reducible exact Fr.refl _ _) | (with_reducible apply Fr.drewN) | (with_reducible apply Fr.alloc) | (with_reducible apply Fr.drew) | (with_reducible refine Fr.setCell ?_ (Or.inr (by simp)) _)))) hf (fun _ _ h => h)
  have k0 := hb0.cell 0
  have k1 := hb0.cell 1
  have k2 := hb0.cell 2
  have k3 := hb0.cell 3
  have k4 := hb0.cell 4
  have k5 := hb0.cell 5
  have k6 := hb0.cell 6
  have f0 := hb0.frozen 0
  have f1 := hb0.frozen 1
  have f2 := hb0.frozen 2
  have f3 := hb0.frozen 3
  have f4 := hb0.frozen 4
  have f5 := hb0.frozen 5
  have f6 := hb0.frozen 6
  simp at k0 k1 k2 k3 k4 k5 k6
  have HB0 := Lib.hid hb0
  have HFR := Lib.hid hfr
  clear hb0 hfr hf
  have hne : ¬ w'.heap.size = w.heap.size := by have := HB0.out.lt; omega
  go_wp2_with fail
  refine bodyPost_ret (results_cell_row rfl _ _ w.heap.size 25 #[.int .i64 x0, .int .i64 x1, .int .i64 x2, .int .i64 x3, .int .i64 x4, .int .i64 x5, .int .i64 x6] (0, 0) _ rfl ?_ Try.underlying25 rfl (by kernel_rfl)) rfl ?_
  exact blk7 HB0.out _ _ _ _ _ _ _
  exact ⟨rfl, by (repeat (first | (with_reducible exact HFR.out) | (with_reducible refine Fr.setCell ?_ (Or.inr (by simp)) _)))⟩
set_option maxHeartbeats 1000000 in
theorem second_5 (h : Nat) (hh : h < 65536) (w : World) (ck : bv h 13 3 0 = 5) : Calls Try.prog 13 #[.int .u16 (h : Int)] w fun e w' => e = .returned (i7 (secondP h)) ∧ Fr (fun _ => False) w w' := by
  have HK := Lib.hid (show ∀ w, Calls Try.prog 22 #[.int .u16 (h : Int), .int .i64 13, .int .i64 3, .int .i64 0] w fun e w' => e = .returned (.int .i64 (5)) ∧ Drawn0 w w' from fun w => by have g := bits_any h 13 3 0 hh (by decide) (by decide) w; rw [ck] at g; exact g)
  have HR := Lib.hid (rd_any h hh)
  have HJ := Lib.hid (jump_any h hh)
  have hP : secondP h = (3, 0, 0, 0, jumpP h, 0, 0) := by unfold secondP; rw [if_neg (by omega), if_neg (by omega), if_neg (by omega), if_neg (by omega), if_neg (by omega), if_pos ck]
  rw [hP]
  clear hP ck
  generalize bv h 7 5 0 = rd at *
  generalize jumpP h = n at *
  go_enter Try.func13, Try.ntmps13
  go_wp2_with (first | (go_at_call 25; (with_reducible refine (HR.out _).mono ?_); rintro e w' ⟨rfl, ⟨m, rfl⟩⟩) | (go_at_call 22; (with_reducible refine (HK.out _).mono ?_); rintro e w' ⟨rfl, ⟨m, rfl⟩⟩) | (go_at_call 29; (with_reducible refine (HJ.out _).mono ?_); rintro e w' ⟨rfl, ⟨m, rfl⟩⟩))
  refine bodyPost_ret (results_cell_row rfl _ _ w.heap.size 25 #[.int .i64 (3), .int .i64 (0), .int .i64 (0), .int .i64 (0), .int .i64 (n), .int .i64 (0), .int .i64 (0)] (0, 0) _ rfl ?_ Try.underlying25 rfl (by kernel_rfl)) rfl ?_
  exact blk7 (by repeat (first | (with_reducible exact Blk.new _ _ _) | (with_reducible apply Blk.drewN) | (with_reducible apply Blk.drew) | (with_reducible apply Blk.alloc))) _ _ _ _ _ _ _
  exact ⟨rfl, by (repeat (first | (with_reducible exact Fr.refl _ _) | (with_reducible apply Fr.drewN) | (with_reducible apply Fr.alloc) | (with_reducible apply Fr.drew) | (with_reducible refine Fr.setCell ?_ (Or.inr (by simp)) _)))⟩
set_option maxHeartbeats 1000000 in
theorem second_6 (h : Nat) (hh : h < 65536) (w : World) (ck : bv h 13 3 0 = 6) : Calls Try.prog 13 #[.int .u16 (h : Int)] w fun e w' => e = .returned (i7 (secondP h)) ∧ Fr (fun _ => False) w w' := by
  have HK := Lib.hid (show ∀ w, Calls Try.prog 22 #[.int .u16 (h : Int), .int .i64 13, .int .i64 3, .int .i64 0] w fun e w' => e = .returned (.int .i64 (6)) ∧ Drawn0 w w' from fun w => by have g := bits_any h 13 3 0 hh (by decide) (by decide) w; rw [ck] at g; exact g)
  have HR := Lib.hid (rd_any h hh)
  have HG7 := Lib.hid (show ∀ w, Calls Try.prog 21 #[.int .u16 (h : Int), .int .i64 7] w fun e w' => e = .returned (.int .i64 ((regP h 7 : Nat) : Int)) ∧ Drawn0 w w' from reg_any h 7 hh (by decide))
  have HBR := Lib.hid (branch_any h hh)
  have hP : secondP h = (5, 0, ((regP h 7 : Nat) : Int), 0, branchP h, 0, 0) := by unfold secondP; rw [if_neg (by omega), if_neg (by omega), if_neg (by omega), if_neg (by omega), if_neg (by omega), if_neg (by omega), if_pos ck]
  rw [hP]
  clear hP ck
  generalize bv h 7 5 0 = rd at *
  generalize regP h 7 = a at *
  generalize branchP h = n at *
  go_enter Try.func13, Try.ntmps13
  go_wp2_with (first | (go_at_call 25; (with_reducible refine (HR.out _).mono ?_); rintro e w' ⟨rfl, ⟨m, rfl⟩⟩) | (go_at_call 22; (with_reducible refine (HK.out _).mono ?_); rintro e w' ⟨rfl, ⟨m, rfl⟩⟩) | (go_at_call 21; (with_reducible refine (HG7.out _).mono ?_); rintro e w' ⟨rfl, ⟨m, rfl⟩⟩) | (go_at_call 30; (with_reducible refine (HBR.out _).mono ?_); rintro e w' ⟨rfl, ⟨m, rfl⟩⟩))
  refine bodyPost_ret (results_cell_row rfl _ _ w.heap.size 25 #[.int .i64 (5), .int .i64 (0), .int .i64 ((a : Int)), .int .i64 (0), .int .i64 (n), .int .i64 (0), .int .i64 (0)] (0, 0) _ rfl ?_ Try.underlying25 rfl (by kernel_rfl)) rfl ?_
  exact blk7 (by repeat (first | (with_reducible exact Blk.new _ _ _) | (with_reducible apply Blk.drewN) | (with_reducible apply Blk.drew) | (with_reducible apply Blk.alloc))) _ _ _ _ _ _ _
  exact ⟨rfl, by (repeat (first | (with_reducible exact Fr.refl _ _) | (with_reducible apply Fr.drewN) | (with_reducible apply Fr.alloc) | (with_reducible apply Fr.drew) | (with_reducible refine Fr.setCell ?_ (Or.inr (by simp)) _)))⟩
set_option maxHeartbeats 1000000 in
theorem second_7 (h : Nat) (hh : h < 65536) (w : World) (ck : bv h 13 3 0 = 7) : Calls Try.prog 13 #[.int .u16 (h : Int)] w fun e w' => e = .returned (i7 (secondP h)) ∧ Fr (fun _ => False) w w' := by
  have HK := Lib.hid (show ∀ w, Calls Try.prog 22 #[.int .u16 (h : Int), .int .i64 13, .int .i64 3, .int .i64 0] w fun e w' => e = .returned (.int .i64 (7)) ∧ Drawn0 w w' from fun w => by have g := bits_any h 13 3 0 hh (by decide) (by decide) w; rw [ck] at g; exact g)
  have HR := Lib.hid (rd_any h hh)
  have HG7 := Lib.hid (show ∀ w, Calls Try.prog 21 #[.int .u16 (h : Int), .int .i64 7] w fun e w' => e = .returned (.int .i64 ((regP h 7 : Nat) : Int)) ∧ Drawn0 w w' from reg_any h 7 hh (by decide))
  have HBR := Lib.hid (branch_any h hh)
  have hP : secondP h = (6, 0, ((regP h 7 : Nat) : Int), 0, branchP h, 0, 0) := by unfold secondP; rw [if_neg (by omega), if_neg (by omega), if_neg (by omega), if_neg (by omega), if_neg (by omega), if_neg (by omega), if_neg (by omega)]
  rw [hP]
  clear hP ck
  generalize bv h 7 5 0 = rd at *
  generalize regP h 7 = a at *
  generalize branchP h = n at *
  go_enter Try.func13, Try.ntmps13
  go_wp2_with (first | (go_at_call 25; (with_reducible refine (HR.out _).mono ?_); rintro e w' ⟨rfl, ⟨m, rfl⟩⟩) | (go_at_call 22; (with_reducible refine (HK.out _).mono ?_); rintro e w' ⟨rfl, ⟨m, rfl⟩⟩) | (go_at_call 21; (with_reducible refine (HG7.out _).mono ?_); rintro e w' ⟨rfl, ⟨m, rfl⟩⟩) | (go_at_call 30; (with_reducible refine (HBR.out _).mono ?_); rintro e w' ⟨rfl, ⟨m, rfl⟩⟩))
  refine bodyPost_ret (results_cell_row rfl _ _ w.heap.size 25 #[.int .i64 (6), .int .i64 (0), .int .i64 ((a : Int)), .int .i64 (0), .int .i64 (n), .int .i64 (0), .int .i64 (0)] (0, 0) _ rfl ?_ Try.underlying25 rfl (by kernel_rfl)) rfl ?_
  exact blk7 (by repeat (first | (with_reducible exact Blk.new _ _ _) | (with_reducible apply Blk.drewN) | (with_reducible apply Blk.drew) | (with_reducible apply Blk.alloc))) _ _ _ _ _ _ _
  exact ⟨rfl, by (repeat (first | (with_reducible exact Fr.refl _ _) | (with_reducible apply Fr.drewN) | (with_reducible apply Fr.alloc) | (with_reducible apply Fr.drew) | (with_reducible refine Fr.setCell ?_ (Or.inr (by simp)) _)))⟩
theorem second_any (h : Nat) (hh : h < 65536) (w : World) : Calls Try.prog 13 #[.int .u16 (h : Int)] w fun e w' => e = .returned (i7 (secondP h)) ∧ Fr (fun _ => False) w w' := by
  have hk : bv h 13 3 0 = 0 ∨ bv h 13 3 0 = 1 ∨ bv h 13 3 0 = 2 ∨ bv h 13 3 0 = 3 ∨ bv h 13 3 0 = 4 ∨ bv h 13 3 0 = 5 ∨ bv h 13 3 0 = 6 ∨ bv h 13 3 0 = 7 := by unfold bv; omega
  rcases hk with ck | ck | ck | ck | ck | ck | ck | ck
  · exact second_0 h hh w ck
  · exact second_1 h hh w ck
  · exact second_2 h hh w ck
  · exact second_3 h hh w ck
  · exact second_4 h hh w ck
  · exact second_5 h hh w ck
  · exact second_6 h hh w ck
  · exact second_7 h hh w ck
end Go.Proofs.Ytgefhoikpjiamaa.Cmp
