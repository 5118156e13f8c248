/- The contracts of package comp's moves, third, reckon, second and Expand, walked: each answers what its plain twin says, for every word of 16 bits. -/
import Derived.Test.YtgefhoikpjiamaaCmpN
import Derived.Outline
import Derived.Laws.ResultCell
namespace Go.Proofs.Ytgefhoikpjiamaa.Cmp
open Go Go.RowKit Go.Proofs.YtgefhoikpjiamaaW.PrintWords Go.Proofs.YtgefhoikpjiamaaW.PrintLast Go.Proofs.YtgefhoikpjiamaaW.PrintMore
open Go.Proofs.Ytgefhoikpjiamaa.Hp Go.Proofs.Ytgefhoikpjiamaa.Bv
attribute [local go_sem] max2_int min2_int max_two min_two max_three min_three max_four min_four
set_option linter.unusedVariables false
set_option linter.unusedSimpArgs false
/-- An instruction as a value. -/
def i7 (i : I7) : Value := .agg #[.int .i64 i.1, .int .i64 i.2.1, .int .i64 i.2.2.1, .int .i64 i.2.2.2.1, .int .i64 i.2.2.2.2.1, .int .i64 i.2.2.2.2.2.1, .int .i64 i.2.2.2.2.2.2]
theorem blk7 {w : World} {g : Nat} {t : TypeId} {c0 c1 c2 c3 c4 c5 c6 : Value} (h : Blk w g t #[c0, c1, c2, c3, c4, c5, c6]) (v0 v1 v2 v3 v4 v5 v6 : Value) :
    Blk (((((((w.setCell ⟨g, 0, none⟩ v0).setCell ⟨g, 1, none⟩ v1).setCell ⟨g, 2, none⟩ v2).setCell ⟨g, 3, none⟩ v3).setCell ⟨g, 4, none⟩ v4).setCell ⟨g, 5, none⟩ v5).setCell ⟨g, 6, none⟩ v6) g t #[v0, v1, v2, v3, v4, v5, v6] := by
  have e := ((((((h.set 0 v0).set 1 v1).set 2 v2).set 3 v3).set 4 v4).set 5 v5).set 6 v6
  simpa [Blk] using e
theorem ret7 {a b : I7} (h : a = b) : Ending.returned (i7 a) = .returned (i7 b) := by rw [h]
theorem bits_any (h a n t : Nat) (hh : h < 65536) (ha : a ≤ 16) (hnt : n + t ≤ 16) (w : World) : Calls Try.prog 22 #[.int .u16 (h : Int), .int .i64 (a : Int), .int .i64 (n : Int), .int .i64 (t : Int)] w fun e w' => e = .returned (.int .i64 ((bv h a n t : Nat) : Int)) ∧ Drawn0 w w' :=
  CmpA.comp_half_bits.calls _ _ _ _ _ w (bits_f h a n t hh ha hnt)
theorem reg_any (h f : Nat) (hh : h < 65536) (hf : f ≤ 16) (w : World) : Calls Try.prog 21 #[.int .u16 (h : Int), .int .i64 (f : Int)] w fun e w' => e = .returned (.int .i64 ((regP h f : Nat) : Int)) ∧ Drawn0 w w' :=
  CmpA.comp_half_reg.calls _ _ _ w (reg_f h f hh hf)
theorem words_any (h : Nat) (hh : h < 65536) (w : World) : Calls Try.prog 23 #[.int .u16 (h : Int)] w fun e w' => e = .returned (.int .i64 ((wordsP h : Nat))) ∧ Drawn0 w w' :=
  CmpA.comp_half_words.calls _ _ w (words_f h hh)
theorem doubles_any (h : Nat) (hh : h < 65536) (w : World) : Calls Try.prog 24 #[.int .u16 (h : Int)] w fun e w' => e = .returned (.int .i64 ((doublesP h : Nat))) ∧ Drawn0 w w' :=
  CmpA.comp_half_doubles.calls _ _ w (doubles_f h hh)
theorem six_any (h : Nat) (hh : h < 65536) (w : World) : Calls Try.prog 31 #[.int .u16 (h : Int)] w fun e w' => e = .returned (.int .i64 ((sixP h : Nat))) ∧ Drawn0 w w' :=
  CmpA.comp_half_six.calls _ _ w (six_f h hh)
theorem short_any (h : Nat) (hh : h < 65536) (w : World) : Calls Try.prog 26 #[.int .u16 (h : Int)] w fun e w' => e = .returned (.int .i64 (shortP h)) ∧ Drawn0 w w' :=
  CmpA.comp_half_short.calls _ _ w (short_f h hh)
theorem jump_any (h : Nat) (hh : h < 65536) (w : World) : Calls Try.prog 29 #[.int .u16 (h : Int)] w fun e w' => e = .returned (.int .i64 (jumpP h)) ∧ Drawn0 w w' :=
  CmpA.comp_half_jump.calls _ _ w (jump_f h hh)
theorem branch_any (h : Nat) (hh : h < 65536) (w : World) : Calls Try.prog 30 #[.int .u16 (h : Int)] w fun e w' => e = .returned (.int .i64 (branchP h)) ∧ Drawn0 w w' :=
  CmpA.comp_half_branch.calls _ _ w (branch_f h hh)
theorem rd_any (h : Nat) (hh : h < 65536) (w : World) : Calls Try.prog 25 #[.int .u16 (h : Int)] w fun e w' => e = .returned (.int .i64 ((bv h 7 5 0 : Nat))) ∧ Drawn0 w w' :=
  CmpA.comp_half_rd.calls _ _ w (rd_f h hh)
theorem rs2_any (h : Nat) (hh : h < 65536) (w : World) : Calls Try.prog 33 #[.int .u16 (h : Int)] w fun e w' => e = .returned (.int .i64 ((bv h 2 5 0 : Nat))) ∧ Drawn0 w w' :=
  CmpA.comp_half_rs2.calls _ _ w (rs2_f h hh)
theorem first_f (h : Nat) (hh : h < 65536) : CmpA.comp_half_first.f (h : Int) = some (firstP h) := by
  unfold CmpA.comp_half_first.f firstP
  rw [show CmpA.comp_half_reg.f (h : Int) 7 = _ from reg_f h 7 hh (by decide), show CmpA.comp_half_reg.f (h : Int) 2 = _ from reg_f h 2 hh (by decide), show CmpA.comp_half_bits.f (h : Int) 13 3 0 = _ from bits_f h 13 3 0 hh (by decide) (by decide), words_f h hh, doubles_f h hh,
    show CmpA.comp_half_bits.f (h : Int) 7 4 6 = _ from bits_f h 7 4 6 hh (by decide) (by decide), show CmpA.comp_half_bits.f (h : Int) 11 2 4 = _ from bits_f h 11 2 4 hh (by decide) (by decide), show CmpA.comp_half_bits.f (h : Int) 5 1 3 = _ from bits_f h 5 1 3 hh (by decide) (by decide), show CmpA.comp_half_bits.f (h : Int) 6 1 2 = _ from bits_f h 6 1 2 hh (by decide) (by decide)]
  simp only [Option.bind_some]
  rw [(wide_or h).1]
  have e : (bv h 7 4 6 ||| bv h 11 2 4 ||| bv h 5 1 3 ||| bv h 6 1 2) = wideP h := rfl
  rw [e]
  generalize bv h 13 3 0 = k
  generalize wideP h = n
  have hn : ((n : Int) > 0) = (0 < n) := by apply propext; omega
  simp only [hn]
  by_cases k0 : k = 0
  · rw [if_pos (show ((k : Nat) : Int) = 0 by omega), if_pos k0]
    by_cases c : 0 < n
    · rw [if_pos c, if_pos c]
    · rw [if_neg c, if_neg c]; rfl
  rw [if_neg (show ¬ ((k : Nat) : Int) = 0 by omega), if_neg k0]
  by_cases k2 : k = 2
  · rw [if_pos (show ((k : Nat) : Int) = 2 by omega), if_pos k2]
  rw [if_neg (show ¬ ((k : Nat) : Int) = 2 by omega), if_neg k2]
  by_cases k3 : k = 3
  · rw [if_pos (show ((k : Nat) : Int) = 3 by omega), if_pos k3]
  rw [if_neg (show ¬ ((k : Nat) : Int) = 3 by omega), if_neg k3]
  by_cases k6 : k = 6
  · rw [if_pos (show ((k : Nat) : Int) = 6 by omega), if_pos k6]
  rw [if_neg (show ¬ ((k : Nat) : Int) = 6 by omega), if_neg k6]
  by_cases k7 : k = 7
  · rw [if_pos (show ((k : Nat) : Int) = 7 by omega), if_pos k7]
  rw [if_neg (show ¬ ((k : Nat) : Int) = 7 by omega), if_neg k7]
  rfl
theorem first_any (h : Nat) (hh : h < 65536) (w : World) : Calls Try.prog 12 #[.int .u16 (h : Int)] w fun e w' => e = .returned (i7 (firstP h)) ∧ Fr (fun _ => False) w w' :=
  (CmpA.comp_half_first.calls _ _ _ _ _ _ _ _ w (first_f h hh)).mono fun _ _ h => ⟨h.1, Fr.of_below h.2⟩
theorem sp_bd (n : Nat) (hn : n < 1024) : -512 ≤ sg n 10 ∧ sg n 10 < 512 := by
  unfold sg
  split <;> constructor <;> simp at * <;> omega
theorem lui_f (h : Nat) (hh : h < 65536) : CmpA.comp_half_lui.f (h : Int) = some (luiP h) := by
  unfold CmpA.comp_half_lui.f luiP
  rw [rd_f h hh, short_f h hh]
  simp only [Option.bind_some]
  rw [show CmpA.comp_half_bits.f (h : Int) 12 1 9 = _ from bits_f h 12 1 9 hh (by decide) (by decide), show CmpA.comp_half_bits.f (h : Int) 3 2 7 = _ from bits_f h 3 2 7 hh (by decide) (by decide), show CmpA.comp_half_bits.f (h : Int) 5 1 6 = _ from bits_f h 5 1 6 hh (by decide) (by decide), show CmpA.comp_half_bits.f (h : Int) 2 1 5 = _ from bits_f h 2 1 5 hh (by decide) (by decide), show CmpA.comp_half_bits.f (h : Int) 6 1 4 = _ from bits_f h 6 1 4 hh (by decide) (by decide)]
  simp only [Option.bind_some]
  rw [(sp_or h).1, show CmpA.comp_signed.f _ 10 = _ from signed10 _ (sp_or h).2]
  simp only [Option.bind_some]
  have e : sg (bv h 12 1 9 ||| bv h 3 2 7 ||| bv h 5 1 6 ||| bv h 2 1 5 ||| bv h 6 1 4) 10 = spP h := rfl
  rw [e]
  have hs := short_bd h
  rw [wrap64_in (n := shortP h * 4096) (by omega) (by omega)]
  generalize bv h 7 5 0 = rd
  generalize spP h = n
  generalize shortP h = s at *
  by_cases c : rd = 2
  · rw [if_pos (show ((rd : Nat) : Int) = 2 by omega), if_pos c]
    by_cases c2 : n = 0
    · rw [if_pos c2, if_pos c2]; rfl
    · rw [if_neg c2, if_neg c2]
  · rw [if_neg (show ¬ ((rd : Nat) : Int) = 2 by omega), if_neg c]
    by_cases c2 : s * 4096 = 0
    · rw [if_pos c2, if_pos c2]; rfl
    · rw [if_neg c2, if_neg c2]
theorem lui_any (h : Nat) (hh : h < 65536) (w : World) : Calls Try.prog 27 #[.int .u16 (h : Int)] w fun e w' => e = .returned (i7 (luiP h)) ∧ Fr (fun _ => False) w w' :=
  (CmpA.comp_half_lui.calls _ _ _ _ _ _ _ _ w (lui_f h hh)).mono fun _ _ h => ⟨h.1, Fr.of_below h.2⟩
set_option maxHeartbeats 1000000 in
theorem moves_any (h : Nat) (hh : h < 65536) (w : World) : Calls Try.prog 32 #[.int .u16 (h : Int)] w fun e w' => e = .returned (i7 (movesP h)) ∧ Fr (fun _ => False) w w' := by
  have hl : bv h 12 1 0 = 0 ∨ bv h 12 1 0 = 1 := by unfold bv; omega
  have hb1 := bv_lt h 7 5 0 (by decide)
  have HR := Lib.hid (rd_any h hh)
  have HS := Lib.hid (rs2_any h hh)
  have HL := Lib.hid (show ∀ w, Calls Try.prog 22 #[.int .u16 (h : Int), .int .i64 12, .int .i64 1, .int .i64 0] w fun e w' => e = .returned (.int .i64 ((bv h 12 1 0 : Nat) : Int)) ∧ Drawn0 w w' from bits_any h 12 1 0 hh (by decide) (by decide))
  unfold movesP
  generalize bv h 7 5 0 = rd at *
  generalize bv h 2 5 0 = s at *
  generalize bv h 12 1 0 = l at *
  rcases hl with rfl | rfl
  · by_cases c1 : 0 < s
    · by_cases c2 : 0 < rd
      · have t1 : decide ((0 : Int) < (s : Int)) = true := decide_eq_true (by omega)
        have t2 : decide ((0 : Int) < (rd : Int)) = true := decide_eq_true (by omega)
        have n1 : decide (0 < s) = true := decide_eq_true (by omega)
        have n2 : decide (0 < rd) = true := decide_eq_true (by omega)
        rw [if_pos c1, Nat.mul_zero]
        clear c1 c2
        go_enter Try.func32, Try.ntmps32
        go_wp2_with (first | (go_at_call 25; (with_reducible refine (HR.out _).mono ?_); rintro e w' ⟨rfl, ⟨m, rfl⟩⟩) | (go_at_call 33; (with_reducible refine (HS.out _).mono ?_); rintro e w' ⟨rfl, ⟨m, rfl⟩⟩) | (go_at_call 22; (with_reducible refine (HL.out _).mono ?_); rintro e w' ⟨rfl, ⟨m, rfl⟩⟩))
        refine bodyPost_ret (results_cell_row rfl _ _ w.heap.size 25 #[.int .i64 (31), .int .i64 (rd), .int .i64 (0), .int .i64 (s), .int .i64 (0), .int .i64 (0), .int .i64 (0)] (0, 0) _ rfl ?_ Try.underlying25 rfl (by kernel_rfl)) rfl ?_
        exact blk7 (by repeat (first | (with_reducible exact Blk.new _ _ _) | (with_reducible apply Blk.drewN) | (with_reducible apply Blk.drew) | (with_reducible apply Blk.alloc))) _ _ _ _ _ _ _
        exact ⟨rfl, by (repeat (first | (with_reducible exact Fr.refl _ _) | (with_reducible apply Fr.drewN) | (with_reducible apply Fr.alloc) | (with_reducible apply Fr.drew) | (with_reducible refine Fr.setCell ?_ (Or.inr (by simp)) _)))⟩
      · have t1 : decide ((0 : Int) < (s : Int)) = true := decide_eq_true (by omega)
        have t2 : decide ((0 : Int) < (rd : Int)) = false := decide_eq_false (by omega)
        have n1 : decide (0 < s) = true := decide_eq_true (by omega)
        have n2 : decide (0 < rd) = false := decide_eq_false (by omega)
        rw [if_pos c1, Nat.mul_zero]
        clear c1 c2
        go_enter Try.func32, Try.ntmps32
        go_wp2_with (first | (go_at_call 25; (with_reducible refine (HR.out _).mono ?_); rintro e w' ⟨rfl, ⟨m, rfl⟩⟩) | (go_at_call 33; (with_reducible refine (HS.out _).mono ?_); rintro e w' ⟨rfl, ⟨m, rfl⟩⟩) | (go_at_call 22; (with_reducible refine (HL.out _).mono ?_); rintro e w' ⟨rfl, ⟨m, rfl⟩⟩))
        refine bodyPost_ret (results_cell_row rfl _ _ w.heap.size 25 #[.int .i64 (31), .int .i64 (rd), .int .i64 (0), .int .i64 (s), .int .i64 (0), .int .i64 (0), .int .i64 (0)] (0, 0) _ rfl ?_ Try.underlying25 rfl (by kernel_rfl)) rfl ?_
        exact blk7 (by repeat (first | (with_reducible exact Blk.new _ _ _) | (with_reducible apply Blk.drewN) | (with_reducible apply Blk.drew) | (with_reducible apply Blk.alloc))) _ _ _ _ _ _ _
        exact ⟨rfl, by (repeat (first | (with_reducible exact Fr.refl _ _) | (with_reducible apply Fr.drewN) | (with_reducible apply Fr.alloc) | (with_reducible apply Fr.drew) | (with_reducible refine Fr.setCell ?_ (Or.inr (by simp)) _)))⟩
    · by_cases c2 : 0 < rd
      · have t1 : decide ((0 : Int) < (s : Int)) = false := decide_eq_false (by omega)
        have t2 : decide ((0 : Int) < (rd : Int)) = true := decide_eq_true (by omega)
        have n1 : decide (0 < s) = false := decide_eq_false (by omega)
        have n2 : decide (0 < rd) = true := decide_eq_true (by omega)
        rw [if_neg c1, if_pos c2]
        clear c1 c2
        go_enter Try.func32, Try.ntmps32
        go_wp2_with (first | (go_at_call 25; (with_reducible refine (HR.out _).mono ?_); rintro e w' ⟨rfl, ⟨m, rfl⟩⟩) | (go_at_call 33; (with_reducible refine (HS.out _).mono ?_); rintro e w' ⟨rfl, ⟨m, rfl⟩⟩) | (go_at_call 22; (with_reducible refine (HL.out _).mono ?_); rintro e w' ⟨rfl, ⟨m, rfl⟩⟩))
        refine bodyPost_ret (results_cell_row rfl _ _ w.heap.size 25 #[.int .i64 (4), .int .i64 (0), .int .i64 (rd), .int .i64 (0), .int .i64 (0), .int .i64 (0), .int .i64 (0)] (0, 0) _ rfl ?_ Try.underlying25 rfl (by kernel_rfl)) rfl ?_
        exact blk7 (by repeat (first | (with_reducible exact Blk.new _ _ _) | (with_reducible apply Blk.drewN) | (with_reducible apply Blk.drew) | (with_reducible apply Blk.alloc))) _ _ _ _ _ _ _
        exact ⟨rfl, by (repeat (first | (with_reducible exact Fr.refl _ _) | (with_reducible apply Fr.drewN) | (with_reducible apply Fr.alloc) | (with_reducible apply Fr.drew) | (with_reducible refine Fr.setCell ?_ (Or.inr (by simp)) _)))⟩
      · have t1 : decide ((0 : Int) < (s : Int)) = false := decide_eq_false (by omega)
        have t2 : decide ((0 : Int) < (rd : Int)) = false := decide_eq_false (by omega)
        have n1 : decide (0 < s) = false := decide_eq_false (by omega)
        have n2 : decide (0 < rd) = false := decide_eq_false (by omega)
        rw [if_neg c1, if_neg c2, if_neg (by decide)]
        clear c1 c2
        go_enter Try.func32, Try.ntmps32
        go_wp2_with (first | (go_at_call 25; (with_reducible refine (HR.out _).mono ?_); rintro e w' ⟨rfl, ⟨m, rfl⟩⟩) | (go_at_call 33; (with_reducible refine (HS.out _).mono ?_); rintro e w' ⟨rfl, ⟨m, rfl⟩⟩) | (go_at_call 22; (with_reducible refine (HL.out _).mono ?_); rintro e w' ⟨rfl, ⟨m, rfl⟩⟩))
        refine bodyPost_ret (results_cell_row rfl _ _ w.heap.size 25 #[.int .i64 (0), .int .i64 (0), .int .i64 (0), .int .i64 (0), .int .i64 (0), .int .i64 (0), .int .i64 (0)] (0, 0) _ rfl ?_ Try.underlying25 rfl (by kernel_rfl)) rfl ?_
        exact blk7 (by repeat (first | (with_reducible exact Blk.new _ _ _) | (with_reducible apply Blk.drewN) | (with_reducible apply Blk.drew) | (with_reducible apply Blk.alloc))) _ _ _ _ _ _ _
        exact ⟨rfl, by (repeat (first | (with_reducible exact Fr.refl _ _) | (with_reducible apply Fr.drewN) | (with_reducible apply Fr.alloc) | (with_reducible apply Fr.drew) | (with_reducible refine Fr.setCell ?_ (Or.inr (by simp)) _)))⟩
  · by_cases c1 : 0 < s
    · by_cases c2 : 0 < rd
      · have t1 : decide ((0 : Int) < (s : Int)) = true := decide_eq_true (by omega)
        have t2 : decide ((0 : Int) < (rd : Int)) = true := decide_eq_true (by omega)
        have n1 : decide (0 < s) = true := decide_eq_true (by omega)
        have n2 : decide (0 < rd) = true := decide_eq_true (by omega)
        rw [if_pos c1, Nat.mul_one]
        clear c1 c2
        go_enter Try.func32, Try.ntmps32
        go_wp2_with (first | (go_at_call 25; (with_reducible refine (HR.out _).mono ?_); rintro e w' ⟨rfl, ⟨m, rfl⟩⟩) | (go_at_call 33; (with_reducible refine (HS.out _).mono ?_); rintro e w' ⟨rfl, ⟨m, rfl⟩⟩) | (go_at_call 22; (with_reducible refine (HL.out _).mono ?_); rintro e w' ⟨rfl, ⟨m, rfl⟩⟩))
        refine bodyPost_ret (results_cell_row rfl _ _ w.heap.size 25 #[.int .i64 (31), .int .i64 (rd), .int .i64 (rd), .int .i64 (s), .int .i64 (0), .int .i64 (0), .int .i64 (0)] (0, 0) _ rfl ?_ Try.underlying25 rfl (by kernel_rfl)) rfl ?_
        exact blk7 (by repeat (first | (with_reducible exact Blk.new _ _ _) | (with_reducible apply Blk.drewN) | (with_reducible apply Blk.drew) | (with_reducible apply Blk.alloc))) _ _ _ _ _ _ _
        exact ⟨rfl, by (repeat (first | (with_reducible exact Fr.refl _ _) | (with_reducible apply Fr.drewN) | (with_reducible apply Fr.alloc) | (with_reducible apply Fr.drew) | (with_reducible refine Fr.setCell ?_ (Or.inr (by simp)) _)))⟩
      · have t1 : decide ((0 : Int) < (s : Int)) = true := decide_eq_true (by omega)
        have t2 : decide ((0 : Int) < (rd : Int)) = false := decide_eq_false (by omega)
        have n1 : decide (0 < s) = true := decide_eq_true (by omega)
        have n2 : decide (0 < rd) = false := decide_eq_false (by omega)
        rw [if_pos c1, Nat.mul_one]
        clear c1 c2
        go_enter Try.func32, Try.ntmps32
        go_wp2_with (first | (go_at_call 25; (with_reducible refine (HR.out _).mono ?_); rintro e w' ⟨rfl, ⟨m, rfl⟩⟩) | (go_at_call 33; (with_reducible refine (HS.out _).mono ?_); rintro e w' ⟨rfl, ⟨m, rfl⟩⟩) | (go_at_call 22; (with_reducible refine (HL.out _).mono ?_); rintro e w' ⟨rfl, ⟨m, rfl⟩⟩))
        refine bodyPost_ret (results_cell_row rfl _ _ w.heap.size 25 #[.int .i64 (31), .int .i64 (rd), .int .i64 (rd), .int .i64 (s), .int .i64 (0), .int .i64 (0), .int .i64 (0)] (0, 0) _ rfl ?_ Try.underlying25 rfl (by kernel_rfl)) rfl ?_
        exact blk7 (by repeat (first | (with_reducible exact Blk.new _ _ _) | (with_reducible apply Blk.drewN) | (with_reducible apply Blk.drew) | (with_reducible apply Blk.alloc))) _ _ _ _ _ _ _
        exact ⟨rfl, by (repeat (first | (with_reducible exact Fr.refl _ _) | (with_reducible apply Fr.drewN) | (with_reducible apply Fr.alloc) | (with_reducible apply Fr.drew) | (with_reducible refine Fr.setCell ?_ (Or.inr (by simp)) _)))⟩
    · by_cases c2 : 0 < rd
      · have t1 : decide ((0 : Int) < (s : Int)) = false := decide_eq_false (by omega)
        have t2 : decide ((0 : Int) < (rd : Int)) = true := decide_eq_true (by omega)
        have n1 : decide (0 < s) = false := decide_eq_false (by omega)
        have n2 : decide (0 < rd) = true := decide_eq_true (by omega)
        rw [if_neg c1, if_pos c2]
        clear c1 c2
        go_enter Try.func32, Try.ntmps32
        go_wp2_with (first | (go_at_call 25; (with_reducible refine (HR.out _).mono ?_); rintro e w' ⟨rfl, ⟨m, rfl⟩⟩) | (go_at_call 33; (with_reducible refine (HS.out _).mono ?_); rintro e w' ⟨rfl, ⟨m, rfl⟩⟩) | (go_at_call 22; (with_reducible refine (HL.out _).mono ?_); rintro e w' ⟨rfl, ⟨m, rfl⟩⟩))
        refine bodyPost_ret (results_cell_row rfl _ _ w.heap.size 25 #[.int .i64 (4), .int .i64 (1), .int .i64 (rd), .int .i64 (0), .int .i64 (0), .int .i64 (0), .int .i64 (0)] (0, 0) _ rfl ?_ Try.underlying25 rfl (by kernel_rfl)) rfl ?_
        exact blk7 (by repeat (first | (with_reducible exact Blk.new _ _ _) | (with_reducible apply Blk.drewN) | (with_reducible apply Blk.drew) | (with_reducible apply Blk.alloc))) _ _ _ _ _ _ _
        exact ⟨rfl, by (repeat (first | (with_reducible exact Fr.refl _ _) | (with_reducible apply Fr.drewN) | (with_reducible apply Fr.alloc) | (with_reducible apply Fr.drew) | (with_reducible refine Fr.setCell ?_ (Or.inr (by simp)) _)))⟩
      · have t1 : decide ((0 : Int) < (s : Int)) = false := decide_eq_false (by omega)
        have t2 : decide ((0 : Int) < (rd : Int)) = false := decide_eq_false (by omega)
        have n1 : decide (0 < s) = false := decide_eq_false (by omega)
        have n2 : decide (0 < rd) = false := decide_eq_false (by omega)
        rw [if_neg c1, if_neg c2, if_pos (by decide)]
        clear c1 c2
        go_enter Try.func32, Try.ntmps32
        go_wp2_with (first | (go_at_call 25; (with_reducible refine (HR.out _).mono ?_); rintro e w' ⟨rfl, ⟨m, rfl⟩⟩) | (go_at_call 33; (with_reducible refine (HS.out _).mono ?_); rintro e w' ⟨rfl, ⟨m, rfl⟩⟩) | (go_at_call 22; (with_reducible refine (HL.out _).mono ?_); rintro e w' ⟨rfl, ⟨m, rfl⟩⟩))
        refine bodyPost_ret (results_cell_row rfl _ _ w.heap.size 25 #[.int .i64 (88), .int .i64 (0), .int .i64 (0), .int .i64 (0), .int .i64 (0), .int .i64 (0), .int .i64 (0)] (0, 0) _ rfl ?_ Try.underlying25 rfl (by kernel_rfl)) rfl ?_
        exact blk7 (by repeat (first | (with_reducible exact Blk.new _ _ _) | (with_reducible apply Blk.drewN) | (with_reducible apply Blk.drew) | (with_reducible apply Blk.alloc))) _ _ _ _ _ _ _
        exact ⟨rfl, by (repeat (first | (with_reducible exact Fr.refl _ _) | (with_reducible apply Fr.drewN) | (with_reducible apply Fr.alloc) | (with_reducible apply Fr.drew) | (with_reducible refine Fr.setCell ?_ (Or.inr (by simp)) _)))⟩
set_option maxHeartbeats 1000000 in
theorem third_0 (h : Nat) (hh : h < 65536) (w : World) (ck : bv h 13 3 0 = 0) : Calls Try.prog 14 #[.int .u16 (h : Int)] w fun e w' => e = .returned (i7 (thirdP h)) ∧ Fr (fun _ => False) w w' := by
  have HK := Lib.hid (show ∀ w, Calls Try.prog 22 #[.int .u16 (h : Int), .int .i64 13, .int .i64 3, .int .i64 0] w fun e w' => e = .returned (.int .i64 (0)) ∧ Drawn0 w w' from fun w => by have g := bits_any h 13 3 0 hh (by decide) (by decide) w; rw [ck] at g; exact g)
  have HR := Lib.hid (rd_any h hh)
  have HX6 := Lib.hid (six_any h hh)
  have hP : thirdP h = (28, ((bv h 7 5 0 : Nat) : Int), ((bv h 7 5 0 : Nat) : Int), 0, ((sixP h : Nat) : Int), 0, 0) := by unfold thirdP; rw [if_pos ck]
  rw [hP]
  clear hP ck
  generalize bv h 7 5 0 = rd at *
  generalize sixP h = n at *
  go_enter Try.func14, Try.ntmps14
  go_wp2_with (first | (go_at_call 25; (with_reducible refine (HR.out _).mono ?_); rintro e w' ⟨rfl, ⟨m, rfl⟩⟩) | (go_at_call 22; (with_reducible refine (HK.out _).mono ?_); rintro e w' ⟨rfl, ⟨m, rfl⟩⟩) | (go_at_call 31; (with_reducible refine (HX6.out _).mono ?_); rintro e w' ⟨rfl, ⟨m, rfl⟩⟩))
  refine bodyPost_ret (results_cell_row rfl _ _ w.heap.size 25 #[.int .i64 (28), .int .i64 ((rd : Int)), .int .i64 ((rd : Int)), .int .i64 (0), .int .i64 ((n : Int)), .int .i64 (0), .int .i64 (0)] (0, 0) _ rfl ?_ Try.underlying25 rfl (by kernel_rfl)) rfl ?_
  exact blk7 (by repeat (first | (with_reducible exact Blk.new _ _ _) | (with_reducible apply Blk.drewN) | (with_reducible apply Blk.drew) | (with_reducible apply Blk.alloc))) _ _ _ _ _ _ _
  exact ⟨rfl, by (repeat (first | (with_reducible exact Fr.refl _ _) | (with_reducible apply Fr.drewN) | (with_reducible apply Fr.alloc) | (with_reducible apply Fr.drew) | (with_reducible refine Fr.setCell ?_ (Or.inr (by simp)) _)))⟩
set_option maxHeartbeats 1000000 in
theorem third_1 (h : Nat) (hh : h < 65536) (w : World) (ck : bv h 13 3 0 = 1) : Calls Try.prog 14 #[.int .u16 (h : Int)] w fun e w' => e = .returned (i7 (thirdP h)) ∧ Fr (fun _ => False) w w' := by
  have HK := Lib.hid (show ∀ w, Calls Try.prog 22 #[.int .u16 (h : Int), .int .i64 13, .int .i64 3, .int .i64 0] w fun e w' => e = .returned (.int .i64 (1)) ∧ Drawn0 w w' from fun w => by have g := bits_any h 13 3 0 hh (by decide) (by decide) w; rw [ck] at g; exact g)
  have HR := Lib.hid (rd_any h hh)
  have hP : thirdP h = i0 := by unfold thirdP; rw [if_neg (by omega), if_neg (by omega), if_neg (by omega), if_neg (by omega), if_neg (by omega), if_neg (by omega)]
  rw [hP]
  clear hP ck
  generalize bv h 7 5 0 = rd at *
  go_enter Try.func14, Try.ntmps14
  go_wp2_with (first | (go_at_call 25; (with_reducible refine (HR.out _).mono ?_); rintro e w' ⟨rfl, ⟨m, rfl⟩⟩) | (go_at_call 22; (with_reducible refine (HK.out _).mono ?_); rintro e w' ⟨rfl, ⟨m, rfl⟩⟩))
  refine bodyPost_ret (results_cell_row rfl _ _ w.heap.size 25 #[.int .i64 (0), .int .i64 (0), .int .i64 (0), .int .i64 (0), .int .i64 (0), .int .i64 (0), .int .i64 (0)] (0, 0) _ rfl ?_ Try.underlying25 rfl (by kernel_rfl)) rfl ?_
  exact blk7 (by repeat (first | (with_reducible exact Blk.new _ _ _) | (with_reducible apply Blk.drewN) | (with_reducible apply Blk.drew) | (with_reducible apply Blk.alloc))) _ _ _ _ _ _ _
  exact ⟨rfl, by (repeat (first | (with_reducible exact Fr.refl _ _) | (with_reducible apply Fr.drewN) | (with_reducible apply Fr.alloc) | (with_reducible apply Fr.drew) | (with_reducible refine Fr.setCell ?_ (Or.inr (by simp)) _)))⟩
set_option maxHeartbeats 1000000 in
theorem third_2 (h : Nat) (hh : h < 65536) (w : World) (ck : bv h 13 3 0 = 2) : Calls Try.prog 14 #[.int .u16 (h : Int)] w fun e w' => e = .returned (i7 (thirdP h)) ∧ Fr (fun _ => False) w w' := by
  have HK := Lib.hid (show ∀ w, Calls Try.prog 22 #[.int .u16 (h : Int), .int .i64 13, .int .i64 3, .int .i64 0] w fun e w' => e = .returned (.int .i64 (2)) ∧ Drawn0 w w' from fun w => by have g := bits_any h 13 3 0 hh (by decide) (by decide) w; rw [ck] at g; exact g)
  have HR := Lib.hid (rd_any h hh)
  have HB0 := Lib.hid (show ∀ w, Calls Try.prog 22 #[.int .u16 (h : Int), .int .i64 2, .int .i64 2, .int .i64 6] w fun e w' => e = .returned (.int .i64 (((bv h 2 2 6 : Nat) : Int))) ∧ Drawn0 w w' from bits_any h 2 2 6 hh (by decide) (by decide))
  have HB1 := Lib.hid (show ∀ w, Calls Try.prog 22 #[.int .u16 (h : Int), .int .i64 12, .int .i64 1, .int .i64 5] w fun e w' => e = .returned (.int .i64 (((bv h 12 1 5 : Nat) : Int))) ∧ Drawn0 w w' from bits_any h 12 1 5 hh (by decide) (by decide))
  have HB2 := Lib.hid (show ∀ w, Calls Try.prog 22 #[.int .u16 (h : Int), .int .i64 4, .int .i64 3, .int .i64 2] w fun e w' => e = .returned (.int .i64 (((bv h 4 3 2 : Nat) : Int))) ∧ Drawn0 w w' from bits_any h 4 3 2 hh (by decide) (by decide))
  have ho := (lwsp_or h).1
  have hoe : (bv h 2 2 6 ||| bv h 12 1 5 ||| bv h 4 3 2) = lwspP h := rfl
  rw [hoe] at ho
  clear hoe
  have hP : thirdP h = if 0 < bv h 7 5 0 then ((13, ((bv h 7 5 0 : Nat) : Int), 2, 0, ((lwspP h : Nat) : Int), 0, 0) : I7) else i0 := by unfold thirdP; rw [if_neg (by omega), if_pos ck]
  rw [hP]
  clear hP ck
  generalize lwspP h = n at *
  generalize bv h 7 5 0 = rd at *
  generalize bv h 2 2 6 = p0 at *
  generalize bv h 12 1 5 = p1 at *
  generalize bv h 4 3 2 = p2 at *
  by_cases c : 0 < rd
  · rw [if_pos c]
    have t1 : decide ((0 : Int) < (rd : Int)) = true := decide_eq_true (by omega)
    have n1 : decide (0 < rd) = true := decide_eq_true c
    clear c
    go_enter Try.func14, Try.ntmps14
    go_wp2_with (first | (go_at_call 25; (with_reducible refine (HR.out _).mono ?_); rintro e w' ⟨rfl, ⟨m, rfl⟩⟩) | (go_at_call 22; (with_reducible refine (HK.out _).mono ?_); rintro e w' ⟨rfl, ⟨m, rfl⟩⟩) | (go_at_call 22; (with_reducible refine (HB0.out _).mono ?_); rintro e w' ⟨rfl, ⟨m, rfl⟩⟩) | (go_at_call 22; (with_reducible refine (HB1.out _).mono ?_); rintro e w' ⟨rfl, ⟨m, rfl⟩⟩) | (go_at_call 22; (with_reducible refine (HB2.out _).mono ?_); rintro e w' ⟨rfl, ⟨m, rfl⟩⟩))
    refine bodyPost_ret (results_cell_row rfl _ _ w.heap.size 25 #[.int .i64 (13), .int .i64 ((rd : Int)), .int .i64 (2), .int .i64 (0), .int .i64 ((n : Int)), .int .i64 (0), .int .i64 (0)] (0, 0) _ rfl ?_ Try.underlying25 rfl (by kernel_rfl)) rfl ?_
    exact blk7 (by repeat (first | (with_reducible exact Blk.new _ _ _) | (with_reducible apply Blk.drewN) | (with_reducible apply Blk.drew) | (with_reducible apply Blk.alloc))) _ _ _ _ _ _ _
    exact ⟨rfl, by (repeat (first | (with_reducible exact Fr.refl _ _) | (with_reducible apply Fr.drewN) | (with_reducible apply Fr.alloc) | (with_reducible apply Fr.drew) | (with_reducible refine Fr.setCell ?_ (Or.inr (by simp)) _)))⟩
  · rw [if_neg c]
    have t1 : decide ((0 : Int) < (rd : Int)) = false := decide_eq_false (by omega)
    have n1 : decide (0 < rd) = false := decide_eq_false c
    clear c
    go_enter Try.func14, Try.ntmps14
    go_wp2_with (first | (go_at_call 25; (with_reducible refine (HR.out _).mono ?_); rintro e w' ⟨rfl, ⟨m, rfl⟩⟩) | (go_at_call 22; (with_reducible refine (HK.out _).mono ?_); rintro e w' ⟨rfl, ⟨m, rfl⟩⟩) | (go_at_call 22; (with_reducible refine (HB0.out _).mono ?_); rintro e w' ⟨rfl, ⟨m, rfl⟩⟩) | (go_at_call 22; (with_reducible refine (HB1.out _).mono ?_); rintro e w' ⟨rfl, ⟨m, rfl⟩⟩) | (go_at_call 22; (with_reducible refine (HB2.out _).mono ?_); rintro e w' ⟨rfl, ⟨m, rfl⟩⟩))
    refine bodyPost_ret (results_cell_row rfl _ _ w.heap.size 25 #[.int .i64 (0), .int .i64 (0), .int .i64 (0), .int .i64 (0), .int .i64 (0), .int .i64 (0), .int .i64 (0)] (0, 0) _ rfl ?_ Try.underlying25 rfl (by kernel_rfl)) rfl ?_
    exact blk7 (by repeat (first | (with_reducible exact Blk.new _ _ _) | (with_reducible apply Blk.drewN) | (with_reducible apply Blk.drew) | (with_reducible apply Blk.alloc))) _ _ _ _ _ _ _
    exact ⟨rfl, by (repeat (first | (with_reducible exact Fr.refl _ _) | (with_reducible apply Fr.drewN) | (with_reducible apply Fr.alloc) | (with_reducible apply Fr.drew) | (with_reducible refine Fr.setCell ?_ (Or.inr (by simp)) _)))⟩
set_option maxHeartbeats 1000000 in
theorem third_3 (h : Nat) (hh : h < 65536) (w : World) (ck : bv h 13 3 0 = 3) : Calls Try.prog 14 #[.int .u16 (h : Int)] w fun e w' => e = .returned (i7 (thirdP h)) ∧ Fr (fun _ => False) w w' := by
  have HK := Lib.hid (show ∀ w, Calls Try.prog 22 #[.int .u16 (h : Int), .int .i64 13, .int .i64 3, .int .i64 0] w fun e w' => e = .returned (.int .i64 (3)) ∧ Drawn0 w w' from fun w => by have g := bits_any h 13 3 0 hh (by decide) (by decide) w; rw [ck] at g; exact g)
  have HR := Lib.hid (rd_any h hh)
  have HB0 := Lib.hid (show ∀ w, Calls Try.prog 22 #[.int .u16 (h : Int), .int .i64 2, .int .i64 3, .int .i64 6] w fun e w' => e = .returned (.int .i64 (((bv h 2 3 6 : Nat) : Int))) ∧ Drawn0 w w' from bits_any h 2 3 6 hh (by decide) (by decide))
  have HB1 := Lib.hid (show ∀ w, Calls Try.prog 22 #[.int .u16 (h : Int), .int .i64 12, .int .i64 1, .int .i64 5] w fun e w' => e = .returned (.int .i64 (((bv h 12 1 5 : Nat) : Int))) ∧ Drawn0 w w' from bits_any h 12 1 5 hh (by decide) (by decide))
  have HB2 := Lib.hid (show ∀ w, Calls Try.prog 22 #[.int .u16 (h : Int), .int .i64 5, .int .i64 2, .int .i64 3] w fun e w' => e = .returned (.int .i64 (((bv h 5 2 3 : Nat) : Int))) ∧ Drawn0 w w' from bits_any h 5 2 3 hh (by decide) (by decide))
  have ho := (ldsp_or h).1
  have hoe : (bv h 2 3 6 ||| bv h 12 1 5 ||| bv h 5 2 3) = ldspP h := rfl
  rw [hoe] at ho
  clear hoe
  have hP : thirdP h = if 0 < bv h 7 5 0 then ((14, ((bv h 7 5 0 : Nat) : Int), 2, 0, ((ldspP h : Nat) : Int), 0, 0) : I7) else i0 := by unfold thirdP; rw [if_neg (by omega), if_neg (by omega), if_pos ck]
  rw [hP]
  clear hP ck
  generalize ldspP h = n at *
  generalize bv h 7 5 0 = rd at *
  generalize bv h 2 3 6 = p0 at *
  generalize bv h 12 1 5 = p1 at *
  generalize bv h 5 2 3 = p2 at *
  by_cases c : 0 < rd
  · rw [if_pos c]
    have t1 : decide ((0 : Int) < (rd : Int)) = true := decide_eq_true (by omega)
    have n1 : decide (0 < rd) = true := decide_eq_true c
    clear c
    go_enter Try.func14, Try.ntmps14
    go_wp2_with (first | (go_at_call 25; (with_reducible refine (HR.out _).mono ?_); rintro e w' ⟨rfl, ⟨m, rfl⟩⟩) | (go_at_call 22; (with_reducible refine (HK.out _).mono ?_); rintro e w' ⟨rfl, ⟨m, rfl⟩⟩) | (go_at_call 22; (with_reducible refine (HB0.out _).mono ?_); rintro e w' ⟨rfl, ⟨m, rfl⟩⟩) | (go_at_call 22; (with_reducible refine (HB1.out _).mono ?_); rintro e w' ⟨rfl, ⟨m, rfl⟩⟩) | (go_at_call 22; (with_reducible refine (HB2.out _).mono ?_); rintro e w' ⟨rfl, ⟨m, rfl⟩⟩))
    refine bodyPost_ret (results_cell_row rfl _ _ w.heap.size 25 #[.int .i64 (14), .int .i64 ((rd : Int)), .int .i64 (2), .int .i64 (0), .int .i64 ((n : Int)), .int .i64 (0), .int .i64 (0)] (0, 0) _ rfl ?_ Try.underlying25 rfl (by kernel_rfl)) rfl ?_
    exact blk7 (by repeat (first | (with_reducible exact Blk.new _ _ _) | (with_reducible apply Blk.drewN) | (with_reducible apply Blk.drew) | (with_reducible apply Blk.alloc))) _ _ _ _ _ _ _
    exact ⟨rfl, by (repeat (first | (with_reducible exact Fr.refl _ _) | (with_reducible apply Fr.drewN) | (with_reducible apply Fr.alloc) | (with_reducible apply Fr.drew) | (with_reducible refine Fr.setCell ?_ (Or.inr (by simp)) _)))⟩
  · rw [if_neg c]
    have t1 : decide ((0 : Int) < (rd : Int)) = false := decide_eq_false (by omega)
    have n1 : decide (0 < rd) = false := decide_eq_false c
    clear c
    go_enter Try.func14, Try.ntmps14
    go_wp2_with (first | (go_at_call 25; (with_reducible refine (HR.out _).mono ?_); rintro e w' ⟨rfl, ⟨m, rfl⟩⟩) | (go_at_call 22; (with_reducible refine (HK.out _).mono ?_); rintro e w' ⟨rfl, ⟨m, rfl⟩⟩) | (go_at_call 22; (with_reducible refine (HB0.out _).mono ?_); rintro e w' ⟨rfl, ⟨m, rfl⟩⟩) | (go_at_call 22; (with_reducible refine (HB1.out _).mono ?_); rintro e w' ⟨rfl, ⟨m, rfl⟩⟩) | (go_at_call 22; (with_reducible refine (HB2.out _).mono ?_); rintro e w' ⟨rfl, ⟨m, rfl⟩⟩))
    refine bodyPost_ret (results_cell_row rfl _ _ w.heap.size 25 #[.int .i64 (0), .int .i64 (0), .int .i64 (0), .int .i64 (0), .int .i64 (0), .int .i64 (0), .int .i64 (0)] (0, 0) _ rfl ?_ Try.underlying25 rfl (by kernel_rfl)) rfl ?_
    exact blk7 (by repeat (first | (with_reducible exact Blk.new _ _ _) | (with_reducible apply Blk.drewN) | (with_reducible apply Blk.drew) | (with_reducible apply Blk.alloc))) _ _ _ _ _ _ _
    exact ⟨rfl, by (repeat (first | (with_reducible exact Fr.refl _ _) | (with_reducible apply Fr.drewN) | (with_reducible apply Fr.alloc) | (with_reducible apply Fr.drew) | (with_reducible refine Fr.setCell ?_ (Or.inr (by simp)) _)))⟩
set_option maxHeartbeats 1000000 in
theorem third_4 (h : Nat) (hh : h < 65536) (w : World) (ck : bv h 13 3 0 = 4) : Calls Try.prog 14 #[.int .u16 (h : Int)] w fun e w' => e = .returned (i7 (thirdP h)) ∧ Fr (fun _ => False) w w' := by
  have HK := Lib.hid (show ∀ w, Calls Try.prog 22 #[.int .u16 (h : Int), .int .i64 13, .int .i64 3, .int .i64 0] w fun e w' => e = .returned (.int .i64 (4)) ∧ Drawn0 w w' from fun w => by have g := bits_any h 13 3 0 hh (by decide) (by decide) w; rw [ck] at g; exact g)
  have HR := Lib.hid (rd_any h hh)
  have HC := Lib.hid (moves_any h hh)
  have hP : thirdP h = movesP h := by unfold thirdP; rw [if_neg (by omega), if_neg (by omega), if_neg (by omega), if_pos ck]
  rw [hP]
  clear hP ck
  generalize movesP h = i at *
  obtain ⟨x0, x1, x2, x3, x4, x5, x6⟩ := i
  have HC := Lib.hid (show ∀ w, Calls Try.prog 32 #[.int .u16 (h : Int)] w fun e w' => e = .returned (.agg #[.int .i64 x0, .int .i64 x1, .int .i64 x2, .int .i64 x3, .int .i64 x4, .int .i64 x5, .int .i64 x6]) ∧ Fr (fun _ => False) w w' from HC.out)
  go_enter Try.func14, Try.ntmps14
  go_wp2_with (first | (go_at_call 25; (with_reducible refine (HR.out _).mono ?_); rintro e w' ⟨rfl, ⟨m, rfl⟩⟩) | (go_at_call 22; (with_reducible refine (HK.out _).mono ?_); rintro e w' ⟨rfl, ⟨m, rfl⟩⟩))
  refine (HC.out _).mono ?_
  rintro e w' ⟨rfl, hf⟩
  have hb0 : Blk w' w.heap.size 25 #[.int .i64 0, .int .i64 0, .int .i64 0, .int .i64 0, .int .i64 0, .int .i64 0, .int .i64 0] := Blk.fr (by repeat (first | (with_reducible exact Blk.new _ _ _) | (with_reducible apply Blk.drewN) | (with_reducible apply Blk.drew) | (with_reducible apply Blk.alloc))) hf id
  have hfr : Fr (fun _ => False) w w' := Fr.trans (by (repeat (first | (with_reducible exact Fr.refl _ _) | (with_reducible apply Fr.drewN) | (with_reducible apply Fr.alloc) | (with_reducible apply Fr.drew) | (with_reducible refine Fr.setCell ?_ (Or.inr (by simp)) _)))) hf (fun _ _ h => h)
  have k0 := hb0.cell 0
  have k1 := hb0.cell 1
  have k2 := hb0.cell 2
  have k3 := hb0.cell 3
  have k4 := hb0.cell 4
  have k5 := hb0.cell 5
  have k6 := hb0.cell 6
  have f0 := hb0.frozen 0
  have f1 := hb0.frozen 1
  have f2 := hb0.frozen 2
  have f3 := hb0.frozen 3
  have f4 := hb0.frozen 4
  have f5 := hb0.frozen 5
  have f6 := hb0.frozen 6
  simp at k0 k1 k2 k3 k4 k5 k6
  have HB0 := Lib.hid hb0
  have HFR := Lib.hid hfr
  clear hb0 hfr hf
  have hne : ¬ w'.heap.size = w.heap.size := by have := HB0.out.lt; omega
  go_wp2_with fail
  refine bodyPost_ret (results_cell_row rfl _ _ w.heap.size 25 #[.int .i64 x0, .int .i64 x1, .int .i64 x2, .int .i64 x3, .int .i64 x4, .int .i64 x5, .int .i64 x6] (0, 0) _ rfl ?_ Try.underlying25 rfl (by kernel_rfl)) rfl ?_
  exact blk7 HB0.out _ _ _ _ _ _ _
  exact ⟨rfl, by (repeat (first | (with_reducible exact HFR.out) | (with_reducible refine Fr.setCell ?_ (Or.inr (by simp)) _)))⟩
set_option maxHeartbeats 1000000 in
theorem third_5 (h : Nat) (hh : h < 65536) (w : World) (ck : bv h 13 3 0 = 5) : Calls Try.prog 14 #[.int .u16 (h : Int)] w fun e w' => e = .returned (i7 (thirdP h)) ∧ Fr (fun _ => False) w w' := by
  have HK := Lib.hid (show ∀ w, Calls Try.prog 22 #[.int .u16 (h : Int), .int .i64 13, .int .i64 3, .int .i64 0] w fun e w' => e = .returned (.int .i64 (5)) ∧ Drawn0 w w' from fun w => by have g := bits_any h 13 3 0 hh (by decide) (by decide) w; rw [ck] at g; exact g)
  have HR := Lib.hid (rd_any h hh)
  have hP : thirdP h = i0 := by unfold thirdP; rw [if_neg (by omega), if_neg (by omega), if_neg (by omega), if_neg (by omega), if_neg (by omega), if_neg (by omega)]
  rw [hP]
  clear hP ck
  generalize bv h 7 5 0 = rd at *
  go_enter Try.func14, Try.ntmps14
  go_wp2_with (first | (go_at_call 25; (with_reducible refine (HR.out _).mono ?_); rintro e w' ⟨rfl, ⟨m, rfl⟩⟩) | (go_at_call 22; (with_reducible refine (HK.out _).mono ?_); rintro e w' ⟨rfl, ⟨m, rfl⟩⟩))
  refine bodyPost_ret (results_cell_row rfl _ _ w.heap.size 25 #[.int .i64 (0), .int .i64 (0), .int .i64 (0), .int .i64 (0), .int .i64 (0), .int .i64 (0), .int .i64 (0)] (0, 0) _ rfl ?_ Try.underlying25 rfl (by kernel_rfl)) rfl ?_
  exact blk7 (by repeat (first | (with_reducible exact Blk.new _ _ _) | (with_reducible apply Blk.drewN) | (with_reducible apply Blk.drew) | (with_reducible apply Blk.alloc))) _ _ _ _ _ _ _
  exact ⟨rfl, by (repeat (first | (with_reducible exact Fr.refl _ _) | (with_reducible apply Fr.drewN) | (with_reducible apply Fr.alloc) | (with_reducible apply Fr.drew) | (with_reducible refine Fr.setCell ?_ (Or.inr (by simp)) _)))⟩
set_option maxHeartbeats 1000000 in
theorem third_6 (h : Nat) (hh : h < 65536) (w : World) (ck : bv h 13 3 0 = 6) : Calls Try.prog 14 #[.int .u16 (h : Int)] w fun e w' => e = .returned (i7 (thirdP h)) ∧ Fr (fun _ => False) w w' := by
  have HK := Lib.hid (show ∀ w, Calls Try.prog 22 #[.int .u16 (h : Int), .int .i64 13, .int .i64 3, .int .i64 0] w fun e w' => e = .returned (.int .i64 (6)) ∧ Drawn0 w w' from fun w => by have g := bits_any h 13 3 0 hh (by decide) (by decide) w; rw [ck] at g; exact g)
  have HR := Lib.hid (rd_any h hh)
  have HS := Lib.hid (rs2_any h hh)
  have HB0 := Lib.hid (show ∀ w, Calls Try.prog 22 #[.int .u16 (h : Int), .int .i64 7, .int .i64 2, .int .i64 6] w fun e w' => e = .returned (.int .i64 (((bv h 7 2 6 : Nat) : Int))) ∧ Drawn0 w w' from bits_any h 7 2 6 hh (by decide) (by decide))
  have HB1 := Lib.hid (show ∀ w, Calls Try.prog 22 #[.int .u16 (h : Int), .int .i64 9, .int .i64 4, .int .i64 2] w fun e w' => e = .returned (.int .i64 (((bv h 9 4 2 : Nat) : Int))) ∧ Drawn0 w w' from bits_any h 9 4 2 hh (by decide) (by decide))
  have ho := (swsp_or h).1
  have hoe : (bv h 7 2 6 ||| bv h 9 4 2) = swspP h := rfl
  rw [hoe] at ho
  clear hoe
  have hP : thirdP h = (20, 0, 2, ((bv h 2 5 0 : Nat) : Int), ((swspP h : Nat) : Int), 0, 0) := by unfold thirdP; rw [if_neg (by omega), if_neg (by omega), if_neg (by omega), if_neg (by omega), if_pos ck]
  rw [hP]
  clear hP ck
  generalize swspP h = n at *
  generalize bv h 7 5 0 = rd at *
  generalize bv h 2 5 0 = s at *
  generalize bv h 7 2 6 = p0 at *
  generalize bv h 9 4 2 = p1 at *
  go_enter Try.func14, Try.ntmps14
  go_wp2_with (first | (go_at_call 25; (with_reducible refine (HR.out _).mono ?_); rintro e w' ⟨rfl, ⟨m, rfl⟩⟩) | (go_at_call 22; (with_reducible refine (HK.out _).mono ?_); rintro e w' ⟨rfl, ⟨m, rfl⟩⟩) | (go_at_call 33; (with_reducible refine (HS.out _).mono ?_); rintro e w' ⟨rfl, ⟨m, rfl⟩⟩) | (go_at_call 22; (with_reducible refine (HB0.out _).mono ?_); rintro e w' ⟨rfl, ⟨m, rfl⟩⟩) | (go_at_call 22; (with_reducible refine (HB1.out _).mono ?_); rintro e w' ⟨rfl, ⟨m, rfl⟩⟩))
  refine bodyPost_ret (results_cell_row rfl _ _ w.heap.size 25 #[.int .i64 (20), .int .i64 (0), .int .i64 (2), .int .i64 ((s : Int)), .int .i64 ((n : Int)), .int .i64 (0), .int .i64 (0)] (0, 0) _ rfl ?_ Try.underlying25 rfl (by kernel_rfl)) rfl ?_
  exact blk7 (by repeat (first | (with_reducible exact Blk.new _ _ _) | (with_reducible apply Blk.drewN) | (with_reducible apply Blk.drew) | (with_reducible apply Blk.alloc))) _ _ _ _ _ _ _
  exact ⟨rfl, by (repeat (first | (with_reducible exact Fr.refl _ _) | (with_reducible apply Fr.drewN) | (with_reducible apply Fr.alloc) | (with_reducible apply Fr.drew) | (with_reducible refine Fr.setCell ?_ (Or.inr (by simp)) _)))⟩
set_option maxHeartbeats 1000000 in
theorem third_7 (h : Nat) (hh : h < 65536) (w : World) (ck : bv h 13 3 0 = 7) : Calls Try.prog 14 #[.int .u16 (h : Int)] w fun e w' => e = .returned (i7 (thirdP h)) ∧ Fr (fun _ => False) w w' := by
  have HK := Lib.hid (show ∀ w, Calls Try.prog 22 #[.int .u16 (h : Int), .int .i64 13, .int .i64 3, .int .i64 0] w fun e w' => e = .returned (.int .i64 (7)) ∧ Drawn0 w w' from fun w => by have g := bits_any h 13 3 0 hh (by decide) (by decide) w; rw [ck] at g; exact g)
  have HR := Lib.hid (rd_any h hh)
  have HS := Lib.hid (rs2_any h hh)
  have HB0 := Lib.hid (show ∀ w, Calls Try.prog 22 #[.int .u16 (h : Int), .int .i64 7, .int .i64 3, .int .i64 6] w fun e w' => e = .returned (.int .i64 (((bv h 7 3 6 : Nat) : Int))) ∧ Drawn0 w w' from bits_any h 7 3 6 hh (by decide) (by decide))
  have HB1 := Lib.hid (show ∀ w, Calls Try.prog 22 #[.int .u16 (h : Int), .int .i64 10, .int .i64 3, .int .i64 3] w fun e w' => e = .returned (.int .i64 (((bv h 10 3 3 : Nat) : Int))) ∧ Drawn0 w w' from bits_any h 10 3 3 hh (by decide) (by decide))
  have ho := (sdsp_or h).1
  have hoe : (bv h 7 3 6 ||| bv h 10 3 3) = sdspP h := rfl
  rw [hoe] at ho
  clear hoe
  have hP : thirdP h = (21, 0, 2, ((bv h 2 5 0 : Nat) : Int), ((sdspP h : Nat) : Int), 0, 0) := by unfold thirdP; rw [if_neg (by omega), if_neg (by omega), if_neg (by omega), if_neg (by omega), if_neg (by omega), if_pos ck]
  rw [hP]
  clear hP ck
  generalize sdspP h = n at *
  generalize bv h 7 5 0 = rd at *
  generalize bv h 2 5 0 = s at *
  generalize bv h 7 3 6 = p0 at *
  generalize bv h 10 3 3 = p1 at *
  go_enter Try.func14, Try.ntmps14
  go_wp2_with (first | (go_at_call 25; (with_reducible refine (HR.out _).mono ?_); rintro e w' ⟨rfl, ⟨m, rfl⟩⟩) | (go_at_call 22; (with_reducible refine (HK.out _).mono ?_); rintro e w' ⟨rfl, ⟨m, rfl⟩⟩) | (go_at_call 33; (with_reducible refine (HS.out _).mono ?_); rintro e w' ⟨rfl, ⟨m, rfl⟩⟩) | (go_at_call 22; (with_reducible refine (HB0.out _).mono ?_); rintro e w' ⟨rfl, ⟨m, rfl⟩⟩) | (go_at_call 22; (with_reducible refine (HB1.out _).mono ?_); rintro e w' ⟨rfl, ⟨m, rfl⟩⟩))
  refine bodyPost_ret (results_cell_row rfl _ _ w.heap.size 25 #[.int .i64 (21), .int .i64 (0), .int .i64 (2), .int .i64 ((s : Int)), .int .i64 ((n : Int)), .int .i64 (0), .int .i64 (0)] (0, 0) _ rfl ?_ Try.underlying25 rfl (by kernel_rfl)) rfl ?_
  exact blk7 (by repeat (first | (with_reducible exact Blk.new _ _ _) | (with_reducible apply Blk.drewN) | (with_reducible apply Blk.drew) | (with_reducible apply Blk.alloc))) _ _ _ _ _ _ _
  exact ⟨rfl, by (repeat (first | (with_reducible exact Fr.refl _ _) | (with_reducible apply Fr.drewN) | (with_reducible apply Fr.alloc) | (with_reducible apply Fr.drew) | (with_reducible refine Fr.setCell ?_ (Or.inr (by simp)) _)))⟩
theorem third_any (h : Nat) (hh : h < 65536) (w : World) : Calls Try.prog 14 #[.int .u16 (h : Int)] w fun e w' => e = .returned (i7 (thirdP h)) ∧ Fr (fun _ => False) w w' := by
  have hk : bv h 13 3 0 = 0 ∨ bv h 13 3 0 = 1 ∨ bv h 13 3 0 = 2 ∨ bv h 13 3 0 = 3 ∨ bv h 13 3 0 = 4 ∨ bv h 13 3 0 = 5 ∨ bv h 13 3 0 = 6 ∨ bv h 13 3 0 = 7 := by unfold bv; omega
  rcases hk with ck | ck | ck | ck | ck | ck | ck | ck
  · exact third_0 h hh w ck
  · exact third_1 h hh w ck
  · exact third_2 h hh w ck
  · exact third_3 h hh w ck
  · exact third_4 h hh w ck
  · exact third_5 h hh w ck
  · exact third_6 h hh w ck
  · exact third_7 h hh w ck
end Go.Proofs.Ytgefhoikpjiamaa.Cmp
