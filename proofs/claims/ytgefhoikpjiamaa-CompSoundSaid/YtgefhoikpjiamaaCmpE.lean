/- The contract of comp.Expand: the instruction of a short word, or that it is none, as its plain twin says; for every word of 16 bits. -/
import Derived.Test.YtgefhoikpjiamaaCmpX
import Derived.Deep.Cut
namespace Go.Proofs.Ytgefhoikpjiamaa.Cmp
open Go Go.RowKit Go.Proofs.YtgefhoikpjiamaaW.PrintWords Go.Proofs.YtgefhoikpjiamaaW.PrintLast Go.Proofs.YtgefhoikpjiamaaW.PrintMore
open Go.Proofs.Ytgefhoikpjiamaa.Hp Go.Proofs.Ytgefhoikpjiamaa.Bv
attribute [local go_sem] max2_int min2_int max_two min_two max_three min_three max_four min_four
set_option linter.unusedVariables false
set_option linter.unusedSimpArgs false
theorem and3 (h : Nat) (hh : h < 65536) : bits .and .u16 (h : Int) 3 = ((h % 4 : Nat) : Int) := by
  show IntKind.u16.wrap ((BitVec.ofInt 16 (h : Int) &&& BitVec.ofInt 16 3).toNat : Int) = _
  rw [BitVec.toNat_and, BitVec.ofInt_natCast, BitVec.toNat_ofNat, Nat.mod_eq_of_lt (show h < 2 ^ 16 by omega), show (BitVec.ofInt 16 3).toNat = 2 ^ 2 - 1 from rfl, Nat.and_two_pow_sub_one_eq_mod]
  have : h % 2 ^ 2 < 4 := Nat.mod_lt _ (by decide)
  show ((h % 2 ^ 2 : Nat) : Int) % 65536 = _
  omega
theorem size2_no {i : I7} (h : i.1 = 0) : size2 i = (i0, false) := by unfold size2; rw [if_pos h]
theorem size2_yes {i : I7} (h : ¬ i.1 = 0) : size2 i = ((i.1, i.2.1, i.2.2.1, i.2.2.2.1, i.2.2.2.2.1, i.2.2.2.2.2.1, 2), true) := by unfold size2; rw [if_neg h]
set_option maxHeartbeats 2000000 in
theorem expand_0 (h : Nat) (hh : h < 65536) (w : World) (ck : h % 4 = 0) : Calls Try.prog 7 #[.int .u16 (h : Int)] w fun e w' => e = .returned (.tuple #[i7 (expandP h).1, .bool (expandP h).2]) ∧ Fr (fun _ => False) w w' := by
  have ha : bits .and .u16 (h : Int) 3 = 0 := by rw [and3 h hh, ck]; rfl
  have HC := Lib.hid (first_any h hh)
  have hP : expandP h = size2 (firstP h) := by unfold expandP quarterP; rw [if_pos ck]
  rw [hP]
  clear hP ck
  generalize firstP h = i at *
  obtain ⟨x0, x1, x2, x3, x4, x5, x6⟩ := i
  have HC := Lib.hid (show ∀ w, Calls Try.prog 12 #[.int .u16 (h : Int)] w fun e w' => e = .returned (.agg #[.int .i64 x0, .int .i64 x1, .int .i64 x2, .int .i64 x3, .int .i64 x4, .int .i64 x5, .int .i64 x6]) ∧ Fr (fun _ => False) w w' from HC.out)
  by_cases c : x0 = 0
  · rw [size2_no c]
    have t0 : (x0 == 0) = true := beq_iff_eq.2 c
    clear c
    go_enter Try.func7, Try.ntmps7
    go_wp2_with fail
    refine (HC.out _).mono ?_
    rintro e w' ⟨rfl, hf⟩
    have hs1 : (w.alloc (.cells #[.int .i64 0, .int .i64 0, .int .i64 0, .int .i64 0, .int .i64 0, .int .i64 0, .int .i64 0] 25)).heap.size = w.heap.size + 1 := by simp
    have hbA : Blk w' w.heap.size 25 #[.int .i64 0, .int .i64 0, .int .i64 0, .int .i64 0, .int .i64 0, .int .i64 0, .int .i64 0] := ((Blk.new w _ _).alloc _).fr hf id
    have hbB : Blk w' (w.heap.size + 1) 25 #[.int .i64 0, .int .i64 0, .int .i64 0, .int .i64 0, .int .i64 0, .int .i64 0, .int .i64 0] := by
      have g := (Blk.new (w.alloc (.cells #[.int .i64 0, .int .i64 0, .int .i64 0, .int .i64 0, .int .i64 0, .int .i64 0, .int .i64 0] 25)) 25 #[.int .i64 0, .int .i64 0, .int .i64 0, .int .i64 0, .int .i64 0, .int .i64 0, .int .i64 0]).fr hf id
      rwa [hs1] at g
    have hfr : Fr (fun _ => False) w w' := Fr.trans (by (repeat (first | (with_reducible exact Fr.refl _ _) | (with_reducible apply Fr.drewN) | (with_reducible apply Fr.alloc) | (with_reducible apply Fr.drew) | (with_reducible refine Fr.setCell ?_ (Or.inr (by simp)) _)))) hf (fun _ _ h => h)
    have ka0 := hbA.cell 0
    have fa0 := hbA.frozen 0
    have ka1 := hbA.cell 1
    have fa1 := hbA.frozen 1
    have ka2 := hbA.cell 2
    have fa2 := hbA.frozen 2
    have ka3 := hbA.cell 3
    have fa3 := hbA.frozen 3
    have ka4 := hbA.cell 4
    have fa4 := hbA.frozen 4
    have ka5 := hbA.cell 5
    have fa5 := hbA.frozen 5
    have ka6 := hbA.cell 6
    have fa6 := hbA.frozen 6
    have kb0 := hbB.cell 0
    have fb0 := hbB.frozen 0
    have kb1 := hbB.cell 1
    have fb1 := hbB.frozen 1
    have kb2 := hbB.cell 2
    have fb2 := hbB.frozen 2
    have kb3 := hbB.cell 3
    have fb3 := hbB.frozen 3
    have kb4 := hbB.cell 4
    have fb4 := hbB.frozen 4
    have kb5 := hbB.cell 5
    have fb5 := hbB.frozen 5
    have kb6 := hbB.cell 6
    have fb6 := hbB.frozen 6
    simp at ka0 ka1 ka2 ka3 ka4 ka5 ka6 kb0 kb1 kb2 kb3 kb4 kb5 kb6
    have HBA := Lib.hid hbA
    have HBB := Lib.hid hbB
    have HFR := Lib.hid hfr
    have hlt : w.heap.size + 1 < w'.heap.size := hbB.lt
    clear hbA hbB hfr hf hs1
    go_upto_region 9 with (fail)
    have HB2 := Lib.hid (blk7 HBB.out (.int .i64 x0) (.int .i64 x1) (.int .i64 x2) (.int .i64 x3) (.int .i64 x4) (.int .i64 x5) (.int .i64 x6))
    have HA2 := Lib.hid (show Blk (((((((w'.setCell ⟨w.heap.size + 1, 0, none⟩ (.int .i64 x0)).setCell ⟨w.heap.size + 1, 1, none⟩ (.int .i64 x1)).setCell ⟨w.heap.size + 1, 2, none⟩ (.int .i64 x2)).setCell ⟨w.heap.size + 1, 3, none⟩ (.int .i64 x3)).setCell ⟨w.heap.size + 1, 4, none⟩ (.int .i64 x4)).setCell ⟨w.heap.size + 1, 5, none⟩ (.int .i64 x5)).setCell ⟨w.heap.size + 1, 6, none⟩ (.int .i64 x6)) w.heap.size 25 #[.int .i64 0, .int .i64 0, .int .i64 0, .int .i64 0, .int .i64 0, .int .i64 0, .int .i64 0] from by repeat (first | (with_reducible exact HBA.out) | (with_reducible refine Blk.set_ne ?_ (by simp) _)))
    have HF2 := Lib.hid (show Fr (fun _ => False) w (((((((w'.setCell ⟨w.heap.size + 1, 0, none⟩ (.int .i64 x0)).setCell ⟨w.heap.size + 1, 1, none⟩ (.int .i64 x1)).setCell ⟨w.heap.size + 1, 2, none⟩ (.int .i64 x2)).setCell ⟨w.heap.size + 1, 3, none⟩ (.int .i64 x3)).setCell ⟨w.heap.size + 1, 4, none⟩ (.int .i64 x4)).setCell ⟨w.heap.size + 1, 5, none⟩ (.int .i64 x5)).setCell ⟨w.heap.size + 1, 6, none⟩ (.int .i64 x6)) from by (repeat (first | (with_reducible exact HFR.out) | (with_reducible refine Fr.setCell ?_ (Or.inr (by simp)) _))))
    clear HBA HBB HFR hlt ka0 fa0 ka1 fa1 ka2 fa2 ka3 fa3 ka4 fa4 ka5 fa5 ka6 fa6 kb0 fb0 kb1 fb1 kb2 fb2 kb3 fb3 kb4 fb4 kb5 fb5 kb6 fb6
    generalize (((((((w'.setCell ⟨w.heap.size + 1, 0, none⟩ (.int .i64 x0)).setCell ⟨w.heap.size + 1, 1, none⟩ (.int .i64 x1)).setCell ⟨w.heap.size + 1, 2, none⟩ (.int .i64 x2)).setCell ⟨w.heap.size + 1, 3, none⟩ (.int .i64 x3)).setCell ⟨w.heap.size + 1, 4, none⟩ (.int .i64 x4)).setCell ⟨w.heap.size + 1, 5, none⟩ (.int .i64 x5)).setCell ⟨w.heap.size + 1, 6, none⟩ (.int .i64 x6)) = w2 at *
    have ka0 := HA2.out.cell 0
    have fa0 := HA2.out.frozen 0
    have ka1 := HA2.out.cell 1
    have fa1 := HA2.out.frozen 1
    have ka2 := HA2.out.cell 2
    have fa2 := HA2.out.frozen 2
    have ka3 := HA2.out.cell 3
    have fa3 := HA2.out.frozen 3
    have ka4 := HA2.out.cell 4
    have fa4 := HA2.out.frozen 4
    have ka5 := HA2.out.cell 5
    have fa5 := HA2.out.frozen 5
    have ka6 := HA2.out.cell 6
    have fa6 := HA2.out.frozen 6
    have kb0 := HB2.out.cell 0
    have fb0 := HB2.out.frozen 0
    have kb1 := HB2.out.cell 1
    have fb1 := HB2.out.frozen 1
    have kb2 := HB2.out.cell 2
    have fb2 := HB2.out.frozen 2
    have kb3 := HB2.out.cell 3
    have fb3 := HB2.out.frozen 3
    have kb4 := HB2.out.cell 4
    have fb4 := HB2.out.frozen 4
    have kb5 := HB2.out.cell 5
    have fb5 := HB2.out.frozen 5
    have kb6 := HB2.out.cell 6
    have fb6 := HB2.out.frozen 6
    simp at ka0 ka1 ka2 ka3 ka4 ka5 ka6 kb0 kb1 kb2 kb3 kb4 kb5 kb6
    go_wp2_with fail
    refine bodyPost_ret (results_ct rfl _ _ w.heap.size 25 #[.int .i64 0, .int .i64 0, .int .i64 0, .int .i64 0, .int .i64 0, .int .i64 0, .int .i64 0] (0, 0) _ rfl ?_ Try.underlying25 rfl (by kernel_rfl)) rfl ?_
    · exact blk7 (by repeat (first | (with_reducible exact HA2.out) | (with_reducible refine Blk.set_ne ?_ (by simp) _))) _ _ _ _ _ _ _
    · exact ⟨rfl, by (repeat (first | (with_reducible exact HF2.out) | (with_reducible refine Fr.setCell ?_ (Or.inr (by simp)) _)))⟩
  · rw [size2_yes c]
    have t0 : (x0 == 0) = false := beq_eq_false_iff_ne.2 c
    clear c
    go_enter Try.func7, Try.ntmps7
    go_wp2_with fail
    refine (HC.out _).mono ?_
    rintro e w' ⟨rfl, hf⟩
    have hs1 : (w.alloc (.cells #[.int .i64 0, .int .i64 0, .int .i64 0, .int .i64 0, .int .i64 0, .int .i64 0, .int .i64 0] 25)).heap.size = w.heap.size + 1 := by simp
    have hbA : Blk w' w.heap.size 25 #[.int .i64 0, .int .i64 0, .int .i64 0, .int .i64 0, .int .i64 0, .int .i64 0, .int .i64 0] := ((Blk.new w _ _).alloc _).fr hf id
    have hbB : Blk w' (w.heap.size + 1) 25 #[.int .i64 0, .int .i64 0, .int .i64 0, .int .i64 0, .int .i64 0, .int .i64 0, .int .i64 0] := by
      have g := (Blk.new (w.alloc (.cells #[.int .i64 0, .int .i64 0, .int .i64 0, .int .i64 0, .int .i64 0, .int .i64 0, .int .i64 0] 25)) 25 #[.int .i64 0, .int .i64 0, .int .i64 0, .int .i64 0, .int .i64 0, .int .i64 0, .int .i64 0]).fr hf id
      rwa [hs1] at g
    have hfr : Fr (fun _ => False) w w' := Fr.trans (by (repeat (first | (with_reducible exact Fr.refl _ _) | (with_reducible apply Fr.drewN) | (with_reducible apply Fr.alloc) | (with_reducible apply Fr.drew) | (with_reducible refine Fr.setCell ?_ (Or.inr (by simp)) _)))) hf (fun _ _ h => h)
    have ka0 := hbA.cell 0
    have fa0 := hbA.frozen 0
    have ka1 := hbA.cell 1
    have fa1 := hbA.frozen 1
    have ka2 := hbA.cell 2
    have fa2 := hbA.frozen 2
    have ka3 := hbA.cell 3
    have fa3 := hbA.frozen 3
    have ka4 := hbA.cell 4
    have fa4 := hbA.frozen 4
    have ka5 := hbA.cell 5
    have fa5 := hbA.frozen 5
    have ka6 := hbA.cell 6
    have fa6 := hbA.frozen 6
    have kb0 := hbB.cell 0
    have fb0 := hbB.frozen 0
    have kb1 := hbB.cell 1
    have fb1 := hbB.frozen 1
    have kb2 := hbB.cell 2
    have fb2 := hbB.frozen 2
    have kb3 := hbB.cell 3
    have fb3 := hbB.frozen 3
    have kb4 := hbB.cell 4
    have fb4 := hbB.frozen 4
    have kb5 := hbB.cell 5
    have fb5 := hbB.frozen 5
    have kb6 := hbB.cell 6
    have fb6 := hbB.frozen 6
    simp at ka0 ka1 ka2 ka3 ka4 ka5 ka6 kb0 kb1 kb2 kb3 kb4 kb5 kb6
    have HBA := Lib.hid hbA
    have HBB := Lib.hid hbB
    have HFR := Lib.hid hfr
    have hlt : w.heap.size + 1 < w'.heap.size := hbB.lt
    clear hbA hbB hfr hf hs1
    go_upto_region 9 with (fail)
    have HB2 := Lib.hid (blk7 HBB.out (.int .i64 x0) (.int .i64 x1) (.int .i64 x2) (.int .i64 x3) (.int .i64 x4) (.int .i64 x5) (.int .i64 x6))
    have HA2 := Lib.hid (show Blk (((((((w'.setCell ⟨w.heap.size + 1, 0, none⟩ (.int .i64 x0)).setCell ⟨w.heap.size + 1, 1, none⟩ (.int .i64 x1)).setCell ⟨w.heap.size + 1, 2, none⟩ (.int .i64 x2)).setCell ⟨w.heap.size + 1, 3, none⟩ (.int .i64 x3)).setCell ⟨w.heap.size + 1, 4, none⟩ (.int .i64 x4)).setCell ⟨w.heap.size + 1, 5, none⟩ (.int .i64 x5)).setCell ⟨w.heap.size + 1, 6, none⟩ (.int .i64 x6)) w.heap.size 25 #[.int .i64 0, .int .i64 0, .int .i64 0, .int .i64 0, .int .i64 0, .int .i64 0, .int .i64 0] from by repeat (first | (with_reducible exact HBA.out) | (with_reducible refine Blk.set_ne ?_ (by simp) _)))
    have HF2 := Lib.hid (show Fr (fun _ => False) w (((((((w'.setCell ⟨w.heap.size + 1, 0, none⟩ (.int .i64 x0)).setCell ⟨w.heap.size + 1, 1, none⟩ (.int .i64 x1)).setCell ⟨w.heap.size + 1, 2, none⟩ (.int .i64 x2)).setCell ⟨w.heap.size + 1, 3, none⟩ (.int .i64 x3)).setCell ⟨w.heap.size + 1, 4, none⟩ (.int .i64 x4)).setCell ⟨w.heap.size + 1, 5, none⟩ (.int .i64 x5)).setCell ⟨w.heap.size + 1, 6, none⟩ (.int .i64 x6)) from by (repeat (first | (with_reducible exact HFR.out) | (with_reducible refine Fr.setCell ?_ (Or.inr (by simp)) _))))
    clear HBA HBB HFR hlt ka0 fa0 ka1 fa1 ka2 fa2 ka3 fa3 ka4 fa4 ka5 fa5 ka6 fa6 kb0 fb0 kb1 fb1 kb2 fb2 kb3 fb3 kb4 fb4 kb5 fb5 kb6 fb6
    generalize (((((((w'.setCell ⟨w.heap.size + 1, 0, none⟩ (.int .i64 x0)).setCell ⟨w.heap.size + 1, 1, none⟩ (.int .i64 x1)).setCell ⟨w.heap.size + 1, 2, none⟩ (.int .i64 x2)).setCell ⟨w.heap.size + 1, 3, none⟩ (.int .i64 x3)).setCell ⟨w.heap.size + 1, 4, none⟩ (.int .i64 x4)).setCell ⟨w.heap.size + 1, 5, none⟩ (.int .i64 x5)).setCell ⟨w.heap.size + 1, 6, none⟩ (.int .i64 x6)) = w2 at *
    have ka0 := HA2.out.cell 0
    have fa0 := HA2.out.frozen 0
    have ka1 := HA2.out.cell 1
    have fa1 := HA2.out.frozen 1
    have ka2 := HA2.out.cell 2
    have fa2 := HA2.out.frozen 2
    have ka3 := HA2.out.cell 3
    have fa3 := HA2.out.frozen 3
    have ka4 := HA2.out.cell 4
    have fa4 := HA2.out.frozen 4
    have ka5 := HA2.out.cell 5
    have fa5 := HA2.out.frozen 5
    have ka6 := HA2.out.cell 6
    have fa6 := HA2.out.frozen 6
    have kb0 := HB2.out.cell 0
    have fb0 := HB2.out.frozen 0
    have kb1 := HB2.out.cell 1
    have fb1 := HB2.out.frozen 1
    have kb2 := HB2.out.cell 2
    have fb2 := HB2.out.frozen 2
    have kb3 := HB2.out.cell 3
    have fb3 := HB2.out.frozen 3
    have kb4 := HB2.out.cell 4
    have fb4 := HB2.out.frozen 4
    have kb5 := HB2.out.cell 5
    have fb5 := HB2.out.frozen 5
    have kb6 := HB2.out.cell 6
    have fb6 := HB2.out.frozen 6
    simp at ka0 ka1 ka2 ka3 ka4 ka5 ka6 kb0 kb1 kb2 kb3 kb4 kb5 kb6
    go_wp2_with fail
    refine bodyPost_ret (results_ct rfl _ _ w.heap.size 25 #[.int .i64 x0, .int .i64 x1, .int .i64 x2, .int .i64 x3, .int .i64 x4, .int .i64 x5, .int .i64 2] (0, 0) _ rfl ?_ Try.underlying25 rfl (by kernel_rfl)) rfl ?_
    · exact blk7 (by repeat (first | (with_reducible exact HA2.out) | (with_reducible refine Blk.set_ne ?_ (by simp) _))) _ _ _ _ _ _ _
    · exact ⟨rfl, by (repeat (first | (with_reducible exact HF2.out) | (with_reducible refine Fr.setCell ?_ (Or.inr (by simp)) _)))⟩
set_option maxHeartbeats 2000000 in
theorem expand_1 (h : Nat) (hh : h < 65536) (w : World) (ck : h % 4 = 1) : Calls Try.prog 7 #[.int .u16 (h : Int)] w fun e w' => e = .returned (.tuple #[i7 (expandP h).1, .bool (expandP h).2]) ∧ Fr (fun _ => False) w w' := by
  have ha : bits .and .u16 (h : Int) 3 = 1 := by rw [and3 h hh, ck]; rfl
  have HC := Lib.hid (second_any h hh)
  have hP : expandP h = size2 (secondP h) := by unfold expandP quarterP; rw [if_neg (by omega), if_pos ck]
  rw [hP]
  clear hP ck
  generalize secondP h = i at *
  obtain ⟨x0, x1, x2, x3, x4, x5, x6⟩ := i
  have HC := Lib.hid (show ∀ w, Calls Try.prog 13 #[.int .u16 (h : Int)] w fun e w' => e = .returned (.agg #[.int .i64 x0, .int .i64 x1, .int .i64 x2, .int .i64 x3, .int .i64 x4, .int .i64 x5, .int .i64 x6]) ∧ Fr (fun _ => False) w w' from HC.out)
  by_cases c : x0 = 0
  · rw [size2_no c]
    have t0 : (x0 == 0) = true := beq_iff_eq.2 c
    clear c
    go_enter Try.func7, Try.ntmps7
    go_wp2_with fail
    refine (HC.out _).mono ?_
    rintro e w' ⟨rfl, hf⟩
    have hs1 : (w.alloc (.cells #[.int .i64 0, .int .i64 0, .int .i64 0, .int .i64 0, .int .i64 0, .int .i64 0, .int .i64 0] 25)).heap.size = w.heap.size + 1 := by simp
    have hbA : Blk w' w.heap.size 25 #[.int .i64 0, .int .i64 0, .int .i64 0, .int .i64 0, .int .i64 0, .int .i64 0, .int .i64 0] := ((Blk.new w _ _).alloc _).fr hf id
    have hbB : Blk w' (w.heap.size + 1) 25 #[.int .i64 0, .int .i64 0, .int .i64 0, .int .i64 0, .int .i64 0, .int .i64 0, .int .i64 0] := by
      have g := (Blk.new (w.alloc (.cells #[.int .i64 0, .int .i64 0, .int .i64 0, .int .i64 0, .int .i64 0, .int .i64 0, .int .i64 0] 25)) 25 #[.int .i64 0, .int .i64 0, .int .i64 0, .int .i64 0, .int .i64 0, .int .i64 0, .int .i64 0]).fr hf id
      rwa [hs1] at g
    have hfr : Fr (fun _ => False) w w' := Fr.trans (by (repeat (first | (with_reducible exact Fr.refl _ _) | (with_reducible apply Fr.drewN) | (with_reducible apply Fr.alloc) | (with_reducible apply Fr.drew) | (with_reducible refine Fr.setCell ?_ (Or.inr (by simp)) _)))) hf (fun _ _ h => h)
    have ka0 := hbA.cell 0
    have fa0 := hbA.frozen 0
    have ka1 := hbA.cell 1
    have fa1 := hbA.frozen 1
    have ka2 := hbA.cell 2
    have fa2 := hbA.frozen 2
    have ka3 := hbA.cell 3
    have fa3 := hbA.frozen 3
    have ka4 := hbA.cell 4
    have fa4 := hbA.frozen 4
    have ka5 := hbA.cell 5
    have fa5 := hbA.frozen 5
    have ka6 := hbA.cell 6
    have fa6 := hbA.frozen 6
    have kb0 := hbB.cell 0
    have fb0 := hbB.frozen 0
    have kb1 := hbB.cell 1
    have fb1 := hbB.frozen 1
    have kb2 := hbB.cell 2
    have fb2 := hbB.frozen 2
    have kb3 := hbB.cell 3
    have fb3 := hbB.frozen 3
    have kb4 := hbB.cell 4
    have fb4 := hbB.frozen 4
    have kb5 := hbB.cell 5
    have fb5 := hbB.frozen 5
    have kb6 := hbB.cell 6
    have fb6 := hbB.frozen 6
    simp at ka0 ka1 ka2 ka3 ka4 ka5 ka6 kb0 kb1 kb2 kb3 kb4 kb5 kb6
    have HBA := Lib.hid hbA
    have HBB := Lib.hid hbB
    have HFR := Lib.hid hfr
    have hlt : w.heap.size + 1 < w'.heap.size := hbB.lt
    clear hbA hbB hfr hf hs1
    go_upto_region 9 with (fail)
    have HB2 := Lib.hid (blk7 HBB.out (.int .i64 x0) (.int .i64 x1) (.int .i64 x2) (.int .i64 x3) (.int .i64 x4) (.int .i64 x5) (.int .i64 x6))
    have HA2 := Lib.hid (show Blk (((((((w'.setCell ⟨w.heap.size + 1, 0, none⟩ (.int .i64 x0)).setCell ⟨w.heap.size + 1, 1, none⟩ (.int .i64 x1)).setCell ⟨w.heap.size + 1, 2, none⟩ (.int .i64 x2)).setCell ⟨w.heap.size + 1, 3, none⟩ (.int .i64 x3)).setCell ⟨w.heap.size + 1, 4, none⟩ (.int .i64 x4)).setCell ⟨w.heap.size + 1, 5, none⟩ (.int .i64 x5)).setCell ⟨w.heap.size + 1, 6, none⟩ (.int .i64 x6)) w.heap.size 25 #[.int .i64 0, .int .i64 0, .int .i64 0, .int .i64 0, .int .i64 0, .int .i64 0, .int .i64 0] from by repeat (first | (with_reducible exact HBA.out) | (with_reducible refine Blk.set_ne ?_ (by simp) _)))
    have HF2 := Lib.hid (show Fr (fun _ => False) w (((((((w'.setCell ⟨w.heap.size + 1, 0, none⟩ (.int .i64 x0)).setCell ⟨w.heap.size + 1, 1, none⟩ (.int .i64 x1)).setCell ⟨w.heap.size + 1, 2, none⟩ (.int .i64 x2)).setCell ⟨w.heap.size + 1, 3, none⟩ (.int .i64 x3)).setCell ⟨w.heap.size + 1, 4, none⟩ (.int .i64 x4)).setCell ⟨w.heap.size + 1, 5, none⟩ (.int .i64 x5)).setCell ⟨w.heap.size + 1, 6, none⟩ (.int .i64 x6)) from by (repeat (first | (with_reducible exact HFR.out) | (with_reducible refine Fr.setCell ?_ (Or.inr (by simp)) _))))
    clear HBA HBB HFR hlt ka0 fa0 ka1 fa1 ka2 fa2 ka3 fa3 ka4 fa4 ka5 fa5 ka6 fa6 kb0 fb0 kb1 fb1 kb2 fb2 kb3 fb3 kb4 fb4 kb5 fb5 kb6 fb6
    generalize (((((((w'.setCell ⟨w.heap.size + 1, 0, none⟩ (.int .i64 x0)).setCell ⟨w.heap.size + 1, 1, none⟩ (.int .i64 x1)).setCell ⟨w.heap.size + 1, 2, none⟩ (.int .i64 x2)).setCell ⟨w.heap.size + 1, 3, none⟩ (.int .i64 x3)).setCell ⟨w.heap.size + 1, 4, none⟩ (.int .i64 x4)).setCell ⟨w.heap.size + 1, 5, none⟩ (.int .i64 x5)).setCell ⟨w.heap.size + 1, 6, none⟩ (.int .i64 x6)) = w2 at *
    have ka0 := HA2.out.cell 0
    have fa0 := HA2.out.frozen 0
    have ka1 := HA2.out.cell 1
    have fa1 := HA2.out.frozen 1
    have ka2 := HA2.out.cell 2
    have fa2 := HA2.out.frozen 2
    have ka3 := HA2.out.cell 3
    have fa3 := HA2.out.frozen 3
    have ka4 := HA2.out.cell 4
    have fa4 := HA2.out.frozen 4
    have ka5 := HA2.out.cell 5
    have fa5 := HA2.out.frozen 5
    have ka6 := HA2.out.cell 6
    have fa6 := HA2.out.frozen 6
    have kb0 := HB2.out.cell 0
    have fb0 := HB2.out.frozen 0
    have kb1 := HB2.out.cell 1
    have fb1 := HB2.out.frozen 1
    have kb2 := HB2.out.cell 2
    have fb2 := HB2.out.frozen 2
    have kb3 := HB2.out.cell 3
    have fb3 := HB2.out.frozen 3
    have kb4 := HB2.out.cell 4
    have fb4 := HB2.out.frozen 4
    have kb5 := HB2.out.cell 5
    have fb5 := HB2.out.frozen 5
    have kb6 := HB2.out.cell 6
    have fb6 := HB2.out.frozen 6
    simp at ka0 ka1 ka2 ka3 ka4 ka5 ka6 kb0 kb1 kb2 kb3 kb4 kb5 kb6
    go_wp2_with fail
    refine bodyPost_ret (results_ct rfl _ _ w.heap.size 25 #[.int .i64 0, .int .i64 0, .int .i64 0, .int .i64 0, .int .i64 0, .int .i64 0, .int .i64 0] (0, 0) _ rfl ?_ Try.underlying25 rfl (by kernel_rfl)) rfl ?_
    · exact blk7 (by repeat (first | (with_reducible exact HA2.out) | (with_reducible refine Blk.set_ne ?_ (by simp) _))) _ _ _ _ _ _ _
    · exact ⟨rfl, by (repeat (first | (with_reducible exact HF2.out) | (with_reducible refine Fr.setCell ?_ (Or.inr (by simp)) _)))⟩
  · rw [size2_yes c]
    have t0 : (x0 == 0) = false := beq_eq_false_iff_ne.2 c
    clear c
    go_enter Try.func7, Try.ntmps7
    go_wp2_with fail
    refine (HC.out _).mono ?_
    rintro e w' ⟨rfl, hf⟩
    have hs1 : (w.alloc (.cells #[.int .i64 0, .int .i64 0, .int .i64 0, .int .i64 0, .int .i64 0, .int .i64 0, .int .i64 0] 25)).heap.size = w.heap.size + 1 := by simp
    have hbA : Blk w' w.heap.size 25 #[.int .i64 0, .int .i64 0, .int .i64 0, .int .i64 0, .int .i64 0, .int .i64 0, .int .i64 0] := ((Blk.new w _ _).alloc _).fr hf id
    have hbB : Blk w' (w.heap.size + 1) 25 #[.int .i64 0, .int .i64 0, .int .i64 0, .int .i64 0, .int .i64 0, .int .i64 0, .int .i64 0] := by
      have g := (Blk.new (w.alloc (.cells #[.int .i64 0, .int .i64 0, .int .i64 0, .int .i64 0, .int .i64 0, .int .i64 0, .int .i64 0] 25)) 25 #[.int .i64 0, .int .i64 0, .int .i64 0, .int .i64 0, .int .i64 0, .int .i64 0, .int .i64 0]).fr hf id
      rwa [hs1] at g
    have hfr : Fr (fun _ => False) w w' := Fr.trans (by (repeat (first | (with_reducible exact Fr.refl _ _) | (with_reducible apply Fr.drewN) | (with_reducible apply Fr.alloc) | (with_reducible apply Fr.drew) | (with_reducible refine Fr.setCell ?_ (Or.inr (by simp)) _)))) hf (fun _ _ h => h)
    have ka0 := hbA.cell 0
    have fa0 := hbA.frozen 0
    have ka1 := hbA.cell 1
    have fa1 := hbA.frozen 1
    have ka2 := hbA.cell 2
    have fa2 := hbA.frozen 2
    have ka3 := hbA.cell 3
    have fa3 := hbA.frozen 3
    have ka4 := hbA.cell 4
    have fa4 := hbA.frozen 4
    have ka5 := hbA.cell 5
    have fa5 := hbA.frozen 5
    have ka6 := hbA.cell 6
    have fa6 := hbA.frozen 6
    have kb0 := hbB.cell 0
    have fb0 := hbB.frozen 0
    have kb1 := hbB.cell 1
    have fb1 := hbB.frozen 1
    have kb2 := hbB.cell 2
    have fb2 := hbB.frozen 2
    have kb3 := hbB.cell 3
    have fb3 := hbB.frozen 3
    have kb4 := hbB.cell 4
    have fb4 := hbB.frozen 4
    have kb5 := hbB.cell 5
    have fb5 := hbB.frozen 5
    have kb6 := hbB.cell 6
    have fb6 := hbB.frozen 6
    simp at ka0 ka1 ka2 ka3 ka4 ka5 ka6 kb0 kb1 kb2 kb3 kb4 kb5 kb6
    have HBA := Lib.hid hbA
    have HBB := Lib.hid hbB
    have HFR := Lib.hid hfr
    have hlt : w.heap.size + 1 < w'.heap.size := hbB.lt
    clear hbA hbB hfr hf hs1
    go_upto_region 9 with (fail)
    have HB2 := Lib.hid (blk7 HBB.out (.int .i64 x0) (.int .i64 x1) (.int .i64 x2) (.int .i64 x3) (.int .i64 x4) (.int .i64 x5) (.int .i64 x6))
    have HA2 := Lib.hid (show Blk (((((((w'.setCell ⟨w.heap.size + 1, 0, none⟩ (.int .i64 x0)).setCell ⟨w.heap.size + 1, 1, none⟩ (.int .i64 x1)).setCell ⟨w.heap.size + 1, 2, none⟩ (.int .i64 x2)).setCell ⟨w.heap.size + 1, 3, none⟩ (.int .i64 x3)).setCell ⟨w.heap.size + 1, 4, none⟩ (.int .i64 x4)).setCell ⟨w.heap.size + 1, 5, none⟩ (.int .i64 x5)).setCell ⟨w.heap.size + 1, 6, none⟩ (.int .i64 x6)) w.heap.size 25 #[.int .i64 0, .int .i64 0, .int .i64 0, .int .i64 0, .int .i64 0, .int .i64 0, .int .i64 0] from by repeat (first | (with_reducible exact HBA.out) | (with_reducible refine Blk.set_ne ?_ (by simp) _)))
    have HF2 := Lib.hid (show Fr (fun _ => False) w (((((((w'.setCell ⟨w.heap.size + 1, 0, none⟩ (.int .i64 x0)).setCell ⟨w.heap.size + 1, 1, none⟩ (.int .i64 x1)).setCell ⟨w.heap.size + 1, 2, none⟩ (.int .i64 x2)).setCell ⟨w.heap.size + 1, 3, none⟩ (.int .i64 x3)).setCell ⟨w.heap.size + 1, 4, none⟩ (.int .i64 x4)).setCell ⟨w.heap.size + 1, 5, none⟩ (.int .i64 x5)).setCell ⟨w.heap.size + 1, 6, none⟩ (.int .i64 x6)) from by (repeat (first | (with_reducible exact HFR.out) | (with_reducible refine Fr.setCell ?_ (Or.inr (by simp)) _))))
    clear HBA HBB HFR hlt ka0 fa0 ka1 fa1 ka2 fa2 ka3 fa3 ka4 fa4 ka5 fa5 ka6 fa6 kb0 fb0 kb1 fb1 kb2 fb2 kb3 fb3 kb4 fb4 kb5 fb5 kb6 fb6
    generalize (((((((w'.setCell ⟨w.heap.size + 1, 0, none⟩ (.int .i64 x0)).setCell ⟨w.heap.size + 1, 1, none⟩ (.int .i64 x1)).setCell ⟨w.heap.size + 1, 2, none⟩ (.int .i64 x2)).setCell ⟨w.heap.size + 1, 3, none⟩ (.int .i64 x3)).setCell ⟨w.heap.size + 1, 4, none⟩ (.int .i64 x4)).setCell ⟨w.heap.size + 1, 5, none⟩ (.int .i64 x5)).setCell ⟨w.heap.size + 1, 6, none⟩ (.int .i64 x6)) = w2 at *
    have ka0 := HA2.out.cell 0
    have fa0 := HA2.out.frozen 0
    have ka1 := HA2.out.cell 1
    have fa1 := HA2.out.frozen 1
    have ka2 := HA2.out.cell 2
    have fa2 := HA2.out.frozen 2
    have ka3 := HA2.out.cell 3
    have fa3 := HA2.out.frozen 3
    have ka4 := HA2.out.cell 4
    have fa4 := HA2.out.frozen 4
    have ka5 := HA2.out.cell 5
    have fa5 := HA2.out.frozen 5
    have ka6 := HA2.out.cell 6
    have fa6 := HA2.out.frozen 6
    have kb0 := HB2.out.cell 0
    have fb0 := HB2.out.frozen 0
    have kb1 := HB2.out.cell 1
    have fb1 := HB2.out.frozen 1
    have kb2 := HB2.out.cell 2
    have fb2 := HB2.out.frozen 2
    have kb3 := HB2.out.cell 3
    have fb3 := HB2.out.frozen 3
    have kb4 := HB2.out.cell 4
    have fb4 := HB2.out.frozen 4
    have kb5 := HB2.out.cell 5
    have fb5 := HB2.out.frozen 5
    have kb6 := HB2.out.cell 6
    have fb6 := HB2.out.frozen 6
    simp at ka0 ka1 ka2 ka3 ka4 ka5 ka6 kb0 kb1 kb2 kb3 kb4 kb5 kb6
    go_wp2_with fail
    refine bodyPost_ret (results_ct rfl _ _ w.heap.size 25 #[.int .i64 x0, .int .i64 x1, .int .i64 x2, .int .i64 x3, .int .i64 x4, .int .i64 x5, .int .i64 2] (0, 0) _ rfl ?_ Try.underlying25 rfl (by kernel_rfl)) rfl ?_
    · exact blk7 (by repeat (first | (with_reducible exact HA2.out) | (with_reducible refine Blk.set_ne ?_ (by simp) _))) _ _ _ _ _ _ _
    · exact ⟨rfl, by (repeat (first | (with_reducible exact HF2.out) | (with_reducible refine Fr.setCell ?_ (Or.inr (by simp)) _)))⟩
set_option maxHeartbeats 2000000 in
theorem expand_2 (h : Nat) (hh : h < 65536) (w : World) (ck : h % 4 = 2) : Calls Try.prog 7 #[.int .u16 (h : Int)] w fun e w' => e = .returned (.tuple #[i7 (expandP h).1, .bool (expandP h).2]) ∧ Fr (fun _ => False) w w' := by
  have ha : bits .and .u16 (h : Int) 3 = 2 := by rw [and3 h hh, ck]; rfl
  have HC := Lib.hid (third_any h hh)
  have hP : expandP h = size2 (thirdP h) := by unfold expandP quarterP; rw [if_neg (by omega), if_neg (by omega), if_pos ck]
  rw [hP]
  clear hP ck
  generalize thirdP h = i at *
  obtain ⟨x0, x1, x2, x3, x4, x5, x6⟩ := i
  have HC := Lib.hid (show ∀ w, Calls Try.prog 14 #[.int .u16 (h : Int)] w fun e w' => e = .returned (.agg #[.int .i64 x0, .int .i64 x1, .int .i64 x2, .int .i64 x3, .int .i64 x4, .int .i64 x5, .int .i64 x6]) ∧ Fr (fun _ => False) w w' from HC.out)
  by_cases c : x0 = 0
  · rw [size2_no c]
    have t0 : (x0 == 0) = true := beq_iff_eq.2 c
    clear c
    go_enter Try.func7, Try.ntmps7
    go_wp2_with fail
    refine (HC.out _).mono ?_
    rintro e w' ⟨rfl, hf⟩
    have hs1 : (w.alloc (.cells #[.int .i64 0, .int .i64 0, .int .i64 0, .int .i64 0, .int .i64 0, .int .i64 0, .int .i64 0] 25)).heap.size = w.heap.size + 1 := by simp
    have hbA : Blk w' w.heap.size 25 #[.int .i64 0, .int .i64 0, .int .i64 0, .int .i64 0, .int .i64 0, .int .i64 0, .int .i64 0] := ((Blk.new w _ _).alloc _).fr hf id
    have hbB : Blk w' (w.heap.size + 1) 25 #[.int .i64 0, .int .i64 0, .int .i64 0, .int .i64 0, .int .i64 0, .int .i64 0, .int .i64 0] := by
      have g := (Blk.new (w.alloc (.cells #[.int .i64 0, .int .i64 0, .int .i64 0, .int .i64 0, .int .i64 0, .int .i64 0, .int .i64 0] 25)) 25 #[.int .i64 0, .int .i64 0, .int .i64 0, .int .i64 0, .int .i64 0, .int .i64 0, .int .i64 0]).fr hf id
      rwa [hs1] at g
    have hfr : Fr (fun _ => False) w w' := Fr.trans (by (repeat (first | (with_reducible exact Fr.refl _ _) | (with_reducible apply Fr.drewN) | (with_reducible apply Fr.alloc) | (with_reducible apply Fr.drew) | (with_reducible refine Fr.setCell ?_ (Or.inr (by simp)) _)))) hf (fun _ _ h => h)
    have ka0 := hbA.cell 0
    have fa0 := hbA.frozen 0
    have ka1 := hbA.cell 1
    have fa1 := hbA.frozen 1
    have ka2 := hbA.cell 2
    have fa2 := hbA.frozen 2
    have ka3 := hbA.cell 3
    have fa3 := hbA.frozen 3
    have ka4 := hbA.cell 4
    have fa4 := hbA.frozen 4
    have ka5 := hbA.cell 5
    have fa5 := hbA.frozen 5
    have ka6 := hbA.cell 6
    have fa6 := hbA.frozen 6
    have kb0 := hbB.cell 0
    have fb0 := hbB.frozen 0
    have kb1 := hbB.cell 1
    have fb1 := hbB.frozen 1
    have kb2 := hbB.cell 2
    have fb2 := hbB.frozen 2
    have kb3 := hbB.cell 3
    have fb3 := hbB.frozen 3
    have kb4 := hbB.cell 4
    have fb4 := hbB.frozen 4
    have kb5 := hbB.cell 5
    have fb5 := hbB.frozen 5
    have kb6 := hbB.cell 6
    have fb6 := hbB.frozen 6
    simp at ka0 ka1 ka2 ka3 ka4 ka5 ka6 kb0 kb1 kb2 kb3 kb4 kb5 kb6
    have HBA := Lib.hid hbA
    have HBB := Lib.hid hbB
    have HFR := Lib.hid hfr
    have hlt : w.heap.size + 1 < w'.heap.size := hbB.lt
    clear hbA hbB hfr hf hs1
    go_upto_region 9 with (fail)
    have HB2 := Lib.hid (blk7 HBB.out (.int .i64 x0) (.int .i64 x1) (.int .i64 x2) (.int .i64 x3) (.int .i64 x4) (.int .i64 x5) (.int .i64 x6))
    have HA2 := Lib.hid (show Blk (((((((w'.setCell ⟨w.heap.size + 1, 0, none⟩ (.int .i64 x0)).setCell ⟨w.heap.size + 1, 1, none⟩ (.int .i64 x1)).setCell ⟨w.heap.size + 1, 2, none⟩ (.int .i64 x2)).setCell ⟨w.heap.size + 1, 3, none⟩ (.int .i64 x3)).setCell ⟨w.heap.size + 1, 4, none⟩ (.int .i64 x4)).setCell ⟨w.heap.size + 1, 5, none⟩ (.int .i64 x5)).setCell ⟨w.heap.size + 1, 6, none⟩ (.int .i64 x6)) w.heap.size 25 #[.int .i64 0, .int .i64 0, .int .i64 0, .int .i64 0, .int .i64 0, .int .i64 0, .int .i64 0] from by repeat (first | (with_reducible exact HBA.out) | (with_reducible refine Blk.set_ne ?_ (by simp) _)))
    have HF2 := Lib.hid (show Fr (fun _ => False) w (((((((w'.setCell ⟨w.heap.size + 1, 0, none⟩ (.int .i64 x0)).setCell ⟨w.heap.size + 1, 1, none⟩ (.int .i64 x1)).setCell ⟨w.heap.size + 1, 2, none⟩ (.int .i64 x2)).setCell ⟨w.heap.size + 1, 3, none⟩ (.int .i64 x3)).setCell ⟨w.heap.size + 1, 4, none⟩ (.int .i64 x4)).setCell ⟨w.heap.size + 1, 5, none⟩ (.int .i64 x5)).setCell ⟨w.heap.size + 1, 6, none⟩ (.int .i64 x6)) from by (repeat (first | (with_reducible exact HFR.out) | (with_reducible refine Fr.setCell ?_ (Or.inr (by simp)) _))))
    clear HBA HBB HFR hlt ka0 fa0 ka1 fa1 ka2 fa2 ka3 fa3 ka4 fa4 ka5 fa5 ka6 fa6 kb0 fb0 kb1 fb1 kb2 fb2 kb3 fb3 kb4 fb4 kb5 fb5 kb6 fb6
    generalize (((((((w'.setCell ⟨w.heap.size + 1, 0, none⟩ (.int .i64 x0)).setCell ⟨w.heap.size + 1, 1, none⟩ (.int .i64 x1)).setCell ⟨w.heap.size + 1, 2, none⟩ (.int .i64 x2)).setCell ⟨w.heap.size + 1, 3, none⟩ (.int .i64 x3)).setCell ⟨w.heap.size + 1, 4, none⟩ (.int .i64 x4)).setCell ⟨w.heap.size + 1, 5, none⟩ (.int .i64 x5)).setCell ⟨w.heap.size + 1, 6, none⟩ (.int .i64 x6)) = w2 at *
    have ka0 := HA2.out.cell 0
    have fa0 := HA2.out.frozen 0
    have ka1 := HA2.out.cell 1
    have fa1 := HA2.out.frozen 1
    have ka2 := HA2.out.cell 2
    have fa2 := HA2.out.frozen 2
    have ka3 := HA2.out.cell 3
    have fa3 := HA2.out.frozen 3
    have ka4 := HA2.out.cell 4
    have fa4 := HA2.out.frozen 4
    have ka5 := HA2.out.cell 5
    have fa5 := HA2.out.frozen 5
    have ka6 := HA2.out.cell 6
    have fa6 := HA2.out.frozen 6
    have kb0 := HB2.out.cell 0
    have fb0 := HB2.out.frozen 0
    have kb1 := HB2.out.cell 1
    have fb1 := HB2.out.frozen 1
    have kb2 := HB2.out.cell 2
    have fb2 := HB2.out.frozen 2
    have kb3 := HB2.out.cell 3
    have fb3 := HB2.out.frozen 3
    have kb4 := HB2.out.cell 4
    have fb4 := HB2.out.frozen 4
    have kb5 := HB2.out.cell 5
    have fb5 := HB2.out.frozen 5
    have kb6 := HB2.out.cell 6
    have fb6 := HB2.out.frozen 6
    simp at ka0 ka1 ka2 ka3 ka4 ka5 ka6 kb0 kb1 kb2 kb3 kb4 kb5 kb6
    go_wp2_with fail
    refine bodyPost_ret (results_ct rfl _ _ w.heap.size 25 #[.int .i64 0, .int .i64 0, .int .i64 0, .int .i64 0, .int .i64 0, .int .i64 0, .int .i64 0] (0, 0) _ rfl ?_ Try.underlying25 rfl (by kernel_rfl)) rfl ?_
    · exact blk7 (by repeat (first | (with_reducible exact HA2.out) | (with_reducible refine Blk.set_ne ?_ (by simp) _))) _ _ _ _ _ _ _
    · exact ⟨rfl, by (repeat (first | (with_reducible exact HF2.out) | (with_reducible refine Fr.setCell ?_ (Or.inr (by simp)) _)))⟩
  · rw [size2_yes c]
    have t0 : (x0 == 0) = false := beq_eq_false_iff_ne.2 c
    clear c
    go_enter Try.func7, Try.ntmps7
    go_wp2_with fail
    refine (HC.out _).mono ?_
    rintro e w' ⟨rfl, hf⟩
    have hs1 : (w.alloc (.cells #[.int .i64 0, .int .i64 0, .int .i64 0, .int .i64 0, .int .i64 0, .int .i64 0, .int .i64 0] 25)).heap.size = w.heap.size + 1 := by simp
    have hbA : Blk w' w.heap.size 25 #[.int .i64 0, .int .i64 0, .int .i64 0, .int .i64 0, .int .i64 0, .int .i64 0, .int .i64 0] := ((Blk.new w _ _).alloc _).fr hf id
    have hbB : Blk w' (w.heap.size + 1) 25 #[.int .i64 0, .int .i64 0, .int .i64 0, .int .i64 0, .int .i64 0, .int .i64 0, .int .i64 0] := by
      have g := (Blk.new (w.alloc (.cells #[.int .i64 0, .int .i64 0, .int .i64 0, .int .i64 0, .int .i64 0, .int .i64 0, .int .i64 0] 25)) 25 #[.int .i64 0, .int .i64 0, .int .i64 0, .int .i64 0, .int .i64 0, .int .i64 0, .int .i64 0]).fr hf id
      rwa [hs1] at g
    have hfr : Fr (fun _ => False) w w' := Fr.trans (by (repeat (first | (with_reducible exact Fr.refl _ _) | (with_reducible apply Fr.drewN) | (with_reducible apply Fr.alloc) | (with_reducible apply Fr.drew) | (with_reducible refine Fr.setCell ?_ (Or.inr (by simp)) _)))) hf (fun _ _ h => h)
    have ka0 := hbA.cell 0
    have fa0 := hbA.frozen 0
    have ka1 := hbA.cell 1
    have fa1 := hbA.frozen 1
    have ka2 := hbA.cell 2
    have fa2 := hbA.frozen 2
    have ka3 := hbA.cell 3
    have fa3 := hbA.frozen 3
    have ka4 := hbA.cell 4
    have fa4 := hbA.frozen 4
    have ka5 := hbA.cell 5
    have fa5 := hbA.frozen 5
    have ka6 := hbA.cell 6
    have fa6 := hbA.frozen 6
    have kb0 := hbB.cell 0
    have fb0 := hbB.frozen 0
    have kb1 := hbB.cell 1
    have fb1 := hbB.frozen 1
    have kb2 := hbB.cell 2
    have fb2 := hbB.frozen 2
    have kb3 := hbB.cell 3
    have fb3 := hbB.frozen 3
    have kb4 := hbB.cell 4
    have fb4 := hbB.frozen 4
    have kb5 := hbB.cell 5
    have fb5 := hbB.frozen 5
    have kb6 := hbB.cell 6
    have fb6 := hbB.frozen 6
    simp at ka0 ka1 ka2 ka3 ka4 ka5 ka6 kb0 kb1 kb2 kb3 kb4 kb5 kb6
    have HBA := Lib.hid hbA
    have HBB := Lib.hid hbB
    have HFR := Lib.hid hfr
    have hlt : w.heap.size + 1 < w'.heap.size := hbB.lt
    clear hbA hbB hfr hf hs1
    go_upto_region 9 with (fail)
    have HB2 := Lib.hid (blk7 HBB.out (.int .i64 x0) (.int .i64 x1) (.int .i64 x2) (.int .i64 x3) (.int .i64 x4) (.int .i64 x5) (.int .i64 x6))
    have HA2 := Lib.hid (show Blk (((((((w'.setCell ⟨w.heap.size + 1, 0, none⟩ (.int .i64 x0)).setCell ⟨w.heap.size + 1, 1, none⟩ (.int .i64 x1)).setCell ⟨w.heap.size + 1, 2, none⟩ (.int .i64 x2)).setCell ⟨w.heap.size + 1, 3, none⟩ (.int .i64 x3)).setCell ⟨w.heap.size + 1, 4, none⟩ (.int .i64 x4)).setCell ⟨w.heap.size + 1, 5, none⟩ (.int .i64 x5)).setCell ⟨w.heap.size + 1, 6, none⟩ (.int .i64 x6)) w.heap.size 25 #[.int .i64 0, .int .i64 0, .int .i64 0, .int .i64 0, .int .i64 0, .int .i64 0, .int .i64 0] from by repeat (first | (with_reducible exact HBA.out) | (with_reducible refine Blk.set_ne ?_ (by simp) _)))
    have HF2 := Lib.hid (show Fr (fun _ => False) w (((((((w'.setCell ⟨w.heap.size + 1, 0, none⟩ (.int .i64 x0)).setCell ⟨w.heap.size + 1, 1, none⟩ (.int .i64 x1)).setCell ⟨w.heap.size + 1, 2, none⟩ (.int .i64 x2)).setCell ⟨w.heap.size + 1, 3, none⟩ (.int .i64 x3)).setCell ⟨w.heap.size + 1, 4, none⟩ (.int .i64 x4)).setCell ⟨w.heap.size + 1, 5, none⟩ (.int .i64 x5)).setCell ⟨w.heap.size + 1, 6, none⟩ (.int .i64 x6)) from by (repeat (first | (with_reducible exact HFR.out) | (with_reducible refine Fr.setCell ?_ (Or.inr (by simp)) _))))
    clear HBA HBB HFR hlt ka0 fa0 ka1 fa1 ka2 fa2 ka3 fa3 ka4 fa4 ka5 fa5 ka6 fa6 kb0 fb0 kb1 fb1 kb2 fb2 kb3 fb3 kb4 fb4 kb5 fb5 kb6 fb6
    generalize (((((((w'.setCell ⟨w.heap.size + 1, 0, none⟩ (.int .i64 x0)).setCell ⟨w.heap.size + 1, 1, none⟩ (.int .i64 x1)).setCell ⟨w.heap.size + 1, 2, none⟩ (.int .i64 x2)).setCell ⟨w.heap.size + 1, 3, none⟩ (.int .i64 x3)).setCell ⟨w.heap.size + 1, 4, none⟩ (.int .i64 x4)).setCell ⟨w.heap.size + 1, 5, none⟩ (.int .i64 x5)).setCell ⟨w.heap.size + 1, 6, none⟩ (.int .i64 x6)) = w2 at *
    have ka0 := HA2.out.cell 0
    have fa0 := HA2.out.frozen 0
    have ka1 := HA2.out.cell 1
    have fa1 := HA2.out.frozen 1
    have ka2 := HA2.out.cell 2
    have fa2 := HA2.out.frozen 2
    have ka3 := HA2.out.cell 3
    have fa3 := HA2.out.frozen 3
    have ka4 := HA2.out.cell 4
    have fa4 := HA2.out.frozen 4
    have ka5 := HA2.out.cell 5
    have fa5 := HA2.out.frozen 5
    have ka6 := HA2.out.cell 6
    have fa6 := HA2.out.frozen 6
    have kb0 := HB2.out.cell 0
    have fb0 := HB2.out.frozen 0
    have kb1 := HB2.out.cell 1
    have fb1 := HB2.out.frozen 1
    have kb2 := HB2.out.cell 2
    have fb2 := HB2.out.frozen 2
    have kb3 := HB2.out.cell 3
    have fb3 := HB2.out.frozen 3
    have kb4 := HB2.out.cell 4
    have fb4 := HB2.out.frozen 4
    have kb5 := HB2.out.cell 5
    have fb5 := HB2.out.frozen 5
    have kb6 := HB2.out.cell 6
    have fb6 := HB2.out.frozen 6
    simp at ka0 ka1 ka2 ka3 ka4 ka5 ka6 kb0 kb1 kb2 kb3 kb4 kb5 kb6
    go_wp2_with fail
    refine bodyPost_ret (results_ct rfl _ _ w.heap.size 25 #[.int .i64 x0, .int .i64 x1, .int .i64 x2, .int .i64 x3, .int .i64 x4, .int .i64 x5, .int .i64 2] (0, 0) _ rfl ?_ Try.underlying25 rfl (by kernel_rfl)) rfl ?_
    · exact blk7 (by repeat (first | (with_reducible exact HA2.out) | (with_reducible refine Blk.set_ne ?_ (by simp) _))) _ _ _ _ _ _ _
    · exact ⟨rfl, by (repeat (first | (with_reducible exact HF2.out) | (with_reducible refine Fr.setCell ?_ (Or.inr (by simp)) _)))⟩
set_option maxHeartbeats 2000000 in
theorem expand_3 (h : Nat) (hh : h < 65536) (w : World) (ck : h % 4 = 3) : Calls Try.prog 7 #[.int .u16 (h : Int)] w fun e w' => e = .returned (.tuple #[i7 (expandP h).1, .bool (expandP h).2]) ∧ Fr (fun _ => False) w w' := by
  have ha : bits .and .u16 (h : Int) 3 = 3 := by rw [and3 h hh, ck]; rfl
  have hP : expandP h = (i0, false) := by unfold expandP quarterP; rw [if_neg (by omega), if_neg (by omega), if_neg (by omega)]; rfl
  rw [hP]
  clear hP ck
  go_enter Try.func7, Try.ntmps7
  go_wp2_with fail
  refine bodyPost_ret (results_ct rfl _ _ w.heap.size 25 #[.int .i64 0, .int .i64 0, .int .i64 0, .int .i64 0, .int .i64 0, .int .i64 0, .int .i64 0] (0, 0) _ rfl ?_ Try.underlying25 rfl (by kernel_rfl)) rfl ?_
  · have hB : Blk ((w.alloc (.cells #[.int .i64 0, .int .i64 0, .int .i64 0, .int .i64 0, .int .i64 0, .int .i64 0, .int .i64 0] 25)).alloc (.cells #[.int .i64 0, .int .i64 0, .int .i64 0, .int .i64 0, .int .i64 0, .int .i64 0, .int .i64 0] 25)) w.heap.size 25 #[.int .i64 0, .int .i64 0, .int .i64 0, .int .i64 0, .int .i64 0, .int .i64 0, .int .i64 0] := (Blk.new w _ _).alloc _
    first | exact hB | exact blk7 hB _ _ _ _ _ _ _
  · exact ⟨rfl, by (repeat (first | (with_reducible exact Fr.refl _ _) | (with_reducible apply Fr.drewN) | (with_reducible apply Fr.alloc) | (with_reducible apply Fr.drew) | (with_reducible refine Fr.setCell ?_ (Or.inr (by simp)) _)))⟩
theorem expand_any (h : Nat) (hh : h < 65536) (w : World) : Calls Try.prog 7 #[.int .u16 (h : Int)] w fun e w' => e = .returned (.tuple #[i7 (expandP h).1, .bool (expandP h).2]) ∧ Fr (fun _ => False) w w' := by
  have hk : h % 4 = 0 ∨ h % 4 = 1 ∨ h % 4 = 2 ∨ h % 4 = 3 := by omega
  rcases hk with ck | ck | ck | ck
  · exact expand_0 h hh w ck
  · exact expand_1 h hh w ck
  · exact expand_2 h hh w ck
  · exact expand_3 h hh w ck
theorem short2_any (h : Nat) (hh : h < 65536) (w : World) : Calls Try.prog 10 #[.int .u16 (h : Int)] w fun e w' => e = .returned (.bool (decide (h % 4 ≠ 3))) ∧ Drawn0 w w' := by
  refine (CmpB.comp_Short.calls _ (bits .and .u16 (h : Int) 3 != 3) w rfl).mono fun _ _ g => ⟨?_, g.2⟩
  rw [g.1, and3 h hh]
  congr 2
  by_cases c : h % 4 = 3
  · rw [c]; rfl
  · rw [decide_eq_true c, bne_iff_ne]
    omega
end Go.Proofs.Ytgefhoikpjiamaa.Cmp
