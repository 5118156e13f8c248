/- The contracts of package marsh's Action, Stack and GetStack, walked. -/
import Derived.Test.YtbblamabipabeaaMarS
namespace Go.Proofs.Ytbblamabipabeaa.Mar
open Go Go.RowKit Go.Proofs.YtbblamabipabeaaW.PrintWords Go.Proofs.YtbblamabipabeaaW.PrintLast Go.Proofs.YtbblamabipabeaaW.PrintMore
open Go.Proofs.Ytbblamabipabeaa.Hp Go.Proofs.Ytbblamabipabeaa.By Go.Proofs.Ytbblamabipabeaa.Bv
attribute [local go_sem] max2_int min2_int max_two min_two max_three min_three max_four min_four
set_option linter.unusedVariables false
set_option linter.unusedSimpArgs false
/-- A writer in a new block, three words in another one behind it: what long then leaves. -/
theorem long3 (w : World) (o : Obj) (x y z : Int) (hx : 0 ≤ x ∧ x < 18446744073709551616) (hy : 0 ≤ y ∧ y < 18446744073709551616) (hz : 0 ≤ z ∧ z < 18446744073709551616) :
    Calls Try.prog 28 #[.pointer (some ⟨w.heap.size + 1, 0, none⟩), .slice (some ⟨w.heap.size + 2, 0, none⟩) 3 3]
      (((w.alloc o).alloc (.cells #[.slice none 0 0] 47)).alloc (.cells #[.int .u64 x, .int .u64 y, .int .u64 z] 31))
      fun e w' => e = .returned (.tuple #[]) ∧ ∃ v' l, l = encs [x, y, z] ∧ Wr w.heap.size w' (w.heap.size + 1) v' l ∧ Fr (fun _ => False) w w' := by
  have hs1 : (w.alloc o).heap.size = w.heap.size + 1 := by simp
  have hs2 : ((w.alloc o).alloc (.cells #[.slice none 0 0] 47)).heap.size = w.heap.size + 2 := by simp
  have hb0 : Blk ((w.alloc o).alloc (.cells #[.slice none 0 0] 47)) (w.heap.size + 1) 47 #[.slice none 0 0] := by have h := Blk.new (w.alloc o) 47 #[.slice none 0 0]; rwa [hs1] at h
  have hW : Wr w.heap.size (((w.alloc o).alloc (.cells #[.slice none 0 0] 47)).alloc (.cells #[.int .u64 x, .int .u64 y, .int .u64 z] 31)) (w.heap.size + 1) (.slice none 0 0) [] :=
    ⟨hb0.alloc _, own_nil _ _ _ _, by omega⟩
  have hR : ReadsInt (((w.alloc o).alloc (.cells #[.slice none 0 0] 47)).alloc (.cells #[.int .u64 x, .int .u64 y, .int .u64 z] 31)) .u64 (some ⟨w.heap.size + 2, 0, none⟩) 3 [x, y, z] := by
    have h := reads_new ((w.alloc o).alloc (.cells #[.slice none 0 0] 47)) .u64 31 (0, 0) [x, y, z] (by simp)
    rwa [hs2] at h
  have hF : Fr (fun _ => False) w (((w.alloc o).alloc (.cells #[.slice none 0 0] 47)).alloc (.cells #[.int .u64 x, .int .u64 y, .int .u64 z] 31)) := (((Fr.refl _ _).alloc _).alloc _).alloc _
  refine (long_any w.heap.size _ (w.heap.size + 1) _ [] _ 3 3 [x, y, z] hW hR (fun ad e _ => by injection e with e; subst e; simp) hF.size (by simp) (fun q hq => by simp at hq; rcases hq with rfl | rfl | rfl <;> assumption)).mono ?_
  rintro e w2 ⟨rfl, v2, hW2, hF2⟩
  exact ⟨rfl, v2, _, rfl, by simpa using hW2, hF.trans hF2 (fun k hk e => by omega)⟩
set_option maxHeartbeats 1000000 in
theorem action_any (w : World) (x y z : Int) (hx : 0 ≤ x ∧ x < 18446744073709551616) (hy : 0 ≤ y ∧ y < 18446744073709551616) (hz : 0 ≤ z ∧ z < 18446744073709551616) :
    Calls Try.prog 18 #[.agg #[.int .u64 x, .int .u64 y, .int .u64 z]] w fun e w' => ∃ v, e = .returned v ∧ Own w.heap.size w' v (encs [x, y, z]) ∧ Fr (fun _ => False) w w' := by
  have hl := Lib.hid (fun o => long3 w o x y z hx hy hz)
  go_enter Try.func18, Try.ntmps18
  go_wp2_with fail
  refine (hl.out _).mono ?_
  rintro e w2 ⟨rfl, v2, l, he, hW2, hF2⟩
  have HW := Lib.hid hW2
  have HF := Lib.hid hF2
  have HE := Lib.hid he
  clear hW2 hF2 he hl
  obtain ⟨A2, c2, rfl, _, _⟩ := (own_row HW.out.row).slice
  have hc := HW.out.blk.cell 0
  simp at hc
  go_wp2_with fail
  go_ret
  exact ⟨_, rfl, HE.out ▸ HW.out.row, HF.out⟩
set_option maxHeartbeats 1000000 in
theorem stack_any (w : World) (a s : Int) (ha : 0 ≤ a ∧ a < 18446744073709551616) (hs : 0 ≤ s ∧ s < 18446744073709551616) :
    Calls Try.prog 15 #[.agg #[.int .u64 a, .int .u64 s]] w fun e w' => ∃ v, e = .returned v ∧ Own w.heap.size w' v (kB a s) ∧ Fr (fun _ => False) w w' := by
  unfold kB
  by_cases h : s = 0
  · rw [if_pos h]
    have t0 : (s == 0) = true := beq_iff_eq.2 h
    have hl := Lib.hid (fun o => long3 w o a 2 s ha (by decide) hs)
    clear h
    go_enter Try.func15, Try.ntmps15
    go_wp2_with fail
    refine (hl.out _).mono ?_
    rintro e w2 ⟨rfl, v2, l, he, hW2, hF2⟩
    have HW := Lib.hid hW2
    have HF := Lib.hid hF2
    have HE := Lib.hid he
    clear hW2 hF2 he hl
    obtain ⟨A2, c2, rfl, _, _⟩ := (own_row HW.out.row).slice
    have hc := HW.out.blk.cell 0
    simp at hc
    go_wp2_with fail
    go_ret
    exact ⟨_, rfl, HE.out ▸ HW.out.row, HF.out⟩
  · rw [if_neg h]
    have t0 : (s == 0) = false := beq_eq_false_iff_ne.2 h
    have hl := Lib.hid (fun o => long3 w o a 0 s ha (by decide) hs)
    clear h
    go_enter Try.func15, Try.ntmps15
    go_wp2_with fail
    refine (hl.out _).mono ?_
    rintro e w2 ⟨rfl, v2, l, he, hW2, hF2⟩
    have HW := Lib.hid hW2
    have HF := Lib.hid hF2
    have HE := Lib.hid he
    clear hW2 hF2 he hl
    obtain ⟨A2, c2, rfl, _, _⟩ := (own_row HW.out.row).slice
    have hc := HW.out.blk.cell 0
    simp at hc
    go_wp2_with fail
    go_ret
    exact ⟨_, rfl, HE.out ▸ HW.out.row, HF.out⟩
theorem atv_24 (l : List Int) (h : l.length = 24) : atv l 0 = w0 l ∧ atv l 1 = w1 l ∧ atv l 2 = w2 l := by
  unfold atv
  rw [if_pos (by omega), if_pos (by omega), if_pos (by omega)]
  exact ⟨rfl, rfl, rfl⟩
set_option maxHeartbeats 4000000 in
theorem getstack_any (A : Option Addr) (c : Nat) (l : List Int) (w : World) (hr : ReadsInt w .u8 A l.length l) (hc : l.length ≤ c) (hb : By.bytes l) :
    Calls Try.prog 14 #[.slice A l.length c] w fun e w' => e = .returned (.tuple #[.agg #[.int .u64 (sk l).1, .int .u64 (sk l).2.1], .bool (sk l).2.2]) ∧ Fr (fun _ => False) w w' := by
  have h0 := Lib.hid (at_fr 0 (by decide) A c l w hr hc hb)
  have h1 := Lib.hid (at_fr 1 (by decide) A c l w hr hc hb)
  have h2 := Lib.hid (at_fr 2 (by decide) A c l w hr hc hb)
  have hm := hr.2.1
  clear hr hb hc
  by_cases hl : l.length = 24
  · have hsk : sk l = if atv l 1 = 2 then (0, 0, true) else if atv l 1 = 0 then (if atv l 2 < 2048 then (0, 0, false) else (atv l 0, atv l 2, true)) else (0, 0, false) := by
      obtain ⟨e0, e1, e2⟩ := atv_24 l hl
      unfold sk
      rw [if_pos hl, e0, e1, e2]
    rw [hsk]
    clear hsk
    have t0 : ((l.length : Int) == 24) = true := beq_iff_eq.2 (by omega)
    have t1 : ((l.length : Int) != 24) = false := by rw [bne, t0]; rfl
    generalize atv l 0 = x0 at *
    generalize atv l 1 = x1 at *
    generalize atv l 2 = x2 at *
    clear hl
    by_cases c2 : x1 = 2
    · subst c2
      rw [if_pos rfl]
      go_enter Try.func14, Try.ntmps14
      go_wp2_with fail
      refine (h0.out _ (by (repeat (first | exact Fr.refl _ _ | apply Fr.drewN | apply Fr.alloc | apply Fr.drew | refine Fr.setCell ?_ (Or.inr (by simp)) _)))).mono ?_; rintro e wa ⟨rfl, ⟨ma, rfl⟩⟩
      go_wp2_with fail
      refine (h2.out _ (by (repeat (first | exact Fr.refl _ _ | apply Fr.drewN | apply Fr.alloc | apply Fr.drew | refine Fr.setCell ?_ (Or.inr (by simp)) _)))).mono ?_; rintro e wa ⟨rfl, ⟨mb, rfl⟩⟩
      go_wp2_with fail
      refine (h1.out _ (by (repeat (first | exact Fr.refl _ _ | apply Fr.drewN | apply Fr.alloc | apply Fr.drew | refine Fr.setCell ?_ (Or.inr (by simp)) _)))).mono ?_; rintro e wa ⟨rfl, ⟨mc, rfl⟩⟩
      go_wp2_with fail
      refine bodyPost_ret (results_ct rfl _ _ w.heap.size 35 #[.int .u64 0, .int .u64 0] (0, 0) _ rfl ?_ Try.underlying35 rfl (by kernel_rfl)) rfl ?_
      · have hB : Blk (((w.alloc (.cells #[.int .u64 0, .int .u64 0] 35)).drewN (ma + mb))) w.heap.size 35 #[.int .u64 0, .int .u64 0] := (Blk.new w _ _).drewN _
        have h := (((hB.alloc (.cells #[.int .u64 x0, .int .u64 x2] 35)).drewN mc).set 0 (.int .u64 0)).set 1 (.int .u64 0)
        simpa [Blk] using h
      · exact ⟨rfl, by (repeat (first | exact Fr.refl _ _ | apply Fr.drewN | apply Fr.alloc | apply Fr.drew | refine Fr.setCell ?_ (Or.inr (by simp)) _))⟩
    · rw [if_neg c2]
      have t2 : (x1 == 2) = false := beq_eq_false_iff_ne.2 c2
      have t3 : (x1 != 2) = true := by rw [bne, t2]; rfl
      by_cases c0 : x1 = 0
      · subst c0
        rw [if_pos rfl]
        by_cases cs : x2 < 2048
        · rw [if_pos cs]
          have t4 : decide (x2 < 2048) = true := decide_eq_true cs
          clear cs
          go_enter Try.func14, Try.ntmps14
          go_wp2_with fail
          refine (h0.out _ (by (repeat (first | exact Fr.refl _ _ | apply Fr.drewN | apply Fr.alloc | apply Fr.drew | refine Fr.setCell ?_ (Or.inr (by simp)) _)))).mono ?_; rintro e wa ⟨rfl, ⟨ma, rfl⟩⟩
          go_wp2_with fail
          refine (h2.out _ (by (repeat (first | exact Fr.refl _ _ | apply Fr.drewN | apply Fr.alloc | apply Fr.drew | refine Fr.setCell ?_ (Or.inr (by simp)) _)))).mono ?_; rintro e wa ⟨rfl, ⟨mb, rfl⟩⟩
          go_wp2_with fail
          refine (h1.out _ (by (repeat (first | exact Fr.refl _ _ | apply Fr.drewN | apply Fr.alloc | apply Fr.drew | refine Fr.setCell ?_ (Or.inr (by simp)) _)))).mono ?_; rintro e wa ⟨rfl, ⟨mc, rfl⟩⟩
          go_wp2_with fail
          refine bodyPost_ret (results_ct rfl _ _ w.heap.size 35 #[.int .u64 0, .int .u64 0] (0, 0) _ rfl ?_ Try.underlying35 rfl (by kernel_rfl)) rfl ?_
          · have hB : Blk (((w.alloc (.cells #[.int .u64 0, .int .u64 0] 35)).drewN (ma + mb))) w.heap.size 35 #[.int .u64 0, .int .u64 0] := (Blk.new w _ _).drewN _
            have h := (((hB.alloc (.cells #[.int .u64 x0, .int .u64 x2] 35)).drewN mc).set 0 (.int .u64 0)).set 1 (.int .u64 0)
            simpa [Blk] using h
          · exact ⟨rfl, by (repeat (first | exact Fr.refl _ _ | apply Fr.drewN | apply Fr.alloc | apply Fr.drew | refine Fr.setCell ?_ (Or.inr (by simp)) _))⟩
        · rw [if_neg cs]
          have t4 : decide (x2 < 2048) = false := decide_eq_false cs
          clear cs
          go_enter Try.func14, Try.ntmps14
          go_wp2_with fail
          refine (h0.out _ (by (repeat (first | exact Fr.refl _ _ | apply Fr.drewN | apply Fr.alloc | apply Fr.drew | refine Fr.setCell ?_ (Or.inr (by simp)) _)))).mono ?_; rintro e wa ⟨rfl, ⟨ma, rfl⟩⟩
          go_wp2_with fail
          refine (h2.out _ (by (repeat (first | exact Fr.refl _ _ | apply Fr.drewN | apply Fr.alloc | apply Fr.drew | refine Fr.setCell ?_ (Or.inr (by simp)) _)))).mono ?_; rintro e wa ⟨rfl, ⟨mb, rfl⟩⟩
          go_wp2_with fail
          refine (h1.out _ (by (repeat (first | exact Fr.refl _ _ | apply Fr.drewN | apply Fr.alloc | apply Fr.drew | refine Fr.setCell ?_ (Or.inr (by simp)) _)))).mono ?_; rintro e wa ⟨rfl, ⟨mc, rfl⟩⟩
          go_wp2_with fail
          refine bodyPost_ret (results_ct rfl _ _ w.heap.size 35 #[.int .u64 x0, .int .u64 x2] (0, 0) _ rfl ?_ Try.underlying35 rfl (by kernel_rfl)) rfl ?_
          · have hB : Blk (((w.alloc (.cells #[.int .u64 0, .int .u64 0] 35)).drewN (ma + mb))) w.heap.size 35 #[.int .u64 0, .int .u64 0] := (Blk.new w _ _).drewN _
            have h := (((hB.alloc (.cells #[.int .u64 x0, .int .u64 x2] 35)).drewN mc).set 0 (.int .u64 x0)).set 1 (.int .u64 x2)
            simpa [Blk] using h
          · exact ⟨rfl, by (repeat (first | exact Fr.refl _ _ | apply Fr.drewN | apply Fr.alloc | apply Fr.drew | refine Fr.setCell ?_ (Or.inr (by simp)) _))⟩
      · rw [if_neg c0]
        have t4 : (x1 == 0) = false := beq_eq_false_iff_ne.2 c0
        have t5 : (x1 != 0) = true := by rw [bne, t4]; rfl
        clear c0 c2
        go_enter Try.func14, Try.ntmps14
        go_wp2_with fail
        refine (h0.out _ (by (repeat (first | exact Fr.refl _ _ | apply Fr.drewN | apply Fr.alloc | apply Fr.drew | refine Fr.setCell ?_ (Or.inr (by simp)) _)))).mono ?_; rintro e wa ⟨rfl, ⟨ma, rfl⟩⟩
        go_wp2_with fail
        refine (h2.out _ (by (repeat (first | exact Fr.refl _ _ | apply Fr.drewN | apply Fr.alloc | apply Fr.drew | refine Fr.setCell ?_ (Or.inr (by simp)) _)))).mono ?_; rintro e wa ⟨rfl, ⟨mb, rfl⟩⟩
        go_wp2_with fail
        refine (h1.out _ (by (repeat (first | exact Fr.refl _ _ | apply Fr.drewN | apply Fr.alloc | apply Fr.drew | refine Fr.setCell ?_ (Or.inr (by simp)) _)))).mono ?_; rintro e wa ⟨rfl, ⟨mc, rfl⟩⟩
        go_wp2_with fail
        refine bodyPost_ret (results_ct rfl _ _ w.heap.size 35 #[.int .u64 0, .int .u64 0] (0, 0) _ rfl ?_ Try.underlying35 rfl (by kernel_rfl)) rfl ?_
        · have hB : Blk (((w.alloc (.cells #[.int .u64 0, .int .u64 0] 35)).drewN (ma + mb))) w.heap.size 35 #[.int .u64 0, .int .u64 0] := (Blk.new w _ _).drewN _
          have h := (((hB.alloc (.cells #[.int .u64 x0, .int .u64 x2] 35)).drewN mc).set 0 (.int .u64 0)).set 1 (.int .u64 0)
          simpa [Blk] using h
        · exact ⟨rfl, by (repeat (first | exact Fr.refl _ _ | apply Fr.drewN | apply Fr.alloc | apply Fr.drew | refine Fr.setCell ?_ (Or.inr (by simp)) _))⟩
  · have hsk : sk l = (0, 0, false) := by unfold sk; rw [if_neg hl]
    rw [hsk]
    clear hsk
    have t0 : ((l.length : Int) == 24) = false := beq_eq_false_iff_ne.2 (by omega)
    have t1 : ((l.length : Int) != 24) = true := by rw [bne, t0]; rfl
    generalize atv l 0 = x0 at *
    generalize atv l 1 = x1 at *
    generalize atv l 2 = x2 at *
    clear hl
    go_enter Try.func14, Try.ntmps14
    go_wp2_with fail
    refine (h0.out _ (by (repeat (first | exact Fr.refl _ _ | apply Fr.drewN | apply Fr.alloc | apply Fr.drew | refine Fr.setCell ?_ (Or.inr (by simp)) _)))).mono ?_; rintro e wa ⟨rfl, ⟨ma, rfl⟩⟩
    go_wp2_with fail
    refine (h2.out _ (by (repeat (first | exact Fr.refl _ _ | apply Fr.drewN | apply Fr.alloc | apply Fr.drew | refine Fr.setCell ?_ (Or.inr (by simp)) _)))).mono ?_; rintro e wa ⟨rfl, ⟨mb, rfl⟩⟩
    go_wp2_with fail
    refine (h1.out _ (by (repeat (first | exact Fr.refl _ _ | apply Fr.drewN | apply Fr.alloc | apply Fr.drew | refine Fr.setCell ?_ (Or.inr (by simp)) _)))).mono ?_; rintro e wa ⟨rfl, ⟨mc, rfl⟩⟩
    go_wp2_with fail
    refine bodyPost_ret (results_ct rfl _ _ w.heap.size 35 #[.int .u64 0, .int .u64 0] (0, 0) _ rfl ?_ Try.underlying35 rfl (by kernel_rfl)) rfl ?_
    · have hB : Blk (((w.alloc (.cells #[.int .u64 0, .int .u64 0] 35)).drewN (ma + mb))) w.heap.size 35 #[.int .u64 0, .int .u64 0] := (Blk.new w _ _).drewN _
      have h := (((hB.alloc (.cells #[.int .u64 x0, .int .u64 x2] 35)).drewN mc).set 0 (.int .u64 0)).set 1 (.int .u64 0)
      simpa [Blk] using h
    · exact ⟨rfl, by (repeat (first | exact Fr.refl _ _ | apply Fr.drewN | apply Fr.alloc | apply Fr.drew | refine Fr.setCell ?_ (Or.inr (by simp)) _))⟩
end Go.Proofs.Ytbblamabipabeaa.Mar
