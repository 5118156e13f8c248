/- Contracts of functions that a law reaches: for every argument they answer as their printed twins do. -/
import Derived.Test.YtgefhoikpjiamaaProg
import Derived.Below
import Derived.Deep.Draws
import Derived.Deep.AppendLies
import Derived.Maps.AppendAt
import Derived.OwnWalk
import Derived.Laws.BytesArg
import Derived.Laws.MakeOwn
import Derived.Laws.OwnMore
import Derived.Deep.OwnRows
import Derived.Tactics
import Derived.Lib.ConvBytes
import Derived.Laws.Slices
import Derived.WalkKit
import Derived.KernelRfl
import Derived.RowKit3
import Derived.Deep.LoopGhost
import Derived.Deep.QuietTactic
import Derived.BigQuiet
import Derived.WideLaws
import Derived.Deep.DeepCutAuto
import Derived.Deep.CutBlock
import Derived.Deep.RegionHeld3
import Derived.Laws.Rows
import Derived.Lib.AppendStr
import Derived.ArgAppend
import Derived.Laws.IdiomCopy
import Derived.OrdersHeld
import Derived.Laws.BitsLemmas
import Derived.RowKit
import Derived.Test.YtgefhoikpjiamaaWWords
import Derived.Test.YtgefhoikpjiamaaWLast
import Derived.Test.YtgefhoikpjiamaaSlim
import Derived.Test.YtgefhoikpjiamaaInsA
namespace Go.Proofs.Ytgefhoikpjiamaa.InsG
open Go.Proofs.Ytgefhoikpjiamaa.InsA Go.RowKit Go.Proofs.YtgefhoikpjiamaaW.PrintWords Go.Proofs.YtgefhoikpjiamaaW.PrintLast Go.Proofs.YtgefhoikpjiamaaW.PrintMore
attribute [local go_sem] max2_int min2_int max_two min_two max_three min_three max_four min_four   -- for this text's walks alone
set_option linter.unusedVariables false
set_option linter.unusedSimpArgs false
def errW : Option Int → Value
  | none => .nilIface
  | some c => .iface 0 (.int .i64 c)
theorem errW_none : errW none = .nilIface := rfl
theorem errW_some (c : Int) : errW (some c) = .iface 0 (.int .i64 c) := rfl

-- the values' own types
/-! ### inst_splitJ: function 57 -/
def inst_splitJ.f (a0 : Int) : Option (Int) := some ((Go.bits .or .i64 (Go.bits .or .i64 (Go.bits .or .i64 (wrap64 ((Go.bits .and .i64 (a0 / 1048576) 1) * 2147483648)) (wrap64 ((Go.bits .and .i64 (a0 / 2) 1023) * 2097152))) (wrap64 ((Go.bits .and .i64 (a0 / 2048) 1) * 1048576))) (wrap64 ((Go.bits .and .i64 (a0 / 4096) 255) * 4096))) % 4294967296)
set_option maxHeartbeats 8000000 in
set_option maxRecDepth 100000 in
theorem inst_splitJ.calls (a0 : Int) (r : Int) (w : World) (h : inst_splitJ.f a0 = some r) :
    Calls Try.prog 57 #[.int .i64 a0] w fun e w' => e = .returned (.int .u32 r) ∧ Drawn0 w w' := by
  have H : (some ((Go.bits .or .i64 (Go.bits .or .i64 (Go.bits .or .i64 (wrap64 ((Go.bits .and .i64 (a0 / 1048576) 1) * 2147483648)) (wrap64 ((Go.bits .and .i64 (a0 / 2) 1023) * 2097152))) (wrap64 ((Go.bits .and .i64 (a0 / 2048) 1) * 1048576))) (wrap64 ((Go.bits .and .i64 (a0 / 4096) 255) * 4096))) % 4294967296)) = some r := h
  clear h
  obtain rfl := Option.some.inj H
  go_enter Try.func57, Try.ntmps57
  go_wp2
  go_ret
  exact ⟨by first | rfl | (simp; done) | (simp [*]; done), by repeat (first | exact Drawn0.refl _ | apply Drawn0.step)⟩

/-! ### inst_upper: function 38 -/
def inst_upper.f (a0_0 : Int) (a0_1 : Int) (a0_2 : Int) (a0_3 : Int) (a0_4 : Int) (a0_5 : Int) (a0_6 : Int) : Option (Int × Bool) := if a0_0 = 1 then (some (Go.bits .or .u32 (Go.bits .or .u32 (Go.bits .andNot .u32 ((a0_4) % 4294967296) 4095) ((wrap64 ((Go.bits .and .i64 a0_1 31) * 128)) % 4294967296)) 55, true)) else (if a0_0 = 2 then (some (Go.bits .or .u32 (Go.bits .or .u32 (Go.bits .andNot .u32 ((a0_4) % 4294967296) 4095) ((wrap64 ((Go.bits .and .i64 a0_1 31) * 128)) % 4294967296)) 23, true)) else (if a0_0 = 3 then ((inst_splitJ.f a0_4).bind fun t207 => (some (Go.bits .or .u32 (Go.bits .or .u32 t207 ((wrap64 ((Go.bits .and .i64 a0_1 31) * 128)) % 4294967296)) 111, true))) else (if a0_0 = 85 then (some (267386895, true)) else (if a0_0 = 86 then (some (4111, true)) else (if a0_0 = 87 then (some (115, true)) else (if a0_0 = 88 then (some (1048691, true)) else (some (0, false))))))))
set_option maxHeartbeats 8000000 in
set_option maxRecDepth 100000 in
theorem inst_upper.calls (a0_0 : Int) (a0_1 : Int) (a0_2 : Int) (a0_3 : Int) (a0_4 : Int) (a0_5 : Int) (a0_6 : Int) (r1 : Int) (r2 : Bool) (w : World) (h : inst_upper.f a0_0 a0_1 a0_2 a0_3 a0_4 a0_5 a0_6 = some (r1, r2)) :
    Calls Try.prog 38 #[.agg #[.int .i64 a0_0, .int .i64 a0_1, .int .i64 a0_2, .int .i64 a0_3, .int .i64 a0_4, .int .i64 a0_5, .int .i64 a0_6]] w fun e w' => e = .returned (.tuple #[.int .u32 r1, .bool r2]) ∧ Below w.heap.size w w' := by
  have hu25 := Try.underlying25
  have HB := Aside0.mk (Below.refl w.heap.size w)
  have H : (if a0_0 = 1 then (some (Go.bits .or .u32 (Go.bits .or .u32 (Go.bits .andNot .u32 ((a0_4) % 4294967296) 4095) ((wrap64 ((Go.bits .and .i64 a0_1 31) * 128)) % 4294967296)) 55, true)) else (if a0_0 = 2 then (some (Go.bits .or .u32 (Go.bits .or .u32 (Go.bits .andNot .u32 ((a0_4) % 4294967296) 4095) ((wrap64 ((Go.bits .and .i64 a0_1 31) * 128)) % 4294967296)) 23, true)) else (if a0_0 = 3 then ((inst_splitJ.f a0_4).bind fun t207 => (some (Go.bits .or .u32 (Go.bits .or .u32 t207 ((wrap64 ((Go.bits .and .i64 a0_1 31) * 128)) % 4294967296)) 111, true))) else (if a0_0 = 85 then (some (267386895, true)) else (if a0_0 = 86 then (some (4111, true)) else (if a0_0 = 87 then (some (115, true)) else (if a0_0 = 88 then (some (1048691, true)) else (some (0, false))))))))) = some (r1, r2) := h
  clear h
  by_cases c2 : a0_0 = 1
  · rw [if_pos c2] at H
    have c2b0 : (a0_0 == 1) = true := beq_iff_eq.mpr c2
    have c2b1 : (a0_0 != 1) = false := bne_eq_false_iff_eq.mpr c2
    clear c2
    simp only [Option.some.injEq, Prod.mk.injEq] at H
    obtain ⟨rfl, rfl⟩ := H
    go_enter Try.func38, Try.ntmps38
    go_wp2_with (first | ((with_reducible refine gate_dst (N := 1) rfl ?_); refine box_event ?hg (N := 1) ?hd (cs := #[.int .i64 a0_0, .int .i64 a0_1, .int .i64 a0_2, .int .i64 a0_3, .int .i64 a0_4, .int .i64 a0_5, .int .i64 a0_6]) (t := 25) ?hr ?_; (case hd => rfl); (case hg => rfl); (case hr => first | (go_simp; done) | (go_simp; rfl)); intro gb206 hg w3 hbox hb; have n0_ := Aside0.mk (below_step (by repeat (first | (with_reducible first | exact HB.out | apply below_alloc | apply pw_below_drewN | apply below_drew1) | exact HB.out)) hb); have n1_ := Aside0.mk (hbox); have n2_ := Aside0.mk ((by rw [hg]; exact (below_size (by repeat (first | (with_reducible first | exact HB.out | apply below_alloc | apply pw_below_drewN | apply below_drew1) | exact HB.out))) : w.heap.size ≤ gb206)); have n3_ := Aside0.mk ((by rw [hg]; exact (below_size (by repeat (first | (with_reducible first | exact HB.out | apply below_alloc | apply pw_below_drewN | apply below_drew1) | exact HB.out))) : w.heap.size ≤ gb206)); clear HB; have HB := n0_; have BK206 := n1_; have GW206 := n2_; have GE206 := n3_; clear n0_ n1_ n2_ n3_; clear hb hbox hg; have hcz4_0 : w3.cell? ⟨gb206, 0, none⟩ = some (.int .i64 a0_0) := (blk_cell BK206.out 0).trans rfl; have hcz4_1 : w3.cell? ⟨gb206, 1, none⟩ = some (.int .i64 a0_1) := (blk_cell BK206.out 1).trans rfl; have hcz4_2 : w3.cell? ⟨gb206, 2, none⟩ = some (.int .i64 a0_2) := (blk_cell BK206.out 2).trans rfl; have hcz4_3 : w3.cell? ⟨gb206, 3, none⟩ = some (.int .i64 a0_3) := (blk_cell BK206.out 3).trans rfl; have hcz4_4 : w3.cell? ⟨gb206, 4, none⟩ = some (.int .i64 a0_4) := (blk_cell BK206.out 4).trans rfl; have hcz4_5 : w3.cell? ⟨gb206, 5, none⟩ = some (.int .i64 a0_5) := (blk_cell BK206.out 5).trans rfl; have hcz4_6 : w3.cell? ⟨gb206, 6, none⟩ = some (.int .i64 a0_6) := (blk_cell BK206.out 6).trans rfl; have hfz4_0 := blk_frozen BK206.out 0; have hfz4_1 := blk_frozen BK206.out 1; have hfz4_2 := blk_frozen BK206.out 2; have hfz4_3 := blk_frozen BK206.out 3; have hfz4_4 := blk_frozen BK206.out 4; have hfz4_5 := blk_frozen BK206.out 5; have hfz4_6 := blk_frozen BK206.out 6))
    go_ret2
    exact ⟨by first | rfl | (simp [errW_none, errW_some] <;> rfl) | (simp [*, errW_none, errW_some] <;> rfl), by repeat (first | (with_reducible first | exact HB.out | apply below_alloc | apply pw_below_drewN | apply below_drew1 | refine below_set ?_ GE206.out) | exact HB.out)⟩
  · rw [if_neg c2] at H
    have c2b0 : (a0_0 == 1) = false := beq_eq_false_iff_ne.mpr c2
    have c2b1 : (a0_0 != 1) = true := bne_iff_ne.mpr c2
    by_cases c5 : a0_0 = 2
    · rw [if_pos c5] at H
      have c5b0 : (a0_0 == 2) = true := beq_iff_eq.mpr c5
      have c5b1 : (a0_0 != 2) = false := bne_eq_false_iff_eq.mpr c5
      clear c5
      simp only [Option.some.injEq, Prod.mk.injEq] at H
      obtain ⟨rfl, rfl⟩ := H
      go_enter Try.func38, Try.ntmps38
      go_wp2_with (first | ((with_reducible refine gate_dst (N := 1) rfl ?_); refine box_event ?hg (N := 1) ?hd (cs := #[.int .i64 a0_0, .int .i64 a0_1, .int .i64 a0_2, .int .i64 a0_3, .int .i64 a0_4, .int .i64 a0_5, .int .i64 a0_6]) (t := 25) ?hr ?_; (case hd => rfl); (case hg => rfl); (case hr => first | (go_simp; done) | (go_simp; rfl)); intro gb206 hg w6 hbox hb; have n0_ := Aside0.mk (below_step (by repeat (first | (with_reducible first | exact HB.out | apply below_alloc | apply pw_below_drewN | apply below_drew1) | exact HB.out)) hb); have n1_ := Aside0.mk (hbox); have n2_ := Aside0.mk ((by rw [hg]; exact (below_size (by repeat (first | (with_reducible first | exact HB.out | apply below_alloc | apply pw_below_drewN | apply below_drew1) | exact HB.out))) : w.heap.size ≤ gb206)); have n3_ := Aside0.mk ((by rw [hg]; exact (below_size (by repeat (first | (with_reducible first | exact HB.out | apply below_alloc | apply pw_below_drewN | apply below_drew1) | exact HB.out))) : w.heap.size ≤ gb206)); clear HB; have HB := n0_; have BK206 := n1_; have GW206 := n2_; have GE206 := n3_; clear n0_ n1_ n2_ n3_; clear hb hbox hg; have hcz7_0 : w6.cell? ⟨gb206, 0, none⟩ = some (.int .i64 a0_0) := (blk_cell BK206.out 0).trans rfl; have hcz7_1 : w6.cell? ⟨gb206, 1, none⟩ = some (.int .i64 a0_1) := (blk_cell BK206.out 1).trans rfl; have hcz7_2 : w6.cell? ⟨gb206, 2, none⟩ = some (.int .i64 a0_2) := (blk_cell BK206.out 2).trans rfl; have hcz7_3 : w6.cell? ⟨gb206, 3, none⟩ = some (.int .i64 a0_3) := (blk_cell BK206.out 3).trans rfl; have hcz7_4 : w6.cell? ⟨gb206, 4, none⟩ = some (.int .i64 a0_4) := (blk_cell BK206.out 4).trans rfl; have hcz7_5 : w6.cell? ⟨gb206, 5, none⟩ = some (.int .i64 a0_5) := (blk_cell BK206.out 5).trans rfl; have hcz7_6 : w6.cell? ⟨gb206, 6, none⟩ = some (.int .i64 a0_6) := (blk_cell BK206.out 6).trans rfl; have hfz7_0 := blk_frozen BK206.out 0; have hfz7_1 := blk_frozen BK206.out 1; have hfz7_2 := blk_frozen BK206.out 2; have hfz7_3 := blk_frozen BK206.out 3; have hfz7_4 := blk_frozen BK206.out 4; have hfz7_5 := blk_frozen BK206.out 5; have hfz7_6 := blk_frozen BK206.out 6))
      go_ret2
      exact ⟨by first | rfl | (simp [errW_none, errW_some] <;> rfl) | (simp [*, errW_none, errW_some] <;> rfl), by repeat (first | (with_reducible first | exact HB.out | apply below_alloc | apply pw_below_drewN | apply below_drew1 | refine below_set ?_ GE206.out) | exact HB.out)⟩
    · rw [if_neg c5] at H
      have c5b0 : (a0_0 == 2) = false := beq_eq_false_iff_ne.mpr c5
      have c5b1 : (a0_0 != 2) = true := bne_iff_ne.mpr c5
      by_cases c8 : a0_0 = 3
      · rw [if_pos c8] at H
        have c8b0 : (a0_0 == 3) = true := beq_iff_eq.mpr c8
        have c8b1 : (a0_0 != 3) = false := bne_eq_false_iff_eq.mpr c8
        clear c8
        replace H := Option.bind_eq_some_iff.mp H
        obtain ⟨t207, A90, H⟩ := H
        replace H : (some (Go.bits .or .u32 (Go.bits .or .u32 t207 ((wrap64 ((Go.bits .and .i64 a0_1 31) * 128)) % 4294967296)) 111, true)) = some (r1, r2) := H
        have A9 := Aside0.mk A90
        clear A90
        simp only [Option.some.injEq, Prod.mk.injEq] at H
        obtain ⟨rfl, rfl⟩ := H
        go_enter Try.func38, Try.ntmps38
        go_wp2_with (first | ((with_reducible refine gate_dst (N := 1) rfl ?_); refine box_event ?hg (N := 1) ?hd (cs := #[.int .i64 a0_0, .int .i64 a0_1, .int .i64 a0_2, .int .i64 a0_3, .int .i64 a0_4, .int .i64 a0_5, .int .i64 a0_6]) (t := 25) ?hr ?_; (case hd => rfl); (case hg => rfl); (case hr => first | (go_simp; done) | (go_simp; rfl)); intro gb206 hg w10 hbox hb; have n0_ := Aside0.mk (below_step (by repeat (first | (with_reducible first | exact HB.out | apply below_alloc | apply pw_below_drewN | apply below_drew1) | exact HB.out)) hb); have n1_ := Aside0.mk (hbox); have n2_ := Aside0.mk ((by rw [hg]; exact (below_size (by repeat (first | (with_reducible first | exact HB.out | apply below_alloc | apply pw_below_drewN | apply below_drew1) | exact HB.out))) : w.heap.size ≤ gb206)); have n3_ := Aside0.mk ((by rw [hg]; exact (below_size (by repeat (first | (with_reducible first | exact HB.out | apply below_alloc | apply pw_below_drewN | apply below_drew1) | exact HB.out))) : w.heap.size ≤ gb206)); clear HB; have HB := n0_; have BK206 := n1_; have GW206 := n2_; have GE206 := n3_; clear n0_ n1_ n2_ n3_; clear hb hbox hg; have hcz11_0 : w10.cell? ⟨gb206, 0, none⟩ = some (.int .i64 a0_0) := (blk_cell BK206.out 0).trans rfl; have hcz11_1 : w10.cell? ⟨gb206, 1, none⟩ = some (.int .i64 a0_1) := (blk_cell BK206.out 1).trans rfl; have hcz11_2 : w10.cell? ⟨gb206, 2, none⟩ = some (.int .i64 a0_2) := (blk_cell BK206.out 2).trans rfl; have hcz11_3 : w10.cell? ⟨gb206, 3, none⟩ = some (.int .i64 a0_3) := (blk_cell BK206.out 3).trans rfl; have hcz11_4 : w10.cell? ⟨gb206, 4, none⟩ = some (.int .i64 a0_4) := (blk_cell BK206.out 4).trans rfl; have hcz11_5 : w10.cell? ⟨gb206, 5, none⟩ = some (.int .i64 a0_5) := (blk_cell BK206.out 5).trans rfl; have hcz11_6 : w10.cell? ⟨gb206, 6, none⟩ = some (.int .i64 a0_6) := (blk_cell BK206.out 6).trans rfl; have hfz11_0 := blk_frozen BK206.out 0; have hfz11_1 := blk_frozen BK206.out 1; have hfz11_2 := blk_frozen BK206.out 2; have hfz11_3 := blk_frozen BK206.out 3; have hfz11_4 := blk_frozen BK206.out 4; have hfz11_5 := blk_frozen BK206.out 5; have hfz11_6 := blk_frozen BK206.out 6) | ((with_reducible refine gate_callee (f := 57) rfl ?_); refine goesL_ (some 34) rfl rfl Try.func57 (by kernel_rfl) rfl #[.int .i64 a0_4] rfl (by (try simp only [List.map_toArray, List.map_cons, List.map_nil]); first | done | rfl | (simp only [List.length_drop, List.length_take]; rfl)) ?_; (with_reducible refine (inst_splitJ.calls a0_4 t207 _ A9.out).mono ?_); rintro e w' ⟨rfl, ⟨nd, rfl⟩⟩; refine ⟨_, rfl, ?_⟩))
        go_ret2
        exact ⟨by first | rfl | (simp [errW_none, errW_some] <;> rfl) | (simp [*, errW_none, errW_some] <;> rfl), by repeat (first | (with_reducible first | exact HB.out | apply below_alloc | apply pw_below_drewN | apply below_drew1 | refine below_set ?_ GE206.out) | exact HB.out)⟩
      · rw [if_neg c8] at H
        have c8b0 : (a0_0 == 3) = false := beq_eq_false_iff_ne.mpr c8
        have c8b1 : (a0_0 != 3) = true := bne_iff_ne.mpr c8
        by_cases c12 : a0_0 = 85
        · rw [if_pos c12] at H
          have c12b0 : (a0_0 == 85) = true := beq_iff_eq.mpr c12
          have c12b1 : (a0_0 != 85) = false := bne_eq_false_iff_eq.mpr c12
          clear c12
          simp only [Option.some.injEq, Prod.mk.injEq] at H
          obtain ⟨rfl, rfl⟩ := H
          go_enter Try.func38, Try.ntmps38
          go_wp2_with (first | ((with_reducible refine gate_dst (N := 1) rfl ?_); refine box_event ?hg (N := 1) ?hd (cs := #[.int .i64 a0_0, .int .i64 a0_1, .int .i64 a0_2, .int .i64 a0_3, .int .i64 a0_4, .int .i64 a0_5, .int .i64 a0_6]) (t := 25) ?hr ?_; (case hd => rfl); (case hg => rfl); (case hr => first | (go_simp; done) | (go_simp; rfl)); intro gb206 hg w13 hbox hb; have n0_ := Aside0.mk (below_step (by repeat (first | (with_reducible first | exact HB.out | apply below_alloc | apply pw_below_drewN | apply below_drew1) | exact HB.out)) hb); have n1_ := Aside0.mk (hbox); have n2_ := Aside0.mk ((by rw [hg]; exact (below_size (by repeat (first | (with_reducible first | exact HB.out | apply below_alloc | apply pw_below_drewN | apply below_drew1) | exact HB.out))) : w.heap.size ≤ gb206)); have n3_ := Aside0.mk ((by rw [hg]; exact (below_size (by repeat (first | (with_reducible first | exact HB.out | apply below_alloc | apply pw_below_drewN | apply below_drew1) | exact HB.out))) : w.heap.size ≤ gb206)); clear HB; have HB := n0_; have BK206 := n1_; have GW206 := n2_; have GE206 := n3_; clear n0_ n1_ n2_ n3_; clear hb hbox hg; have hcz14_0 : w13.cell? ⟨gb206, 0, none⟩ = some (.int .i64 a0_0) := (blk_cell BK206.out 0).trans rfl; have hcz14_1 : w13.cell? ⟨gb206, 1, none⟩ = some (.int .i64 a0_1) := (blk_cell BK206.out 1).trans rfl; have hcz14_2 : w13.cell? ⟨gb206, 2, none⟩ = some (.int .i64 a0_2) := (blk_cell BK206.out 2).trans rfl; have hcz14_3 : w13.cell? ⟨gb206, 3, none⟩ = some (.int .i64 a0_3) := (blk_cell BK206.out 3).trans rfl; have hcz14_4 : w13.cell? ⟨gb206, 4, none⟩ = some (.int .i64 a0_4) := (blk_cell BK206.out 4).trans rfl; have hcz14_5 : w13.cell? ⟨gb206, 5, none⟩ = some (.int .i64 a0_5) := (blk_cell BK206.out 5).trans rfl; have hcz14_6 : w13.cell? ⟨gb206, 6, none⟩ = some (.int .i64 a0_6) := (blk_cell BK206.out 6).trans rfl; have hfz14_0 := blk_frozen BK206.out 0; have hfz14_1 := blk_frozen BK206.out 1; have hfz14_2 := blk_frozen BK206.out 2; have hfz14_3 := blk_frozen BK206.out 3; have hfz14_4 := blk_frozen BK206.out 4; have hfz14_5 := blk_frozen BK206.out 5; have hfz14_6 := blk_frozen BK206.out 6))
          go_ret2
          exact ⟨by first | rfl | (simp [errW_none, errW_some] <;> rfl) | (simp [*, errW_none, errW_some] <;> rfl), by repeat (first | (with_reducible first | exact HB.out | apply below_alloc | apply pw_below_drewN | apply below_drew1 | refine below_set ?_ GE206.out) | exact HB.out)⟩
        · rw [if_neg c12] at H
          have c12b0 : (a0_0 == 85) = false := beq_eq_false_iff_ne.mpr c12
          have c12b1 : (a0_0 != 85) = true := bne_iff_ne.mpr c12
          by_cases c15 : a0_0 = 86
          · rw [if_pos c15] at H
            have c15b0 : (a0_0 == 86) = true := beq_iff_eq.mpr c15
            have c15b1 : (a0_0 != 86) = false := bne_eq_false_iff_eq.mpr c15
            clear c15
            simp only [Option.some.injEq, Prod.mk.injEq] at H
            obtain ⟨rfl, rfl⟩ := H
            go_enter Try.func38, Try.ntmps38
            go_wp2_with (first | ((with_reducible refine gate_dst (N := 1) rfl ?_); refine box_event ?hg (N := 1) ?hd (cs := #[.int .i64 a0_0, .int .i64 a0_1, .int .i64 a0_2, .int .i64 a0_3, .int .i64 a0_4, .int .i64 a0_5, .int .i64 a0_6]) (t := 25) ?hr ?_; (case hd => rfl); (case hg => rfl); (case hr => first | (go_simp; done) | (go_simp; rfl)); intro gb206 hg w16 hbox hb; have n0_ := Aside0.mk (below_step (by repeat (first | (with_reducible first | exact HB.out | apply below_alloc | apply pw_below_drewN | apply below_drew1) | exact HB.out)) hb); have n1_ := Aside0.mk (hbox); have n2_ := Aside0.mk ((by rw [hg]; exact (below_size (by repeat (first | (with_reducible first | exact HB.out | apply below_alloc | apply pw_below_drewN | apply below_drew1) | exact HB.out))) : w.heap.size ≤ gb206)); have n3_ := Aside0.mk ((by rw [hg]; exact (below_size (by repeat (first | (with_reducible first | exact HB.out | apply below_alloc | apply pw_below_drewN | apply below_drew1) | exact HB.out))) : w.heap.size ≤ gb206)); clear HB; have HB := n0_; have BK206 := n1_; have GW206 := n2_; have GE206 := n3_; clear n0_ n1_ n2_ n3_; clear hb hbox hg; have hcz17_0 : w16.cell? ⟨gb206, 0, none⟩ = some (.int .i64 a0_0) := (blk_cell BK206.out 0).trans rfl; have hcz17_1 : w16.cell? ⟨gb206, 1, none⟩ = some (.int .i64 a0_1) := (blk_cell BK206.out 1).trans rfl; have hcz17_2 : w16.cell? ⟨gb206, 2, none⟩ = some (.int .i64 a0_2) := (blk_cell BK206.out 2).trans rfl; have hcz17_3 : w16.cell? ⟨gb206, 3, none⟩ = some (.int .i64 a0_3) := (blk_cell BK206.out 3).trans rfl; have hcz17_4 : w16.cell? ⟨gb206, 4, none⟩ = some (.int .i64 a0_4) := (blk_cell BK206.out 4).trans rfl; have hcz17_5 : w16.cell? ⟨gb206, 5, none⟩ = some (.int .i64 a0_5) := (blk_cell BK206.out 5).trans rfl; have hcz17_6 : w16.cell? ⟨gb206, 6, none⟩ = some (.int .i64 a0_6) := (blk_cell BK206.out 6).trans rfl; have hfz17_0 := blk_frozen BK206.out 0; have hfz17_1 := blk_frozen BK206.out 1; have hfz17_2 := blk_frozen BK206.out 2; have hfz17_3 := blk_frozen BK206.out 3; have hfz17_4 := blk_frozen BK206.out 4; have hfz17_5 := blk_frozen BK206.out 5; have hfz17_6 := blk_frozen BK206.out 6))
            go_ret2
            exact ⟨by first | rfl | (simp [errW_none, errW_some] <;> rfl) | (simp [*, errW_none, errW_some] <;> rfl), by repeat (first | (with_reducible first | exact HB.out | apply below_alloc | apply pw_below_drewN | apply below_drew1 | refine below_set ?_ GE206.out) | exact HB.out)⟩
          · rw [if_neg c15] at H
            have c15b0 : (a0_0 == 86) = false := beq_eq_false_iff_ne.mpr c15
            have c15b1 : (a0_0 != 86) = true := bne_iff_ne.mpr c15
            by_cases c18 : a0_0 = 87
            · rw [if_pos c18] at H
              have c18b0 : (a0_0 == 87) = true := beq_iff_eq.mpr c18
              have c18b1 : (a0_0 != 87) = false := bne_eq_false_iff_eq.mpr c18
              clear c18
              simp only [Option.some.injEq, Prod.mk.injEq] at H
              obtain ⟨rfl, rfl⟩ := H
              go_enter Try.func38, Try.ntmps38
              go_wp2_with (first | ((with_reducible refine gate_dst (N := 1) rfl ?_); refine box_event ?hg (N := 1) ?hd (cs := #[.int .i64 a0_0, .int .i64 a0_1, .int .i64 a0_2, .int .i64 a0_3, .int .i64 a0_4, .int .i64 a0_5, .int .i64 a0_6]) (t := 25) ?hr ?_; (case hd => rfl); (case hg => rfl); (case hr => first | (go_simp; done) | (go_simp; rfl)); intro gb206 hg w19 hbox hb; have n0_ := Aside0.mk (below_step (by repeat (first | (with_reducible first | exact HB.out | apply below_alloc | apply pw_below_drewN | apply below_drew1) | exact HB.out)) hb); have n1_ := Aside0.mk (hbox); have n2_ := Aside0.mk ((by rw [hg]; exact (below_size (by repeat (first | (with_reducible first | exact HB.out | apply below_alloc | apply pw_below_drewN | apply below_drew1) | exact HB.out))) : w.heap.size ≤ gb206)); have n3_ := Aside0.mk ((by rw [hg]; exact (below_size (by repeat (first | (with_reducible first | exact HB.out | apply below_alloc | apply pw_below_drewN | apply below_drew1) | exact HB.out))) : w.heap.size ≤ gb206)); clear HB; have HB := n0_; have BK206 := n1_; have GW206 := n2_; have GE206 := n3_; clear n0_ n1_ n2_ n3_; clear hb hbox hg; have hcz20_0 : w19.cell? ⟨gb206, 0, none⟩ = some (.int .i64 a0_0) := (blk_cell BK206.out 0).trans rfl; have hcz20_1 : w19.cell? ⟨gb206, 1, none⟩ = some (.int .i64 a0_1) := (blk_cell BK206.out 1).trans rfl; have hcz20_2 : w19.cell? ⟨gb206, 2, none⟩ = some (.int .i64 a0_2) := (blk_cell BK206.out 2).trans rfl; have hcz20_3 : w19.cell? ⟨gb206, 3, none⟩ = some (.int .i64 a0_3) := (blk_cell BK206.out 3).trans rfl; have hcz20_4 : w19.cell? ⟨gb206, 4, none⟩ = some (.int .i64 a0_4) := (blk_cell BK206.out 4).trans rfl; have hcz20_5 : w19.cell? ⟨gb206, 5, none⟩ = some (.int .i64 a0_5) := (blk_cell BK206.out 5).trans rfl; have hcz20_6 : w19.cell? ⟨gb206, 6, none⟩ = some (.int .i64 a0_6) := (blk_cell BK206.out 6).trans rfl; have hfz20_0 := blk_frozen BK206.out 0; have hfz20_1 := blk_frozen BK206.out 1; have hfz20_2 := blk_frozen BK206.out 2; have hfz20_3 := blk_frozen BK206.out 3; have hfz20_4 := blk_frozen BK206.out 4; have hfz20_5 := blk_frozen BK206.out 5; have hfz20_6 := blk_frozen BK206.out 6))
              go_ret2
              exact ⟨by first | rfl | (simp [errW_none, errW_some] <;> rfl) | (simp [*, errW_none, errW_some] <;> rfl), by repeat (first | (with_reducible first | exact HB.out | apply below_alloc | apply pw_below_drewN | apply below_drew1 | refine below_set ?_ GE206.out) | exact HB.out)⟩
            · rw [if_neg c18] at H
              have c18b0 : (a0_0 == 87) = false := beq_eq_false_iff_ne.mpr c18
              have c18b1 : (a0_0 != 87) = true := bne_iff_ne.mpr c18
              by_cases c21 : a0_0 = 88
              · rw [if_pos c21] at H
                have c21b0 : (a0_0 == 88) = true := beq_iff_eq.mpr c21
                have c21b1 : (a0_0 != 88) = false := bne_eq_false_iff_eq.mpr c21
                clear c21
                simp only [Option.some.injEq, Prod.mk.injEq] at H
                obtain ⟨rfl, rfl⟩ := H
                go_enter Try.func38, Try.ntmps38
                go_wp2_with (first | ((with_reducible refine gate_dst (N := 1) rfl ?_); refine box_event ?hg (N := 1) ?hd (cs := #[.int .i64 a0_0, .int .i64 a0_1, .int .i64 a0_2, .int .i64 a0_3, .int .i64 a0_4, .int .i64 a0_5, .int .i64 a0_6]) (t := 25) ?hr ?_; (case hd => rfl); (case hg => rfl); (case hr => first | (go_simp; done) | (go_simp; rfl)); intro gb206 hg w22 hbox hb; have n0_ := Aside0.mk (below_step (by repeat (first | (with_reducible first | exact HB.out | apply below_alloc | apply pw_below_drewN | apply below_drew1) | exact HB.out)) hb); have n1_ := Aside0.mk (hbox); have n2_ := Aside0.mk ((by rw [hg]; exact (below_size (by repeat (first | (with_reducible first | exact HB.out | apply below_alloc | apply pw_below_drewN | apply below_drew1) | exact HB.out))) : w.heap.size ≤ gb206)); have n3_ := Aside0.mk ((by rw [hg]; exact (below_size (by repeat (first | (with_reducible first | exact HB.out | apply below_alloc | apply pw_below_drewN | apply below_drew1) | exact HB.out))) : w.heap.size ≤ gb206)); clear HB; have HB := n0_; have BK206 := n1_; have GW206 := n2_; have GE206 := n3_; clear n0_ n1_ n2_ n3_; clear hb hbox hg; have hcz23_0 : w22.cell? ⟨gb206, 0, none⟩ = some (.int .i64 a0_0) := (blk_cell BK206.out 0).trans rfl; have hcz23_1 : w22.cell? ⟨gb206, 1, none⟩ = some (.int .i64 a0_1) := (blk_cell BK206.out 1).trans rfl; have hcz23_2 : w22.cell? ⟨gb206, 2, none⟩ = some (.int .i64 a0_2) := (blk_cell BK206.out 2).trans rfl; have hcz23_3 : w22.cell? ⟨gb206, 3, none⟩ = some (.int .i64 a0_3) := (blk_cell BK206.out 3).trans rfl; have hcz23_4 : w22.cell? ⟨gb206, 4, none⟩ = some (.int .i64 a0_4) := (blk_cell BK206.out 4).trans rfl; have hcz23_5 : w22.cell? ⟨gb206, 5, none⟩ = some (.int .i64 a0_5) := (blk_cell BK206.out 5).trans rfl; have hcz23_6 : w22.cell? ⟨gb206, 6, none⟩ = some (.int .i64 a0_6) := (blk_cell BK206.out 6).trans rfl; have hfz23_0 := blk_frozen BK206.out 0; have hfz23_1 := blk_frozen BK206.out 1; have hfz23_2 := blk_frozen BK206.out 2; have hfz23_3 := blk_frozen BK206.out 3; have hfz23_4 := blk_frozen BK206.out 4; have hfz23_5 := blk_frozen BK206.out 5; have hfz23_6 := blk_frozen BK206.out 6))
                go_ret2
                exact ⟨by first | rfl | (simp [errW_none, errW_some] <;> rfl) | (simp [*, errW_none, errW_some] <;> rfl), by repeat (first | (with_reducible first | exact HB.out | apply below_alloc | apply pw_below_drewN | apply below_drew1 | refine below_set ?_ GE206.out) | exact HB.out)⟩
              · rw [if_neg c21] at H
                have c21b0 : (a0_0 == 88) = false := beq_eq_false_iff_ne.mpr c21
                have c21b1 : (a0_0 != 88) = true := bne_iff_ne.mpr c21
                simp only [Option.some.injEq, Prod.mk.injEq] at H
                obtain ⟨rfl, rfl⟩ := H
                go_enter Try.func38, Try.ntmps38
                go_wp2_with (first | ((with_reducible refine gate_dst (N := 1) rfl ?_); refine box_event ?hg (N := 1) ?hd (cs := #[.int .i64 a0_0, .int .i64 a0_1, .int .i64 a0_2, .int .i64 a0_3, .int .i64 a0_4, .int .i64 a0_5, .int .i64 a0_6]) (t := 25) ?hr ?_; (case hd => rfl); (case hg => rfl); (case hr => first | (go_simp; done) | (go_simp; rfl)); intro gb206 hg w24 hbox hb; have n0_ := Aside0.mk (below_step (by repeat (first | (with_reducible first | exact HB.out | apply below_alloc | apply pw_below_drewN | apply below_drew1) | exact HB.out)) hb); have n1_ := Aside0.mk (hbox); have n2_ := Aside0.mk ((by rw [hg]; exact (below_size (by repeat (first | (with_reducible first | exact HB.out | apply below_alloc | apply pw_below_drewN | apply below_drew1) | exact HB.out))) : w.heap.size ≤ gb206)); have n3_ := Aside0.mk ((by rw [hg]; exact (below_size (by repeat (first | (with_reducible first | exact HB.out | apply below_alloc | apply pw_below_drewN | apply below_drew1) | exact HB.out))) : w.heap.size ≤ gb206)); clear HB; have HB := n0_; have BK206 := n1_; have GW206 := n2_; have GE206 := n3_; clear n0_ n1_ n2_ n3_; clear hb hbox hg; have hcz25_0 : w24.cell? ⟨gb206, 0, none⟩ = some (.int .i64 a0_0) := (blk_cell BK206.out 0).trans rfl; have hcz25_1 : w24.cell? ⟨gb206, 1, none⟩ = some (.int .i64 a0_1) := (blk_cell BK206.out 1).trans rfl; have hcz25_2 : w24.cell? ⟨gb206, 2, none⟩ = some (.int .i64 a0_2) := (blk_cell BK206.out 2).trans rfl; have hcz25_3 : w24.cell? ⟨gb206, 3, none⟩ = some (.int .i64 a0_3) := (blk_cell BK206.out 3).trans rfl; have hcz25_4 : w24.cell? ⟨gb206, 4, none⟩ = some (.int .i64 a0_4) := (blk_cell BK206.out 4).trans rfl; have hcz25_5 : w24.cell? ⟨gb206, 5, none⟩ = some (.int .i64 a0_5) := (blk_cell BK206.out 5).trans rfl; have hcz25_6 : w24.cell? ⟨gb206, 6, none⟩ = some (.int .i64 a0_6) := (blk_cell BK206.out 6).trans rfl; have hfz25_0 := blk_frozen BK206.out 0; have hfz25_1 := blk_frozen BK206.out 1; have hfz25_2 := blk_frozen BK206.out 2; have hfz25_3 := blk_frozen BK206.out 3; have hfz25_4 := blk_frozen BK206.out 4; have hfz25_5 := blk_frozen BK206.out 5; have hfz25_6 := blk_frozen BK206.out 6))
                go_ret2
                exact ⟨by first | rfl | (simp [errW_none, errW_some] <;> rfl) | (simp [*, errW_none, errW_some] <;> rfl), by repeat (first | (with_reducible first | exact HB.out | apply below_alloc | apply pw_below_drewN | apply below_drew1 | refine below_set ?_ GE206.out) | exact HB.out)⟩

/-! ### inst_place_lay: function 42 -/
def inst_place_lay.f (a0_0 : Int) (a0_1 : Int) (a0_2 : Int) (a1_0 : Int) (a1_1 : Int) (a1_2 : Int) (a1_3 : Int) (a1_4 : Int) (a1_5 : Int) (a1_6 : Int) : Option (Int) := some ((Go.bits .or .i64 (Go.bits .or .i64 (Go.bits .or .i64 (Go.bits .or .i64 (Go.bits .or .i64 (wrap64 ((Go.bits .and .i64 a0_2 127) * 33554432)) (wrap64 ((Go.bits .and .i64 a1_3 31) * 1048576))) (wrap64 ((Go.bits .and .i64 a1_2 31) * 32768))) (wrap64 (a0_1 * 4096))) (wrap64 ((Go.bits .and .i64 a1_1 31) * 128))) a0_0) % 4294967296)
set_option maxHeartbeats 8000000 in
set_option maxRecDepth 100000 in
theorem inst_place_lay.calls (a0_0 : Int) (a0_1 : Int) (a0_2 : Int) (a1_0 : Int) (a1_1 : Int) (a1_2 : Int) (a1_3 : Int) (a1_4 : Int) (a1_5 : Int) (a1_6 : Int) (r : Int) (w : World) (h : inst_place_lay.f a0_0 a0_1 a0_2 a1_0 a1_1 a1_2 a1_3 a1_4 a1_5 a1_6 = some r) :
    Calls Try.prog 42 #[.agg #[.int .i64 a0_0, .int .i64 a0_1, .int .i64 a0_2], .agg #[.int .i64 a1_0, .int .i64 a1_1, .int .i64 a1_2, .int .i64 a1_3, .int .i64 a1_4, .int .i64 a1_5, .int .i64 a1_6]] w fun e w' => e = .returned (.int .u32 r) ∧ Below w.heap.size w w' := by
  have hu50 := Try.underlying50
  have hu25 := Try.underlying25
  have HB := Aside0.mk (Below.refl w.heap.size w)
  have H : (some ((Go.bits .or .i64 (Go.bits .or .i64 (Go.bits .or .i64 (Go.bits .or .i64 (Go.bits .or .i64 (wrap64 ((Go.bits .and .i64 a0_2 127) * 33554432)) (wrap64 ((Go.bits .and .i64 a1_3 31) * 1048576))) (wrap64 ((Go.bits .and .i64 a1_2 31) * 32768))) (wrap64 (a0_1 * 4096))) (wrap64 ((Go.bits .and .i64 a1_1 31) * 128))) a0_0) % 4294967296)) = some r := h
  clear h
  obtain rfl := Option.some.inj H
  go_enter Try.func42, Try.ntmps42
  go_wp2_with (first | ((with_reducible refine gate_dst (N := 2) rfl ?_); refine box_event ?hg (N := 2) ?hd (cs := #[.int .i64 a0_0, .int .i64 a0_1, .int .i64 a0_2]) (t := 50) ?hr ?_; (case hd => rfl); (case hg => rfl); (case hr => first | (go_simp; done) | (go_simp; rfl)); intro gb208 hg w3 hbox hb; have n0_ := Aside0.mk (below_step (by repeat (first | (with_reducible first | exact HB.out | apply below_alloc | apply pw_below_drewN | apply below_drew1) | exact HB.out)) hb); have n1_ := Aside0.mk (hbox); have n2_ := Aside0.mk ((by rw [hg]; exact (below_size (by repeat (first | (with_reducible first | exact HB.out | apply below_alloc | apply pw_below_drewN | apply below_drew1) | exact HB.out))) : w.heap.size ≤ gb208)); have n3_ := Aside0.mk ((by rw [hg]; exact (below_size (by repeat (first | (with_reducible first | exact HB.out | apply below_alloc | apply pw_below_drewN | apply below_drew1) | exact HB.out))) : w.heap.size ≤ gb208)); clear HB; have HB := n0_; have BK208 := n1_; have GW208 := n2_; have GE208 := n3_; clear n0_ n1_ n2_ n3_; clear hb hbox hg) | ((with_reducible refine gate_dst (N := 3) rfl ?_); refine box_event ?hg (N := 3) ?hd (cs := #[.int .i64 a1_0, .int .i64 a1_1, .int .i64 a1_2, .int .i64 a1_3, .int .i64 a1_4, .int .i64 a1_5, .int .i64 a1_6]) (t := 25) ?hr ?_; (case hd => rfl); (case hg => rfl); (case hr => first | (go_simp; done) | (go_simp; rfl)); intro gb209 hg w4 hbox hb; have n0_ := Aside0.mk (blk_below (g := gb208) (o := .cells #[.int .i64 a0_0, .int .i64 a0_1, .int .i64 a0_2] 50 (0, 0)) (by (with_reducible repeat (first | refine blk_drewN ?_ _ | refine blk_drew ?_ | refine blk_alloc ?_ _)); exact BK208.out) hb); have n1_ := Aside0.mk (below_step (by repeat (first | (with_reducible first | exact HB.out | apply below_alloc | apply pw_below_drewN | apply below_drew1 | refine below_set ?_ GE208.out) | exact HB.out)) hb); have n2_ := Aside0.mk (hbox); have n3_ := Aside0.mk ((by rw [hg]; exact (below_size (by repeat (first | (with_reducible first | exact HB.out | apply below_alloc | apply pw_below_drewN | apply below_drew1 | refine below_set ?_ GE208.out) | exact HB.out))) : w.heap.size ≤ gb209)); have n4_ := Aside0.mk ((by rw [hg]; exact (below_size (by repeat (first | (with_reducible first | exact HB.out | apply below_alloc | apply pw_below_drewN | apply below_drew1 | refine below_set ?_ GE208.out) | exact HB.out))) : w.heap.size ≤ gb209)); have n5_ := Aside0.mk ((by rw [hg]; exact Nat.ne_of_lt (blk_lt (g := gb208) (o := .cells #[.int .i64 a0_0, .int .i64 a0_1, .int .i64 a0_2] 50 (0, 0)) (by (with_reducible repeat (first | refine blk_drewN ?_ _ | refine blk_drew ?_ | refine blk_alloc ?_ _)); exact BK208.out)) : gb208 ≠ gb209)); have n6_ := Aside0.mk ((by rw [hg]; exact Nat.ne_of_gt (blk_lt (g := gb208) (o := .cells #[.int .i64 a0_0, .int .i64 a0_1, .int .i64 a0_2] 50 (0, 0)) (by (with_reducible repeat (first | refine blk_drewN ?_ _ | refine blk_drew ?_ | refine blk_alloc ?_ _)); exact BK208.out)) : gb209 ≠ gb208)); clear BK208; clear HB; have BK208 := n0_; have HB := n1_; have BK209 := n2_; have GW209 := n3_; have GE209 := n4_; have NB208_209 := n5_; have NB209_208 := n6_; clear n0_ n1_ n2_ n3_ n4_ n5_ n6_; clear hb hbox hg; have hnb5 := NB208_209.out; have hnc5 := NB209_208.out; have hcz6_0 : w4.cell? ⟨gb208, 0, none⟩ = some (.int .i64 a0_0) := (blk_cell BK208.out 0).trans rfl; have hcz6_1 : w4.cell? ⟨gb208, 1, none⟩ = some (.int .i64 a0_1) := (blk_cell BK208.out 1).trans rfl; have hcz6_2 : w4.cell? ⟨gb208, 2, none⟩ = some (.int .i64 a0_2) := (blk_cell BK208.out 2).trans rfl; have hfz6_0 := blk_frozen BK208.out 0; have hfz6_1 := blk_frozen BK208.out 1; have hfz6_2 := blk_frozen BK208.out 2; have hcz7_0 : w4.cell? ⟨gb209, 0, none⟩ = some (.int .i64 a1_0) := (blk_cell BK209.out 0).trans rfl; have hcz7_1 : w4.cell? ⟨gb209, 1, none⟩ = some (.int .i64 a1_1) := (blk_cell BK209.out 1).trans rfl; have hcz7_2 : w4.cell? ⟨gb209, 2, none⟩ = some (.int .i64 a1_2) := (blk_cell BK209.out 2).trans rfl; have hcz7_3 : w4.cell? ⟨gb209, 3, none⟩ = some (.int .i64 a1_3) := (blk_cell BK209.out 3).trans rfl; have hcz7_4 : w4.cell? ⟨gb209, 4, none⟩ = some (.int .i64 a1_4) := (blk_cell BK209.out 4).trans rfl; have hcz7_5 : w4.cell? ⟨gb209, 5, none⟩ = some (.int .i64 a1_5) := (blk_cell BK209.out 5).trans rfl; have hcz7_6 : w4.cell? ⟨gb209, 6, none⟩ = some (.int .i64 a1_6) := (blk_cell BK209.out 6).trans rfl; have hfz7_0 := blk_frozen BK209.out 0; have hfz7_1 := blk_frozen BK209.out 1; have hfz7_2 := blk_frozen BK209.out 2; have hfz7_3 := blk_frozen BK209.out 3; have hfz7_4 := blk_frozen BK209.out 4; have hfz7_5 := blk_frozen BK209.out 5; have hfz7_6 := blk_frozen BK209.out 6))
  go_ret
  exact ⟨by first | rfl | (simp [errW_none, errW_some] <;> rfl) | (simp [*, errW_none, errW_some] <;> rfl), by repeat (first | (with_reducible first | exact HB.out | apply below_alloc | apply pw_below_drewN | apply below_drew1 | refine below_set ?_ GE208.out | refine below_set ?_ GE209.out) | exact HB.out)⟩

/-! ### inst_splitB: function 61 -/
def inst_splitB.f (a0 : Int) : Option (Int) := some ((Go.bits .or .i64 (Go.bits .or .i64 (Go.bits .or .i64 (wrap64 ((Go.bits .and .i64 (a0 / 4096) 1) * 2147483648)) (wrap64 ((Go.bits .and .i64 (a0 / 32) 63) * 33554432))) (wrap64 ((Go.bits .and .i64 (a0 / 2) 15) * 256))) (wrap64 ((Go.bits .and .i64 (a0 / 2048) 1) * 128))) % 4294967296)
set_option maxHeartbeats 8000000 in
set_option maxRecDepth 100000 in
theorem inst_splitB.calls (a0 : Int) (r : Int) (w : World) (h : inst_splitB.f a0 = some r) :
    Calls Try.prog 61 #[.int .i64 a0] w fun e w' => e = .returned (.int .u32 r) ∧ Drawn0 w w' := by
  have H : (some ((Go.bits .or .i64 (Go.bits .or .i64 (Go.bits .or .i64 (wrap64 ((Go.bits .and .i64 (a0 / 4096) 1) * 2147483648)) (wrap64 ((Go.bits .and .i64 (a0 / 32) 63) * 33554432))) (wrap64 ((Go.bits .and .i64 (a0 / 2) 15) * 256))) (wrap64 ((Go.bits .and .i64 (a0 / 2048) 1) * 128))) % 4294967296)) = some r := h
  clear h
  obtain rfl := Option.some.inj H
  go_enter Try.func61, Try.ntmps61
  go_wp2
  go_ret
  exact ⟨by first | rfl | (simp; done) | (simp [*]; done), by repeat (first | exact Drawn0.refl _ | apply Drawn0.step)⟩

-- NOT PRINTED: function 40 (inst_middle)

-- NOT PRINTED: function 41 (inst_regs)

/-! ### inst_amos: function 43 -/
mutual
def inst_amos.j0 : Nat → Int → Int → Int → Int → Int → Int → Int → Int → Int → Option (Int × Int × Int × Bool)
  | 0, _, _, _, _, _, _, _, _, _ => none
  | k + 1, x4, x5, x222000, x222001, x222002, x222003, x222004, x222005, x222006 => inst_amos.l0 k x4 x5 0 x222000 x222001 x222002 x222003 x222004 x222005 x222006
def inst_amos.l0 : Nat → Int → Int → Int → Int → Int → Int → Int → Int → Int → Int → Option (Int × Int × Int × Bool)
  | 0, _, _, _, _, _, _, _, _, _, _ => none
  | k + 1, x4, x5, x13, x222000, x222001, x222002, x222003, x222004, x222005, x222006 => if x13 < 32 then ((inst_amoOp.f x13).bind fun t223 => (if t223 = x4 then (some (47, x5, Go.bits .or .i64 (wrap64 (x13 * 4)) (Go.bits .and .i64 x222005 3), true)) else (inst_amos.l0 k x4 x5 (wrap64 (x13 + 1)) x222000 x222001 x222002 x222003 x222004 x222005 x222006))) else (some (0, 0, 0, false))
end
def inst_amos.f (k : Nat) (a0_0 : Int) (a0_1 : Int) (a0_2 : Int) (a0_3 : Int) (a0_4 : Int) (a0_5 : Int) (a0_6 : Int) : Option (Int × Int × Int × Bool) := if a0_0 ≥ 74 then (inst_amos.j0 k (wrap64 (a0_0 - 11)) 3 a0_0 a0_1 a0_2 a0_3 a0_4 a0_5 a0_6) else (inst_amos.j0 k a0_0 2 a0_0 a0_1 a0_2 a0_3 a0_4 a0_5 a0_6)
theorem inst_amos.mono_l : ∀ k, (∀ y0 y1 y2 y3 y4 y5 y6 y7 y8, LeO (inst_amos.j0 k y0 y1 y2 y3 y4 y5 y6 y7 y8) (inst_amos.j0 (k + 1) y0 y1 y2 y3 y4 y5 y6 y7 y8)) ∧ (∀ y0 y1 y2 y3 y4 y5 y6 y7 y8 y9, LeO (inst_amos.l0 k y0 y1 y2 y3 y4 y5 y6 y7 y8 y9) (inst_amos.l0 (k + 1) y0 y1 y2 y3 y4 y5 y6 y7 y8 y9))
  | 0 => ⟨fun _ _ _ _ _ _ _ _ _ r h => by simp [inst_amos.j0] at h, fun _ _ _ _ _ _ _ _ _ _ r h => by simp [inst_amos.l0] at h⟩
  | k + 1 => by
    obtain ⟨ih0, ih1⟩ := inst_amos.mono_l k
    refine ⟨?_, ?_⟩
    · intro y0 y1 y2 y3 y4 y5 y6 y7 y8
      unfold inst_amos.j0
      repeat' first
      | (with_reducible exact ih0 _ _ _ _ _ _ _ _ _)
      | (with_reducible exact ih1 _ _ _ _ _ _ _ _ _ _)
      | (with_reducible exact LeO.refl _)
      | (with_reducible exact LeO.none _)
      | (with_reducible refine LeO.ite ?_ ?_)
      | (with_reducible refine LeO.bind ?_ (fun _ => ?_))
      | exact ih0 _ _ _ _ _ _ _ _ _
      | exact ih1 _ _ _ _ _ _ _ _ _ _
      | exact LeO.none _
      | refine LeO.ite ?_ ?_
      | refine LeO.bind ?_ (fun _ => ?_)
    · intro y0 y1 y2 y3 y4 y5 y6 y7 y8 y9
      unfold inst_amos.l0
      repeat' first
      | (with_reducible exact ih0 _ _ _ _ _ _ _ _ _)
      | (with_reducible exact ih1 _ _ _ _ _ _ _ _ _ _)
      | (with_reducible exact LeO.refl _)
      | (with_reducible exact LeO.none _)
      | (with_reducible refine LeO.ite ?_ ?_)
      | (with_reducible refine LeO.bind ?_ (fun _ => ?_))
      | exact ih0 _ _ _ _ _ _ _ _ _
      | exact ih1 _ _ _ _ _ _ _ _ _ _
      | exact LeO.none _
      | refine LeO.ite ?_ ?_
      | refine LeO.bind ?_ (fun _ => ?_)
theorem inst_amos.mono : ∀ a0 a1 a2 a3 a4 a5 a6 k, LeO (inst_amos.f k a0 a1 a2 a3 a4 a5 a6) (inst_amos.f (k + 1) a0 a1 a2 a3 a4 a5 a6) := by
  intro a0 a1 a2 a3 a4 a5 a6 k
  obtain ⟨ih0, ih1⟩ := inst_amos.mono_l k
  unfold inst_amos.f
  repeat' first
      | (with_reducible exact ih0 _ _ _ _ _ _ _ _ _)
      | (with_reducible exact ih1 _ _ _ _ _ _ _ _ _ _)
      | (with_reducible exact LeO.refl _)
      | (with_reducible exact LeO.none _)
      | (with_reducible refine LeO.ite ?_ ?_)
      | (with_reducible refine LeO.bind ?_ (fun _ => ?_))
      | exact ih0 _ _ _ _ _ _ _ _ _
      | exact ih1 _ _ _ _ _ _ _ _ _ _
      | exact LeO.none _
      | refine LeO.ite ?_ ?_
      | refine LeO.bind ?_ (fun _ => ?_)
set_option maxHeartbeats 8000000 in
set_option maxRecDepth 100000 in
theorem inst_amos.calls (k : Nat) (a0_0 : Int) (a0_1 : Int) (a0_2 : Int) (a0_3 : Int) (a0_4 : Int) (a0_5 : Int) (a0_6 : Int) (r1 : Int) (r2 : Int) (r3 : Int) (r4 : Bool) (w : World) (h : inst_amos.f k a0_0 a0_1 a0_2 a0_3 a0_4 a0_5 a0_6 = some (r1, r2, r3, r4)) :
    Calls Try.prog 43 #[.agg #[.int .i64 a0_0, .int .i64 a0_1, .int .i64 a0_2, .int .i64 a0_3, .int .i64 a0_4, .int .i64 a0_5, .int .i64 a0_6]] w fun e w' => e = .returned (.tuple #[.agg #[.int .i64 r1, .int .i64 r2, .int .i64 r3], .bool r4]) ∧ Below w.heap.size w w' := by
  have hu25 := Try.underlying25
  have hu50 := Try.underlying50
  have HB := Aside0.mk (Below.refl w.heap.size w)
  have H : (if a0_0 ≥ 74 then (inst_amos.j0 k (wrap64 (a0_0 - 11)) 3 a0_0 a0_1 a0_2 a0_3 a0_4 a0_5 a0_6) else (inst_amos.j0 k a0_0 2 a0_0 a0_1 a0_2 a0_3 a0_4 a0_5 a0_6)) = some (r1, r2, r3, r4) := h
  clear h
  have HC2 := Aside0.mk H
  clear H
  go_enter Try.func43, Try.ntmps43
  go_upto_if 10 with (first | ((with_reducible refine gate_dst (N := 1) rfl ?_); refine box_event ?hg (N := 1) ?hd (cs := #[.int .i64 a0_0, .int .i64 a0_1, .int .i64 a0_2, .int .i64 a0_3, .int .i64 a0_4, .int .i64 a0_5, .int .i64 a0_6]) (t := 25) ?hr ?_; (case hd => rfl); (case hg => rfl); (case hr => first | (go_simp; done) | (go_simp; rfl)); intro gb221 hg w3 hbox hb; have n0_ := Aside0.mk (below_step (by repeat (first | (with_reducible first | exact HB.out | apply below_alloc | apply pw_below_drewN | apply below_drew1) | exact HB.out)) hb); have n1_ := Aside0.mk (hbox); have n2_ := Aside0.mk ((by rw [hg]; exact (below_size (by repeat (first | (with_reducible first | exact HB.out | apply below_alloc | apply pw_below_drewN | apply below_drew1) | exact HB.out))) : w.heap.size ≤ gb221)); have n3_ := Aside0.mk ((by rw [hg]; exact (below_size (by repeat (first | (with_reducible first | exact HB.out | apply below_alloc | apply pw_below_drewN | apply below_drew1) | exact HB.out))) : w.heap.size ≤ gb221)); clear HB; have HB := n0_; have BK221 := n1_; have GW221 := n2_; have GE221 := n3_; clear n0_ n1_ n2_ n3_; clear hb hbox hg) | ((with_reducible refine gate_dst (N := 2) rfl ?_); refine box_event ?hg (N := 2) ?hd (cs := #[.int .i64 0, .int .i64 0, .int .i64 0]) (t := 50) ?hr ?_; (case hd => rfl); (case hg => rfl); (case hr => first | (go_simp; done) | (go_simp; rfl)); intro gb222 hg w4 hbox hb; have n0_ := Aside0.mk (blk_below (g := gb221) (o := .cells #[.int .i64 a0_0, .int .i64 a0_1, .int .i64 a0_2, .int .i64 a0_3, .int .i64 a0_4, .int .i64 a0_5, .int .i64 a0_6] 25 (0, 0)) (by (with_reducible repeat (first | refine blk_drewN ?_ _ | refine blk_drew ?_ | refine blk_alloc ?_ _)); exact BK221.out) hb); have n1_ := Aside0.mk (below_step (by repeat (first | (with_reducible first | exact HB.out | apply below_alloc | apply pw_below_drewN | apply below_drew1 | refine below_set ?_ GE221.out) | exact HB.out)) hb); have n2_ := Aside0.mk (hbox); have n3_ := Aside0.mk ((by rw [hg]; exact (below_size (by repeat (first | (with_reducible first | exact HB.out | apply below_alloc | apply pw_below_drewN | apply below_drew1 | refine below_set ?_ GE221.out) | exact HB.out))) : w.heap.size ≤ gb222)); have n4_ := Aside0.mk ((by rw [hg]; exact (below_size (by repeat (first | (with_reducible first | exact HB.out | apply below_alloc | apply pw_below_drewN | apply below_drew1 | refine below_set ?_ GE221.out) | exact HB.out))) : w.heap.size ≤ gb222)); have n5_ := Aside0.mk ((by rw [hg]; exact Nat.ne_of_lt (blk_lt (g := gb221) (o := .cells #[.int .i64 a0_0, .int .i64 a0_1, .int .i64 a0_2, .int .i64 a0_3, .int .i64 a0_4, .int .i64 a0_5, .int .i64 a0_6] 25 (0, 0)) (by (with_reducible repeat (first | refine blk_drewN ?_ _ | refine blk_drew ?_ | refine blk_alloc ?_ _)); exact BK221.out)) : gb221 ≠ gb222)); have n6_ := Aside0.mk ((by rw [hg]; exact Nat.ne_of_gt (blk_lt (g := gb221) (o := .cells #[.int .i64 a0_0, .int .i64 a0_1, .int .i64 a0_2, .int .i64 a0_3, .int .i64 a0_4, .int .i64 a0_5, .int .i64 a0_6] 25 (0, 0)) (by (with_reducible repeat (first | refine blk_drewN ?_ _ | refine blk_drew ?_ | refine blk_alloc ?_ _)); exact BK221.out)) : gb222 ≠ gb221)); clear BK221; clear HB; have BK221 := n0_; have HB := n1_; have BK222 := n2_; have GW222 := n3_; have GE222 := n4_; have NB221_222 := n5_; have NB222_221 := n6_; clear n0_ n1_ n2_ n3_ n4_ n5_ n6_; clear hb hbox hg; have hnb5 := NB221_222.out; have hnc5 := NB222_221.out; have hcz6_0 : w4.cell? ⟨gb221, 0, none⟩ = some (.int .i64 a0_0) := (blk_cell BK221.out 0).trans rfl; have hcz6_1 : w4.cell? ⟨gb221, 1, none⟩ = some (.int .i64 a0_1) := (blk_cell BK221.out 1).trans rfl; have hcz6_2 : w4.cell? ⟨gb221, 2, none⟩ = some (.int .i64 a0_2) := (blk_cell BK221.out 2).trans rfl; have hcz6_3 : w4.cell? ⟨gb221, 3, none⟩ = some (.int .i64 a0_3) := (blk_cell BK221.out 3).trans rfl; have hcz6_4 : w4.cell? ⟨gb221, 4, none⟩ = some (.int .i64 a0_4) := (blk_cell BK221.out 4).trans rfl; have hcz6_5 : w4.cell? ⟨gb221, 5, none⟩ = some (.int .i64 a0_5) := (blk_cell BK221.out 5).trans rfl; have hcz6_6 : w4.cell? ⟨gb221, 6, none⟩ = some (.int .i64 a0_6) := (blk_cell BK221.out 6).trans rfl; have hfz6_0 := blk_frozen BK221.out 0; have hfz6_1 := blk_frozen BK221.out 1; have hfz6_2 := blk_frozen BK221.out 2; have hfz6_3 := blk_frozen BK221.out 3; have hfz6_4 := blk_frozen BK221.out 4; have hfz6_5 := blk_frozen BK221.out 5; have hfz6_6 := blk_frozen BK221.out 6))
  (try simp only [Act.put, List.setIfInBounds_toArray, List.set_cons_zero, List.set_cons_succ])
  go_cut [4, 5] (fun v4 v5 wc => ∃ (kq : Nat) (x4_1 : Int) (x5_1 : Int), v4 = .int .i64 x4_1 ∧ v5 = .int .i64 x5_1 ∧ Aside0 (inst_amos.j0 kq x4_1 x5_1 a0_0 a0_1 a0_2 a0_3 a0_4 a0_5 a0_6 = some (r1, r2, r3, r4)) ∧ Aside0 (kq ≤ k) ∧ Aside0 (wc.heap[gb221]? = some (.cells #[.int .i64 a0_0, .int .i64 a0_1, .int .i64 a0_2, .int .i64 a0_3, .int .i64 a0_4, .int .i64 a0_5, .int .i64 a0_6] 25 (0, 0))) ∧ Aside0 (wc.heap[gb222]? = some (.cells #[.int .i64 0, .int .i64 0, .int .i64 0] 50 (0, 0))) ∧ Aside0 (Below w.heap.size w wc))
  case first =>
    have H := HC2.out
    clear HC2
    by_cases c7 : a0_0 ≥ 74
    · rw [if_pos c7] at H
      have c7b0 : decide (74 ≤ a0_0) = true := decide_eq_true c7
      clear c7
      (first | rw [c7b0] | (simp only [i64_w, i32_w]; rw [c7b0]) | skip)
      have H' := Aside0.mk H
      clear H
      go_wp2
      go_meet
      case rel => exact ⟨_, (wrap64 (a0_0 - 11)), (3), (by first | rfl | (simp; done) | (simp [*]; done)), (by first | rfl | (simp; done) | (simp [*]; done)), H', ⟨by first | omega | exact Nat.le_refl _⟩, ⟨by (with_reducible repeat (first | refine blk_drewN ?_ _ | refine blk_drew ?_ | refine blk_alloc ?_ _)); exact BK221.out⟩, ⟨by (with_reducible repeat (first | refine blk_drewN ?_ _ | refine blk_drew ?_ | refine blk_alloc ?_ _)); exact BK222.out⟩, ⟨by repeat (first | (with_reducible first | exact HB.out | apply below_alloc | apply pw_below_drewN | apply below_drew1 | refine below_set ?_ GE221.out | refine below_set ?_ GE222.out) | exact HB.out)⟩⟩
    · rw [if_neg c7] at H
      have c7b0 : decide (74 ≤ a0_0) = false := decide_eq_false c7
      clear c7
      (first | rw [c7b0] | (simp only [i64_w, i32_w]; rw [c7b0]) | skip)
      have H' := Aside0.mk H
      clear H
      go_wp2
      go_meet
      case rel => exact ⟨_, (a0_0), (2), (by first | rfl | (simp; done) | (simp [*]; done)), (by first | rfl | (simp; done) | (simp [*]; done)), H', ⟨by first | omega | exact Nat.le_refl _⟩, ⟨by (with_reducible repeat (first | refine blk_drewN ?_ _ | refine blk_drew ?_ | refine blk_alloc ?_ _)); exact BK221.out⟩, ⟨by (with_reducible repeat (first | refine blk_drewN ?_ _ | refine blk_drew ?_ | refine blk_alloc ?_ _)); exact BK222.out⟩, ⟨by repeat (first | (with_reducible first | exact HB.out | apply below_alloc | apply pw_below_drewN | apply below_drew1 | refine below_set ?_ GE221.out | refine below_set ?_ GE222.out) | exact HB.out)⟩⟩
  case rest =>
    clear HC2
    try clear p2
    try clear c4
    try clear c5
    try clear p6
    try clear c7
    try clear c7b0
    try clear hcz6_0
    try clear hcz6_1
    try clear hcz6_2
    try clear hcz6_3
    try clear hcz6_4
    try clear hcz6_5
    try clear hcz6_6
    try clear hfz6_0
    try clear hfz6_1
    try clear hfz6_2
    try clear hfz6_3
    try clear hfz6_4
    try clear hfz6_5
    try clear hfz6_6
    obtain ⟨kq, x4_1, x5_1, rfl, rfl, HA, HJ1, BK221, BK222, HB⟩ := hcut
    cases kq with
    | zero => exact absurd HA.out (by simp [inst_amos.j0])
    | succ kj1 =>
      have H := HA.out
      clear HA
      simp only [inst_amos.j0] at H
      have H' := Aside0.mk H
      clear H
      go_wp2
      go_loopg [13] kj1 (fun kq v13 w' => ∃ (x13_2 : Int) (x223000_2 : Int) (x223001_2 : Int) (x223002_2 : Int), v13 = .int .i64 x13_2 ∧ Aside0 (inst_amos.l0 kq x4_1 x5_1 x13_2 a0_0 a0_1 a0_2 a0_3 a0_4 a0_5 a0_6 = some (r1, r2, r3, r4)) ∧ Aside0 (kq ≤ kj1) ∧ Aside0 (w'.heap[gb221]? = some (.cells #[.int .i64 a0_0, .int .i64 a0_1, .int .i64 a0_2, .int .i64 a0_3, .int .i64 a0_4, .int .i64 a0_5, .int .i64 a0_6] 25 (0, 0))) ∧ Aside0 (w'.heap[gb222]? = some (.cells #[.int .i64 x223000_2, .int .i64 x223001_2, .int .i64 x223002_2] 50 (0, 0))) ∧ Aside0 (Below w.heap.size w w'))
      case atStart => exact ⟨(0), (0), (0), (0), (by first | rfl | (simp; done) | (simp [*]; done)), H', ⟨Nat.le_refl _⟩, ⟨by (with_reducible repeat (first | refine blk_drewN ?_ _ | refine blk_drew ?_ | refine blk_alloc ?_ _)); exact BK221.out⟩, ⟨by (with_reducible repeat (first | refine blk_drewN ?_ _ | refine blk_drew ?_ | refine blk_alloc ?_ _)); exact BK222.out⟩, ⟨by repeat (first | (with_reducible first | exact HB.out | apply below_alloc | apply pw_below_drewN | apply below_drew1 | refine below_set ?_ GE221.out | refine below_set ?_ GE222.out) | exact HB.out)⟩⟩
      case round =>
        clear H'
        try clear p2
        try clear c4
        try clear c5
        try clear p6
        try clear c7
        try clear c7b0
        try clear hcz6_0
        try clear hcz6_1
        try clear hcz6_2
        try clear hcz6_3
        try clear hcz6_4
        try clear hcz6_5
        try clear hcz6_6
        try clear hfz6_0
        try clear hfz6_1
        try clear hfz6_2
        try clear hfz6_3
        try clear hfz6_4
        try clear hfz6_5
        try clear hfz6_6
        try clear p2
        try clear p6
        obtain ⟨x13_2, x223000_2, x223001_2, x223002_2, rfl, HA, HK2, BK221, BK222, HB⟩ := hrel
        cases gk with
        | zero => exact absurd HA.out (by simp [inst_amos.l0])
        | succ k2 =>
          have H := HA.out
          clear HA
          simp only [inst_amos.l0] at H
          by_cases c8 : x13_2 < 32
          · rw [if_pos c8] at H
            have c8b0 : decide (x13_2 < 32) = true := decide_eq_true c8
            clear c8
            replace H := Option.bind_eq_some_iff.mp H
            obtain ⟨t223, A90, H⟩ := H
            replace H : (if t223 = x4_1 then (some (47, x5_1, Go.bits .or .i64 (wrap64 (x13_2 * 4)) (Go.bits .and .i64 a0_5 3), true)) else (inst_amos.l0 k2 x4_1 x5_1 (wrap64 (x13_2 + 1)) a0_0 a0_1 a0_2 a0_3 a0_4 a0_5 a0_6)) = some (r1, r2, r3, r4) := H
            have A9 := Aside0.mk A90
            clear A90
            by_cases c10 : t223 = x4_1
            · rw [if_pos c10] at H
              have c10b0 : (t223 == x4_1) = true := beq_iff_eq.mpr c10
              have c10b1 : (t223 != x4_1) = false := bne_eq_false_iff_eq.mpr c10
              clear c10
              simp only [Option.some.injEq, Prod.mk.injEq] at H
              obtain ⟨rfl, rfl, rfl, rfl⟩ := H
              go_wp2_with (first | ((with_reducible refine gate_callee (f := 64) rfl ?_); refine goesL_ (some 17) rfl rfl Try.func64 (by kernel_rfl) rfl #[.int .i64 x13_2] rfl (by (try simp only [List.map_toArray, List.map_cons, List.map_nil]); first | done | rfl | (simp only [List.length_drop, List.length_take]; rfl)) ?_; (with_reducible refine (inst_amoOp.calls x13_2 t223 _ A9.out).mono ?_); rintro e w' ⟨rfl, ⟨nd, rfl⟩⟩; refine ⟨_, rfl, ?_⟩; (try (rw [drewN_self wr]; generalize hq_ : World.drewN wr _ = wr; have n0_ : Aside0 (wr.heap[gb221]? = some (.cells #[.int .i64 a0_0, .int .i64 a0_1, .int .i64 a0_2, .int .i64 a0_3, .int .i64 a0_4, .int .i64 a0_5, .int .i64 a0_6] 25 (0, 0))) := ⟨by rw [← hq_]; exact (by (with_reducible repeat (first | refine blk_drewN ?_ _ | refine blk_drew ?_ | refine blk_alloc ?_ _)); exact BK221.out)⟩; have n1_ : Aside0 (wr.heap[gb222]? = some (.cells #[.int .i64 x223000_2, .int .i64 x223001_2, .int .i64 x223002_2] 50 (0, 0))) := ⟨by rw [← hq_]; exact (by (with_reducible repeat (first | refine blk_drewN ?_ _ | refine blk_drew ?_ | refine blk_alloc ?_ _)); exact BK222.out)⟩; have n2_ : Aside0 (Below w.heap.size w wr) := ⟨by rw [← hq_]; exact (by repeat (first | (with_reducible first | exact HB.out | apply below_alloc | apply pw_below_drewN | apply below_drew1 | refine below_set ?_ GE221.out | refine below_set ?_ GE222.out) | exact HB.out))⟩; clear BK221 BK222 HB hq_; have BK221 := n0_; have BK222 := n1_; have HB := n2_; clear n0_ n1_ n2_)); have hnb11 := NB221_222.out; have hnc11 := NB222_221.out; have hcz12_0 : wr.cell? ⟨gb221, 0, none⟩ = some (.int .i64 a0_0) := (blk_cell BK221.out 0).trans rfl; have hcz12_1 : wr.cell? ⟨gb221, 1, none⟩ = some (.int .i64 a0_1) := (blk_cell BK221.out 1).trans rfl; have hcz12_2 : wr.cell? ⟨gb221, 2, none⟩ = some (.int .i64 a0_2) := (blk_cell BK221.out 2).trans rfl; have hcz12_3 : wr.cell? ⟨gb221, 3, none⟩ = some (.int .i64 a0_3) := (blk_cell BK221.out 3).trans rfl; have hcz12_4 : wr.cell? ⟨gb221, 4, none⟩ = some (.int .i64 a0_4) := (blk_cell BK221.out 4).trans rfl; have hcz12_5 : wr.cell? ⟨gb221, 5, none⟩ = some (.int .i64 a0_5) := (blk_cell BK221.out 5).trans rfl; have hcz12_6 : wr.cell? ⟨gb221, 6, none⟩ = some (.int .i64 a0_6) := (blk_cell BK221.out 6).trans rfl; have hfz12_0 := blk_frozen BK221.out 0; have hfz12_1 := blk_frozen BK221.out 1; have hfz12_2 := blk_frozen BK221.out 2; have hfz12_3 := blk_frozen BK221.out 3; have hfz12_4 := blk_frozen BK221.out 4; have hfz12_5 := blk_frozen BK221.out 5; have hfz12_6 := blk_frozen BK221.out 6; have hcz13_0 : wr.cell? ⟨gb222, 0, none⟩ = some (.int .i64 x223000_2) := (blk_cell BK222.out 0).trans rfl; have hcz13_1 : wr.cell? ⟨gb222, 1, none⟩ = some (.int .i64 x223001_2) := (blk_cell BK222.out 1).trans rfl; have hcz13_2 : wr.cell? ⟨gb222, 2, none⟩ = some (.int .i64 x223002_2) := (blk_cell BK222.out 2).trans rfl; have hfz13_0 := blk_frozen BK222.out 0; have hfz13_1 := blk_frozen BK222.out 1; have hfz13_2 := blk_frozen BK222.out 2))
              refine bodyPost_ret (results_ct rfl _ _ gb222 50 #[.int .i64 47, .int .i64 x5_1, .int .i64 (Go.bits .or .i64 (wrap64 (x13_2 * 4)) (Go.bits .and .i64 a0_5 3))] (0, 0) _ rfl (by (with_reducible repeat (first | refine blk_drewN ?_ _ | refine blk_drew ?_ | refine blk_alloc ?_ _)); refine blk_put (cs := #[.int .i64 47, .int .i64 x5_1, .int .i64 x223002_2]) ?_ 2 _ rfl; (with_reducible repeat (first | refine blk_drewN ?_ _ | refine blk_drew ?_ | refine blk_alloc ?_ _)); refine blk_put (cs := #[.int .i64 47, .int .i64 x223001_2, .int .i64 x223002_2]) ?_ 1 _ rfl; (with_reducible repeat (first | refine blk_drewN ?_ _ | refine blk_drew ?_ | refine blk_alloc ?_ _)); refine blk_put (cs := #[.int .i64 x223000_2, .int .i64 x223001_2, .int .i64 x223002_2]) ?_ 0 _ rfl; (with_reducible repeat (first | refine blk_drewN ?_ _ | refine blk_drew ?_ | refine blk_alloc ?_ _)); exact BK222.out) Try.underlying50 rfl (by kernel_rfl)) rfl ?_
              exact ⟨by first | rfl | (simp [errW_none, errW_some] <;> rfl) | (simp [*, errW_none, errW_some] <;> rfl), by repeat (first | (with_reducible first | exact HB.out | apply below_alloc | apply pw_below_drewN | apply below_drew1 | refine below_set ?_ GE221.out | refine below_set ?_ GE222.out) | exact HB.out)⟩
            · rw [if_neg c10] at H
              have c10b0 : (t223 == x4_1) = false := beq_eq_false_iff_ne.mpr c10
              have c10b1 : (t223 != x4_1) = true := bne_iff_ne.mpr c10
              have H' := Aside0.mk H
              clear H
              go_wp2_with (first | ((with_reducible refine gate_callee (f := 64) rfl ?_); refine goesL_ (some 17) rfl rfl Try.func64 (by kernel_rfl) rfl #[.int .i64 x13_2] rfl (by (try simp only [List.map_toArray, List.map_cons, List.map_nil]); first | done | rfl | (simp only [List.length_drop, List.length_take]; rfl)) ?_; (with_reducible refine (inst_amoOp.calls x13_2 t223 _ A9.out).mono ?_); rintro e w' ⟨rfl, ⟨nd, rfl⟩⟩; refine ⟨_, rfl, ?_⟩))
              go_roundg k2
              case measure => have := HJ1.out; have := HK2.out; omega
              case rel => exact ⟨(wrap64 (x13_2 + 1)), (x223000_2), (x223001_2), (x223002_2), (by first | rfl | (simp; done) | (simp [*]; done)), H', ⟨by have := HJ1.out; have := HK2.out; omega⟩, ⟨by (with_reducible repeat (first | refine blk_drewN ?_ _ | refine blk_drew ?_ | refine blk_alloc ?_ _)); exact BK221.out⟩, ⟨by (with_reducible repeat (first | refine blk_drewN ?_ _ | refine blk_drew ?_ | refine blk_alloc ?_ _)); exact BK222.out⟩, ⟨by repeat (first | (with_reducible first | exact HB.out | apply below_alloc | apply pw_below_drewN | apply below_drew1 | refine below_set ?_ GE221.out | refine below_set ?_ GE222.out) | exact HB.out)⟩⟩
          · rw [if_neg c8] at H
            have c8b0 : decide (x13_2 < 32) = false := decide_eq_false c8
            clear c8
            simp only [Option.some.injEq, Prod.mk.injEq] at H
            obtain ⟨rfl, rfl, rfl, rfl⟩ := H
            have hnb14 := NB222_221.out
            have hnc14 := NB221_222.out
            have hcz15_0 : wr.cell? ⟨gb222, 0, none⟩ = some (.int .i64 x223000_2) := (blk_cell BK222.out 0).trans rfl
            have hcz15_1 : wr.cell? ⟨gb222, 1, none⟩ = some (.int .i64 x223001_2) := (blk_cell BK222.out 1).trans rfl
            have hcz15_2 : wr.cell? ⟨gb222, 2, none⟩ = some (.int .i64 x223002_2) := (blk_cell BK222.out 2).trans rfl
            have hfz15_0 := blk_frozen BK222.out 0
            have hfz15_1 := blk_frozen BK222.out 1
            have hfz15_2 := blk_frozen BK222.out 2
            go_wp2
            refine bodyPost_ret (results_ct rfl _ _ gb222 50 #[.int .i64 0, .int .i64 0, .int .i64 0] (0, 0) _ rfl (by (with_reducible repeat (first | refine blk_drewN ?_ _ | refine blk_drew ?_ | refine blk_alloc ?_ _)); refine blk_put (cs := #[.int .i64 0, .int .i64 0, .int .i64 x223002_2]) ?_ 2 _ rfl; (with_reducible repeat (first | refine blk_drewN ?_ _ | refine blk_drew ?_ | refine blk_alloc ?_ _)); refine blk_put (cs := #[.int .i64 0, .int .i64 x223001_2, .int .i64 x223002_2]) ?_ 1 _ rfl; (with_reducible repeat (first | refine blk_drewN ?_ _ | refine blk_drew ?_ | refine blk_alloc ?_ _)); refine blk_put (cs := #[.int .i64 x223000_2, .int .i64 x223001_2, .int .i64 x223002_2]) ?_ 0 _ rfl; (with_reducible repeat (first | refine blk_drewN ?_ _ | refine blk_drew ?_ | refine blk_alloc ?_ _)); exact BK222.out) Try.underlying50 rfl (by kernel_rfl)) rfl ?_
            exact ⟨by first | rfl | (simp [errW_none, errW_some] <;> rfl) | (simp [*, errW_none, errW_some] <;> rfl), by repeat (first | (with_reducible first | exact HB.out | apply below_alloc | apply pw_below_drewN | apply below_drew1 | refine below_set ?_ GE221.out | refine below_set ?_ GE222.out) | exact HB.out)⟩

-- NOT PRINTED: function 35 (inst_encode)
end Go.Proofs.Ytgefhoikpjiamaa.InsG
