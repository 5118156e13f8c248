/- part, mark: walked; copy of bytes from anywhere. -/
import Derived.Test.YtipbfmidiimicaaPqA
import Derived.Laws.CopyRow
import Derived.Laws.Externs
import Derived.Deep.RegionLaw
namespace Go.Proofs.Ytipbfmidiimicaa.Pq
open Go Go.RowKit Go.Proofs.YtipbfmidiimicaaW.PrintWords Go.Proofs.YtipbfmidiimicaaW.PrintLast Go.Proofs.YtipbfmidiimicaaW.PrintMore
open Go.Proofs.Ytipbfmidiimicaa.Hp Go.Proofs.Ytipbfmidiimicaa.Pm
attribute [local go_sem] max2_m min2_m max_two min_two max_three min_three max_four min_four
set_option linter.unusedVariables false
set_option linter.unusedSimpArgs false
theorem part_any (a n : Int) (ha : 0 ≤ a ∧ a < 18446744073709551616) (hn : 0 ≤ n ∧ n ≤ 4194304) (w : World) : Calls Try.prog 18 #[.int .u64 a, .int .i64 n] w fun e w' => e = .returned (.tuple #[.int .i64 (a % 4096), .int .i64 (min n (4096 - a % 4096))]) ∧ Fr (fun _ => False) w w' := by
  obtain ⟨q, hq⟩ : ∃ q, a % 4096 = q := ⟨_, rfl⟩
  have hq1 : a.tmod 4096 = q := by rw [Int.tmod_eq_emod_of_nonneg (by omega)]; exact hq
  have hw1 : IntKind.i64.wrap q = q := IntWalk.i64_in _ (by omega)
  have hw2 : IntKind.i64.wrap (4096 - q) = 4096 - q := IntWalk.i64_in _ (by omega)
  go_enter Try.func18, Try.ntmps18
  go_wp2_with fail
  go_ret2
  rw [hq]
  exact ⟨rfl, Fr.refl _ _⟩
theorem Sto.touch {w w' : World} {B g BL BS n sz : Nat} {f : Int → Option Nat} {C : Int → Int} {clk al clk' al' : Int} (h : Sto w B g BL BS n f sz C clk al) (hf : Fr (fun k => k = g ∨ k = BS) w w') (hb : Blk w' g 42 #[.map (some BL), .map (some BS), .int .u64 clk', .int .u64 al']) (hs : IM w' BS (n + 1)) (hc : 0 ≤ clk' ∧ clk' ≤ ((n + 1 : Nat) : Int)) : Sto w' B g BL BS (n + 1) f sz C clk' al' :=
  ⟨hb, PM.mono (h.lm.fr hf (fun e => e.elim (h.lm.ne_blk h.blk) h.apart)) (by omega), hs, fun no b hb => ⟨(h.lv no b hb).1.fr hf (fun e => e.elim (Blk.ne (h.lv no b hb).1 h.blk (by decide)) (fun e => h.sm.ne_blk (h.lv no b hb).1 e.symm)), (h.lv no b hb).2⟩, h.zero, h.inj, h.dom, h.gb, h.lb, h.sb, hc, h.apart⟩
set_option maxHeartbeats 2000000 in
theorem mark_any {B g BL BS n sz : Nat} {f : Int → Option Nat} {C : Int → Int} {clk al : Int} (no : Int) (hno : 0 ≤ no ∧ no < 18446744073709551616) (w : World) (h : Sto w B g BL BS n f sz C clk al) (hn : n < 1000000000) : Calls Try.prog 19 #[.pointer (some ⟨g, 0, none⟩), .int .u64 no] w fun e w' => e = .returned (.tuple #[]) ∧ Sto w' B g BL BS (n + 1) f sz C (clk + 1) al ∧ Fr (fun k => k = g ∨ k = BS) w w' := by
  have hc := h.clk0
  have hBS := h.sm.ne_blk h.blk
  have hBL := h.lm.ne_blk h.blk
  have k0 := h.blk.cell 0
  have k1 := h.blk.cell 1
  have k2 := h.blk.cell 2
  have k3 := h.blk.cell 3
  have f2 := h.blk.frozen 2
  simp at k0 k1 k2 k3
  have hwc : IntKind.u64.wrap (clk + 1) = clk + 1 := IntWalk.u64_in _ (by omega)
  have hf1 : Fr (fun k => k = g) w (w.setCell ⟨g, 2, none⟩ (.int .u64 (clk + 1))) := (Fr.refl (fun k => k = g) w).setCell (p := ⟨g, 2, none⟩) (.inl rfl) _
  have hb1 : Blk (w.setCell ⟨g, 2, none⟩ (.int .u64 (clk + 1))) g 42 #[.map (some BL), .map (some BS), .int .u64 (clk + 1), .int .u64 al] := by simpa using h.blk.set 2 (.int .u64 (clk + 1))
  obtain ⟨w2, hrun, hi2, hf2⟩ := IM.put (w := (w.setCell ⟨g, 2, none⟩ (.int .u64 (clk + 1))).drew) (IM.fr (S := fun k => k = g) h.sm hf1.drew hBS) (by unfold maxLen; omega) no (clk + 1) (wf64 (by omega) (by omega)) (wf64 (by omega) (by omega))
  have hff : Fr (fun k => k = g ∨ k = BS) w w2 := (hf1.mono (T := fun k => k = g ∨ k = BS) (fun _ _ h => .inl h)).trans (Fr.undrew hf2) (fun _ _ h => .inr h)
  have HH := Lib.hid h
  have HI2 := Lib.hid hi2
  have HFF := Lib.hid hff
  have HB2 := Lib.hid ((show Blk (w.setCell ⟨g, 2, none⟩ (.int .u64 (clk + 1))).drew g 42 #[.map (some BL), .map (some BS), .int .u64 (clk + 1), .int .u64 al] from hb1).fr hf2 (fun e => hBS e.symm))
  have q0 := hb1.cell 0
  have q1 := hb1.cell 1
  have q2 := hb1.cell 2
  simp at q0 q1 q2
  have HC := Lib.hid hc
  clear h hi2 hff hf2 hb1 hf1 hc
  go_enter Try.func19, Try.ntmps19
  go_wp2_with fail
  go_region_law (fail)
  all_goals
    go_end0
    exact ⟨rfl, HH.out.touch HFF.out HB2.out HI2.out (by have := HC.out; omega), HFF.out⟩
end Go.Proofs.Ytipbfmidiimicaa.Pq
