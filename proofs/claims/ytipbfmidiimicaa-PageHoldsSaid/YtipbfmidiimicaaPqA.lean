/- A store of pages in memory; New, part, Held, mark: walked. -/
import Derived.Test.YtipbfmidiimicaaProg
import Derived.Test.YtipbfmidiimicaaSlim
import Derived.Test.YtipbfmidiimicaaWLast
import Derived.Test.YtipbfmidiimicaaWGuard
import Derived.Test.YtipbfmidiimicaaBv
import Derived.Test.YtipbfmidiimicaaHp
import Derived.Test.YtipbfmidiimicaaPm
import Derived.Test.YtipbfmidiimicaaPr
import Derived.Lib.Hide
import Derived.IntWalk
import Derived.OwnWalk
import Derived.Deep.DeepAppendWide
import Derived.Maps.RangeWalk
namespace Go.Proofs.Ytipbfmidiimicaa.Pq
open Go Go.RowKit Go.Proofs.YtipbfmidiimicaaW.PrintWords Go.Proofs.YtipbfmidiimicaaW.PrintLast Go.Proofs.YtipbfmidiimicaaW.PrintMore
open Go.Proofs.Ytipbfmidiimicaa.Hp Go.Proofs.Ytipbfmidiimicaa.Pm
attribute [local go_sem] max2_int min2_int max_two min_two max_three min_three max_four min_four
set_option linter.unusedVariables false
set_option linter.unusedSimpArgs false
theorem max2_m (k k' : IntKind) (x y : Int) : Builtin.max2 (.int k x) (.int k' y) = pure (.int k (max x y)) := by
  rw [max2_int]
  congr 2
  split <;> omega
theorem min2_m (k k' : IntKind) (x y : Int) : Builtin.min2 (.int k x) (.int k' y) = pure (.int k (min x y)) := by
  rw [min2_int]
  congr 2
  split <;> omega
theorem lawK : Go.Maps.Keyed Try.prog 27 := Go.Maps.int_keyed Try.underlying27
/-- A map from words to words, of which nothing is told. -/
def IM (w : World) (B n : Nat) : Prop := ∃ D : DataW Unit, w.ownsMap Try.prog 27 (plainElem Try.prog 27) B n D
theorem IM.fr {w w' : World} {B n : Nat} {S : Nat → Prop} (h : IM w B n) (hf : Fr S w w') (hB : ¬ S B) : IM w' B n := by
  obtain ⟨D, ⟨es, clock, hb, r⟩⟩ := h
  exact ⟨D, ⟨es, clock, (hf.block B (Array.getElem?_eq_some_iff.1 hb).1 hB).trans hb, r⟩⟩
theorem IM.lt {w : World} {B n : Nat} (h : IM w B n) : B < w.heap.size := h.choose_spec.lt
theorem IM.mono {w : World} {B n n' : Nat} (h : IM w B n) (hn : n ≤ n') : IM w B n' := by
  obtain ⟨D, h1⟩ := h
  exact ⟨D, h1.mono hn⟩
theorem IM.ne_blk {w : World} {B n : Nat} {t : TypeId} {g : Nat} {cs : Array Value} (h : IM w B n) (hb : Blk w g t cs) : B ≠ g := by
  obtain ⟨D, ⟨es, clock, h1, _⟩⟩ := h
  intro e
  subst e
  unfold Blk at hb
  rw [h1] at hb
  cases hb
theorem IM.made (w : World) : IM (w.alloc (.map #[] 0)) w.heap.size 0 := ⟨.map [], World.ownsMap_made w _ _ _⟩
theorem wf64 {k : Int} (h0 : 0 ≤ k) (h1 : k < 18446744073709551616) : (Lit.int .u64 k).wf = true := by
  simp [Lit.wf, IntKind.min, IntKind.max, IntKind.signed, IntKind.bits]
  omega
theorem IM.put {w : World} {B n : Nat} (h : IM w B n) (hn : n < maxLen) (k v : Int) (hk : (Lit.int .u64 k).wf = true) (hv : (Lit.int .u64 v).wf = true) : ∃ w', (Instr.mapUpdate 40 (.map (some B)) (.int .u64 k) (.int .u64 v)).run Try.prog w = .ok () w' ∧ IM w' B (n + 1) ∧ Fr (fun i => i = B) w w' := by
  obtain ⟨D, h1⟩ := h
  obtain ⟨w', hrun, h4, h5⟩ := h1.update lawK Try.underlying40 hn (Go.Maps.keyOf_int_mk Try.underlying27 hk) (val := .int .u64 v) (d := .lit (.int .u64 v)) (ps := []) (plainElem_int Try.underlying27 hv)
  exact ⟨w', hrun, ⟨_, h4⟩, (Fr.refl _ _).grown h5 (fun i e => .inl (by injection e with e; exact e.symm))⟩
/-- The cells of a page of the bytes C. -/
def leafC (C : Int → Int) (no : Int) : List Int := (List.range 4096).map (fun (i : Nat) => C (no * 4096 + (i : Int)))
theorem leafC_len (C : Int → Int) (no : Int) : (leafC C no).length = 4096 := by unfold leafC; simp
/-- A store: its two maps, and the pages that it holds. -/
structure Sto (w : World) (B g : Nat) (BL BS : Nat) (n : Nat) (f : Int → Option Nat) (sz : Nat) (C : Int → Int) (clk al : Int) : Prop where
  blk : Blk w g 42 #[.map (some BL), .map (some BS), .int .u64 clk, .int .u64 al]
  lm : PM Try.prog 27 .u64 w BL n f sz
  sm : IM w BS n
  lv : ∀ no b, f no = some b → Blk w b 48 (nums .u8 (leafC C no)).toArray ∧ B ≤ b
  zero : ∀ no, f no = none → ∀ i : Nat, i < 4096 → C (no * 4096 + (i : Int)) = 0
  inj : ∀ no no' b, f no = some b → f no' = some b → no = no'
  dom : ∀ no b, f no = some b → 0 ≤ no ∧ no < 67108864
  gb : B ≤ g
  lb : B ≤ BL
  sb : B ≤ BS
  clk0 : 0 ≤ clk ∧ clk ≤ n
  apart : BL ≠ BS
theorem Sto.fr {w w' : World} {B g BL BS n sz : Nat} {f : Int → Option Nat} {C : Int → Int} {clk al : Int} (h : Sto w B g BL BS n f sz C clk al) (hf : Fr (fun _ => False) w w') : Sto w' B g BL BS n f sz C clk al :=
  ⟨h.blk.fr hf id, h.lm.fr hf id, h.sm.fr hf id, fun no b hb => ⟨(h.lv no b hb).1.fr hf id, (h.lv no b hb).2⟩, h.zero, h.inj, h.dom, h.gb, h.lb, h.sb, h.clk0, h.apart⟩
theorem new_any (w : World) : Calls Try.prog 6 #[] w fun e w' => ∃ g BL BS, e = .returned (.pointer (some ⟨g, 0, none⟩)) ∧ Sto w' w.heap.size g BL BS 0 (fun _ => none) 0 (fun _ => 0) 0 0 ∧ Fr (fun _ => False) w w' := by
  have HL := Lib.hid (((PM.made w Try.prog 27 .u64).fr ((Fr.refl (fun _ => False) _).alloc (.map #[] 0)) id).fr ((Fr.refl (fun _ => False) _).alloc (.cells #[.map (some w.heap.size), .map (some (w.heap.size + 1)), .int .u64 0, .int .u64 0] 42)) id)
  have hS := (IM.made (w.alloc (.map #[] 0))).fr ((Fr.refl (fun _ => False) _).alloc (.cells #[.map (some w.heap.size), .map (some (w.heap.size + 1)), .int .u64 0, .int .u64 0] 42)) id
  rw [show (w.alloc (.map #[] 0)).heap.size = w.heap.size + 1 from by simp] at hS
  have HS := Lib.hid hS
  have hB := Blk.new ((w.alloc (.map #[] 0)).alloc (.map #[] 0)) 42 #[.map (some w.heap.size), .map (some (w.heap.size + 1)), .int .u64 0, .int .u64 0]
  rw [show ((w.alloc (.map #[] 0)).alloc (.map #[] 0)).heap.size = w.heap.size + 1 + 1 from by simp] at hB
  have HB := Lib.hid hB
  have HF := Lib.hid ((((Fr.refl (fun _ => False) w).alloc (.map #[] 0)).alloc (.map #[] 0)).alloc (.cells #[.map (some w.heap.size), .map (some (w.heap.size + 1)), .int .u64 0, .int .u64 0] 42))
  clear hS hB
  have hmm := @run_makeMap Try.prog
  go_enter Try.func6, Try.ntmps6
  go_wp2_with fail
  go_ret
  exact ⟨_, _, _, rfl, ⟨HB.out, HL.out, HS.out, fun no b hb => (by cases hb), fun _ _ _ _ => rfl, fun _ _ _ h => (by cases h), fun _ _ h => (by cases h), by omega, by omega, by omega, by omega, by omega⟩, HF.out⟩
theorem held_any {B g BL BS n sz : Nat} {f : Int → Option Nat} {C : Int → Int} {clk al : Int} (w : World) (h : Sto w B g BL BS n f sz C clk al) : Calls Try.prog 9 #[.pointer (some ⟨g, 0, none⟩)] w fun e w' => e = .returned (.int .i64 (sz : Int)) ∧ Fr (fun _ => False) w w' := by
  have HL := Lib.hid h.lm
  have k0 := h.blk.cell 0
  simp at k0
  clear h
  go_enter Try.func9, Try.ntmps9
  go_wp2_with ((with_reducible refine gate_builtin (b := .len) (xs := #[.tmp 8]) rfl ?_); refine Classical.byContradiction fun hgoal => ?_)
  apply hgoal
  clear hgoal
  (try (refine gate_guard (by rfl) ?_; dsimp only))
  refine len_list (by rfl) (.tmp 8) rfl Try.underlying39 HL.out rfl ?_
  go_wp2_with fail
  go_ret
  exact ⟨rfl, Fr.refl _ _⟩
end Go.Proofs.Ytipbfmidiimicaa.Pq
