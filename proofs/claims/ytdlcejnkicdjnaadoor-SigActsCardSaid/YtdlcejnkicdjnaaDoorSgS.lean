/- What the laws of signals read of their acts. -/
import Derived.Test.YtdlcejnkicdjnaaDoorSgR
import Derived.Deep.Slices
import Derived.OpenShut
import Derived.WideLaws
namespace Go.Proofs.YtdlcejnkicdjnaaDoor.Sg
open Go.ChangeShapes Go.WideShapes Go.Deep
open Go Go.RowKit Go.Proofs.YtdlcejnkicdjnaaDoorW.PrintWords Go.Proofs.YtdlcejnkicdjnaaDoorW.PrintLast Go.Proofs.YtdlcejnkicdjnaaDoorW.PrintMore
open Go.Proofs.YtdlcejnkicdjnaaDoor.Hp Go.Proofs.YtdlcejnkicdjnaaDoor.Bv
attribute [local go_sem] max2_int min2_int max_two min_two max_three min_three max_four min_four
attribute [local go_sem] wrap_add wrap_sub wrap_mul wrap_neg and_U or_U xor_U andNot_U wrap_U
set_option linter.unusedVariables false
set_option linter.unusedSimpArgs false
/-- An act as it lies in memory. -/
structure ActAt (w : World) (x : Addr) (d n : Int) (h f m X : BitVec 64) : Prop where
  c0 : w.cell? (x.add 0) = some (.int .i64 d)
  c1 : w.cell? (x.add 1) = some (.int .i64 n)
  c2 : w.cell? (x.add 2) = some (.int .u64 (U h))
  c3 : w.cell? (x.add 3) = some (.int .u64 (U f))
  c4 : w.cell? (x.add 4) = some (.int .u64 (U m))
  c5 : w.cell? (x.add 5) = some (.int .u64 (U X))
def Acts (w : World) (v : Value) : Prop := ∃ a len cap, v = .slice a len cap ∧ len ≤ maxLen ∧
  ∀ i, i < len → ∃ x d n h f m X, a = some x ∧ ActAt w (x.add (i * 6)) d n h f m X
theorem trod_u64 {H : Type} {enc : TypeId × Value → H} {W : World} {m : Nat} {cs : List Value} {y : DataW H × List MemPlace} (h : DataW.trod enc Tryd.prog W 0 (fun _ => true) true m 23 cs = some y) : ∃ x : BitVec 64, cs = [.int .u64 (U x)] := by
  obtain ⟨d, e0, _, w0⟩ := DataW.trod_int Tryd.underlying23 h
  have b := Go.bounds_u64 w0
  obtain ⟨x, rfl⟩ := ex_U b.1 (by omega)
  exact ⟨x, e0⟩
theorem open_act {H : Type} {enc : TypeId × Value → H} {W : World} {m : Nat} {x : Addr} {cs : List Value} {y : DataW H × List MemPlace} (hc : W.cells? 0 x 6 = some cs)
    (h : DataW.trod enc Tryd.prog W 0 (fun _ => true) true m 42 cs = some y) : ∃ d n h f m X, ActAt W x d n h f m X := by
  obtain ⟨_, hl, hcell⟩ := World.cells?_some hc
  obtain ⟨xs, m', _, _, _, hxl, hf⟩ := DataW.trod_struct Tryd.underlying42 h
  have q3 : Tryd.prog.cellsOf 3 = 1 := by kernel_rfl
  have q5 : Tryd.prog.cellsOf 23 = 1 := by kernel_rfl
  have q31 : Tryd.prog.cellsOf 33 = 3 := by kernel_rfl
  match cs, hl with
  | [c0, c1, c2, c3, c4, c5], _ =>
  match xs, hxl with
  | [y0, y1, y2, y3], _ =>
  have f0 := hf 0 _ rfl
  have f1 := hf 1 _ rfl
  have f2 := hf 2 _ rfl
  have f3 := hf 3 _ rfl
  simp [q3, q5, q31] at f0 f1 f2 f3
  obtain ⟨d, e0, _, w0⟩ := DataW.trod_int Tryd.underlying3 f0
  obtain ⟨n, e1, _, w1⟩ := DataW.trod_int Tryd.underlying3 f1
  obtain ⟨X, e5⟩ := trod_u64 f3
  obtain ⟨zs, m2, _, _, _, hzl, hg⟩ := DataW.trod_struct Tryd.underlying33 f2
  match zs, hzl with
  | [z0, z1, z2], _ =>
  have g0 := hg 0 _ rfl
  have g1 := hg 1 _ rfl
  have g2 := hg 2 _ rfl
  simp [q5] at g0 g1 g2
  obtain ⟨b0, e2⟩ := trod_u64 g0
  obtain ⟨b1, e3⟩ := trod_u64 g1
  obtain ⟨b2, e4⟩ := trod_u64 g2
  simp at e0 e1 e2 e3 e4 e5
  subst e0 e1 e2 e3 e4 e5
  have h0 := hcell 0 (by decide)
  have h1 := hcell 1 (by decide)
  have h2 := hcell 2 (by decide)
  have h3 := hcell 3 (by decide)
  have h4 := hcell 4 (by decide)
  have h5 := hcell 5 (by decide)
  simp at h0 h1 h2 h3 h4 h5
  exact ⟨d, n, b0, b1, b2, X, h0, h1, h2, h3, h4, h5⟩
theorem open_acts {H : Type} {enc : TypeId × Value → H} {W : World} {base : Nat} {v : Value} {d : DataW H} {p : List MemPlace} (hv : Value.okWide Tryd.prog W .any base 40 v)
    (h : DataW.Trod enc Tryd.prog W 0 (fun _ => true) true 40 v d p) : Acts W v := by
  obtain ⟨a, len, cap, rfl⟩ := okWide_slice Tryd.underlying40 hv
  obtain ⟨fuel, hf⟩ := h
  have q : Tryd.prog.cellsOf 42 = 6 := by kernel_rfl
  rcases open_slice Tryd.underlying40 hf with ⟨hcs, _⟩ | ⟨x, l, c, m, n, D, Pl, hcs, _, hle, hm, hmm, _, hi⟩
  · simp [Value.cells] at hcs
    obtain ⟨rfl, rfl, rfl⟩ := hcs
    exact ⟨none, 0, 0, rfl, by decide, fun i hi => absurd hi (Nat.not_lt_zero _)⟩
  · simp [Value.cells] at hcs
    obtain ⟨rfl, rfl, rfl⟩ := hcs
    simp at hmm
    subst hmm
    refine ⟨_, _, _, rfl, Nat.le_trans hle hm, fun i hil => ?_⟩
    obtain ⟨cs', hc, ht⟩ := hi i (by omega)
    rw [q] at hc
    obtain ⟨d, n, h, f, m, X, k⟩ := open_act hc ht
    exact ⟨x, d, n, h, f, m, X, rfl, k⟩
theorem cell_fr {w w' : World} {a : Addr} {v : Value} (hf : Fr (fun _ => False) w w') (h : w.cell? a = some v) : w'.cell? a = some v := by
  have h1 := World.block_lt_of_cell? w _ h
  rw [World.cell?_of_block (w := w) (hf.block a.block h1 id)]
  exact h
theorem ActAt.fr {w w' : World} {x : Addr} {d n : Int} {h f m X : BitVec 64} (k : ActAt w x d n h f m X) (hf : Fr (fun _ => False) w w') : ActAt w' x d n h f m X :=
  ⟨cell_fr hf k.c0, cell_fr hf k.c1, cell_fr hf k.c2, cell_fr hf k.c3, cell_fr hf k.c4, cell_fr hf k.c5⟩
end Go.Proofs.YtdlcejnkicdjnaaDoor.Sg
