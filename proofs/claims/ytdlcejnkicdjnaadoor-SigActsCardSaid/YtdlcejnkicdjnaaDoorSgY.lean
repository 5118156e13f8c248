/- The other stack of a signals' state, walked; what the law SigActs holds. -/
import Derived.Test.YtdlcejnkicdjnaaDoorSgX
import Derived.BigQuiet
import Derived.Deep.RegionHeld3
namespace Go.Proofs.YtdlcejnkicdjnaaDoor.Sg
open Go Go.RowKit Go.Proofs.YtdlcejnkicdjnaaDoorW.PrintWords Go.Proofs.YtdlcejnkicdjnaaDoorW.PrintLast Go.Proofs.YtdlcejnkicdjnaaDoorW.PrintMore
open Go.Proofs.YtdlcejnkicdjnaaDoor.Hp Go.Proofs.YtdlcejnkicdjnaaDoor.Bv
attribute [local go_sem] max2_int min2_int max_two min_two max_three min_three max_four min_four
attribute [local go_sem] wrap_add wrap_sub wrap_mul wrap_neg and_U or_U xor_U andNot_U wrap_U
set_option linter.unusedVariables false
set_option linter.unusedSimpArgs false
theorem setstack_any {g : Nat} {A : Nat → Int} {M P x y : BitVec 64} (x' y' : BitVec 64) (w : World) (h : St w g A M P x y) : Calls Tryd.prog 27 #[.pointer (some ⟨g, 0, none⟩), .agg #[.int .u64 (U x'), .int .u64 (U y')]] w fun e w' => e = .returned (.tuple #[]) ∧ St w' g A M P x' y' ∧ Fr (fun k => k = g) w w' := by
  have h1 : St (w.alloc (.cells #[.int .u64 (U x'), .int .u64 (U y')] 53)) g A M P x y := Blk.alloc h _
  have HF1 := Lib.hid ((Fr.refl (fun k => k = g) w).alloc (.cells #[.int .u64 (U x'), .int .u64 (U y')] 53))
  have HN := Lib.hid (Blk.new w 53 #[.int .u64 (U x'), .int .u64 (U y')])
  have H1 := Lib.hid h1
  clear h h1
  go_enter Tryd.func27, Tryd.ntmps27
  go_upto_region 1 with (fail)
  generalize hw : w.alloc (.cells #[.int .u64 (U x'), .int .u64 (U y')] 53) = w1 at HF1 HN H1 ⊢
  clear hw
  obtain ⟨f0, f1⟩ := (show _ ∧ _ from ⟨H1.out.frz 197, H1.out.frz 198⟩)
  obtain ⟨d0, d1⟩ := (show _ ∧ _ from ⟨HN.out.cell 0, HN.out.cell 1⟩)
  simp at d0 d1
  obtain ⟨c0, c1⟩ := (show w1.cell? ⟨g, 197, none⟩ = some (.int .u64 (U x)) ∧ w1.cell? ⟨g, 198, none⟩ = some (.int .u64 (U y)) from ⟨(Blk.cell H1.out 197).trans (stA_hi _ _ _ _ _ 2), (Blk.cell H1.out 198).trans (stA_hi _ _ _ _ _ 3)⟩)
  have HB := Lib.hid (show St ((w1.setCell ⟨g, 197, none⟩ (.int .u64 (U x'))).setCell ⟨g, 198, none⟩ (.int .u64 (U y'))) g A M P x' y' from by
    have e := (Blk.set H1.out 197 (.int .u64 (U x'))).set 198 (.int .u64 (U y'))
    rw [stA_set197, stA_set198] at e
    exact e)
  have HF := Lib.hid (show Fr (fun k => k = g) w ((w1.setCell ⟨g, 197, none⟩ (.int .u64 (U x'))).setCell ⟨g, 198, none⟩ (.int .u64 (U y'))) from (HF1.out.setCell (p := ⟨g, 197, none⟩) (.inl rfl) _).setCell (p := ⟨g, 198, none⟩) (.inl rfl) _)
  clear HF1 HN H1
  go_wp2_with fail
  go_end0
  exact ⟨rfl, HB.out, HF.out⟩
theorem stack_any {g : Nat} {A : Nat → Int} {M P x y : BitVec 64} (w : World) (h : St w g A M P x y) : Calls Tryd.prog 29 #[.pointer (some ⟨g, 0, none⟩)] w fun e w' => e = .returned (.agg #[.int .u64 (U x), .int .u64 (U y)]) ∧ Fr (fun _ => False) w w' := by
  have h1 : St (w.alloc (.cells #[.int .u64 0, .int .u64 0] 53)) g A M P x y := Blk.alloc h _
  have c0 : (w.alloc (.cells #[.int .u64 0, .int .u64 0] 53)).cell? ⟨g, 197, none⟩ = some (.int .u64 (U x)) := (Blk.cell h1 197).trans (stA_hi _ _ _ _ _ 2)
  have c1 : (w.alloc (.cells #[.int .u64 0, .int .u64 0] 53)).cell? ⟨g, 198, none⟩ = some (.int .u64 (U y)) := (Blk.cell h1 198).trans (stA_hi _ _ _ _ _ 3)
  have HN := Lib.hid (Blk.new w 53 #[.int .u64 (U x), .int .u64 (U y)])
  have HF := Lib.hid ((Fr.refl (fun _ => False) w).alloc (.cells #[.int .u64 (U x), .int .u64 (U y)] 53))
  clear h1
  clear h
  go_enter Tryd.func29, Tryd.ntmps29
  go_wp2_with fail
  refine bodyPost_ret (results_single rfl (.cell w.heap.size 53 #[.int .u64 (U x), .int .u64 (U y)] (0, 0) _ rfl ?_ Tryd.underlying53 rfl (by kernel_rfl) .nil)) rfl ?_
  · exact HN.out
  exact ⟨rfl, HF.out⟩
/-- What the law holds of both states. -/
structure SInv (w0 w : World) (s g : Nat) (A : Nat → Int) (M P x y : BitVec 64) (mf pf : Nat → Bool) : Prop where
  st : St w s A M P x y
  rs : Rs w g A mf pf x y
  bm : BitsOf mf M
  bp : BitsOf pf P
  z : A 0 = 0 ∧ A 1 = 0 ∧ A 2 = 0
  fr : Fr (fun _ => False) w0 w
  ls : w0.heap.size ≤ s
  lg : w0.heap.size ≤ g
theorem SInv.ne {w0 w : World} {s g : Nat} {A : Nat → Int} {M P x y : BitVec 64} {mf pf : Nat → Bool} (h : SInv w0 w s g A M P x y mf pf) : s ≠ g := Blk.ne h.st h.rs (by decide)
theorem SInv.same {w0 w : World} {s g : Nat} {A : Nat → Int} {M P x y : BitVec 64} {mf pf : Nat → Bool} (h : SInv w0 w s g A M P x y mf pf) {w' : World} (hf : Fr (fun _ => False) w w') : SInv w0 w' s g A M P x y mf pf :=
  ⟨h.st.fr hf id, h.rs.fr hf id, h.bm, h.bp, h.z, h.fr.trans hf (fun _ _ => id), h.ls, h.lg⟩
/-- Both have gone a step. -/
theorem SInv.both {w0 w : World} {s g : Nat} {A : Nat → Int} {M P x y : BitVec 64} {mf pf : Nat → Bool} (h : SInv w0 w s g A M P x y mf pf) {w1 w2 : World} {A' : Nat → Int} {M' P' x' y' : BitVec 64} {mf' pf' : Nat → Bool} (h1 : St w1 s A' M' P' x' y') (f1 : Fr (fun k => k = s) w w1) (h2 : Rs w2 g A' mf' pf' x' y') (f2 : Fr (fun k => k = g) w1 w2) (hm : BitsOf mf' M') (hp : BitsOf pf' P') (hz : A' 0 = 0 ∧ A' 1 = 0 ∧ A' 2 = 0) : SInv w0 w2 s g A' M' P' x' y' mf' pf' :=
  ⟨h1.fr f2 h.ne, h2, hm, hp, hz, (h.fr.trans f1 (fun i hi e => by have := h.ls; omega)).trans f2 (fun i hi e => by have := h.lg; omega), h.ls, h.lg⟩
theorem SInv.rs1 {w0 w : World} {s g : Nat} {A : Nat → Int} {M P x y : BitVec 64} {mf pf : Nat → Bool} (h : SInv w0 w s g A M P x y mf pf) {w1 : World} (f1 : Fr (fun k => k = s) w w1) : Rs w1 g A mf pf x y := h.rs.fr f1 (fun e => h.ne e.symm)
theorem actC_all {A : Nat → Int} (hz : A 0 = 0 ∧ A 1 = 0 ∧ A 2 = 0) (n : Nat) : actC A n = #[.int .u64 (A (n * 3)), .int .u64 (A (n * 3 + 1)), .int .u64 (A (n * 3 + 2))] := by
  unfold actC
  split
  · rename_i e
    subst e
    rw [Nat.zero_mul, hz.1, hz.2.1, hz.2.2]
  · rfl
theorem saA_z {A : Nat → Int} (hz : A 0 = 0 ∧ A 1 = 0 ∧ A 2 = 0) (n a0 : Int) (a1 v : BitVec 64) : saA n a0 a1 v A 0 = 0 ∧ saA n a0 a1 v A 1 = 0 ∧ saA n a0 a1 v A 2 = 0 := by
  unfold saA
  split
  · simp only [upd3_at]
    refine ⟨?_, ?_, ?_⟩
    all_goals
      repeat rw [if_neg (by omega)]
      first | exact hz.1 | exact hz.2.1 | exact hz.2.2
  · exact hz
theorem enA_z {A : Nat → Int} (hz : A 0 = 0 ∧ A 1 = 0 ∧ A 2 = 0) (n : Int) (fl : BitVec 64) : enA n fl A 0 = 0 ∧ enA n fl A 1 = 0 ∧ enA n fl A 2 = 0 := by
  unfold enA
  split
  · split
    · simp only [upd3_at]
      refine ⟨?_, ?_, ?_⟩
      all_goals
        repeat rw [if_neg (by omega)]
        first | exact hz.1 | exact hz.2.1 | exact hz.2.2
    · exact hz
  · exact hz
theorem zero_rs (w : World) : Sem.run Tryd.prog (zeroValue 55) w = .ok (.agg (fnA 327 (rsC (fun _ => 0) (fun _ => false) (fun _ => false) 0#64 0#64))) w := by kernel_rfl
end Go.Proofs.YtdlcejnkicdjnaaDoor.Sg
