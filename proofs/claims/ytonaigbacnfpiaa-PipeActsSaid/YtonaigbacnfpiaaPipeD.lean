/- The document's pipe: what lies at its block, and End, walked. -/
import Derived.Test.YtonaigbacnfpiaaPipeE
namespace Go.Proofs.Ytonaigbacnfpiaa.Pi
open Go Go.RowKit Go.Proofs.YtonaigbacnfpiaaW.PrintWords Go.Proofs.YtonaigbacnfpiaaW.PrintLast Go.Proofs.YtonaigbacnfpiaaW.PrintMore
open Go.Proofs.Ytonaigbacnfpiaa.Hp
attribute [local go_sem] max2_int min2_int max_two min_two max_three min_three max_four min_four
set_option linter.unusedVariables false
set_option linter.unusedSimpArgs false
/-- At g lies the document's pipe with the bytes l, whose row is v, r readers and q writers. -/
structure RPipe (w : World) (g : Nat) (v : Value) (l : List Int) (r q : Int) : Prop where
  blk : Blk w g 36 #[v, .int .i64 r, .int .i64 q]
  row : Row w 5 .u8 v l
theorem RPipe.fr {w w' : World} {g : Nat} {v : Value} {l : List Int} {r q : Int} {S : Nat → Prop} (h : RPipe w g v l r q) (f : Fr S w w') (hg : ¬ S g) (hv : ∀ b, v.ownBlock = some b → ¬ S b) : RPipe w' g v l r q :=
  ⟨h.blk.fr f hg, h.row.fr f hv⟩
section
variable (w : World) (g : Nat) (v : Value) (l : List Int) (r q : Int)
theorem rend_up (b : Bool) (h : RPipe w g v l r q) (h0 : 0 ≤ r) (h1 : r ≤ 1000000) (h2 : 0 ≤ q) (h3 : q ≤ 1000000) :
    Calls Try.prog 15 #[.pointer (some ⟨g, 0, none⟩), .bool b, .int .i64 1] w fun e w' => e = .returned (.tuple #[]) ∧ RPipe w' g v l (if b then r else r + 1) (if b then q + 1 else q) ∧ Fr (fun k => k = g) w w' := by
  have hb := h.blk
  have hrow := h.row
  have c1 := hb.cell 1
  have f1 := hb.frozen 1
  have c2 := hb.cell 2
  have f2 := hb.frozen 2
  simp at c1 c2
  have HF := Lib.hid (show ∀ (w1 : World) (i : Nat) (u : Value), Fr (fun k => k = g) w w1 → Fr (fun k => k = g) w (w1.setCell ⟨g, i, none⟩ u) from fun w1 i u k => k.setCell (p := ⟨g, i, none⟩) (.inl rfl) u)
  have HRo := Lib.hid (show ∀ w1, Fr (fun k => k = g) w w1 → Row w1 5 .u8 v l from fun w1 k => hrow.fr k (fun b' hb' => hrow.ne_blk hb (by decide) b' hb'))
  have HB := Lib.hid hb
  have HR := Lib.hid (Fr.refl (fun k => k = g) w)
  clear hb hrow h
  have tr : decide (r + 1 < 0) = false := decide_eq_false (by omega)
  have tq : decide (q + 1 < 0) = false := decide_eq_false (by omega)
  cases b
  · go_enter Try.func15, Try.ntmps15
    go_wp2
    first | go_end0 | refine bodyPost_ret (v := .tuple #[]) (by kernel_rfl) rfl ?_
    exact ⟨rfl, ⟨by have e := HB.out.set 1 (.int .i64 (r + 1)); simpa using e, HRo.out _ (HF.out _ _ _ HR.out)⟩, HF.out _ _ _ HR.out⟩
  · go_enter Try.func15, Try.ntmps15
    go_wp2
    first | go_end0 | refine bodyPost_ret (v := .tuple #[]) (by kernel_rfl) rfl ?_
    exact ⟨rfl, ⟨by have e := HB.out.set 2 (.int .i64 (q + 1)); simpa using e, HRo.out _ (HF.out _ _ _ HR.out)⟩, HF.out _ _ _ HR.out⟩
theorem rend_down (b : Bool) (h : RPipe w g v l r q) (h0 : 0 ≤ r) (h1 : r ≤ 1000000) (h2 : 0 ≤ q) (h3 : q ≤ 1000000) :
    Calls Try.prog 15 #[.pointer (some ⟨g, 0, none⟩), .bool b, .int .i64 (-1)] w fun e w' => e = .returned (.tuple #[]) ∧ RPipe w' g v l (if b then r else max (r - 1) 0) (if b then max (q - 1) 0 else q) ∧ Fr (fun k => k = g) w w' := by
  have hb := h.blk
  have hrow := h.row
  have c1 := hb.cell 1
  have f1 := hb.frozen 1
  have c2 := hb.cell 2
  have f2 := hb.frozen 2
  simp at c1 c2
  have HF := Lib.hid (show ∀ (w1 : World) (i : Nat) (u : Value), Fr (fun k => k = g) w w1 → Fr (fun k => k = g) w (w1.setCell ⟨g, i, none⟩ u) from fun w1 i u k => k.setCell (p := ⟨g, i, none⟩) (.inl rfl) u)
  have HRo := Lib.hid (show ∀ w1, Fr (fun k => k = g) w w1 → Row w1 5 .u8 v l from fun w1 k => hrow.fr k (fun b' hb' => hrow.ne_blk hb (by decide) b' hb'))
  have HB := Lib.hid hb
  have HR := Lib.hid (Fr.refl (fun k => k = g) w)
  clear hb hrow h
  cases b
  · by_cases hr : r = 0
    · subst hr
      have e0 : max ((0 : Int) - 1) 0 = 0 := by decide
      rw [e0]
      go_enter Try.func15, Try.ntmps15
      go_wp2
      first | go_end0 | refine bodyPost_ret (v := .tuple #[]) (by kernel_rfl) rfl ?_
      exact ⟨rfl, ⟨by have e := (HB.out.set 1 (.int .i64 (-1))).set 1 (.int .i64 0); simpa using e, HRo.out _ (HF.out _ _ _ (HF.out _ _ _ HR.out))⟩, HF.out _ _ _ (HF.out _ _ _ HR.out)⟩
    · have e : max (r - 1) 0 = r + -1 := by omega
      rw [e]
      have t : decide (r + -1 < 0) = false := decide_eq_false (by omega)
      clear hr e
      go_enter Try.func15, Try.ntmps15
      go_wp2
      first | go_end0 | refine bodyPost_ret (v := .tuple #[]) (by kernel_rfl) rfl ?_
      exact ⟨rfl, ⟨by have e := HB.out.set 1 (.int .i64 (r + -1)); simpa using e, HRo.out _ (HF.out _ _ _ HR.out)⟩, HF.out _ _ _ HR.out⟩
  · by_cases hr : q = 0
    · subst hr
      have e0 : max ((0 : Int) - 1) 0 = 0 := by decide
      rw [e0]
      go_enter Try.func15, Try.ntmps15
      go_wp2
      first | go_end0 | refine bodyPost_ret (v := .tuple #[]) (by kernel_rfl) rfl ?_
      exact ⟨rfl, ⟨by have e := (HB.out.set 2 (.int .i64 (-1))).set 2 (.int .i64 0); simpa using e, HRo.out _ (HF.out _ _ _ (HF.out _ _ _ HR.out))⟩, HF.out _ _ _ (HF.out _ _ _ HR.out)⟩
    · have e : max (q - 1) 0 = q + -1 := by omega
      rw [e]
      have t : decide (q + -1 < 0) = false := decide_eq_false (by omega)
      clear hr e
      go_enter Try.func15, Try.ntmps15
      go_wp2
      first | go_end0 | refine bodyPost_ret (v := .tuple #[]) (by kernel_rfl) rfl ?_
      exact ⟨rfl, ⟨by have e := HB.out.set 2 (.int .i64 (q + -1)); simpa using e, HRo.out _ (HF.out _ _ _ HR.out)⟩, HF.out _ _ _ HR.out⟩
end
end Go.Proofs.Ytonaigbacnfpiaa.Pi
