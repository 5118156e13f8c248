/- A table of descriptors in memory; New, get, free, Get: walked. -/
import Derived.Test.YtfmlajgabogobaaProg
import Derived.Below
import Derived.Deep.Draws
import Derived.Deep.AppendLies
import Derived.Maps.AppendAt
import Derived.OwnWalk
import Derived.Laws.BytesArg
import Derived.Laws.MakeOwn
import Derived.Laws.OwnMore
import Derived.Deep.OwnRows
import Derived.Tactics
import Derived.Lib.ConvBytes
import Derived.Laws.Slices
import Derived.WalkKit
import Derived.KernelRfl
import Derived.RowKit3
import Derived.Deep.LoopGhost
import Derived.Deep.QuietTactic
import Derived.BigQuiet
import Derived.WideLaws
import Derived.Deep.DeepCutAuto
import Derived.Deep.CutBlock
import Derived.Deep.RegionHeld3
import Derived.Laws.Rows
import Derived.Lib.AppendStr
import Derived.ArgAppend
import Derived.Laws.IdiomCopy
import Derived.OrdersHeld
import Derived.Laws.BitsLemmas
import Derived.RowKit
import Derived.Test.YtfmlajgabogobaaWWords
import Derived.Test.YtfmlajgabogobaaWLast
import Derived.Test.YtfmlajgabogobaaSlim
import Derived.Test.YtfmlajgabogobaaBv
import Derived.Test.YtfmlajgabogobaaHp
import Derived.Test.YtfmlajgabogobaaPm
import Derived.Lib.Hide
import Derived.IntWalk
namespace Go.Proofs.Ytfmlajgabogobaa.Ds
open Go Go.RowKit Go.Proofs.YtfmlajgabogobaaW.PrintWords Go.Proofs.YtfmlajgabogobaaW.PrintLast Go.Proofs.YtfmlajgabogobaaW.PrintMore
open Go.Proofs.Ytfmlajgabogobaa.Hp Go.Proofs.Ytfmlajgabogobaa.Pm
attribute [local go_sem] max2_int min2_int max_two min_two max_three min_three max_four min_four
set_option linter.unusedVariables false
set_option linter.unusedSimpArgs false
theorem wf64 {k : Int} (h0 : -9223372036854775808 ≤ k) (h1 : k ≤ 9223372036854775807) : (Lit.int .i64 k).wf = true := WalkArith.wf_i64 ⟨h0, h1⟩
theorem lawK : Go.Maps.Keyed Try.prog 3 := Go.Maps.int_keyed Try.underlying3
theorem zeroS (w : World) : (zeroValue 77).run Try.prog w = .ok (.pointer none) w := by kernel_rfl
theorem blk_new2 (w : World) (o : Obj) (t : TypeId) (cs : Array Value) : Blk ((w.alloc o).alloc (.cells cs t (0, 0))) (w.heap.size + 1) t cs := by
  have h := Blk.new (w.alloc o) t cs
  rwa [show (w.alloc o).heap.size = w.heap.size + 1 by simp] at h
/-- What is open, as cells; with the count of its descriptors. -/
def opC (nd : Int) (rd : Bool) (at_ : Int) : Array Value := #[.int .i64 nd, .pointer none, .bool rd, .bool false, .bool false, .bool false, .int .i64 at_]
def shC (nd : Int) (rd : Bool) (at_ cnt : Int) : Array Value := #[.int .i64 nd, .pointer none, .bool rd, .bool false, .bool false, .bool false, .int .i64 at_, .int .i64 cnt]
/-- A table. -/
structure Tab (w : World) (t B n : Nat) (most : Int) (f : Int → Option Nat) (sz : Nat) : Prop where
  blk : Blk w t 75 #[.int .i64 most, .map (some B)]
  pm : PM Try.prog 3 .i64 w B n f sz
  lo : 0 ≤ most
  hi : most ≤ 256
theorem Tab.fr {w w' : World} {S : Nat → Prop} {t B n : Nat} {most : Int} {f : Int → Option Nat} {sz : Nat} (h : Tab w t B n most f sz) (hf : Fr S w w') (h1 : ¬ S t) (h2 : ¬ S B) : Tab w' t B n most f sz :=
  ⟨h.blk.fr hf h1, h.pm.fr hf h2, h.lo, h.hi⟩
theorem Tab.ne {w : World} {t B n : Nat} {most : Int} {f : Int → Option Nat} {sz : Nat} (h : Tab w t B n most f sz) : B ≠ t := h.pm.ne_blk h.blk
theorem Tab.ne_of {w : World} {t B n : Nat} {most : Int} {f : Int → Option Nat} {sz : Nat} (h : Tab w t B n most f sz) {g : Nat} {ty : TypeId} {cs : Array Value} (hb : Blk w g ty cs) (ht : 75 ≠ ty) : g ≠ t ∧ g ≠ B :=
  ⟨fun e => h.blk.ne hb ht e.symm, fun e => h.pm.ne_blk hb e.symm⟩
/-- Where t lies, the table's two cells. -/
theorem Tab.cells {w : World} {t B n : Nat} {most : Int} {f : Int → Option Nat} {sz : Nat} (h : Tab w t B n most f sz) : w.cell? ⟨t, 0, none⟩ = some (.int .i64 most) ∧ w.cell? ⟨t, 1, none⟩ = some (.map (some B)) := ⟨h.blk.cell 0, h.blk.cell 1⟩
/-- The least free descriptor from one on. -/
def FreeOk (most : Int) (f : Int → Option Nat) (low r e : Int) : Prop :=
  (¬ (0 ≤ low ∧ low < most) ∧ r = 0 ∧ e = 22) ∨ ((0 ≤ low ∧ low < most) ∧ ((low ≤ r ∧ r < most ∧ f r = none ∧ (∀ j, low ≤ j → j < r → f j ≠ none) ∧ e = 0) ∨ ((∀ j, low ≤ j → j < most → f j ≠ none) ∧ r = 0 ∧ e = 24)))
theorem get_none {t B n : Nat} {most : Int} {f : Int → Option Nat} {sz : Nat} (fd : Int) (hk : (Lit.int .i64 fd).wf = true) (w : World) (h : Tab w t B n most f sz) (hf : f fd = none) : Calls Try.prog 28 #[.pointer (some ⟨t, 0, none⟩), .int .i64 fd] w fun e w' => e = .returned (.tuple #[.pointer none, .int .i64 9]) ∧ w' = w := by
  have HT := Lib.hid h
  have HK := Lib.hid hk
  have HF := Lib.hid hf
  obtain ⟨k0, k1⟩ := h.cells
  clear h hk hf
  go_enter Try.func28, Try.ntmps28
  go_wp2_with (first | (at_lookup; refine look_list (by rfl) _ _ rfl lawK Try.underlying3 Try.underlying73 (zeroS _) (HT.out.pm) _ HK.out rfl rfl (none) HF.out ?_; (try simp only [ptrV])))
  go_ret2
  exact ⟨rfl, rfl⟩
theorem get_some {t B n : Nat} {most : Int} {f : Int → Option Nat} {sz : Nat} (fd : Int) (s : Nat) (hk : (Lit.int .i64 fd).wf = true) (w : World) (h : Tab w t B n most f sz) (hf : f fd = some s) : Calls Try.prog 28 #[.pointer (some ⟨t, 0, none⟩), .int .i64 fd] w fun e w' => e = .returned (.tuple #[.pointer (some ⟨s, 0, none⟩), .int .i64 0]) ∧ w' = w := by
  have HT := Lib.hid h
  have HK := Lib.hid hk
  have HF := Lib.hid hf
  obtain ⟨k0, k1⟩ := h.cells
  clear h hk hf
  go_enter Try.func28, Try.ntmps28
  go_wp2_with (first | (at_lookup; refine look_list (by rfl) _ _ rfl lawK Try.underlying3 Try.underlying73 (zeroS _) (HT.out.pm) _ HK.out rfl rfl (some s) HF.out ?_; (try simp only [ptrV])))
  go_ret2
  exact ⟨rfl, rfl⟩
def AtFree (w : World) (most : Int) (f : Int → Option Nat) (low : Int) (i : Value) (kq : Nat) (wr : World) : Prop := ∃ fd : Int, i = .int .i64 fd ∧ low ≤ fd ∧ fd ≤ most ∧ most - fd ≤ kq ∧ (∀ j, low ≤ j → j < fd → f j ≠ none) ∧ wr = w
theorem free_any {t B n : Nat} {most : Int} {f : Int → Option Nat} {sz : Nat} (low : Int) (w : World) (h : Tab w t B n most f sz) : Calls Try.prog 27 #[.pointer (some ⟨t, 0, none⟩), .int .i64 low] w fun e w' => ∃ r k, FreeOk most f low r k ∧ e = .returned (.tuple #[.int .i64 r, .int .i64 k]) ∧ w' = w := by
  have HT := Lib.hid h
  obtain ⟨k0, k1⟩ := h.cells
  have hm0 := h.lo
  have hm1 := h.hi
  clear h
  by_cases hl : 0 ≤ low
  · have t1 : decide (low < 0) = false := decide_eq_false (by omega)
    by_cases hm : low < most
    · have t2 : decide (most ≤ low) = false := decide_eq_false (by omega)
      go_enter Try.func27, Try.ntmps27
      go_wp2_with fail
      go_loopg [6] (most - low).toNat (fun kq i wr => Hid (AtFree w most f low i kq wr))
      case atStart => exact Lib.hid ⟨low, rfl, by omega, by omega, by omega, fun j h1 h2 => by omega, rfl⟩
      case round =>
        obtain ⟨fd, rfl, h1, h2, h3, h4, rfl⟩ := hrel.out
        have H4 := Lib.hid h4
        clear hrel h4
        by_cases hd : fd < most
        · have t3 : decide (fd < most) = true := decide_eq_true hd
          obtain ⟨r, hr⟩ : ∃ r, f fd = r := ⟨_, rfl⟩
          have HF := Lib.hid hr
          have HK := Lib.hid (wf64 (k := fd) (by omega) (by omega))
          clear hr
          cases r
          · go_wp2_with (first | (at_lookup; refine look_list (by rfl) _ _ rfl lawK Try.underlying3 Try.underlying73 (zeroS _) (HT.out.pm) _ HK.out rfl rfl (none) HF.out ?_; (try simp only [ptrV])))
            go_ret2
            exact ⟨fd, 0, .inr ⟨⟨hl, hm⟩, .inl ⟨h1, hd, HF.out, H4.out, rfl⟩⟩, rfl, rfl⟩
          · rename_i s
            go_wp2_with (first | (at_lookup; refine look_list (by rfl) _ _ rfl lawK Try.underlying3 Try.underlying73 (zeroS _) (HT.out.pm) _ HK.out rfl rfl (some s) HF.out ?_; (try simp only [ptrV])))
            go_roundg (most - (fd + 1)).toNat
            case measure => omega
            case rel => exact Lib.hid ⟨fd + 1, rfl, by omega, by omega, by omega, fun j h5 h6 => by
              by_cases e : j = fd
              · subst e; rw [HF.out]; simp
              · exact H4.out j h5 (by omega), rfl⟩
        · have t3 : decide (fd < most) = false := decide_eq_false hd
          obtain rfl : fd = most := by omega
          go_wp2_with fail
          go_ret2
          exact ⟨0, 24, .inr ⟨⟨hl, hm⟩, .inr ⟨H4.out, rfl, rfl⟩⟩, rfl, rfl⟩
    · have t2 : decide (most ≤ low) = true := decide_eq_true (by omega)
      go_enter Try.func27, Try.ntmps27
      go_wp2_with fail
      go_ret2
      exact ⟨0, 22, .inl ⟨by omega, rfl, rfl⟩, rfl, rfl⟩
  · have t1 : decide (low < 0) = true := decide_eq_true (by omega)
    go_enter Try.func27, Try.ntmps27
    go_wp2_with fail
    go_ret2
    exact ⟨0, 22, .inl ⟨by omega, rfl, rfl⟩, rfl, rfl⟩
theorem new_any (m : Int) (w : World) : Calls Try.prog 7 #[.int .i64 m] w fun e w' => e = .returned (.pointer (some ⟨w.heap.size + 1, 0, none⟩)) ∧ Tab w' (w.heap.size + 1) w.heap.size 0 (min (max m 0) 256) (fun _ => none) 0 ∧ Fr (fun _ => False) w w' := by
  have hmm := @run_makeMap Try.prog
  go_enter Try.func7, Try.ntmps7
  go_wp2_with fail
  all_goals
    go_ret
    refine ⟨rfl, ⟨?_, (PM.made w _ _ _).fr ((Fr.refl (fun _ => False) _).alloc _) id, by omega, by omega⟩, by (repeat (first | (with_reducible exact Fr.refl _ _) | (with_reducible apply Fr.drewN) | (with_reducible apply Fr.alloc) | (with_reducible apply Fr.drew) | (with_reducible refine Fr.setCell ?_ (Or.inr (by simp)) _)))⟩
    first
      | (rw [show min (max m 0) 256 = 0 by omega]; exact blk_new2 _ _ _ _)
      | (rw [show min (max m 0) 256 = 256 by omega]; exact blk_new2 _ _ _ _)
      | (rw [show min (max m 0) 256 = m by omega]; exact blk_new2 _ _ _ _)
theorem tget_none {t B n : Nat} {most : Int} {f : Int → Option Nat} {sz : Nat} (fd : Int) (hk : (Lit.int .i64 fd).wf = true) (w : World) (h : Tab w t B n most f sz) (hf : f fd = none) : Calls Try.prog 12 #[.pointer (some ⟨t, 0, none⟩), .int .i64 fd] w fun e w' => e = .returned (.tuple #[.pointer none, .int .i64 9]) ∧ w' = w := by
  have H := Lib.hid (get_none fd hk w h hf)
  clear h hk hf
  go_enter Try.func12, Try.ntmps12
  go_wp2_with fail
  refine H.out.mono ?_
  rintro e w1 ⟨rfl, rfl⟩
  go_wp2_with fail
  go_ret2
  exact ⟨rfl, rfl⟩
theorem tget_some {t B n : Nat} {most : Int} {f : Int → Option Nat} {sz : Nat} (fd : Int) (s F : Nat) (sh : Bool) (hk : (Lit.int .i64 fd).wf = true) (w : World) (h : Tab w t B n most f sz) (hf : f fd = some s) (hs : Blk w s 82 #[.pointer (some ⟨F, 0, none⟩), .bool sh]) : Calls Try.prog 12 #[.pointer (some ⟨t, 0, none⟩), .int .i64 fd] w fun e w' => e = .returned (.tuple #[.pointer (some ⟨F, 0, none⟩), .int .i64 0]) ∧ w' = w := by
  have H := Lib.hid (get_some fd s hk w h hf)
  have k0 := hs.cell 0
  simp at k0
  clear h hk hf hs
  go_enter Try.func12, Try.ntmps12
  go_wp2_with fail
  refine H.out.mono ?_
  rintro e w1 ⟨rfl, rfl⟩
  go_wp2_with fail
  go_ret2
  exact ⟨rfl, rfl⟩
end Go.Proofs.Ytfmlajgabogobaa.Ds
