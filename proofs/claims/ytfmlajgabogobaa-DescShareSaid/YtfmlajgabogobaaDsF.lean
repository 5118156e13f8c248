/- List of a table of descriptors, walked. -/
import Derived.Test.YtfmlajgabogobaaDsD
import Derived.Test.YtfmlajgabogobaaPr
import Derived.Test.YtfmlajgabogobaaShelf
import Derived.Sort.OwnSortedInts
namespace Go.Proofs.Ytfmlajgabogobaa.Ds
open Go Go.RowKit Go.Proofs.YtfmlajgabogobaaW.PrintWords Go.Proofs.YtfmlajgabogobaaW.PrintLast Go.Proofs.YtfmlajgabogobaaW.PrintMore
open Go.Proofs.Ytfmlajgabogobaa.Hp Go.Proofs.Ytfmlajgabogobaa.Pm
attribute [local go_sem] max2_int min2_int max_two min_two max_three min_three max_four min_four
set_option linter.unusedVariables false
set_option linter.unusedSimpArgs false
/-- What List answers: the open descriptors, rising. -/
def Keys (f : Int → Option Nat) (l : List Int) : Prop := l.Nodup ∧ ∀ k, k ∈ l ↔ (f k ≠ none ∧ (Lit.int .i64 k).wf = true)
/-- On the way: those that have come. -/
structure Met (f : Int → Option Nat) (todo : Int → Bool) (cnt sz : Nat) (l : List Int) : Prop where
  nodup : l.Nodup
  mem : ∀ k, (Lit.int .i64 k).wf = true → (k ∈ l ↔ (f k ≠ none ∧ todo k = false))
  wf : ∀ k ∈ l, (Lit.int .i64 k).wf = true
  len : l.length + cnt ≤ sz
  sub : ∀ k, todo k = true → f k ≠ none
theorem Met.start (f : Int → Option Nat) (sz : Nat) : Met f (fun k => (f k).isSome) sz sz [] :=
  ⟨List.nodup_nil, fun k _ => by cases h : f k <;> simp [h], fun k h => absurd h (List.not_mem_nil), by simp, fun k h e => by simp [e] at h⟩
theorem Met.step {f : Int → Option Nat} {todo : Int → Bool} {cnt sz : Nat} {l : List Int} (h : Met f todo cnt sz l) {x : Int} {b cnt' : Nat} (hw : (Lit.int .i64 x).wf = true) (hx : todo x = true) (hf : f x = some b) (hc : cnt' < cnt) : Met f (fun z => todo z && !(z == x)) cnt' sz (l ++ [x]) := by
  have hn : x ∉ l := fun e => by rw [((h.mem x hw).1 e).2] at hx; cases hx
  refine ⟨List.nodup_append.2 ⟨h.nodup, by simp, fun a ha c hc => by simp at hc; subst hc; exact fun e => hn (e ▸ ha)⟩, fun k hk => ?_, fun k hk => ?_, by simp; have := h.len; omega, fun k hk => h.sub k (by simp at hk; exact hk.1)⟩
  · rw [List.mem_append, h.mem k hk]
    by_cases e : k = x
    · subst e
      simp [hf]
    · simp [e]
  · rcases List.mem_append.1 hk with h1 | h1
    · exact h.wf k h1
    · simp at h1; subst h1; exact hw
theorem Met.done {f : Int → Option Nat} {todo : Int → Bool} {cnt sz : Nat} {l : List Int} (h : Met f todo cnt sz l) (h0 : ∀ k, (Lit.int .i64 k).wf = true → todo k = false) : Keys f l :=
  ⟨h.nodup, fun k => ⟨fun hk => ⟨((h.mem k (h.wf k hk)).1 hk).1, h.wf k hk⟩, fun hk => (h.mem k hk.2).2 ⟨hk.1, h0 k hk.2⟩⟩⟩
theorem infoI : (Try.prog.info? 3).map (fun i => (i.zero, i.size, i.bytes)) = some (some (.int .i64 0), 1, 8) := by kernel_rfl
def AtLs (w0 : World) (B r n sz : Nat) (f : Int → Option Nat) (v : Value) (kq : Nat) (wr : World) : Prop :=
  ∃ (todo : Int → Bool) (cnt : Nat) (l : List Int), cnt ≤ kq ∧ PR Try.prog 3 .i64 wr B r n f sz todo cnt ∧ Met f todo cnt sz l ∧ Row wr 3 .i64 v l ∧ (∀ b, v.ownBlock = some b → w0.heap.size ≤ b) ∧ Fr (fun _ => False) w0 wr
theorem list_any {t B n : Nat} {most : Int} {f : Int → Option Nat} {sz : Nat} (w : World) (h : Tab w t B n most f sz) (hn : n ≤ 1000000) : Calls Try.prog 14 #[.pointer (some ⟨t, 0, none⟩)] w fun e w' => ∃ v l, e = .returned v ∧ Row w' 3 .i64 v l ∧ Keys f l ∧ l.Pairwise (fun a b => a ≤ b) ∧ Fr (fun _ => False) w w' := by
  have HT := Lib.hid h
  have hsz := h.pm.size_le
  obtain ⟨k0, k1⟩ := h.cells
  have hBl := h.pm.lt
  clear h
  go_enter Try.func14, Try.ntmps14
  go_wp2_with (first | (at_range; refine range_list rfl _ rfl lawK Try.underlying73 HT.out.pm rfl ?_; intro w1 hp1 hf1 hs1; have HP := Lib.hid hp1; have HF := Lib.hid hf1; clear hp1 hf1 hs1; go_frame))
  go_loopg [3] sz (fun kq v wr => Hid (AtLs w B w.heap.size n sz f v kq wr))
  case atStart => exact Lib.hid ⟨_, sz, [], Nat.le_refl _, HP.out, Met.start f sz, Row.nil _ _ _, fun b e => by simp [Value.ownBlock] at e, HF.out⟩
  case round =>
    obtain ⟨todo, cnt, l, hc, hp, hm, hv, hvb, hf⟩ := hrel.out
    have HP := Lib.hid hp
    have HM := Lib.hid hm
    have HV := Lib.hid hv
    have HVB := Lib.hid hvb
    have HF := Lib.hid hf
    obtain ⟨A1, c1, rfl, hlc, _⟩ := hv.slice
    have hll : l.length ≤ 1000000 := by have := hm.len; omega
    obtain ⟨ln, hln⟩ : ∃ ln, ln = l.length := ⟨_, rfl⟩
    have HLN := Lib.hid hln
    clear hrel hp hm hv hvb hf
    rw [← hln] at HV HVB hlc hll ⊢
    clear hln
    go_wp2_with (first | (at_next; refine next_list rfl _ rfl lawK Try.underlying3 HP.out rfl ?_ ?_))
    · intro hc0 h0
      have HK := Lib.hid (HM.out.done h0)
      clear hc0 h0
      go_wp2_with fail
      rcases HV.out.2 with ⟨e1, _⟩ | ⟨g, cap, cur, e1, _, hh, h1, h2, h3, h4⟩
      · injection e1 with e1 e2 e3
        subst e1 e2 e3
        have hl0 : l = [] := List.eq_nil_of_length_eq_zero (by have := HLN.out; omega)
        refine (Try.slices_Sort_int_none none 0 _).mono ?_
        rintro e w' ⟨rfl, rfl⟩
        go_wp2_with fail
        go_ret
        exact ⟨_, [], rfl, Row.nil _ _ _, hl0 ▸ HK.out, List.Pairwise.nil, HF.out⟩
      · injection e1 with e1 e2 e3
        subst e1 e3
        clear e2
        have hsort := Lib.hid (show Calls Try.prog 30 #[.slice (some ⟨g, 0, none⟩) ln c1] wr fun e w' => e = .returned (.tuple #[]) ∧ Row w' 3 .i64 (.slice (some ⟨g, 0, none⟩) ln c1) (l.mergeSort fun x y => decide (x ≤ y)) ∧ Fr (fun i => i = g) wr w' from by
          have e0 := HLN.out
          subst e0
          rw [Nat.mul_one] at h4
          refine (Try.slices_Sort_int g 0 c1 l wr (holds_of_blockI hh h4) (Array.getElem?_eq_some_iff.1 hh).1 (by omega)).mono ?_
          rintro e w' ⟨rfl, q, os, rfl⟩
          refine ⟨rfl, ?_, (Fr.refl _ _).grown (grownBy_sortedI _) (fun i e => .inl (by injection e with e; exact e.symm))⟩
          have e1 := ownsRow_sortedI (base := 0) (n := q) (os := os) (ss := l) (ts := l.mergeSort fun x y => decide (x ≤ y)) (by simp) (Nat.zero_le _) hh h1 h2 h3
          show World.ownsRow _ 0 _ 1 _ (l.mergeSort fun x y => decide (x ≤ y)).length (nums .i64 (l.mergeSort fun x y => decide (x ≤ y)))
          rw [List.length_mergeSort]
          exact e1)
        have hgb : w.heap.size ≤ g := HVB.out g rfl
        have HS := hsort
        clear hsort hh h1 h2 h3 h4
        refine HS.out.mono ?_
        rintro e w' ⟨rfl, hrow, hfr⟩
        have HR := Lib.hid hrow
        have HF := Lib.hid (HF.out.trans hfr (fun i hi e => absurd e (by omega)))
        clear hrow hfr HS
        go_wp2_with fail
        go_ret
        have hp : (l.mergeSort fun x y => decide (x ≤ y)).Perm l := List.mergeSort_perm _ _
        exact ⟨_, _, rfl, HR.out, ⟨hp.nodup_iff.2 HK.out.1, fun k => by rw [hp.mem_iff]; exact HK.out.2 k⟩, (List.pairwise_mergeSort (le := fun (x y : Int) => decide (x ≤ y)) (fun a b c h1 h2 => by simp at *; omega) (fun a b => by simp; omega) l).imp (fun h => by simpa using h), HF.out⟩
    · intro x b w2 cnt' hwx htx hfx hp2 hlt hf2 hs2 hen
      have HM2 := Lib.hid (HM.out.step hwx htx hfx hlt)
      have HP2 := Lib.hid (hp2.fr ((Fr.refl (fun _ => False) _).alloc (.cells #[.int .i64 x] 3)) id id)
      have hne := HP.out.row HV.out
      have HV2 := Lib.hid (show Row (w2.alloc (.cells #[.int .i64 x] 3)) 3 .i64 (.slice A1 ln c1) l from (HV.out.fr hf2 (fun b hb => (hne b hb).1)).fr ((Fr.refl (fun _ => False) _).alloc _) (fun _ _ => id))
      have HF2 := Lib.hid (((HF.out.trans hf2 (fun i hi e => by omega)).alloc (.cells #[.int .i64 x] 3)))
      have HX := Lib.hid (reads_new w2 .i64 3 (0, 0) [x] (by simp))
      clear hp2 hf2 hs2 hne
      go_wp2_with (first | (at_builtin; refine row_app rfl (.tmp 16) (.tmp 18) 26 3 .i64 8 rfl Try.underlying26 infoI (by decide) (.slice A1 ln c1) l [x] (some ⟨w2.heap.size, 0, none⟩) 1 1 rfl rfl HV2.out HX.out (by rw [← HLN.out]; omega) ?_; intro v2 w3 ho3 hf3 hat3))
      have hne := HP2.out.row HV2.out
      go_roundg cnt'
      case measure => omega
      case rel => exact Lib.hid ⟨_, cnt', l ++ [x], Nat.le_refl _, HP2.out.fr hf3 (fun e => (hne _ e).2 rfl) (fun e => (hne _ e).1 rfl), HM2.out, ho3, fun b hb => by
        rcases hat3 with e | ⟨b', e, hb'⟩
        · exact HVB.out b (e ▸ hb)
        · rw [hb] at e; injection e with e; subst e; exact Nat.le_trans HF2.out.size hb', HF2.out.trans hf3 (fun i hi e => by have := HVB.out i e; omega)⟩
end Go.Proofs.Ytfmlajgabogobaa.Ds
