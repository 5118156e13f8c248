/- The contracts of package pipe's functions, walked. -/
import Derived.Test.YtonaigbacnfpiaaHp
import Derived.Test.YtonaigbacnfpiaaProg
import Derived.Test.YtonaigbacnfpiaaWMore

import Derived.Deep.RegionLaw
import Derived.Lib.Hide
namespace Go.Proofs.Ytonaigbacnfpiaa.Pi
open Go Go.RowKit Go.Proofs.YtonaigbacnfpiaaW.PrintWords Go.Proofs.YtonaigbacnfpiaaW.PrintLast Go.Proofs.YtonaigbacnfpiaaW.PrintMore
open Go.Proofs.Ytonaigbacnfpiaa.Hp
attribute [local go_sem] max2_int min2_int max_two min_two max_three min_three max_four min_four
set_option linter.unusedVariables false
set_option linter.unusedSimpArgs false
/-- At g lies a pipe with the bytes l, whose row is v, r readers and q writers. -/
structure Pipe (w : World) (g : Nat) (v : Value) (l : List Int) (r q : Int) : Prop where
  blk : Blk w g 48 #[v, .int .i64 r, .int .i64 q]
  row : Row w 5 .u8 v l
theorem info5 : (Try.prog.info? 5).map (fun i => (i.zero, i.size, i.bytes)) = some (some (.int .u8 0), 1, 1) := by kernel_rfl
theorem Pipe.fr {w w' : World} {g : Nat} {v : Value} {l : List Int} {r q : Int} {S : Nat → Prop} (h : Pipe w g v l r q) (f : Fr S w w') (hg : ¬ S g) (hv : ∀ b, v.ownBlock = some b → ¬ S b) : Pipe w' g v l r q :=
  ⟨h.blk.fr f hg, h.row.fr f hv⟩
theorem new_any (w : World) : Calls Try.prog 6 #[] w fun e w' => e = .returned (.pointer (some ⟨w.heap.size, 0, none⟩)) ∧ Pipe w' w.heap.size (.slice none 0 0) [] 0 0 ∧ Fr (fun _ => False) w w' := by
  go_enter Try.func6, Try.ntmps6
  go_wp2
  go_ret
  exact ⟨rfl, ⟨Blk.new _ _ _, Row.nil _ _ _⟩, (Fr.refl _ _).alloc _⟩
section
variable (w : World) (g : Nat) (v : Value) (l : List Int) (r q : Int)
theorem open_any (b : Bool) (h : Pipe w g v l r q) (h0 : 0 ≤ r) (h1 : r ≤ 1000000) (h2 : 0 ≤ q) (h3 : q ≤ 1000000) :
    Calls Try.prog 8 #[.pointer (some ⟨g, 0, none⟩), .bool b] w fun e w' => e = .returned (.tuple #[]) ∧ Pipe w' g v l (if b then r else r + 1) (if b then q + 1 else q) ∧ Fr (fun k => k = g) w w' := by
  have hb := h.blk
  have hrow := h.row
  have c1 := hb.cell 1
  have f1 := hb.frozen 1
  have c2 := hb.cell 2
  have f2 := hb.frozen 2
  simp at c1 c2
  have HF := Lib.hid (show ∀ (i : Nat) (u : Value), Fr (fun k => k = g) w (w.setCell ⟨g, i, none⟩ u) from fun i u => (Fr.refl (fun k => k = g) w).setCell (p := ⟨g, i, none⟩) (.inl rfl) u)
  have HRo := Lib.hid (show ∀ i u, Row (w.setCell ⟨g, i, none⟩ u) 5 .u8 v l from fun i u => hrow.fr (HF.out i u) (fun b' hb' => hrow.ne_blk hb (by decide) b' hb'))
  have HB := Lib.hid hb
  clear hb hrow h
  cases b
  · go_enter Try.func8, Try.ntmps8
    go_wp2
    go_end0
    exact ⟨rfl, ⟨by have := HB.out.set 1 (.int .i64 (r + 1)); simpa using this, HRo.out _ _⟩, HF.out _ _⟩
  · go_enter Try.func8, Try.ntmps8
    go_wp2
    go_end0
    exact ⟨rfl, ⟨by have := HB.out.set 2 (.int .i64 (q + 1)); simpa using this, HRo.out _ _⟩, HF.out _ _⟩
theorem len_any (h : Pipe w g v l r q) :
    Calls Try.prog 9 #[.pointer (some ⟨g, 0, none⟩)] w fun e w' => e = .returned (.int .i64 l.length) ∧ w = w' := by
  obtain ⟨A, c, rfl, _, hr⟩ := h.row.slice
  have c0 := h.blk.cell 0
  simp at c0
  have hm := hr.2.1
  clear h hr
  go_enter Try.func9, Try.ntmps9
  go_wp2
  go_ret
  exact ⟨rfl, rfl⟩
/-- What Write answers, and what the pipe then holds. -/
def wE (n : Nat) (r : Int) (m : Nat) : Int := if r = 0 then 32 else if m = 0 then 0 else if n = 4096 ∨ (m ≤ 512 ∧ 4096 - n < m) then 11 else 0
def wN (n : Nat) (r : Int) (m : Nat) : Nat := if r = 0 then 0 else if m = 0 then 0 else if n = 4096 ∨ (m ≤ 512 ∧ 4096 - n < m) then 0 else min m (4096 - n)
theorem cut_to (A : Option Addr) (c : Nat) (n m : Nat) (hm : m ≤ n) (hc : n ≤ c) (W : World) :
    (Instr.slice 31 (.slice A n c) none (some (.int .i64 (m : Int))) none).run Try.prog W = .ok (.slice A m c) W := by
  obtain ⟨i0, hi, _, hsz, _⟩ := info_parts info5
  have hl : (List.replicate n (0 : Int)).length = n := List.length_replicate
  have h := (print_take_of (P := Try.prog) (Value.int .u8) 0 31 5 .i64 Try.underlying31 hi hsz A c (List.replicate n (0 : Int)) (m : Int) (by omega) (by omega) (by omega)).1 W
  rw [hl] at h
  rw [h]
  simp [Nat.min_eq_left hm]
/-- What is left to show behind the append of write: the pipe's own cells in the new world. -/
theorem after_app {w w1 : World} {g : Nat} {v v1 : Value} {l l1 : List Int} {r q : Int} (h : Pipe w g v l r q) (hr : Row w1 5 .u8 v1 l1) (hf : Fr (fun b => v.ownBlock = some b) w w1) :
    Blk w1 g 48 #[v, .int .i64 r, .int .i64 q] ∧ Pipe (w1.setCell ⟨g, 0, none⟩ v1) g v1 l1 r q ∧ Fr (fun k => k = g ∨ v.ownBlock = some k) w (w1.setCell ⟨g, 0, none⟩ v1) := by
  have hb := h.blk.fr hf (fun e => h.row.ne_blk h.blk (by decide) g e rfl)
  have hs := hb.set 0 v1
  have hfr : Fr (fun k => k = g) w1 (w1.setCell ⟨g, 0, none⟩ v1) := (Fr.refl (fun k => k = g) w1).setCell (p := ⟨g, 0, none⟩) (.inl rfl) v1
  refine ⟨hb, ⟨by simpa using hs, hr.fr hfr (fun b e => hr.ne_blk hb (by decide) b e)⟩, ?_⟩
  exact (hf.mono (fun k _ hk => Or.inr hk)).trans hfr (fun k _ hk => Or.inl hk)
set_option maxHeartbeats 1000000 in
theorem write_fits (A : Option Addr) (c : Nat) (b : List Int) (h : Pipe w g v l r q) (hb : ReadsInt w .u8 A b.length b) (hc : b.length ≤ c) (hr0 : r ≠ 0) (hb0 : 0 < b.length) (hw : l.length + b.length ≤ 4096) :
    Calls Try.prog 10 #[.pointer (some ⟨g, 0, none⟩), .slice A b.length c] w fun e w' => ∃ v', e = .returned (.tuple #[.int .i64 b.length, .int .i64 0]) ∧
      Pipe w' g v' (l ++ b) r q ∧ Fr (fun k => k = g ∨ v.ownBlock = some k) w w' ∧ (v'.ownBlock = v.ownBlock ∨ ∃ k, v'.ownBlock = some k ∧ w.heap.size ≤ k) := by
  have HP := Lib.hid h
  obtain ⟨A1, c1, rfl, hc1, hr1⟩ := h.row.slice
  have k0 := h.blk.cell 0
  have k1 := h.blk.cell 1
  have f0 := h.blk.frozen 0
  simp at k0 k1
  have hcut := fun W => cut_to A c b.length b.length (Nat.le_refl _) hc W
  have hbm := hb.2.1
  have HB := Lib.hid hb
  have t0 : (r == 0) = false := beq_eq_false_iff_ne.2 hr0
  have t1 : ((b.length : Int) == 0) = false := beq_eq_false_iff_ne.2 (by omega)
  have t2 : (4096 - (l.length : Int) == 0) = false := beq_eq_false_iff_ne.2 (by omega)
  have t3 : decide (4096 - (l.length : Int) < (b.length : Int)) = false := decide_eq_false (by omega)
  have t5 : (b.length : Int) ≤ 4096 - (l.length : Int) := by omega
  obtain ⟨o, ho⟩ : ∃ o, o = l ++ b := ⟨_, rfl⟩
  rw [← ho]
  have HO := Lib.hid ho
  clear h hr1 hb ho
  go_enter Try.func10, Try.ntmps10
  go_wp2
  all_goals
    go_region_law (refine row_app_step rfl (.tmp 48) (.tmp 51) 31 5 .u8 1 rfl Try.underlying31 info5 (by decide) (.slice A1 l.length c1) l b A b.length c rfl rfl HP.out.row HB.out (by omega) ?_; intro v1 w1 ho1 hf1 hat1; rw [← HO.out] at ho1; have HA := Lib.hid (after_app HP.out ho1 hf1.undrew); obtain ⟨A2, c2, rfl, _, _⟩ := ho1.slice; have k0' := HA.out.1.cell 0; have f0' := HA.out.1.frozen 0; simp at k0'; have HT := Lib.hid hat1; clear hf1 ho1 hat1)
    all_goals
      go_wp2
      go_ret2
      exact ⟨_, rfl, HA.out.2.1, HA.out.2.2, HT.out⟩
theorem write_none (A : Option Addr) (c : Nat) (b : List Int) (e : Int) (h : Pipe w g v l r q) (hbm : b.length ≤ 9223372036854775807) (hl : l.length ≤ 4096) (he : e = wE l.length r b.length) (hz : wN l.length r b.length = 0) :
    Calls Try.prog 10 #[.pointer (some ⟨g, 0, none⟩), .slice A b.length c] w fun e' w' => e' = .returned (.tuple #[.int .i64 0, .int .i64 e]) ∧ w = w' := by
  obtain ⟨A1, c1, rfl, hc1, hr1⟩ := h.row.slice
  have k0 := h.blk.cell 0
  have k1 := h.blk.cell 1
  simp at k0 k1
  clear h hr1
  unfold wE at he
  unfold wN at hz
  by_cases hr0 : r = 0
  · rw [if_pos hr0] at he
    have t0 : (r == 0) = true := beq_iff_eq.2 hr0
    clear hr0 hz
    subst he
    go_enter Try.func10, Try.ntmps10
    go_wp2
    go_ret2
    exact ⟨rfl, rfl⟩
  · rw [if_neg hr0] at he hz
    have t0 : (r == 0) = false := beq_eq_false_iff_ne.2 hr0
    clear hr0
    by_cases hb0 : b.length = 0
    · rw [if_pos hb0] at he
      have t1 : ((b.length : Int) == 0) = true := beq_iff_eq.2 (by omega)
      clear hb0 hz
      subst he
      go_enter Try.func10, Try.ntmps10
      go_wp2
      go_ret2
      exact ⟨rfl, rfl⟩
    · rw [if_neg hb0] at he hz
      have t1 : ((b.length : Int) == 0) = false := beq_eq_false_iff_ne.2 (by omega)
      by_cases hw : l.length = 4096 ∨ (b.length ≤ 512 ∧ 4096 - l.length < b.length)
      · rw [if_pos hw] at he
        subst he
        clear hz
        by_cases h4 : l.length = 4096
        · have t2 : (4096 - (l.length : Int) == 0) = true := beq_iff_eq.2 (by omega)
          clear h4 hw
          go_enter Try.func10, Try.ntmps10
          go_wp2
          go_ret2
          exact ⟨rfl, rfl⟩
        · have t2 : (4096 - (l.length : Int) == 0) = false := beq_eq_false_iff_ne.2 (by omega)
          have t3 : decide ((b.length : Int) ≤ 512) = true := decide_eq_true (by omega)
          have t4 : decide (4096 - (l.length : Int) < (b.length : Int)) = true := decide_eq_true (by omega)
          clear h4 hw
          go_enter Try.func10, Try.ntmps10
          go_wp2
          go_ret2
          exact ⟨rfl, rfl⟩
      · rw [if_neg hw] at hz
        omega
set_option maxHeartbeats 1000000 in
theorem write_part (A : Option Addr) (c : Nat) (b : List Int) (m : Nat) (h : Pipe w g v l r q) (hb : ReadsInt w .u8 A b.length b) (hc : b.length ≤ c) (hr0 : r ≠ 0) (hb0 : 512 < b.length) (hm : l.length + m = 4096) (hm0 : 0 < m) (hw : m < b.length) :
    Calls Try.prog 10 #[.pointer (some ⟨g, 0, none⟩), .slice A b.length c] w fun e w' => ∃ v', e = .returned (.tuple #[.int .i64 m, .int .i64 0]) ∧
      Pipe w' g v' (l ++ b.take m) r q ∧ Fr (fun k => k = g ∨ v.ownBlock = some k) w w' ∧ (v'.ownBlock = v.ownBlock ∨ ∃ k, v'.ownBlock = some k ∧ w.heap.size ≤ k) := by
  have HP := Lib.hid h
  obtain ⟨A1, c1, rfl, hc1, hr1⟩ := h.row.slice
  have k0 := h.blk.cell 0
  have k1 := h.blk.cell 1
  have f0 := h.blk.frozen 0
  simp at k0 k1
  have hcut0 := fun W => cut_to A c b.length m (by omega) hc W
  have hrm : 4096 - (l.length : Int) = (m : Int) := by omega
  rw [← hrm] at hcut0
  have hcut := hcut0
  clear hcut0
  have hbm := hb.2.1
  have HB := Lib.hid (show ReadsInt w .u8 A m (b.take m) from ⟨by rw [List.length_take]; omega, by omega, fun hn => by
    obtain ⟨ad, e, hcl⟩ := hb.2.2 (by omega)
    refine ⟨ad, e, fun j hj => ?_⟩
    rw [hcl j (by omega)]
    simp [List.getD_eq_getElem?_getD, List.getElem?_take, hj]⟩)
  have t0 : (r == 0) = false := beq_eq_false_iff_ne.2 hr0
  have t1 : ((b.length : Int) == 0) = false := beq_eq_false_iff_ne.2 (by omega)
  have t2 : (4096 - (l.length : Int) == 0) = false := beq_eq_false_iff_ne.2 (by omega)
  have t3 : decide ((b.length : Int) ≤ 512) = false := decide_eq_false (by omega)
  have t5 : 4096 - (l.length : Int) < (b.length : Int) := by omega
  obtain ⟨o, ho⟩ : ∃ o, o = l ++ b.take m := ⟨_, rfl⟩
  rw [← ho, ← hrm]
  have HO := Lib.hid ho
  have HM := Lib.hid hm
  have hl4 : l.length ≤ 4096 := by omega
  clear h hr1 hb ho hrm hm
  go_enter Try.func10, Try.ntmps10
  go_wp2
  go_region_law (refine row_app_step rfl (.tmp 48) (.tmp 51) 31 5 .u8 1 rfl Try.underlying31 info5 (by decide) (.slice A1 l.length c1) l (b.take m) A m c rfl rfl HP.out.row HB.out (by have := HM.out; omega) ?_; intro v1 w1 ho1 hf1 hat1; rw [← HO.out] at ho1; have HA := Lib.hid (after_app HP.out ho1 hf1.undrew); obtain ⟨A2, c2, rfl, _, _⟩ := ho1.slice; have k0' := HA.out.1.cell 0; have f0' := HA.out.1.frozen 0; simp at k0'; have HT := Lib.hid hat1; clear hf1 ho1 hat1)
  all_goals
    go_wp2
    go_ret2
    exact ⟨_, rfl, HA.out.2.1, HA.out.2.2, HT.out⟩
theorem write_any (A : Option Addr) (c : Nat) (b : List Int) (h : Pipe w g v l r q) (hb : ReadsInt w .u8 A b.length b) (hc : b.length ≤ c) (hl : l.length ≤ 4096) :
    Calls Try.prog 10 #[.pointer (some ⟨g, 0, none⟩), .slice A b.length c] w fun e w' => ∃ v', e = .returned (.tuple #[.int .i64 (wN l.length r b.length), .int .i64 (wE l.length r b.length)]) ∧
      Pipe w' g v' (l ++ b.take (wN l.length r b.length)) r q ∧ Fr (fun k => k = g ∨ v.ownBlock = some k) w w' ∧ (v'.ownBlock = v.ownBlock ∨ ∃ k, v'.ownBlock = some k ∧ w.heap.size ≤ k) := by
  by_cases hz : wN l.length r b.length = 0
  · rw [hz, List.take_zero, List.append_nil]
    refine (write_none w g v l r q A c b _ h hb.2.1 hl rfl hz).mono ?_
    rintro e w' ⟨rfl, rfl⟩
    exact ⟨v, rfl, h, Fr.refl _ _, .inl rfl⟩
  · have hz' := hz
    unfold wN at hz
    by_cases hr0 : r = 0
    · rw [if_pos hr0] at hz; exact absurd rfl hz
    · rw [if_neg hr0] at hz
      by_cases hb0 : b.length = 0
      · rw [if_pos hb0] at hz; exact absurd rfl hz
      · rw [if_neg hb0] at hz
        by_cases hw : l.length = 4096 ∨ (b.length ≤ 512 ∧ 4096 - l.length < b.length)
        · rw [if_pos hw] at hz; exact absurd rfl hz
        · have he : wE l.length r b.length = 0 := by unfold wE; rw [if_neg hr0, if_neg hb0, if_neg hw]
          have hn : wN l.length r b.length = min b.length (4096 - l.length) := by unfold wN; rw [if_neg hr0, if_neg hb0, if_neg hw]
          rw [he, hn]
          by_cases hf : l.length + b.length ≤ 4096
          · rw [Nat.min_eq_left (by omega), List.take_length]
            exact write_fits w g v l r q A c b h hb hc hr0 (by omega) hf
          · rw [Nat.min_eq_right (by omega)]
            exact write_part w g v l r q A c b _ h hb hc hr0 (by omega) (by omega) (by omega) (by omega)
end
end Go.Proofs.Ytonaigbacnfpiaa.Pi
