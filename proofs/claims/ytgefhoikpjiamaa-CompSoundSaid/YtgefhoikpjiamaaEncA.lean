/- inst.find at each function that it is called with: the first of eight places whose operator is the wanted one. -/
import Derived.Test.YtgefhoikpjiamaaInsW
import Derived.Test.YtgefhoikpjiamaaInsG
import Derived.Deep.LoopGhost
namespace Go.Proofs.Ytgefhoikpjiamaa.Ins
open Go Go.RowKit Go.Proofs.YtgefhoikpjiamaaW.PrintWords Go.Proofs.YtgefhoikpjiamaaW.PrintLast Go.Proofs.YtgefhoikpjiamaaW.PrintMore
open Go.Proofs.Ytgefhoikpjiamaa.Hp Go.Proofs.Ytgefhoikpjiamaa.Bv
attribute [local go_sem] max2_int min2_int max_two min_two max_three min_three max_four min_four
set_option linter.unusedVariables false
set_option linter.unusedSimpArgs false
/-- The first of eight places whose operator is op. -/
def findP (T : Nat → Int) (op : Int) : Option Nat := (List.range 8).find? (fun f => T f == op)
theorem findP_at {T : Nat → Int} {op : Int} {j : Nat} (hj : j < 8) (hn : ∀ m, m < j → T m ≠ op) (h : T j = op) : findP T op = some j := by
  unfold findP
  rw [List.find?_eq_some_iff_append]
  refine ⟨by simpa using h, List.range j, (List.range 8).drop (j + 1), ?_, fun m hm => by simpa using hn m (List.mem_range.1 hm)⟩
  have : j = 0 ∨ j = 1 ∨ j = 2 ∨ j = 3 ∨ j = 4 ∨ j = 5 ∨ j = 6 ∨ j = 7 := by omega
  rcases this with rfl | rfl | rfl | rfl | rfl | rfl | rfl | rfl <;> rfl
theorem findP_none {T : Nat → Int} {op : Int} (hn : ∀ m, m < 8 → T m ≠ op) : findP T op = none := by
  unfold findP
  rw [List.find?_eq_none]
  intro m hm
  simpa using hn m (List.mem_range.1 hm)
/-- What find answers. -/
def findA (opc f7 : Int) : Option Nat → Int
  | some _ => opc
  | none => 0
def findB : Option Nat → Int
  | some j => (j : Int)
  | none => 0
def findC (f7 : Int) : Option Nat → Int
  | some _ => f7
  | none => 0
def FindPost (w : World) (a b c : Int) (ok : Bool) (e : Ending) (w' : World) : Prop := e = .returned (.tuple #[.agg #[.int .i64 a, .int .i64 b, .int .i64 c], .bool ok]) ∧ Fr (fun _ => False) w w'
theorem blk3 {w : World} {g : Nat} {t : TypeId} {c0 c1 c2 : Value} (h : Blk w g t #[c0, c1, c2]) (v0 v1 v2 : Value) :
    Blk (((w.setCell ⟨g, 0, none⟩ v0).setCell ⟨g, 1, none⟩ v1).setCell ⟨g, 2, none⟩ v2) g t #[v0, v1, v2] := by
  have e := ((h.set 0 v0).set 1 v1).set 2 v2
  simpa [Blk] using e
theorem fr3 {w w' : World} {g : Nat} (h : Fr (fun _ => False) w w') (hg : w.heap.size ≤ g) (v0 v1 v2 : Value) :
    Fr (fun _ => False) w (((w'.setCell ⟨g, 0, none⟩ v0).setCell ⟨g, 1, none⟩ v1).setCell ⟨g, 2, none⟩ v2) :=
  ((h.setCell (p := ⟨g, 0, none⟩) (.inr hg) v0).setCell (p := ⟨g, 1, none⟩) (.inr hg) v1).setCell (p := ⟨g, 2, none⟩) (.inr hg) v2
def AtFind (T : Nat → Int) (op : Int) (w : World) (g : Nat) (i : Value) (kq : Nat) (wr : World) : Prop := ∃ j : Nat, i = .int .i64 j ∧ j ≤ 8 ∧ 8 - j ≤ kq ∧ (∀ m, m < j → T m ≠ op) ∧ Fr (fun _ => False) w wr ∧ Blk wr g 50 #[.int .i64 0, .int .i64 0, .int .i64 0]
set_option maxHeartbeats 2000000 in
theorem find_loads (op opc f7 : Int) (w : World) :
    Calls Try.prog 60 #[.int .i64 op, .int .i64 opc, .int .i64 f7, .func (.func 58) #[] #[]] w (FindPost w (findA opc f7 (findP (ldT) op)) (findB (findP (ldT) op)) (findC f7 (findP (ldT) op)) (findP (ldT) op).isSome) := by
  have HT := Lib.hid (show ∀ j : Nat, j < 8 → ∀ W, Fr (fun _ => False) w W → Calls Try.prog 58 #[.int .i64 (j : Int)] W fun e w' => e = .returned (.int .i64 (ldT j)) ∧ Fr (fun _ => False) W w' from fun j hj W _ => (loads_any j hj W).mono fun _ _ g => ⟨g.1, Fr.drawn g.2⟩)
  go_enter Try.func60, Try.ntmps60
  go_wp2_with fail
  have HF0 := Lib.hid ((Fr.refl (fun _ => False) w).alloc (.cells #[.int .i64 0, .int .i64 0, .int .i64 0] 50))
  have HB0 := Lib.hid (Blk.new w 50 #[.int .i64 0, .int .i64 0, .int .i64 0])
  go_loopg [11] 8 (fun kq i wr => Hid (AtFind (ldT) op w w.heap.size i kq wr))
  case atStart => exact Lib.hid ⟨0, rfl, by omega, by omega, fun m hm => absurd hm (Nat.not_lt_zero _), HF0.out, HB0.out⟩
  case round =>
    obtain ⟨j, rfl, hj, hkq, hn, hf, hb⟩ := hrel.out
    have HN := Lib.hid hn
    have HF := Lib.hid hf
    have HB := Lib.hid hb
    clear hrel hn hf hb HF0 HB0
    by_cases hj8 : j < 8
    · have t1 : decide ((j : Int) < 8) = true := decide_eq_true (by omega)
      have t1' : decide (j < 8) = true := decide_eq_true (by omega)
      obtain ⟨v, hv⟩ : ∃ v, v = ldT j := ⟨_, rfl⟩
      have HV := Lib.hid hv
      have hc := HT.out j hj8 wr HF.out
      rw [← hv] at hc
      clear hv
      go_wp2_with fail
      refine hc.mono ?_
      clear hc
      rintro e w2 ⟨rfl, hf2⟩
      have HF2 := Lib.hid (HF.out.trans hf2 (fun _ _ => id))
      have HB2 := Lib.hid (HB.out.fr hf2 id)
      clear hf2 HF HB
      by_cases hop : v = op
      · have t2 : (v == op) = true := beq_iff_eq.2 hop
        have hfd := Lib.hid (findP_at hj8 HN.out (HV.out.symm.trans hop))
        clear hop
        obtain ⟨k0, k1, k2⟩ := (show _ ∧ _ ∧ _ from ⟨HB2.out.cell 0, HB2.out.cell 1, HB2.out.cell 2⟩)
        obtain ⟨q0, q1, q2⟩ := (show _ ∧ _ ∧ _ from ⟨HB2.out.frozen 0, HB2.out.frozen 1, HB2.out.frozen 2⟩)
        simp at k0 k1 k2
        go_wp2_with fail
        refine bodyPost_ret (results_ct rfl _ _ w.heap.size 50 #[.int .i64 opc, .int .i64 (j : Int), .int .i64 f7] (0, 0) _ rfl ?_ Try.underlying50 rfl (by kernel_rfl)) rfl ?_
        · exact blk3 HB2.out (.int .i64 opc) (.int .i64 (j : Int)) (.int .i64 f7)
        rw [hfd.out]
        exact ⟨rfl, fr3 HF2.out (Nat.le_refl _) _ _ _⟩
      · have t2 : (v == op) = false := beq_eq_false_iff_ne.2 hop
        have hn2 := Lib.hid (show ∀ m, m < j + 1 → ldT m ≠ op from fun m hm => by
          rcases Nat.lt_succ_iff_lt_or_eq.1 hm with h | h
          · exact HN.out m h
          · subst h; rw [← HV.out]; exact hop)
        clear hop HN
        go_wp2_with fail
        go_roundg (8 - (j + 1))
        case measure => omega
        case rel => exact Lib.hid ⟨j + 1, by go_num, by omega, by omega, hn2.out, HF2.out, HB2.out⟩
    · have t1 : decide ((j : Int) < 8) = false := decide_eq_false (by omega)
      have t1' : decide (j < 8) = false := decide_eq_false (by omega)
      have hfd := Lib.hid (findP_none (T := ldT) (op := op) (fun m hm => HN.out m (by omega)))
      obtain ⟨k0, k1, k2⟩ := (show _ ∧ _ ∧ _ from ⟨HB.out.cell 0, HB.out.cell 1, HB.out.cell 2⟩)
      obtain ⟨q0, q1, q2⟩ := (show _ ∧ _ ∧ _ from ⟨HB.out.frozen 0, HB.out.frozen 1, HB.out.frozen 2⟩)
      simp at k0 k1 k2
      clear HN
      go_wp2_with fail
      refine bodyPost_ret (results_ct rfl _ _ w.heap.size 50 #[.int .i64 0, .int .i64 0, .int .i64 0] (0, 0) _ rfl ?_ Try.underlying50 rfl (by kernel_rfl)) rfl ?_
      · exact blk3 HB.out (.int .i64 0) (.int .i64 0) (.int .i64 0)
      rw [hfd.out]
      exact ⟨rfl, fr3 HF.out (Nat.le_refl _) _ _ _⟩
theorem find_loads_yes (op opc f7 : Int) (w : World)  (j : Nat) (h : findP (ldT) op = some j) :
    Calls Try.prog 60 #[.int .i64 op, .int .i64 opc, .int .i64 f7, .func (.func 58) #[] #[]] w (FindPost w opc (j : Int) f7 true) := by
  have e := find_loads  op opc f7 w 
  rw [h] at e
  exact e
theorem find_loads_no (op opc f7 : Int) (w : World)  (h : findP (ldT) op = none) :
    Calls Try.prog 60 #[.int .i64 op, .int .i64 opc, .int .i64 f7, .func (.func 58) #[] #[]] w (FindPost w 0 0 0 false) := by
  have e := find_loads  op opc f7 w 
  rw [h] at e
  exact e
set_option maxHeartbeats 2000000 in
theorem find_plainImm (op opc f7 : Int) (w : World) :
    Calls Try.prog 60 #[.int .i64 op, .int .i64 opc, .int .i64 f7, .func (.func 59) #[] #[]] w (FindPost w (findA opc f7 (findP (piT) op)) (findB (findP (piT) op)) (findC f7 (findP (piT) op)) (findP (piT) op).isSome) := by
  have HT := Lib.hid (show ∀ j : Nat, j < 8 → ∀ W, Fr (fun _ => False) w W → Calls Try.prog 59 #[.int .i64 (j : Int)] W fun e w' => e = .returned (.int .i64 (piT j)) ∧ Fr (fun _ => False) W w' from fun j hj W _ => (plainImm_any j hj W).mono fun _ _ g => ⟨g.1, Fr.drawn g.2⟩)
  go_enter Try.func60, Try.ntmps60
  go_wp2_with fail
  have HF0 := Lib.hid ((Fr.refl (fun _ => False) w).alloc (.cells #[.int .i64 0, .int .i64 0, .int .i64 0] 50))
  have HB0 := Lib.hid (Blk.new w 50 #[.int .i64 0, .int .i64 0, .int .i64 0])
  go_loopg [11] 8 (fun kq i wr => Hid (AtFind (piT) op w w.heap.size i kq wr))
  case atStart => exact Lib.hid ⟨0, rfl, by omega, by omega, fun m hm => absurd hm (Nat.not_lt_zero _), HF0.out, HB0.out⟩
  case round =>
    obtain ⟨j, rfl, hj, hkq, hn, hf, hb⟩ := hrel.out
    have HN := Lib.hid hn
    have HF := Lib.hid hf
    have HB := Lib.hid hb
    clear hrel hn hf hb HF0 HB0
    by_cases hj8 : j < 8
    · have t1 : decide ((j : Int) < 8) = true := decide_eq_true (by omega)
      have t1' : decide (j < 8) = true := decide_eq_true (by omega)
      obtain ⟨v, hv⟩ : ∃ v, v = piT j := ⟨_, rfl⟩
      have HV := Lib.hid hv
      have hc := HT.out j hj8 wr HF.out
      rw [← hv] at hc
      clear hv
      go_wp2_with fail
      refine hc.mono ?_
      clear hc
      rintro e w2 ⟨rfl, hf2⟩
      have HF2 := Lib.hid (HF.out.trans hf2 (fun _ _ => id))
      have HB2 := Lib.hid (HB.out.fr hf2 id)
      clear hf2 HF HB
      by_cases hop : v = op
      · have t2 : (v == op) = true := beq_iff_eq.2 hop
        have hfd := Lib.hid (findP_at hj8 HN.out (HV.out.symm.trans hop))
        clear hop
        obtain ⟨k0, k1, k2⟩ := (show _ ∧ _ ∧ _ from ⟨HB2.out.cell 0, HB2.out.cell 1, HB2.out.cell 2⟩)
        obtain ⟨q0, q1, q2⟩ := (show _ ∧ _ ∧ _ from ⟨HB2.out.frozen 0, HB2.out.frozen 1, HB2.out.frozen 2⟩)
        simp at k0 k1 k2
        go_wp2_with fail
        refine bodyPost_ret (results_ct rfl _ _ w.heap.size 50 #[.int .i64 opc, .int .i64 (j : Int), .int .i64 f7] (0, 0) _ rfl ?_ Try.underlying50 rfl (by kernel_rfl)) rfl ?_
        · exact blk3 HB2.out (.int .i64 opc) (.int .i64 (j : Int)) (.int .i64 f7)
        rw [hfd.out]
        exact ⟨rfl, fr3 HF2.out (Nat.le_refl _) _ _ _⟩
      · have t2 : (v == op) = false := beq_eq_false_iff_ne.2 hop
        have hn2 := Lib.hid (show ∀ m, m < j + 1 → piT m ≠ op from fun m hm => by
          rcases Nat.lt_succ_iff_lt_or_eq.1 hm with h | h
          · exact HN.out m h
          · subst h; rw [← HV.out]; exact hop)
        clear hop HN
        go_wp2_with fail
        go_roundg (8 - (j + 1))
        case measure => omega
        case rel => exact Lib.hid ⟨j + 1, by go_num, by omega, by omega, hn2.out, HF2.out, HB2.out⟩
    · have t1 : decide ((j : Int) < 8) = false := decide_eq_false (by omega)
      have t1' : decide (j < 8) = false := decide_eq_false (by omega)
      have hfd := Lib.hid (findP_none (T := piT) (op := op) (fun m hm => HN.out m (by omega)))
      obtain ⟨k0, k1, k2⟩ := (show _ ∧ _ ∧ _ from ⟨HB.out.cell 0, HB.out.cell 1, HB.out.cell 2⟩)
      obtain ⟨q0, q1, q2⟩ := (show _ ∧ _ ∧ _ from ⟨HB.out.frozen 0, HB.out.frozen 1, HB.out.frozen 2⟩)
      simp at k0 k1 k2
      clear HN
      go_wp2_with fail
      refine bodyPost_ret (results_ct rfl _ _ w.heap.size 50 #[.int .i64 0, .int .i64 0, .int .i64 0] (0, 0) _ rfl ?_ Try.underlying50 rfl (by kernel_rfl)) rfl ?_
      · exact blk3 HB.out (.int .i64 0) (.int .i64 0) (.int .i64 0)
      rw [hfd.out]
      exact ⟨rfl, fr3 HF.out (Nat.le_refl _) _ _ _⟩
theorem find_plainImm_yes (op opc f7 : Int) (w : World)  (j : Nat) (h : findP (piT) op = some j) :
    Calls Try.prog 60 #[.int .i64 op, .int .i64 opc, .int .i64 f7, .func (.func 59) #[] #[]] w (FindPost w opc (j : Int) f7 true) := by
  have e := find_plainImm  op opc f7 w 
  rw [h] at e
  exact e
theorem find_plainImm_no (op opc f7 : Int) (w : World)  (h : findP (piT) op = none) :
    Calls Try.prog 60 #[.int .i64 op, .int .i64 opc, .int .i64 f7, .func (.func 59) #[] #[]] w (FindPost w 0 0 0 false) := by
  have e := find_plainImm  op opc f7 w 
  rw [h] at e
  exact e
set_option maxHeartbeats 2000000 in
theorem find_branches (op opc f7 : Int) (w : World) :
    Calls Try.prog 60 #[.int .i64 op, .int .i64 opc, .int .i64 f7, .func (.func 47) #[] #[]] w (FindPost w (findA opc f7 (findP (brT) op)) (findB (findP (brT) op)) (findC f7 (findP (brT) op)) (findP (brT) op).isSome) := by
  have HT := Lib.hid (show ∀ j : Nat, j < 8 → ∀ W, Fr (fun _ => False) w W → Calls Try.prog 47 #[.int .i64 (j : Int)] W fun e w' => e = .returned (.int .i64 (brT j)) ∧ Fr (fun _ => False) W w' from fun j hj W _ => (branches_any j hj W).mono fun _ _ g => ⟨g.1, Fr.drawn g.2⟩)
  go_enter Try.func60, Try.ntmps60
  go_wp2_with fail
  have HF0 := Lib.hid ((Fr.refl (fun _ => False) w).alloc (.cells #[.int .i64 0, .int .i64 0, .int .i64 0] 50))
  have HB0 := Lib.hid (Blk.new w 50 #[.int .i64 0, .int .i64 0, .int .i64 0])
  go_loopg [11] 8 (fun kq i wr => Hid (AtFind (brT) op w w.heap.size i kq wr))
  case atStart => exact Lib.hid ⟨0, rfl, by omega, by omega, fun m hm => absurd hm (Nat.not_lt_zero _), HF0.out, HB0.out⟩
  case round =>
    obtain ⟨j, rfl, hj, hkq, hn, hf, hb⟩ := hrel.out
    have HN := Lib.hid hn
    have HF := Lib.hid hf
    have HB := Lib.hid hb
    clear hrel hn hf hb HF0 HB0
    by_cases hj8 : j < 8
    · have t1 : decide ((j : Int) < 8) = true := decide_eq_true (by omega)
      have t1' : decide (j < 8) = true := decide_eq_true (by omega)
      obtain ⟨v, hv⟩ : ∃ v, v = brT j := ⟨_, rfl⟩
      have HV := Lib.hid hv
      have hc := HT.out j hj8 wr HF.out
      rw [← hv] at hc
      clear hv
      go_wp2_with fail
      refine hc.mono ?_
      clear hc
      rintro e w2 ⟨rfl, hf2⟩
      have HF2 := Lib.hid (HF.out.trans hf2 (fun _ _ => id))
      have HB2 := Lib.hid (HB.out.fr hf2 id)
      clear hf2 HF HB
      by_cases hop : v = op
      · have t2 : (v == op) = true := beq_iff_eq.2 hop
        have hfd := Lib.hid (findP_at hj8 HN.out (HV.out.symm.trans hop))
        clear hop
        obtain ⟨k0, k1, k2⟩ := (show _ ∧ _ ∧ _ from ⟨HB2.out.cell 0, HB2.out.cell 1, HB2.out.cell 2⟩)
        obtain ⟨q0, q1, q2⟩ := (show _ ∧ _ ∧ _ from ⟨HB2.out.frozen 0, HB2.out.frozen 1, HB2.out.frozen 2⟩)
        simp at k0 k1 k2
        go_wp2_with fail
        refine bodyPost_ret (results_ct rfl _ _ w.heap.size 50 #[.int .i64 opc, .int .i64 (j : Int), .int .i64 f7] (0, 0) _ rfl ?_ Try.underlying50 rfl (by kernel_rfl)) rfl ?_
        · exact blk3 HB2.out (.int .i64 opc) (.int .i64 (j : Int)) (.int .i64 f7)
        rw [hfd.out]
        exact ⟨rfl, fr3 HF2.out (Nat.le_refl _) _ _ _⟩
      · have t2 : (v == op) = false := beq_eq_false_iff_ne.2 hop
        have hn2 := Lib.hid (show ∀ m, m < j + 1 → brT m ≠ op from fun m hm => by
          rcases Nat.lt_succ_iff_lt_or_eq.1 hm with h | h
          · exact HN.out m h
          · subst h; rw [← HV.out]; exact hop)
        clear hop HN
        go_wp2_with fail
        go_roundg (8 - (j + 1))
        case measure => omega
        case rel => exact Lib.hid ⟨j + 1, by go_num, by omega, by omega, hn2.out, HF2.out, HB2.out⟩
    · have t1 : decide ((j : Int) < 8) = false := decide_eq_false (by omega)
      have t1' : decide (j < 8) = false := decide_eq_false (by omega)
      have hfd := Lib.hid (findP_none (T := brT) (op := op) (fun m hm => HN.out m (by omega)))
      obtain ⟨k0, k1, k2⟩ := (show _ ∧ _ ∧ _ from ⟨HB.out.cell 0, HB.out.cell 1, HB.out.cell 2⟩)
      obtain ⟨q0, q1, q2⟩ := (show _ ∧ _ ∧ _ from ⟨HB.out.frozen 0, HB.out.frozen 1, HB.out.frozen 2⟩)
      simp at k0 k1 k2
      clear HN
      go_wp2_with fail
      refine bodyPost_ret (results_ct rfl _ _ w.heap.size 50 #[.int .i64 0, .int .i64 0, .int .i64 0] (0, 0) _ rfl ?_ Try.underlying50 rfl (by kernel_rfl)) rfl ?_
      · exact blk3 HB.out (.int .i64 0) (.int .i64 0) (.int .i64 0)
      rw [hfd.out]
      exact ⟨rfl, fr3 HF.out (Nat.le_refl _) _ _ _⟩
theorem find_branches_yes (op opc f7 : Int) (w : World)  (j : Nat) (h : findP (brT) op = some j) :
    Calls Try.prog 60 #[.int .i64 op, .int .i64 opc, .int .i64 f7, .func (.func 47) #[] #[]] w (FindPost w opc (j : Int) f7 true) := by
  have e := find_branches  op opc f7 w 
  rw [h] at e
  exact e
theorem find_branches_no (op opc f7 : Int) (w : World)  (h : findP (brT) op = none) :
    Calls Try.prog 60 #[.int .i64 op, .int .i64 opc, .int .i64 f7, .func (.func 47) #[] #[]] w (FindPost w 0 0 0 false) := by
  have e := find_branches  op opc f7 w 
  rw [h] at e
  exact e
set_option maxHeartbeats 2000000 in
theorem find_stores (op opc f7 : Int) (w : World) :
    Calls Try.prog 60 #[.int .i64 op, .int .i64 opc, .int .i64 f7, .func (.func 49) #[] #[]] w (FindPost w (findA opc f7 (findP (stT) op)) (findB (findP (stT) op)) (findC f7 (findP (stT) op)) (findP (stT) op).isSome) := by
  have HT := Lib.hid (show ∀ j : Nat, j < 8 → ∀ W, Fr (fun _ => False) w W → Calls Try.prog 49 #[.int .i64 (j : Int)] W fun e w' => e = .returned (.int .i64 (stT j)) ∧ Fr (fun _ => False) W w' from fun j hj W _ => (stores_any j hj W).mono fun _ _ g => ⟨g.1, Fr.drawn g.2⟩)
  go_enter Try.func60, Try.ntmps60
  go_wp2_with fail
  have HF0 := Lib.hid ((Fr.refl (fun _ => False) w).alloc (.cells #[.int .i64 0, .int .i64 0, .int .i64 0] 50))
  have HB0 := Lib.hid (Blk.new w 50 #[.int .i64 0, .int .i64 0, .int .i64 0])
  go_loopg [11] 8 (fun kq i wr => Hid (AtFind (stT) op w w.heap.size i kq wr))
  case atStart => exact Lib.hid ⟨0, rfl, by omega, by omega, fun m hm => absurd hm (Nat.not_lt_zero _), HF0.out, HB0.out⟩
  case round =>
    obtain ⟨j, rfl, hj, hkq, hn, hf, hb⟩ := hrel.out
    have HN := Lib.hid hn
    have HF := Lib.hid hf
    have HB := Lib.hid hb
    clear hrel hn hf hb HF0 HB0
    by_cases hj8 : j < 8
    · have t1 : decide ((j : Int) < 8) = true := decide_eq_true (by omega)
      have t1' : decide (j < 8) = true := decide_eq_true (by omega)
      obtain ⟨v, hv⟩ : ∃ v, v = stT j := ⟨_, rfl⟩
      have HV := Lib.hid hv
      have hc := HT.out j hj8 wr HF.out
      rw [← hv] at hc
      clear hv
      go_wp2_with fail
      refine hc.mono ?_
      clear hc
      rintro e w2 ⟨rfl, hf2⟩
      have HF2 := Lib.hid (HF.out.trans hf2 (fun _ _ => id))
      have HB2 := Lib.hid (HB.out.fr hf2 id)
      clear hf2 HF HB
      by_cases hop : v = op
      · have t2 : (v == op) = true := beq_iff_eq.2 hop
        have hfd := Lib.hid (findP_at hj8 HN.out (HV.out.symm.trans hop))
        clear hop
        obtain ⟨k0, k1, k2⟩ := (show _ ∧ _ ∧ _ from ⟨HB2.out.cell 0, HB2.out.cell 1, HB2.out.cell 2⟩)
        obtain ⟨q0, q1, q2⟩ := (show _ ∧ _ ∧ _ from ⟨HB2.out.frozen 0, HB2.out.frozen 1, HB2.out.frozen 2⟩)
        simp at k0 k1 k2
        go_wp2_with fail
        refine bodyPost_ret (results_ct rfl _ _ w.heap.size 50 #[.int .i64 opc, .int .i64 (j : Int), .int .i64 f7] (0, 0) _ rfl ?_ Try.underlying50 rfl (by kernel_rfl)) rfl ?_
        · exact blk3 HB2.out (.int .i64 opc) (.int .i64 (j : Int)) (.int .i64 f7)
        rw [hfd.out]
        exact ⟨rfl, fr3 HF2.out (Nat.le_refl _) _ _ _⟩
      · have t2 : (v == op) = false := beq_eq_false_iff_ne.2 hop
        have hn2 := Lib.hid (show ∀ m, m < j + 1 → stT m ≠ op from fun m hm => by
          rcases Nat.lt_succ_iff_lt_or_eq.1 hm with h | h
          · exact HN.out m h
          · subst h; rw [← HV.out]; exact hop)
        clear hop HN
        go_wp2_with fail
        go_roundg (8 - (j + 1))
        case measure => omega
        case rel => exact Lib.hid ⟨j + 1, by go_num, by omega, by omega, hn2.out, HF2.out, HB2.out⟩
    · have t1 : decide ((j : Int) < 8) = false := decide_eq_false (by omega)
      have t1' : decide (j < 8) = false := decide_eq_false (by omega)
      have hfd := Lib.hid (findP_none (T := stT) (op := op) (fun m hm => HN.out m (by omega)))
      obtain ⟨k0, k1, k2⟩ := (show _ ∧ _ ∧ _ from ⟨HB.out.cell 0, HB.out.cell 1, HB.out.cell 2⟩)
      obtain ⟨q0, q1, q2⟩ := (show _ ∧ _ ∧ _ from ⟨HB.out.frozen 0, HB.out.frozen 1, HB.out.frozen 2⟩)
      simp at k0 k1 k2
      clear HN
      go_wp2_with fail
      refine bodyPost_ret (results_ct rfl _ _ w.heap.size 50 #[.int .i64 0, .int .i64 0, .int .i64 0] (0, 0) _ rfl ?_ Try.underlying50 rfl (by kernel_rfl)) rfl ?_
      · exact blk3 HB.out (.int .i64 0) (.int .i64 0) (.int .i64 0)
      rw [hfd.out]
      exact ⟨rfl, fr3 HF.out (Nat.le_refl _) _ _ _⟩
theorem find_stores_yes (op opc f7 : Int) (w : World)  (j : Nat) (h : findP (stT) op = some j) :
    Calls Try.prog 60 #[.int .i64 op, .int .i64 opc, .int .i64 f7, .func (.func 49) #[] #[]] w (FindPost w opc (j : Int) f7 true) := by
  have e := find_stores  op opc f7 w 
  rw [h] at e
  exact e
theorem find_stores_no (op opc f7 : Int) (w : World)  (h : findP (stT) op = none) :
    Calls Try.prog 60 #[.int .i64 op, .int .i64 opc, .int .i64 f7, .func (.func 49) #[] #[]] w (FindPost w 0 0 0 false) := by
  have e := find_stores  op opc f7 w 
  rw [h] at e
  exact e
theorem clos1 (b7 f : Nat) (hf : f < 8) (gb : Nat) (w : World) (hb : Blk w gb 3 #[.int .i64 (b7 : Int)]) :
    Calls Try.prog 62 #[.int .i64 (f : Int), .pointer (some ⟨gb, 0, none⟩)] w fun e w' => e = .returned (.int .i64 (regT b7 f)) ∧ Fr (fun _ => False) w w' := by
  have k0 := hb.cell 0
  simp at k0
  have HC := Lib.hid (regOp_any b7 f hf w)
  clear hb
  obtain ⟨v, hv⟩ : ∃ v, v = regT b7 f := ⟨_, rfl⟩
  rw [← hv] at HC ⊢
  clear hv
  go_enter Try.func62, Try.ntmps62
  go_wp2_with fail
  refine HC.out.mono ?_
  rintro e w2 ⟨rfl, hd⟩
  have HF := Lib.hid (Fr.drawn (S := fun _ => False) hd)
  clear hd
  go_wp2_with fail
  go_ret
  exact ⟨rfl, HF.out⟩
set_option maxHeartbeats 2000000 in
theorem find_regOp (b7 gb : Nat) (op opc f7 : Int) (w : World) (hgb : Blk w gb 3 #[.int .i64 (b7 : Int)]):
    Calls Try.prog 60 #[.int .i64 op, .int .i64 opc, .int .i64 f7, .func (.func 62) #[] #[.pointer (some ⟨gb, 0, none⟩)]] w (FindPost w (findA opc f7 (findP (regT b7) op)) (findB (findP (regT b7) op)) (findC f7 (findP (regT b7) op)) (findP (regT b7) op).isSome) := by
  have HT := Lib.hid (show ∀ j : Nat, j < 8 → ∀ W, Fr (fun _ => False) w W → Calls Try.prog 62 #[.int .i64 (j : Int), .pointer (some ⟨gb, 0, none⟩)] W fun e w' => e = .returned (.int .i64 (regT b7 j)) ∧ Fr (fun _ => False) W w' from fun j hj W hfr => clos1 b7 j hj gb W (hgb.fr hfr id))
  go_enter Try.func60, Try.ntmps60
  go_wp2_with fail
  have HF0 := Lib.hid ((Fr.refl (fun _ => False) w).alloc (.cells #[.int .i64 0, .int .i64 0, .int .i64 0] 50))
  have HB0 := Lib.hid (Blk.new w 50 #[.int .i64 0, .int .i64 0, .int .i64 0])
  go_loopg [11] 8 (fun kq i wr => Hid (AtFind (regT b7) op w w.heap.size i kq wr))
  case atStart => exact Lib.hid ⟨0, rfl, by omega, by omega, fun m hm => absurd hm (Nat.not_lt_zero _), HF0.out, HB0.out⟩
  case round =>
    obtain ⟨j, rfl, hj, hkq, hn, hf, hb⟩ := hrel.out
    have HN := Lib.hid hn
    have HF := Lib.hid hf
    have HB := Lib.hid hb
    clear hrel hn hf hb HF0 HB0
    by_cases hj8 : j < 8
    · have t1 : decide ((j : Int) < 8) = true := decide_eq_true (by omega)
      have t1' : decide (j < 8) = true := decide_eq_true (by omega)
      obtain ⟨v, hv⟩ : ∃ v, v = regT b7 j := ⟨_, rfl⟩
      have HV := Lib.hid hv
      have hc := HT.out j hj8 wr HF.out
      rw [← hv] at hc
      clear hv
      go_wp2_with fail
      refine hc.mono ?_
      clear hc
      rintro e w2 ⟨rfl, hf2⟩
      have HF2 := Lib.hid (HF.out.trans hf2 (fun _ _ => id))
      have HB2 := Lib.hid (HB.out.fr hf2 id)
      clear hf2 HF HB
      by_cases hop : v = op
      · have t2 : (v == op) = true := beq_iff_eq.2 hop
        have hfd := Lib.hid (findP_at hj8 HN.out (HV.out.symm.trans hop))
        clear hop
        obtain ⟨k0, k1, k2⟩ := (show _ ∧ _ ∧ _ from ⟨HB2.out.cell 0, HB2.out.cell 1, HB2.out.cell 2⟩)
        obtain ⟨q0, q1, q2⟩ := (show _ ∧ _ ∧ _ from ⟨HB2.out.frozen 0, HB2.out.frozen 1, HB2.out.frozen 2⟩)
        simp at k0 k1 k2
        go_wp2_with fail
        refine bodyPost_ret (results_ct rfl _ _ w.heap.size 50 #[.int .i64 opc, .int .i64 (j : Int), .int .i64 f7] (0, 0) _ rfl ?_ Try.underlying50 rfl (by kernel_rfl)) rfl ?_
        · exact blk3 HB2.out (.int .i64 opc) (.int .i64 (j : Int)) (.int .i64 f7)
        rw [hfd.out]
        exact ⟨rfl, fr3 HF2.out (Nat.le_refl _) _ _ _⟩
      · have t2 : (v == op) = false := beq_eq_false_iff_ne.2 hop
        have hn2 := Lib.hid (show ∀ m, m < j + 1 → regT b7 m ≠ op from fun m hm => by
          rcases Nat.lt_succ_iff_lt_or_eq.1 hm with h | h
          · exact HN.out m h
          · subst h; rw [← HV.out]; exact hop)
        clear hop HN
        go_wp2_with fail
        go_roundg (8 - (j + 1))
        case measure => omega
        case rel => exact Lib.hid ⟨j + 1, by go_num, by omega, by omega, hn2.out, HF2.out, HB2.out⟩
    · have t1 : decide ((j : Int) < 8) = false := decide_eq_false (by omega)
      have t1' : decide (j < 8) = false := decide_eq_false (by omega)
      have hfd := Lib.hid (findP_none (T := regT b7) (op := op) (fun m hm => HN.out m (by omega)))
      obtain ⟨k0, k1, k2⟩ := (show _ ∧ _ ∧ _ from ⟨HB.out.cell 0, HB.out.cell 1, HB.out.cell 2⟩)
      obtain ⟨q0, q1, q2⟩ := (show _ ∧ _ ∧ _ from ⟨HB.out.frozen 0, HB.out.frozen 1, HB.out.frozen 2⟩)
      simp at k0 k1 k2
      clear HN
      go_wp2_with fail
      refine bodyPost_ret (results_ct rfl _ _ w.heap.size 50 #[.int .i64 0, .int .i64 0, .int .i64 0] (0, 0) _ rfl ?_ Try.underlying50 rfl (by kernel_rfl)) rfl ?_
      · exact blk3 HB.out (.int .i64 0) (.int .i64 0) (.int .i64 0)
      rw [hfd.out]
      exact ⟨rfl, fr3 HF.out (Nat.le_refl _) _ _ _⟩
theorem find_regOp_yes (b7 gb : Nat) (op opc f7 : Int) (w : World) (hgb : Blk w gb 3 #[.int .i64 (b7 : Int)]) (j : Nat) (h : findP (regT b7) op = some j) :
    Calls Try.prog 60 #[.int .i64 op, .int .i64 opc, .int .i64 f7, .func (.func 62) #[] #[.pointer (some ⟨gb, 0, none⟩)]] w (FindPost w opc (j : Int) f7 true) := by
  have e := find_regOp b7 gb op opc f7 w hgb
  rw [h] at e
  exact e
theorem find_regOp_no (b7 gb : Nat) (op opc f7 : Int) (w : World) (hgb : Blk w gb 3 #[.int .i64 (b7 : Int)]) (h : findP (regT b7) op = none) :
    Calls Try.prog 60 #[.int .i64 op, .int .i64 opc, .int .i64 f7, .func (.func 62) #[] #[.pointer (some ⟨gb, 0, none⟩)]] w (FindPost w 0 0 0 false) := by
  have e := find_regOp b7 gb op opc f7 w hgb
  rw [h] at e
  exact e
theorem clos2 (b7 f : Nat) (hf : f < 8) (gb : Nat) (w : World) (hb : Blk w gb 3 #[.int .i64 (b7 : Int)]) :
    Calls Try.prog 63 #[.int .i64 (f : Int), .pointer (some ⟨gb, 0, none⟩)] w fun e w' => e = .returned (.int .i64 (r32T b7 f)) ∧ Fr (fun _ => False) w w' := by
  have k0 := hb.cell 0
  simp at k0
  have HC := Lib.hid (reg32Op_any b7 f hf w)
  clear hb
  obtain ⟨v, hv⟩ : ∃ v, v = r32T b7 f := ⟨_, rfl⟩
  rw [← hv] at HC ⊢
  clear hv
  go_enter Try.func63, Try.ntmps63
  go_wp2_with fail
  refine HC.out.mono ?_
  rintro e w2 ⟨rfl, hd⟩
  have HF := Lib.hid (Fr.drawn (S := fun _ => False) hd)
  clear hd
  go_wp2_with fail
  go_ret
  exact ⟨rfl, HF.out⟩
set_option maxHeartbeats 2000000 in
theorem find_reg32Op (b7 gb : Nat) (op opc f7 : Int) (w : World) (hgb : Blk w gb 3 #[.int .i64 (b7 : Int)]):
    Calls Try.prog 60 #[.int .i64 op, .int .i64 opc, .int .i64 f7, .func (.func 63) #[] #[.pointer (some ⟨gb, 0, none⟩)]] w (FindPost w (findA opc f7 (findP (r32T b7) op)) (findB (findP (r32T b7) op)) (findC f7 (findP (r32T b7) op)) (findP (r32T b7) op).isSome) := by
  have HT := Lib.hid (show ∀ j : Nat, j < 8 → ∀ W, Fr (fun _ => False) w W → Calls Try.prog 63 #[.int .i64 (j : Int), .pointer (some ⟨gb, 0, none⟩)] W fun e w' => e = .returned (.int .i64 (r32T b7 j)) ∧ Fr (fun _ => False) W w' from fun j hj W hfr => clos2 b7 j hj gb W (hgb.fr hfr id))
  go_enter Try.func60, Try.ntmps60
  go_wp2_with fail
  have HF0 := Lib.hid ((Fr.refl (fun _ => False) w).alloc (.cells #[.int .i64 0, .int .i64 0, .int .i64 0] 50))
  have HB0 := Lib.hid (Blk.new w 50 #[.int .i64 0, .int .i64 0, .int .i64 0])
  go_loopg [11] 8 (fun kq i wr => Hid (AtFind (r32T b7) op w w.heap.size i kq wr))
  case atStart => exact Lib.hid ⟨0, rfl, by omega, by omega, fun m hm => absurd hm (Nat.not_lt_zero _), HF0.out, HB0.out⟩
  case round =>
    obtain ⟨j, rfl, hj, hkq, hn, hf, hb⟩ := hrel.out
    have HN := Lib.hid hn
    have HF := Lib.hid hf
    have HB := Lib.hid hb
    clear hrel hn hf hb HF0 HB0
    by_cases hj8 : j < 8
    · have t1 : decide ((j : Int) < 8) = true := decide_eq_true (by omega)
      have t1' : decide (j < 8) = true := decide_eq_true (by omega)
      obtain ⟨v, hv⟩ : ∃ v, v = r32T b7 j := ⟨_, rfl⟩
      have HV := Lib.hid hv
      have hc := HT.out j hj8 wr HF.out
      rw [← hv] at hc
      clear hv
      go_wp2_with fail
      refine hc.mono ?_
      clear hc
      rintro e w2 ⟨rfl, hf2⟩
      have HF2 := Lib.hid (HF.out.trans hf2 (fun _ _ => id))
      have HB2 := Lib.hid (HB.out.fr hf2 id)
      clear hf2 HF HB
      by_cases hop : v = op
      · have t2 : (v == op) = true := beq_iff_eq.2 hop
        have hfd := Lib.hid (findP_at hj8 HN.out (HV.out.symm.trans hop))
        clear hop
        obtain ⟨k0, k1, k2⟩ := (show _ ∧ _ ∧ _ from ⟨HB2.out.cell 0, HB2.out.cell 1, HB2.out.cell 2⟩)
        obtain ⟨q0, q1, q2⟩ := (show _ ∧ _ ∧ _ from ⟨HB2.out.frozen 0, HB2.out.frozen 1, HB2.out.frozen 2⟩)
        simp at k0 k1 k2
        go_wp2_with fail
        refine bodyPost_ret (results_ct rfl _ _ w.heap.size 50 #[.int .i64 opc, .int .i64 (j : Int), .int .i64 f7] (0, 0) _ rfl ?_ Try.underlying50 rfl (by kernel_rfl)) rfl ?_
        · exact blk3 HB2.out (.int .i64 opc) (.int .i64 (j : Int)) (.int .i64 f7)
        rw [hfd.out]
        exact ⟨rfl, fr3 HF2.out (Nat.le_refl _) _ _ _⟩
      · have t2 : (v == op) = false := beq_eq_false_iff_ne.2 hop
        have hn2 := Lib.hid (show ∀ m, m < j + 1 → r32T b7 m ≠ op from fun m hm => by
          rcases Nat.lt_succ_iff_lt_or_eq.1 hm with h | h
          · exact HN.out m h
          · subst h; rw [← HV.out]; exact hop)
        clear hop HN
        go_wp2_with fail
        go_roundg (8 - (j + 1))
        case measure => omega
        case rel => exact Lib.hid ⟨j + 1, by go_num, by omega, by omega, hn2.out, HF2.out, HB2.out⟩
    · have t1 : decide ((j : Int) < 8) = false := decide_eq_false (by omega)
      have t1' : decide (j < 8) = false := decide_eq_false (by omega)
      have hfd := Lib.hid (findP_none (T := r32T b7) (op := op) (fun m hm => HN.out m (by omega)))
      obtain ⟨k0, k1, k2⟩ := (show _ ∧ _ ∧ _ from ⟨HB.out.cell 0, HB.out.cell 1, HB.out.cell 2⟩)
      obtain ⟨q0, q1, q2⟩ := (show _ ∧ _ ∧ _ from ⟨HB.out.frozen 0, HB.out.frozen 1, HB.out.frozen 2⟩)
      simp at k0 k1 k2
      clear HN
      go_wp2_with fail
      refine bodyPost_ret (results_ct rfl _ _ w.heap.size 50 #[.int .i64 0, .int .i64 0, .int .i64 0] (0, 0) _ rfl ?_ Try.underlying50 rfl (by kernel_rfl)) rfl ?_
      · exact blk3 HB.out (.int .i64 0) (.int .i64 0) (.int .i64 0)
      rw [hfd.out]
      exact ⟨rfl, fr3 HF.out (Nat.le_refl _) _ _ _⟩
theorem find_reg32Op_yes (b7 gb : Nat) (op opc f7 : Int) (w : World) (hgb : Blk w gb 3 #[.int .i64 (b7 : Int)]) (j : Nat) (h : findP (r32T b7) op = some j) :
    Calls Try.prog 60 #[.int .i64 op, .int .i64 opc, .int .i64 f7, .func (.func 63) #[] #[.pointer (some ⟨gb, 0, none⟩)]] w (FindPost w opc (j : Int) f7 true) := by
  have e := find_reg32Op b7 gb op opc f7 w hgb
  rw [h] at e
  exact e
theorem find_reg32Op_no (b7 gb : Nat) (op opc f7 : Int) (w : World) (hgb : Blk w gb 3 #[.int .i64 (b7 : Int)]) (h : findP (r32T b7) op = none) :
    Calls Try.prog 60 #[.int .i64 op, .int .i64 opc, .int .i64 f7, .func (.func 63) #[] #[.pointer (some ⟨gb, 0, none⟩)]] w (FindPost w 0 0 0 false) := by
  have e := find_reg32Op b7 gb op opc f7 w hgb
  rw [h] at e
  exact e
end Go.Proofs.Ytgefhoikpjiamaa.Ins
