/- A signals' state: Change and Enter, walked; SetAction and Action in one form. -/
import Derived.Test.YtdlcejnkicdjnaaDoorSgQ
namespace Go.Proofs.YtdlcejnkicdjnaaDoor.Sg
open Go Go.RowKit Go.Proofs.YtdlcejnkicdjnaaDoorW.PrintWords Go.Proofs.YtdlcejnkicdjnaaDoorW.PrintLast Go.Proofs.YtdlcejnkicdjnaaDoorW.PrintMore
open Go.Proofs.YtdlcejnkicdjnaaDoor.Hp Go.Proofs.YtdlcejnkicdjnaaDoor.Bv
attribute [local go_sem] max2_int min2_int max_two min_two max_three min_three max_four min_four
attribute [local go_sem] wrap_add wrap_sub wrap_mul wrap_neg and_U or_U xor_U andNot_U wrap_U
set_option linter.unusedVariables false
set_option linter.unusedSimpArgs false
/-- What Change makes of the mask. -/
def chM (how : Int) (M X : BitVec 64) : BitVec 64 := if how = 0 then keepZ (M ||| X) else if how = 1 then keepZ (M &&& ~~~X) else if how = 2 then keepZ X else M
def chE (how : Int) : Int := if 0 ≤ how ∧ how ≤ 2 then 0 else 22
theorem change_any {g : Nat} {A : Nat → Int} {M P x y : BitVec 64} (how : Int) (X : BitVec 64) (w : World) (h : St w g A M P x y) : Calls Tryd.prog 18 #[.pointer (some ⟨g, 0, none⟩), .int .i64 how, .int .u64 (U X)] w fun e w' => e = .returned (.int .i64 (chE how)) ∧ St w' g A (chM how M X) P x y ∧ Fr (fun k => k = g) w w' := by
  have HB := Lib.hid h
  have k1 := h.m
  clear h
  by_cases h0 : how = 0
  · subst h0
    go_enter Tryd.func18, Tryd.ntmps18
    go_wp2_with fail
    refine (setmask_any (M ||| X) _ HB.out).mono ?_
    rintro e w1 ⟨rfl, hs, hf⟩
    go_wp2_with fail
    go_ret
    exact ⟨rfl, hs, hf⟩
  by_cases h1 : how = 1
  · subst h1
    clear h0
    go_enter Tryd.func18, Tryd.ntmps18
    go_wp2_with fail
    refine (setmask_any (M &&& ~~~X) _ HB.out).mono ?_
    rintro e w1 ⟨rfl, hs, hf⟩
    go_wp2_with fail
    go_ret
    exact ⟨rfl, hs, hf⟩
  by_cases h2 : how = 2
  · subst h2
    clear h0 h1
    go_enter Tryd.func18, Tryd.ntmps18
    go_wp2_with fail
    refine (setmask_any X _ HB.out).mono ?_
    rintro e w1 ⟨rfl, hs, hf⟩
    go_wp2_with fail
    go_ret
    exact ⟨rfl, hs, hf⟩
  have t0 : (how == 0) = false := beq_eq_false_iff_ne.2 h0
  have t1 : (how == 1) = false := beq_eq_false_iff_ne.2 h1
  have t2 : (how == 2) = false := beq_eq_false_iff_ne.2 h2
  have E := Lib.hid (show chM how M X = M from by unfold chM; rw [if_neg h0, if_neg h1, if_neg h2])
  have E2 := Lib.hid (show chE how = 22 from by unfold chE; rw [if_neg (by omega)])
  clear h0 h1 h2
  go_enter Tryd.func18, Tryd.ntmps18
  go_wp2_with fail
  go_ret
  rw [E.out, E2.out]
  exact ⟨rfl, HB.out, Fr.refl _ _⟩
/-- What Enter makes of the mask and of the actions. -/
def enM (n : Int) (fl v M : BitVec 64) : BitVec 64 := if 1 ≤ n ∧ n ≤ 64 then keepZ (if fl.getLsbD 30 then M ||| v else (M ||| v) ||| bitZ n) else M
def enA (n : Int) (fl : BitVec 64) (A : Nat → Int) : Nat → Int := if 1 ≤ n ∧ n ≤ 64 then (if fl.getLsbD 31 then upd3 A n.toNat 0 0 0 else A) else A
theorem and_bit (b : BitVec 64) (k : Nat) (hk : k < 64) : (U (b &&& 1#64 <<< k) == 0) = !(b.getLsbD k) := by
  have e := bit_at b k hk
  rwa [bitZ_at k hk] at e
/-- What SetAction makes of the actions, and answers; what Action answers. -/
def saA (n a0 : Int) (a1 v : BitVec 64) (A : Nat → Int) : Nat → Int := if (1 ≤ n ∧ n ≤ 64) ∧ n ≠ 9 ∧ n ≠ 19 then upd3 A n.toNat a0 (U a1) (U (keepZ v)) else A
def saE (n : Int) : Int := if (1 ≤ n ∧ n ≤ 64) ∧ n ≠ 9 ∧ n ≠ 19 then 0 else 22
def acZ (A : Nat → Int) (n : Int) (j : Nat) : Int := if 1 ≤ n ∧ n ≤ 64 then A (n.toNat * 3 + j) else 0
def acE (n : Int) : Int := if 1 ≤ n ∧ n ≤ 64 then 0 else 22
theorem enter_out {g : Nat} {A : Nat → Int} {M P x y : BitVec 64} (n a0 : Int) (a1 v : BitVec 64) (hn : ¬ (1 ≤ n ∧ n ≤ 64)) (w : World) : Calls Tryd.prog 19 #[.pointer (some ⟨g, 0, none⟩), .int .i64 n, .agg #[.int .u64 a0, .int .u64 (U a1), .int .u64 (U v)]] w fun e w' => e = .returned (.tuple #[]) ∧ Fr (fun _ => False) w w' := by
  have H := Lib.hid bit_any
  have h0 := bit_zero n
  rw [decide_eq_false hn, Bool.not_false] at h0
  have HF := Lib.hid ((Fr.refl (fun _ => False) w).alloc (.cells #[.int .u64 a0, .int .u64 (U a1), .int .u64 (U v)] 33))
  clear hn
  go_enter Tryd.func19, Tryd.ntmps19
  go_wp2_with fail
  refine (H.out _ _).mono ?_
  rintro e w1 ⟨rfl, hf⟩
  have HF := Lib.hid (HF.out.trans hf (fun _ _ => id))
  clear hf
  go_wp2_with fail
  refine bodyPost_ret (results_none rfl _ _ _) rfl ?_
  exact ⟨rfl, HF.out⟩
theorem enter_in {g : Nat} {A : Nat → Int} {M P x y : BitVec 64} (m : Nat) (a0 : Int) (a1 v : BitVec 64) (hm : 1 ≤ m ∧ m ≤ 64) (b30 b31 : Bool) (h30 : a1.getLsbD 30 = b30) (h31 : a1.getLsbD 31 = b31) (w : World) (h : St w g A M P x y) : Calls Tryd.prog 19 #[.pointer (some ⟨g, 0, none⟩), .int .i64 (m : Int), .agg #[.int .u64 a0, .int .u64 (U a1), .int .u64 (U v)]] w fun e w' => e = .returned (.tuple #[]) ∧ St w' g (if b31 then upd3 A m 0 0 0 else A) (keepZ (if b30 then M ||| v else (M ||| v) ||| bitZ (m : Int))) P x y ∧ Fr (fun k => k = g) w w' := by
  have H := Lib.hid bit_any
  have h0 := bit_zero (m : Int)
  rw [decide_eq_true (by omega), Bool.not_true] at h0
  have e30 : bits .and .u64 (U a1) 1073741824 = U (a1 &&& 1#64 <<< 30) := (show _ = bits .and .u64 (U a1) (U 1073741824#64) from rfl).trans (and_U _ _)
  have e31 : bits .and .u64 (U a1) 2147483648 = U (a1 &&& 1#64 <<< 31) := (show _ = bits .and .u64 (U a1) (U 2147483648#64) from rfl).trans (and_U _ _)
  have t30 := and_bit a1 30 (by decide)
  have t31 := and_bit a1 31 (by decide)
  rw [h30, ← e30] at t30
  rw [h31, ← e31] at t31
  have n31 : (bits .and .u64 (U a1) 2147483648 != 0) = b31 := by rw [bne, t31, Bool.not_not]
  have HX := Lib.hid (Blk.new w 33 #[.int .u64 a0, .int .u64 (U a1), .int .u64 (U v)])
  have HB := Lib.hid (Blk.alloc h (.cells #[.int .u64 a0, .int .u64 (U a1), .int .u64 (U v)] 33))
  have HF := Lib.hid ((Fr.refl (fun k => k = g) w).alloc (.cells #[.int .u64 a0, .int .u64 (U a1), .int .u64 (U v)] 33))
  have hgw := h.lt
  have hne : ¬ w.heap.size = g := by omega
  have hm65 : m < 65 := by omega
  have t1 : decide ((m : Int) < 65) = true := decide_eq_true (by omega)
  have z3 : Sem.run Tryd.prog (zeroValue 33) w = .ok (.agg #[.int .u64 0, .int .u64 0, .int .u64 0]) w := by kernel_rfl
  clear h hm e30 e31 h30 h31
  go_enter Tryd.func19, Tryd.ntmps19
  go_wp2_with fail
  refine (H.out _ _).mono ?_
  rintro e w1 ⟨rfl, hf⟩
  have HF := Lib.hid (HF.out.trans hf (fun _ _ e => e.elim))
  have HX := Lib.hid (HX.out.fr hf id)
  have HB := Lib.hid (St.fr HB.out hf id)
  clear hf
  obtain ⟨c0, c1, c2⟩ := (show _ ∧ _ ∧ _ from ⟨HX.out.cell 0, HX.out.cell 1, HX.out.cell 2⟩)
  simp at c0 c1 c2
  have k1 := HB.out.m
  go_wp2_with fail
  go_quiet (fail)
  have HF := Lib.hid (HF.out.drewN nq)
  have HX := Lib.hid (show Blk (w1.drewN nq) w.heap.size 33 #[.int .u64 a0, .int .u64 (U a1), .int .u64 (U v)] from HX.out)
  have HB := Lib.hid (show St (w1.drewN nq) g A M P x y from HB.out)
  clear c0 c1 c2 k1
  generalize w1.drewN nq = w2 at *
  obtain ⟨c0, c1, c2⟩ := (show _ ∧ _ ∧ _ from ⟨HX.out.cell 0, HX.out.cell 1, HX.out.cell 2⟩)
  simp at c0 c1 c2
  cases b30
  all_goals go_wp2_with fail
  · refine (H.out _ _).mono ?_
    rintro e w3 ⟨rfl, hf⟩
    have HF := Lib.hid (HF.out.trans hf (fun _ _ e => e.elim))
    have HX := Lib.hid (HX.out.fr hf id)
    have HB := Lib.hid (St.fr HB.out hf id)
    clear hf c0 c1 c2
    go_wp2_with fail
    refine (setmask_any ((M ||| v) ||| bitZ (m : Int)) _ HB.out).mono ?_
    rintro e w4 ⟨rfl, hs, hf⟩
    have HF := Lib.hid (HF.out.trans hf (fun _ _ e => e))
    have HX := Lib.hid (HX.out.fr hf hne)
    have HB := Lib.hid hs
    clear hf hs
    obtain ⟨c0, c1, c2⟩ := (show _ ∧ _ ∧ _ from ⟨HX.out.cell 0, HX.out.cell 1, HX.out.cell 2⟩)
    simp at c0 c1 c2
    obtain ⟨b0, b1, b2⟩ := (show _ ∧ _ ∧ _ from ⟨HB.out.lo (m * 3) (by omega), HB.out.lo (m * 3 + 1) (by omega), HB.out.lo (m * 3 + 2) (by omega)⟩)
    obtain ⟨f0, f1, f2⟩ := (show _ ∧ _ ∧ _ from ⟨HB.out.frz (m * 3), HB.out.frz (m * 3 + 1), HB.out.frz (m * 3 + 2)⟩)
    cases b31
    · go_wp2_with fail
      go_end0
      exact ⟨rfl, HB.out, HF.out⟩
    · go_wp2_with fail
      go_end0
      exact ⟨rfl, HB.out.set3 m hm65 _ _ _, fr3g HF.out _ _ _ _ _ _⟩
  · clear c0 c1 c2
    refine (setmask_any (M ||| v) _ HB.out).mono ?_
    rintro e w4 ⟨rfl, hs, hf⟩
    have HF := Lib.hid (HF.out.trans hf (fun _ _ e => e))
    have HX := Lib.hid (HX.out.fr hf hne)
    have HB := Lib.hid hs
    clear hf hs
    obtain ⟨c0, c1, c2⟩ := (show _ ∧ _ ∧ _ from ⟨HX.out.cell 0, HX.out.cell 1, HX.out.cell 2⟩)
    simp at c0 c1 c2
    obtain ⟨b0, b1, b2⟩ := (show _ ∧ _ ∧ _ from ⟨HB.out.lo (m * 3) (by omega), HB.out.lo (m * 3 + 1) (by omega), HB.out.lo (m * 3 + 2) (by omega)⟩)
    obtain ⟨f0, f1, f2⟩ := (show _ ∧ _ ∧ _ from ⟨HB.out.frz (m * 3), HB.out.frz (m * 3 + 1), HB.out.frz (m * 3 + 2)⟩)
    cases b31
    · go_wp2_with fail
      go_end0
      exact ⟨rfl, HB.out, HF.out⟩
    · go_wp2_with fail
      go_end0
      exact ⟨rfl, HB.out.set3 m hm65 _ _ _, fr3g HF.out _ _ _ _ _ _⟩
theorem setaction_any {g : Nat} {A : Nat → Int} {M P x y : BitVec 64} (n a0 : Int) (a1 v : BitVec 64) (w : World) (h : St w g A M P x y) : Calls Tryd.prog 17 #[.pointer (some ⟨g, 0, none⟩), .int .i64 n, .agg #[.int .u64 a0, .int .u64 (U a1), .int .u64 (U v)]] w fun e w' => e = .returned (.int .i64 (saE n)) ∧ St w' g (saA n a0 a1 v A) M P x y ∧ Fr (fun k => k = g) w w' := by
  by_cases hn : 1 ≤ n ∧ n ≤ 64
  · by_cases hb : n = 9 ∨ n = 19
    · refine (setaction_bar (g := g) (A := A) (M := M) (P := P) (x := x) (y := y) n a0 (U a1) v hb w).mono fun _ _ k => ⟨?_, ?_, k.2.mono fun _ _ e => e.elim⟩
      · rw [k.1]; unfold saE; rw [if_neg (by omega)]
      · unfold saA; rw [if_neg (by omega)]; exact h.fr k.2 id
    · obtain ⟨m, rfl⟩ : ∃ m : Nat, n = m := ⟨n.toNat, by omega⟩
      refine (setaction_yes m a0 (U a1) v (by omega) (by omega) (by omega) w h).mono fun _ _ k => ⟨?_, ?_, k.2.2⟩
      · rw [k.1]; unfold saE; rw [if_pos (by omega)]
      · unfold saA; rw [if_pos (by omega)]; exact k.2.1
  · refine (setaction_out (g := g) (A := A) (M := M) (P := P) (x := x) (y := y) n a0 (U a1) v hn w).mono fun _ _ k => ⟨?_, ?_, k.2.mono fun _ _ e => e.elim⟩
    · rw [k.1]; unfold saE; rw [if_neg (by omega)]
    · unfold saA; rw [if_neg (by omega)]; exact h.fr k.2 id
theorem enter_any {g : Nat} {A : Nat → Int} {M P x y : BitVec 64} (n a0 : Int) (a1 v : BitVec 64) (w : World) (h : St w g A M P x y) : Calls Tryd.prog 19 #[.pointer (some ⟨g, 0, none⟩), .int .i64 n, .agg #[.int .u64 a0, .int .u64 (U a1), .int .u64 (U v)]] w fun e w' => e = .returned (.tuple #[]) ∧ St w' g (enA n a1 A) (enM n a1 v M) P x y ∧ Fr (fun k => k = g) w w' := by
  by_cases hn : 1 ≤ n ∧ n ≤ 64
  · obtain ⟨m, rfl⟩ : ∃ m : Nat, n = m := ⟨n.toNat, by omega⟩
    refine (enter_in m a0 a1 v (by omega) _ _ rfl rfl w h).mono fun _ _ k => ⟨k.1, ?_, k.2.2⟩
    unfold enA enM
    rw [if_pos hn, if_pos hn]
    exact k.2.1
  · refine (enter_out (g := g) (A := A) (M := M) (P := P) (x := x) (y := y) n a0 a1 v hn w).mono fun _ _ k => ⟨k.1, ?_, k.2.mono fun _ _ e => e.elim⟩
    unfold enA enM
    rw [if_neg hn, if_neg hn]
    exact h.fr k.2 id
theorem action_any {g : Nat} {A : Nat → Int} {M P x y : BitVec 64} (n : Int) (w : World) (h : St w g A M P x y) : Calls Tryd.prog 20 #[.pointer (some ⟨g, 0, none⟩), .int .i64 n] w fun e w' => e = .returned (.tuple #[.agg #[.int .u64 (acZ A n 0), .int .u64 (acZ A n 1), .int .u64 (acZ A n 2)], .int .i64 (acE n)]) ∧ Fr (fun _ => False) w w' := by
  by_cases hn : 1 ≤ n ∧ n ≤ 64
  · obtain ⟨m, rfl⟩ : ∃ m : Nat, n = m := ⟨n.toNat, by omega⟩
    refine (action_in m (by omega) w h).mono fun _ _ k => ⟨?_, k.2⟩
    rw [k.1]
    unfold acZ acE actC
    simp only [if_pos hn, if_neg (show ¬ m = 0 by omega)]
    rfl
  · refine (action_out (g := g) (A := A) (M := M) (P := P) (x := x) (y := y) n hn w).mono fun _ _ k => ⟨?_, k.2⟩
    rw [k.1]
    unfold acZ acE
    simp only [if_neg hn]
theorem mask_same {g : Nat} {A : Nat → Int} {M P x y : BitVec 64} (w : World) (h : St w g A M P x y) : Calls Tryd.prog 10 #[.pointer (some ⟨g, 0, none⟩)] w fun e w' => e = .returned (.int .u64 (U M)) ∧ w' = w := by
  have k1 := h.m
  clear h
  go_enter Tryd.func10, Tryd.ntmps10
  go_wp2_with fail
  go_ret
  exact ⟨rfl, rfl⟩
end Go.Proofs.YtdlcejnkicdjnaaDoor.Sg
