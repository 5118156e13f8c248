/- The law DescLeast, walked. -/
import Derived.Test.YtfmlajgabogobaaDsD
namespace Go.Proofs.Ytfmlajgabogobaa.Ds
open Go Go.RowKit Go.Proofs.YtfmlajgabogobaaW.PrintWords Go.Proofs.YtfmlajgabogobaaW.PrintLast Go.Proofs.YtfmlajgabogobaaW.PrintMore
open Go.Proofs.Ytfmlajgabogobaa.Hp Go.Proofs.Ytfmlajgabogobaa.Pm
attribute [local go_sem] max2_int min2_int max_two min_two max_three min_three max_four min_four
set_option linter.unusedVariables false
set_option linter.unusedSimpArgs false
/-- 256 numbers. -/
def opA (g : Nat → Int) : Array Value := ((List.range 256).map (fun i => Value.int .i64 (g i))).toArray
theorem opA_get (g : Nat → Int) (i : Nat) (h : i < 256) : (opA g)[i]? = some (.int .i64 (g i)) := by
  unfold opA
  rw [List.getElem?_toArray, List.getElem?_map, List.getElem?_range h]
  rfl
def updN (g : Nat → Int) (i : Nat) (v : Int) : Nat → Int := fun k => if k = i then v else g k
theorem opA_set (g : Nat → Int) (i : Nat) (v : Int) (h : i < 256) : (opA g).setIfInBounds i (.int .i64 v) = opA (updN g i v) := by
  apply Array.ext_getElem?
  intro k
  rw [Array.getElem?_setIfInBounds]
  by_cases hk : k < 256
  · rw [opA_get (updN g i v) k hk]
    unfold updN
    by_cases c : i = k
    · subst c
      rw [if_pos rfl, if_pos (by simp [opA]; exact h), if_pos rfl]
    · rw [if_neg c, if_neg (fun e => c e.symm), opA_get _ _ hk]
  · rw [if_neg (by omega), Array.getElem?_eq_none (by simp [opA]; omega), Array.getElem?_eq_none (by simp [opA]; omega)]
/-- Each slot has a file of its own. -/
structure Own (w : World) (f : Int → Option Nat) (Fo nd : Int → Nat) : Prop where
  at_ : ∀ fd s, f fd = some s → Blk w s 82 #[.pointer (some ⟨Fo fd, 0, none⟩), .bool false] ∧ Blk w (Fo fd) 80 (shC (nd fd) false 0 1)
  inj : ∀ fd fd', f fd ≠ none → f fd' ≠ none → fd ≠ fd' → Fo fd ≠ Fo fd'
theorem Own.fr {w w' : World} {S : Nat → Prop} {f : Int → Option Nat} {Fo nd : Int → Nat} (h : Own w f Fo nd) (hf : Fr S w w') (h1 : ∀ fd s, f fd = some s → ¬ S s) (h2 : ∀ fd s, f fd = some s → ¬ S (Fo fd)) : Own w' f Fo nd :=
  ⟨fun fd s e => ⟨(h.at_ fd s e).1.fr hf (h1 fd s e), (h.at_ fd s e).2.fr hf (h2 fd s e)⟩, h.inj⟩
theorem Own.same {w w' : World} {f : Int → Option Nat} {Fo nd : Int → Nat} (h : Own w f Fo nd) (hf : Fr (fun _ => False) w w') : Own w' f Fo nd := h.fr hf (fun _ _ _ => id) (fun _ _ _ => id)
def updI (f : Int → Nat) (k : Int) (v : Nat) : Int → Nat := fun j => if j = k then v else f j
/-- One more. -/
theorem Own.add {w w' : World} {t B n : Nat} {most : Int} {f : Int → Option Nat} {sz : Nat} {Fo nd : Int → Nat} (h : Own w f Fo nd) (ht : Tab w t B n most f sz) {r : Int} (hr : f r = none) {s F : Nat} (h1 : w.heap.size ≤ s) (h2 : w.heap.size ≤ F) {m : Nat}
    (hb : Blk w' s 82 #[.pointer (some ⟨F, 0, none⟩), .bool false]) (hx : Blk w' F 80 (shC m false 0 1)) (hf : Fr (fun i => i = B) w w') : Own w' (updP f r (some s)) (updI Fo r F) (updI nd r m) := by
  have hold : ∀ fd s', f fd = some s' → Blk w' s' 82 #[.pointer (some ⟨Fo fd, 0, none⟩), .bool false] ∧ Blk w' (Fo fd) 80 (shC (nd fd) false 0 1) := fun fd s' e =>
    ⟨(h.at_ fd s' e).1.fr hf (ht.ne_of (h.at_ fd s' e).1 (by decide)).2, (h.at_ fd s' e).2.fr hf (ht.ne_of (h.at_ fd s' e).2 (by decide)).2⟩
  refine ⟨fun fd s' e => ?_, fun fd fd' e e' hne => ?_⟩
  · by_cases c : fd = r
    · subst c
      rw [updP_same] at e
      injection e with e
      subst e
      simp only [updI, if_true]
      exact ⟨hb, hx⟩
    · rw [updP_ne _ _ c] at e
      simp only [updI, if_neg c]
      exact hold fd s' e
  · have lt : ∀ fd, fd ≠ r → updP f r (some s) fd ≠ none → Fo fd < w.heap.size := fun fd c e => by
      rw [updP_ne _ _ c] at e
      obtain ⟨s', e2⟩ := Option.ne_none_iff_exists'.1 e
      exact (h.at_ fd s' e2).2.lt
    by_cases c : fd = r
    · have c' : fd' ≠ r := fun e2 => hne (c.trans e2.symm)
      simp only [updI, if_pos c, if_neg c']
      have := lt fd' c' e'
      omega
    · by_cases c' : fd' = r
      · simp only [updI, if_neg c, if_pos c']
        have := lt fd c e
        omega
      · simp only [updI, if_neg c, if_neg c']
        exact h.inj fd fd' (by rwa [updP_ne _ _ c] at e) (by rwa [updP_ne _ _ c'] at e') hne
/-- One fewer. -/
theorem Own.del {w w' : World} {t B n : Nat} {most : Int} {f : Int → Option Nat} {sz : Nat} {Fo nd : Int → Nat} (h : Own w f Fo nd) (ht : Tab w t B n most f sz) {r : Int} {s : Nat} (hr : f r = some s) (hf : Fr (fun i => i = B ∨ i = Fo r) w w') : Own w' (updP f r none) Fo nd := by
  refine ⟨fun fd s' e => ?_, fun fd fd' e e' hne => ?_⟩
  · have c : fd ≠ r := fun c => by subst c; rw [updP_same] at e; cases e
    rw [updP_ne _ _ c] at e
    obtain ⟨a1, a2⟩ := h.at_ fd s' e
    refine ⟨a1.fr hf ?_, a2.fr hf ?_⟩
    · rintro (e2 | e2)
      · exact (ht.ne_of a1 (by decide)).2 e2
      · exact Blk.ne a1 (h.at_ r s hr).2 (by decide) e2
    · rintro (e2 | e2)
      · exact (ht.ne_of a2 (by decide)).2 e2
      · exact h.inj fd r (by rw [e]; simp) (by rw [hr]; simp) c e2
  · have q : ∀ fd, updP f r none fd ≠ none → f fd ≠ none := fun fd e => by
      by_cases c : fd = r
      · subst c; rw [updP_same] at e; exact absurd rfl e
      · rwa [updP_ne _ _ c] at e
    exact h.inj fd fd' (q fd e) (q fd' e') hne
/-- The numbers tell which are open. -/
def Tell (f : Int → Option Nat) (g : Nat → Int) : Prop := ∀ j : Nat, j < 256 → (f j = none ∧ g j = 0) ∨ (f j ≠ none ∧ g j = 1)
theorem Tell.put {f : Int → Option Nat} {g : Nat → Int} (h : Tell f g) (r s : Nat) : Tell (updP f r (some s)) (updN g r 1) := fun j hj => by
  by_cases c : j = r
  · subst c
    exact .inr ⟨by rw [updP_same]; simp, if_pos rfl⟩
  · rw [updP_ne _ _ (by omega), show updN g r 1 j = g j from if_neg c]
    exact h j hj
theorem Tell.del {f : Int → Option Nat} {g : Nat → Int} (h : Tell f g) (r : Nat) : Tell (updP f r none) (updN g r 0) := fun j hj => by
  by_cases c : j = r
  · subst c
    exact .inl ⟨by rw [updP_same], if_pos rfl⟩
  · rw [updP_ne _ _ (by omega), show updN g r 0 j = g j from if_neg c]
    exact h j hj
theorem Tell.keep {f : Int → Option Nat} {g : Nat → Int} (h : Tell f g) (r : Nat) (hr : f r = none) : Tell f (updN g r 0) := fun j hj => by
  by_cases c : j = r
  · subst c
    exact .inl ⟨hr, if_pos rfl⟩
  · rw [show updN g r 0 j = g j from if_neg c]
    exact h j hj
/-- What the law holds at the head of its loop. -/
structure LInv (w0 w : World) (t B O n : Nat) (most : Int) (f : Int → Option Nat) (g : Nat → Int) (sz : Nat) (Fo nd : Int → Nat) : Prop where
  tab : Tab w t B n most f sz
  own : Own w f Fo nd
  op : Blk w O 3 (opA g)
  tell : Tell f g
  fr : Fr (fun _ => False) w0 w
  lo : w0.heap.size ≤ B
  lf : ∀ fd s, f fd = some s → w0.heap.size ≤ Fo fd
  l2 : w0.heap.size ≤ O
theorem LInv.same {w0 w : World} {t B O n : Nat} {most : Int} {f : Int → Option Nat} {g : Nat → Int} {sz : Nat} {Fo nd : Int → Nat} (h : LInv w0 w t B O n most f g sz Fo nd) {w' : World} (hf : Fr (fun _ => False) w w') : LInv w0 w' t B O n most f g sz Fo nd :=
  ⟨h.tab.fr hf id id, h.own.same hf, h.op.fr hf id, h.tell, h.fr.trans hf (fun _ _ => id), h.lo, h.lf, h.l2⟩
theorem LInv.up {w0 w : World} {t B O n : Nat} {most : Int} {f : Int → Option Nat} {g : Nat → Int} {sz : Nat} {Fo nd : Int → Nat} (h : LInv w0 w t B O n most f g sz Fo nd) {n' : Nat} (hn : n ≤ n') : LInv w0 w t B O n' most f g sz Fo nd := ⟨⟨h.tab.blk, h.tab.pm.mono hn, h.tab.lo, h.tab.hi⟩, h.own, h.op, h.tell, h.fr, h.lo, h.lf, h.l2⟩
theorem LInv.set {w0 w : World} {t B O n : Nat} {most : Int} {f : Int → Option Nat} {g : Nat → Int} {sz : Nat} {Fo nd : Int → Nat} (h : LInv w0 w t B O n most f g sz Fo nd) (j : Nat) (hj : j < 256) (v : Int) (hT : Tell f (updN g j v)) : LInv w0 (w.setCell ⟨O, j, none⟩ (.int .i64 v)) t B O n most f (updN g j v) sz Fo nd := by
  have hf : Fr (fun i => i = O) w (w.setCell ⟨O, j, none⟩ (.int .i64 v)) := (Fr.refl (fun i => i = O) _).setCell (p := ⟨O, j, none⟩) (.inl rfl) _
  obtain ⟨n1, n2⟩ := h.tab.ne_of h.op (by decide)
  refine ⟨h.tab.fr hf (fun e => n1 e.symm) (fun e => n2 e.symm), h.own.fr hf (fun fd s e => (h.own.at_ fd s e).1.ne h.op (by decide)) (fun fd s e => (h.own.at_ fd s e).2.ne h.op (by decide)), ?_, hT, h.fr.setCell (p := ⟨O, j, none⟩) (.inr h.l2) _, h.lo, h.lf, h.l2⟩
  have e := h.op.set j (.int .i64 v)
  rwa [opA_set g j v hj] at e
/-- A descriptor is given (its number is still to be told). -/
theorem LInv.give {w0 w : World} {t B O n : Nat} {most : Int} {f : Int → Option Nat} {g : Nat → Int} {sz : Nat} {Fo nd : Int → Nat} (h : LInv w0 w t B O n most f g sz Fo nd) {w' : World} {r s F m : Nat} (hr : f r = none) (h1 : w.heap.size ≤ s) (h2 : w.heap.size ≤ F) (ht : Tab w' t B (n + 1) most (updP f r (some s)) (sz + 1)) (hb : Blk w' s 82 #[.pointer (some ⟨F, 0, none⟩), .bool false]) (hx : Blk w' F 80 (shC m false 0 1)) (hf : Fr (fun i => i = B) w w') (hj : r < 256) :
    LInv w0 (w'.setCell ⟨O, r, none⟩ (.int .i64 1)) t B O (n + 1) most (updP f r (some s)) (updN g r 1) (sz + 1) (updI Fo r F) (updI nd r m) := by
  have hO : Blk w' O 3 (opA g) := h.op.fr hf (fun e => (h.tab.ne_of h.op (by decide)).2 e)
  have ho := h.own.add h.tab hr h1 h2 hb hx hf
  have hf2 : Fr (fun i => i = O) w' (w'.setCell ⟨O, r, none⟩ (.int .i64 1)) := (Fr.refl (fun i => i = O) _).setCell (p := ⟨O, r, none⟩) (.inl rfl) _
  obtain ⟨n1, n2⟩ := ht.ne_of hO (by decide)
  refine ⟨ht.fr hf2 (fun e => n1 e.symm) (fun e => n2 e.symm), ho.fr hf2 (fun fd s e => (ho.at_ fd s e).1.ne hO (by decide)) (fun fd s e => (ho.at_ fd s e).2.ne hO (by decide)), ?_, h.tell.put r s, (h.fr.trans hf (fun i hi e => ?_)).setCell (p := ⟨O, r, none⟩) (.inr h.l2) _, h.lo, fun fd s' e => ?_, h.l2⟩
  · have e := hO.set r (.int .i64 1)
    rwa [opA_set g r 1 hj] at e
  · have := h.lo
    omega
  · by_cases c : fd = r
    · simp only [updI, if_pos c]
      exact Nat.le_trans h.fr.size h2
    · rw [updP_ne _ _ c] at e
      simp only [updI, if_neg c]
      exact h.lf fd s' e
/-- One is closed (the number is still to be told). -/
theorem LInv.shut {w0 w : World} {t B O n : Nat} {most : Int} {f : Int → Option Nat} {g : Nat → Int} {sz : Nat} {Fo nd : Int → Nat} (h : LInv w0 w t B O n most f g sz Fo nd) {w' : World} {r s : Nat} (hr : f r = some s) (ht : Tab w' t B n most (updP f r none) (sz - 1)) (hf : Fr (fun i => i = B ∨ i = Fo r) w w') (hj : r < 256) (o : Obj) :
    LInv w0 ((w'.alloc o).setCell ⟨O, r, none⟩ (.int .i64 0)) t B O n most (updP f r none) (updN g r 0) (sz - 1) Fo nd := by
  have hq := h.own.at_ r s hr
  have hO : Blk w' O 3 (opA g) := h.op.fr hf (fun e => e.elim (fun e => (h.tab.ne_of h.op (by decide)).2 e) (fun e => hq.2.ne h.op (by decide) e.symm))
  have ho := h.own.del h.tab hr hf
  have hf2 : Fr (fun i => i = O) w' ((w'.alloc o).setCell ⟨O, r, none⟩ (.int .i64 0)) := ((Fr.refl (fun i => i = O) _).alloc o).setCell (p := ⟨O, r, none⟩) (.inl rfl) _
  obtain ⟨n1, n2⟩ := ht.ne_of hO (by decide)
  refine ⟨ht.fr hf2 (fun e => n1 e.symm) (fun e => n2 e.symm), ho.fr hf2 (fun fd s e => (ho.at_ fd s e).1.ne hO (by decide)) (fun fd s e => (ho.at_ fd s e).2.ne hO (by decide)), ?_, h.tell.del r, ((h.fr.trans hf (fun i hi e => ?_)).alloc o).setCell (p := ⟨O, r, none⟩) (.inr h.l2) _, h.lo, fun fd s' e => ?_, h.l2⟩
  · have e := (hO.alloc o).set r (.int .i64 0)
    rwa [opA_set g r 0 hj] at e
  · have := h.lo
    have := h.lf r s hr
    omega
  · by_cases c : fd = r
    · subst c; rw [updP_same] at e; cases e
    · rw [updP_ne _ _ c] at e
      exact h.lf fd s' e
def AtL (w0 : World) (t B O : Nat) (most : Int) (i : Value) (kq : Nat) (wr : World) : Prop := ∃ (k : Nat) (f : Int → Option Nat) (g : Nat → Int) (sz : Nat) (Fo nd : Int → Nat), i = .int .i64 k ∧ k ≤ 200 ∧ 200 - k ≤ kq ∧ LInv w0 wr t B O k most f g sz Fo nd
def AtM (g : Nat → Int) (m : Nat) (w : World) (i : Value) (kq : Nat) (wr : World) : Prop := ∃ j : Nat, i = .int .i64 j ∧ j ≤ m ∧ m - j ≤ kq ∧ (∀ i, i < j → g i = 1) ∧ wr = w
theorem own0 (w : World) : Own w (fun _ => none) (fun _ => 0) (fun _ => 0) := ⟨fun _ _ e => (by cases e), fun _ _ e => absurd rfl e⟩
theorem tell0 : Tell (fun _ => none) (fun _ => 0) := fun _ _ => .inl ⟨rfl, rfl⟩
set_option maxHeartbeats 4000000 in
set_option maxRecDepth 100000 in
theorem least_any (m : Nat) (hm : m < 256) (A : Option Addr) (c : Nat) (l : List Int) (w : World) (hl : l.length ≤ 9223372036854775807) (hr : ReadsInt w .u8 A l.length l) (hb : ∀ y ∈ l, 0 ≤ y ∧ y ≤ 255) : Calls Try.prog 3 #[.int .u8 (m : Int), .slice A l.length c] w fun e w' => e = .returned (.bool true) ∧ Fr (fun _ => False) w w' := by
  have HR := Lib.hid hr
  have HBY := Lib.hid hb
  clear hr hb
  obtain ⟨len, hlen⟩ : ∃ n, n = l.length := ⟨_, rfl⟩
  rw [← hlen] at hl ⊢
  have HLN := Lib.hid hlen
  clear hlen
  have hmk : ∀ w, (Instr.makeSlice 26 (.int .i64 256) (.int .i64 256)).run Try.prog w = .ok (.slice (some ⟨w.heap.size, 0, none⟩) 256 256) (w.alloc (.cells (opA (fun _ => 0)) 3)) := fun w => by kernel_rfl
  go_enter Try.func3, Try.ntmps3
  go_wp2_with fail
  refine (new_any (m : Int) _).mono ?_
  rintro e w1 ⟨rfl, ht, hf⟩
  have HT := Lib.hid (show Tab w1 (w.heap.size + 1) w.heap.size 0 (m : Int) (fun _ => none) 0 from by rw [show min (max (m : Int) 0) 256 = m by omega] at ht; exact ht)
  have HF := Lib.hid hf
  clear ht hf
  go_wp2_with fail
  refine (answers_any _).mono ?_
  rintro e w2 ⟨rfl, hf⟩
  have HI0 := Lib.hid (show LInv w (w2.alloc (.cells (opA (fun _ => 0)) 3)) (w.heap.size + 1) w.heap.size w2.heap.size 0 (m : Int) (fun _ => none) (fun _ => 0) 0 (fun _ => 0) (fun _ => 0) from
    ⟨(HT.out.fr hf id id).fr ((Fr.refl (fun _ => False) _).alloc _) id id, own0 _, Blk.new _ _ _, tell0, (HF.out.trans hf (fun _ _ => id)).alloc _, Nat.le_refl _, fun _ _ e => (by cases e), Nat.le_trans HF.out.size hf.size⟩)
  clear hf HT HF
  go_wp2_with fail
  clear hmk
  obtain ⟨O, hO⟩ : ∃ O, O = w2.heap.size := ⟨_, rfl⟩
  rw [← hO] at HI0 ⊢
  clear hO
  go_loopg [7] 200 (fun kq i wr => Hid (AtL w (w.heap.size + 1) w.heap.size O (m : Int) i kq wr))
  case atStart => exact Lib.hid ⟨0, _, _, _, _, _, rfl, by omega, by omega, HI0.out⟩
  case round =>
    obtain ⟨k, f, g, sz, Fo, nd, rfl, hk200, hkq, hI⟩ := hrel.out
    have HI := Lib.hid hI
    clear hrel hI HI0
    obtain ⟨wo, rfl⟩ : ∃ wo : World, wo = wr := ⟨_, rfl⟩
    by_cases hk : k < len ∧ k < 200
    · obtain ⟨hkl, hk2⟩ := hk
      have t1 : decide ((k : Int) < (len : Int)) = true := decide_eq_true (by omega)
      have t1' : decide (k < len) = true := decide_eq_true (by omega)
      have t2 : decide ((k : Int) < 200) = true := decide_eq_true (by omega)
      have t2' : decide (k < 200) = true := decide_eq_true (by omega)
      go_wp2_with fail
      go_loopg [8] m (fun kq i wr => Hid (AtM g m wo i kq wr))
      case atStart => exact Lib.hid ⟨0, rfl, by omega, by omega, fun i h => absurd h (Nat.not_lt_zero _), rfl⟩
      case round =>
        obtain ⟨j, rfl, hjm, hjq, hg1, rfl⟩ := hrel.out
        have HG := Lib.hid hg1
        clear hrel hg1
        by_cases hj : j < m
        · have t3 : decide ((j : Int) < (m : Int)) = true := decide_eq_true (by omega)
          have t3' : decide (j < m) = true := decide_eq_true hj
          have hi1 : (j : Int) < 256 := by omega
          have hi0 : (0 : Int) ≤ (j : Int) := by omega
          have c0 := (HI.out.op.cell j).trans (opA_get g j (by omega))
          rcases HI.out.tell j (by omega) with ⟨hfj, hgj⟩ | ⟨hfj, hgj⟩
          · rw [hgj] at c0
            have HFJ := Lib.hid hfj
            clear hfj hgj
            go_wp2_with fail
            refine (add_any (k : Int) false 0 0 false _ HI.out.tab (by omega)).mono ?_
            rintro e w3 ⟨r, q, ⟨hfr, hq⟩, rfl⟩
            obtain ⟨rfl, rfl⟩ : r = j ∧ q = 0 := by
              rcases hfr with ⟨h, _, _⟩ | ⟨_, ⟨h1, h2, h3, h4, h5⟩ | ⟨h, _, _⟩⟩
              · exact absurd ⟨Int.le_refl _, by omega⟩ h
              · refine ⟨?_, h5⟩
                obtain ⟨r', rfl⟩ := Int.eq_ofNat_of_zero_le h1
                rcases Nat.lt_trichotomy r' j with c | c | c
                · exfalso
                  rcases HI.out.tell r' (by omega) with ⟨_, e⟩ | ⟨e, _⟩
                  · rw [HG.out r' c] at e; exact absurd e (by decide)
                  · exact e h3
                · rw [c]
                · exact absurd HFJ.out (h4 j (by omega) (by omega))
              · exact absurd HFJ.out (h j (by omega) (by omega))
            obtain ⟨_, _, s, F, hs, hF, hsF, ht, hb1, hb2, hf⟩ := hq.resolve_left (fun h => h.1 rfl)
            have HJ := Lib.hid (HI.out.give HFJ.out hs hF ht hb1 hb2 hf (by omega))
            have f0 := (HI.out.op.fr hf (fun e => (HI.out.tab.ne_of HI.out.op (by decide)).2 e)).frozen j
            have c1 := (HI.out.op.fr hf (fun e => (HI.out.tab.ne_of HI.out.op (by decide)).2 e)).cell j
            rw [opA_get g j (by omega)] at c1
            have t4 : ((j : Int) == (m : Int)) = false := beq_eq_false_iff_ne.2 (by omega)
            have t4' : (j == m) = false := beq_eq_false_iff_ne.2 (by omega)
            clear hfr hq ht hb1 hb2 hf c0
            go_upto_region 21 with (fail)
            generalize w3.setCell ⟨O, j, none⟩ (.int .i64 1) = w4 at HJ ⊢
            clear c1 f0 t3 t3' t4 t4' hs hF
            generalize updP f (j : Int) (some s) = f4 at HJ
            generalize updN g j 1 = g4 at HJ
            generalize updI Fo (j : Int) F = Fo4 at HJ
            generalize updI nd (j : Int) k = nd4 at HJ
            have HR4 := Lib.hid (reads_fr HR.out HJ.out.fr (fun _ _ _ => id))
            obtain ⟨ad, eA, hx⟩ := HR4.out.2.2 (by rw [← HLN.out]; omega)
            cases eA
            have hxk := hx k (by rw [← HLN.out]; exact hkl)
            obtain ⟨x, hx0⟩ : ∃ x : Nat, l.getD k 0 = (x : Int) := ⟨(l.getD k 0).toNat, by have := (HBY.out _ (show l.getD k 0 ∈ l by rw [show l.getD k 0 = l[k]'(by rw [← HLN.out]; exact hkl) by simp [List.getD, show k < l.length by rw [← HLN.out]; exact hkl]]; exact List.getElem_mem _)).1; omega⟩
            have hx255 : x < 256 := by have := (HBY.out _ (show l.getD k 0 ∈ l by rw [show l.getD k 0 = l[k]'(by rw [← HLN.out]; exact hkl) by simp [List.getD, show k < l.length by rw [← HLN.out]; exact hkl]]; exact List.getElem_mem _)).2; omega
            rw [hx0] at hxk
            have HKX := Lib.hid (wf64 (k := (x : Int)) (by omega) (by omega))
            clear hx hx0
            go_wp2_with fail
            have hi1 : (x : Int) < 256 := by omega
            have hi0 : (0 : Int) ≤ (x : Int) := by omega
            rcases HJ.out.tell x hx255 with ⟨hfx, hgx⟩ | ⟨hfx, hgx⟩
            · have HFX := Lib.hid hfx
              have HGX := Lib.hid hgx
              refine (close_none (x : Int) HKX.out _ HJ.out.tab hfx).mono ?_
              rintro e w5 ⟨rfl, hf5⟩
              have HJ5 := Lib.hid ((HJ.out.same hf5).same ((Fr.refl (fun _ => False) _).alloc (.cells #[.int .i64 0, .pointer none, .bool false, .bool false, .bool false, .bool false, .int .i64 0] 32)))
              clear hf5 hfx hgx hxk
              have c0 := (HJ5.out.op.cell x).trans (opA_get _ x hx255)
              rw [HGX.out] at c0
              have f0 := HJ5.out.op.frozen x
              go_wp2_with fail
              go_roundg (200 - (k + 1))
              case measure => omega
              case rel => exact Lib.hid ⟨k + 1, _, _, _, _, _, by go_num, by omega, Nat.le_refl _, HJ5.out.set x hx255 0 (HJ5.out.tell.keep x HFX.out)⟩
            · obtain ⟨s', hs'⟩ := Option.ne_none_iff_exists'.1 hfx
              have hat := HJ.out.own.at_ _ s' hs'
              have HFX := Lib.hid hs'
              have HGX := Lib.hid hgx
              refine (close_last (x : Int) s' _ false _ false 0 HKX.out _ HJ.out.tab hs' hat.1 hat.2).mono ?_
              rintro e w5 ⟨rfl, ht5, hx5, hf5⟩
              have HO5 := Lib.hid (HJ.out.op.fr hf5 (fun e => e.elim (fun e => (HJ.out.tab.ne_of HJ.out.op (by decide)).2 e) (fun e => hat.2.ne HJ.out.op (by decide) e.symm)))
              have HJ5 := Lib.hid (fun o => HJ.out.shut HFX.out ht5 hf5 hx255 o)
              simp only [opC]
              clear hf5 ht5 hx5 hfx hgx hxk hs' hat
              have c0 := ((HO5.out.alloc (.cells #[.int .i64 (nd4 (x : Int)), .pointer none, .bool false, .bool false, .bool false, .bool false, .int .i64 0] 32)).cell x).trans (opA_get _ x hx255)
              have f0 := (HO5.out.alloc (.cells #[.int .i64 (nd4 (x : Int)), .pointer none, .bool false, .bool false, .bool false, .bool false, .int .i64 0] 32)).frozen x
              rw [HGX.out] at c0
              go_wp2_with fail
              go_roundg (200 - (k + 1))
              case measure => omega
              case rel => exact Lib.hid ⟨k + 1, _, _, _, _, _, by go_num, by omega, Nat.le_refl _, HJ5.out _⟩
          · rw [hgj] at c0
            clear hfj
            go_wp2_with fail
            go_roundg (m - (j + 1))
            case measure => omega
            case rel => exact Lib.hid ⟨j + 1, by go_num, by omega, Nat.le_refl _, fun i h => by
              by_cases e : i = j
              · subst e; exact hgj
              · exact HG.out i (by omega), rfl⟩
        · have e : m = j := by omega
          subst e
          have t3 : decide ((m : Int) < (m : Int)) = false := decide_eq_false (by omega)
          have t3' : decide (m < m) = false := decide_eq_false hj
          go_wp2_with fail
          refine (add_any (k : Int) false 0 0 false _ HI.out.tab (by omega)).mono ?_
          rintro e w3 ⟨r, q, ⟨hfr, hq⟩, rfl⟩
          rcases hfr with ⟨h, rfl, rfl⟩ | ⟨h0, ⟨h1, h2, h3, h4, rfl⟩ | ⟨h, rfl, rfl⟩⟩
          · have tm : ((m : Int) == 0) = true := beq_iff_eq.2 (by omega)
            have tm' : (m == 0) = true := beq_iff_eq.2 (by omega)
            clear h
            have hf := (hq.resolve_right (fun h => absurd h.1 (by decide))).2
            have HJ := Lib.hid ((HI.out.same hf).up (Nat.le_succ k))
            clear hq hf
            go_upto_region 21 with (fail)
            clear tm tm'
            have HR4 := Lib.hid (reads_fr HR.out HJ.out.fr (fun _ _ _ => id))
            obtain ⟨ad, eA, hx⟩ := HR4.out.2.2 (by rw [← HLN.out]; omega)
            cases eA
            have hxk := hx k (by rw [← HLN.out]; exact hkl)
            obtain ⟨x, hx0⟩ : ∃ x : Nat, l.getD k 0 = (x : Int) := ⟨(l.getD k 0).toNat, by have := (HBY.out _ (show l.getD k 0 ∈ l by rw [show l.getD k 0 = l[k]'(by rw [← HLN.out]; exact hkl) by simp [List.getD, show k < l.length by rw [← HLN.out]; exact hkl]]; exact List.getElem_mem _)).1; omega⟩
            have hx255 : x < 256 := by have := (HBY.out _ (show l.getD k 0 ∈ l by rw [show l.getD k 0 = l[k]'(by rw [← HLN.out]; exact hkl) by simp [List.getD, show k < l.length by rw [← HLN.out]; exact hkl]]; exact List.getElem_mem _)).2; omega
            rw [hx0] at hxk
            have HKX := Lib.hid (wf64 (k := (x : Int)) (by omega) (by omega))
            clear hx hx0
            go_wp2_with fail
            have hi1 : (x : Int) < 256 := by omega
            have hi0 : (0 : Int) ≤ (x : Int) := by omega
            rcases HJ.out.tell x hx255 with ⟨hfx, hgx⟩ | ⟨hfx, hgx⟩
            · have HFX := Lib.hid hfx
              have HGX := Lib.hid hgx
              refine (close_none (x : Int) HKX.out _ HJ.out.tab hfx).mono ?_
              rintro e w5 ⟨rfl, hf5⟩
              have HJ5 := Lib.hid ((HJ.out.same hf5).same ((Fr.refl (fun _ => False) _).alloc (.cells #[.int .i64 0, .pointer none, .bool false, .bool false, .bool false, .bool false, .int .i64 0] 32)))
              clear hf5 hfx hgx hxk
              have c0 := (HJ5.out.op.cell x).trans (opA_get _ x hx255)
              rw [HGX.out] at c0
              have f0 := HJ5.out.op.frozen x
              go_wp2_with fail
              go_roundg (200 - (k + 1))
              case measure => omega
              case rel => exact Lib.hid ⟨k + 1, _, _, _, _, _, by go_num, by omega, Nat.le_refl _, HJ5.out.set x hx255 0 (HJ5.out.tell.keep x HFX.out)⟩
            · obtain ⟨s', hs'⟩ := Option.ne_none_iff_exists'.1 hfx
              have hat := HJ.out.own.at_ _ s' hs'
              have HFX := Lib.hid hs'
              have HGX := Lib.hid hgx
              refine (close_last (x : Int) s' _ false _ false 0 HKX.out _ HJ.out.tab hs' hat.1 hat.2).mono ?_
              rintro e w5 ⟨rfl, ht5, hx5, hf5⟩
              have HO5 := Lib.hid (HJ.out.op.fr hf5 (fun e => e.elim (fun e => (HJ.out.tab.ne_of HJ.out.op (by decide)).2 e) (fun e => hat.2.ne HJ.out.op (by decide) e.symm)))
              have HJ5 := Lib.hid (fun o => HJ.out.shut HFX.out ht5 hf5 hx255 o)
              simp only [opC]
              clear hf5 ht5 hx5 hfx hgx hxk hs' hat
              have c0 := ((HO5.out.alloc (.cells #[.int .i64 (nd (x : Int)), .pointer none, .bool false, .bool false, .bool false, .bool false, .int .i64 0] 32)).cell x).trans (opA_get _ x hx255)
              have f0 := (HO5.out.alloc (.cells #[.int .i64 (nd (x : Int)), .pointer none, .bool false, .bool false, .bool false, .bool false, .int .i64 0] 32)).frozen x
              rw [HGX.out] at c0
              go_wp2_with fail
              go_roundg (200 - (k + 1))
              case measure => omega
              case rel => exact Lib.hid ⟨k + 1, _, _, _, _, _, by go_num, by omega, Nat.le_refl _, HJ5.out _⟩
          · exfalso
            obtain ⟨r', rfl⟩ := Int.eq_ofNat_of_zero_le h1
            rcases HI.out.tell r' (by omega) with ⟨_, e⟩ | ⟨e, _⟩
            · rw [HG.out r' (by omega)] at e; exact absurd e (by decide)
            · exact e h3
          · have tm : ((m : Int) == 0) = false := beq_eq_false_iff_ne.2 (by omega)
            have tm' : (m == 0) = false := beq_eq_false_iff_ne.2 (by omega)
            clear h h0
            have hf := (hq.resolve_right (fun h => absurd h.1 (by decide))).2
            have HJ := Lib.hid ((HI.out.same hf).up (Nat.le_succ k))
            clear hq hf
            go_upto_region 21 with (fail)
            clear tm tm'
            have HR4 := Lib.hid (reads_fr HR.out HJ.out.fr (fun _ _ _ => id))
            obtain ⟨ad, eA, hx⟩ := HR4.out.2.2 (by rw [← HLN.out]; omega)
            cases eA
            have hxk := hx k (by rw [← HLN.out]; exact hkl)
            obtain ⟨x, hx0⟩ : ∃ x : Nat, l.getD k 0 = (x : Int) := ⟨(l.getD k 0).toNat, by have := (HBY.out _ (show l.getD k 0 ∈ l by rw [show l.getD k 0 = l[k]'(by rw [← HLN.out]; exact hkl) by simp [List.getD, show k < l.length by rw [← HLN.out]; exact hkl]]; exact List.getElem_mem _)).1; omega⟩
            have hx255 : x < 256 := by have := (HBY.out _ (show l.getD k 0 ∈ l by rw [show l.getD k 0 = l[k]'(by rw [← HLN.out]; exact hkl) by simp [List.getD, show k < l.length by rw [← HLN.out]; exact hkl]]; exact List.getElem_mem _)).2; omega
            rw [hx0] at hxk
            have HKX := Lib.hid (wf64 (k := (x : Int)) (by omega) (by omega))
            clear hx hx0
            go_wp2_with fail
            have hi1 : (x : Int) < 256 := by omega
            have hi0 : (0 : Int) ≤ (x : Int) := by omega
            rcases HJ.out.tell x hx255 with ⟨hfx, hgx⟩ | ⟨hfx, hgx⟩
            · have HFX := Lib.hid hfx
              have HGX := Lib.hid hgx
              refine (close_none (x : Int) HKX.out _ HJ.out.tab hfx).mono ?_
              rintro e w5 ⟨rfl, hf5⟩
              have HJ5 := Lib.hid ((HJ.out.same hf5).same ((Fr.refl (fun _ => False) _).alloc (.cells #[.int .i64 0, .pointer none, .bool false, .bool false, .bool false, .bool false, .int .i64 0] 32)))
              clear hf5 hfx hgx hxk
              have c0 := (HJ5.out.op.cell x).trans (opA_get _ x hx255)
              rw [HGX.out] at c0
              have f0 := HJ5.out.op.frozen x
              go_wp2_with fail
              go_roundg (200 - (k + 1))
              case measure => omega
              case rel => exact Lib.hid ⟨k + 1, _, _, _, _, _, by go_num, by omega, Nat.le_refl _, HJ5.out.set x hx255 0 (HJ5.out.tell.keep x HFX.out)⟩
            · obtain ⟨s', hs'⟩ := Option.ne_none_iff_exists'.1 hfx
              have hat := HJ.out.own.at_ _ s' hs'
              have HFX := Lib.hid hs'
              have HGX := Lib.hid hgx
              refine (close_last (x : Int) s' _ false _ false 0 HKX.out _ HJ.out.tab hs' hat.1 hat.2).mono ?_
              rintro e w5 ⟨rfl, ht5, hx5, hf5⟩
              have HO5 := Lib.hid (HJ.out.op.fr hf5 (fun e => e.elim (fun e => (HJ.out.tab.ne_of HJ.out.op (by decide)).2 e) (fun e => hat.2.ne HJ.out.op (by decide) e.symm)))
              have HJ5 := Lib.hid (fun o => HJ.out.shut HFX.out ht5 hf5 hx255 o)
              simp only [opC]
              clear hf5 ht5 hx5 hfx hgx hxk hs' hat
              have c0 := ((HO5.out.alloc (.cells #[.int .i64 (nd (x : Int)), .pointer none, .bool false, .bool false, .bool false, .bool false, .int .i64 0] 32)).cell x).trans (opA_get _ x hx255)
              have f0 := (HO5.out.alloc (.cells #[.int .i64 (nd (x : Int)), .pointer none, .bool false, .bool false, .bool false, .bool false, .int .i64 0] 32)).frozen x
              rw [HGX.out] at c0
              go_wp2_with fail
              go_roundg (200 - (k + 1))
              case measure => omega
              case rel => exact Lib.hid ⟨k + 1, _, _, _, _, _, by go_num, by omega, Nat.le_refl _, HJ5.out _⟩
    · by_cases hkl : k < len
      · have t1 : decide ((k : Int) < (len : Int)) = true := decide_eq_true (by omega)
        have t1' : decide (k < len) = true := decide_eq_true (by omega)
        have t2 : decide ((k : Int) < 200) = false := decide_eq_false (by omega)
        have t2' : decide (k < 200) = false := decide_eq_false (by omega)
        go_wp2_with fail
        go_ret
        exact ⟨rfl, HI.out.fr⟩
      · have t1 : decide ((k : Int) < (len : Int)) = false := decide_eq_false (by omega)
        have t1' : decide (k < len) = false := decide_eq_false (by omega)
        go_wp2_with fail
        go_ret
        exact ⟨rfl, HI.out.fr⟩
theorem least_walk (a0 : Int) (a1 : Option Addr) (len1 cap1 : Nat) (z1 : List Int) (W : World) (w0 : (Lit.int .u8 a0).wf = true) (w1 : (a1 = none ∧ len1 = 0 ∧ cap1 = 0 ∧ z1 = []) ∨ ∃ x, a1 = some x ∧ len1 ≤ cap1 ∧ cap1 ≤ maxLen ∧ z1.length = cap1 ∧ (∀ i, i < z1.length → W.cell? (x.add i) = some (.int .u8 (z1.getD i 0))) ∧ ∀ n ∈ z1, (Lit.int .u8 n).wf = true)
    (_ : len1 * 1 ≤ 140737488351232) :
    Calls Try.prog 3 #[.int .u8 a0, .slice a1 len1 cap1] W fun e W' => e = .returned (.bool true) ∧ Below W.heap.size W W' := by
  have b0 := Go.bounds_u8 w0
  obtain ⟨m, rfl⟩ : ∃ m : Nat, a0 = m := ⟨a0.toNat, by omega⟩
  obtain ⟨l0, rfl, hr0, hm0, hw0, hc0⟩ := ReadsInt.ofRowC w1
  exact (least_any m (by omega) a1 cap1 l0 W hr0.2.1 hr0 (fun y hy => Go.bounds_u8 (hw0 y hy))).mono fun _ _ g => ⟨g.1, Fr.below (Below.refl _ _) g.2 (fun _ _ => id)⟩
end Go.Proofs.Ytfmlajgabogobaa.Ds
