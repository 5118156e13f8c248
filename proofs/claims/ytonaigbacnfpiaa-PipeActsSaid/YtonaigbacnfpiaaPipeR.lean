/- The contracts of bytes.Clone and of the pipe's Read, Close and Ends, walked. -/
import Derived.Test.YtonaigbacnfpiaaPipe
import Derived.WalkSpells

namespace Go.Proofs.Ytonaigbacnfpiaa.Pi
open Go Go.RowKit Go.Proofs.YtonaigbacnfpiaaW.PrintWords Go.Proofs.YtonaigbacnfpiaaW.PrintLast Go.Proofs.YtonaigbacnfpiaaW.PrintMore
open Go.Proofs.Ytonaigbacnfpiaa.Hp
attribute [local go_sem] max2_int min2_int max_two min_two max_three min_three max_four min_four
set_option linter.unusedVariables false
set_option linter.unusedSimpArgs false
theorem reads_alloc {w : World} {k : IntKind} {A : Option Addr} {n : Nat} {xs : List Int} (h : ReadsInt w k A n xs) (o : Obj) : ReadsInt (w.alloc o) k A n xs :=
  reads_fr (S := fun _ => False) h ((Fr.refl _ _).alloc o) (fun _ _ _ hf => hf)
theorem clone_any (w : World) (A : Option Addr) (c : Nat) (xs : List Int) (hr : ReadsInt w .u8 A xs.length xs) (hl : xs.length ≤ 140737488355328) :
    Calls Try.prog 19 #[.slice A xs.length c] w fun e w' => ∃ v, e = .returned v ∧ Row w' 5 .u8 v xs ∧ Fr (fun _ => False) w w' ∧ (∀ k, v.ownBlock = some k → w.heap.size ≤ k) := by
  have heq := fun w => Lib.run_eql_slice_nil (P := Try.prog) w 31 5 A xs.length c 0 0 Try.underlying31
  rcases A with _ | ad
  · have h0 : xs = [] := by
      rcases Nat.eq_zero_or_pos xs.length with h | h
      · exact List.eq_nil_of_length_eq_zero h
      · obtain ⟨ad, e, _⟩ := hr.2.2 h; cases e
    subst h0
    clear hr
    simp only [List.length_nil] at heq ⊢
    go_enter Try.func19, Try.ntmps19
    go_wp2
    go_ret
    exact ⟨_, rfl, Row.nil _ _ _, Fr.refl _ _, by simp [Value.ownBlock]⟩
  · have HR := Lib.hid hr
    clear hr
    go_enter Try.func19, Try.ntmps19
    go_wp2_with (at_builtin; refine row_app rfl (.tmp 5) (.tmp 6) 31 5 .u8 1 rfl Try.underlying31 info5 (by decide) (.slice (some ⟨w.heap.size, 0, none⟩) 0 0) [] xs (some ad) xs.length c rfl rfl (Row.empty _ _ _) (reads_alloc HR.out _) (by simp; omega) ?_; intro v1 w1 ho1 hf1 hat1; have HA := Lib.hid ho1; have HF := Lib.hid hf1; have HT := Lib.hid hat1; clear ho1 hf1 hat1)
    go_ret
    refine ⟨v1, rfl, HA.out, ((Fr.refl (fun _ => False) w).alloc _).trans HF.out (fun i hi e => ?_), fun k hk => ?_⟩
    · simp [Value.ownBlock] at e; omega
    · rcases HT.out with e | ⟨b, e, hb⟩
      · rw [hk] at e; simp [Value.ownBlock] at e; omega
      · rw [hk] at e; injection e with e; simp at hb; omega
theorem clone_n (w : World) (A : Option Addr) (c n : Nat) (xs : List Int) (hr : ReadsInt w .u8 A n xs) (hl : n ≤ 140737488355328) :
    Calls Try.prog 19 #[.slice A n c] w fun e w' => ∃ v, e = .returned v ∧ Row w' 5 .u8 v xs ∧ Fr (fun _ => False) w w' ∧ (∀ k, v.ownBlock = some k → w.heap.size ≤ k) := by
  have h1 := hr.1
  subst h1
  exact clone_any w A c xs hr hl
theorem cut_from (A : Option Addr) (c : Nat) (xs : List Int) (j : Nat) (hj : j ≤ xs.length) (hc : xs.length ≤ c) :
    ∃ A' c', (∀ W : World, (Instr.slice 31 (.slice A xs.length c) (some (.int .i64 (j : Int))) none none).run Try.prog W = .ok (.slice A' (xs.drop j).length c') W) ∧
      (∀ w : World, ReadsInt w .u8 A xs.length xs → ReadsInt w .u8 A' (xs.drop j).length (xs.drop j)) ∧ (xs.drop j).length ≤ c' := by
  obtain ⟨i0, hi, _, hsz, _⟩ := info_parts info5
  obtain ⟨A', h1, h2, h3⟩ := print_drop_of (P := Try.prog) (Value.int .u8) 0 31 5 .i64 Try.underlying31 hi hsz A c xs (j : Int) (by omega) (by omega) hc
  rw [Int.toNat_natCast] at h1 h2 h3
  exact ⟨A', _, h1, fun w h => h2 w h, h3⟩
theorem reads_take {w : World} {A : Option Addr} {xs : List Int} (h : ReadsInt w .u8 A xs.length xs) (m : Nat) (hm : m ≤ xs.length) : ReadsInt w .u8 A m (xs.take m) := by
  have hx := h.2.1
  refine ⟨by rw [List.length_take]; omega, by omega, fun hn => ?_⟩
  obtain ⟨ad, e, hcl⟩ := h.2.2 (by omega)
  refine ⟨ad, e, fun j hj => ?_⟩
  rw [hcl j (by omega)]
  simp [List.getD_eq_getElem?_getD, List.getElem?_take, hj]
section
variable (w : World) (g : Nat) (v : Value) (l : List Int) (r q : Int)
/-- What Read answers. -/
def rE (n : Int) (len : Nat) (q : Int) : Int := if n < 0 then 22 else if n = 0 then 0 else if len = 0 then (if q = 0 then 0 else 11) else 0
set_option maxHeartbeats 1000000 in
theorem read_none (n : Int) (h : Pipe w g v l r q) (hn : n ≤ 0 ∨ l = []) :
    Calls Try.prog 11 #[.pointer (some ⟨g, 0, none⟩), .int .i64 n] w fun e w' => e = .returned (.tuple #[.slice none 0 0, .int .i64 (rE n l.length q)]) ∧ w = w' := by
  obtain ⟨A1, c1, rfl, hc1, hr1⟩ := h.row.slice
  have k0 := h.blk.cell 0
  have k2 := h.blk.cell 2
  simp at k0 k2
  have hm := hr1.2.1
  clear h hr1
  unfold rE
  by_cases h1 : n < 0
  · rw [if_pos h1]
    have t1 : decide (n < 0) = true := decide_eq_true h1
    go_enter Try.func11, Try.ntmps11
    go_wp2
    go_ret2
    exact ⟨rfl, rfl⟩
  · rw [if_neg h1]
    have t1 : decide (n < 0) = false := decide_eq_false h1
    by_cases h2 : n = 0
    · rw [if_pos h2]
      have t2 : (n == 0) = true := beq_iff_eq.2 h2
      clear h2 hn
      go_enter Try.func11, Try.ntmps11
      go_wp2
      go_ret2
      exact ⟨rfl, rfl⟩
    · rw [if_neg h2]
      have t2 : (n == 0) = false := beq_eq_false_iff_ne.2 h2
      have hl : l = [] := by rcases hn with h | h; omega; exact h
      subst hl
      clear h2 hn
      simp only [List.length_nil] at k0 hc1 ⊢
      by_cases h3 : q = 0
      · rw [if_pos trivial, if_pos h3]
        have t3 : (q == 0) = true := beq_iff_eq.2 h3
        clear h3
        go_enter Try.func11, Try.ntmps11
        go_wp2
        go_ret2
        exact ⟨rfl, rfl⟩
      · rw [if_pos trivial, if_neg h3]
        have t3 : (q == 0) = false := beq_eq_false_iff_ne.2 h3
        clear h3
        go_enter Try.func11, Try.ntmps11
        go_wp2
        go_ret2
        exact ⟨rfl, rfl⟩
theorem read_after {w : World} {g : Nat} {v u : Value} {l d : List Int} {r q : Int} (h : Pipe w g v l r q) (hu : Row w 5 .u8 u d) :
    Pipe (w.setCell ⟨g, 0, none⟩ u) g u d r q ∧ Fr (fun k => k = g) w (w.setCell ⟨g, 0, none⟩ u) := by
  have hfr : Fr (fun k => k = g) w (w.setCell ⟨g, 0, none⟩ u) := (Fr.refl (fun k => k = g) w).setCell (p := ⟨g, 0, none⟩) (.inl rfl) u
  have hs := h.blk.set 0 u
  exact ⟨⟨by simpa using hs, hu.fr hfr (fun b e => hu.ne_blk h.blk (by decide) b e)⟩, hfr⟩
set_option maxHeartbeats 1000000 in
theorem read_some (n : Int) (m : Nat) (h : Pipe w g v l r q) (hn : 0 < n) (hl : 0 < l.length) (hl4 : l.length ≤ 4096) (hm1 : m ≤ l.length) (hm2 : (m : Int) = if (l.length : Int) < n then (l.length : Int) else n) :
    Calls Try.prog 11 #[.pointer (some ⟨g, 0, none⟩), .int .i64 n] w fun e w' => ∃ u v', e = .returned (.tuple #[u, .int .i64 0]) ∧
      Row w' 5 .u8 u (l.take m) ∧ Pipe w' g v' (l.drop m) r q ∧ Fr (fun k => k = g) w w' ∧ (∀ k, v'.ownBlock = some k → w.heap.size ≤ k) ∧ (∀ k, u.ownBlock = some k → w.heap.size ≤ k) := by
  have HP := Lib.hid h
  obtain ⟨A1, c1, rfl, hc1, hr1⟩ := h.row.slice
  have k0 := h.blk.cell 0
  simp at k0
  have HR := Lib.hid hr1
  have hlt : l.length ≤ 4096 := hl4
  have hcut := fun W => cut_to A1 c1 l.length m hm1 hc1 W
  obtain ⟨A2, c2, hcut2, hrd2, hc2⟩ := cut_from A1 c1 l m hm1 hc1
  have HR2 := Lib.hid (hrd2 _ hr1)
  have t1 : decide (n < 0) = false := decide_eq_false (by omega)
  have t2 : (n == 0) = false := beq_eq_false_iff_ne.2 (by omega)
  have t3 : (l.length == 0) = false := beq_eq_false_iff_ne.2 (by omega)
  have t4 : ((l.length : Int) == 0) = false := beq_eq_false_iff_ne.2 (by omega)
  have HM := Lib.hid hm2
  clear h hr1 hrd2 hm2
  obtain ⟨d, hd⟩ : ∃ d, d = l.drop m := ⟨_, rfl⟩
  have hdl : d.length ≤ 4096 := by rw [hd, List.length_drop]; omega
  rw [← hd] at hcut2 HR2 hc2 ⊢
  obtain ⟨o, ho⟩ : ∃ o, o = l.take m := ⟨_, rfl⟩
  rw [← ho]
  have HTK : Hid (ReadsInt w .u8 A1 m o) := Lib.hid (by rw [ho]; exact reads_take HR.out m hm1)
  clear hd ho
  by_cases hnl : (l.length : Int) < n
  · have hml : (m : Int) = l.length := by have := HM.out; rw [if_pos hnl] at this; exact this
    have hml2 : m = l.length := by omega
    rw [hml] at hcut hcut2
    have HML := Lib.hid hml2
    clear hml hml2 
    go_enter Try.func11, Try.ntmps11
    go_wp2_with fail
    refine (clone_n _ A1 c1 _ o HTK.out (by omega)).mono ?_
    rintro e w1 ⟨u1, rfl, hu1, hf1, hb1⟩
    have HP1 := Lib.hid (HP.out.fr hf1 id (fun _ _ => id))
    have hs1 := hf1.size
    have HU := Lib.hid hu1
    have HF1 := Lib.hid hf1
    have HB1 := Lib.hid hb1
    have HR3 := Lib.hid (reads_fr HR2.out hf1 (fun _ _ _ => id))
    have k1 := HP1.out.blk.cell 0
    have f1 := HP1.out.blk.frozen 0
    simp at k1
    clear hu1 hf1 hb1
    go_wp2_with fail
    refine (clone_n _ A2 c2 _ d HR3.out (by have := HR3.out.1; omega)).mono ?_
    rintro e w2 ⟨u2, rfl, hu2, hf2, hb2⟩
    obtain ⟨A3, c3, rfl, _, _⟩ := hu2.slice
    have HP2 := Lib.hid (HP1.out.fr hf2 id (fun _ _ => id))
    have k2 := HP2.out.blk.cell 0
    have f2 := HP2.out.blk.frozen 0
    simp at k2
    have hs2 := hf2.size
    have HA := Lib.hid (read_after HP2.out hu2)
    have HU2 := Lib.hid (HU.out.fr hf2 (fun _ _ => id))
    have HNE : Hid (∀ b, u1.ownBlock = some b → b ≠ g) := Lib.hid (fun b e => HU.out.ne_blk HP1.out.blk (by decide) b e)
    have HF2 := Lib.hid hf2
    have HB2 := Lib.hid hb2
    clear hu2 hf2 hb2
    obtain ⟨A4, c4, rfl, _, _⟩ := HU.out.slice
    go_wp2_with fail
    go_ret2
    refine ⟨_, _, rfl, HU2.out.fr HA.out.2 HNE.out, HA.out.1, (HF1.out.trans HF2.out (fun _ _ => id)).mono (fun _ _ => False.elim) |>.trans HA.out.2 (fun _ _ => id), fun k e => Nat.le_trans hs1 (HB2.out k e), HB1.out⟩
  · have hml : (m : Int) = n := by have := HM.out; rw [if_neg hnl] at this; exact this
    rw [hml] at hcut hcut2
    have HML := Lib.hid hml
    clear hml
    go_enter Try.func11, Try.ntmps11
    go_wp2_with fail
    refine (clone_n _ A1 c1 _ o HTK.out (by omega)).mono ?_
    rintro e w1 ⟨u1, rfl, hu1, hf1, hb1⟩
    have HP1 := Lib.hid (HP.out.fr hf1 id (fun _ _ => id))
    have hs1 := hf1.size
    have HU := Lib.hid hu1
    have HF1 := Lib.hid hf1
    have HB1 := Lib.hid hb1
    have HR3 := Lib.hid (reads_fr HR2.out hf1 (fun _ _ _ => id))
    have k1 := HP1.out.blk.cell 0
    have f1 := HP1.out.blk.frozen 0
    simp at k1
    clear hu1 hf1 hb1
    go_wp2_with fail
    refine (clone_n _ A2 c2 _ d HR3.out (by have := HR3.out.1; omega)).mono ?_
    rintro e w2 ⟨u2, rfl, hu2, hf2, hb2⟩
    obtain ⟨A3, c3, rfl, _, _⟩ := hu2.slice
    have HP2 := Lib.hid (HP1.out.fr hf2 id (fun _ _ => id))
    have k2 := HP2.out.blk.cell 0
    have f2 := HP2.out.blk.frozen 0
    simp at k2
    have hs2 := hf2.size
    have HA := Lib.hid (read_after HP2.out hu2)
    have HU2 := Lib.hid (HU.out.fr hf2 (fun _ _ => id))
    have HNE : Hid (∀ b, u1.ownBlock = some b → b ≠ g) := Lib.hid (fun b e => HU.out.ne_blk HP1.out.blk (by decide) b e)
    have HF2 := Lib.hid hf2
    have HB2 := Lib.hid hb2
    clear hu2 hf2 hb2
    obtain ⟨A4, c4, rfl, _, _⟩ := HU.out.slice
    go_wp2_with fail
    go_ret2
    refine ⟨_, _, rfl, HU2.out.fr HA.out.2 HNE.out, HA.out.1, (HF1.out.trans HF2.out (fun _ _ => id)).mono (fun _ _ => False.elim) |>.trans HA.out.2 (fun _ _ => id), fun k e => Nat.le_trans hs1 (HB2.out k e), HB1.out⟩
end
end Go.Proofs.Ytonaigbacnfpiaa.Pi
