/- The document's pipe: Read and Write, walked. -/
import Derived.Test.YtonaigbacnfpiaaPipeD
namespace Go.Proofs.Ytonaigbacnfpiaa.Pi
open Go Go.RowKit Go.Proofs.YtonaigbacnfpiaaW.PrintWords Go.Proofs.YtonaigbacnfpiaaW.PrintLast Go.Proofs.YtonaigbacnfpiaaW.PrintMore
open Go.Proofs.Ytonaigbacnfpiaa.Hp
attribute [local go_sem] max2_int min2_int max_two min_two max_three min_three max_four min_four
set_option linter.unusedVariables false
set_option linter.unusedSimpArgs false
theorem RPipe.store {w w1 : World} {g : Nat} {v u : Value} {l d : List Int} {r q : Int} (h : RPipe w g v l r q) (hf : Fr (fun _ => False) w w1) (hu : Row w1 5 .u8 u d) :
    RPipe (w1.setCell ⟨g, 0, none⟩ u) g u d r q ∧ Fr (fun k => k = g) w (w1.setCell ⟨g, 0, none⟩ u) := by
  have h1 := h.fr hf id (fun _ _ => id)
  have hfr : Fr (fun k => k = g) w1 (w1.setCell ⟨g, 0, none⟩ u) := (Fr.refl (fun k => k = g) w1).setCell (p := ⟨g, 0, none⟩) (.inl rfl) u
  have hs := h1.blk.set 0 u
  exact ⟨⟨by simpa using hs, hu.fr hfr (fun b e => hu.ne_blk h1.blk (by decide) b e)⟩, (hf.mono (fun _ _ => False.elim)).trans hfr (fun _ _ => id)⟩
theorem RPipe.cell_new {w : World} {g : Nat} {v : Value} {l : List Int} {r q : Int} (h : RPipe w g v l r q) : (w.alloc (.cells #[] 5)).cell? ⟨g, 0, none⟩ = some v := by
  have e := ((h.blk.fr ((Fr.refl (fun _ => False) w).alloc (.cells #[] 5)) id).cell 0)
  simpa using e
/-- A new row that an append begins in a block of its own: nothing old has changed. -/
theorem fr_new {w w1 : World} {e : TypeId} (hf : Fr (fun b => (Value.slice (some ⟨w.heap.size, 0, none⟩) 0 0).ownBlock = some b) (w.alloc (.cells #[] e)) w1) : Fr (fun _ => False) w w1 :=
  ((Fr.refl (fun _ => False) w).alloc _).trans hf (fun i hi e => by simp [Value.ownBlock] at e; omega)
theorem own_new {w : World} {e : TypeId} {v1 : Value} (h : v1.ownBlock = (Value.slice (some ⟨w.heap.size, 0, none⟩) 0 0).ownBlock ∨ ∃ b, v1.ownBlock = some b ∧ (w.alloc (.cells #[] e)).heap.size ≤ b) : ∀ k, v1.ownBlock = some k → w.heap.size ≤ k := by
  intro k hk
  rcases h with e | ⟨b, e, hb⟩
  · rw [hk] at e; simp [Value.ownBlock] at e; omega
  · rw [hk] at e; injection e with e; simp at hb; omega
section
variable (w : World) (g : Nat) (v : Value) (l : List Int) (r q : Int)
theorem rread_none (n : Int) (h : RPipe w g v l r q) (hn : n ≤ 0 ∨ l = []) :
    Calls Try.prog 12 #[.pointer (some ⟨g, 0, none⟩), .int .i64 n] w fun e w' => e = .returned (.tuple #[.slice none 0 0, .int .i64 (rE n l.length q)]) ∧ w = w' := by
  obtain ⟨A1, c1, rfl, hc1, hr1⟩ := h.row.slice
  have k0 := h.blk.cell 0
  have k2 := h.blk.cell 2
  simp at k0 k2
  have hm := hr1.2.1
  clear h hr1
  unfold rE
  by_cases h1 : n < 0
  · rw [if_pos h1]
    have t1 : decide (n < 0) = true := decide_eq_true h1
    clear hn
    go_enter Try.func12, Try.ntmps12
    go_wp2
    go_ret2
    exact ⟨rfl, rfl⟩
  · rw [if_neg h1]
    have t1 : decide (n < 0) = false := decide_eq_false h1
    by_cases h2 : n = 0
    · rw [if_pos h2]
      have t2 : (n == 0) = true := beq_iff_eq.2 h2
      clear h2 hn
      go_enter Try.func12, Try.ntmps12
      go_wp2
      go_ret2
      exact ⟨rfl, rfl⟩
    · rw [if_neg h2]
      have t2 : (n == 0) = false := beq_eq_false_iff_ne.2 h2
      have hl : l = [] := by rcases hn with h | h; omega; exact h
      subst hl
      clear h2 hn
      simp only [List.length_nil] at k0 hc1 ⊢
      by_cases h3 : q = 0
      · rw [if_pos trivial, if_pos h3]
        have t3 : (q == 0) = true := beq_iff_eq.2 h3
        clear h3
        go_enter Try.func12, Try.ntmps12
        go_wp2
        go_ret2
        exact ⟨rfl, rfl⟩
      · rw [if_pos trivial, if_neg h3]
        have t3 : (q == 0) = false := beq_eq_false_iff_ne.2 h3
        clear h3
        go_enter Try.func12, Try.ntmps12
        go_wp2
        go_ret2
        exact ⟨rfl, rfl⟩
def RReadPost (w : World) (g : Nat) (o d : List Int) (r q : Int) (e : Ending) (w' : World) : Prop := ∃ u v', e = .returned (.tuple #[u, .int .i64 0]) ∧
      Row w' 5 .u8 u o ∧ RPipe w' g v' d r q ∧ Fr (fun k => k = g) w w' ∧ (∀ k, v'.ownBlock = some k → w.heap.size ≤ k) ∧ (∀ k, u.ownBlock = some k → w.heap.size ≤ k)
set_option maxHeartbeats 1000000 in
theorem rread_some (n : Int) (m : Nat) (h : RPipe w g v l r q) (hn : 0 < n) (hl : 0 < l.length) (hl4 : l.length ≤ 4096) (hm1 : m ≤ l.length) (hm2 : (m : Int) = if (l.length : Int) < n then (l.length : Int) else n) :
    Calls Try.prog 12 #[.pointer (some ⟨g, 0, none⟩), .int .i64 n] w (RReadPost w g (l.take m) (l.drop m) r q) := by
  have HP := Lib.hid h
  obtain ⟨A1, c1, rfl, hc1, hr1⟩ := h.row.slice
  have k0 := h.blk.cell 0
  simp at k0
  have HR := Lib.hid hr1
  have hlt : l.length ≤ 4096 := hl4
  have hcut := fun W => cut_to A1 c1 l.length m hm1 hc1 W
  obtain ⟨A2, c2, hcut2, hrd2, hc2⟩ := cut_from A1 c1 l m hm1 hc1
  have HR2 := Lib.hid (hrd2 _ hr1)
  have t1 : decide (n < 0) = false := decide_eq_false (by omega)
  have t2 : (n == 0) = false := beq_eq_false_iff_ne.2 (by omega)
  have t3 : (l.length == 0) = false := beq_eq_false_iff_ne.2 (by omega)
  have t4 : ((l.length : Int) == 0) = false := beq_eq_false_iff_ne.2 (by omega)
  have HM := Lib.hid hm2
  have k0a := h.cell_new
  clear h hr1 hrd2 hm2
  obtain ⟨d, hd⟩ : ∃ d, d = l.drop m := ⟨_, rfl⟩
  have hdl : d.length ≤ 4096 := by rw [hd, List.length_drop]; omega
  rw [← hd] at hcut2 HR2 hc2 ⊢
  obtain ⟨o, ho⟩ : ∃ o, o = l.take m := ⟨_, rfl⟩
  rw [← ho]
  have HTK : Hid (ReadsInt w .u8 A1 m o) := Lib.hid (by rw [ho]; exact reads_take HR.out m hm1)
  clear hd ho
  by_cases hnl : (l.length : Int) < n
  · have t5 : decide ((l.length : Int) < n) = true := decide_eq_true hnl
    have hml : (m : Int) = l.length := by have := HM.out; rw [if_pos hnl] at this; exact this
    rw [hml] at hcut hcut2
    have HML := Lib.hid hml
    clear hml
    go_enter Try.func12, Try.ntmps12
    go_wp2_with (first | (at_builtin; refine row_app rfl (.tmp 34) (.tmp 40) 31 5 .u8 1 rfl Try.underlying31 info5 (by decide) (.slice (some ⟨w.heap.size, 0, none⟩) 0 0) [] o A1 m c1 rfl rfl (Row.empty w _ _) (reads_alloc HTK.out _) (by simp; omega) ?_; intro v1 w1 ho1 hf1 hat1; rw [List.nil_append] at ho1; have HU := Lib.hid ho1; have HF1 := Lib.hid (fr_new (w := w) (e := 5) hf1); have HT := Lib.hid (own_new (w := w) (e := 5) hat1); clear ho1 hf1 hat1; have HP1 := Lib.hid (HP.out.fr HF1.out id (fun _ _ => id)); have k1 := HP1.out.blk.cell 0; have f1 := HP1.out.blk.frozen 0; simp at k1; have k1a := HP1.out.cell_new; have HR3 := Lib.hid (reads_fr HR2.out HF1.out (fun _ _ _ => id))) | (at_builtin; refine row_app rfl (.tmp 43) (.tmp 49) 31 5 .u8 1 rfl Try.underlying31 info5 (by decide) (.slice (some ⟨w1.heap.size, 0, none⟩) 0 0) [] d A2 d.length c2 rfl rfl (Row.empty w1 _ _) (reads_alloc HR3.out _) (by simp; omega) ?_; intro v2 w2 ho2 hf2 hat2; rw [List.nil_append] at ho2; have HU2 := Lib.hid (HU.out.fr (fr_new (w := w1) (e := 5) hf2) (fun _ _ => id)); have HA := Lib.hid (HP1.out.store (fr_new (w := w1) (e := 5) hf2) ho2); have HF2 := Lib.hid (fr_new (w := w1) (e := 5) hf2); have HT2 := Lib.hid (own_new (w := w1) (e := 5) hat2); have HP2 := Lib.hid (HP1.out.fr (fr_new (w := w1) (e := 5) hf2) id (fun _ _ => id)); obtain ⟨A4, c4, rfl, _, _⟩ := ho2.slice; clear ho2 hf2 hat2; have k2 := HP2.out.blk.cell 0; have f2 := HP2.out.blk.frozen 0; simp at k2))
    obtain ⟨A5, c5, rfl, _, _⟩ := HU.out.slice
    go_wp2
    go_ret2
    refine ⟨_, _, rfl, HU2.out.fr ((Fr.refl (fun k => k = g) _).setCell (p := ⟨g, 0, none⟩) (.inl rfl) _) ?_, HA.out.1, ?_, ?_, HT.out⟩
    · exact fun b e => HU.out.ne_blk HP1.out.blk (by decide) b e
    · exact (HF1.out.mono (fun _ _ => False.elim)).trans HA.out.2 (fun _ _ => id)
    · exact fun k e => Nat.le_trans HF1.out.size (HT2.out k e)
  · have t5 : decide ((l.length : Int) < n) = false := decide_eq_false hnl
    have hml : (m : Int) = n := by have := HM.out; rw [if_neg hnl] at this; exact this
    rw [hml] at hcut hcut2
    have HML := Lib.hid hml
    clear hml
    go_enter Try.func12, Try.ntmps12
    go_wp2_with (first | (at_builtin; refine row_app rfl (.tmp 34) (.tmp 40) 31 5 .u8 1 rfl Try.underlying31 info5 (by decide) (.slice (some ⟨w.heap.size, 0, none⟩) 0 0) [] o A1 m c1 rfl rfl (Row.empty w _ _) (reads_alloc HTK.out _) (by simp; omega) ?_; intro v1 w1 ho1 hf1 hat1; rw [List.nil_append] at ho1; have HU := Lib.hid ho1; have HF1 := Lib.hid (fr_new (w := w) (e := 5) hf1); have HT := Lib.hid (own_new (w := w) (e := 5) hat1); clear ho1 hf1 hat1; have HP1 := Lib.hid (HP.out.fr HF1.out id (fun _ _ => id)); have k1 := HP1.out.blk.cell 0; have f1 := HP1.out.blk.frozen 0; simp at k1; have k1a := HP1.out.cell_new; have HR3 := Lib.hid (reads_fr HR2.out HF1.out (fun _ _ _ => id))) | (at_builtin; refine row_app rfl (.tmp 43) (.tmp 49) 31 5 .u8 1 rfl Try.underlying31 info5 (by decide) (.slice (some ⟨w1.heap.size, 0, none⟩) 0 0) [] d A2 d.length c2 rfl rfl (Row.empty w1 _ _) (reads_alloc HR3.out _) (by simp; omega) ?_; intro v2 w2 ho2 hf2 hat2; rw [List.nil_append] at ho2; have HU2 := Lib.hid (HU.out.fr (fr_new (w := w1) (e := 5) hf2) (fun _ _ => id)); have HA := Lib.hid (HP1.out.store (fr_new (w := w1) (e := 5) hf2) ho2); have HF2 := Lib.hid (fr_new (w := w1) (e := 5) hf2); have HT2 := Lib.hid (own_new (w := w1) (e := 5) hat2); have HP2 := Lib.hid (HP1.out.fr (fr_new (w := w1) (e := 5) hf2) id (fun _ _ => id)); obtain ⟨A4, c4, rfl, _, _⟩ := ho2.slice; clear ho2 hf2 hat2; have k2 := HP2.out.blk.cell 0; have f2 := HP2.out.blk.frozen 0; simp at k2))
    obtain ⟨A5, c5, rfl, _, _⟩ := HU.out.slice
    go_wp2
    go_ret2
    refine ⟨_, _, rfl, HU2.out.fr ((Fr.refl (fun k => k = g) _).setCell (p := ⟨g, 0, none⟩) (.inl rfl) _) ?_, HA.out.1, ?_, ?_, HT.out⟩
    · exact fun b e => HU.out.ne_blk HP1.out.blk (by decide) b e
    · exact (HF1.out.mono (fun _ _ => False.elim)).trans HA.out.2 (fun _ _ => id)
    · exact fun k e => Nat.le_trans HF1.out.size (HT2.out k e)
theorem rwrite_none (A : Option Addr) (c : Nat) (b : List Int) (e : Int) (h : RPipe w g v l r q) (hbm : b.length ≤ 9223372036854775807) (hl : l.length ≤ 4096) (he : e = wE l.length r b.length) (hz : wN l.length r b.length = 0) :
    Calls Try.prog 14 #[.pointer (some ⟨g, 0, none⟩), .slice A b.length c] w fun e' w' => e' = .returned (.tuple #[.int .i64 0, .int .i64 e]) ∧ w = w' := by
  obtain ⟨A1, c1, rfl, hc1, hr1⟩ := h.row.slice
  have k0 := h.blk.cell 0
  have k1 := h.blk.cell 1
  simp at k0 k1
  clear h hr1
  unfold wE at he
  unfold wN at hz
  by_cases hr0 : r = 0
  · rw [if_pos hr0] at he
    have t0 : (r == 0) = true := beq_iff_eq.2 hr0
    clear hr0 hz
    subst he
    go_enter Try.func14, Try.ntmps14
    go_wp2
    go_ret2
    exact ⟨rfl, rfl⟩
  · rw [if_neg hr0] at he hz
    have t0 : (r == 0) = false := beq_eq_false_iff_ne.2 hr0
    clear hr0
    by_cases hb0 : b.length = 0
    · rw [if_pos hb0] at he
      have t1 : ((b.length : Int) == 0) = true := beq_iff_eq.2 (by omega)
      have t1' : (b.length == 0) = true := beq_iff_eq.2 (by omega)
      clear hb0 hz
      subst he
      go_enter Try.func14, Try.ntmps14
      go_wp2
      go_ret2
      exact ⟨rfl, rfl⟩
    · rw [if_neg hb0] at he hz
      have t1 : ((b.length : Int) == 0) = false := beq_eq_false_iff_ne.2 (by omega)
      have t1' : (b.length == 0) = false := beq_eq_false_iff_ne.2 (by omega)
      by_cases hw : l.length = 4096 ∨ (b.length ≤ 512 ∧ 4096 - l.length < b.length)
      · rw [if_pos hw] at he
        subst he
        clear hz
        by_cases h4 : l.length = 4096
        · have t2 : (4096 - (l.length : Int) == 0) = true := beq_iff_eq.2 (by omega)
          clear h4 hw
          go_enter Try.func14, Try.ntmps14
          go_wp2
          go_ret2
          exact ⟨rfl, rfl⟩
        · have t2 : (4096 - (l.length : Int) == 0) = false := beq_eq_false_iff_ne.2 (by omega)
          have t3 : decide ((b.length : Int) ≤ 512) = true := decide_eq_true (by omega)
          have t4 : decide (4096 - (l.length : Int) < (b.length : Int)) = true := decide_eq_true (by omega)
          clear h4 hw
          go_enter Try.func14, Try.ntmps14
          go_wp2
          go_ret2
          exact ⟨rfl, rfl⟩
      · rw [if_neg hw] at hz
        omega
set_option maxHeartbeats 2000000 in
theorem rwrite_some (A : Option Addr) (c : Nat) (b : List Int) (m : Nat) (h : RPipe w g v l r q) (hb : ReadsInt w .u8 A b.length b) (hc : b.length ≤ c) (hr0 : r ≠ 0) (hb0 : 0 < b.length) (hbb : b.length ≤ 1000000) (hl : l.length < 4096) (hcond : ¬ (b.length ≤ 512 ∧ 4096 - l.length < b.length)) (hm : m = min b.length (4096 - l.length)) :
    Calls Try.prog 14 #[.pointer (some ⟨g, 0, none⟩), .slice A b.length c] w fun e w' => ∃ v', e = .returned (.tuple #[.int .i64 m, .int .i64 0]) ∧
      RPipe w' g v' (l ++ b.take m) r q ∧ Fr (fun k => k = g) w w' ∧ (∀ k, v'.ownBlock = some k → w.heap.size ≤ k) := by
  have HP := Lib.hid h
  obtain ⟨A1, c1, rfl, hc1, hr1⟩ := h.row.slice
  have HR := Lib.hid hr1
  have k0 := h.blk.cell 0
  have k1 := h.blk.cell 1
  have f0 := h.blk.frozen 0
  simp at k0 k1
  have hmb : m ≤ b.length := by omega
  have hcut := fun W => cut_to A c b.length m hmb hc W
  have hbm := hb.2.1
  have HB := Lib.hid (reads_take hb m hmb)
  have t0 : (r == 0) = false := beq_eq_false_iff_ne.2 hr0
  have t1 : ((b.length : Int) == 0) = false := beq_eq_false_iff_ne.2 (by omega)
  have t1' : (b.length == 0) = false := beq_eq_false_iff_ne.2 (by omega)
  obtain ⟨o, ho⟩ : ∃ o, o = l ++ b.take m := ⟨_, rfl⟩
  rw [← ho]
  have HO := Lib.hid ho
  obtain ⟨N, hN, hN1⟩ : ∃ N : Nat, 4096 - (l.length : Int) = (N : Int) ∧ N + l.length = 4096 := ⟨4096 - l.length, by omega, by omega⟩
  have t2 : ((N : Int) == 0) = false := beq_eq_false_iff_ne.2 (by omega)
  have t2' : (N == 0) = false := beq_eq_false_iff_ne.2 (by omega)
  have hmN : m = min b.length N := by omega
  have hcN : ¬ (b.length ≤ 512 ∧ N < b.length) := by omega
  have k0a := h.cell_new
  clear h hr1 hb ho hm hcond
  have h4 : l.length ≤ 4096 := by omega
  by_cases hlt : b.length < N
  · have hml : m = b.length := by omega
    subst hml
    have HN := Lib.hid hN1
    clear hN1
    have t4 : decide ((N : Int) < (b.length : Int)) = false := decide_eq_false (by omega)
    have t4' : decide (N < b.length) = false := decide_eq_false (by omega)
    have t5 : decide ((b.length : Int) < (N : Int)) = true := decide_eq_true (by omega)
    have t5' : decide (b.length < N) = true := decide_eq_true (by omega)
    clear hmN hcN
    by_cases h5 : b.length ≤ 512
    · have t6 : decide ((b.length : Int) ≤ 512) = true := decide_eq_true (by omega)
      go_enter Try.func14, Try.ntmps14
      go_wp2
      go_region_law (first | (refine row_app_step rfl (.tmp 41) (.tmp 45) 31 5 .u8 1 rfl Try.underlying31 info5 (by decide) (.slice (some ⟨w.heap.size, 0, none⟩) 0 0) [] l A1 l.length c1 rfl rfl (show Row (w.alloc (.cells #[] 5)).drew 5 .u8 _ [] from Row.empty w _ _) (show ReadsInt (w.alloc (.cells #[] 5)).drew .u8 A1 l.length l from reads_alloc HR.out _) (by simp; omega) ?_; intro v1 w1 ho1 hf1 hat1; rw [List.nil_append] at ho1; have HF1 := Lib.hid (fr_new (w := w) (e := 5) hf1.undrew); have HT1 := Lib.hid (own_new (w := w) (e := 5) hat1); have HO1 := Lib.hid ho1; have HB1 := Lib.hid (reads_fr HB.out HF1.out (fun _ _ _ => id)); clear ho1 hf1 hat1) | (refine row_app_step rfl (.tmp 46) (.tmp 49) 31 5 .u8 1 rfl Try.underlying31 info5 (by decide) _ l (b.take b.length) A b.length c rfl rfl HO1.out HB1.out (by omega) ?_; intro v2 w2 ho2 hf2 hat2; rw [← HO.out] at ho2; have HF2 := Lib.hid (HF1.out.trans hf2 (fun i hi e => (by have := HT1.out i e; omega))); have HA := Lib.hid (HP.out.store HF2.out ho2); have HT2 := Lib.hid (show ∀ k, v2.ownBlock = some k → w.heap.size ≤ k from fun k hk => by rcases hat2 with e | ⟨b, e, hb⟩; exact HT1.out k (e ▸ hk); rw [hk] at e; injection e with e; subst e; exact Nat.le_trans HF1.out.size hb); have HP2 := HP.out.fr HF2.out id (fun _ _ => id); have k0' := HP2.blk.cell 0; have f0' := HP2.blk.frozen 0; simp at k0'; obtain ⟨A2, c2, rfl, _, _⟩ := ho2.slice; clear hf2 ho2 hat2 HP2))
      all_goals
        go_wp2
        go_ret2
        exact ⟨_, rfl, HA.out.1, HA.out.2, HT2.out⟩
    · have t6 : decide ((b.length : Int) ≤ 512) = false := decide_eq_false (by omega)
      go_enter Try.func14, Try.ntmps14
      go_wp2
      go_region_law (first | (refine row_app_step rfl (.tmp 41) (.tmp 45) 31 5 .u8 1 rfl Try.underlying31 info5 (by decide) (.slice (some ⟨w.heap.size, 0, none⟩) 0 0) [] l A1 l.length c1 rfl rfl (show Row (w.alloc (.cells #[] 5)).drew 5 .u8 _ [] from Row.empty w _ _) (show ReadsInt (w.alloc (.cells #[] 5)).drew .u8 A1 l.length l from reads_alloc HR.out _) (by simp; omega) ?_; intro v1 w1 ho1 hf1 hat1; rw [List.nil_append] at ho1; have HF1 := Lib.hid (fr_new (w := w) (e := 5) hf1.undrew); have HT1 := Lib.hid (own_new (w := w) (e := 5) hat1); have HO1 := Lib.hid ho1; have HB1 := Lib.hid (reads_fr HB.out HF1.out (fun _ _ _ => id)); clear ho1 hf1 hat1) | (refine row_app_step rfl (.tmp 46) (.tmp 49) 31 5 .u8 1 rfl Try.underlying31 info5 (by decide) _ l (b.take b.length) A b.length c rfl rfl HO1.out HB1.out (by omega) ?_; intro v2 w2 ho2 hf2 hat2; rw [← HO.out] at ho2; have HF2 := Lib.hid (HF1.out.trans hf2 (fun i hi e => (by have := HT1.out i e; omega))); have HA := Lib.hid (HP.out.store HF2.out ho2); have HT2 := Lib.hid (show ∀ k, v2.ownBlock = some k → w.heap.size ≤ k from fun k hk => by rcases hat2 with e | ⟨b, e, hb⟩; exact HT1.out k (e ▸ hk); rw [hk] at e; injection e with e; subst e; exact Nat.le_trans HF1.out.size hb); have HP2 := HP.out.fr HF2.out id (fun _ _ => id); have k0' := HP2.blk.cell 0; have f0' := HP2.blk.frozen 0; simp at k0'; obtain ⟨A2, c2, rfl, _, _⟩ := ho2.slice; clear hf2 ho2 hat2 HP2))
      all_goals
        go_wp2
        go_ret2
        exact ⟨_, rfl, HA.out.1, HA.out.2, HT2.out⟩
  · by_cases heq : b.length = N
    · have hbN : b.length = N := heq
      rw [← hbN] at hN t2
      have hml : m = b.length := by omega
      subst hml
      clear hN1 hmN hcN heq hlt t2' hbN
      have t4 : decide ((b.length : Int) < (b.length : Int)) = false := decide_eq_false (by omega)
      have t4' : decide (b.length < b.length) = false := decide_eq_false (by omega)
      by_cases h5 : b.length ≤ 512
      · have t6 : decide ((b.length : Int) ≤ 512) = true := decide_eq_true (by omega)
        go_enter Try.func14, Try.ntmps14
        go_wp2
        go_region_law (first | (refine row_app_step rfl (.tmp 41) (.tmp 45) 31 5 .u8 1 rfl Try.underlying31 info5 (by decide) (.slice (some ⟨w.heap.size, 0, none⟩) 0 0) [] l A1 l.length c1 rfl rfl (show Row (w.alloc (.cells #[] 5)).drew 5 .u8 _ [] from Row.empty w _ _) (show ReadsInt (w.alloc (.cells #[] 5)).drew .u8 A1 l.length l from reads_alloc HR.out _) (by simp; omega) ?_; intro v1 w1 ho1 hf1 hat1; rw [List.nil_append] at ho1; have HF1 := Lib.hid (fr_new (w := w) (e := 5) hf1.undrew); have HT1 := Lib.hid (own_new (w := w) (e := 5) hat1); have HO1 := Lib.hid ho1; have HB1 := Lib.hid (reads_fr HB.out HF1.out (fun _ _ _ => id)); clear ho1 hf1 hat1) | (refine row_app_step rfl (.tmp 46) (.tmp 49) 31 5 .u8 1 rfl Try.underlying31 info5 (by decide) _ l (b.take b.length) A b.length c rfl rfl HO1.out HB1.out (by omega) ?_; intro v2 w2 ho2 hf2 hat2; rw [← HO.out] at ho2; have HF2 := Lib.hid (HF1.out.trans hf2 (fun i hi e => (by have := HT1.out i e; omega))); have HA := Lib.hid (HP.out.store HF2.out ho2); have HT2 := Lib.hid (show ∀ k, v2.ownBlock = some k → w.heap.size ≤ k from fun k hk => by rcases hat2 with e | ⟨b, e, hb⟩; exact HT1.out k (e ▸ hk); rw [hk] at e; injection e with e; subst e; exact Nat.le_trans HF1.out.size hb); have HP2 := HP.out.fr HF2.out id (fun _ _ => id); have k0' := HP2.blk.cell 0; have f0' := HP2.blk.frozen 0; simp at k0'; obtain ⟨A2, c2, rfl, _, _⟩ := ho2.slice; clear hf2 ho2 hat2 HP2))
        all_goals
          go_wp2
          go_ret2
          exact ⟨_, rfl, HA.out.1, HA.out.2, HT2.out⟩
      · have t6 : decide ((b.length : Int) ≤ 512) = false := decide_eq_false (by omega)
        go_enter Try.func14, Try.ntmps14
        go_wp2
        go_region_law (first | (refine row_app_step rfl (.tmp 41) (.tmp 45) 31 5 .u8 1 rfl Try.underlying31 info5 (by decide) (.slice (some ⟨w.heap.size, 0, none⟩) 0 0) [] l A1 l.length c1 rfl rfl (show Row (w.alloc (.cells #[] 5)).drew 5 .u8 _ [] from Row.empty w _ _) (show ReadsInt (w.alloc (.cells #[] 5)).drew .u8 A1 l.length l from reads_alloc HR.out _) (by simp; omega) ?_; intro v1 w1 ho1 hf1 hat1; rw [List.nil_append] at ho1; have HF1 := Lib.hid (fr_new (w := w) (e := 5) hf1.undrew); have HT1 := Lib.hid (own_new (w := w) (e := 5) hat1); have HO1 := Lib.hid ho1; have HB1 := Lib.hid (reads_fr HB.out HF1.out (fun _ _ _ => id)); clear ho1 hf1 hat1) | (refine row_app_step rfl (.tmp 46) (.tmp 49) 31 5 .u8 1 rfl Try.underlying31 info5 (by decide) _ l (b.take b.length) A b.length c rfl rfl HO1.out HB1.out (by omega) ?_; intro v2 w2 ho2 hf2 hat2; rw [← HO.out] at ho2; have HF2 := Lib.hid (HF1.out.trans hf2 (fun i hi e => (by have := HT1.out i e; omega))); have HA := Lib.hid (HP.out.store HF2.out ho2); have HT2 := Lib.hid (show ∀ k, v2.ownBlock = some k → w.heap.size ≤ k from fun k hk => by rcases hat2 with e | ⟨b, e, hb⟩; exact HT1.out k (e ▸ hk); rw [hk] at e; injection e with e; subst e; exact Nat.le_trans HF1.out.size hb); have HP2 := HP.out.fr HF2.out id (fun _ _ => id); have k0' := HP2.blk.cell 0; have f0' := HP2.blk.frozen 0; simp at k0'; obtain ⟨A2, c2, rfl, _, _⟩ := ho2.slice; clear hf2 ho2 hat2 HP2))
        all_goals
          go_wp2
          go_ret2
          exact ⟨_, rfl, HA.out.1, HA.out.2, HT2.out⟩
    · have hml : m = N := by omega
      subst hml
      have t6 : decide ((b.length : Int) ≤ 512) = false := decide_eq_false (by omega)
      have t4 : decide ((m : Int) < (b.length : Int)) = true := decide_eq_true (by omega)
      have t4' : decide (m < b.length) = true := decide_eq_true (by omega)
      have t5 : decide ((b.length : Int) < (m : Int)) = false := decide_eq_false (by omega)
      have t5' : decide (b.length < m) = false := decide_eq_false (by omega)
      have HN := Lib.hid hN1
      clear hmN hcN heq hN1
      go_enter Try.func14, Try.ntmps14
      go_wp2
      go_region_law (first | (refine row_app_step rfl (.tmp 41) (.tmp 45) 31 5 .u8 1 rfl Try.underlying31 info5 (by decide) (.slice (some ⟨w.heap.size, 0, none⟩) 0 0) [] l A1 l.length c1 rfl rfl (show Row (w.alloc (.cells #[] 5)).drew 5 .u8 _ [] from Row.empty w _ _) (show ReadsInt (w.alloc (.cells #[] 5)).drew .u8 A1 l.length l from reads_alloc HR.out _) (by simp; omega) ?_; intro v1 w1 ho1 hf1 hat1; rw [List.nil_append] at ho1; have HF1 := Lib.hid (fr_new (w := w) (e := 5) hf1.undrew); have HT1 := Lib.hid (own_new (w := w) (e := 5) hat1); have HO1 := Lib.hid ho1; have HB1 := Lib.hid (reads_fr HB.out HF1.out (fun _ _ _ => id)); clear ho1 hf1 hat1) | (refine row_app_step rfl (.tmp 46) (.tmp 49) 31 5 .u8 1 rfl Try.underlying31 info5 (by decide) _ l (b.take m) A m c rfl rfl HO1.out HB1.out (by omega) ?_; intro v2 w2 ho2 hf2 hat2; rw [← HO.out] at ho2; have HF2 := Lib.hid (HF1.out.trans hf2 (fun i hi e => (by have := HT1.out i e; omega))); have HA := Lib.hid (HP.out.store HF2.out ho2); have HT2 := Lib.hid (show ∀ k, v2.ownBlock = some k → w.heap.size ≤ k from fun k hk => by rcases hat2 with e | ⟨b, e, hb⟩; exact HT1.out k (e ▸ hk); rw [hk] at e; injection e with e; subst e; exact Nat.le_trans HF1.out.size hb); have HP2 := HP.out.fr HF2.out id (fun _ _ => id); have k0' := HP2.blk.cell 0; have f0' := HP2.blk.frozen 0; simp at k0'; obtain ⟨A2, c2, rfl, _, _⟩ := ho2.slice; clear hf2 ho2 hat2 HP2))
      all_goals
        go_wp2
        go_ret2
        exact ⟨_, rfl, HA.out.1, HA.out.2, HT2.out⟩
end
end Go.Proofs.Ytonaigbacnfpiaa.Pi
