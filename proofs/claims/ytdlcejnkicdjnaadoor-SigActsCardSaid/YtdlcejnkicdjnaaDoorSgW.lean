/- The document's SetAction, Change and Enter of signals, walked. -/
import Derived.Test.YtdlcejnkicdjnaaDoorSgV
namespace Go.Proofs.YtdlcejnkicdjnaaDoor.Sg
open Go Go.RowKit Go.Proofs.YtdlcejnkicdjnaaDoorW.PrintWords Go.Proofs.YtdlcejnkicdjnaaDoorW.PrintLast Go.Proofs.YtdlcejnkicdjnaaDoorW.PrintMore
open Go.Proofs.YtdlcejnkicdjnaaDoor.Hp Go.Proofs.YtdlcejnkicdjnaaDoor.Bv
attribute [local go_sem] max2_int min2_int max_two min_two max_three min_three max_four min_four
attribute [local go_sem] wrap_add wrap_sub wrap_mul wrap_neg and_U or_U xor_U andNot_U wrap_U
set_option linter.unusedVariables false
set_option linter.unusedSimpArgs false
theorem Rs.loadM {g : Nat} {A : Nat → Int} {mf pf : Nat → Bool} {x y : BitVec 64} {w : World} (h : Rs w g A mf pf x y) : (Instr.loadAt 29 (.pointer (some ⟨g, 195, none⟩))).run Tryd.prog w = .ok (.agg (comeA mf)) w := by
  have e := run_loadAt_mid (P := Tryd.prog) w g 195 29 (comeA mf).toList _ h.ranges.1 Tryd.underlying29 rfl (by rw [Array.length_toList, comeA_size]; kernel_rfl)
  simpa using e
theorem Rs.loadP {g : Nat} {A : Nat → Int} {mf pf : Nat → Bool} {x y : BitVec 64} {w : World} (h : Rs w g A mf pf x y) : (Instr.loadAt 29 (.pointer (some ⟨g, 260, none⟩))).run Tryd.prog w = .ok (.agg (comeA pf)) w := by
  have e := run_loadAt_mid (P := Tryd.prog) w g 260 29 (comeA pf).toList _ h.ranges.2 Tryd.underlying29 rfl (by rw [Array.length_toList, comeA_size]; kernel_rfl)
  simpa using e
theorem Rs.drew {g : Nat} {A : Nat → Int} {mf pf : Nat → Bool} {x y : BitVec 64} {w : World} (h : Rs w g A mf pf x y) : Rs w.drew g A mf pf x y := h
theorem keep_const (v : BitVec 64) : bits .andNot .u64 (U v) 262400 = U (keepZ v) := (show _ = bits .andNot .u64 (U v) (U 262400#64) from rfl).trans (andNot_U v 262400#64)
theorem rsa_no {g : Nat} (n a0 : Int) (a1 v : BitVec 64) (hn : ¬ ((1 ≤ n ∧ n ≤ 64) ∧ n ≠ 9 ∧ n ≠ 19)) (w : World) : Calls Tryd.prog 21 #[.pointer (some ⟨g, 0, none⟩), .int .i64 n, .agg #[.int .u64 a0, .int .u64 (U a1), .int .u64 (U v)]] w fun e w' => e = .returned (.int .i64 22) ∧ Fr (fun _ => False) w w' := by
  by_cases h1 : n < 1
  · have t1 : decide (n < 1) = true := decide_eq_true h1
    clear hn h1
    go_enter Tryd.func21, Tryd.ntmps21
    go_wp2_with fail
    go_ret
    exact ⟨rfl, by (repeat (first | (with_reducible exact Fr.refl _ _) | (with_reducible apply Fr.drewN) | (with_reducible apply Fr.alloc) | (with_reducible apply Fr.drew) | (with_reducible refine Fr.setCell ?_ (Or.inr (by simp)) _)))⟩
  have t1 : decide (n < 1) = false := decide_eq_false h1
  by_cases h2 : 64 < n
  · have t2 : decide (64 < n) = true := decide_eq_true h2
    clear hn h1 h2
    go_enter Tryd.func21, Tryd.ntmps21
    go_wp2_with fail
    go_ret
    exact ⟨rfl, by (repeat (first | (with_reducible exact Fr.refl _ _) | (with_reducible apply Fr.drewN) | (with_reducible apply Fr.alloc) | (with_reducible apply Fr.drew) | (with_reducible refine Fr.setCell ?_ (Or.inr (by simp)) _)))⟩
  have t2 : decide (64 < n) = false := decide_eq_false h2
  by_cases h3 : n = 9
  · subst h3
    clear hn h1 h2 t1 t2
    go_enter Tryd.func21, Tryd.ntmps21
    go_wp2_with fail
    go_ret
    exact ⟨rfl, by (repeat (first | (with_reducible exact Fr.refl _ _) | (with_reducible apply Fr.drewN) | (with_reducible apply Fr.alloc) | (with_reducible apply Fr.drew) | (with_reducible refine Fr.setCell ?_ (Or.inr (by simp)) _)))⟩
  have h4 : n = 19 := by omega
  subst h4
  clear hn h1 h2 t1 t2
  go_enter Tryd.func21, Tryd.ntmps21
  go_wp2_with fail
  go_ret
  exact ⟨rfl, by (repeat (first | (with_reducible exact Fr.refl _ _) | (with_reducible apply Fr.drewN) | (with_reducible apply Fr.alloc) | (with_reducible apply Fr.drew) | (with_reducible refine Fr.setCell ?_ (Or.inr (by simp)) _)))⟩
set_option maxRecDepth 100000 in
theorem rsa_yes {g : Nat} {A : Nat → Int} {mf pf : Nat → Bool} {x y : BitVec 64} (m : Nat) (a0 : Int) (a1 v : BitVec 64) (hm : 1 ≤ m ∧ m ≤ 64) (h9 : m ≠ 9) (h19 : m ≠ 19) (w : World) (h : Rs w g A mf pf x y) : Calls Tryd.prog 21 #[.pointer (some ⟨g, 0, none⟩), .int .i64 (m : Int), .agg #[.int .u64 a0, .int .u64 (U a1), .int .u64 (U v)]] w fun e w' => e = .returned (.int .i64 0) ∧ Rs w' g (upd3 A m a0 (U a1) (U (keepZ v))) mf pf x y ∧ Fr (fun k => k = g) w w' := by
  have t1 : decide ((m : Int) < 1) = false := decide_eq_false (by omega)
  have t2 : decide (64 < (m : Int)) = false := decide_eq_false (by omega)
  have t3 : ((m : Int) == 9) = false := beq_eq_false_iff_ne.2 (by omega)
  have t4 : ((m : Int) == 19) = false := beq_eq_false_iff_ne.2 (by omega)
  have t5 : decide ((m : Int) < 65) = true := decide_eq_true (by omega)
  have hm65 : m < 65 := by omega
  have ek := keep_const v
  have HF := Lib.hid ((Fr.refl (fun k => k = g) w).alloc (.cells #[.int .u64 a0, .int .u64 (U a1), .int .u64 (U (keepZ v))] 33))
  have HX := Lib.hid (Blk.new w 33 #[.int .u64 a0, .int .u64 (U a1), .int .u64 (U (keepZ v))])
  have HB := Lib.hid (show Rs (w.alloc (.cells #[.int .u64 a0, .int .u64 (U a1), .int .u64 (U (keepZ v))] 33)) g A mf pf x y from Blk.alloc h _)
  have hgl := h.lt
  have hne : ¬ g = w.heap.size := by omega
  clear h h9 h19 hm
  go_enter Tryd.func21, Tryd.ntmps21
  go_upto_region 4 with (fail)
  have hu : ∃ u, keepZ v = u := ⟨_, rfl⟩
  obtain ⟨u, hu⟩ := hu
  rw [hu] at HF HX HB ⊢
  have HU := Lib.hid hu
  clear hu ek
  generalize hga : w.alloc (.cells #[.int .u64 a0, .int .u64 (U a1), .int .u64 (U u)] 33) = w5 at HF HX HB ⊢
  clear hga
  obtain ⟨c0, c1, c2⟩ := (show _ ∧ _ ∧ _ from ⟨HX.out.cell 0, HX.out.cell 1, HX.out.cell 2⟩)
  simp at c0 c1 c2
  obtain ⟨b0, b1, b2⟩ := (show _ ∧ _ ∧ _ from ⟨HB.out.a (m * 3) (by omega), HB.out.a (m * 3 + 1) (by omega), HB.out.a (m * 3 + 2) (by omega)⟩)
  obtain ⟨f0, f1, f2⟩ := (show _ ∧ _ ∧ _ from ⟨HB.out.frz (m * 3), HB.out.frz (m * 3 + 1), HB.out.frz (m * 3 + 2)⟩)
  go_wp2_with fail
  go_region
  all_goals go_wp2
  all_goals
    go_ret
    rw [HU.out]
    exact ⟨rfl, by first | exact (HB.out.set3 m hm65 _ _ _).drew | exact HB.out.set3 m hm65 _ _ _ | exact Rs.set3 (w := w5.drew) (show Rs w5.drew g A mf pf x y from HB.out) m hm65 _ _ _, by first | exact (fr3g HF.out _ _ _ _ _ _).drew | exact fr3g HF.out.drew _ _ _ _ _ _ | exact fr3g HF.out _ _ _ _ _ _⟩
theorem rsetaction_any {g : Nat} {A : Nat → Int} {mf pf : Nat → Bool} {x y : BitVec 64} (n a0 : Int) (a1 v : BitVec 64) (w : World) (h : Rs w g A mf pf x y) : Calls Tryd.prog 21 #[.pointer (some ⟨g, 0, none⟩), .int .i64 n, .agg #[.int .u64 a0, .int .u64 (U a1), .int .u64 (U v)]] w fun e w' => e = .returned (.int .i64 (saE n)) ∧ Rs w' g (saA n a0 a1 v A) mf pf x y ∧ Fr (fun k => k = g) w w' := by
  by_cases hn : (1 ≤ n ∧ n ≤ 64) ∧ n ≠ 9 ∧ n ≠ 19
  · obtain ⟨m, rfl⟩ : ∃ m : Nat, n = m := ⟨n.toNat, by omega⟩
    refine (rsa_yes m a0 a1 v (by omega) (by omega) (by omega) w h).mono fun _ _ k => ⟨?_, ?_, k.2.2⟩
    · rw [k.1]; unfold saE; rw [if_pos hn]
    · unfold saA; rw [if_pos hn]; exact k.2.1
  · refine (rsa_no (g := g) n a0 a1 v hn w).mono fun _ _ k => ⟨?_, ?_, k.2.mono fun _ _ e => e.elim⟩
    · rw [k.1]; unfold saE; rw [if_neg hn]
    · unfold saA; rw [if_neg hn]; exact h.fr k.2 id
set_option maxRecDepth 100000 in
theorem rchange_any {g : Nat} {A : Nat → Int} {mf pf : Nat → Bool} {x y : BitVec 64} (how : Int) (X M : BitVec 64) (hb : BitsOf mf M) (w : World) (h : Rs w g A mf pf x y) : Calls Tryd.prog 23 #[.pointer (some ⟨g, 0, none⟩), .int .i64 how, .int .u64 (U X)] w fun e w' => e = .returned (.int .i64 (chE how)) ∧ ∃ mf', BitsOf mf' (chM how M X) ∧ Rs w' g A mf' pf x y ∧ Fr (fun i => i = g) w w' := by
  have HB := Lib.hid h
  have HM := Lib.hid hb
  have hi := Lib.hid (show (Tryd.prog.info? 29 ).map (·.size) = some (comeA mf).toList.length by rw [Array.length_toList, comeA_size]; kernel_rfl)
  clear h hb
  go_enter Tryd.func23, Tryd.ntmps23
  go_wp2_with (first | (refine gate_ (.load 29 (.tmp 10)) rfl ?_; refine wpList_load_mid rfl 29 (.tmp 10) rfl g 195 rfl (comeA mf).toList _ HB.out.ranges.1 Tryd.underlying29 rfl hi.out ?_; simp only [Array.toArray_toList]))
  refine (word_any mf M HM.out _).mono ?_
  rintro e w1 ⟨rfl, hf⟩
  have HB := Lib.hid (HB.out.fr hf id)
  have HF := Lib.hid hf
  clear hf
  by_cases h0 : how = 0
  · subst h0
    go_wp2_with fail
    refine (rsetmask_any (M ||| X) _ HB.out HM.out.1).mono ?_
    rintro e w2 ⟨rfl, mf', hm, hs, hf⟩
    have HE := Lib.hid (show ∃ mf', BitsOf mf' (chM 0 M X) ∧ Rs w2 g A mf' pf x y ∧ Fr (fun i => i = g) w w2 from ⟨mf', hm, hs, (HF.out.mono (fun _ _ e => e.elim)).trans hf (fun _ _ e => e)⟩)
    clear hm hs hf
    go_wp2_with fail
    go_ret
    exact ⟨rfl, HE.out⟩
  by_cases h1 : how = 1
  · subst h1
    clear h0
    go_wp2_with fail
    refine (rsetmask_any (M &&& ~~~X) _ HB.out HM.out.1).mono ?_
    rintro e w2 ⟨rfl, mf', hm, hs, hf⟩
    have HE := Lib.hid (show ∃ mf', BitsOf mf' (chM 1 M X) ∧ Rs w2 g A mf' pf x y ∧ Fr (fun i => i = g) w w2 from ⟨mf', hm, hs, (HF.out.mono (fun _ _ e => e.elim)).trans hf (fun _ _ e => e)⟩)
    clear hm hs hf
    go_wp2_with fail
    go_ret
    exact ⟨rfl, HE.out⟩
  by_cases h2 : how = 2
  · subst h2
    clear h0 h1
    go_wp2_with fail
    refine (rsetmask_any X _ HB.out HM.out.1).mono ?_
    rintro e w2 ⟨rfl, mf', hm, hs, hf⟩
    have HE := Lib.hid (show ∃ mf', BitsOf mf' (chM 2 M X) ∧ Rs w2 g A mf' pf x y ∧ Fr (fun i => i = g) w w2 from ⟨mf', hm, hs, (HF.out.mono (fun _ _ e => e.elim)).trans hf (fun _ _ e => e)⟩)
    clear hm hs hf
    go_wp2_with fail
    go_ret
    exact ⟨rfl, HE.out⟩
  have t0 : (how == 0) = false := beq_eq_false_iff_ne.2 h0
  have t1 : (how == 1) = false := beq_eq_false_iff_ne.2 h1
  have t2 : (how == 2) = false := beq_eq_false_iff_ne.2 h2
  have HE := Lib.hid (show ∃ mf', BitsOf mf' (chM how M X) ∧ Rs w1 g A mf' pf x y ∧ Fr (fun i => i = g) w w1 from ⟨mf, by unfold chM; rw [if_neg h0, if_neg h1, if_neg h2]; exact HM.out, HB.out, HF.out.mono (fun _ _ e => e.elim)⟩)
  have E2 := Lib.hid (show chE how = 22 from by unfold chE; rw [if_neg (by omega)])
  clear h0 h1 h2
  go_wp2_with fail
  go_ret
  rw [E2.out]
  exact ⟨rfl, HE.out⟩
theorem en2 {g : Nat} {A : Nat → Int} {mf pf : Nat → Bool} {x y : BitVec 64} {w : World} {b : Nat} {a0 a1 a2 : Value} (hx : Blk w b 33 #[a0, a1, a2]) (hb : Rs w g A mf pf x y) : w.cell? ⟨b, 2, none⟩ = some a2 ∧ w.rangeAt g 195 (comeA mf).toList := ⟨by simpa using hx.cell 2, hb.ranges.1⟩
set_option maxRecDepth 100000 in
theorem renter_any {g : Nat} {A : Nat → Int} {mf pf : Nat → Bool} {x y : BitVec 64} (m : Nat) (a0 : Int) (a1 v M : BitVec 64) (hm : 1 ≤ m ∧ m ≤ 64) (b30 b31 : Bool) (h30 : a1.getLsbD 30 = b30) (h31 : a1.getLsbD 31 = b31) (hb : BitsOf mf M) (w : World) (h : Rs w g A mf pf x y) : Calls Tryd.prog 26 #[.pointer (some ⟨g, 0, none⟩), .int .i64 ((m : Nat) : Int), .agg #[.int .u64 a0, .int .u64 (U a1), .int .u64 (U v)]] w fun e w' => e = .returned (.tuple #[]) ∧ ∃ mf', BitsOf mf' (keepZ (if b30 then M ||| v else (M ||| v) ||| bitZ (m : Int))) ∧ Rs w' g (if b31 then upd3 A m 0 0 0 else A) mf' pf x y ∧ Fr (fun i => i = g) w w' := by
  obtain ⟨j, rfl⟩ : ∃ j, m = j + 1 := ⟨m - 1, by omega⟩
  have e30 : bits .and .u64 (U a1) 1073741824 = U (a1 &&& 1#64 <<< 30) := (show _ = bits .and .u64 (U a1) (U 1073741824#64) from rfl).trans (and_U _ _)
  have e31 : bits .and .u64 (U a1) 2147483648 = U (a1 &&& 1#64 <<< 31) := (show _ = bits .and .u64 (U a1) (U 2147483648#64) from rfl).trans (and_U _ _)
  have t30 := and_bit a1 30 (by decide)
  have t31 := and_bit a1 31 (by decide)
  rw [h30, ← e30] at t30
  rw [h31, ← e31] at t31
  have n31 : (bits .and .u64 (U a1) 2147483648 != 0) = b31 := by rw [bne, t31, Bool.not_not]
  have e1 : wrap64 (j : Int) = j := wrap64_in (by omega) (by omega)
  have e2 : IntKind.u64.wrap ((2 : Int) ^ j) = U (bitZ ((j : Int) + 1)) := by
    have e3 := shl_U' 1#64 j
    rw [show U 1#64 = (1 : Int) from rfl, Int.one_mul] at e3
    rw [bitZ_at j (by omega)]
    exact e3
  have HX := Lib.hid (Blk.new w 33 #[.int .u64 a0, .int .u64 (U a1), .int .u64 (U v)])
  have HB := Lib.hid (show Rs (w.alloc (.cells #[.int .u64 a0, .int .u64 (U a1), .int .u64 (U v)] 33)) g A mf pf x y from Blk.alloc h _)
  have HF := Lib.hid ((Fr.refl (fun _ => False) w).alloc (.cells #[.int .u64 a0, .int .u64 (U a1), .int .u64 (U v)] 33))
  have HM := Lib.hid hb
  have hgw := h.lt
  have hne : ¬ w.heap.size = g := by omega
  have hm65 : j + 1 < 65 := by omega
  have t1 : decide ((j : Int) + 1 < 65) = true := decide_eq_true (by omega)
  clear h hm e30 e31 h30 h31 hb
  go_enter Tryd.func26, Tryd.ntmps26
  go_wp2_with fail
  generalize hga : w.alloc (.cells #[.int .u64 a0, .int .u64 (U a1), .int .u64 (U v)] 33) = w1 at HX HB HF ⊢
  clear hga
  have hL := HB.out.loadM
  obtain ⟨c0, c1, c2⟩ := (show _ ∧ _ ∧ _ from ⟨HX.out.cell 0, HX.out.cell 1, HX.out.cell 2⟩)
  simp at c0 c1 c2
  go_wp2_with fail
  have hu := Tryd.underlying29
  have hi : (Tryd.prog.info? 29 ).map (·.size) = some (comeA mf).toList.length := by rw [Array.length_toList, comeA_size]; kernel_rfl
  go_region_held3 (fun w' => w'.cell? ⟨w.heap.size, 2, none⟩ = some (.int .u64 (U v)) ∧ w'.rangeAt g 195 (comeA mf).toList) (first | exact en2 (show Blk w1.drew w.heap.size 33 #[.int .u64 a0, .int .u64 (U a1), .int .u64 (U v)] from HX.out) (show Rs w1.drew g A mf pf x y from HB.out) | exact en2 ((show Blk w1.drew w.heap.size 33 #[.int .u64 a0, .int .u64 (U a1), .int .u64 (U v)] from HX.out).fr hf3 id) ((show Rs w1.drew g A mf pf x y from HB.out).fr hf3 id)) (first | (go_at_call 28; (try simp only [Array.toArray_toList]); refine (word_any mf M HM.out _).mono ?_; rintro e w3 ⟨rfl, hf3⟩))
  have HX := Lib.hid ((show Blk w1.drew w.heap.size 33 #[.int .u64 a0, .int .u64 (U a1), .int .u64 (U v)] from HX.out).fr hf3 id)
  have HB := Lib.hid ((show Rs w1.drew g A mf pf x y from HB.out).fr hf3 id)
  have HF := Lib.hid (HF.out.drew.trans hf3 (fun _ _ => id))
  clear hf3 c0 c1 c2 hL hu hi
  obtain ⟨d0, d1, d2⟩ := (show _ ∧ _ ∧ _ from ⟨HX.out.cell 0, HX.out.cell 1, HX.out.cell 2⟩)
  simp at d0 d1 d2
  cases b30
  · go_wp2_with fail
    refine (rsetmask_any ((M ||| v) ||| bitZ ((j : Int) + 1)) _ HB.out HM.out.1).mono ?_
    rintro e w4 ⟨rfl, mf', hm', hs, hf⟩
    have HM' := Lib.hid hm'
    have HF := Lib.hid ((HF.out.mono (T := fun i => i = g) (fun _ _ e => e.elim)).trans hf (fun _ _ e => e))
    have HX := Lib.hid (HX.out.fr hf hne)
    have HB := Lib.hid hs
    clear hf hs hm' d0 d1 d2
    obtain ⟨d0, d1, d2⟩ := (show _ ∧ _ ∧ _ from ⟨HX.out.cell 0, HX.out.cell 1, HX.out.cell 2⟩)
    simp at d0 d1 d2
    obtain ⟨p0, p1, p2⟩ := (show _ ∧ _ ∧ _ from ⟨HB.out.a ((j + 1) * 3) (by omega), HB.out.a ((j + 1) * 3 + 1) (by omega), HB.out.a ((j + 1) * 3 + 2) (by omega)⟩)
    obtain ⟨f0, f1, f2⟩ := (show _ ∧ _ ∧ _ from ⟨HB.out.frz ((j + 1) * 3), HB.out.frz ((j + 1) * 3 + 1), HB.out.frz ((j + 1) * 3 + 2)⟩)
    cases b31
    · go_wp2_with fail
      go_end0
      exact ⟨rfl, mf', HM'.out, HB.out, HF.out⟩
    · go_wp2_with fail
      go_end0
      exact ⟨rfl, mf', HM'.out, HB.out.set3 (j + 1) hm65 _ _ _, fr3g HF.out _ _ _ _ _ _⟩
  · go_wp2_with fail
    refine (rsetmask_any (M ||| v) _ HB.out HM.out.1).mono ?_
    rintro e w4 ⟨rfl, mf', hm', hs, hf⟩
    have HM' := Lib.hid hm'
    have HF := Lib.hid ((HF.out.mono (T := fun i => i = g) (fun _ _ e => e.elim)).trans hf (fun _ _ e => e))
    have HX := Lib.hid (HX.out.fr hf hne)
    have HB := Lib.hid hs
    clear hf hs hm' d0 d1 d2
    obtain ⟨d0, d1, d2⟩ := (show _ ∧ _ ∧ _ from ⟨HX.out.cell 0, HX.out.cell 1, HX.out.cell 2⟩)
    simp at d0 d1 d2
    obtain ⟨p0, p1, p2⟩ := (show _ ∧ _ ∧ _ from ⟨HB.out.a ((j + 1) * 3) (by omega), HB.out.a ((j + 1) * 3 + 1) (by omega), HB.out.a ((j + 1) * 3 + 2) (by omega)⟩)
    obtain ⟨f0, f1, f2⟩ := (show _ ∧ _ ∧ _ from ⟨HB.out.frz ((j + 1) * 3), HB.out.frz ((j + 1) * 3 + 1), HB.out.frz ((j + 1) * 3 + 2)⟩)
    cases b31
    · go_wp2_with fail
      go_end0
      exact ⟨rfl, mf', HM'.out, HB.out, HF.out⟩
    · go_wp2_with fail
      go_end0
      exact ⟨rfl, mf', HM'.out, HB.out.set3 (j + 1) hm65 _ _ _, fr3g HF.out _ _ _ _ _ _⟩
end Go.Proofs.YtdlcejnkicdjnaaDoor.Sg
