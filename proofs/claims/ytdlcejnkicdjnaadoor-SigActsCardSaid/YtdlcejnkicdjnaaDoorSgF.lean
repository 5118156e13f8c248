/- A signals' state: Take, walked. -/
import Derived.Test.YtdlcejnkicdjnaaDoorSgE
namespace Go.Proofs.YtdlcejnkicdjnaaDoor.Sg
open Go Go.RowKit Go.Proofs.YtdlcejnkicdjnaaDoorW.PrintWords Go.Proofs.YtdlcejnkicdjnaaDoorW.PrintLast Go.Proofs.YtdlcejnkicdjnaaDoorW.PrintMore
open Go.Proofs.YtdlcejnkicdjnaaDoor.Hp Go.Proofs.YtdlcejnkicdjnaaDoor.Bv
attribute [local go_sem] max2_int min2_int max_two min_two max_three min_three max_four min_four
attribute [local go_sem] wrap_add wrap_sub wrap_mul wrap_neg and_U or_U xor_U andNot_U wrap_U
set_option linter.unusedVariables false
set_option linter.unusedSimpArgs false
/-- At the head of Take's loop. -/
def AtTake (A : Nat → Int) (M P x y : BitVec 64) (w : World) (g : Nat) (kq : Nat) (wr : World) : Prop :=
  ∃ Pc j, j ≤ 64 ∧ 64 - j ≤ kq ∧ MidOk A M P Pc j ∧ St wr g A M Pc x y ∧ Fr (fun k => k = g) w wr ∧ Blk wr w.heap.size 33 #[.int .u64 0, .int .u64 0, .int .u64 0]
theorem St.mp {g : Nat} {A : Nat → Int} {M P x y : BitVec 64} {w : World} (h : St w g A M P x y) : w.cell? ⟨g, 195, none⟩ = some (.int .u64 (U M)) ∧ w.cell? ⟨g, 196, none⟩ = some (.int .u64 (U P)) := ⟨h.m, h.p⟩
theorem blk3' {w : World} {g : Nat} {t : TypeId} {c0 c1 c2 : Value} (h : Blk w g t #[c0, c1, c2]) (v0 v1 v2 : Value) :
    Blk (((w.setCell ⟨g, 0, none⟩ v0).setCell ⟨g, 1, none⟩ v1).setCell ⟨g, 2, none⟩ v2) g t #[v0, v1, v2] := by
  have e := ((h.set 0 v0).set 1 v1).set 2 v2
  simpa [Blk] using e
theorem fr3' {S : Nat → Prop} {w w' : World} {g : Nat} (h : Fr S w w') (hg : w.heap.size ≤ g) (v0 v1 v2 : Value) :
    Fr S w (((w'.setCell ⟨g, 0, none⟩ v0).setCell ⟨g, 1, none⟩ v1).setCell ⟨g, 2, none⟩ v2) :=
  ((h.setCell (p := ⟨g, 0, none⟩) (.inr hg) v0).setCell (p := ⟨g, 1, none⟩) (.inr hg) v1).setCell (p := ⟨g, 2, none⟩) (.inr hg) v2
theorem st3' {g : Nat} {A : Nat → Int} {M P x y : BitVec 64} {w : World} {b : Nat} (h : St w g A M P x y) (hb : g ≠ b) (v0 v1 v2 : Value) : St (((w.setCell ⟨b, 0, none⟩ v0).setCell ⟨b, 1, none⟩ v1).setCell ⟨b, 2, none⟩ v2) g A M P x y :=
  Blk.set_ne (Blk.set_ne (Blk.set_ne h (p := ⟨b, 0, none⟩) hb v0) (p := ⟨b, 1, none⟩) hb v1) (p := ⟨b, 2, none⟩) hb v2
set_option maxHeartbeats 2000000 in
theorem take_any {g : Nat} {A : Nat → Int} {M P x y : BitVec 64} (w : World) (hg : g ≠ 0) (h : St w g A M P x y) (ht : Tb w) :
    Calls Tryd.prog 12 #[.pointer (some ⟨g, 0, none⟩)] w fun e w' => ∃ n P', TakeOk A M P n P' ∧ e = .returned (.tuple #[.int .i64 (n : Int), .agg (actC A n), .bool (decide (0 < n))]) ∧ St w' g A M P' x y ∧ Fr (fun k => k = g) w w' := by
  have hgw := h.lt
  have hne : ¬ g = w.heap.size := by omega
  have hne' : ¬ w.heap.size = g := by omega
  have HB0 := Lib.hid (Blk.alloc h (.cells #[.int .u64 0, .int .u64 0, .int .u64 0] 33))
  have HT0 := Lib.hid (ht.fr ((Fr.refl (fun _ => False) w).alloc (.cells #[.int .u64 0, .int .u64 0, .int .u64 0] 33)) id)
  have HF0 := Lib.hid ((Fr.refl (fun k => k = g) w).alloc (.cells #[.int .u64 0, .int .u64 0, .int .u64 0] 33))
  have HN0 := Lib.hid (Blk.new w 33 #[.int .u64 0, .int .u64 0, .int .u64 0])
  have HTW := Lib.hid ht
  have HG := Lib.hid (show ¬ (0 = g) from fun e => hg e.symm)
  clear h ht hg
  go_enter Tryd.func12, Tryd.ntmps12
  go_wp2_with fail
  go_loopg [] 64 (fun kq wr => Hid (AtTake A M P x y w g kq wr))
  case atStart => exact Lib.hid ⟨P, 0, by omega, by omega, ⟨fun i hi => by simp, fun i hi => absurd hi (Nat.not_lt_zero _)⟩, HB0.out, HF0.out, HN0.out⟩
  case round =>
    obtain ⟨Pc, j, hj, hkq, hm, hb, hf, hn⟩ := hrel.out
    have HM := Lib.hid hm
    have HB := Lib.hid hb
    have HF := Lib.hid hf
    have HN := Lib.hid hn
    clear hrel hm hb hf hn HB0 HT0 HF0 HN0
    obtain ⟨k1, k2⟩ := HB.out.mp
    obtain ⟨c0, c1, c2⟩ := (show _ ∧ _ ∧ _ from ⟨HN.out.cell 0, HN.out.cell 1, HN.out.cell 2⟩)
    obtain ⟨f0, f1, f2⟩ := (show _ ∧ _ ∧ _ from ⟨HN.out.frozen 0, HN.out.frozen 1, HN.out.frozen 2⟩)
    simp at c0 c1 c2
    by_cases hR : Pc &&& ~~~M = 0#64
    · have t0 : (U (Pc &&& ~~~M) == 0) = true := beq_iff_eq.2 (U_zero.2 hR)
      have HR := Lib.hid (mid_none HM.out hR)
      clear hR
      go_wp2_with fail
      go_quiet (fail)
      go_wp2_with fail
      refine bodyPost_ret (results_tct rfl _ _ w.heap.size 33 #[.int .u64 0, .int .u64 0, .int .u64 0] (0, 0) _ rfl ?_ Tryd.underlying33 rfl (by kernel_rfl)) rfl ?_
      · exact blk3' (show Blk (wr.drewN nq) w.heap.size 33 #[.int .u64 0, .int .u64 0, .int .u64 0] from HN.out) (.int .u64 0) (.int .u64 0) (.int .u64 0)
      exact ⟨0, Pc, HR.out, rfl, st3' (show St (wr.drewN nq) g A M Pc x y from HB.out) hne _ _ _, fr3' (HF.out.drewN nq) (Nat.le_refl _) _ _ _⟩
    · have t0 : (U (Pc &&& ~~~M) == 0) = false := beq_eq_false_iff_ne.2 (fun e => hR (U_zero.1 e))
      obtain ⟨k, q, hq⟩ := low_ex (Pc &&& ~~~M).toNat (Nat.pos_of_ne_zero (fun e => hR (BitVec.eq_of_toNat_eq (by simpa using e))))
      have HQ := Lib.hid hq
      obtain ⟨hjk, hk, _, _, _, _⟩ := mid_bits HM.out hq
      have ek : wrap64 ((k : Int) + 1) = (k : Int) + 1 := wrap64_in (by omega) (by omega)
      clear hR hq
      go_wp2_with fail
      go_quiet (fail)
      go_wp2_with fail
      refine (tz_any _ k q HQ.out _ (show Tb (wr.drewN nq) from Tb.fr (S := fun k => k = g) HTW.out (HF.out.drewN nq) HG.out)).mono ?_
      rintro e w2 ⟨rfl, hf2⟩
      have HB := Lib.hid (St.fr (show St (wr.drewN nq) g A M Pc x y from HB.out) hf2 id)
      have HN := Lib.hid (Blk.fr (show Blk (wr.drewN nq) w.heap.size 33 #[.int .u64 0, .int .u64 0, .int .u64 0] from HN.out) hf2 id)
      have HF := Lib.hid ((HF.out.drewN nq).trans hf2 (fun _ _ e => e.elim))
      clear hf2 k1 k2 c0 c1 c2 f0 f1 f2
      go_wp2_with fail
      obtain ⟨k1, k2⟩ := (show St w2.drew g A M Pc x y from HB.out).pf
      go_region_with (go_at_call 13; refine (bit_any _ _).mono ?_; rintro e w3 ⟨rfl, hf3⟩; obtain ⟨k3, k4⟩ := (St.fr (show St w2.drew g A M Pc x y from HB.out) hf3 id).pf)
      all_goals
        have HB := Lib.hid ((St.fr (show St w2.drew g A M Pc x y from HB.out) hf3 id).setP (Pc &&& ~~~bitZ ((k : Int) + 1)))
        have HN := Lib.hid (Blk.set_ne (Blk.fr (show Blk w2.drew w.heap.size 33 #[.int .u64 0, .int .u64 0, .int .u64 0] from HN.out) hf3 id) (p := ⟨g, 196, none⟩) hne' (.int .u64 (U (Pc &&& ~~~bitZ ((k : Int) + 1)))))
        have HF := Lib.hid (Fr.setCell (S := fun k => k = g) ((HF.out.drew).trans hf3 (fun _ _ e => e.elim)) (p := ⟨g, 196, none⟩) (.inl rfl) (.int .u64 (U (Pc &&& ~~~bitZ ((k : Int) + 1)))))
        clear hf3 k1 k2 k3 k4
        generalize w3.setCell ⟨g, 196, none⟩ (.int .u64 (U (Pc &&& ~~~bitZ ((k : Int) + 1)))) = w4 at *
        go_wp2_with fail
        have hp : Calls Tryd.prog 32 #[.pointer (some ⟨g, 0, none⟩), .int .i64 ((k : Int) + 1)] w4 fun e w' => e = .returned (.bool (passZ (A ((k + 1) * 3)) ((k + 1 : Nat) : Int))) ∧ Fr (fun _ => False) w4 w' := passed_any (k + 1) (by omega) w4 HB.out
        obtain ⟨b, hb⟩ : ∃ b, passZ (A ((k + 1) * 3)) ((k + 1 : Nat) : Int) = b := ⟨_, rfl⟩
        have HP := Lib.hid hb
        rw [hb] at hp
        clear hb
        refine hp.mono ?_
        clear hp
        rintro e w5 ⟨rfl, hf5⟩
        have HB := Lib.hid (St.fr HB.out hf5 id)
        have HN := Lib.hid (Blk.fr HN.out hf5 id)
        have HF := Lib.hid (HF.out.trans hf5 (fun _ _ e => e.elim))
        clear hf5
        cases b
        · have HQ := Lib.hid (mid_done HM.out HQ.out HP.out)
          obtain ⟨c0, c1, c2⟩ := (show _ ∧ _ ∧ _ from ⟨HN.out.cell 0, HN.out.cell 1, HN.out.cell 2⟩)
          obtain ⟨f0, f1, f2⟩ := (show _ ∧ _ ∧ _ from ⟨HN.out.frozen 0, HN.out.frozen 1, HN.out.frozen 2⟩)
          simp at c0 c1 c2
          obtain ⟨m, hm⟩ : ∃ m : Nat, m = k + 1 := ⟨_, rfl⟩
          have hkm : (k : Int) + 1 = (m : Int) := by omega
          rw [← hm] at HQ
          have hm0 : ¬ m = 0 := by omega
          have hm65 : m < 65 := by omega
          simp only [hkm] at HB HQ ⊢
          obtain ⟨a0, a1, a2⟩ := (show _ ∧ _ ∧ _ from ⟨HB.out.lo (m * 3) (by omega), HB.out.lo (m * 3 + 1) (by omega), HB.out.lo (m * 3 + 2) (by omega)⟩)
          have HA := Lib.hid (show actC A m = #[.int .u64 (A (m * 3)), .int .u64 (A (m * 3 + 1)), .int .u64 (A (m * 3 + 2))] from if_neg hm0)
          have t1 : decide ((m : Int) < 65) = true := decide_eq_true (by omega)
          have HD := Lib.hid (show decide (0 < m) = true from decide_eq_true (by omega))
          clear hm hkm hm0 hkq hjk hj HM ek t0
          generalize A (m * 3) = z0 at *
          generalize A (m * 3 + 1) = z1 at *
          generalize A (m * 3 + 2) = z2 at *
          go_wp2_with fail
          go_region
          all_goals go_wp2
          all_goals
            refine bodyPost_ret (results_tct rfl _ _ w.heap.size 33 #[.int .u64 z0, .int .u64 z1, .int .u64 z2] (0, 0) _ rfl ?_ Tryd.underlying33 rfl (by kernel_rfl)) rfl ?_
            · first | exact blk3' (w := w5.drew) (show Blk w5.drew w.heap.size 33 #[.int .u64 0, .int .u64 0, .int .u64 0] from HN.out) _ _ _ | exact blk3' HN.out _ _ _
            exact ⟨m, _, HQ.out, by rw [HA.out, HD.out]; rfl, by first | exact st3' (w := w5.drew) (show St w5.drew g A M _ x y from HB.out) hne _ _ _ | exact st3' HB.out hne _ _ _, by first | exact fr3' HF.out.drew (Nat.le_refl _) _ _ _ | exact fr3' HF.out (Nat.le_refl _) _ _ _⟩
        · have HQ := Lib.hid (mid_next HM.out HQ.out HP.out)
          go_wp2_with fail
          go_roundg (64 - (k + 1))
          case measure => omega
          case rel => exact Lib.hid ⟨_, k + 1, by omega, by omega, HQ.out, HB.out, HF.out, HN.out⟩
end Go.Proofs.YtdlcejnkicdjnaaDoor.Sg
