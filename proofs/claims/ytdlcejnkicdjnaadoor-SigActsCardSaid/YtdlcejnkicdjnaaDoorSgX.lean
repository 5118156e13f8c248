/- The document's Take of signals, walked. -/
import Derived.Test.YtdlcejnkicdjnaaDoorSgW
namespace Go.Proofs.YtdlcejnkicdjnaaDoor.Sg
open Go Go.RowKit Go.Proofs.YtdlcejnkicdjnaaDoorW.PrintWords Go.Proofs.YtdlcejnkicdjnaaDoorW.PrintLast Go.Proofs.YtdlcejnkicdjnaaDoorW.PrintMore
open Go.Proofs.YtdlcejnkicdjnaaDoor.Hp Go.Proofs.YtdlcejnkicdjnaaDoor.Bv
attribute [local go_sem] max2_int min2_int max_two min_two max_three min_three max_four min_four
attribute [local go_sem] wrap_add wrap_sub wrap_mul wrap_neg and_U or_U xor_U andNot_U wrap_U
set_option linter.unusedVariables false
set_option linter.unusedSimpArgs false
def AtRd (A : Nat → Int) (M P : BitVec 64) (mf : Nat → Bool) (x y : BitVec 64) (w0 : World) (g : Nat) (i : Value) (kq : Nat) (wr : World) : Prop :=
  ∃ (k : Nat) (pf : Nat → Bool), i = .int .i64 ((k : Int) + 1) ∧ k ≤ 64 ∧ 64 - k ≤ kq ∧ pf 0 = false ∧
    ((∀ j, j < 64 → pf (j + 1) = (P.getLsbD j && (decide (k ≤ j) || M.getLsbD j))) ∧ ∀ j, j < k → P.getLsbD j = true → M.getLsbD j = false → passZ (A ((j + 1) * 3)) ((j + 1 : Nat) : Int) = true) ∧ Rs wr g A mf pf x y ∧ Fr (fun i => i = g) w0 wr
/-- What ready comes to. -/
def ReadyOk (A : Nat → Int) (M P : BitVec 64) (n : Nat) (pf : Nat → Bool) : Prop :=
  pf 0 = false ∧ ((n = 0 ∧ (∀ i, i < 64 → P.getLsbD i = true → M.getLsbD i = false → passZ (A ((i + 1) * 3)) ((i + 1 : Nat) : Int) = true) ∧ ∀ i, i < 64 → pf (i + 1) = (P.getLsbD i && M.getLsbD i)) ∨
    ∃ k, k < 64 ∧ n = k + 1 ∧ P.getLsbD k = true ∧ M.getLsbD k = false ∧ passZ (A ((k + 1) * 3)) ((k + 1 : Nat) : Int) = false ∧
      (∀ i, i < k → P.getLsbD i = true → M.getLsbD i = false → passZ (A ((i + 1) * 3)) ((i + 1 : Nat) : Int) = true) ∧ ∀ i, i < 64 → pf (i + 1) = (P.getLsbD i && (decide (k ≤ i) || M.getLsbD i)))
theorem rd_next {A : Nat → Int} {M P : BitVec 64} {pf : Nat → Bool} {k : Nat} (hk : k < 64) (h : (∀ j, j < 64 → pf (j + 1) = (P.getLsbD j && (decide (k ≤ j) || M.getLsbD j))) ∧ ∀ j, j < k → P.getLsbD j = true → M.getLsbD j = false → passZ (A ((j + 1) * 3)) ((j + 1 : Nat) : Int) = true)
    (hp : P.getLsbD k = false ∨ M.getLsbD k = true) : (∀ j, j < 64 → pf (j + 1) = (P.getLsbD j && (decide (k + 1 ≤ j) || M.getLsbD j))) ∧ ∀ j, j < k + 1 → P.getLsbD j = true → M.getLsbD j = false → passZ (A ((j + 1) * 3)) ((j + 1 : Nat) : Int) = true := by
  refine ⟨fun j hj => ?_, fun j hj h1 h2 => ?_⟩
  · rw [h.1 j hj]
    by_cases c : j = k
    · subst c
      rcases hp with e | e <;> rw [e] <;> simp
    · by_cases c2 : k < j
      · rw [decide_eq_true (show k ≤ j by omega), decide_eq_true (show k + 1 ≤ j by omega)]
      · rw [decide_eq_false (show ¬ k ≤ j by omega), decide_eq_false (show ¬ k + 1 ≤ j by omega)]
  · by_cases c : j = k
    · subst c
      rcases hp with e | e
      · rw [e] at h1; cases h1
      · rw [e] at h2; cases h2
    · exact h.2 j (by omega) h1 h2
theorem rd_pass {A : Nat → Int} {M P : BitVec 64} {pf : Nat → Bool} {k : Nat} (hk : k < 64) (h : (∀ j, j < 64 → pf (j + 1) = (P.getLsbD j && (decide (k ≤ j) || M.getLsbD j))) ∧ ∀ j, j < k → P.getLsbD j = true → M.getLsbD j = false → passZ (A ((j + 1) * 3)) ((j + 1 : Nat) : Int) = true)
    (hm : M.getLsbD k = false) (hp : passZ (A ((k + 1) * 3)) ((k + 1 : Nat) : Int) = true) : (∀ j, j < 64 → updB pf (k + 1) false (j + 1) = (P.getLsbD j && (decide (k + 1 ≤ j) || M.getLsbD j))) ∧ ∀ j, j < k + 1 → P.getLsbD j = true → M.getLsbD j = false → passZ (A ((j + 1) * 3)) ((j + 1 : Nat) : Int) = true := by
  refine ⟨fun j hj => ?_, fun j hj h1 h2 => ?_⟩
  · unfold updB
    by_cases c : j = k
    · subst c
      rw [if_pos rfl, hm]
      simp
    · rw [if_neg (by omega), h.1 j hj]
      by_cases c2 : k < j
      · rw [decide_eq_true (show k ≤ j by omega), decide_eq_true (show k + 1 ≤ j by omega)]
      · rw [decide_eq_false (show ¬ k ≤ j by omega), decide_eq_false (show ¬ k + 1 ≤ j by omega)]
  · by_cases c : j = k
    · subst c; exact hp
    · exact h.2 j (by omega) h1 h2
theorem quiet_any1 (k : Nat) (w : World) : Calls Tryd.prog 15 #[.int .i64 ((k : Int) + 1)] w fun e w' => e = .returned (.bool (quietZ ((k : Int) + 1))) ∧ Fr (fun _ => False) w w' := quiet_any ((k : Int) + 1) w
set_option maxRecDepth 100000 in
set_option maxHeartbeats 2000000 in
theorem rready_any {g : Nat} {A : Nat → Int} {mf pf : Nat → Bool} {x y : BitVec 64} (M P : BitVec 64) (hm : BitsOf mf M) (hp : BitsOf pf P) (w : World) (h : Rs w g A mf pf x y) : Calls Tryd.prog 33 #[.pointer (some ⟨g, 0, none⟩), .bool true] w fun e w' => ∃ (n : Nat) (pf' : Nat → Bool), e = .returned (.int .i64 (n : Int)) ∧ ReadyOk A M P n pf' ∧ Rs w' g A mf pf' x y ∧ Fr (fun i => i = g) w w' := by
  have HM := Lib.hid hm
  have HP := Lib.hid hp
  have HB := Lib.hid h
  clear hm hp h
  go_enter Tryd.func33, Tryd.ntmps33
  go_wp2_with fail
  go_loopg [5] 64 (fun kq i wr => Hid (AtRd A M P mf x y w g i kq wr))
  case atStart => exact Lib.hid ⟨0, pf, rfl, by omega, by omega, HP.out.1, ⟨fun j hj => by rw [HP.out.2 j hj]; simp, fun j hj => absurd hj (Nat.not_lt_zero _)⟩, HB.out, Fr.refl _ _⟩
  case round =>
    obtain ⟨k, pf, rfl, hk, hkq, h0, hb, hs, hf⟩ := hrel.out
    have HB := Lib.hid hs
    have HF := Lib.hid hf
    have H0 := Lib.hid h0
    have HJ := Lib.hid hb
    clear hrel hs hf h0 hb
    by_cases h64 : k < 64
    · have t1 : decide ((k : Int) + 1 ≤ 64) = true := decide_eq_true (by omega)
      have t1' : decide ((k : Int) < 64) = true := decide_eq_true (by omega)
      have t3 : decide ((k : Int) + 1 < 65) = true := decide_eq_true (by omega)
      have c0 := HB.out.p (k + 1) (by omega)
      have c1 := HB.out.m (k + 1) (by omega)
      have c2 := HB.out.a ((k + 1) * 3) (by omega)
      have f0 := HB.out.frz (260 + (k + 1))
      rw [HJ.out.1 k h64, decide_eq_true (Nat.le_refl k), Bool.true_or, Bool.and_true] at c0
      rw [HM.out.2 k h64] at c1
      obtain ⟨p, hp⟩ : ∃ p, P.getLsbD k = p := ⟨_, rfl⟩
      obtain ⟨m, hm⟩ : ∃ m, M.getLsbD k = m := ⟨_, rfl⟩
      rw [hp] at c0
      rw [hm] at c1
      have HPK := Lib.hid hp
      have HMK := Lib.hid hm
      clear hp hm
      cases p
      · clear c1 c2 f0
        go_wp2_with fail
        go_roundg (64 - (k + 1))
        case measure => omega
        case rel => exact Lib.hid ⟨k + 1, pf, by go_num, by omega, Nat.le_refl _, H0.out, rd_next h64 HJ.out (.inl HPK.out), HB.out, HF.out⟩
      cases m
      · obtain ⟨a, ha⟩ : ∃ a, A ((k + 1) * 3) = a := ⟨_, rfl⟩
        rw [ha] at c2
        have HA := Lib.hid ha
        clear ha
        by_cases a1 : a = 1
        · subst a1
          have HPZ := Lib.hid (show passZ (A ((k + 1) * 3)) ((k + 1 : Nat) : Int) = true from by rw [HA.out]; rfl)
          go_wp2_with fail
          go_roundg (64 - (k + 1))
          case measure => omega
          case rel => exact Lib.hid ⟨k + 1, updB pf (k + 1) false, by go_num, by omega, Nat.le_refl _, by unfold updB; rw [if_neg (by omega)]; exact H0.out, rd_pass h64 HJ.out HMK.out HPZ.out, HB.out.setP (k + 1) (by omega) false, HF.out.setCell (S := fun i => i = g) (p := ⟨g, 260 + (k + 1), none⟩) (.inl rfl) _⟩
        have s1 : (a == 1) = false := beq_eq_false_iff_ne.2 a1
        by_cases a0 : a = 0
        · subst a0
          clear s1 a1
          go_wp2_with fail
          obtain ⟨q, hq⟩ : ∃ q, quietZ ((k : Int) + 1) = q := ⟨_, rfl⟩
          have HQ := Lib.hid hq
          have hqc := quiet_any1 k wr
          rw [hq] at hqc
          refine hqc.mono ?_
          rintro e w2 ⟨rfl, hf⟩
          have HB := Lib.hid (Rs.fr HB.out hf id)
          have HF := Lib.hid (HF.out.trans hf (fun _ _ e => e.elim))
          clear hf hqc hq c0 c1 c2 f0
          have c0 := HB.out.p (k + 1) (by omega)
          have f0 := HB.out.frz (260 + (k + 1))
          cases q
          · have HPZ := Lib.hid (show passZ (A ((k + 1) * 3)) ((k + 1 : Nat) : Int) = false from by rw [HA.out]; unfold passZ; rw [show (((k + 1 : Nat) : Int)) = (k : Int) + 1 by omega, HQ.out]; rfl)
            go_wp2_with fail
            go_ret
            exact ⟨k + 1, pf, by first | rfl | simp, ⟨H0.out, .inr ⟨k, h64, rfl, HPK.out, HMK.out, HPZ.out, HJ.out.2, HJ.out.1⟩⟩, HB.out, HF.out⟩
          · have HPZ := Lib.hid (show passZ (A ((k + 1) * 3)) ((k + 1 : Nat) : Int) = true from by rw [HA.out]; unfold passZ; rw [show (((k + 1 : Nat) : Int)) = (k : Int) + 1 by omega, HQ.out]; rfl)
            go_wp2_with fail
            go_roundg (64 - (k + 1))
            case measure => omega
            case rel => exact Lib.hid ⟨k + 1, updB pf (k + 1) false, by go_num, by omega, Nat.le_refl _, by unfold updB; rw [if_neg (by omega)]; exact H0.out, rd_pass h64 HJ.out HMK.out HPZ.out, HB.out.setP (k + 1) (by omega) false, HF.out.setCell (S := fun i => i = g) (p := ⟨g, 260 + (k + 1), none⟩) (.inl rfl) _⟩
        · have s0 : (a == 0) = false := beq_eq_false_iff_ne.2 a0
          have HPZ := Lib.hid (show passZ (A ((k + 1) * 3)) ((k + 1 : Nat) : Int) = false from by rw [HA.out]; unfold passZ; rw [decide_eq_false a1, decide_eq_false a0]; rfl)
          clear a0 a1
          go_wp2_with fail
          go_ret
          exact ⟨k + 1, pf, by first | rfl | simp, ⟨H0.out, .inr ⟨k, h64, rfl, HPK.out, HMK.out, HPZ.out, HJ.out.2, HJ.out.1⟩⟩, HB.out, HF.out⟩
      · clear c2 f0
        go_wp2_with fail
        go_roundg (64 - (k + 1))
        case measure => omega
        case rel => exact Lib.hid ⟨k + 1, pf, by go_num, by omega, Nat.le_refl _, H0.out, rd_next h64 HJ.out (.inr HMK.out), HB.out, HF.out⟩
    · obtain rfl : k = 64 := by omega
      go_wp2_with fail
      go_ret
      exact ⟨0, pf, rfl, ⟨H0.out, .inl ⟨rfl, fun i hi => HJ.out.2 i hi, fun i hi => by rw [HJ.out.1 i hi, decide_eq_false (by omega), Bool.false_or]⟩⟩, HB.out, HF.out⟩
theorem take_unique {A : Nat → Int} {M P P1 P2 : BitVec 64} {n1 n2 : Nat} (h1 : TakeOk A M P n1 P1) (h2 : TakeOk A M P n2 P2) : n1 = n2 ∧ P1 = P2 := by
  rcases h1 with ⟨rfl, a1, a2⟩ | ⟨k, hk, rfl, b1, b2, b3, b4, b5⟩
  · rcases h2 with ⟨rfl, c1, c2⟩ | ⟨k', hk', rfl, d1, d2, d3, d4, d5⟩
    · exact ⟨rfl, BitVec.eq_of_getLsbD_eq fun i hi => (a2 i hi).trans (c2 i hi).symm⟩
    · rw [a1 k' hk' d1 d2] at d3; cases d3
  · rcases h2 with ⟨rfl, c1, c2⟩ | ⟨k', hk', rfl, d1, d2, d3, d4, d5⟩
    · rw [c1 k hk b1 b2] at b3; cases b3
    · rcases Nat.lt_trichotomy k k' with c | c | c
      · rw [d4 k c b1 b2] at b3; cases b3
      · subst c
        exact ⟨rfl, BitVec.eq_of_getLsbD_eq fun i hi => (b5 i hi).trans (d5 i hi).symm⟩
      · rw [b4 k' c d1 d2] at d3; cases d3
/-- What is left pending, when one was taken. -/
theorem ready_take {A : Nat → Int} {M P P' : BitVec 64} {n n' : Nat} {pf : Nat → Bool} (h : ReadyOk A M P n pf) (ht : TakeOk A M P n' P') : n = n' ∧ BitsOf (updB pf n false) P' ∧ n ≤ 64 := by
  obtain ⟨h0, h⟩ := h
  rcases h with ⟨rfl, a1, a2⟩ | ⟨k, hk, rfl, b1, b2, b3, b4, b5⟩
  · rcases ht with ⟨rfl, c1, c2⟩ | ⟨k', hk', rfl, d1, d2, d3, d4, d5⟩
    · refine ⟨rfl, ⟨by simp [updB], fun j hj => ?_⟩, by omega⟩
      rw [c2 j hj]
      unfold updB
      rw [if_neg (by omega)]
      exact a2 j hj
    · rw [a1 k' hk' d1 d2] at d3; cases d3
  · rcases ht with ⟨rfl, c1, c2⟩ | ⟨k', hk', rfl, d1, d2, d3, d4, d5⟩
    · rw [c1 k hk b1 b2] at b3; cases b3
    · rcases Nat.lt_trichotomy k k' with c | c | c
      · rw [d4 k c b1 b2] at b3; cases b3
      · subst c
        refine ⟨rfl, ⟨by unfold updB; rw [if_neg (by omega)]; exact h0, fun i hi => ?_⟩, by omega⟩
        rw [d5 i hi]
        unfold updB
        by_cases c : i = k
        · subst c
          rw [if_pos rfl, b2]
          simp
        · rw [if_neg (by omega), b5 i hi]
          by_cases c2 : k < i
          · rw [decide_eq_true c2, decide_eq_true (show k ≤ i by omega)]
          · rw [decide_eq_false c2, decide_eq_false (show ¬ k ≤ i by omega)]
      · rw [b4 k' c d1 d2] at d3; cases d3
theorem rtake_any {g : Nat} {A : Nat → Int} {mf pf : Nat → Bool} {x y : BitVec 64} (M P P' : BitVec 64) (n : Nat) (ht : TakeOk A M P n P') (hm : BitsOf mf M) (hp : BitsOf pf P) (w : World) (h : Rs w g A mf pf x y) : Calls Tryd.prog 25 #[.pointer (some ⟨g, 0, none⟩)] w fun e w' => e = .returned (.int .i64 (n : Int)) ∧ ∃ pf', BitsOf pf' P' ∧ Rs w' g A mf pf' x y ∧ Fr (fun i => i = g) w w' := by
  have H := Lib.hid (rready_any M P hm hp w h)
  have HTK := Lib.hid ht
  clear hm hp h ht
  go_enter Tryd.func25, Tryd.ntmps25
  go_wp2_with fail
  refine H.out.mono ?_
  rintro e w1 ⟨n', pf', rfl, hr, hs, hf⟩
  obtain ⟨rfl, hb, hn⟩ := ready_take hr HTK.out
  have HB := Lib.hid hs
  have HF := Lib.hid hf
  have HP := Lib.hid hb
  have t1 : decide ((n' : Int) < 65) = true := decide_eq_true (by omega)
  have c0 := HB.out.p n' (by omega)
  have f0 := HB.out.frz (260 + n')
  have hn65 : n' < 65 := by omega
  clear hr hs hf hb H HTK
  go_wp2_with fail
  go_ret
  exact ⟨rfl, updB pf' n' false, HP.out, HB.out.setP n' hn65 false, HF.out.setCell (S := fun i => i = g) (p := ⟨g, 260 + n', none⟩) (.inl rfl) _⟩
end Go.Proofs.YtdlcejnkicdjnaaDoor.Sg
