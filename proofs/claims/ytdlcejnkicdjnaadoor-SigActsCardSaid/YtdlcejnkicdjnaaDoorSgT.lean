/- The law SigNever, walked. -/
import Derived.Test.YtdlcejnkicdjnaaDoorSgS
import Derived.BigQuiet
namespace Go.Proofs.YtdlcejnkicdjnaaDoor.Sg
open Go Go.RowKit Go.Proofs.YtdlcejnkicdjnaaDoorW.PrintWords Go.Proofs.YtdlcejnkicdjnaaDoorW.PrintLast Go.Proofs.YtdlcejnkicdjnaaDoorW.PrintMore
open Go.Proofs.YtdlcejnkicdjnaaDoor.Hp Go.Proofs.YtdlcejnkicdjnaaDoor.Bv
attribute [local go_sem] max2_int min2_int max_two min_two max_three min_three max_four min_four
attribute [local go_sem] wrap_add wrap_sub wrap_mul wrap_neg and_U or_U xor_U andNot_U wrap_U
set_option linter.unusedVariables false
set_option linter.unusedSimpArgs false
theorem upd3_at (A : Nat → Int) (m : Nat) (v0 v1 v2 : Int) (k : Nat) : upd3 A m v0 v1 v2 k = if k = m * 3 + 2 then v2 else if k = m * 3 + 1 then v1 else if k = m * 3 then v0 else A k := rfl
/-- What holds of a state: two signals are never masked, and have no action. -/
def NSafe (A : Nat → Int) (M : BitVec 64) : Prop := (A 27 = 0 ∧ A 28 = 0 ∧ A 29 = 0) ∧ (A 57 = 0 ∧ A 58 = 0 ∧ A 59 = 0) ∧ M &&& 262400#64 = 0#64 ∧ ∀ k, k < 65 → ∃ v, A (k * 3 + 2) = U v ∧ v &&& 262400#64 = 0#64
theorem keep_safe (X : BitVec 64) : keepZ X &&& 262400#64 = 0#64 := by
  unfold keepZ
  rw [BitVec.and_assoc, show (~~~262400#64 : BitVec 64) &&& 262400#64 = 0#64 from by decide]
  exact BitVec.and_zero
theorem nsafe0 : NSafe (fun _ => 0) 0#64 := ⟨⟨rfl, rfl, rfl⟩, ⟨rfl, rfl, rfl⟩, rfl, fun k _ => ⟨0#64, rfl, rfl⟩⟩
theorem NSafe.mask {A : Nat → Int} {M : BitVec 64} (h : NSafe A M) (X : BitVec 64) : NSafe A (keepZ X) := ⟨h.1, h.2.1, keep_safe X, h.2.2.2⟩
theorem NSafe.upd3 {A : Nat → Int} {M : BitVec 64} (h : NSafe A M) (m : Nat) (hm : m ≠ 9 ∧ m ≠ 19 ∨ True) (v0 v1 : Int) (v : BitVec 64) (hv : v &&& 262400#64 = 0#64) (h9 : m = 9 ∨ m = 19 → v0 = 0 ∧ v1 = 0 ∧ v = 0#64) : NSafe (upd3 A m v0 v1 (U v)) M := by
  refine ⟨?_, ?_, h.2.2.1, fun k hk => ?_⟩
  · by_cases e : m = 9
    · subst e
      obtain ⟨rfl, rfl, rfl⟩ := h9 (.inl rfl)
      simp [upd3_at, U]
    · simp only [upd3_at]
      repeat rw [if_neg (by omega)]
      exact h.1
  · by_cases e : m = 19
    · subst e
      obtain ⟨rfl, rfl, rfl⟩ := h9 (.inr rfl)
      simp [upd3_at, U]
    · simp only [upd3_at]
      repeat rw [if_neg (by omega)]
      exact h.2.1
  · by_cases e : k = m
    · subst e
      exact ⟨v, by simp [upd3_at], hv⟩
    · obtain ⟨u, e1, e2⟩ := h.2.2.2 k hk
      refine ⟨u, ?_, e2⟩
      rw [← e1, upd3_at, if_neg (by omega), if_neg (by omega), if_neg (by omega)]
theorem NSafe.sa {A : Nat → Int} {M : BitVec 64} (h : NSafe A M) (n a0 : Int) (a1 v : BitVec 64) : NSafe (saA n a0 a1 v A) M := by
  unfold saA
  split
  · exact h.upd3 _ (.inr trivial) _ _ _ (keep_safe v) (fun e => by omega)
  · exact h
theorem NSafe.ch {A : Nat → Int} {M : BitVec 64} (h : NSafe A M) (n : Int) (X : BitVec 64) : NSafe A (chM n M X) := by
  unfold chM
  split
  · exact h.mask _
  · split
    · exact h.mask _
    · split
      · exact h.mask _
      · exact h
theorem NSafe.en {A : Nat → Int} {M : BitVec 64} (h : NSafe A M) (n : Int) (fl v : BitVec 64) : NSafe (enA n fl A) (enM n fl v M) := by
  unfold enA enM
  split
  · refine NSafe.mask (M := M) ?_ _
    split
    · exact h.upd3 _ (.inr trivial) 0 0 0#64 rfl (fun _ => ⟨rfl, rfl, rfl⟩)
    · exact h
  · exact h
theorem and_part (v b : BitVec 64) (h : v &&& 262400#64 = 0#64) (hb : b = bitZ 9 ∨ b = bitZ 19) : v &&& b = 0#64 := by
  have e : b = 262400#64 &&& b := by rcases hb with rfl | rfl <;> decide
  rw [e, ← BitVec.and_assoc, h]
  exact BitVec.zero_and
theorem action_bar {g : Nat} {A : Nat → Int} {M P x y : BitVec 64} (n : Int) (hn : n = 9 ∨ n = 19) (hs : NSafe A M) (w : World) (h : St w g A M P x y) : Calls Tryd.prog 20 #[.pointer (some ⟨g, 0, none⟩), .int .i64 n] w fun e w' => e = .returned (.tuple #[.agg #[.int .u64 0, .int .u64 0, .int .u64 0], .int .i64 0]) ∧ Fr (fun _ => False) w w' := by
  refine (action_any n w h).mono fun _ _ k => ⟨?_, k.2⟩
  rw [k.1]
  have e0 : acE n = 0 := if_pos (by omega)
  obtain ⟨⟨a1, a2, a3⟩, ⟨b1, b2, b3⟩, _⟩ := hs
  have z : acZ A n 0 = 0 ∧ acZ A n 1 = 0 ∧ acZ A n 2 = 0 := by rcases hn with rfl | rfl <;> exact ⟨by assumption, by assumption, by assumption⟩
  rw [e0, z.1, z.2.1, z.2.2]
theorem action_safe {g : Nat} {A : Nat → Int} {M P x y : BitVec 64} (n : Int) (hs : NSafe A M) (w : World) (h : St w g A M P x y) : Calls Tryd.prog 20 #[.pointer (some ⟨g, 0, none⟩), .int .i64 n] w fun e w' => ∃ (a b : Int) (v : BitVec 64) (c : Int), v &&& 262400#64 = 0#64 ∧ e = .returned (.tuple #[.agg #[.int .u64 a, .int .u64 b, .int .u64 (U v)], .int .i64 c]) ∧ Fr (fun _ => False) w w' := by
  refine (action_any n w h).mono fun _ _ k => ?_
  have z : ∃ v : BitVec 64, acZ A n 2 = U v ∧ v &&& 262400#64 = 0#64 := by
    unfold acZ
    split
    · exact hs.2.2.2 _ (by omega)
    · exact ⟨0#64, rfl, rfl⟩
  obtain ⟨v, e, hv⟩ := z
  exact ⟨_, _, v, _, hv, by rw [k.1, e], k.2⟩
/-- At the head of the loop over the acts. -/
def AtNv (w : World) (g : Nat) (i : Value) (kq : Nat) (wr : World) : Prop := ∃ (k : Nat) (A : Nat → Int) (M : BitVec 64), i = .int .i64 k ∧ k ≤ 80 ∧ 80 - k ≤ kq ∧ NSafe A M ∧ St wr g A M 0#64 0#64 0#64 ∧ Fr (fun _ => False) w wr
/-- At the head of the loop over the two signals. -/
def AtTwo (w : World) (g : Nat) (A : Nat → Int) (M : BitVec 64) (b : Nat) (cs : Array Value) (i : Value) (kq : Nat) (wr : World) : Prop := (i = .int .i64 0 ∧ 2 ≤ kq ∨ i = .int .i64 1 ∧ 1 ≤ kq ∨ i = .int .i64 2) ∧ St wr g A M 0#64 0#64 0#64 ∧ Blk wr b 42 cs ∧ Fr (fun _ => False) w wr
set_option maxHeartbeats 4000000 in
set_option maxRecDepth 100000 in
theorem never_any' (a : Option Addr) (len cap : Nat) (w : World) (hlen : len ≤ 9223372036854775807) (hacts : ∀ i, i < len → ∃ x d n h f m X, a = some x ∧ ActAt w (x.add (i * 6)) d n h f m X) (ht : Tb w) : Calls Tryd.prog 4 #[.slice a len cap] w fun e w' => e = .returned (.bool true) ∧ Fr (fun _ => False) w w' := by
  have HA := Lib.hid hacts
  have HT := Lib.hid ht
  clear hacts ht
  go_enter Tryd.func4, Tryd.ntmps4
  go_wp2_with fail
  refine (new_any _).mono ?_
  rintro e w1 ⟨rfl, hs, hf⟩
  have HF := Lib.hid hf
  have HS := Lib.hid hs
  have HT := Lib.hid (HT.out.fr hf id)
  clear hs hf
  go_wp2_with fail
  refine (answers_any _ HT.out).mono ?_
  rintro e w2 ⟨rfl, hf⟩
  have HF := Lib.hid (HF.out.trans hf (fun _ _ => id))
  have HS := Lib.hid (HS.out.fr hf id)
  clear hf
  go_wp2_with fail
  go_loopg [4] 80 (fun kq i wr => Hid (AtNv w w.heap.size i kq wr))
  case atStart => exact Lib.hid ⟨0, _, _, rfl, by omega, by omega, nsafe0, HS.out, HF.out⟩
  case round =>
    obtain ⟨k, A, M, rfl, hk80, hkq, hn, hs, hf⟩ := hrel.out
    have HN := Lib.hid hn
    have HS := Lib.hid hs
    have HF := Lib.hid hf
    clear hrel hn hs hf
    by_cases hk : k < len ∧ k < 80
    · obtain ⟨hkl, hk6⟩ := hk
      have t1 : decide ((k : Int) < (len : Int)) = true := decide_eq_true (by omega)
      have t1' : decide (k < len) = true := decide_eq_true (by omega)
      have t2 : decide ((k : Int) < 80) = true := decide_eq_true (by omega)
      have t2' : decide (k < 80) = true := decide_eq_true (by omega)
      obtain ⟨x, d, n, hh, ff, mm, X, hax, hact⟩ := HA.out k hkl
      subst hax
      have hX := hact.fr HF.out
      clear hact
      have x0 : wr.cell? (x.add (k * 6)) = some (.int .i64 d) := hX.c0
      have x1 : wr.cell? ⟨(x.add (k * 6)).block, (x.add (k * 6)).off + 1, none⟩ = some (.int .i64 n) := hX.c1
      have x2 : wr.cell? ⟨(x.add (k * 6)).block, (x.add (k * 6)).off + 2, none⟩ = some (.int .u64 (U hh)) := hX.c2
      have x3 : wr.cell? ⟨(x.add (k * 6)).block, (x.add (k * 6)).off + 3, none⟩ = some (.int .u64 (U ff)) := hX.c3
      have x4 : wr.cell? ⟨(x.add (k * 6)).block, (x.add (k * 6)).off + 4, none⟩ = some (.int .u64 (U mm)) := hX.c4
      have x5 : wr.cell? ⟨(x.add (k * 6)).block, (x.add (k * 6)).off + 5, none⟩ = some (.int .u64 (U X)) := hX.c5
      clear hX
      have hgl := HS.out.lt
      have hne : ¬ (wr.heap.size = w.heap.size) := by omega
      have HF := Lib.hid (HF.out.alloc (.cells #[.int .i64 d, .int .i64 n, .int .u64 (U hh), .int .u64 (U ff), .int .u64 (U mm), .int .u64 (U X)] 42))
      have HS := Lib.hid (Blk.alloc HS.out (.cells #[.int .i64 d, .int .i64 n, .int .u64 (U hh), .int .u64 (U ff), .int .u64 (U mm), .int .u64 (U X)] 42))
      have HC := Lib.hid (Blk.new wr 42 #[.int .i64 d, .int .i64 n, .int .u64 (U hh), .int .u64 (U ff), .int .u64 (U mm), .int .u64 (U X)])
      by_cases d1 : d = 1
      · subst d1
        go_wp2_with fail
        refine (setaction_any n _ ff mm _ HS.out).mono ?_
        rintro e w3 ⟨rfl, hs, hf⟩
        have HN := Lib.hid (HN.out.sa n (U hh) ff mm)
        have HC := Lib.hid (HC.out.fr hf hne)
        have HF := Lib.hid (HF.out.trans hf (fun i hi e => absurd e (by omega)))
        have HS := Lib.hid hs
        clear hs hf x0 x1 x2 x3 x4 x5
        generalize saA n (U hh) ff mm A = A' at *
        generalize hbz : wr.heap.size = bz at HC hne ⊢
        clear hbz
        have hm2 := HN.out
        go_wp2_with fail
        go_loopg [6] 2 (fun kq i wr2 => Hid (AtTwo w w.heap.size A' M bz #[.int .i64 1, .int .i64 n, .int .u64 (U hh), .int .u64 (U ff), .int .u64 (U mm), .int .u64 (U X)] i kq wr2))
        case atStart => exact Lib.hid ⟨.inl ⟨rfl, Nat.le_refl _⟩, HS.out, HC.out, HF.out⟩
        case round =>
          obtain ⟨hi, hs, hc, hf⟩ := hrel.out
          have HS := Lib.hid hs
          have HC := Lib.hid hc
          have HF := Lib.hid hf
          clear hrel hs hc hf
          rcases hi with ⟨rfl, hkq2⟩ | ⟨rfl, hkq2⟩ | rfl
          · go_wp2_with fail
            have HS := Lib.hid (Blk.alloc HS.out (.cells #[.int .i64 9, .int .i64 19] 3))
            have HC := Lib.hid (HC.out.alloc (.cells #[.int .i64 9, .int .i64 19] 3))
            have HF := Lib.hid (HF.out.alloc (.cells #[.int .i64 9, .int .i64 19] 3))
            refine (action_bar 9 (.inl rfl) HN.out _ HS.out).mono ?_
            rintro e w5 ⟨rfl, hf⟩
            have HS := Lib.hid (Blk.alloc (St.fr HS.out hf id) (.cells #[.int .u64 0, .int .u64 0, .int .u64 0] 33))
            have HC := Lib.hid ((HC.out.fr hf id).alloc (.cells #[.int .u64 0, .int .u64 0, .int .u64 0] 33))
            have HF := Lib.hid ((HF.out.trans hf (fun _ _ => id)).alloc (.cells #[.int .u64 0, .int .u64 0, .int .u64 0] 33))
            have HY := Lib.hid (Blk.new w5 33 #[.int .u64 0, .int .u64 0, .int .u64 0])
            clear hf
            have c1 := HC.out.cell 1
            simp at c1
            go_wp2_with fail
            refine (action_safe n HN.out _ HS.out).mono ?_
            rintro e w6 ⟨a', b', v', c', hv, rfl, hf⟩
            have HS := Lib.hid (Blk.alloc (St.fr HS.out hf id) (.cells #[.int .u64 a', .int .u64 b', .int .u64 (U v')] 33))
            have HC := Lib.hid ((HC.out.fr hf id).alloc (.cells #[.int .u64 a', .int .u64 b', .int .u64 (U v')] 33))
            have HY := Lib.hid ((HY.out.fr hf id).alloc (.cells #[.int .u64 a', .int .u64 b', .int .u64 (U v')] 33))
            have HF := Lib.hid ((HF.out.trans hf (fun _ _ => id)).alloc (.cells #[.int .u64 a', .int .u64 b', .int .u64 (U v')] 33))
            have m0 : U (M &&& bitZ 9) = 0 := U_zero.2 (and_part _ _ HN.out.2.2.1 (.inl rfl))
            have m1 : (U (M &&& bitZ 9) != 0) = false := by rw [bne, m0]; rfl
            have m2 : U (v' &&& bitZ 9) = 0 := U_zero.2 (and_part _ _ hv (.inl rfl))
            have m3 : (U (v' &&& bitZ 9) != 0) = false := by rw [bne, m2]; rfl
            obtain ⟨y0, y1, y2⟩ := (show _ ∧ _ ∧ _ from ⟨HY.out.cell 0, HY.out.cell 1, HY.out.cell 2⟩)
            simp at y0 y1 y2
            have hq3 := eq_act 0 0 0 0 0 0
            clear hf c1 hv
            go_wp2_with fail
            go_quiet (first | (go_at_call 13; exact Calls.quiet_of_same (bit_same _ _)) | (go_at_call 10; exact Calls.quiet_of_same (mask_same _ (show St _ w.heap.size A' M 0#64 0#64 0#64 from HS.out))))
            go_wp2_with fail
            go_roundg 1
            case measure => omega
            case rel => exact Lib.hid ⟨.inr (.inl ⟨rfl, Nat.le_refl _⟩), (show St ((w6.alloc (.cells #[.int .u64 a', .int .u64 b', .int .u64 (U v')] 33)).drewN nq) w.heap.size A' M 0#64 0#64 0#64 from HS.out), (show Blk ((w6.alloc (.cells #[.int .u64 a', .int .u64 b', .int .u64 (U v')] 33)).drewN nq) bz 42 #[.int .i64 1, .int .i64 n, .int .u64 (U hh), .int .u64 (U ff), .int .u64 (U mm), .int .u64 (U X)] from HC.out), HF.out.drewN nq⟩
          · go_wp2_with fail
            have HS := Lib.hid (Blk.alloc HS.out (.cells #[.int .i64 9, .int .i64 19] 3))
            have HC := Lib.hid (HC.out.alloc (.cells #[.int .i64 9, .int .i64 19] 3))
            have HF := Lib.hid (HF.out.alloc (.cells #[.int .i64 9, .int .i64 19] 3))
            refine (action_bar 19 (.inr rfl) HN.out _ HS.out).mono ?_
            rintro e w5 ⟨rfl, hf⟩
            have HS := Lib.hid (Blk.alloc (St.fr HS.out hf id) (.cells #[.int .u64 0, .int .u64 0, .int .u64 0] 33))
            have HC := Lib.hid ((HC.out.fr hf id).alloc (.cells #[.int .u64 0, .int .u64 0, .int .u64 0] 33))
            have HF := Lib.hid ((HF.out.trans hf (fun _ _ => id)).alloc (.cells #[.int .u64 0, .int .u64 0, .int .u64 0] 33))
            have HY := Lib.hid (Blk.new w5 33 #[.int .u64 0, .int .u64 0, .int .u64 0])
            clear hf
            have c1 := HC.out.cell 1
            simp at c1
            go_wp2_with fail
            refine (action_safe n HN.out _ HS.out).mono ?_
            rintro e w6 ⟨a', b', v', c', hv, rfl, hf⟩
            have HS := Lib.hid (Blk.alloc (St.fr HS.out hf id) (.cells #[.int .u64 a', .int .u64 b', .int .u64 (U v')] 33))
            have HC := Lib.hid ((HC.out.fr hf id).alloc (.cells #[.int .u64 a', .int .u64 b', .int .u64 (U v')] 33))
            have HY := Lib.hid ((HY.out.fr hf id).alloc (.cells #[.int .u64 a', .int .u64 b', .int .u64 (U v')] 33))
            have HF := Lib.hid ((HF.out.trans hf (fun _ _ => id)).alloc (.cells #[.int .u64 a', .int .u64 b', .int .u64 (U v')] 33))
            have m0 : U (M &&& bitZ 19) = 0 := U_zero.2 (and_part _ _ HN.out.2.2.1 (.inr rfl))
            have m1 : (U (M &&& bitZ 19) != 0) = false := by rw [bne, m0]; rfl
            have m2 : U (v' &&& bitZ 19) = 0 := U_zero.2 (and_part _ _ hv (.inr rfl))
            have m3 : (U (v' &&& bitZ 19) != 0) = false := by rw [bne, m2]; rfl
            obtain ⟨y0, y1, y2⟩ := (show _ ∧ _ ∧ _ from ⟨HY.out.cell 0, HY.out.cell 1, HY.out.cell 2⟩)
            simp at y0 y1 y2
            have hq3 := eq_act 0 0 0 0 0 0
            clear hf c1 hv
            go_wp2_with fail
            go_quiet (first | (go_at_call 13; exact Calls.quiet_of_same (bit_same _ _)) | (go_at_call 10; exact Calls.quiet_of_same (mask_same _ (show St _ w.heap.size A' M 0#64 0#64 0#64 from HS.out))))
            go_wp2_with fail
            go_roundg 0
            case measure => omega
            case rel => exact Lib.hid ⟨.inr (.inr rfl), (show St ((w6.alloc (.cells #[.int .u64 a', .int .u64 b', .int .u64 (U v')] 33)).drewN nq) w.heap.size A' M 0#64 0#64 0#64 from HS.out), (show Blk ((w6.alloc (.cells #[.int .u64 a', .int .u64 b', .int .u64 (U v')] 33)).drewN nq) bz 42 #[.int .i64 1, .int .i64 n, .int .u64 (U hh), .int .u64 (U ff), .int .u64 (U mm), .int .u64 (U X)] from HC.out), HF.out.drewN nq⟩
          · go_wp2_with fail
            go_roundg (80 - (k + 1))
            case measure => omega
            case rel => exact Lib.hid ⟨k + 1, A', M, by go_num, by omega, Nat.le_refl _, HN.out, HS.out, HF.out⟩
      by_cases d2 : d = 2
      · subst d2
        go_wp2_with fail
        refine (setmask_any X _ HS.out).mono ?_
        rintro e w3 ⟨rfl, hs, hf⟩
        have HN := Lib.hid (HN.out.mask X)
        have HC := Lib.hid (HC.out.fr hf hne)
        have HF := Lib.hid (HF.out.trans hf (fun i hi e => absurd e (by omega)))
        have HS := Lib.hid hs
        clear hs hf x0 x1 x2 x3 x4 x5
        generalize keepZ X = M' at *
        generalize hbz : wr.heap.size = bz at HC hne ⊢
        clear hbz
        have hm2 := HN.out
        go_wp2_with fail
        go_loopg [6] 2 (fun kq i wr2 => Hid (AtTwo w w.heap.size A M' bz #[.int .i64 2, .int .i64 n, .int .u64 (U hh), .int .u64 (U ff), .int .u64 (U mm), .int .u64 (U X)] i kq wr2))
        case atStart => exact Lib.hid ⟨.inl ⟨rfl, Nat.le_refl _⟩, HS.out, HC.out, HF.out⟩
        case round =>
          obtain ⟨hi, hs, hc, hf⟩ := hrel.out
          have HS := Lib.hid hs
          have HC := Lib.hid hc
          have HF := Lib.hid hf
          clear hrel hs hc hf
          rcases hi with ⟨rfl, hkq2⟩ | ⟨rfl, hkq2⟩ | rfl
          · go_wp2_with fail
            have HS := Lib.hid (Blk.alloc HS.out (.cells #[.int .i64 9, .int .i64 19] 3))
            have HC := Lib.hid (HC.out.alloc (.cells #[.int .i64 9, .int .i64 19] 3))
            have HF := Lib.hid (HF.out.alloc (.cells #[.int .i64 9, .int .i64 19] 3))
            refine (action_bar 9 (.inl rfl) HN.out _ HS.out).mono ?_
            rintro e w5 ⟨rfl, hf⟩
            have HS := Lib.hid (Blk.alloc (St.fr HS.out hf id) (.cells #[.int .u64 0, .int .u64 0, .int .u64 0] 33))
            have HC := Lib.hid ((HC.out.fr hf id).alloc (.cells #[.int .u64 0, .int .u64 0, .int .u64 0] 33))
            have HF := Lib.hid ((HF.out.trans hf (fun _ _ => id)).alloc (.cells #[.int .u64 0, .int .u64 0, .int .u64 0] 33))
            have HY := Lib.hid (Blk.new w5 33 #[.int .u64 0, .int .u64 0, .int .u64 0])
            clear hf
            have c1 := HC.out.cell 1
            simp at c1
            go_wp2_with fail
            refine (action_safe n HN.out _ HS.out).mono ?_
            rintro e w6 ⟨a', b', v', c', hv, rfl, hf⟩
            have HS := Lib.hid (Blk.alloc (St.fr HS.out hf id) (.cells #[.int .u64 a', .int .u64 b', .int .u64 (U v')] 33))
            have HC := Lib.hid ((HC.out.fr hf id).alloc (.cells #[.int .u64 a', .int .u64 b', .int .u64 (U v')] 33))
            have HY := Lib.hid ((HY.out.fr hf id).alloc (.cells #[.int .u64 a', .int .u64 b', .int .u64 (U v')] 33))
            have HF := Lib.hid ((HF.out.trans hf (fun _ _ => id)).alloc (.cells #[.int .u64 a', .int .u64 b', .int .u64 (U v')] 33))
            have m0 : U (M' &&& bitZ 9) = 0 := U_zero.2 (and_part _ _ HN.out.2.2.1 (.inl rfl))
            have m1 : (U (M' &&& bitZ 9) != 0) = false := by rw [bne, m0]; rfl
            have m2 : U (v' &&& bitZ 9) = 0 := U_zero.2 (and_part _ _ hv (.inl rfl))
            have m3 : (U (v' &&& bitZ 9) != 0) = false := by rw [bne, m2]; rfl
            obtain ⟨y0, y1, y2⟩ := (show _ ∧ _ ∧ _ from ⟨HY.out.cell 0, HY.out.cell 1, HY.out.cell 2⟩)
            simp at y0 y1 y2
            have hq3 := eq_act 0 0 0 0 0 0
            clear hf c1 hv
            go_wp2_with fail
            go_quiet (first | (go_at_call 13; exact Calls.quiet_of_same (bit_same _ _)) | (go_at_call 10; exact Calls.quiet_of_same (mask_same _ (show St _ w.heap.size A M' 0#64 0#64 0#64 from HS.out))))
            go_wp2_with fail
            go_roundg 1
            case measure => omega
            case rel => exact Lib.hid ⟨.inr (.inl ⟨rfl, Nat.le_refl _⟩), (show St ((w6.alloc (.cells #[.int .u64 a', .int .u64 b', .int .u64 (U v')] 33)).drewN nq) w.heap.size A M' 0#64 0#64 0#64 from HS.out), (show Blk ((w6.alloc (.cells #[.int .u64 a', .int .u64 b', .int .u64 (U v')] 33)).drewN nq) bz 42 #[.int .i64 2, .int .i64 n, .int .u64 (U hh), .int .u64 (U ff), .int .u64 (U mm), .int .u64 (U X)] from HC.out), HF.out.drewN nq⟩
          · go_wp2_with fail
            have HS := Lib.hid (Blk.alloc HS.out (.cells #[.int .i64 9, .int .i64 19] 3))
            have HC := Lib.hid (HC.out.alloc (.cells #[.int .i64 9, .int .i64 19] 3))
            have HF := Lib.hid (HF.out.alloc (.cells #[.int .i64 9, .int .i64 19] 3))
            refine (action_bar 19 (.inr rfl) HN.out _ HS.out).mono ?_
            rintro e w5 ⟨rfl, hf⟩
            have HS := Lib.hid (Blk.alloc (St.fr HS.out hf id) (.cells #[.int .u64 0, .int .u64 0, .int .u64 0] 33))
            have HC := Lib.hid ((HC.out.fr hf id).alloc (.cells #[.int .u64 0, .int .u64 0, .int .u64 0] 33))
            have HF := Lib.hid ((HF.out.trans hf (fun _ _ => id)).alloc (.cells #[.int .u64 0, .int .u64 0, .int .u64 0] 33))
            have HY := Lib.hid (Blk.new w5 33 #[.int .u64 0, .int .u64 0, .int .u64 0])
            clear hf
            have c1 := HC.out.cell 1
            simp at c1
            go_wp2_with fail
            refine (action_safe n HN.out _ HS.out).mono ?_
            rintro e w6 ⟨a', b', v', c', hv, rfl, hf⟩
            have HS := Lib.hid (Blk.alloc (St.fr HS.out hf id) (.cells #[.int .u64 a', .int .u64 b', .int .u64 (U v')] 33))
            have HC := Lib.hid ((HC.out.fr hf id).alloc (.cells #[.int .u64 a', .int .u64 b', .int .u64 (U v')] 33))
            have HY := Lib.hid ((HY.out.fr hf id).alloc (.cells #[.int .u64 a', .int .u64 b', .int .u64 (U v')] 33))
            have HF := Lib.hid ((HF.out.trans hf (fun _ _ => id)).alloc (.cells #[.int .u64 a', .int .u64 b', .int .u64 (U v')] 33))
            have m0 : U (M' &&& bitZ 19) = 0 := U_zero.2 (and_part _ _ HN.out.2.2.1 (.inr rfl))
            have m1 : (U (M' &&& bitZ 19) != 0) = false := by rw [bne, m0]; rfl
            have m2 : U (v' &&& bitZ 19) = 0 := U_zero.2 (and_part _ _ hv (.inr rfl))
            have m3 : (U (v' &&& bitZ 19) != 0) = false := by rw [bne, m2]; rfl
            obtain ⟨y0, y1, y2⟩ := (show _ ∧ _ ∧ _ from ⟨HY.out.cell 0, HY.out.cell 1, HY.out.cell 2⟩)
            simp at y0 y1 y2
            have hq3 := eq_act 0 0 0 0 0 0
            clear hf c1 hv
            go_wp2_with fail
            go_quiet (first | (go_at_call 13; exact Calls.quiet_of_same (bit_same _ _)) | (go_at_call 10; exact Calls.quiet_of_same (mask_same _ (show St _ w.heap.size A M' 0#64 0#64 0#64 from HS.out))))
            go_wp2_with fail
            go_roundg 0
            case measure => omega
            case rel => exact Lib.hid ⟨.inr (.inr rfl), (show St ((w6.alloc (.cells #[.int .u64 a', .int .u64 b', .int .u64 (U v')] 33)).drewN nq) w.heap.size A M' 0#64 0#64 0#64 from HS.out), (show Blk ((w6.alloc (.cells #[.int .u64 a', .int .u64 b', .int .u64 (U v')] 33)).drewN nq) bz 42 #[.int .i64 2, .int .i64 n, .int .u64 (U hh), .int .u64 (U ff), .int .u64 (U mm), .int .u64 (U X)] from HC.out), HF.out.drewN nq⟩
          · go_wp2_with fail
            go_roundg (80 - (k + 1))
            case measure => omega
            case rel => exact Lib.hid ⟨k + 1, A, M', by go_num, by omega, Nat.le_refl _, HN.out, HS.out, HF.out⟩
      by_cases d3 : d = 3
      · subst d3
        go_wp2_with fail
        refine (change_any n X _ HS.out).mono ?_
        rintro e w3 ⟨rfl, hs, hf⟩
        have HN := Lib.hid (HN.out.ch n X)
        have HC := Lib.hid (HC.out.fr hf hne)
        have HF := Lib.hid (HF.out.trans hf (fun i hi e => absurd e (by omega)))
        have HS := Lib.hid hs
        clear hs hf x0 x1 x2 x3 x4 x5
        generalize chM n M X = M' at *
        generalize hbz : wr.heap.size = bz at HC hne ⊢
        clear hbz
        have hm2 := HN.out
        go_wp2_with fail
        go_loopg [6] 2 (fun kq i wr2 => Hid (AtTwo w w.heap.size A M' bz #[.int .i64 3, .int .i64 n, .int .u64 (U hh), .int .u64 (U ff), .int .u64 (U mm), .int .u64 (U X)] i kq wr2))
        case atStart => exact Lib.hid ⟨.inl ⟨rfl, Nat.le_refl _⟩, HS.out, HC.out, HF.out⟩
        case round =>
          obtain ⟨hi, hs, hc, hf⟩ := hrel.out
          have HS := Lib.hid hs
          have HC := Lib.hid hc
          have HF := Lib.hid hf
          clear hrel hs hc hf
          rcases hi with ⟨rfl, hkq2⟩ | ⟨rfl, hkq2⟩ | rfl
          · go_wp2_with fail
            have HS := Lib.hid (Blk.alloc HS.out (.cells #[.int .i64 9, .int .i64 19] 3))
            have HC := Lib.hid (HC.out.alloc (.cells #[.int .i64 9, .int .i64 19] 3))
            have HF := Lib.hid (HF.out.alloc (.cells #[.int .i64 9, .int .i64 19] 3))
            refine (action_bar 9 (.inl rfl) HN.out _ HS.out).mono ?_
            rintro e w5 ⟨rfl, hf⟩
            have HS := Lib.hid (Blk.alloc (St.fr HS.out hf id) (.cells #[.int .u64 0, .int .u64 0, .int .u64 0] 33))
            have HC := Lib.hid ((HC.out.fr hf id).alloc (.cells #[.int .u64 0, .int .u64 0, .int .u64 0] 33))
            have HF := Lib.hid ((HF.out.trans hf (fun _ _ => id)).alloc (.cells #[.int .u64 0, .int .u64 0, .int .u64 0] 33))
            have HY := Lib.hid (Blk.new w5 33 #[.int .u64 0, .int .u64 0, .int .u64 0])
            clear hf
            have c1 := HC.out.cell 1
            simp at c1
            go_wp2_with fail
            refine (action_safe n HN.out _ HS.out).mono ?_
            rintro e w6 ⟨a', b', v', c', hv, rfl, hf⟩
            have HS := Lib.hid (Blk.alloc (St.fr HS.out hf id) (.cells #[.int .u64 a', .int .u64 b', .int .u64 (U v')] 33))
            have HC := Lib.hid ((HC.out.fr hf id).alloc (.cells #[.int .u64 a', .int .u64 b', .int .u64 (U v')] 33))
            have HY := Lib.hid ((HY.out.fr hf id).alloc (.cells #[.int .u64 a', .int .u64 b', .int .u64 (U v')] 33))
            have HF := Lib.hid ((HF.out.trans hf (fun _ _ => id)).alloc (.cells #[.int .u64 a', .int .u64 b', .int .u64 (U v')] 33))
            have m0 : U (M' &&& bitZ 9) = 0 := U_zero.2 (and_part _ _ HN.out.2.2.1 (.inl rfl))
            have m1 : (U (M' &&& bitZ 9) != 0) = false := by rw [bne, m0]; rfl
            have m2 : U (v' &&& bitZ 9) = 0 := U_zero.2 (and_part _ _ hv (.inl rfl))
            have m3 : (U (v' &&& bitZ 9) != 0) = false := by rw [bne, m2]; rfl
            obtain ⟨y0, y1, y2⟩ := (show _ ∧ _ ∧ _ from ⟨HY.out.cell 0, HY.out.cell 1, HY.out.cell 2⟩)
            simp at y0 y1 y2
            have hq3 := eq_act 0 0 0 0 0 0
            clear hf c1 hv
            go_wp2_with fail
            go_quiet (first | (go_at_call 13; exact Calls.quiet_of_same (bit_same _ _)) | (go_at_call 10; exact Calls.quiet_of_same (mask_same _ (show St _ w.heap.size A M' 0#64 0#64 0#64 from HS.out))))
            go_wp2_with fail
            go_roundg 1
            case measure => omega
            case rel => exact Lib.hid ⟨.inr (.inl ⟨rfl, Nat.le_refl _⟩), (show St ((w6.alloc (.cells #[.int .u64 a', .int .u64 b', .int .u64 (U v')] 33)).drewN nq) w.heap.size A M' 0#64 0#64 0#64 from HS.out), (show Blk ((w6.alloc (.cells #[.int .u64 a', .int .u64 b', .int .u64 (U v')] 33)).drewN nq) bz 42 #[.int .i64 3, .int .i64 n, .int .u64 (U hh), .int .u64 (U ff), .int .u64 (U mm), .int .u64 (U X)] from HC.out), HF.out.drewN nq⟩
          · go_wp2_with fail
            have HS := Lib.hid (Blk.alloc HS.out (.cells #[.int .i64 9, .int .i64 19] 3))
            have HC := Lib.hid (HC.out.alloc (.cells #[.int .i64 9, .int .i64 19] 3))
            have HF := Lib.hid (HF.out.alloc (.cells #[.int .i64 9, .int .i64 19] 3))
            refine (action_bar 19 (.inr rfl) HN.out _ HS.out).mono ?_
            rintro e w5 ⟨rfl, hf⟩
            have HS := Lib.hid (Blk.alloc (St.fr HS.out hf id) (.cells #[.int .u64 0, .int .u64 0, .int .u64 0] 33))
            have HC := Lib.hid ((HC.out.fr hf id).alloc (.cells #[.int .u64 0, .int .u64 0, .int .u64 0] 33))
            have HF := Lib.hid ((HF.out.trans hf (fun _ _ => id)).alloc (.cells #[.int .u64 0, .int .u64 0, .int .u64 0] 33))
            have HY := Lib.hid (Blk.new w5 33 #[.int .u64 0, .int .u64 0, .int .u64 0])
            clear hf
            have c1 := HC.out.cell 1
            simp at c1
            go_wp2_with fail
            refine (action_safe n HN.out _ HS.out).mono ?_
            rintro e w6 ⟨a', b', v', c', hv, rfl, hf⟩
            have HS := Lib.hid (Blk.alloc (St.fr HS.out hf id) (.cells #[.int .u64 a', .int .u64 b', .int .u64 (U v')] 33))
            have HC := Lib.hid ((HC.out.fr hf id).alloc (.cells #[.int .u64 a', .int .u64 b', .int .u64 (U v')] 33))
            have HY := Lib.hid ((HY.out.fr hf id).alloc (.cells #[.int .u64 a', .int .u64 b', .int .u64 (U v')] 33))
            have HF := Lib.hid ((HF.out.trans hf (fun _ _ => id)).alloc (.cells #[.int .u64 a', .int .u64 b', .int .u64 (U v')] 33))
            have m0 : U (M' &&& bitZ 19) = 0 := U_zero.2 (and_part _ _ HN.out.2.2.1 (.inr rfl))
            have m1 : (U (M' &&& bitZ 19) != 0) = false := by rw [bne, m0]; rfl
            have m2 : U (v' &&& bitZ 19) = 0 := U_zero.2 (and_part _ _ hv (.inr rfl))
            have m3 : (U (v' &&& bitZ 19) != 0) = false := by rw [bne, m2]; rfl
            obtain ⟨y0, y1, y2⟩ := (show _ ∧ _ ∧ _ from ⟨HY.out.cell 0, HY.out.cell 1, HY.out.cell 2⟩)
            simp at y0 y1 y2
            have hq3 := eq_act 0 0 0 0 0 0
            clear hf c1 hv
            go_wp2_with fail
            go_quiet (first | (go_at_call 13; exact Calls.quiet_of_same (bit_same _ _)) | (go_at_call 10; exact Calls.quiet_of_same (mask_same _ (show St _ w.heap.size A M' 0#64 0#64 0#64 from HS.out))))
            go_wp2_with fail
            go_roundg 0
            case measure => omega
            case rel => exact Lib.hid ⟨.inr (.inr rfl), (show St ((w6.alloc (.cells #[.int .u64 a', .int .u64 b', .int .u64 (U v')] 33)).drewN nq) w.heap.size A M' 0#64 0#64 0#64 from HS.out), (show Blk ((w6.alloc (.cells #[.int .u64 a', .int .u64 b', .int .u64 (U v')] 33)).drewN nq) bz 42 #[.int .i64 3, .int .i64 n, .int .u64 (U hh), .int .u64 (U ff), .int .u64 (U mm), .int .u64 (U X)] from HC.out), HF.out.drewN nq⟩
          · go_wp2_with fail
            go_roundg (80 - (k + 1))
            case measure => omega
            case rel => exact Lib.hid ⟨k + 1, A, M', by go_num, by omega, Nat.le_refl _, HN.out, HS.out, HF.out⟩
      by_cases d6 : d = 6
      · subst d6
        go_wp2_with fail
        refine (enter_any n _ ff mm _ HS.out).mono ?_
        rintro e w3 ⟨rfl, hs, hf⟩
        have HN := Lib.hid (HN.out.en n ff mm)
        have HC := Lib.hid (HC.out.fr hf hne)
        have HF := Lib.hid (HF.out.trans hf (fun i hi e => absurd e (by omega)))
        have HS := Lib.hid hs
        clear hs hf x0 x1 x2 x3 x4 x5
        generalize enA n ff A = A' at *
        generalize enM n ff mm M = M' at *
        generalize hbz : wr.heap.size = bz at HC hne ⊢
        clear hbz
        have hm2 := HN.out
        go_wp2_with fail
        go_loopg [6] 2 (fun kq i wr2 => Hid (AtTwo w w.heap.size A' M' bz #[.int .i64 6, .int .i64 n, .int .u64 (U hh), .int .u64 (U ff), .int .u64 (U mm), .int .u64 (U X)] i kq wr2))
        case atStart => exact Lib.hid ⟨.inl ⟨rfl, Nat.le_refl _⟩, HS.out, HC.out, HF.out⟩
        case round =>
          obtain ⟨hi, hs, hc, hf⟩ := hrel.out
          have HS := Lib.hid hs
          have HC := Lib.hid hc
          have HF := Lib.hid hf
          clear hrel hs hc hf
          rcases hi with ⟨rfl, hkq2⟩ | ⟨rfl, hkq2⟩ | rfl
          · go_wp2_with fail
            have HS := Lib.hid (Blk.alloc HS.out (.cells #[.int .i64 9, .int .i64 19] 3))
            have HC := Lib.hid (HC.out.alloc (.cells #[.int .i64 9, .int .i64 19] 3))
            have HF := Lib.hid (HF.out.alloc (.cells #[.int .i64 9, .int .i64 19] 3))
            refine (action_bar 9 (.inl rfl) HN.out _ HS.out).mono ?_
            rintro e w5 ⟨rfl, hf⟩
            have HS := Lib.hid (Blk.alloc (St.fr HS.out hf id) (.cells #[.int .u64 0, .int .u64 0, .int .u64 0] 33))
            have HC := Lib.hid ((HC.out.fr hf id).alloc (.cells #[.int .u64 0, .int .u64 0, .int .u64 0] 33))
            have HF := Lib.hid ((HF.out.trans hf (fun _ _ => id)).alloc (.cells #[.int .u64 0, .int .u64 0, .int .u64 0] 33))
            have HY := Lib.hid (Blk.new w5 33 #[.int .u64 0, .int .u64 0, .int .u64 0])
            clear hf
            have c1 := HC.out.cell 1
            simp at c1
            go_wp2_with fail
            refine (action_safe n HN.out _ HS.out).mono ?_
            rintro e w6 ⟨a', b', v', c', hv, rfl, hf⟩
            have HS := Lib.hid (Blk.alloc (St.fr HS.out hf id) (.cells #[.int .u64 a', .int .u64 b', .int .u64 (U v')] 33))
            have HC := Lib.hid ((HC.out.fr hf id).alloc (.cells #[.int .u64 a', .int .u64 b', .int .u64 (U v')] 33))
            have HY := Lib.hid ((HY.out.fr hf id).alloc (.cells #[.int .u64 a', .int .u64 b', .int .u64 (U v')] 33))
            have HF := Lib.hid ((HF.out.trans hf (fun _ _ => id)).alloc (.cells #[.int .u64 a', .int .u64 b', .int .u64 (U v')] 33))
            have m0 : U (M' &&& bitZ 9) = 0 := U_zero.2 (and_part _ _ HN.out.2.2.1 (.inl rfl))
            have m1 : (U (M' &&& bitZ 9) != 0) = false := by rw [bne, m0]; rfl
            have m2 : U (v' &&& bitZ 9) = 0 := U_zero.2 (and_part _ _ hv (.inl rfl))
            have m3 : (U (v' &&& bitZ 9) != 0) = false := by rw [bne, m2]; rfl
            obtain ⟨y0, y1, y2⟩ := (show _ ∧ _ ∧ _ from ⟨HY.out.cell 0, HY.out.cell 1, HY.out.cell 2⟩)
            simp at y0 y1 y2
            have hq3 := eq_act 0 0 0 0 0 0
            clear hf c1 hv
            go_wp2_with fail
            go_quiet (first | (go_at_call 13; exact Calls.quiet_of_same (bit_same _ _)) | (go_at_call 10; exact Calls.quiet_of_same (mask_same _ (show St _ w.heap.size A' M' 0#64 0#64 0#64 from HS.out))))
            go_wp2_with fail
            go_roundg 1
            case measure => omega
            case rel => exact Lib.hid ⟨.inr (.inl ⟨rfl, Nat.le_refl _⟩), (show St ((w6.alloc (.cells #[.int .u64 a', .int .u64 b', .int .u64 (U v')] 33)).drewN nq) w.heap.size A' M' 0#64 0#64 0#64 from HS.out), (show Blk ((w6.alloc (.cells #[.int .u64 a', .int .u64 b', .int .u64 (U v')] 33)).drewN nq) bz 42 #[.int .i64 6, .int .i64 n, .int .u64 (U hh), .int .u64 (U ff), .int .u64 (U mm), .int .u64 (U X)] from HC.out), HF.out.drewN nq⟩
          · go_wp2_with fail
            have HS := Lib.hid (Blk.alloc HS.out (.cells #[.int .i64 9, .int .i64 19] 3))
            have HC := Lib.hid (HC.out.alloc (.cells #[.int .i64 9, .int .i64 19] 3))
            have HF := Lib.hid (HF.out.alloc (.cells #[.int .i64 9, .int .i64 19] 3))
            refine (action_bar 19 (.inr rfl) HN.out _ HS.out).mono ?_
            rintro e w5 ⟨rfl, hf⟩
            have HS := Lib.hid (Blk.alloc (St.fr HS.out hf id) (.cells #[.int .u64 0, .int .u64 0, .int .u64 0] 33))
            have HC := Lib.hid ((HC.out.fr hf id).alloc (.cells #[.int .u64 0, .int .u64 0, .int .u64 0] 33))
            have HF := Lib.hid ((HF.out.trans hf (fun _ _ => id)).alloc (.cells #[.int .u64 0, .int .u64 0, .int .u64 0] 33))
            have HY := Lib.hid (Blk.new w5 33 #[.int .u64 0, .int .u64 0, .int .u64 0])
            clear hf
            have c1 := HC.out.cell 1
            simp at c1
            go_wp2_with fail
            refine (action_safe n HN.out _ HS.out).mono ?_
            rintro e w6 ⟨a', b', v', c', hv, rfl, hf⟩
            have HS := Lib.hid (Blk.alloc (St.fr HS.out hf id) (.cells #[.int .u64 a', .int .u64 b', .int .u64 (U v')] 33))
            have HC := Lib.hid ((HC.out.fr hf id).alloc (.cells #[.int .u64 a', .int .u64 b', .int .u64 (U v')] 33))
            have HY := Lib.hid ((HY.out.fr hf id).alloc (.cells #[.int .u64 a', .int .u64 b', .int .u64 (U v')] 33))
            have HF := Lib.hid ((HF.out.trans hf (fun _ _ => id)).alloc (.cells #[.int .u64 a', .int .u64 b', .int .u64 (U v')] 33))
            have m0 : U (M' &&& bitZ 19) = 0 := U_zero.2 (and_part _ _ HN.out.2.2.1 (.inr rfl))
            have m1 : (U (M' &&& bitZ 19) != 0) = false := by rw [bne, m0]; rfl
            have m2 : U (v' &&& bitZ 19) = 0 := U_zero.2 (and_part _ _ hv (.inr rfl))
            have m3 : (U (v' &&& bitZ 19) != 0) = false := by rw [bne, m2]; rfl
            obtain ⟨y0, y1, y2⟩ := (show _ ∧ _ ∧ _ from ⟨HY.out.cell 0, HY.out.cell 1, HY.out.cell 2⟩)
            simp at y0 y1 y2
            have hq3 := eq_act 0 0 0 0 0 0
            clear hf c1 hv
            go_wp2_with fail
            go_quiet (first | (go_at_call 13; exact Calls.quiet_of_same (bit_same _ _)) | (go_at_call 10; exact Calls.quiet_of_same (mask_same _ (show St _ w.heap.size A' M' 0#64 0#64 0#64 from HS.out))))
            go_wp2_with fail
            go_roundg 0
            case measure => omega
            case rel => exact Lib.hid ⟨.inr (.inr rfl), (show St ((w6.alloc (.cells #[.int .u64 a', .int .u64 b', .int .u64 (U v')] 33)).drewN nq) w.heap.size A' M' 0#64 0#64 0#64 from HS.out), (show Blk ((w6.alloc (.cells #[.int .u64 a', .int .u64 b', .int .u64 (U v')] 33)).drewN nq) bz 42 #[.int .i64 6, .int .i64 n, .int .u64 (U hh), .int .u64 (U ff), .int .u64 (U mm), .int .u64 (U X)] from HC.out), HF.out.drewN nq⟩
          · go_wp2_with fail
            go_roundg (80 - (k + 1))
            case measure => omega
            case rel => exact Lib.hid ⟨k + 1, A', M', by go_num, by omega, Nat.le_refl _, HN.out, HS.out, HF.out⟩
      have e1 : (d == 1) = false := beq_eq_false_iff_ne.2 d1
      have e2 : (d == 2) = false := beq_eq_false_iff_ne.2 d2
      have e3 : (d == 3) = false := beq_eq_false_iff_ne.2 d3
      have e6 : (d == 6) = false := beq_eq_false_iff_ne.2 d6
      clear d1 d2 d3 d6
      go_wp2_with fail
      clear x0 x1 x2 x3 x4 x5
      generalize wr.alloc (.cells #[.int .i64 d, .int .i64 n, .int .u64 (U hh), .int .u64 (U ff), .int .u64 (U mm), .int .u64 (U X)] 42) = wr3 at *
      generalize hbz : wr.heap.size = bz at HC hne ⊢
      clear hbz
      have hm2 := HN.out
      go_wp2_with fail
      go_loopg [6] 2 (fun kq i wr2 => Hid (AtTwo w w.heap.size A M bz #[.int .i64 d, .int .i64 n, .int .u64 (U hh), .int .u64 (U ff), .int .u64 (U mm), .int .u64 (U X)] i kq wr2))
      case atStart => exact Lib.hid ⟨.inl ⟨rfl, Nat.le_refl _⟩, HS.out, HC.out, HF.out⟩
      case round =>
        obtain ⟨hi, hs, hc, hf⟩ := hrel.out
        have HS := Lib.hid hs
        have HC := Lib.hid hc
        have HF := Lib.hid hf
        clear hrel hs hc hf
        rcases hi with ⟨rfl, hkq2⟩ | ⟨rfl, hkq2⟩ | rfl
        · go_wp2_with fail
          have HS := Lib.hid (Blk.alloc HS.out (.cells #[.int .i64 9, .int .i64 19] 3))
          have HC := Lib.hid (HC.out.alloc (.cells #[.int .i64 9, .int .i64 19] 3))
          have HF := Lib.hid (HF.out.alloc (.cells #[.int .i64 9, .int .i64 19] 3))
          refine (action_bar 9 (.inl rfl) HN.out _ HS.out).mono ?_
          rintro e w5 ⟨rfl, hf⟩
          have HS := Lib.hid (Blk.alloc (St.fr HS.out hf id) (.cells #[.int .u64 0, .int .u64 0, .int .u64 0] 33))
          have HC := Lib.hid ((HC.out.fr hf id).alloc (.cells #[.int .u64 0, .int .u64 0, .int .u64 0] 33))
          have HF := Lib.hid ((HF.out.trans hf (fun _ _ => id)).alloc (.cells #[.int .u64 0, .int .u64 0, .int .u64 0] 33))
          have HY := Lib.hid (Blk.new w5 33 #[.int .u64 0, .int .u64 0, .int .u64 0])
          clear hf
          have c1 := HC.out.cell 1
          simp at c1
          go_wp2_with fail
          refine (action_safe n HN.out _ HS.out).mono ?_
          rintro e w6 ⟨a', b', v', c', hv, rfl, hf⟩
          have HS := Lib.hid (Blk.alloc (St.fr HS.out hf id) (.cells #[.int .u64 a', .int .u64 b', .int .u64 (U v')] 33))
          have HC := Lib.hid ((HC.out.fr hf id).alloc (.cells #[.int .u64 a', .int .u64 b', .int .u64 (U v')] 33))
          have HY := Lib.hid ((HY.out.fr hf id).alloc (.cells #[.int .u64 a', .int .u64 b', .int .u64 (U v')] 33))
          have HF := Lib.hid ((HF.out.trans hf (fun _ _ => id)).alloc (.cells #[.int .u64 a', .int .u64 b', .int .u64 (U v')] 33))
          have m0 : U (M &&& bitZ 9) = 0 := U_zero.2 (and_part _ _ HN.out.2.2.1 (.inl rfl))
          have m1 : (U (M &&& bitZ 9) != 0) = false := by rw [bne, m0]; rfl
          have m2 : U (v' &&& bitZ 9) = 0 := U_zero.2 (and_part _ _ hv (.inl rfl))
          have m3 : (U (v' &&& bitZ 9) != 0) = false := by rw [bne, m2]; rfl
          obtain ⟨y0, y1, y2⟩ := (show _ ∧ _ ∧ _ from ⟨HY.out.cell 0, HY.out.cell 1, HY.out.cell 2⟩)
          simp at y0 y1 y2
          have hq3 := eq_act 0 0 0 0 0 0
          clear hf c1 hv
          go_wp2_with fail
          go_quiet (first | (go_at_call 13; exact Calls.quiet_of_same (bit_same _ _)) | (go_at_call 10; exact Calls.quiet_of_same (mask_same _ (show St _ w.heap.size A M 0#64 0#64 0#64 from HS.out))))
          go_wp2_with fail
          go_roundg 1
          case measure => omega
          case rel => exact Lib.hid ⟨.inr (.inl ⟨rfl, Nat.le_refl _⟩), (show St ((w6.alloc (.cells #[.int .u64 a', .int .u64 b', .int .u64 (U v')] 33)).drewN nq) w.heap.size A M 0#64 0#64 0#64 from HS.out), (show Blk ((w6.alloc (.cells #[.int .u64 a', .int .u64 b', .int .u64 (U v')] 33)).drewN nq) bz 42 #[.int .i64 d, .int .i64 n, .int .u64 (U hh), .int .u64 (U ff), .int .u64 (U mm), .int .u64 (U X)] from HC.out), HF.out.drewN nq⟩
        · go_wp2_with fail
          have HS := Lib.hid (Blk.alloc HS.out (.cells #[.int .i64 9, .int .i64 19] 3))
          have HC := Lib.hid (HC.out.alloc (.cells #[.int .i64 9, .int .i64 19] 3))
          have HF := Lib.hid (HF.out.alloc (.cells #[.int .i64 9, .int .i64 19] 3))
          refine (action_bar 19 (.inr rfl) HN.out _ HS.out).mono ?_
          rintro e w5 ⟨rfl, hf⟩
          have HS := Lib.hid (Blk.alloc (St.fr HS.out hf id) (.cells #[.int .u64 0, .int .u64 0, .int .u64 0] 33))
          have HC := Lib.hid ((HC.out.fr hf id).alloc (.cells #[.int .u64 0, .int .u64 0, .int .u64 0] 33))
          have HF := Lib.hid ((HF.out.trans hf (fun _ _ => id)).alloc (.cells #[.int .u64 0, .int .u64 0, .int .u64 0] 33))
          have HY := Lib.hid (Blk.new w5 33 #[.int .u64 0, .int .u64 0, .int .u64 0])
          clear hf
          have c1 := HC.out.cell 1
          simp at c1
          go_wp2_with fail
          refine (action_safe n HN.out _ HS.out).mono ?_
          rintro e w6 ⟨a', b', v', c', hv, rfl, hf⟩
          have HS := Lib.hid (Blk.alloc (St.fr HS.out hf id) (.cells #[.int .u64 a', .int .u64 b', .int .u64 (U v')] 33))
          have HC := Lib.hid ((HC.out.fr hf id).alloc (.cells #[.int .u64 a', .int .u64 b', .int .u64 (U v')] 33))
          have HY := Lib.hid ((HY.out.fr hf id).alloc (.cells #[.int .u64 a', .int .u64 b', .int .u64 (U v')] 33))
          have HF := Lib.hid ((HF.out.trans hf (fun _ _ => id)).alloc (.cells #[.int .u64 a', .int .u64 b', .int .u64 (U v')] 33))
          have m0 : U (M &&& bitZ 19) = 0 := U_zero.2 (and_part _ _ HN.out.2.2.1 (.inr rfl))
          have m1 : (U (M &&& bitZ 19) != 0) = false := by rw [bne, m0]; rfl
          have m2 : U (v' &&& bitZ 19) = 0 := U_zero.2 (and_part _ _ hv (.inr rfl))
          have m3 : (U (v' &&& bitZ 19) != 0) = false := by rw [bne, m2]; rfl
          obtain ⟨y0, y1, y2⟩ := (show _ ∧ _ ∧ _ from ⟨HY.out.cell 0, HY.out.cell 1, HY.out.cell 2⟩)
          simp at y0 y1 y2
          have hq3 := eq_act 0 0 0 0 0 0
          clear hf c1 hv
          go_wp2_with fail
          go_quiet (first | (go_at_call 13; exact Calls.quiet_of_same (bit_same _ _)) | (go_at_call 10; exact Calls.quiet_of_same (mask_same _ (show St _ w.heap.size A M 0#64 0#64 0#64 from HS.out))))
          go_wp2_with fail
          go_roundg 0
          case measure => omega
          case rel => exact Lib.hid ⟨.inr (.inr rfl), (show St ((w6.alloc (.cells #[.int .u64 a', .int .u64 b', .int .u64 (U v')] 33)).drewN nq) w.heap.size A M 0#64 0#64 0#64 from HS.out), (show Blk ((w6.alloc (.cells #[.int .u64 a', .int .u64 b', .int .u64 (U v')] 33)).drewN nq) bz 42 #[.int .i64 d, .int .i64 n, .int .u64 (U hh), .int .u64 (U ff), .int .u64 (U mm), .int .u64 (U X)] from HC.out), HF.out.drewN nq⟩
        · go_wp2_with fail
          go_roundg (80 - (k + 1))
          case measure => omega
          case rel => exact Lib.hid ⟨k + 1, A, M, by go_num, by omega, Nat.le_refl _, HN.out, HS.out, HF.out⟩
    · skip
      by_cases hkl : k < len
      · have t1 : decide ((k : Int) < (len : Int)) = true := decide_eq_true (by omega)
        have t1' : decide (k < len) = true := decide_eq_true (by omega)
        have t2 : decide ((k : Int) < 80) = false := decide_eq_false (by omega)
        have t2' : decide (k < 80) = false := decide_eq_false (by omega)
        go_wp2_with fail
        go_ret
        exact ⟨rfl, HF.out⟩
      · have t1 : decide ((k : Int) < (len : Int)) = false := decide_eq_false (by omega)
        have t1' : decide (k < len) = false := decide_eq_false (by omega)
        go_wp2_with fail
        go_ret
        exact ⟨rfl, HF.out⟩
theorem never_walk (a0 : Value) (W : World) (w0 : Acts W a0) (ht : Tb W) : Calls Tryd.prog 4 #[a0] W fun e W' => e = .returned (.bool true) ∧ Below W.heap.size W W' := by
  obtain ⟨a, len, cap, rfl, hlen, hacts⟩ := w0
  unfold maxLen at hlen
  exact (never_any' a len cap W (by omega) hacts ht).mono fun _ _ g => ⟨g.1, Fr.below (Below.refl _ _) g.2 (fun _ _ => id)⟩
end Go.Proofs.YtdlcejnkicdjnaaDoor.Sg
