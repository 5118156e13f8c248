/- The law SigOrder, walked. -/
import Derived.Test.YtdlcejnkicdjnaaDoorSgO
import Derived.Test.YtdlcejnkicdjnaaDoorSgQ
import Derived.BigQuiet
namespace Go.Proofs.YtdlcejnkicdjnaaDoor.Sg
open Go Go.RowKit Go.Proofs.YtdlcejnkicdjnaaDoorW.PrintWords Go.Proofs.YtdlcejnkicdjnaaDoorW.PrintLast Go.Proofs.YtdlcejnkicdjnaaDoorW.PrintMore
open Go.Proofs.YtdlcejnkicdjnaaDoor.Hp Go.Proofs.YtdlcejnkicdjnaaDoor.Bv
attribute [local go_sem] max2_int min2_int max_two min_two max_three min_three max_four min_four
attribute [local go_sem] wrap_add wrap_sub wrap_mul wrap_neg and_U or_U xor_U andNot_U wrap_U
set_option linter.unusedVariables false
set_option linter.unusedSimpArgs false
theorem order_long (A : Option Addr) (c : Nat) (l : List Int) (X : BitVec 64) (w : World) (hl : 300 < l.length) (ht : Tb w) : Calls Tryd.prog 3 #[.slice A l.length c, .int .u64 (U X)] w fun e w' => e = .returned (.bool true) ∧ Fr (fun _ => False) w w' := by
  have t1 : decide ((300 : Int) < (l.length : Int)) = true := decide_eq_true (by omega)
  have t1' : decide (300 < l.length) = true := decide_eq_true hl
  have HT := Lib.hid ht
  generalize l.length = len at *
  clear ht hl
  go_enter Tryd.func3, Tryd.ntmps3
  go_wp2_with fail
  refine (new_any _).mono ?_
  rintro e w1 ⟨rfl, hs, hf⟩
  have HF := Lib.hid hf
  have HT := Lib.hid (HT.out.fr hf id)
  clear hs hf
  go_wp2_with fail
  refine (answers_any _ HT.out).mono ?_
  rintro e w2 ⟨rfl, hf⟩
  have HF := Lib.hid (HF.out.trans hf (fun _ _ => id))
  have HT := Lib.hid (HT.out.fr hf id)
  clear hf
  go_wp2_with fail
  refine (answers_any _ HT.out).mono ?_
  rintro e w3 ⟨rfl, hf⟩
  have HF := Lib.hid (HF.out.trans hf (fun _ _ => id))
  clear hf
  go_wp2_with fail
  go_ret
  exact ⟨rfl, HF.out⟩
/-- At the head of loop 1. -/
def AtL1 (l : List Int) (M : BitVec 64) (w : World) (g cb : Nat) (kq : Nat) (i : Value) (wr : World) : Prop :=
  ∃ (k : Nat) (P : BitVec 64) (f : Nat → Bool), i = .int .i64 k ∧ k ≤ l.length ∧ l.length - k ≤ kq ∧ Came P f ∧ St wr g (fun _ => 0) M P 0#64 0#64 ∧ Blk wr cb 29 (comeA f) ∧ Fr (fun _ => False) w wr
/-- At the head of loop 2. -/
def AtL2 (M : BitVec 64) (w : World) (g cb : Nat) (kq : Nat) (i : Value) (wr : World) : Prop :=
  ∃ (q : Nat) (P : BitVec 64) (f : Nat → Bool), i = .int .i64 q ∧ q ≤ 64 ∧ 64 - q ≤ kq ∧ Mid2 M P f q ∧ St wr g (fun _ => 0) M P 0#64 0#64 ∧ Blk wr cb 29 (comeA f) ∧ Fr (fun _ => False) w wr
/-- At the head of loop 3. -/
def AtL3 (M P : BitVec 64) (f : Nat → Bool) (w : World) (g cb : Nat) (kq : Nat) (i : Value) (wr : World) : Prop :=
  ∃ n : Nat, i = .int .i64 n ∧ 1 ≤ n ∧ n ≤ 65 ∧ 65 - n ≤ kq ∧ St wr g (fun _ => 0) M P 0#64 0#64 ∧ Blk wr cb 29 (comeA f) ∧ Fr (fun _ => False) w wr
set_option maxHeartbeats 4000000 in
set_option maxRecDepth 100000 in
theorem order_short (A : Option Addr) (c : Nat) (l : List Int) (X : BitVec 64) (w : World) (hl : l.length ≤ 300) (hr : ReadsInt w .u8 A l.length l) (hb : ∀ y ∈ l, 0 ≤ y ∧ y ≤ 255) (ht : Tb w) : Calls Tryd.prog 3 #[.slice A l.length c, .int .u64 (U X)] w fun e w' => e = .returned (.bool true) ∧ Fr (fun _ => False) w w' := by
  have HT := Lib.hid ht
  have HTW := Lib.hid ht
  have HR := Lib.hid hr
  have HBY := Lib.hid hb
  have hw0 := ht.lt
  have hz29 := zero_come
  obtain ⟨len, hlen⟩ : ∃ n, n = l.length := ⟨_, rfl⟩
  rw [← hlen] at hl ⊢
  have t1 : decide ((300 : Int) < (len : Int)) = false := decide_eq_false (by omega)
  have t1' : decide (300 < len) = false := decide_eq_false (by omega)
  have HLN := Lib.hid hlen
  clear ht hr hb hlen
  go_enter Tryd.func3, Tryd.ntmps3
  go_wp2_with fail
  refine (new_any _).mono ?_
  rintro e w1 ⟨rfl, hs, hf⟩
  have HF := Lib.hid hf
  have HS := Lib.hid hs
  have HT := Lib.hid (HT.out.fr hf id)
  have hg1 := HS.out.lt
  clear hs hf
  go_wp2_with fail
  refine (answers_any _ HT.out).mono ?_
  rintro e w2 ⟨rfl, hf⟩
  have HF := Lib.hid (HF.out.trans hf (fun _ _ => id))
  have HT := Lib.hid (HT.out.fr hf id)
  have HS := Lib.hid (HS.out.fr hf id)
  have hg2 := HS.out.lt
  clear hf
  go_wp2_with fail
  refine (setmask_any X _ HS.out).mono ?_
  rintro e w3 ⟨rfl, hs, hf⟩
  have HF := Lib.hid (HF.out.trans hf (fun i hi e => absurd e (by omega)))
  have HT := Lib.hid (HT.out.fr hf (show ¬ (0 = w.heap.size) by omega))
  have HS := Lib.hid hs
  clear hs hf
  generalize keepZ X = M at *
  go_wp2_with fail
  refine (mask_any _ HS.out).mono ?_
  rintro e w4 ⟨rfl, hf⟩
  have hc4 : w.heap.size < w4.heap.size := Blk.lt (HS.out.fr hf id)
  have HF := Lib.hid ((HF.out.trans hf (fun _ _ => id)).alloc (.cells (comeA (fun _ => false)) 29))
  have HT := Lib.hid (HT.out.fr ((show Fr (fun _ => False) w3 w4 from hf).alloc (.cells (comeA (fun _ => false)) 29)) id)
  have HS := Lib.hid (Blk.alloc (HS.out.fr hf id) (.cells (comeA (fun _ => false)) 29))
  have HC := Lib.hid (Blk.new w4 29 (comeA (fun _ => false)))
  clear hf
  have hz := hz29 w4
  go_wp2_with fail
  clear hz29 hz
  go_loopg [8] len (fun kq i wr => Hid (AtL1 l M w w.heap.size w4.heap.size kq i wr))
  case atStart => exact Lib.hid ⟨0, 0#64, fun _ => false, rfl, by omega, by rw [← HLN.out]; omega, came0, HS.out, HC.out, HF.out⟩
  case round =>
    obtain ⟨k, P, f, rfl, hk, hkq, hcm, hs, hc, hf⟩ := hrel.out
    have HM := Lib.hid hcm
    have HS := Lib.hid hs
    have HC := Lib.hid hc
    have HF := Lib.hid hf
    rw [← HLN.out] at hk hkq
    clear hrel hcm hs hc hf
    by_cases hkl : k < len
    · have hkl' : k < l.length := by rw [← HLN.out]; exact hkl
      have hrd := reads_fr HR.out HF.out (fun _ _ _ => id)
      obtain ⟨ad, eA, hx⟩ := hrd.2.2 (by omega)
      cases eA
      have hxk := hx k hkl'
      obtain ⟨x, hx0⟩ : ∃ x : Nat, l.getD k 0 = (x : Int) := ⟨(l.getD k 0).toNat, by have := (HBY.out _ (show l.getD k 0 ∈ l by rw [show l.getD k 0 = l[k] by simp [List.getD, hkl']]; exact List.getElem_mem hkl')).1; omega⟩
      rw [hx0] at hxk
      clear hrd hx
      have t2 : decide ((k : Int) < (len : Int)) = true := decide_eq_true (by omega)
      have t2' : decide (k < len) = true := decide_eq_true hkl
      go_wp2_with fail
      obtain ⟨r, hr65, hr⟩ : ∃ r : Nat, r < 65 ∧ (x : Int) % 65 = (r : Int) := ⟨x % 65, by omega, by omega⟩
      rw [hr]
      clear hr hxk hx0
      by_cases h0 : r = 0
      · subst h0
        refine (raise_no (g := w.heap.size) (A := fun _ => 0) (M := M) (P := P) (x := 0#64) (y := 0#64) ((0 : Nat) : Int) (by omega) wr).mono ?_
        rintro e w5 ⟨rfl, hf⟩
        have HS := Lib.hid (HS.out.fr hf id)
        have HC := Lib.hid (Blk.fr HC.out hf id)
        have HF := Lib.hid (HF.out.trans hf (fun _ _ => id))
        clear hf
        go_wp2_with fail
        go_roundg (len - (k + 1))
        case measure => omega
        case rel => exact Lib.hid ⟨k + 1, P, f, by go_num, by omega, by rw [← HLN.out]; exact Nat.le_refl _, HM.out, HS.out, HC.out, HF.out⟩
      · refine (raise_yes (r : Int) (by omega) wr HS.out).mono ?_
        rintro e w5 ⟨rfl, hs, hf⟩
        obtain ⟨j, hj⟩ : ∃ j, r = j + 1 := ⟨r - 1, by omega⟩
        have HM := Lib.hid (show Came (P ||| bitZ (r : Int)) (updB f r true) from by rw [hj]; exact came_step HM.out j (by omega))
        have HS := Lib.hid hs
        have HC := Lib.hid (Blk.fr HC.out hf (show ¬ (w4.heap.size = w.heap.size) by omega))
        have HF := Lib.hid (HF.out.trans hf (fun i hi e => absurd e (by omega)))
        have c0 : w5.cell? ⟨w4.heap.size, r, none⟩ = some (.bool (f r)) := (HC.out.cell r).trans (comeA_get f r hr65)
        have f0 := HC.out.frozen r
        have t3 : decide ((r : Int) < 65) = true := decide_eq_true (by omega)
        clear hs hf hj h0
        go_wp2_with fail
        go_roundg (len - (k + 1))
        case measure => omega
        case rel => exact Lib.hid ⟨k + 1, _, _, by go_num, by omega, by rw [← HLN.out]; exact Nat.le_refl _, HM.out, Blk.set_ne HS.out (p := ⟨w4.heap.size, r, none⟩) (by show w.heap.size ≠ w4.heap.size; omega) _, (by have e := HC.out.set r (.bool true); rw [comeA_set f r true hr65] at e; exact e), HF.out.setCell (p := ⟨w4.heap.size, r, none⟩) (.inr (by show w.heap.size ≤ w4.heap.size; omega)) _⟩
    · have t2 : decide ((k : Int) < (len : Int)) = false := decide_eq_false (by omega)
      have t2' : decide (k < len) = false := decide_eq_false hkl
      have HM := Lib.hid (mid2_0 (M := M) HM.out)
      clear hk hkq hkl
      go_wp2_with fail
      have hcm2 := HM.out
      have HS0 := HS
      have HC0 := HC
      have HF0 := HF
      go_loopg [10] 64 (fun kq i wr => Hid (AtL2 M w w.heap.size w4.heap.size kq i wr))
      case atStart => exact Lib.hid ⟨0, P, f, rfl, by omega, by omega, HM.out, HS.out, HC.out, HF.out⟩
      case round =>
        obtain ⟨q, P, f, rfl, hq, hkq, hcm, hs, hc, hf⟩ := hrel.out
        have HM := Lib.hid hcm
        have HS := Lib.hid hs
        have HC := Lib.hid hc
        have HF := Lib.hid hf
        clear hrel hcm hs hc hf hcm2 HS0 HC0 HF0
        go_wp2_with fail
        refine (take_any _ (by omega) HS.out (HTW.out.fr HF.out id)).mono ?_
        rintro e w5 ⟨n, P', hk, rfl, hs, hf⟩
        rw [actC_zero]
        have HS := Lib.hid (Blk.alloc hs (.cells #[.int .u64 0, .int .u64 0, .int .u64 0] 33))
        have HC := Lib.hid (Blk.alloc (Blk.fr HC.out hf (show ¬ (w4.heap.size = w.heap.size) by omega)) (.cells #[.int .u64 0, .int .u64 0, .int .u64 0] 33))
        have HF := Lib.hid ((HF.out.trans hf (fun i hi e => absurd e (by omega))).alloc (.cells #[.int .u64 0, .int .u64 0, .int .u64 0] 33))
        clear hs hf
        rcases hk with ⟨rfl, h1, h2⟩ | ⟨k, hk, rfl, h1, h2, h3, h4, h5⟩
        · have HL := Lib.hid (mid2_end HM.out h1 h2)
          rw [show decide (0 < 0) = false from rfl]
          clear h1 h2
          go_wp2_with fail
          go_loopg [14] 65 (fun kq i wr => Hid (AtL3 M P' f w w.heap.size w4.heap.size kq i wr))
          case atStart => exact Lib.hid ⟨1, rfl, by omega, by omega, by omega, HS.out, HC.out, HF.out⟩
          case round =>
            obtain ⟨n, rfl, hn1, hn2, hkq3, hs, hc, hf⟩ := hrel.out
            have HS := Lib.hid hs
            have HC := Lib.hid hc
            have HF := Lib.hid hf
            clear hrel hs hc hf
            by_cases hn : n ≤ 64
            · have t1 : decide ((n : Int) ≤ 64) = true := decide_eq_true (by omega)
              have t1' : decide (n ≤ 64) = true := decide_eq_true hn
              obtain ⟨j, hj⟩ : ∃ j, n = j + 1 := ⟨n - 1, by omega⟩
              have hl3 := HL.out j (by omega)
              have bM := bit_at M j (by omega)
              have bP := bit_at P' j (by omega)
              rw [← hj] at hl3
              rw [show ((j : Int) + 1) = (n : Int) by omega] at bM bP
              have hn65 : n < 65 := by omega
              have t3 : decide ((n : Int) < 65) = true := decide_eq_true (by omega)
              obtain ⟨m, hm⟩ : ∃ m, M.getLsbD j = m := ⟨_, rfl⟩
              obtain ⟨p, hp⟩ : ∃ p, P'.getLsbD j = p := ⟨_, rfl⟩
              obtain ⟨fn, hfn⟩ : ∃ b, f n = b := ⟨_, rfl⟩
              obtain ⟨qn, hqn⟩ : ∃ b, quietZ (n : Int) = b := ⟨_, rfl⟩
              rw [hm, hp, hfn, hqn] at hl3
              rw [hm] at bM
              rw [hp] at bP
              clear hj hm hp hn
              go_wp2_with fail
              refine (bit_any _ _).mono ?_
              rintro e w6 ⟨rfl, hf⟩
              have HS := Lib.hid (St.fr HS.out hf id)
              have HC := Lib.hid (Blk.fr HC.out hf id)
              have HF := Lib.hid (HF.out.trans hf (fun _ _ => id))
              clear hf
              have c0 := (HC.out.cell n).trans (comeA_get f n hn65)
              rw [hfn] at c0
              have i1 : (n : Int) < 65 := by omega
              have i0 : (0 : Int) ≤ (n : Int) := by omega
              cases m
              all_goals cases fn
              all_goals cases p
              all_goals cases qn
              all_goals first
                | (exfalso; revert hl3; simp; done)
                | skip
              all_goals simp only [Bool.not_true, Bool.not_false] at bM bP
              all_goals (first | (have bM3 : (U (M &&& bitZ (n : Int)) != 0) = true := by rw [bne, bM]; rfl) | (have bM3 : (U (M &&& bitZ (n : Int)) != 0) = false := by rw [bne, bM]; rfl))
              all_goals (first | (have bP3 : (U (P' &&& bitZ (n : Int)) != 0) = true := by rw [bne, bP]; rfl) | (have bP3 : (U (P' &&& bitZ (n : Int)) != 0) = false := by rw [bne, bP]; rfl))
              all_goals (have bM2 := bM; have bP2 := bP; simp only [beq_iff_eq, beq_eq_false_iff_ne, ne_eq] at bM2 bP2)
              all_goals go_wp2_with fail
              all_goals go_quiet (first | (go_at_call 13; exact Calls.quiet_of_same (bit_same _ _)) | (go_at_call 15; exact Calls.quiet_of_same (quiet_same _ _)) | (go_at_call 16; exact Calls.quiet_of_same (pending_same _ (show St _ w.heap.size (fun _ => 0) M P' 0#64 0#64 from HS.out))))
              all_goals go_wp2_with fail
              all_goals
                go_roundg (65 - (n + 1))
                case measure => omega
                case rel => exact Lib.hid ⟨n + 1, by go_num, by omega, by omega, Nat.le_refl _, (show St (w6.drewN nq) w.heap.size (fun _ => 0) M P' 0#64 0#64 from HS.out), (show Blk (w6.drewN nq) w4.heap.size 29 (comeA f) from HC.out), HF.out.drewN nq⟩
            · have t1 : decide ((n : Int) ≤ 64) = false := decide_eq_false (by omega)
              have t1' : decide (n ≤ 64) = false := decide_eq_false hn
              go_wp2_with fail
              go_ret
              exact ⟨rfl, HF.out⟩
        · have HL := Lib.hid (mid2_take HM.out hk h1 h2 h4 h5)
          rw [show decide (0 < k + 1) = true from decide_eq_true (by omega)]
          obtain ⟨m, hm⟩ : ∃ m, m = k + 1 := ⟨_, rfl⟩
          have hqk := HL.out.1
          have hfm : f m = true := by rw [hm]; exact HL.out.2.1
          have hb0 : (U (M &&& bitZ (m : Int)) == 0) = true := by have e := bit_at M k hk; rw [h2] at e; rw [hm]; exact e
          have hb0 : U (M &&& bitZ (m : Int)) = 0 := beq_iff_eq.1 hb0
          have hd1 : defZ (m : Int) = 1 := by
            have e : quietZ (m : Int) = false := by have e := h3; rw [pass0] at e; rw [hm]; exact e
            unfold defZ
            rw [e, if_neg (by decide), if_pos (by omega)]
          have HM2 := Lib.hid (show Mid2 M P' (updB f m false) m from by rw [hm]; exact HL.out.2.2)
          have hm65 : m < 65 := by omega
          have t1 : decide ((m : Int) ≤ (q : Int)) = false := decide_eq_false (by omega)
          have t1' : decide (m ≤ q) = false := decide_eq_false (by omega)
          have t3 : decide ((m : Int) < 65) = true := decide_eq_true (by omega)
          have c0 := (HC.out.cell m).trans (comeA_get f m hm65)
          rw [hfm] at c0
          rw [← hm]
          have hk64 : m ≤ 64 := by omega
          have hqm : q < m := by omega
          clear h1 h2 h3 h4 h5 HL hqk hm hk
          go_wp2_with fail
          refine (bit_any _ _).mono ?_
          rintro e w6 ⟨rfl, hf⟩
          have HS := Lib.hid (St.fr HS.out hf id)
          have HC := Lib.hid (Blk.fr HC.out hf id)
          have HF := Lib.hid (HF.out.trans hf (fun _ _ => id))
          clear hf
          go_wp2_with fail
          refine (def_any _ _).mono ?_
          rintro e w7 ⟨rfl, hf⟩
          have HS := Lib.hid (St.fr HS.out hf id)
          have HC := Lib.hid (Blk.fr HC.out hf id)
          have HF := Lib.hid (HF.out.trans hf (fun _ _ => id))
          clear hf c0
          have c0 := (HC.out.cell m).trans (comeA_get f m hm65)
          have f0 := HC.out.frozen m
          go_wp2_with fail
          go_roundg (64 - m)
          case measure => omega
          case rel => exact Lib.hid ⟨m, P', updB f m false, rfl, hk64, by omega, HM2.out, Blk.set_ne HS.out (p := ⟨w4.heap.size, m, none⟩) (by show w.heap.size ≠ w4.heap.size; omega) _, (by have e := HC.out.set m (.bool false); rw [comeA_set f m false hm65] at e; exact e), HF.out.setCell (p := ⟨w4.heap.size, m, none⟩) (.inr (by show w.heap.size ≤ w4.heap.size; omega)) _⟩
theorem order_walk (a0 : Option Addr) (len0 cap0 : Nat) (z0 : List Int) (a1 : Int) (W : World) (w0 : (a0 = none ∧ len0 = 0 ∧ cap0 = 0 ∧ z0 = []) ∨ ∃ x, a0 = some x ∧ len0 ≤ cap0 ∧ cap0 ≤ maxLen ∧ z0.length = cap0 ∧ (∀ i, i < z0.length → W.cell? (x.add i) = some (.int .u8 (z0.getD i 0))) ∧ ∀ n ∈ z0, (Lit.int .u8 n).wf = true)
    (y0 : len0 * 1 ≤ 140737488351232) (w1 : (Lit.int .u64 a1).wf = true) (ht : Tb W) :
    Calls Tryd.prog 3 #[.slice a0 len0 cap0, .int .u64 a1] W fun e W' => e = .returned (.bool true) ∧ Below W.heap.size W W' := by
  have b1 := Go.bounds_u64 w1
  obtain ⟨X, rfl⟩ := ex_U b1.1 (by omega)
  obtain ⟨l0, rfl, hr0, hm0, hw0, hc0⟩ := ReadsInt.ofRowC w0
  by_cases hl : l0.length ≤ 300
  · exact (order_short a0 cap0 l0 X W hl hr0 (fun y hy => Go.bounds_u8 (hw0 y hy)) ht).mono fun _ _ g => ⟨g.1, Fr.below (Below.refl _ _) g.2 (fun _ _ => id)⟩
  · exact (order_long a0 cap0 l0 X W (by omega) ht).mono fun _ _ g => ⟨g.1, Fr.below (Below.refl _ _) g.2 (fun _ _ => id)⟩
end Go.Proofs.YtdlcejnkicdjnaaDoor.Sg
