/- The law DescShare, walked. -/
import Derived.Test.YtfmlajgabogobaaDsG
import Derived.Deep.Slices
import Derived.OpenShut
import Derived.WideLaws
import Derived.BigQuiet
namespace Go.Proofs.Ytfmlajgabogobaa.Ds
open Go.ChangeShapes Go.WideShapes Go.Deep
open Go Go.RowKit Go.Proofs.YtfmlajgabogobaaW.PrintWords Go.Proofs.YtfmlajgabogobaaW.PrintLast Go.Proofs.YtfmlajgabogobaaW.PrintMore
open Go.Proofs.Ytfmlajgabogobaa.Hp Go.Proofs.Ytfmlajgabogobaa.Pm
attribute [local go_sem] max2_int min2_int max_two min_two max_three min_three max_four min_four
set_option linter.unusedVariables false
set_option linter.unusedSimpArgs false
/-- A slice of bools as it lies in memory. -/
def Marks (w : World) (v : Value) : Prop := ∃ a len cap, ∃ m : Nat → Bool, v = .slice a len cap ∧ len ≤ maxLen ∧ ∀ i, i < len → ∃ x, a = some x ∧ w.cell? (x.add i) = some (.bool (m i))
set_option maxRecDepth 100000 in
theorem open_marks {H : Type} {enc : TypeId × Value → H} {W : World} {base : Nat} {v : Value} {d : DataW H} {p : List MemPlace} (hv : Value.okWide Try.prog W .any base 36 v)
    (h : DataW.Trod enc Try.prog W 0 (fun _ => true) true 36 v d p) : Marks W v := by
  obtain ⟨a, len, cap, rfl⟩ := okWide_slice Try.underlying36 hv
  obtain ⟨fuel, hf⟩ := h
  have q : Try.prog.cellsOf 4 = 1 := by kernel_rfl
  rcases open_slice Try.underlying36 hf with ⟨hcs, _⟩ | ⟨x, l, c, m, n, D, Pl, hcs, _, hle, hm, hmm, _, hi⟩
  · simp [Value.cells] at hcs
    obtain ⟨rfl, rfl, rfl⟩ := hcs
    exact ⟨none, 0, 0, fun _ => false, rfl, Nat.zero_le _, fun i hi => absurd hi (Nat.not_lt_zero _)⟩
  · simp [Value.cells] at hcs
    obtain ⟨rfl, rfl, rfl⟩ := hcs
    simp at hmm
    subst hmm
    have hc : ∀ i, i < len → ∃ b, W.cell? (x.add i) = some (.bool b) := fun i hil => by
      obtain ⟨cs', hc, ht⟩ := hi i (by omega)
      rw [q, Nat.mul_one] at hc
      obtain ⟨_, hl, hcell⟩ := World.cells?_some hc
      obtain ⟨b, e, _⟩ := DataW.trod_bool Try.underlying4 ht
      subst e
      have := hcell 0 (by decide)
      exact ⟨b, by simpa [Addr.add] using this⟩
    exact ⟨_, _, _, fun i => match W.cell? (x.add i) with | some (.bool b) => b | _ => false, rfl, Nat.le_trans hle hm, fun i hil => by
      obtain ⟨b, hb⟩ := hc i hil
      exact ⟨x, rfl, by simp only [hb]⟩⟩
theorem cell_keep {w w' : World} {a : Addr} {v : Value} (hf : Fr (fun _ => False) w w') (h : w.cell? a = some v) : w'.cell? a = some v := by
  have h1 := World.block_lt_of_cell? w _ h
  rw [World.cell?_of_block (w := w) (hf.block a.block h1 id)]
  exact h
/-- What the law holds: the descriptors from lo up to i are open, and have one file. -/
structure SInv (w0 w : World) (t B F n : Nat) (mk : Nat → Bool) (i lo : Nat) (f : Int → Option Nat) (sl : Nat → Nat) (at_ cnt : Int) : Prop where
  tab : Tab w t B n 100 f (i - lo)
  op : ∀ j : Nat, lo ≤ j → j < i → f j = some (sl j) ∧ Blk w (sl j) 82 #[.pointer (some ⟨F, 0, none⟩), .bool (mk j)]
  cl : ∀ j : Int, (j < lo ∨ (i : Int) ≤ j) → f j = none
  file : Blk w F 80 (shC 77 false at_ cnt)
  fr : Fr (fun _ => False) w0 w
  lowB : w0.heap.size ≤ B
  lowF : w0.heap.size ≤ F
theorem SInv.same {w0 w : World} {t B F n : Nat} {mk : Nat → Bool} {i lo : Nat} {f : Int → Option Nat} {sl : Nat → Nat} {at_ cnt : Int} (h : SInv w0 w t B F n mk i lo f sl at_ cnt) {w' : World} (hf : Fr (fun _ => False) w w') : SInv w0 w' t B F n mk i lo f sl at_ cnt :=
  ⟨h.tab.fr hf id id, fun j h1 h2 => ⟨(h.op j h1 h2).1, (h.op j h1 h2).2.fr hf id⟩, h.cl, h.file.fr hf id, h.fr.trans hf (fun _ _ => id), h.lowB, h.lowF⟩
theorem SInv.free {w0 w : World} {t B F n : Nat} {mk : Nat → Bool} {i lo : Nat} {f : Int → Option Nat} {sl : Nat → Nat} {at_ cnt : Int} (h : SInv w0 w t B F n mk i lo f sl at_ cnt) {r k : Int} (hr : FreeOk 100 f 0 r k) (hlo : lo = 0) (hi : i < 100) : r = i ∧ k = 0 := by
  subst hlo
  rcases hr with ⟨h0, _, _⟩ | ⟨_, ⟨h1, h2, h3, h4, h5⟩ | ⟨h0, _, _⟩⟩
  · exact absurd ⟨by omega, by omega⟩ h0
  · refine ⟨?_, h5⟩
    obtain ⟨r', rfl⟩ := Int.eq_ofNat_of_zero_le h1
    rcases Nat.lt_trichotomy r' i with c | c | c
    · rw [(h.op r' (Nat.zero_le _) c).1] at h3; cases h3
    · rw [c]
    · exact absurd (h.cl i (.inr (Int.le_refl _))) (h4 i (by omega) (by omega))
  · exact absurd (h.cl i (.inr (Int.le_refl _))) (h0 i (by omega) (by omega))
theorem SInv.dup {w0 w : World} {t B F n : Nat} {mk : Nat → Bool} {i lo : Nat} {f : Int → Option Nat} {sl : Nat → Nat} {at_ cnt : Int} (h : SInv w0 w t B F n mk i lo f sl at_ cnt) (hlo : lo = 0) {w' : World} {s : Nat} (b : Bool) (ht : Tab w' t B (n + 1) 100 (updP f i (some s)) (i - lo + 1)) (hb : Blk w' s 82 #[.pointer (some ⟨F, 0, none⟩), .bool b]) (hx : Blk w' F 80 (shC 77 false at_ (cnt + 1))) (hf : Fr (fun k => k = B ∨ k = F) w w') (hm : mk i = b) :
    SInv w0 w' t B F (n + 1) mk (i + 1) lo (updP f i (some s)) (fun j => if j = i then s else sl j) at_ (cnt + 1) := by
  subst hlo
  refine ⟨by rw [show i + 1 - 0 = i - 0 + 1 by omega]; exact ht, fun j h1 h2 => ?_, fun j hj => ?_, hx, h.fr.trans hf (fun k hk e => ?_), h.lowB, h.lowF⟩
  · by_cases c : j = i
    · subst c
      rw [updP_same, if_pos rfl, hm]
      exact ⟨rfl, hb⟩
    · obtain ⟨a1, a2⟩ := h.op j h1 (by omega)
      rw [updP_ne _ _ (by omega), if_neg c]
      refine ⟨a1, a2.fr hf ?_⟩
      rintro (e | e)
      · exact (h.tab.ne_of a2 (by decide)).2 e
      · exact a2.ne h.file (by decide) e
  · rw [updP_ne _ _ (by omega)]
    exact h.cl j (by omega)
  · have := h.lowB
    have := h.lowF
    omega
theorem SInv.close {w0 w : World} {t B F n : Nat} {mk : Nat → Bool} {i lo : Nat} {f : Int → Option Nat} {sl : Nat → Nat} {at_ cnt : Int} (h : SInv w0 w t B F n mk i lo f sl at_ cnt) (hi : lo < i) {w' : World} (ht : Tab w' t B n 100 (updP f lo none) (i - lo - 1)) (hx : Blk w' F 80 (shC 77 false at_ (cnt - 1))) (hf : Fr (fun k => k = B ∨ k = F) w w') :
    SInv w0 w' t B F n mk i (lo + 1) (updP f lo none) sl at_ (cnt - 1) := by
  refine ⟨by rw [show i - (lo + 1) = i - lo - 1 by omega]; exact ht, fun j h1 h2 => ?_, fun j hj => ?_, hx, h.fr.trans hf (fun k hk e => ?_), h.lowB, h.lowF⟩
  · obtain ⟨a1, a2⟩ := h.op j (by omega) h2
    rw [updP_ne _ _ (by omega)]
    refine ⟨a1, a2.fr hf ?_⟩
    rintro (e | e)
    · exact (h.tab.ne_of a2 (by decide)).2 e
    · exact a2.ne h.file (by decide) e
  · by_cases c : j = lo
    · subst c; rw [updP_same]
    · rw [updP_ne _ _ c]
      exact h.cl j (by omega)
  · have := h.lowB
    have := h.lowF
    omega
theorem SInv.move {w0 w : World} {t B F n : Nat} {mk : Nat → Bool} {i lo : Nat} {f : Int → Option Nat} {sl : Nat → Nat} {at_ cnt : Int} (h : SInv w0 w t B F n mk i lo f sl at_ cnt) (v : Int) : SInv w0 (w.setCell ⟨F, 6, none⟩ (.int .i64 v)) t B F n mk i lo f sl v cnt := by
  have hf : Fr (fun k => k = F) w (w.setCell ⟨F, 6, none⟩ (.int .i64 v)) := (Fr.refl (fun k => k = F) w).setCell (p := ⟨F, 6, none⟩) (.inl rfl) _
  obtain ⟨n1, n2⟩ := h.tab.ne_of h.file (by decide)
  refine ⟨h.tab.fr hf (fun e => n1 e.symm) (fun e => n2 e.symm), fun j h1 h2 => ⟨(h.op j h1 h2).1, (h.op j h1 h2).2.fr hf (fun e => (h.op j h1 h2).2.ne h.file (by decide) e)⟩, h.cl, ?_, h.fr.setCell (p := ⟨F, 6, none⟩) (.inr h.lowF) _, h.lowB, h.lowF⟩
  have e := h.file.set 6 (.int .i64 v)
  simpa [Blk, shC] using e
def AtS (w0 : World) (t B F : Nat) (mk : Nat → Bool) (K : Nat) (i : Value) (kq : Nat) (wr : World) : Prop := ∃ (k : Nat) (f : Int → Option Nat) (sl : Nat → Nat), i = .int .i64 k ∧ 1 ≤ k ∧ k ≤ K ∧ K - k ≤ kq ∧ SInv w0 wr t B F k mk k 0 f sl 0 k
def AtG (w0 : World) (t B F : Nat) (mk : Nat → Bool) (K : Nat) (f : Int → Option Nat) (sl : Nat → Nat) (at_ : Int) (i : Value) (kq : Nat) (wr : World) : Prop := ∃ (k : Nat), i = .int .i64 k ∧ k ≤ K ∧ K - k ≤ kq ∧ SInv w0 wr t B F K mk K 0 f sl at_ K
def AtC (w0 : World) (t B F : Nat) (mk : Nat → Bool) (K : Nat) (at_ : Int) (i : Value) (kq : Nat) (wr : World) : Prop := ∃ (k : Nat) (f : Int → Option Nat) (sl : Nat → Nat), i = .int .i64 k ∧ k ≤ K ∧ K - k ≤ kq ∧ SInv w0 wr t B F K mk K k f sl at_ ((K : Int) - k)
set_option maxHeartbeats 4000000 in
set_option maxRecDepth 100000 in
theorem share_law (n K : Nat) (hn : n < 256) (hK : K = n % 50 + 1) (A : Option Addr) (len cap : Nat) (m : Nat → Bool) (at_ : Int) (ha0 : 0 ≤ at_) (ha1 : at_ < 65536) (w : World) (hl : len ≤ 9223372036854775807) (hr : ∀ i, i < len → ∃ x, A = some x ∧ w.cell? (x.add i) = some (.bool (m i))) : Calls Try.prog 4 #[.int .u8 (n : Int), .slice A len cap, .int .u16 at_] w fun e w' => e = .returned (.bool true) ∧ Fr (fun _ => False) w w' := by
  have HR := Lib.hid hr
  obtain ⟨mk, hmk⟩ : ∃ mk : Nat → Bool, mk = fun i => i == 0 || (decide (i < len) && m i) := ⟨_, rfl⟩
  have HMK := Lib.hid hmk
  have ek : (n : Int) % 50 + 1 = (K : Int) := by omega
  have eb0 : (0 : Int) ≤ (n : Int) % 50 := by omega
  have eb1 : (n : Int) % 50 < 50 := by omega
  have hK1 : 1 ≤ K := by omega
  have hK50 : K ≤ 50 := by omega
  have HN := Lib.hid hn
  clear hr hmk hK hn
  go_enter Try.func4, Try.ntmps4
  go_wp2_with fail
  refine (new_any 100 _).mono ?_
  rintro e w1 ⟨rfl, ht, hf⟩
  have HT := Lib.hid (show Tab w1 (w.heap.size + 1) w.heap.size 0 100 (fun _ => none) 0 from ht)
  have HF := Lib.hid hf
  clear ht hf
  go_wp2_with fail
  refine (answers_any _).mono ?_
  rintro e w2 ⟨rfl, hf⟩
  have HT := Lib.hid (HT.out.fr hf id id)
  have HF := Lib.hid (HF.out.trans hf (fun _ _ => id))
  clear hf
  go_wp2_with fail
  refine (add_any 77 false 0 0 true _ HT.out (by decide)).mono ?_
  rintro e w3 ⟨r, q, ⟨hfr, hq⟩, rfl⟩
  obtain ⟨rfl, rfl⟩ : r = 0 ∧ q = 0 := by
    rcases hfr with ⟨h, _, _⟩ | ⟨_, ⟨h1, h2, _, h3, h4⟩ | ⟨h, _, _⟩⟩
    · exact absurd h (by decide)
    · refine ⟨?_, h4⟩
      rcases Int.lt_or_eq_of_le h1 with c | c
      · exact absurd rfl (h3 0 (by omega) c)
      · exact c.symm
    · exact absurd rfl (h 0 (by omega) (by omega))
  obtain ⟨_, _, s, F, hs, hF, hsF, ht, hb1, hb2, hf⟩ : _ ∧ _ ∧ _ := hq.resolve_left (fun h => h.1 rfl)
  have HI0 := Lib.hid (show SInv w w3 (w.heap.size + 1) w.heap.size F 1 mk 1 0 (updP (fun _ => none) ((0 : Nat) : Int) (some s)) (fun _ => s) 0 ((1 : Nat) : Int) from
    ⟨ht, fun j h1 h2 => by
      obtain rfl : j = 0 := by omega
      rw [HMK.out]
      exact ⟨updP_same _ _ _, hb1⟩, fun j hj => by rw [updP_ne _ _ (by omega)], hb2, HF.out.trans hf (fun i hi e => by omega), Nat.le_refl _, Nat.le_trans HF.out.size hF⟩)
  clear hfr hq ht hb1 hb2 hf HT HF hs hF hsF
  go_wp2_with fail
  clear ek eb0 eb1
  go_loopg [9] K (fun kq i wr => Hid (AtS w (w.heap.size + 1) w.heap.size F mk K i kq wr))
  case atStart => exact Lib.hid ⟨1, _, _, rfl, Nat.le_refl _, hK1, by omega, HI0.out⟩
  case round =>
    obtain ⟨k, f, sl, rfl, hk1, hkK, hkq, hI⟩ := hrel.out
    have HI := Lib.hid hI
    clear hrel hI HI0
    by_cases hk : k < K
    · have t1 : decide ((k : Int) < (K : Int)) = true := decide_eq_true (by omega)
      have t1' : decide (k < K) = true := decide_eq_true hk
      obtain ⟨b, hb⟩ : ∃ b, mk k = b := ⟨_, rfl⟩
      have HB := Lib.hid hb
      have hpk := HI.out.op (k - 1) (Nat.zero_le _) (by omega)
      rw [show ((k - 1 : Nat) : Int) = (k : Int) - 1 by omega] at hpk
      have HP := Lib.hid hpk
      have key : (b = (decide (k < len) && m k)) := by rw [← hb, HMK.out]; simp; omega
      clear hb hpk
      by_cases hkl : k < len
      · have t2 : decide ((k : Int) < (len : Int)) = true := decide_eq_true (by omega)
        have t2' : decide (k < len) = true := decide_eq_true hkl
        rw [t2', Bool.true_and] at key
        obtain ⟨x, hax, hx⟩ := HR.out k hkl
        subst hax
        have hxk := cell_keep HI.out.fr hx
        rw [← key] at hxk
        clear hx key
        go_wp2_with fail
        refine (dup_any ((k : Int) - 1) 0 _ F _ b 77 false 0 (k : Int) (wf64 (by omega) (by omega)) _ HI.out.tab (by omega) HP.out.1 HP.out.2 HI.out.file (by omega) (by omega)).mono ?_
        rintro e w4 ⟨r, q, ⟨hfr, hq⟩, rfl⟩
        obtain ⟨rfl, rfl⟩ := HI.out.free hfr rfl (by omega)
        obtain ⟨_, hfn, s', hs', ht, hb1, hb2, hf⟩ := hq.resolve_left (fun h => h.1 rfl)
        have HJ := Lib.hid (HI.out.dup rfl b ht hb1 hb2 hf HB.out)
        clear hfr hq hfn hs' ht hb1 hb2 hf
        go_wp2_with fail
        go_roundg (K - (k + 1))
        case measure => omega
        case rel => exact Lib.hid ⟨k + 1, _, _, by go_num, by omega, by omega, Nat.le_refl _, by rw [show ((k + 1 : Nat) : Int) = (k : Int) + 1 by omega]; exact HJ.out⟩
      · have t2 : decide ((k : Int) < (len : Int)) = false := decide_eq_false (by omega)
        have t2' : decide (k < len) = false := decide_eq_false hkl
        rw [t2', Bool.false_and] at key
        subst key
        go_wp2_with fail
        refine (dup_any ((k : Int) - 1) 0 _ F _ false 77 false 0 (k : Int) (wf64 (by omega) (by omega)) _ HI.out.tab (by omega) HP.out.1 HP.out.2 HI.out.file (by omega) (by omega)).mono ?_
        rintro e w4 ⟨r, q, ⟨hfr, hq⟩, rfl⟩
        obtain ⟨rfl, rfl⟩ := HI.out.free hfr rfl (by omega)
        obtain ⟨_, hfn, s', hs', ht, hb1, hb2, hf⟩ := hq.resolve_left (fun h => h.1 rfl)
        have HJ := Lib.hid (HI.out.dup rfl false ht hb1 hb2 hf HB.out)
        clear hfr hq hfn hs' ht hb1 hb2 hf
        go_wp2_with fail
        go_roundg (K - (k + 1))
        case measure => omega
        case rel => exact Lib.hid ⟨k + 1, _, _, by go_num, by omega, by omega, Nat.le_refl _, by rw [show ((k + 1 : Nat) : Int) = (k : Int) + 1 by omega]; exact HJ.out⟩
    · have e : K = k := by omega
      subst e
      have t1 : decide ((K : Int) < (K : Int)) = false := decide_eq_false (by omega)
      have t1' : decide (K < K) = false := decide_eq_false hk
      have hpk := HI.out.op (K - 1) (Nat.zero_le _) (by omega)
      rw [show ((K - 1 : Nat) : Int) = (K : Int) - 1 by omega] at hpk
      have HP := Lib.hid hpk
      clear hpk hkq
      go_wp2_with fail
      refine (tget_some ((K : Int) - 1) _ F _ (wf64 (by omega) (by omega)) _ HI.out.tab HP.out.1 HP.out.2).mono ?_
      rintro e w4 ⟨rfl, rfl⟩
      have g6 := HI.out.file.frozen 6
      have x6 := HI.out.file.cell 6
      simp [shC] at x6
      have HJ := Lib.hid (HI.out.move at_)
      go_upto_region 15 with (fail)
      generalize w4.setCell ⟨F, 6, none⟩ (.int .i64 at_) = w9 at HJ ⊢
      clear g6 x6 t1 t1' HP
      go_wp2_with fail
      go_loopg [15] K (fun kq i wr => Hid (AtG w (w.heap.size + 1) w.heap.size F mk K f sl at_ i kq wr))
      case atStart => exact Lib.hid ⟨0, rfl, by omega, by omega, HJ.out⟩
      case round =>
        obtain ⟨k, rfl, hkK2, hkq2, hI2⟩ := hrel.out
        have HI := Lib.hid hI2
        clear hrel hI2 HJ
        by_cases hk2 : k < K
        · have t1 : decide ((k : Int) < (K : Int)) = true := decide_eq_true (by omega)
          have t1' : decide (k < K) = true := decide_eq_true hk2
          have hpk := HI.out.op k (Nat.zero_le _) hk2
          have HP := Lib.hid hpk
          clear hpk
          have x6 := HI.out.file.cell 6
          simp [shC] at x6
          obtain ⟨b, hb⟩ : ∃ b, mk k = b := ⟨_, rfl⟩
          rw [hb] at HP
          have key : (b = (k == 0 || (decide (k < len) && m k))) := by rw [← hb, HMK.out]
          clear hb
          go_wp2_with fail
          refine (tget_some (k : Int) _ F b (wf64 (by omega) (by omega)) _ HI.out.tab HP.out.1 HP.out.2).mono ?_
          rintro e w5 ⟨rfl, rfl⟩
          go_wp2_with fail
          refine (shut_some (k : Int) _ F b (wf64 (by omega) (by omega)) _ HI.out.tab HP.out.1 HP.out.2).mono ?_
          rintro e w5 ⟨rfl, rfl⟩
          by_cases hk0 : k = 0
          · subst hk0
            simp at key
            subst key
            go_wp2_with fail
            go_roundg (K - (0 + 1))
            case measure => omega
            case rel => exact Lib.hid ⟨0 + 1, by go_num, by omega, Nat.le_refl _, HI.out⟩
          · have z1 : ((k : Int) == 0) = false := beq_eq_false_iff_ne.2 (by omega)
            have z1' : (k == 0) = false := beq_eq_false_iff_ne.2 hk0
            rw [z1', Bool.false_or] at key
            by_cases hkl : k < len
            · have t2 : decide ((k : Int) < (len : Int)) = true := decide_eq_true (by omega)
              have t2' : decide (k < len) = true := decide_eq_true hkl
              rw [t2', Bool.true_and] at key
              obtain ⟨x, hax, hx⟩ := HR.out k hkl
              subst hax
              have hxk := cell_keep HI.out.fr hx
              rw [← key] at hxk
              clear hx key
              go_wp2_with fail
              all_goals cases b
              all_goals go_wp2_with fail
              all_goals
                go_roundg (K - (k + 1))
                case measure => omega
                case rel => exact Lib.hid ⟨k + 1, by go_num, by omega, Nat.le_refl _, HI.out⟩
            · have t2 : decide ((k : Int) < (len : Int)) = false := decide_eq_false (by omega)
              have t2' : decide (k < len) = false := decide_eq_false hkl
              rw [t2', Bool.false_and] at key
              subst key
              go_wp2_with fail
              go_roundg (K - (k + 1))
              case measure => omega
              case rel => exact Lib.hid ⟨k + 1, by go_num, by omega, Nat.le_refl _, HI.out⟩
        · have e : k = K := by omega
          subst e
          have t1 : decide ((k : Int) < (k : Int)) = false := decide_eq_false (by omega)
          have t1' : decide (k < k) = false := decide_eq_false hk2
          go_wp2_with fail
          go_loopg [20] k (fun kq i wr => Hid (AtC w (w.heap.size + 1) w.heap.size F mk k at_ i kq wr))
          case atStart => exact Lib.hid ⟨0, f, sl, rfl, by omega, by omega, by rw [show (k : Int) - ((0 : Nat) : Int) = k by omega]; exact HI.out⟩
          case round =>
            obtain ⟨q, f3, sl3, rfl, hq1, hq2, hI3⟩ := hrel.out
            have HI := Lib.hid hI3
            clear hrel hI3
            by_cases hq3 : q < k
            · have t2 : decide ((q : Int) < (k : Int)) = true := decide_eq_true (by omega)
              have t2' : decide (q < k) = true := decide_eq_true hq3
              have hpk := HI.out.op q (Nat.le_refl _) hq3
              have HP := Lib.hid hpk
              clear hpk
              by_cases hl1 : q + 1 = k
              · have t3 : ((q : Int) == (k : Int) - 1) = true := beq_iff_eq.2 (by omega)
                go_wp2_with fail
                refine (close_last (q : Int) _ F _ 77 false at_ (wf64 (by omega) (by omega)) _ HI.out.tab HP.out.1 HP.out.2 (by have e := HI.out.file; rw [show (k : Int) - q = 1 by omega] at e; exact e)).mono ?_
                rintro e w5 ⟨rfl, ht5, hx5, hf5⟩
                have HJ := Lib.hid ((HI.out.close hq3 ht5 (by rw [show (k : Int) - q - 1 = 0 by omega]; exact hx5) hf5).same ((Fr.refl (fun _ => False) _).alloc (.cells #[.int .i64 77, .pointer none, .bool false, .bool false, .bool false, .bool false, .int .i64 at_] 32)))
                clear ht5 hx5 hf5 HP
                simp only [opC]
                go_wp2_with fail
                go_roundg (k - (q + 1))
                case measure => omega
                case rel => exact Lib.hid ⟨q + 1, _, _, by go_num, by omega, Nat.le_refl _, by rw [show (k : Int) - ((q + 1 : Nat) : Int) = (k : Int) - q - 1 by omega]; exact HJ.out⟩
              · have t3 : ((q : Int) == (k : Int) - 1) = false := beq_eq_false_iff_ne.2 (by omega)
                go_wp2_with fail
                refine (close_more (q : Int) _ F _ 77 false at_ ((k : Int) - q) (wf64 (by omega) (by omega)) _ HI.out.tab HP.out.1 HP.out.2 HI.out.file (by omega) (by omega)).mono ?_
                rintro e w5 ⟨rfl, ht5, hx5, hf5⟩
                have HJ := Lib.hid ((HI.out.close hq3 ht5 hx5 hf5).same ((Fr.refl (fun _ => False) _).alloc (.cells #[.int .i64 0, .pointer none, .bool false, .bool false, .bool false, .bool false, .int .i64 0] 32)))
                clear ht5 hx5 hf5 HP
                simp only [opC]
                go_wp2_with fail
                go_roundg (k - (q + 1))
                case measure => omega
                case rel => exact Lib.hid ⟨q + 1, _, _, by go_num, by omega, Nat.le_refl _, by rw [show (k : Int) - ((q + 1 : Nat) : Int) = (k : Int) - q - 1 by omega]; exact HJ.out⟩
            · have e : q = k := by omega
              subst e
              have t2 : decide ((q : Int) < (q : Int)) = false := decide_eq_false (by omega)
              have t2' : decide (q < q) = false := decide_eq_false hq3
              go_wp2_with fail
              refine (list_any _ HI.out.tab (by omega)).mono ?_
              rintro e w5 ⟨v, l, rfl, hrow, hkeys, _, hf5⟩
              have hl0 : l = [] := List.eq_nil_iff_forall_not_mem.2 fun a ha => ((hkeys.2 a).1 ha).1 (HI.out.cl a (by omega))
              subst hl0
              obtain ⟨A2, c2, rfl, _, _⟩ := hrow.slice
              have HF := Lib.hid (HI.out.fr.trans hf5 (fun _ _ => id))
              clear hrow hkeys hf5
              go_wp2_with fail
              go_ret
              exact ⟨by first | rfl | simp, HF.out⟩
theorem share_walk (a0 : Int) (a1 : Value) (a2 : Int) (W : World) (w0 : (Lit.int .u8 a0).wf = true) (w1 : Marks W a1) (w2 : (Lit.int .u16 a2).wf = true) : Calls Try.prog 4 #[.int .u8 a0, a1, .int .u16 a2] W fun e W' => e = .returned (.bool true) ∧ Below W.heap.size W W' := by
  obtain ⟨a, len, cap, m, rfl, hlen, hm⟩ := w1
  have b0 := Go.bounds_u8 w0
  have b2 := Go.bounds_u16 w2
  unfold maxLen at hlen
  obtain ⟨n, rfl⟩ : ∃ n : Nat, a0 = n := ⟨a0.toNat, by omega⟩
  exact (share_law n (n % 50 + 1) (by omega) rfl a len cap m a2 b2.1 (by omega) W (by omega) hm).mono fun _ _ g => ⟨g.1, Fr.below (Below.refl _ _) g.2 (fun _ _ => id)⟩
end Go.Proofs.Ytfmlajgabogobaa.Ds
