/- At, First, Protect and Free of a list of regions: walked. -/
import Derived.Test.YtnaiccgbjcppaaaRgH
namespace Go.Proofs.Ytnaiccgbjcppaaa.Rg
open Go Go.RowKit Go.Proofs.YtnaiccgbjcppaaaW.PrintWords Go.Proofs.YtnaiccgbjcppaaaW.PrintLast Go.Proofs.YtnaiccgbjcppaaaW.PrintMore
open Go.Proofs.Ytnaiccgbjcppaaa.Hp
attribute [local go_sem] max2_int min2_int max_two min_two max_three min_three max_four min_four
set_option linter.unusedVariables false
set_option linter.unusedSimpArgs false
def atP (x : Int) : Rg → Bool := fun r => decide (r.s ≤ x) && decide (x < r.e)
def atG (l : List Rg) (x : Int) : Rg := (l.find? (atP x)).getD ⟨0, 0, 0⟩
def atK (l : List Rg) (x : Int) : Bool := (l.find? (atP x)).isSome
theorem find_at (p : Rg → Bool) (l : List Rg) : ∀ k, k < l.length → p (rgAt l k) = true → (∀ j, j < k → p (rgAt l j) = false) → l.find? p = some (rgAt l k) := by
  induction l with
  | nil => intro k hk; simp at hk
  | cons x t ih =>
    intro k hk hp hno
    cases k with
    | zero =>
      have h0 : p x = true := hp
      rw [List.find?_cons_of_pos h0]
      rfl
    | succ k =>
      have h0 : p x = false := hno 0 (by omega)
      rw [List.find?_cons_of_neg (by simp [h0]), ih k (by simpa using hk) hp (fun j hj => hno (j + 1) (by omega))]
      rfl
set_option maxHeartbeats 2000000 in
theorem at_any (B g : Nat) (l : List Rg) (x : Int) (w : World) (h : Lst w B g l) (hn : l.length ≤ 5000) : Calls Try.prog 16 #[.pointer (some ⟨g, 0, none⟩), .int .u64 x] w fun e w' => e = .returned (.tuple #[.agg #[.int .u64 (atG l x).s, .int .u64 (atG l x).e, .int .i64 (atG l x).p], .bool (atK l x)]) ∧ Fr (fun _ => False) w w' := by
  have HN := Lib.hid hn
  have HL := Lib.hid h
  have HF0 := Lib.hid (((Fr.refl (fun _ => False) w).alloc (.cells #[.int .u64 x] 23)).alloc (.cells #[.int .u64 0, .int .u64 0, .int .i64 0] 36))
  obtain ⟨v0, hb0, hr0⟩ := (HL.out.fr HF0.out).row
  obtain ⟨A, c, rfl, _, hA⟩ := hr0.form
  have HR0 := Lib.hid hr0
  have HA := Lib.hid hA
  have k0 := hb0.cell 0
  simp at k0
  have HBX := Lib.hid ((Blk.new w 23 #[.int .u64 x]).fr ((Fr.refl (fun _ => False) _).alloc (.cells #[.int .u64 0, .int .u64 0, .int .i64 0] 36)) id)
  have HRB := Lib.hid (Blk.new (w.alloc (.cells #[.int .u64 x] 23)) 36 #[.int .u64 0, .int .u64 0, .int .i64 0])
  clear hb0 hr0 hn h hA
  go_enter Try.func16, Try.ntmps16
  go_wp2_with fail
  refine (index_at _ l w.heap.size (atP x) B _ HR0.out HN.out (pred_at _ _ x HBX.out)).mono ?_
  rintro e1 w1 ⟨rfl, hf1⟩
  have HF1 := Lib.hid hf1
  have HFA := Lib.hid (HF0.out.trans hf1 (fun _ _ => id))
  have hrb := HRB.out.fr hf1 id
  have HRB1 := Lib.hid hrb
  have hsz : (w.alloc (.cells #[.int .u64 x] 23)).heap.size = w.heap.size + 1 := by simp
  rw [hsz] at HRB1 hrb
  obtain ⟨v1, hb1, hr1⟩ := (HL.out.fr HFA.out).row
  obtain ⟨A2, c2, rfl, _, hA2⟩ := hr1.form
  have HR1 := Lib.hid hr1
  have HA2 := Lib.hid hA2
  have k1 := hb1.cell 0
  simp at k1
  have f0 := hrb.frozen 0
  have f1 := hrb.frozen 1
  have f2 := hrb.frozen 2
  have q0 := hrb.cell 0
  have q1 := hrb.cell 1
  have q2 := hrb.cell 2
  simp at q0 q1 q2
  have hb2 := hb1.fr (S := fun _ => False) (((Fr.refl _ w1))) id
  have hlt := HRB1.out.lt
  have hgb := hb1.lt
  have HSP := Lib.hid (idxL_spec (atP x) l 0)
  clear hf1 k0 hrb hb1 hr1 hb2 hsz hA2
  rcases HSP.out with ⟨he, hno⟩ | ⟨k, hk, he, hp, hno⟩
  · have HE := Lib.hid (show atG l x = ⟨0, 0, 0⟩ ∧ atK l x = false from by
      have h1 : l.find? (atP x) = none := List.find?_eq_none.2 (fun r hr => by simp [hno r hr])
      simp [atG, atK, h1])
    rw [he]
    clear he hno HSP
    go_wp2_with fail
    refine bodyPost_ret (results_ct rfl _ _ (w.heap.size + 1) 36 #[.int .u64 0, .int .u64 0, .int .i64 0] (0, 0) _ rfl ?_ Try.underlying36 rfl (by kernel_rfl)) rfl ?_
    · have h3 := ((HRB1.out.set 0 (.int .u64 0)).set 1 (.int .u64 0)).set 2 (.int .i64 0)
      simpa [Blk] using h3
    · rw [HE.out.1, HE.out.2]
      exact ⟨rfl, ((HFA.out.setCell (.inr (by simp)) _).setCell (.inr (by simp)) _).setCell (.inr (by simp)) _⟩
  · have HE := Lib.hid (show atG l x = rgAt l k ∧ atK l x = true from by
      have h1 := find_at (atP x) l k hk hp hno
      simp [atG, atK, h1])
    have he2 : idxL (atP x) l 0 = (k : Int) := by rw [he]; congr 1; omega
    rw [he2]
    have b1 : decide ((k : Int) < 0) = false := decide_eq_false (by omega)
    have j0 : (0 : Int) ≤ (k : Int) := by omega
    have j1 : (k : Int) < (l.length : Int) := by omega
    obtain ⟨g1, rfl⟩ := HA2.out (by omega)
    obtain ⟨y0, y1, y2⟩ := HR1.out.at_ k hk
    obtain ⟨r, hr⟩ : ∃ r, rgAt l k = r := ⟨_, rfl⟩
    rw [hr] at y0 y1 y2 HE
    obtain ⟨s, e, p⟩ := r
    clear he he2 hno hp hk HSP hr
    go_wp2_with fail
    refine bodyPost_ret (results_ct rfl _ _ (w.heap.size + 1) 36 #[.int .u64 s, .int .u64 e, .int .i64 p] (0, 0) _ rfl ?_ Try.underlying36 rfl (by kernel_rfl)) rfl ?_
    · have h3 := ((HRB1.out.set 0 (.int .u64 s)).set 1 (.int .u64 e)).set 2 (.int .i64 p)
      simpa [Blk] using h3
    · rw [HE.out.1, HE.out.2]
      exact ⟨rfl, ((HFA.out.setCell (.inr (by simp)) _).setCell (.inr (by simp)) _).setCell (.inr (by simp)) _⟩
def andI (a b : Int) : Int := bits BinOp.and IntKind.i64 a b
inductive FirstR (l : List Rg) (pr e : Int) : Int → Int → Bool → Prop
  | done {s : Int} : ¬ s < e → FirstR l pr e s 0 false
  | hole {s : Int} : s < e → atK l s = false → FirstR l pr e s s true
  | bad {s : Int} : s < e → atK l s = true → (andI (atG l s).p pr != pr) = true → FirstR l pr e s s true
  | step {s x : Int} {b : Bool} : s < e → atK l s = true → (andI (atG l s).p pr != pr) = false → FirstR l pr e (atG l s).e x b → FirstR l pr e s x b
theorem atG_in (l : List Rg) (x : Int) (h : atK l x = true) : atG l x ∈ l ∧ (atG l x).s ≤ x ∧ x < (atG l x).e := by
  unfold atK at h
  obtain ⟨r, hr⟩ := Option.isSome_iff_exists.1 h
  have hm := List.mem_of_find?_eq_some hr
  have hp := List.find?_some hr
  unfold atG
  rw [hr]
  simp only [atP, Bool.and_eq_true, decide_eq_true_eq] at hp
  exact ⟨hm, hp.1, hp.2⟩
def AtFi (l : List Rg) (pr e s : Int) (w : World) (v1 : Value) (kq : Nat) (wr : World) : Prop := ∃ v : Int, v1 = .int .u64 v ∧ (e - v).toNat ≤ kq ∧ (∀ x b, FirstR l pr e v x b → FirstR l pr e s x b) ∧ Fr (fun _ => False) w wr
set_option maxHeartbeats 4000000 in
theorem first_any (B g : Nat) (l : List Rg) (s e pr : Int) (w : World) (h : Lst w B g l) (hn : l.length ≤ 5000) (hs : s < e) : Calls Try.prog 18 #[.pointer (some ⟨g, 0, none⟩), .int .u64 s, .int .u64 e, .int .i64 pr] w fun y w' => ∃ x b, y = .returned (.tuple #[.int .u64 x, .bool b]) ∧ FirstR l pr e s x b ∧ Fr (fun _ => False) w w' := by
  have HN := Lib.hid hn
  have HL := Lib.hid h
  have b1 : decide (e ≤ s) = false := decide_eq_false (by omega)
  clear hn h hs
  go_enter Try.func18, Try.ntmps18
  go_wp2_with fail
  go_loopg [1] (e - s).toNat (fun kq v1 wr => Hid (AtFi l pr e s w v1 kq wr))
  case atStart => exact Lib.hid ⟨s, rfl, Nat.le_refl _, fun _ _ h => h, Fr.refl _ _⟩
  case round =>
    obtain ⟨v, rfl, hk, hR, hf⟩ := hrel.out
    have HR := Lib.hid hR
    have HF := Lib.hid hf
    clear hrel hR hf b1
    by_cases hve : v < e
    · have u1 : decide (v < e) = true := decide_eq_true hve
      go_wp2_with fail
      refine (at_any B g l v _ (HL.out.fr HF.out) HN.out).mono ?_
      rintro y w1 ⟨rfl, hf1⟩
      have HF1 := Lib.hid (HF.out.trans hf1 (fun _ _ => id))
      clear hf1
      cases hat : atK l v with
      | false =>
        have HD := Lib.hid (HR.out _ _ (.hole hve hat))
        obtain ⟨rs, hrs⟩ : ∃ r, (atG l v).s = r := ⟨_, rfl⟩
        obtain ⟨re, hre⟩ : ∃ r, (atG l v).e = r := ⟨_, rfl⟩
        obtain ⟨rp, hrp⟩ : ∃ r, (atG l v).p = r := ⟨_, rfl⟩
        rw [hrs, hre, hrp]
        clear hat u1 hrs hre hrp
        go_wp2_with fail
        go_ret2
        exact ⟨_, _, rfl, HD.out, HF1.out.alloc _⟩
      | true =>
        have hin := atG_in l v hat
        obtain ⟨rs, hrs⟩ : ∃ r, (atG l v).s = r := ⟨_, rfl⟩
        obtain ⟨re, hre⟩ : ∃ r, (atG l v).e = r := ⟨_, rfl⟩
        obtain ⟨rp, hrp⟩ : ∃ r, (atG l v).p = r := ⟨_, rfl⟩
        have HRS := Lib.hid (And.intro hrs (And.intro hre hrp))
        rw [hrs, hre] at hin
        rw [hrs, hre, hrp]
        obtain ⟨h1, h2, h3⟩ := hin
        have HAT := Lib.hid hat
        clear hrs hre hrp
        clear hat
        cases hq : (bits BinOp.and IntKind.i64 rp pr != pr) with
        | true =>
          have HD := Lib.hid (HR.out _ _ (.bad hve HAT.out (by rw [HRS.out.2.2]; exact hq)))
          go_wp2_with fail
          go_ret2
          exact ⟨_, _, rfl, HD.out, HF1.out.alloc _⟩
        | false =>
          have HD := Lib.hid (fun x b (h : FirstR l pr e re x b) => HR.out x b (.step hve HAT.out (by rw [HRS.out.2.2]; exact hq) (by rw [HRS.out.2.1]; exact h)))
          go_wp2_with fail
          go_roundg (e - re).toNat
          case measure => omega
          case rel => exact Lib.hid ⟨re, rfl, Nat.le_refl _, HD.out, HF1.out.alloc _⟩
    · have u1 : decide (v < e) = false := decide_eq_false hve
      have HD := Lib.hid (HR.out _ _ (.done hve))
      go_wp2_with fail
      go_ret2
      exact ⟨_, .inl ⟨rfl, HD.out, HF.out⟩⟩
def freeB (l : List Rg) (s e : Int) : Bool := spanB s e && !(decide (0 ≤ idxL (fun r => decide (r.s < e) && decide (s < r.e)) l 0))
set_option maxHeartbeats 2000000 in
theorem free_any (B g : Nat) (l : List Rg) (s e : Int) (hs : 0 ≤ s ∧ s < 18446744073709551616) (he : 0 ≤ e ∧ e < 18446744073709551616) (w : World) (h : Lst w B g l) (hn : l.length ≤ 5000) : Calls Try.prog 13 #[.pointer (some ⟨g, 0, none⟩), .int .u64 s, .int .u64 e] w fun x w' => x = .returned (.bool (freeB l s e)) ∧ Fr (fun _ => False) w w' := by
  have HN := Lib.hid hn
  have HL := Lib.hid h
  have HF0 := Lib.hid (((Fr.refl (fun _ => False) w).alloc (.cells #[.int .u64 s] 23)).alloc (.cells #[.int .u64 e] 23))
  have HBS := Lib.hid ((Blk.new w 23 #[.int .u64 s]).fr ((Fr.refl (fun _ => False) _).alloc (.cells #[.int .u64 e] 23)) id)
  have HBE := Lib.hid (Blk.new (w.alloc (.cells #[.int .u64 s] 23)) 23 #[.int .u64 e])
  clear hn h
  go_enter Try.func13, Try.ntmps13
  go_wp2_with fail
  refine (span_any s e hs he _).mono ?_
  rintro x w1 ⟨rfl, hf1⟩
  have HF1 := Lib.hid (HF0.out.trans hf1 (fun _ _ => id))
  have HBS1 := Lib.hid (HBS.out.fr hf1 id)
  have HBE1 := Lib.hid (HBE.out.fr hf1 id)
  clear hf1
  cases hsp : spanB s e with
  | false =>
    have HE := Lib.hid (show freeB l s e = false from by simp [freeB, hsp])
    clear hsp
    go_wp2_with fail
    go_ret
    rw [HE.out]
    exact ⟨rfl, HF1.out⟩
  | true =>
    have HE := Lib.hid (show freeB l s e = !(decide (0 ≤ idxL (fun r => decide (r.s < e) && decide (s < r.e)) l 0)) from by simp [freeB, hsp])
    clear hsp
    obtain ⟨v0, hb0, hr0⟩ := (HL.out.fr HF1.out).row
    obtain ⟨A, c, rfl, _, hA⟩ := hr0.form
    have HR0 := Lib.hid hr0
    have k0 := hb0.cell 0
    simp at k0
    have hsz : (w.alloc (.cells #[.int .u64 s] 23)).heap.size = w.heap.size + 1 := by simp
    rw [hsz] at HBE1
    clear hb0 hr0 hA hsz
    go_wp2_with fail
    refine (contains_free _ l (w.heap.size + 1) w.heap.size _ B _ HR0.out HN.out (pred_free _ _ _ e s HBE1.out HBS1.out)).mono ?_
    rintro x w2 ⟨rfl, hf2⟩
    have HF2 := Lib.hid (HF1.out.trans hf2 (fun _ _ => id))
    clear hf2
    go_wp2_with fail
    go_ret
    rw [HE.out]
    exact ⟨rfl, HF2.out⟩
/-- What Protect answers. -/
def protR (l : List Rg) (s e p : Int) (x : Int) (l' : List Rg) : Prop := (mapB s e p = false ∧ x = 22 ∧ l' = l) ∨ (mapB s e p = true ∧ (∃ y, FirstR l 0 e s y true) ∧ x = 12 ∧ l' = l) ∨ (mapB s e p = true ∧ (∃ y, FirstR l 0 e s y false) ∧ x = takeE (withL l ⟨s, e, p⟩) ∧ l' = takeL l (withL l ⟨s, e, p⟩))
theorem span_lt {s e : Int} (h : spanB s e = true) : s < e := by
  unfold spanB at h
  simp only [Bool.and_eq_true, decide_eq_true_eq] at h
  omega
set_option maxHeartbeats 2000000 in
theorem protect_any (B g : Nat) (l : List Rg) (s e p : Int) (hs : 0 ≤ s ∧ s < 18446744073709551616) (he : 0 ≤ e ∧ e < 18446744073709551616) (w : World) (h : Lst w B g l) (hn : l.length ≤ 1000) : Calls Try.prog 24 #[.pointer (some ⟨g, 0, none⟩), .int .u64 s, .int .u64 e, .int .i64 p] w fun y w' => ∃ x l', y = .returned (.int .i64 x) ∧ protR l s e p x l' ∧ Lst w' B g l' ∧ Fr (fun k => k = g) w w' := by
  have H := Lib.hid h
  have HN := Lib.hid hn
  clear h hn
  go_enter Try.func24, Try.ntmps24
  go_wp2_with fail
  refine (span_any s e hs he _).mono ?_
  rintro x w1 ⟨rfl, hf1⟩
  have HF1 := Lib.hid hf1
  clear hf1
  cases hsp : spanB s e with
  | false =>
    have HE := Lib.hid (show protR l s e p 22 l from .inl ⟨by simp [mapB, hsp], rfl, rfl⟩)
    clear hsp
    go_wp2_with fail
    go_ret
    exact ⟨_, _, rfl, HE.out, H.out.fr HF1.out, HF1.out.mono (fun _ _ h => h.elim)⟩
  | true =>
    have HSP := Lib.hid hsp
    clear hsp
    go_wp2_with fail
    refine (prots_any p _).mono ?_
    rintro x w2 ⟨rfl, hf2⟩
    have HF2 := Lib.hid (HF1.out.trans hf2 (fun _ _ => id))
    clear hf2
    cases hpr : protsB p with
    | false =>
      have HE := Lib.hid (show protR l s e p 22 l from .inl ⟨by simp [mapB, HSP.out, hpr], rfl, rfl⟩)
      clear hpr
      go_wp2_with fail
      go_ret
      exact ⟨_, _, rfl, HE.out, H.out.fr HF2.out, HF2.out.mono (fun _ _ h => h.elim)⟩
    | true =>
      have HMB := Lib.hid (show mapB s e p = true from by simp [mapB, HSP.out, hpr])
      clear hpr
      go_wp2_with fail
      refine (first_any B g l s e 0 _ (H.out.fr HF2.out) (by have := HN.out; omega) (span_lt HSP.out)).mono ?_
      rintro y w3 ⟨x, b, rfl, hfr, hf3⟩
      have HFR := Lib.hid hfr
      have HF3 := Lib.hid (HF2.out.trans hf3 (fun _ _ => id))
      clear hfr hf3
      cases b with
      | true =>
        have HE := Lib.hid (show protR l s e p 12 l from .inr (.inl ⟨HMB.out, ⟨_, HFR.out⟩, rfl, rfl⟩))
        go_wp2_with fail
        go_ret
        exact ⟨_, _, rfl, HE.out, H.out.fr HF3.out, HF3.out.mono (fun _ _ h => h.elim)⟩
      | false =>
        have HE := Lib.hid (show protR l s e p (takeE (withL l ⟨s, e, p⟩)) (takeL l (withL l ⟨s, e, p⟩)) from .inr (.inr ⟨HMB.out, ⟨_, HFR.out⟩, rfl, rfl⟩))
        have hl2 := H.out.fr HF3.out
        have HL2 := Lib.hid hl2
        obtain ⟨v0, hb0, hr0⟩ := hl2.row
        obtain ⟨A, c, rfl, _, _⟩ := hr0.form
        have HR0 := Lib.hid hr0
        have k0 := hb0.cell 0
        simp at k0
        clear hb0 hr0 hl2
        go_wp2_with fail
        refine (with_any B _ l ⟨s, e, p⟩ _ HR0.out HN.out).mono ?_
        rintro x w4 ⟨v3, rfl, ho3, hf4⟩
        have HO3 := Lib.hid ho3
        have HF4 := Lib.hid hf4
        clear ho3 hf4 k0
        obtain ⟨A3, c3, rfl, _, _⟩ := HO3.out.form
        obtain ⟨o3, ho3⟩ : ∃ o3, withL l ⟨s, e, p⟩ = o3 := ⟨_, rfl⟩
        have HLE := Lib.hid (show o3.length ≤ 5000 from by rw [← ho3]; have := withL_len l ⟨s, e, p⟩; have := HN.out; omega)
        rw [ho3] at HE HO3 ⊢
        clear ho3
        go_wp2_with fail
        refine (take_any B g l o3 _ _ (HL2.out.fr HF4.out) _ HO3.out HLE.out).mono ?_
        rintro x w5 ⟨rfl, hl5, hf5⟩
        have HL5 := Lib.hid hl5
        have HF5 := Lib.hid hf5
        clear hl5 hf5
        go_wp2_with fail
        go_ret
        exact ⟨_, _, rfl, HE.out, HL5.out, ((HF3.out.trans HF4.out (fun _ _ => id)).mono (T := fun k => k = g) (fun _ _ h => h.elim)).trans HF5.out (fun _ _ => id)⟩
end Go.Proofs.Ytnaiccgbjcppaaa.Rg
