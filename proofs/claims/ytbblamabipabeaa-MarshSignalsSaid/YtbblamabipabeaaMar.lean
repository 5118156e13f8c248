/- The contracts of package marsh's writer, walked: long, parts, Time, Micro. -/
import Derived.Test.YtbblamabipabeaaHp
import Derived.Test.YtbblamabipabeaaByPut
import Derived.Deep.RegionLaw
import Derived.Outline
namespace Go.Proofs.Ytbblamabipabeaa.Mar
open Go Go.RowKit Go.Proofs.YtbblamabipabeaaW.PrintWords Go.Proofs.YtbblamabipabeaaW.PrintLast Go.Proofs.YtbblamabipabeaaW.PrintMore
open Go.Proofs.Ytbblamabipabeaa.Hp Go.Proofs.Ytbblamabipabeaa.By Go.Proofs.Ytbblamabipabeaa.Bv
attribute [local go_sem] max2_int min2_int max_two min_two max_three min_three max_four min_four
set_option linter.unusedVariables false
set_option linter.unusedSimpArgs false
/-- At g lies a writer with the bytes l, whose row is v and lies above base. -/
structure Wr (base : Nat) (w : World) (g : Nat) (v : Value) (l : List Int) : Prop where
  blk : Blk w g 47 #[v]
  row : w.ownsRow base 5 1 v l.length (nums .u8 l)
  low : base ≤ g
theorem own_low {w : World} {b b' : Nat} {e : TypeId} {v : Value} {l : List Int} (h : w.ownsRow b e 1 v l.length (nums .u8 l)) (hb : b' ≤ b) : w.ownsRow b' e 1 v l.length (nums .u8 l) := by
  obtain ⟨h1, h2⟩ := h
  refine ⟨h1, ?_⟩
  rcases h2 with h2 | ⟨g, cap, cur, h3, h4, h5⟩
  · exact .inl h2
  · exact .inr ⟨g, cap, cur, h3, Nat.le_trans hb h4, h5⟩
theorem own_row {w : World} {b : Nat} {e : TypeId} {v : Value} {l : List Int} (h : w.ownsRow b e 1 v l.length (nums .u8 l)) : Row w e .u8 v l := own_low h (Nat.zero_le _)
theorem own_fr {w w' : World} {b : Nat} {e : TypeId} {v : Value} {l : List Int} {S : Nat → Prop} (h : w.ownsRow b e 1 v l.length (nums .u8 l)) (f : Fr S w w') (hn : ∀ b, v.ownBlock = some b → ¬ S b) : w'.ownsRow b e 1 v l.length (nums .u8 l) := by
  obtain ⟨h1, h2⟩ := h
  refine ⟨h1, ?_⟩
  rcases h2 with h2 | ⟨g, cap, cur, rfl, hb, hh, h3⟩
  · exact .inl h2
  · refine .inr ⟨g, cap, cur, rfl, hb, ?_, h3⟩
    rw [f.block g (Array.getElem?_eq_some_iff.1 hh).1 (hn g rfl)]
    exact hh
theorem Wr.fr {base : Nat} {w w' : World} {g : Nat} {v : Value} {l : List Int} {S : Nat → Prop} (h : Wr base w g v l) (f : Fr S w w') (hg : ¬ S g) (hv : ∀ b, v.ownBlock = some b → ¬ S b) : Wr base w' g v l :=
  ⟨h.blk.fr f hg, own_fr h.row f hv, h.low⟩
/-- Words as bytes, one after the other. -/
def encs : List Int → List Int
  | [] => []
  | x :: r => enc x 8 ++ encs r
theorem encs_snoc (l : List Int) (x : Int) : encs (l ++ [x]) = encs l ++ enc x 8 := by
  induction l with
  | nil => simp [encs]
  | cons y r ih => simp [encs, ih]
theorem encs_length (l : List Int) : (encs l).length = 8 * l.length := by
  induction l with
  | nil => rfl
  | cons y r ih => simp [encs, ih, enc_length]; omega
/-- Behind Put and the store of its row: the writer. -/
theorem Wr.put {base : Nat} {w w1 : World} {g : Nat} {v v1 : Value} {l l1 : List Int} (h : Wr base w g v l) (hb : base ≤ w.heap.size) (hr : Kd.R (Kd.int .u8) 5 w1 w.heap.size (fun _ => True) v1 l1) (hf : Below w.heap.size w w1) :
    Blk w1 g 47 #[v] ∧ Wr base (w1.setCell ⟨g, 0, none⟩ v1) g v1 l1 ∧ Fr (fun k => k = g) w (w1.setCell ⟨g, 0, none⟩ v1) := by
  have hF : Fr (fun _ => False) w w1 := Fr.of_below hf
  have hB := h.blk.fr hF id
  have ho := Kd.own_of_R hr
  have hfr : Fr (fun k => k = g) w1 (w1.setCell ⟨g, 0, none⟩ v1) := (Fr.refl (fun k => k = g) w1).setCell (p := ⟨g, 0, none⟩) (.inl rfl) v1
  refine ⟨hB, ⟨by simpa using hB.set 0 v1, own_fr (own_low ho hb) hfr (fun b e => (own_row ho).ne_blk hB (by decide) b e), h.low⟩, (hF.mono (fun _ _ h => h.elim)).trans hfr (fun _ _ h => h)⟩
set_option maxHeartbeats 1000000 in
theorem long_any (base : Nat) (w : World) (g : Nat) (v : Value) (l : List Int) (A : Option Addr) (c n : Nat) (xs : List Int) (hw : Wr base w g v l) (hx : ReadsInt w .u64 A n xs) (hA : ∀ ad, A = some ad → 0 < n → ad.block ≠ g)
    (hb : base ≤ w.heap.size) (hl : l.length + 8 * n ≤ 100000) (hw8 : ∀ x ∈ xs, 0 ≤ x ∧ x < 18446744073709551616) :
    Calls Try.prog 28 #[.pointer (some ⟨g, 0, none⟩), .slice A n c] w fun e w' => e = .returned (.tuple #[]) ∧ ∃ v', Wr base w' g v' (l ++ encs xs) ∧ Fr (fun k => k = g) w w' := by
  have hn := hx.1
  subst hn
  have HX := Lib.hid hx
  have hm := hx.2.1
  clear hx
  have HW := Lib.hid hw
  clear hw
  go_enter Try.func28, Try.ntmps28
  go_wp2_with fail
  go_loopw [8] (fun i wr => ∃ k : Nat, k ≤ xs.length ∧ i = .int .i64 k ∧ ∃ v' l', Hid (Wr base wr g v' l' ∧ l' = l ++ encs (xs.take k) ∧ Fr (fun k => k = g) w wr)) (fun i _ => xs.length - (intOf i).toNat)
  case atStart => exact ⟨0, by omega, rfl, v, l, Lib.hid ⟨HW.out, by simp [encs], Fr.refl _ _⟩⟩
  case round =>
    obtain ⟨k, hk, rfl, v', l', HI⟩ := hrel
    by_cases hkn : k < xs.length
    · have hll : l'.length ≤ 100000 := by
        rw [HI.out.2.1, List.length_append, encs_length, List.length_take]
        omega
      obtain ⟨Av, cv, rfl, hcv, hrv⟩ := (own_row HI.out.1.row).slice
      have HRV := Lib.hid hrv
      have hcell := HI.out.1.blk.cell 0
      simp at hcell
      have hrd := reads_fr HX.out HI.out.2.2 hA
      obtain ⟨ad, e124, hxk⟩ := hrd.2.2 (by omega)
      cases e124
      have hx2 := hxk k hkn
      clear hrd hxk hrv
      have hword := hw8 xs[k] (List.getElem_mem hkn)
      go_wp2_with fail
      refine (put_in Av cv l' xs[k] 8 wr (Kd.C_of_reads (d := (0 : Int)) (h1 := fun _ => rfl) HRV.out) hcv (by omega) hword.1 hword.2 (by decide) (by decide)).mono ?_
      rintro e w2 ⟨v2, rfl, hR2, hB2⟩
      have he := Lib.hid (show l' ++ enc xs[k] 8 = l ++ encs (xs.take (k + 1)) by rw [HI.out.2.1, List.take_succ_eq_append_getElem hkn, encs_snoc, List.append_assoc])
      generalize l' ++ enc xs[k] 8 = l2 at *
      obtain ⟨A2, c2, rfl, _, _⟩ := (own_row (Kd.own_of_R hR2)).slice
      have HP := Lib.hid (HI.out.1.put (Nat.le_trans hb HI.out.2.2.size) hR2 hB2)
      have f2 := HP.out.1.frozen 0
      have hc2 := HP.out.1.cell 0
      simp at hc2
      clear hR2 hB2
      go_wp2_with fail
      go_roundw
      case rel => exact ⟨k + 1, by omega, by go_num, _, l2, Lib.hid ⟨HP.out.2.1, he.out, HI.out.2.2.trans HP.out.2.2 (fun _ _ h => h)⟩⟩
      case measure => simp [intOf]; omega
    · obtain rfl : k = xs.length := by omega
      go_wp2_with fail
      go_end0
      exact ⟨rfl, _, by have h := HI.out; rw [List.take_length] at h; exact h.2.1 ▸ h.1, HI.out.2.2⟩
theorem reads_lit2 (w : World) (e : TypeId) (fr : Nat × Nat) (x y : Int) : ReadsInt (w.alloc (.cells #[.int .u64 x, .int .u64 y] e fr)) .u64 (some ⟨w.heap.size, 0, none⟩) 2 [x, y] := reads_new w .u64 e fr [x, y] (by simp)
/-- What is handed over: a value that owns the bytes l, above base. -/
def Own (base : Nat) (w : World) (v : Value) (l : List Int) : Prop := w.ownsRow base 5 1 v l.length (nums .u8 l)
theorem Own.slice {base : Nat} {w : World} {v : Value} {l : List Int} (h : Own base w v l) : ∃ A c, v = .slice A l.length c ∧ l.length ≤ c ∧ ReadsInt w .u8 A l.length l := (own_row h).slice
theorem Own.fr {base : Nat} {w w' : World} {v : Value} {l : List Int} (h : Own base w v l) (f : Fr (fun _ => False) w w') : Own base w' v l := own_fr h f (fun _ _ => id)
set_option maxHeartbeats 1000000 in
theorem parts_any (w : World) (x y : Int) (x0 : 0 ≤ x) (x1 : x < 9223372036854775808) (y0 : 0 ≤ y) (y1 : y < 9223372036854775808) :
    Calls Try.prog 25 #[.int .i64 x, .int .i64 y] w fun e w' => ∃ v, e = .returned v ∧ Own w.heap.size w' v (encs [x, y]) ∧ Fr (fun _ => False) w w' := by
  have hx : IntKind.u64.wrap x = x := wrap_in x0 (by omega)
  have hy : IntKind.u64.wrap y = y := wrap_in y0 (by omega)
  go_enter Try.func25, Try.ntmps25
  go_wp2_with fail
  have hb0 : Blk (w.alloc (.cells #[.slice none 0 0] 47)) w.heap.size 47 #[.slice none 0 0] := Blk.new w _ _
  have hW : Wr w.heap.size ((w.alloc (.cells #[.slice none 0 0] 47)).alloc (.cells #[.int .u64 x, .int .u64 y] 31)) w.heap.size (.slice none 0 0) [] :=
    ⟨hb0.alloc _, own_nil _ _ _ _, Nat.le_refl _⟩
  have hsz : (w.alloc (.cells #[.slice none 0 0] 47)).heap.size = w.heap.size + 1 := by simp
  have hR := reads_lit2 (w.alloc (.cells #[.slice none 0 0] 47)) 31 (0, 0) x y
  rw [hsz] at hR
  have hF : Fr (fun _ => False) w ((w.alloc (.cells #[.slice none 0 0] 47)).alloc (.cells #[.int .u64 x, .int .u64 y] 31)) := ((Fr.refl _ _).alloc _).alloc _
  refine (long_any w.heap.size _ w.heap.size _ [] _ 2 2 [x, y] hW hR (fun ad e _ => by injection e with e; subst e; simp) hF.size (by simp) (fun z hz => by simp at hz; omega)).mono ?_
  rintro e w2 ⟨rfl, v2, hW2, hF2⟩
  have HW := Lib.hid hW2
  have HF := Lib.hid (show Fr (fun _ => False) w w2 from hF.trans hF2 (fun k hk e => by omega))
  clear hb0 hW hsz hR hF hW2 hF2
  rw [List.nil_append] at HW
  obtain ⟨l, hl⟩ : ∃ l, l = encs [x, y] := ⟨_, rfl⟩
  rw [← hl] at HW
  have HL := Lib.hid hl
  clear hl
  obtain ⟨A2, c2, rfl, _, _⟩ := (own_row HW.out.row).slice
  have hc := HW.out.blk.cell 0
  simp at hc
  go_wp2_with fail
  go_ret
  exact ⟨_, rfl, HL.out ▸ HW.out.row, HF.out⟩
end Go.Proofs.Ytbblamabipabeaa.Mar
