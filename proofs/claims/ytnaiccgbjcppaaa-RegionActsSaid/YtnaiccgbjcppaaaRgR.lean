/- RegionNone: walked. -/
import Derived.Test.YtnaiccgbjcppaaaRgQ
namespace Go.Proofs.Ytnaiccgbjcppaaa.Rg
open Go Go.RowKit Go.Proofs.YtnaiccgbjcppaaaW.PrintWords Go.Proofs.YtnaiccgbjcppaaaW.PrintLast Go.Proofs.YtnaiccgbjcppaaaW.PrintMore
open Go.Proofs.Ytnaiccgbjcppaaa.Hp
attribute [local go_sem] max2_int min2_int max_two min_two max_three min_three max_four min_four
set_option linter.unusedVariables false
set_option linter.unusedSimpArgs false
theorem nil_at (x : Int) (w : World) : Calls Try.prog 16 #[.pointer none, .int .u64 x] w fun e w' => e = .returned (.tuple #[.agg #[.int .u64 0, .int .u64 0, .int .i64 0], .bool false]) ∧ Fr (fun _ => False) w w' := by
  have HF := Lib.hid (((Fr.refl (fun _ => False) w).alloc (.cells #[.int .u64 x] 23)).alloc (.cells #[.int .u64 0, .int .u64 0, .int .i64 0] 36))
  have HRB := Lib.hid (Blk.new (w.alloc (.cells #[.int .u64 x] 23)) 36 #[.int .u64 0, .int .u64 0, .int .i64 0])
  have hsz : (w.alloc (.cells #[.int .u64 x] 23)).heap.size = w.heap.size + 1 := by simp
  rw [hsz] at HRB
  clear hsz
  go_enter Try.func16, Try.ntmps16
  go_wp2_with fail
  refine bodyPost_ret (results_ct rfl _ _ (w.heap.size + 1) 36 #[.int .u64 0, .int .u64 0, .int .i64 0] (0, 0) _ rfl ?_ Try.underlying36 rfl (by kernel_rfl)) rfl ?_
  · first | exact HRB.out | (have h3 := ((HRB.out.set 0 (.int .u64 0)).set 1 (.int .u64 0)).set 2 (.int .i64 0); simpa [Blk] using h3)
  · first | exact ⟨rfl, HF.out⟩ | exact ⟨rfl, ((HF.out.setCell (.inr (by simp)) _).setCell (.inr (by simp)) _).setCell (.inr (by simp)) _⟩
theorem nil_first (x y p : Int) (w : World) : Calls Try.prog 18 #[.pointer none, .int .u64 x, .int .u64 y, .int .i64 p] w fun e w' => e = .returned (.tuple #[.int .u64 0, .bool false]) ∧ Fr (fun _ => False) w w' := by
  go_enter Try.func18, Try.ntmps18
  go_wp2_with fail
  go_ret2
  exact ⟨rfl, Fr.refl _ _⟩
theorem nil_room (x y : Int) (w : World) : Calls Try.prog 11 #[.pointer none, .int .u64 x, .int .u64 y] w fun e w' => e = .returned (.tuple #[.int .u64 0, .bool false]) ∧ Fr (fun _ => False) w w' := by
  go_enter Try.func11, Try.ntmps11
  go_wp2_with fail
  go_ret2
  exact ⟨rfl, Fr.refl _ _⟩
theorem nil_map (x y p : Int) (w : World) : Calls Try.prog 22 #[.pointer none, .int .u64 x, .int .u64 y, .int .i64 p] w fun e w' => e = .returned (.int .i64 22) ∧ Fr (fun _ => False) w w' := by
  go_enter Try.func22, Try.ntmps22
  go_wp2_with fail
  go_ret
  exact ⟨rfl, Fr.refl _ _⟩
theorem nil_unmap (x y : Int) (w : World) : Calls Try.prog 29 #[.pointer none, .int .u64 x, .int .u64 y] w fun e w' => e = .returned (.int .i64 22) ∧ Fr (fun _ => False) w w' := by
  go_enter Try.func29, Try.ntmps29
  go_wp2_with fail
  go_ret
  exact ⟨rfl, Fr.refl _ _⟩
theorem nil_prot (x y p : Int) (w : World) : Calls Try.prog 24 #[.pointer none, .int .u64 x, .int .u64 y, .int .i64 p] w fun e w' => e = .returned (.int .i64 22) ∧ Fr (fun _ => False) w w' := by
  go_enter Try.func24, Try.ntmps24
  go_wp2_with fail
  go_ret
  exact ⟨rfl, Fr.refl _ _⟩
theorem nil_free (x y : Int) (w : World) : Calls Try.prog 13 #[.pointer none, .int .u64 x, .int .u64 y] w fun e w' => e = .returned (.bool false) ∧ Fr (fun _ => False) w w' := by
  go_enter Try.func13, Try.ntmps13
  go_wp2_with fail
  go_ret
  exact ⟨rfl, ((Fr.refl _ _).alloc _).alloc _⟩
theorem nil_all  (w : World) : Calls Try.prog 23 #[.pointer none] w fun e w' => e = .returned (.slice none 0 0) ∧ Fr (fun _ => False) w w' := by
  go_enter Try.func23, Try.ntmps23
  go_wp2_with fail
  go_ret
  exact ⟨rfl, Fr.refl _ _⟩
theorem nil_pages  (w : World) : Calls Try.prog 33 #[.pointer none] w fun e w' => e = .returned (.int .i64 0) ∧ Fr (fun _ => False) w w' := by
  go_enter Try.func33, Try.ntmps33
  go_wp2_with fail
  go_ret
  exact ⟨rfl, Fr.refl _ _⟩
theorem nil_copy  (w : World) : Calls Try.prog 34 #[.pointer none] w fun e w' => e = .returned (.pointer none) ∧ Fr (fun _ => False) w w' := by
  go_enter Try.func34, Try.ntmps34
  go_wp2_with fail
  go_ret
  exact ⟨rfl, Fr.refl _ _⟩
theorem pages_cover (l : List Rg) : ∀ s e : Int, Okl l → (∀ y, s ≤ y → y < e → lk l y ≠ none) → (e - s) / 4096 ≤ pagesI l := by
  induction l with
  | nil =>
    intro s e _ h
    rcases Int.lt_or_le s e with h1 | h1
    · exact absurd rfl (h s (Int.le_refl _) h1)
    · show (e - s) / 4096 ≤ 0
      omega
  | cons r t ih =>
    intro s e hl h
    have hp := pagesI_le t hl.tail.Val
    have hr := hl.head
    unfold gd at hr
    show (e - s) / 4096 ≤ (r.e - r.s) / 4096 + pagesI t
    rcases Int.lt_or_le s e with h1 | h1
    · have h2 : r.s ≤ s := by
        rcases Int.lt_or_le s r.s with h3 | h3
        · exact absurd (lk_low hl s h3) (h s (Int.le_refl _) h1)
        · exact h3
      rcases Int.lt_or_le s r.e with h3 | h3
      · have h4 := ih r.e e hl.tail (fun y hy1 hy2 hn => by
          have h5 := lk_tail hl y
          rw [hn, if_neg (by unfold inR; omega)] at h5
          exact h y (by omega) hy2 h5.symm)
        omega
      · have h4 := ih s e hl.tail (fun y hy1 hy2 hn => by
          have h5 := lk_tail hl y
          rw [hn, if_neg (by unfold inR; omega)] at h5
          exact h y hy1 hy2 h5.symm)
        omega
    · omega
def AtNo (w4 : World) (n : Nat) (v18 : Value) (v19 : Value) (kq : Nat) (wr : World) : Prop := ∃ (k : Nat) (xs : List Value), v19 = .int .i64 k ∧ k ≤ n ∧ n - k ≤ kq ∧ wr.ownsRow w4.heap.size 36 3 v18 n xs ∧ Below w4.heap.size w4 wr
set_option maxHeartbeats 4000000 in
set_option maxRecDepth 100000 in
theorem none_any (A : Option Addr) (c : Nat) (l : List Int) (a b : Int) (w : World) (hl : l.length ≤ 140737488351232) (hr : ReadsInt w .u8 A l.length l) (hb : ∀ y ∈ l, 0 ≤ y ∧ y ≤ 255) : Calls Try.prog 8 #[.slice A l.length c, .int .u64 a, .int .u64 b] w fun e w' => e = .returned (.bool true) ∧ Fr (fun _ => False) w w' := by
  have HL := Lib.hid hl
  have HR := Lib.hid hr
  have HB := Lib.hid hb
  obtain ⟨n, hnn⟩ : ∃ n, l.length = n := ⟨_, rfl⟩
  have HNN := Lib.hid hnn
  rw [hnn]
  clear hl hr hb hnn
  go_enter Try.func8, Try.ntmps8
  go_wp2_with fail
  have hbu := built_any A c l w HL.out HR.out HB.out
  rw [HNN.out] at hbu
  refine hbu.mono ?_
  rintro x w1 ⟨g, gm, L, P, rfl, hl1, hs1, hp1, hn1, _, hf1⟩
  have HL1 := Lib.hid hl1
  have HP1 := Lib.hid hp1
  have HN1 := Lib.hid hn1
  have HF1 := Lib.hid hf1
  clear hbu hl1 hs1 hp1 hn1 hf1
  go_wp2_with fail
  refine (nil_at a _).mono ?_
  rintro x w2 ⟨rfl, hf2⟩
  have HF2 := Lib.hid ((HF1.out.trans hf2 (fun _ _ => id)).alloc (.cells #[.int .u64 0, .int .u64 0, .int .i64 0] 36))
  have HL2 := Lib.hid ((HL1.out.fr hf2).fr ((Fr.refl (fun _ => False) _).alloc (.cells #[.int .u64 0, .int .u64 0, .int .i64 0] 36)))
  clear hf2
  go_wp2_with fail
  refine (nil_first a b 0 _).mono ?_
  rintro x wn0 ⟨rfl, hf⟩
  have HLn0 := Lib.hid (HL2.out.fr hf)
  have HFn0 := Lib.hid (HF2.out.trans hf (fun _ _ => id))
  clear hf
  go_wp2_with fail
  refine (nil_room a b _).mono ?_
  rintro x wn1 ⟨rfl, hf⟩
  have HLn1 := Lib.hid (HLn0.out.fr hf)
  have HFn1 := Lib.hid (HFn0.out.trans hf (fun _ _ => id))
  clear hf
  go_wp2_with fail
  refine (answers_any _).mono ?_
  rintro x wn2 ⟨rfl, hf⟩
  have HLn2 := Lib.hid (HLn1.out.fr hf)
  have HFn2 := Lib.hid (HFn1.out.trans hf (fun _ _ => id))
  clear hf
  go_wp2_with fail
  refine (nil_map 0 4096 1 _).mono ?_
  rintro x wn3 ⟨rfl, hf⟩
  have HLn3 := Lib.hid (HLn2.out.fr hf)
  have HFn3 := Lib.hid (HFn2.out.trans hf (fun _ _ => id))
  clear hf
  go_wp2_with fail
  refine (nil_unmap 0 4096 _).mono ?_
  rintro x wn4 ⟨rfl, hf⟩
  have HLn4 := Lib.hid (HLn3.out.fr hf)
  have HFn4 := Lib.hid (HFn3.out.trans hf (fun _ _ => id))
  clear hf
  go_wp2_with fail
  refine (nil_prot 0 4096 1 _).mono ?_
  rintro x wn5 ⟨rfl, hf⟩
  have HLn5 := Lib.hid (HLn4.out.fr hf)
  have HFn5 := Lib.hid (HFn4.out.trans hf (fun _ _ => id))
  clear hf
  go_wp2_with fail
  refine (nil_free 0 4096 _).mono ?_
  rintro x wn6 ⟨rfl, hf⟩
  have HLn6 := Lib.hid (HLn5.out.fr hf)
  have HFn6 := Lib.hid (HFn5.out.trans hf (fun _ _ => id))
  clear hf
  go_wp2_with fail
  refine (nil_all _).mono ?_
  rintro x wn7 ⟨rfl, hf⟩
  have HLn7 := Lib.hid (HLn6.out.fr hf)
  have HFn7 := Lib.hid (HFn6.out.trans hf (fun _ _ => id))
  clear hf
  go_wp2_with fail
  refine (nil_pages _).mono ?_
  rintro x wn8 ⟨rfl, hf⟩
  have HLn8 := Lib.hid (HLn7.out.fr hf)
  have HFn8 := Lib.hid (HFn7.out.trans hf (fun _ _ => id))
  clear hf
  go_wp2_with fail
  refine (nil_copy _).mono ?_
  rintro x wn9 ⟨rfl, hf⟩
  have HLZ := Lib.hid (HLn8.out.fr hf)
  have HFZ := Lib.hid (HFn8.out.trans hf (fun _ _ => id))
  clear hf
  go_wp2_with fail
  refine (all_any _ g L _ HLZ.out (by have := HP1.out.len; have := HN1.out; omega)).mono ?_
  rintro x w4 ⟨v4, rfl, ho4, hf4⟩
  have HO4 := Lib.hid ho4
  obtain ⟨A4, c4, rfl, hc4, hA4⟩ := ho4.form
  obtain ⟨nl, hnl⟩ : ∃ nl, L.length = nl := ⟨_, rfl⟩
  have HNL := Lib.hid hnl
  have hnl2 : nl ≤ 60 := by have := HP1.out.len; have := HN1.out; omega
  rw [hnl] at HO4 hc4 hA4 ⊢
  have HL4 := Lib.hid (HLZ.out.fr hf4)
  have HF4 := Lib.hid (HFZ.out.trans hf4 (fun _ _ => id))
  clear ho4 hf4 hnl
  go_wp2_with fail
  refine (copy_any _ g L _ HL4.out (by have := HP1.out.len; have := HN1.out; omega)).mono ?_
  rintro x w5 ⟨gc, rfl, hlc, hf5⟩
  have HC5 := Lib.hid hlc
  have HL5 := Lib.hid (HL4.out.fr hf5)
  have HO5 := Lib.hid (HO4.out.fr hf5 (fun _ _ => id))
  have HF5 := Lib.hid (HF4.out.trans hf5 (fun _ _ => id))
  have HSZ4 := Lib.hid (And.intro hf5.size (own_lt HO4.out))
  clear hlc hf5
  go_wp2_with fail
  have hmf := map_fits HP1.out.cl (show mapB 0 409600 3 = true from by kernel_rfl) (by omega) (by have := HP1.out.len; have := HN1.out; omega)
  refine (map_any _ gc L 0 409600 3 (by omega) (by omega) _ HC5.out (by have := HP1.out.len; have := HN1.out; omega)).mono ?_
  rintro x w6 ⟨rfl, hl6, hf6⟩
  rw [hmf.1]
  obtain ⟨L6, hL6⟩ : ∃ L6, mapL L 0 409600 3 = L6 := ⟨_, rfl⟩
  rw [hL6] at hmf hl6
  have HM6 := Lib.hid (show Cl L6 ∧ L6.length ≤ 1000 ∧ 100 ≤ pagesI L6 from ⟨hmf.2.1, by have := hmf.2.2.2; have := HP1.out.len; have := HN1.out; omega, pages_cover L6 0 409600 hmf.2.1.ok (fun y hy1 hy2 => by rw [hmf.2.2.1 y, if_pos ⟨hy1, hy2⟩]; simp)⟩)
  have HGC := Lib.hid HC5.out.gb
  have HC6 := Lib.hid hl6
  have HL6 := Lib.hid (show Lst w6 w.heap.size g L from by
    obtain ⟨v, hb, ho⟩ := HL5.out.row
    obtain ⟨v2, hb2, _⟩ := HL4.out.row
    have h1 := HGC.out
    have h2 := hb2.lt
    refine ⟨⟨v, hb.fr hf6 (by omega), ho.fr hf6 (fun k hk e => ?_)⟩, HL5.out.gb⟩
    obtain ⟨v7, hb7, _⟩ := HC5.out.row
    exact ownR_ne ho hb7 (by decide) k hk e)
  have HO6 := Lib.hid (HO5.out.fr hf6 (fun k hk e => by have := HSZ4.out.2 k hk; have := HGC.out; omega))
  have HF6 := Lib.hid (HF5.out.trans hf6 (fun i hi e => by have := HGC.out; have := HF4.out.size; omega))
  clear hmf hl6 hf6 hL6
  go_wp2_with fail
  refine (all_any _ g L _ HL6.out (by have := HP1.out.len; have := HN1.out; omega)).mono ?_
  rintro x w7 ⟨v7, rfl, ho7, hf7⟩
  have HO7 := Lib.hid ho7
  obtain ⟨A7, c7, rfl, hc7, hA7⟩ := ho7.form
  rw [HNL.out] at HO7 hc7 hA7 ⊢
  have HO7n := Lib.hid (show w7.ownsRow w6.heap.size 36 3 (.slice A7 nl c7) nl (rcs L) from by have h := HO7.out; unfold OwnR at h; rw [HNL.out] at h; exact h)
  have HL7 := Lib.hid (HL6.out.fr hf7)
  have HC7 := Lib.hid (HC6.out.fr hf7)
  have HO67 := Lib.hid (HO6.out.fr hf7 (fun _ _ => id))
  have HF7 := Lib.hid (HF6.out.trans hf7 (fun _ _ => id))
  have HF67 := Lib.hid hf7
  have HA7 := Lib.hid hA7
  clear ho7 hf7 hA7
  go_wp2_with fail
  go_loopg [19] nl (fun kq v19 wr => Hid (AtNo w6 nl (.slice A7 nl c7) v19 kq wr))
  case atStart => exact Lib.hid ⟨0, _, rfl, by omega, by omega, HO7n.out, Fr.below (Below.refl _ _) HF67.out (fun _ _ => id)⟩
  case round =>
    obtain ⟨k, xs, rfl, hk1, hk2, ho, hb⟩ := hrel.out
    have HO := Lib.hid ho
    have HBW := Lib.hid hb
    clear hrel ho hb
    by_cases hk : k < nl
    · have u1 : decide ((k : Int) < (nl : Int)) = true := decide_eq_true (by omega)
      have u1' : decide (k < nl) = true := decide_eq_true hk
      have j0 : (0 : Int) ≤ (k : Int) := by omega
      have j1 : (k : Int) < (nl : Int) := by omega
      obtain ⟨g7, rfl⟩ := HA7.out (by omega)
      obtain ⟨u2, hu2⟩ : ∃ u, xs[k * 3 + 2]? = some u := by
        have hxl : k * 3 + 2 < xs.length := by have := HO.out.1; omega
        exact ⟨_, List.getElem?_eq_getElem hxl⟩
      have y2 := HO.out.cells (g := g7) rfl (k * 3 + 2) u2 hu2
      rw [add_plain] at y2
      have f2 := World.ownsRow.frozenAt HO.out (k * 3 + 2)
      have HST := Lib.hid (World.ownsRow.stored HO.out (k * 3 + 2) (.int .i64 9))
      have HBS := Lib.hid (Fr.below HBW.out ((Fr.refl (fun k => k = g7) wr).setCell (p := ⟨g7, k * 3 + 2, none⟩) (.inl rfl) (.int .i64 9)) (fun i hi e => by have e1 := own_ge HO.out g7 rfl; omega))
      clear hu2
      go_wp2_with fail
      go_roundg (nl - (k + 1))
      case measure => omega
      case rel => exact Lib.hid ⟨k + 1, _, by go_num, by omega, by omega, HST.out.1, HBS.out⟩
    · obtain rfl : k = nl := by omega
      have u1 : decide ((k : Int) < (k : Int)) = false := decide_eq_false (by omega)
      have HFW := Lib.hid (Fr.of_below (S := fun _ => False) HBW.out |>.mono (fun _ _ h => h))
      have HLW := Lib.hid (HL6.out.fr HFW.out)
      have HCW := Lib.hid (HC6.out.fr HFW.out)
      have HOW := Lib.hid (HO6.out.fr HFW.out (fun _ _ => id))
      have HFX := Lib.hid (HF6.out.trans HFW.out (fun _ _ => id))
      go_wp2_with fail
      refine (all_any _ g L _ HLW.out (by have := HP1.out.len; have := HN1.out; omega)).mono ?_
      rintro x w8 ⟨v8, rfl, ho8, hf8⟩
      have HO8 := Lib.hid ho8
      obtain ⟨A8, c8, rfl, _, _⟩ := ho8.form
      rw [HNL.out] at HO8 ⊢
      have HOW8 := Lib.hid (HOW.out.fr hf8 (fun _ _ => id))
      have HC8 := Lib.hid (HCW.out.fr hf8)
      have HF8 := Lib.hid (HFX.out.trans hf8 (fun _ _ => id))
      clear ho8 hf8
      go_wp2_with fail
      refine (same_any _ _ L _ _ _ HO8.out HOW8.out (by have := HP1.out.len; have := HN1.out; omega)).mono ?_
      rintro x w9 ⟨rfl, hf9⟩
      have HC9 := Lib.hid (HC8.out.fr hf9)
      have HF9 := Lib.hid (HF8.out.trans hf9 (fun _ _ => id))
      clear hf9
      go_wp2_with fail
      refine (pages_any _ gc L6 _ HC9.out (by have := HM6.out.2.1; omega) HM6.out.1.ok.Val).mono ?_
      rintro x w10 ⟨rfl, hf10⟩
      have HF10 := Lib.hid (HF9.out.trans hf10 (fun _ _ => id))
      obtain ⟨pg, hpg⟩ : ∃ pg, pagesI L6 = pg := ⟨_, rfl⟩
      have hpg2 : 100 ≤ pg := by have := HM6.out.2.2; omega
      rw [hpg]
      have c9 : decide ((100 : Int) ≤ pg) = true := decide_eq_true hpg2
      clear hf10 hpg
      go_wp2_with fail
      go_ret
      exact ⟨rfl, HF10.out⟩
theorem none_walk (a0 : Option Addr) (len0 cap0 : Nat) (z0 : List Int) (a1 a2 : Int) (W : World) (w0 : (a0 = none ∧ len0 = 0 ∧ cap0 = 0 ∧ z0 = []) ∨ ∃ x, a0 = some x ∧ len0 ≤ cap0 ∧ cap0 ≤ maxLen ∧ z0.length = cap0 ∧ (∀ i, i < z0.length → W.cell? (x.add i) = some (.int .u8 (z0.getD i 0))) ∧ ∀ n ∈ z0, (Lit.int .u8 n).wf = true)
    (hz : len0 * 1 ≤ 140737488351232) (w1 : (Lit.int .u64 a1).wf = true) (w2 : (Lit.int .u64 a2).wf = true) : Calls Try.prog 8 #[.slice a0 len0 cap0, .int .u64 a1, .int .u64 a2] W fun e W' => e = .returned (.bool true) ∧ Below W.heap.size W W' := by
  obtain ⟨l0, rfl, hr0, hm0, hw0, hc0⟩ := ReadsInt.ofRowC w0
  exact (none_any a0 cap0 l0 a1 a2 W (by omega) hr0 (fun y hy => Go.bounds_u8 (hw0 y hy))).mono fun _ _ g => ⟨g.1, Fr.below (Below.refl _ _) g.2 (fun _ _ => id)⟩
end Go.Proofs.Ytnaiccgbjcppaaa.Rg
