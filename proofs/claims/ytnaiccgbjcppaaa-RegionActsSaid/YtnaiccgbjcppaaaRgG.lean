/- region.with, Map, Unmap: walked. -/
import Derived.Test.YtnaiccgbjcppaaaRgF
namespace Go.Proofs.Ytnaiccgbjcppaaa.Rg
open Go Go.RowKit Go.Proofs.YtnaiccgbjcppaaaW.PrintWords Go.Proofs.YtnaiccgbjcppaaaW.PrintLast Go.Proofs.YtnaiccgbjcppaaaW.PrintMore
open Go.Proofs.Ytnaiccgbjcppaaa.Hp
attribute [local go_sem] max2_int min2_int max_two min_two max_three min_three max_four min_four
set_option linter.unusedVariables false
set_option linter.unusedSimpArgs false
/-- A region is laid in its place: ahead of the first that begins later. -/
def insS (r : Rg) : List Rg → List Rg
  | [] => [r]
  | x :: t => if r.s < x.s then r :: x :: t else x :: insS r t
def withL (l : List Rg) (r : Rg) : List Rg := insS r (withoutL r.s r.e l)
theorem insS_len (r : Rg) (l : List Rg) : (insS r l).length = l.length + 1 := by
  induction l with
  | nil => rfl
  | cons x t ih =>
    unfold insS
    split
    · rfl
    · simp only [List.length_cons, ih]
theorem idxL_spec (p : Rg → Bool) (l : List Rg) : ∀ i, (idxL p l i = -1 ∧ ∀ x ∈ l, p x = false) ∨ ∃ k, k < l.length ∧ idxL p l i = ((i + k : Nat) : Int) ∧ p (rgAt l k) = true ∧ ∀ j, j < k → p (rgAt l j) = false := by
  induction l with
  | nil => intro i; exact .inl ⟨rfl, fun x hx => by cases hx⟩
  | cons r t ih =>
    intro i
    unfold idxL
    by_cases h : p r = true
    · rw [if_pos h]
      exact .inr ⟨0, by simp, rfl, h, fun j hj => absurd hj (by omega)⟩
    · rw [if_neg h]
      have h' : p r = false := by simpa using h
      rcases ih (i + 1) with ⟨e, hno⟩ | ⟨k, hk, e, hp, hno⟩
      · refine .inl ⟨e, fun x hx => ?_⟩
        rcases List.mem_cons.1 hx with rfl | hx
        · exact h'
        · exact hno x hx
      · refine .inr ⟨k + 1, by simpa using hk, by rw [e]; congr 1; omega, hp, fun j hj => ?_⟩
        cases j with
        | zero => exact h'
        | succ j => exact hno j (by omega)
theorem insS_end (r : Rg) (l : List Rg) (h : ∀ x ∈ l, decide (r.s < x.s) = false) : insL l l.length r = insS r l := by
  unfold insL
  rw [List.take_length, List.drop_length]
  induction l with
  | nil => rfl
  | cons x t ih =>
    have h0 := of_decide_eq_false (h x (by simp))
    unfold insS
    rw [if_neg h0, ← ih (fun y hy => h y (by simp [hy]))]
    rfl
theorem insS_at (r : Rg) (l : List Rg) : ∀ k, k < l.length → decide (r.s < (rgAt l k).s) = true → (∀ j, j < k → decide (r.s < (rgAt l j).s) = false) → insL l k r = insS r l := by
  induction l with
  | nil => intro k hk; simp at hk
  | cons x t ih =>
    intro k hk hp hno
    cases k with
    | zero =>
      have h0 : r.s < x.s := of_decide_eq_true hp
      unfold insS
      rw [if_pos h0]
      rfl
    | succ k =>
      have h0 : ¬ r.s < x.s := of_decide_eq_false (hno 0 (by omega))
      unfold insS
      rw [if_neg h0, ← ih k (by simpa using hk) hp (fun j hj => hno (j + 1) (by omega))]
      rfl
set_option maxHeartbeats 2000000 in
theorem with_any (B : Nat) (v : Value) (l : List Rg) (r : Rg) (w : World) (h : OwnR w B v l) (hn : l.length ≤ 1000) : Calls Try.prog 44 #[v, .agg (rc r).toArray] w fun e w' => ∃ v', e = .returned v' ∧ OwnR w' w.heap.size v' (withL l r) ∧ Fr (fun _ => False) w w' := by
  obtain ⟨s, e, p⟩ := r
  have H := Lib.hid h
  have HN := Lib.hid hn
  obtain ⟨A, c, rfl, _, _⟩ := h.form
  clear h hn
  show Calls Try.prog 44 #[_, .agg #[.int .u64 s, .int .u64 e, .int .i64 p]] w _
  have HX := Lib.hid (Blk.new w 36 #[.int .u64 s, .int .u64 e, .int .i64 p])
  have HFX := Lib.hid ((Fr.refl (fun _ => False) w).alloc (.cells #[.int .u64 s, .int .u64 e, .int .i64 p] 36))
  go_enter Try.func44, Try.ntmps44
  go_wp2_with fail
  refine (without_any _ l s e B _ (H.out.fr HFX.out (fun _ _ => id)) HN.out).mono ?_
  rintro x w1 ⟨v1, rfl, ho1, hb1⟩
  have hle := withoutL_len s e l
  obtain ⟨o1, ho⟩ : ∃ o1, withoutL s e l = o1 := ⟨_, rfl⟩
  rw [ho] at ho1 hle
  obtain ⟨A1, c1, rfl, _, _⟩ := ho1.form
  have HO := Lib.hid ho
  have HO1 := Lib.hid ho1
  have HF1 := Lib.hid (Fr.of_below (S := fun _ => False) hb1)
  have HX1 := Lib.hid (HX.out.fr HF1.out id)
  have HLE := Lib.hid (show o1.length ≤ 2000 from by have := HN.out; omega)
  clear ho1 hb1 ho hle
  go_wp2_with fail
  refine (index_with _ o1 _ (fun x => decide (s < x.s)) _ _ HO1.out (by have := HLE.out; omega) (pred_with _ _ s _ HX1.out rfl)).mono ?_
  rintro x w2 ⟨rfl, hf2⟩
  have HF2 := Lib.hid hf2
  have HO2 := Lib.hid (HO1.out.fr hf2 (fun _ _ => id))
  have HX2 := Lib.hid (HX1.out.fr hf2 id)
  have hFall := ((HFX.out.trans HF1.out (fun _ _ => id)).trans hf2 (fun _ _ => id))
  have HFA := Lib.hid hFall
  have k0 := hFall.size
  have q0 := HX2.out.cell 0
  have q1 := HX2.out.cell 1
  have q2 := HX2.out.cell 2
  simp at q0 q1 q2
  have HSP := Lib.hid (idxL_spec (fun x => decide (s < x.s)) o1 0)
  clear hf2 hFall
  rcases HSP.out with ⟨he, hno⟩ | ⟨k, hk, he, hp, hno⟩
  · have HR := Lib.hid (show withL l ⟨s, e, p⟩ = insL o1 o1.length ⟨s, e, p⟩ from by
      unfold withL
      rw [HO.out]
      exact (insS_end ⟨s, e, p⟩ o1 hno).symm)
    rw [he]
    clear he hno HSP
    go_wp2_with fail
    have HX3 := Lib.hid (Blk.new w2 36 #[.int .u64 s, .int .u64 e, .int .i64 p])
    have HO2L : OwnR w2 w.heap.size (.slice A1 o1.length c1) o1 := OwnR.low HO2.out (by simp)
    have hlt := own_lt HO2.out
    refine (insert_any w.heap.size (.slice A1 o1.length c1) o1 (o1.length) ⟨s, e, p⟩ w2.heap.size _ (HO2L.fr ((Fr.refl (fun _ => False) w2).alloc (.cells #[.int .u64 s, .int .u64 e, .int .i64 p] 36)) (fun _ _ => id)) (Nat.le_refl _) (by have := HLE.out; omega) (Nat.le_trans (by simpa using HFA.out.size) (by simp)) HX3.out (fun j hj => by have := hlt j hj; omega)).mono ?_
    rintro x w3 ⟨v3, rfl, ho3, hf3⟩
    obtain ⟨A3, c3, rfl, _, _⟩ := ho3.form
    go_wp2_with fail
    go_ret
    rw [HR.out]
    refine ⟨_, rfl, ho3, ?_⟩
    have hge := own_ge HO2L
    exact (HFA.out.trans (((Fr.refl (fun k => (Value.slice A1 o1.length c1).ownBlock = some k) w2).alloc _).trans hf3 (fun _ _ h => h)) (fun j hj hs => by
      have := hge j hs
      omega))
  · have HR := Lib.hid (show withL l ⟨s, e, p⟩ = insL o1 k ⟨s, e, p⟩ from by
      unfold withL
      rw [HO.out]
      exact (insS_at ⟨s, e, p⟩ o1 k hk hp hno).symm)
    have he2 : idxL (fun x => decide (s < x.s)) o1 0 = (k : Int) := by rw [he]; congr 1; omega
    rw [he2]
    have b1 : decide ((k : Int) < 0) = false := decide_eq_false (by omega)
    have HK := Lib.hid hk
    clear he he2 hno hp hk HSP
    go_wp2_with fail
    have HX3 := Lib.hid (Blk.new w2 36 #[.int .u64 s, .int .u64 e, .int .i64 p])
    have HO2L : OwnR w2 w.heap.size (.slice A1 o1.length c1) o1 := OwnR.low HO2.out (by simp)
    have hlt := own_lt HO2.out
    refine (insert_any w.heap.size (.slice A1 o1.length c1) o1 (k) ⟨s, e, p⟩ w2.heap.size _ (HO2L.fr ((Fr.refl (fun _ => False) w2).alloc (.cells #[.int .u64 s, .int .u64 e, .int .i64 p] 36)) (fun _ _ => id)) (Nat.le_of_lt HK.out) (by have := HLE.out; omega) (Nat.le_trans (by simpa using HFA.out.size) (by simp)) HX3.out (fun j hj => by have := hlt j hj; omega)).mono ?_
    rintro x w3 ⟨v3, rfl, ho3, hf3⟩
    obtain ⟨A3, c3, rfl, _, _⟩ := ho3.form
    go_wp2_with fail
    go_ret
    rw [HR.out]
    refine ⟨_, rfl, ho3, ?_⟩
    have hge := own_ge HO2L
    exact (HFA.out.trans (((Fr.refl (fun k => (Value.slice A1 o1.length c1).ownBlock = some k) w2).alloc _).trans hf3 (fun _ _ h => h)) (fun j hj hs => by
      have := hge j hs
      omega))
def mapB (s e p : Int) : Bool := spanB s e && protsB p
def mapE (l : List Rg) (s e p : Int) : Int := if mapB s e p = true then takeE (withL l ⟨s, e, p⟩) else 22
def mapL (l : List Rg) (s e p : Int) : List Rg := if mapB s e p = true then takeL l (withL l ⟨s, e, p⟩) else l
theorem withL_len (l : List Rg) (r : Rg) : (withL l r).length ≤ 2 * l.length + 1 := by
  unfold withL
  rw [insS_len]
  have := withoutL_len r.s r.e l
  omega
set_option maxHeartbeats 2000000 in
theorem map_any (B g : Nat) (l : List Rg) (s e p : Int) (hs : 0 ≤ s ∧ s < 18446744073709551616) (he : 0 ≤ e ∧ e < 18446744073709551616) (w : World) (h : Lst w B g l) (hn : l.length ≤ 1000) : Calls Try.prog 22 #[.pointer (some ⟨g, 0, none⟩), .int .u64 s, .int .u64 e, .int .i64 p] w fun x w' => x = .returned (.int .i64 (mapE l s e p)) ∧ Lst w' B g (mapL l s e p) ∧ Fr (fun k => k = g) w w' := by
  have H := Lib.hid h
  have HN := Lib.hid hn
  clear h hn
  go_enter Try.func22, Try.ntmps22
  go_wp2_with fail
  refine (span_any s e hs he _).mono ?_
  rintro x w1 ⟨rfl, hf1⟩
  have HF1 := Lib.hid hf1
  clear hf1
  cases hsp : spanB s e with
  | false =>
    have HE := Lib.hid (show mapE l s e p = 22 ∧ mapL l s e p = l from by simp [mapE, mapL, mapB, hsp])
    clear hsp
    go_wp2_with fail
    go_ret
    rw [HE.out.1, HE.out.2]
    exact ⟨rfl, H.out.fr HF1.out, HF1.out.mono (fun _ _ h => h.elim)⟩
  | true =>
    go_wp2_with fail
    refine (prots_any p _).mono ?_
    rintro x w2 ⟨rfl, hf2⟩
    have HF2 := Lib.hid (HF1.out.trans hf2 (fun _ _ => id))
    clear hf2
    cases hpr : protsB p with
    | false =>
      have HE := Lib.hid (show mapE l s e p = 22 ∧ mapL l s e p = l from by simp [mapE, mapL, mapB, hsp, hpr])
      clear hsp hpr
      go_wp2_with fail
      go_ret
      rw [HE.out.1, HE.out.2]
      exact ⟨rfl, H.out.fr HF2.out, HF2.out.mono (fun _ _ h => h.elim)⟩
    | true =>
      have HE := Lib.hid (show mapE l s e p = takeE (withL l ⟨s, e, p⟩) ∧ mapL l s e p = takeL l (withL l ⟨s, e, p⟩) from by simp [mapE, mapL, mapB, hsp, hpr])
      clear hsp hpr
      have hl2 := H.out.fr HF2.out
      have HL2 := Lib.hid hl2
      obtain ⟨v0, hb0, hr0⟩ := hl2.row
      obtain ⟨A, c, rfl, _, _⟩ := hr0.form
      have HR0 := Lib.hid hr0
      have k0 := hb0.cell 0
      simp at k0
      clear hb0 hr0 hl2
      go_wp2_with fail
      refine (with_any B _ l ⟨s, e, p⟩ _ HR0.out HN.out).mono ?_
      rintro x w3 ⟨v3, rfl, ho3, hf3⟩
      have HO3 := Lib.hid ho3
      have HF3 := Lib.hid hf3
      clear ho3 hf3 k0
      obtain ⟨A3, c3, rfl, _, _⟩ := HO3.out.form
      obtain ⟨o3, ho3⟩ : ∃ o3, withL l ⟨s, e, p⟩ = o3 := ⟨_, rfl⟩
      have HLE := Lib.hid (show o3.length ≤ 5000 from by rw [← ho3]; have := withL_len l ⟨s, e, p⟩; have := HN.out; omega)
      rw [ho3] at HE HO3 ⊢
      clear ho3
      go_wp2_with fail
      refine (take_any B g l o3 _ _ (HL2.out.fr HF3.out) _ HO3.out HLE.out).mono ?_
      rintro x w4 ⟨rfl, hl4, hf4⟩
      have HL4 := Lib.hid hl4
      have HF4 := Lib.hid hf4
      clear hl4 hf4
      go_wp2_with fail
      go_ret
      rw [HE.out.1, HE.out.2]
      exact ⟨rfl, HL4.out, ((HF2.out.trans HF3.out (fun _ _ => id)).mono (T := fun k => k = g) (fun _ _ h => h.elim)).trans HF4.out (fun _ _ => id)⟩
def unE (l : List Rg) (s e : Int) : Int := if spanB s e = true then takeE (withoutL s e l) else 22
def unL (l : List Rg) (s e : Int) : List Rg := if spanB s e = true then takeL l (withoutL s e l) else l
set_option maxHeartbeats 2000000 in
theorem unmap_any (B g : Nat) (l : List Rg) (s e : Int) (hs : 0 ≤ s ∧ s < 18446744073709551616) (he : 0 ≤ e ∧ e < 18446744073709551616) (w : World) (h : Lst w B g l) (hn : l.length ≤ 1000) : Calls Try.prog 29 #[.pointer (some ⟨g, 0, none⟩), .int .u64 s, .int .u64 e] w fun x w' => x = .returned (.int .i64 (unE l s e)) ∧ Lst w' B g (unL l s e) ∧ Fr (fun k => k = g) w w' := by
  have H := Lib.hid h
  have HN := Lib.hid hn
  clear h hn
  go_enter Try.func29, Try.ntmps29
  go_wp2_with fail
  refine (span_any s e hs he _).mono ?_
  rintro x w1 ⟨rfl, hf1⟩
  have HF1 := Lib.hid hf1
  clear hf1
  cases hsp : spanB s e with
  | false =>
    have HE := Lib.hid (show unE l s e = 22 ∧ unL l s e = l from by simp [unE, unL, hsp])
    clear hsp
    go_wp2_with fail
    go_ret
    rw [HE.out.1, HE.out.2]
    exact ⟨rfl, H.out.fr HF1.out, HF1.out.mono (fun _ _ h => h.elim)⟩
  | true =>
    have HE := Lib.hid (show unE l s e = takeE (withoutL s e l) ∧ unL l s e = takeL l (withoutL s e l) from by simp [unE, unL, hsp])
    clear hsp
    have hl2 := H.out.fr HF1.out
    have HL2 := Lib.hid hl2
    obtain ⟨v0, hb0, hr0⟩ := hl2.row
    obtain ⟨A, c, rfl, _, _⟩ := hr0.form
    have HR0 := Lib.hid hr0
    have k0 := hb0.cell 0
    simp at k0
    clear hb0 hr0 hl2
    go_wp2_with fail
    refine (without_any _ l s e B _ HR0.out HN.out).mono ?_
    rintro x w3 ⟨v3, rfl, ho3, hb3⟩
    have HO3 := Lib.hid ho3
    have HF3 := Lib.hid (Fr.of_below (S := fun _ => False) hb3)
    clear ho3 hb3 k0
    obtain ⟨A3, c3, rfl, _, _⟩ := HO3.out.form
    obtain ⟨o3, ho3⟩ : ∃ o3, withoutL s e l = o3 := ⟨_, rfl⟩
    have HLE := Lib.hid (show o3.length ≤ 5000 from by rw [← ho3]; have := withoutL_len s e l; have := HN.out; omega)
    rw [ho3] at HE HO3 ⊢
    clear ho3
    go_wp2_with fail
    refine (take_any B g l o3 _ _ (HL2.out.fr HF3.out) _ HO3.out HLE.out).mono ?_
    rintro x w4 ⟨rfl, hl4, hf4⟩
    have HL4 := Lib.hid hl4
    have HF4 := Lib.hid hf4
    clear hl4 hf4
    go_wp2_with fail
    go_ret
    rw [HE.out.1, HE.out.2]
    exact ⟨rfl, HL4.out, ((HF1.out.trans HF3.out (fun _ _ => id)).mono (T := fun k => k = g) (fun _ _ h => h.elim)).trans HF4.out (fun _ _ => id)⟩
end Go.Proofs.Ytnaiccgbjcppaaa.Rg
