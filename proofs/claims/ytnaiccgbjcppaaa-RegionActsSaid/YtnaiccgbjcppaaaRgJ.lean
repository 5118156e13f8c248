/- Regions as a function from places to permissions: plain laws, no program. -/
import Derived.Test.YtnaiccgbjcppaaaRgI
namespace Go.Proofs.Ytnaiccgbjcppaaa.Rg
open Go Go.RowKit Go.Proofs.YtnaiccgbjcppaaaW.PrintWords Go.Proofs.YtnaiccgbjcppaaaW.PrintLast Go.Proofs.YtnaiccgbjcppaaaW.PrintMore
open Go.Proofs.Ytnaiccgbjcppaaa.Hp
attribute [local go_sem] max2_int min2_int max_two min_two max_three min_three max_four min_four
set_option linter.unusedVariables false
set_option linter.unusedSimpArgs false
/-- The permissions at a place. -/
def lk (l : List Rg) (y : Int) : Option Int := (l.find? (atP y)).map (·.p)
abbrev inR (y : Int) (r : Rg) : Prop := r.s ≤ y ∧ y < r.e
theorem lk_nil (y : Int) : lk [] y = none := rfl
theorem lk_cons (r : Rg) (t : List Rg) (y : Int) : lk (r :: t) y = if inR y r then some r.p else lk t y := by
  unfold lk inR
  by_cases h : r.s ≤ y ∧ y < r.e
  · rw [List.find?_cons_of_pos (by simp [atP, h.1, h.2]), if_pos h]
    rfl
  · rw [List.find?_cons_of_neg (by simp only [atP, Bool.and_eq_true, decide_eq_true_eq]; exact h), if_neg h]
theorem lk_none (l : List Rg) (y : Int) (h : ∀ r ∈ l, ¬ inR y r) : lk l y = none := by
  induction l with
  | nil => rfl
  | cons r t ih => rw [lk_cons, if_neg (h r (by simp)), ih (fun x hx => h x (by simp [hx]))]
theorem lk_ex (l : List Rg) (y p : Int) (h : lk l y = some p) : ∃ r ∈ l, inR y r ∧ r.p = p := by
  induction l with
  | nil => cases h
  | cons r t ih =>
    rw [lk_cons] at h
    by_cases hr : inR y r
    · rw [if_pos hr] at h
      injection h with h
      exact ⟨r, by simp, hr, h⟩
    · rw [if_neg hr] at h
      obtain ⟨x, hx, h1, h2⟩ := ih h
      exact ⟨x, by simp [hx], h1, h2⟩
theorem lk_app (l t : List Rg) (y : Int) : lk (l ++ t) y = (lk l y).or (lk t y) := by
  unfold lk
  rw [List.find?_append]
  cases List.find? (atP y) l <;> rfl
def gd (r : Rg) : Prop := 0 ≤ r.s ∧ r.s < r.e ∧ r.e ≤ 274877906944 ∧ r.s % 4096 = 0 ∧ r.e % 4096 = 0
structure Okl (l : List Rg) : Prop where
  val : ∀ r ∈ l, gd r
  srt : l.Pairwise (fun a b => a.e ≤ b.s)
def Can (l : List Rg) : Prop := l.Pairwise (fun a b => a.e = b.s → a.p ≠ b.p)
theorem Okl.nil : Okl [] := ⟨fun _ h => (by cases h), List.Pairwise.nil⟩
theorem Can.nil : Can [] := List.Pairwise.nil
theorem Okl.tail {r : Rg} {t : List Rg} (h : Okl (r :: t)) : Okl t := ⟨fun x hx => h.val x (by simp [hx]), (List.pairwise_cons.1 h.srt).2⟩
theorem Okl.head {r : Rg} {t : List Rg} (h : Okl (r :: t)) : gd r := h.val r (by simp)
theorem Okl.lt {r : Rg} {t : List Rg} (h : Okl (r :: t)) : ∀ x ∈ t, r.e ≤ x.s := (List.pairwise_cons.1 h.srt).1
theorem Okl.Val {l : List Rg} (h : Okl l) : Val l := fun r hr => by
  have := h.val r hr
  unfold gd at this
  omega
theorem lk_mem {l : List Rg} (h : Okl l) {r : Rg} (hr : r ∈ l) {y : Int} (hy : inR y r) : lk l y = some r.p := by
  induction l with
  | nil => cases hr
  | cons x t ih =>
    rw [lk_cons]
    rcases List.mem_cons.1 hr with rfl | hr
    · rw [if_pos hy]
    · have h1 := h.lt r hr
      have h2 := h.tail.val r hr
      have hn : ¬ inR y x := by unfold inR at *; omega
      rw [if_neg hn]
      exact ih h.tail hr
/-! ### without -/
theorem lk_cut (a b : Int) (hab : a < b) (r : Rg) (hr : gd r) (y : Int) : lk (cutR a b r) y = if a ≤ y ∧ y < b then none else lk [r] y := by
  obtain ⟨s, e, p⟩ := r
  unfold cutR gd at *
  simp only at *
  by_cases h1 : e ≤ a ∨ b ≤ s
  · rw [if_pos h1]
    by_cases h2 : a ≤ y ∧ y < b
    · rw [if_pos h2]
      exact lk_none _ _ (fun x hx => by
        obtain rfl := List.mem_singleton.1 hx
        unfold inR
        simp only
        omega)
    · rw [if_neg h2]
  · rw [if_neg h1]
    have e1 : ∀ u : Int, (if s < a then [(⟨s, a, p⟩ : Rg)] else []) = (if s < a then [(⟨s, a, p⟩ : Rg)] else []) := fun _ => rfl
    by_cases h3 : s < a <;> by_cases h4 : b < e <;> simp only [h3, h4, if_true, if_false, List.nil_append, List.append_nil, List.singleton_append, lk_cons, lk_nil, inR]
    · by_cases h2 : a ≤ y ∧ y < b
      · rw [if_pos h2, if_neg (by omega), if_neg (by omega)]
      · rw [if_neg h2]
        by_cases h5 : s ≤ y ∧ y < e
        · rw [if_pos h5]
          by_cases h6 : s ≤ y ∧ y < a
          · rw [if_pos h6]
          · rw [if_neg h6, if_pos (by omega)]
        · rw [if_neg h5, if_neg (by omega), if_neg (by omega)]
    · by_cases h2 : a ≤ y ∧ y < b
      · rw [if_pos h2, if_neg (by omega)]
      · rw [if_neg h2]
        by_cases h5 : s ≤ y ∧ y < e
        · rw [if_pos h5, if_pos (by omega)]
        · rw [if_neg h5, if_neg (by omega)]
    · by_cases h2 : a ≤ y ∧ y < b
      · rw [if_pos h2, if_neg (by omega)]
      · rw [if_neg h2]
        by_cases h5 : s ≤ y ∧ y < e
        · rw [if_pos h5, if_pos (by omega)]
        · rw [if_neg h5, if_neg (by omega)]
    · by_cases h2 : a ≤ y ∧ y < b
      · rw [if_pos h2]
      · rw [if_neg h2, if_neg (by omega)]
theorem lk_without (a b : Int) (hab : a < b) (l : List Rg) (h : ∀ r ∈ l, gd r) (y : Int) : lk (withoutL a b l) y = if a ≤ y ∧ y < b then none else lk l y := by
  induction l with
  | nil => simp [withoutL, lk_nil]
  | cons r t ih =>
    rw [withoutL, lk_app, lk_cut a b hab r (h r (by simp)), ih (fun x hx => h x (by simp [hx])), lk_cons, lk_cons, lk_nil]
    by_cases h2 : a ≤ y ∧ y < b
    · simp only [if_pos h2]
      rfl
    · simp only [if_neg h2]
      by_cases h3 : inR y r
      · simp only [if_pos h3]
        rfl
      · simp only [if_neg h3]
        rfl
def outside (a b : Int) (x : Rg) : Prop := x.e ≤ a ∨ b ≤ x.s
theorem cut_mem (a b : Int) (r x : Rg) (hx : x ∈ cutR a b r) : r.s ≤ x.s ∧ x.e ≤ r.e ∧ outside a b x ∧ (x.s = r.s ∨ (x.s = b ∧ b < r.e)) ∧ (x.e = r.e ∨ (x.e = a ∧ r.s < a)) ∧ (r.s < r.e → x.s < x.e) ∨ r.e ≤ r.s := by
  obtain ⟨s, e, p⟩ := r
  unfold cutR outside at *
  simp only at *
  by_cases hse : e ≤ s
  · exact .inr hse
  · refine .inl ?_
    split at hx
    · obtain rfl := List.mem_singleton.1 hx
      simp only
      exact ⟨by omega, by omega, by omega, by first | omega | (simp; done) | (simp; omega), by first | omega | (simp; done) | (simp; omega), fun _ => by omega⟩
    · rename_i h1
      rcases List.mem_append.1 hx with hx | hx
      · split at hx
        · obtain rfl := List.mem_singleton.1 hx
          simp only
          exact ⟨by omega, by omega, by omega, by first | omega | (simp; done) | (simp; omega), by first | omega | (simp; done) | (simp; omega), fun _ => by omega⟩
        · cases hx
      · split at hx
        · obtain rfl := List.mem_singleton.1 hx
          simp only
          exact ⟨by omega, by omega, by omega, by first | omega | (simp; done) | (simp; omega), by first | omega | (simp; done) | (simp; omega), fun _ => by omega⟩
        · cases hx
theorem cut_gd (a b : Int) (hb : spanB a b = true) (r : Rg) (hr : gd r) (x : Rg) (hx : x ∈ cutR a b r) : gd x ∧ r.s ≤ x.s ∧ x.e ≤ r.e ∧ outside a b x := by
  have h := cut_mem a b r x hx
  unfold gd spanB at *
  simp only [Bool.and_eq_true, decide_eq_true_eq] at hb
  rcases h with h | h
  · refine ⟨?_, h.1, h.2.1, h.2.2.1⟩
    obtain ⟨h1, h2, h3, h4, h5, h6⟩ := h
    have h7 := h6 hr.2.1
    rcases h4 with h4 | h4 <;> rcases h5 with h5 | h5 <;> omega
  · omega
theorem cut_srt (a b : Int) (hab : a < b) (r : Rg) : (cutR a b r).Pairwise (fun x y => x.e ≤ y.s) := by
  unfold cutR
  split
  · exact List.pairwise_singleton _ _
  · split <;> split <;> simp
    omega
theorem without_mem (a b : Int) (hb : spanB a b = true) (l : List Rg) (h : ∀ r ∈ l, gd r) (x : Rg) (hx : x ∈ withoutL a b l) : gd x ∧ outside a b x ∧ ∃ r ∈ l, r.s ≤ x.s ∧ x.e ≤ r.e := by
  induction l with
  | nil => cases hx
  | cons r t ih =>
    rw [withoutL] at hx
    rcases List.mem_append.1 hx with hx | hx
    · have h1 := cut_gd a b hb r (h r (by simp)) x hx
      exact ⟨h1.1, h1.2.2.2, r, by simp, h1.2.1, h1.2.2.1⟩
    · obtain ⟨h1, h2, q, hq, h3⟩ := ih (fun x hx => h x (by simp [hx])) hx
      exact ⟨h1, h2, q, by simp [hq], h3⟩
theorem without_ok (a b : Int) (hb : spanB a b = true) (l : List Rg) (h : Okl l) : Okl (withoutL a b l) := by
  refine ⟨fun x hx => (without_mem a b hb l h.val x hx).1, ?_⟩
  have hab := span_lt hb
  induction l with
  | nil => exact List.Pairwise.nil
  | cons r t ih =>
    rw [withoutL]
    refine List.pairwise_append.2 ⟨cut_srt a b hab r, ih h.tail, fun x hx y hy => ?_⟩
    have h1 := cut_gd a b hb r h.head x hx
    obtain ⟨_, _, q, hq, h3, h4⟩ := without_mem a b hb t h.tail.val y hy
    have h5 := h.lt q hq
    omega
/-! ### with -/
theorem insS_mem (r : Rg) (l : List Rg) (x : Rg) : x ∈ insS r l ↔ x = r ∨ x ∈ l := by
  induction l with
  | nil => simp [insS]
  | cons y t ih =>
    unfold insS
    split
    · simp
    · simp only [List.mem_cons, ih]
      constructor
      · rintro (h | h | h)
        · exact .inr (.inl h)
        · exact .inl h
        · exact .inr (.inr h)
      · rintro (h | h | h)
        · exact .inr (.inl h)
        · exact .inl h
        · exact .inr (.inr h)
theorem lk_ins (r : Rg) (l : List Rg) (h : ∀ x ∈ l, outside r.s r.e x) (y : Int) : lk (insS r l) y = if inR y r then some r.p else lk l y := by
  induction l with
  | nil => rw [insS, lk_cons]
  | cons x t ih =>
    unfold insS
    split
    · rw [lk_cons]
    · rw [lk_cons, lk_cons, ih (fun z hz => h z (by simp [hz]))]
      by_cases h1 : inR y x
      · have h2 : ¬ inR y r := by
          have := h x (by simp)
          unfold inR outside at *
          omega
        rw [if_pos h1, if_neg h2, if_pos h1]
      · rw [if_neg h1]
        by_cases h2 : inR y r
        · rw [if_pos h2, if_pos h2]
        · rw [if_neg h2, if_neg h2, if_neg h1]
theorem ins_ok (r : Rg) (hr : gd r) (l : List Rg) (hl : Okl l) (h : ∀ x ∈ l, outside r.s r.e x) : Okl (insS r l) := by
  refine ⟨fun x hx => ?_, ?_⟩
  · rcases (insS_mem r l x).1 hx with rfl | hx
    · exact hr
    · exact hl.val x hx
  · induction l with
    | nil => exact List.pairwise_singleton _ _
    | cons x t ih =>
      have hx := hl.head
      have ho := h x (by simp)
      have hlt := hl.lt
      unfold insS
      unfold gd outside at *
      split
      · refine List.pairwise_cons.2 ⟨fun z hz => ?_, hl.srt⟩
        rcases List.mem_cons.1 hz with rfl | hz
        · omega
        · have := hlt z hz
          omega
      · refine List.pairwise_cons.2 ⟨fun z hz => ?_, ih hl.tail (fun z hz => h z (by simp [hz]))⟩
        rcases (insS_mem r t z).1 hz with rfl | hz
        · omega
        · exact hlt z hz
theorem with_ok (l : List Rg) (h : Okl l) (r : Rg) (hr : spanB r.s r.e = true) (hr0 : 0 ≤ r.s) : Okl (withL l r) := by
  refine ins_ok r ?_ _ (without_ok _ _ hr l h) (fun x hx => (without_mem _ _ hr l h.val x hx).2.1)
  unfold spanB at hr
  unfold gd
  simp only [Bool.and_eq_true, decide_eq_true_eq] at hr
  omega
theorem lk_with (l : List Rg) (h : Okl l) (r : Rg) (hr : spanB r.s r.e = true) (y : Int) : lk (withL l r) y = if inR y r then some r.p else lk l y := by
  unfold withL
  rw [lk_ins r _ (fun x hx => (without_mem _ _ hr l h.val x hx).2.1), lk_without _ _ (span_lt hr) l h.val]
  by_cases h1 : inR y r
  · rw [if_pos h1, if_pos h1]
  · rw [if_neg h1, if_neg h1]
    unfold inR at h1
    rw [if_neg h1]
/-! ### joined -/
theorem joined_len (n : Nat) : ∀ l : List Rg, l.length = n → Okl l → Okl (joinedL l) ∧ Can (joinedL l) ∧ (∀ y, lk (joinedL l) y = lk l y) ∧ (∀ x ∈ joinedL l, ∃ z ∈ l, x.e = z.e) := by
  induction n with
  | zero =>
    intro l hn _
    obtain rfl := List.length_eq_zero_iff.1 hn
    exact ⟨Okl.nil, Can.nil, fun _ => rfl, fun x hx => by cases hx⟩
  | succ n ihn =>
    intro l hn h
    rcases List.eq_nil_or_concat l with rfl | ⟨t, r, rfl⟩
    · cases hn
    rw [List.concat_eq_append] at *
    have ih := ihn t (by simpa using hn)
    have ht : Okl t := ⟨fun x hx => h.val x (by simp [hx]), (List.pairwise_append.1 h.srt).1⟩
    have hr : gd r := h.val r (by simp)
    have hcr : ∀ z ∈ t, z.e ≤ r.s := fun z hz => (List.pairwise_append.1 h.srt).2.2 z hz r (by simp)
    obtain ⟨h1, h2, h3, h4⟩ := ih ht
    rw [joinedL_snoc]
    obtain ⟨o, ho⟩ : ∃ o, joinedL t = o := ⟨_, rfl⟩
    rw [ho] at h1 h2 h3 h4 ⊢
    have hco : ∀ x ∈ o, x.e ≤ r.s := fun x hx => by
      obtain ⟨z, hz, e⟩ := h4 x hx
      have := hcr z hz
      omega
    clear ho ih ihn hn
    have hlk : ∀ y, lk (t ++ [r]) y = (lk o y).or (if inR y r then some r.p else none) := fun y => by rw [lk_app, h3 y, lk_cons, lk_nil]
    rcases List.eq_nil_or_concat o with rfl | ⟨L, q, rfl⟩
    · rw [joinStep_nil]
      refine ⟨⟨fun x hx => ?_, List.pairwise_singleton _ _⟩, List.pairwise_singleton _ _, fun y => ?_, fun x hx => ?_⟩
      · obtain rfl := List.mem_singleton.1 hx
        exact hr
      · rw [hlk, lk_cons, lk_nil]
        rfl
      · obtain rfl := List.mem_singleton.1 hx
        exact ⟨x, by simp, rfl⟩
    · rw [List.concat_eq_append] at *
      rw [joinStep_snoc]
      have hq : gd q := h1.val q (by simp)
      have hqr := hco q (by simp)
      have hL := (List.pairwise_append.1 h1.srt)
      have hLc := (List.pairwise_append.1 h2)
      by_cases hc : q.e = r.s ∧ q.p = r.p
      · rw [if_pos hc]
        refine ⟨⟨fun x hx => ?_, ?_⟩, ?_, fun y => ?_, fun x hx => ?_⟩
        · rcases List.mem_append.1 hx with hx | hx
          · exact h1.val x (by simp [hx])
          · obtain rfl := List.mem_singleton.1 hx
            unfold gd at *
            simp only
            omega
        · refine List.pairwise_append.2 ⟨hL.1, List.pairwise_singleton _ _, fun x hx z hz => ?_⟩
          obtain rfl := List.mem_singleton.1 hz
          exact hL.2.2 x hx q (by simp)
        · refine List.pairwise_append.2 ⟨hLc.1, List.pairwise_singleton _ _, fun x hx z hz => ?_⟩
          obtain rfl := List.mem_singleton.1 hz
          exact hLc.2.2 x hx q (by simp)
        · rw [hlk, lk_app, lk_app, lk_cons, lk_nil, lk_cons, lk_nil]
          cases lk L y with
          | some p => rfl
          | none =>
            simp only [Option.none_or]
            unfold gd at *
            unfold inR
            by_cases h5 : q.s ≤ y ∧ y < q.e
            · rw [if_pos h5, if_pos (by simp only; omega)]
              rfl
            · rw [if_neg h5]
              by_cases h6 : r.s ≤ y ∧ y < r.e
              · rw [if_pos h6, if_pos (by simp only; omega), hc.2]
                rfl
              · rw [if_neg h6, if_neg (by simp only; omega)]
                rfl
        · rcases List.mem_append.1 hx with hx | hx
          · obtain ⟨z, hz, e⟩ := h4 x (by simp [hx])
            exact ⟨z, by simp [hz], e⟩
          · obtain rfl := List.mem_singleton.1 hx
            exact ⟨r, by simp, rfl⟩
      · rw [if_neg hc]
        refine ⟨⟨fun x hx => ?_, ?_⟩, ?_, fun y => ?_, fun x hx => ?_⟩
        · rcases List.mem_append.1 hx with hx | hx
          · exact h1.val x hx
          · obtain rfl := List.mem_singleton.1 hx
            exact hr
        · refine List.pairwise_append.2 ⟨h1.srt, List.pairwise_singleton _ _, fun x hx z hz => ?_⟩
          obtain rfl := List.mem_singleton.1 hz
          exact hco x hx
        · refine List.pairwise_append.2 ⟨h2, List.pairwise_singleton _ _, fun x hx z hz he hp => ?_⟩
          obtain rfl := List.mem_singleton.1 hz
          rcases List.mem_append.1 hx with hx | hx
          · have h5 := hL.2.2 x hx q (by simp)
            unfold gd at *
            omega
          · obtain rfl := List.mem_singleton.1 hx
            exact hc ⟨he, hp⟩
        · rw [hlk, lk_app, lk_cons, lk_nil]
        · rcases List.mem_append.1 hx with hx | hx
          · obtain ⟨z, hz, e⟩ := h4 x hx
            exact ⟨z, by simp [hz], e⟩
          · obtain rfl := List.mem_singleton.1 hx
            exact ⟨x, by simp, rfl⟩
/-! ### one list alone -/
theorem joined_all (l : List Rg) (h : Okl l) : Okl (joinedL l) ∧ Can (joinedL l) ∧ (∀ y, lk (joinedL l) y = lk l y) ∧ (∀ x ∈ joinedL l, ∃ z ∈ l, x.e = z.e) := joined_len _ l rfl h
theorem lk_tail {r : Rg} {t : List Rg} (h : Okl (r :: t)) (y : Int) : lk t y = if inR y r then none else lk (r :: t) y := by
  rw [lk_cons]
  by_cases h1 : inR y r
  · rw [if_pos h1]
    refine lk_none _ _ (fun x hx => ?_)
    have h2 := h.lt x hx
    unfold inR at *
    omega
  · rw [if_neg h1, if_neg h1]
theorem lk_low {r : Rg} {t : List Rg} (h : Okl (r :: t)) (y : Int) (hy : y < r.s) : lk (r :: t) y = none := by
  refine lk_none _ _ (fun x hx => ?_)
  have hr := h.head
  rcases List.mem_cons.1 hx with rfl | hx
  · unfold inR; omega
  · have h2 := h.lt x hx
    unfold inR gd at *
    omega
theorem can_end {r : Rg} {t : List Rg} (h : Okl (r :: t)) (hc : Can (r :: t)) : lk (r :: t) r.e ≠ some r.p := by
  intro hl
  rw [lk_cons, if_neg (by unfold inR; omega)] at hl
  obtain ⟨x, hx, h1, h2⟩ := lk_ex _ _ _ hl
  have h3 := h.lt x hx
  have h4 := (List.pairwise_cons.1 hc).1 x hx
  unfold inR at h1
  exact h4 (by omega) h2.symm
theorem can_uniq (l : List Rg) : ∀ m : List Rg, Okl l → Can l → Okl m → Can m → (∀ y, lk l y = lk m y) → l = m := by
  induction l with
  | nil =>
    intro m _ _ hm _ h
    cases m with
    | nil => rfl
    | cons r t =>
      have h1 := h r.s
      have hr := hm.head
      unfold gd at hr
      rw [lk_nil, lk_cons, if_pos (by unfold inR; omega)] at h1
      cases h1
  | cons r t ih =>
    intro m hl hcl hm hcm h
    have hr := hl.head
    cases m with
    | nil =>
      have h1 := h r.s
      unfold gd at hr
      rw [lk_nil, lk_cons, if_pos (by unfold inR; omega)] at h1
      cases h1
    | cons q u =>
      have hq := hm.head
      have e0 : r.s = q.s := by
        rcases Int.lt_or_le r.s q.s with h1 | h1
        · have h2 := h r.s
          rw [lk_low hm _ h1, lk_cons, if_pos (by unfold inR; unfold gd at hr; omega)] at h2
          cases h2
        · rcases Int.lt_or_le q.s r.s with h3 | h3
          · have h2 := h q.s
            rw [lk_low hl _ h3, lk_cons, if_pos (by unfold inR; unfold gd at hq; omega)] at h2
            cases h2
          · omega
      have ep : r.p = q.p := by
        have h2 := h r.s
        rw [lk_cons, lk_cons, if_pos (by unfold inR; unfold gd at hr; omega), if_pos (by unfold inR; unfold gd at hq; omega)] at h2
        injection h2
      have ee : r.e = q.e := by
        rcases Int.lt_or_le r.e q.e with h1 | h1
        · refine absurd ?_ (can_end hl hcl)
          rw [h r.e, lk_cons, if_pos (by unfold inR; unfold gd at hr; omega), ep]
        · rcases Int.lt_or_le q.e r.e with h3 | h3
          · refine absurd ?_ (can_end hm hcm)
            rw [← h q.e, lk_cons, if_pos (by unfold inR; unfold gd at hq; omega), ep]
          · omega
      have erq : r = q := by
        cases r
        cases q
        simp only at e0 ee ep
        rw [e0, ee, ep]
      subst erq
      rw [ih u hl.tail (List.pairwise_cons.1 hcl).2 hm.tail (List.pairwise_cons.1 hcm).2 (fun y => by rw [lk_tail hl, lk_tail hm, h y])]
/-! ### First -/
def good (l : List Rg) (pr y : Int) : Prop := ∃ p, lk l y = some p ∧ (andI p pr != pr) = false
theorem lk_at {l : List Rg} {x : Int} (h : atK l x = true) : lk l x = some (atG l x).p := by
  unfold atK at h
  obtain ⟨r, hr⟩ := Option.isSome_iff_exists.1 h
  unfold lk atG
  rw [hr]
  rfl
theorem lk_at_none {l : List Rg} {x : Int} (h : atK l x = false) : lk l x = none := by
  unfold atK at h
  unfold lk
  cases hh : l.find? (atP x) with
  | none => rfl
  | some r => rw [hh] at h; cases h
theorem first_spec {l : List Rg} (hl : Okl l) {pr e s x : Int} {b : Bool} (h : FirstR l pr e s x b) : (b = true → s ≤ x ∧ x < e ∧ ¬ good l pr x ∧ ∀ y, s ≤ y → y < x → good l pr y) ∧ (b = false → x = 0 ∧ ∀ y, s ≤ y → y < e → good l pr y) := by
  induction h with
  | done h1 => exact ⟨fun h => (by cases h), fun _ => ⟨rfl, fun y _ _ => by omega⟩⟩
  | hole h1 h2 => exact ⟨fun _ => ⟨Int.le_refl _, h1, fun ⟨p, hp, _⟩ => (by rw [lk_at_none h2] at hp; cases hp), fun y _ _ => by omega⟩, fun h => (by cases h)⟩
  | bad h1 h2 h3 => exact ⟨fun _ => ⟨Int.le_refl _, h1, fun ⟨p, hp, hp2⟩ => (by rw [lk_at h2] at hp; injection hp with hp; rw [← hp, h3] at hp2; cases hp2), fun y _ _ => by omega⟩, fun h => (by cases h)⟩
  | @step s x b h1 h2 h3 _ ih =>
    have hin := atG_in l s h2
    have hg : ∀ y, s ≤ y → y < (atG l s).e → good l pr y := fun y hy1 hy2 => ⟨(atG l s).p, lk_mem hl hin.1 (by unfold inR; omega), h3⟩
    refine ⟨fun hb => ?_, fun hb => ?_⟩
    · obtain ⟨i1, i2, i3, i4⟩ := ih.1 hb
      refine ⟨by omega, i2, i3, fun y hy1 hy2 => ?_⟩
      rcases Int.lt_or_le y (atG l s).e with h | h
      · exact hg y hy1 h
      · exact i4 y h hy2
    · obtain ⟨i1, i2⟩ := ih.2 hb
      refine ⟨i1, fun y hy1 hy2 => ?_⟩
      rcases Int.lt_or_le y (atG l s).e with h | h
      · exact hg y hy1 h
      · exact i2 y h hy2
/-! ### take, Map, Unmap, Protect -/
structure Cl (l : List Rg) : Prop where
  ok : Okl l
  can : Can l
theorem Cl.uniq {l m : List Rg} (h : Cl l) (k : Cl m) (e : ∀ y, lk l y = lk m y) : l = m := can_uniq l m h.ok h.can k.ok k.can e
theorem Cl.joined {l : List Rg} (h : Okl l) : Cl (joinedL l) := ⟨(joined_all l h).1, (joined_all l h).2.1⟩
theorem lk_joined {l : List Rg} (h : Okl l) (y : Int) : lk (joinedL l) y = lk l y := (joined_all l h).2.2.1 y
theorem take_uniq {l m : List Rg} (h : Okl l) (k : Cl m) (e : ∀ y, lk l y = lk m y) (hm : m.length ≤ 256) (old : List Rg) : takeE l = 0 ∧ takeL old l = m := by
  have h1 : joinedL l = m := (Cl.joined h).uniq k (fun y => by rw [lk_joined h, e])
  unfold takeE takeL
  rw [h1, if_neg (by omega), if_neg (by omega)]
  exact ⟨rfl, rfl⟩
theorem take_over {l m : List Rg} (h : Okl l) (k : Cl m) (e : ∀ y, lk l y = lk m y) (hm : 256 < m.length) (old : List Rg) : takeE l = 12 ∧ takeL old l = old := by
  have h1 : joinedL l = m := (Cl.joined h).uniq k (fun y => by rw [lk_joined h, e])
  unfold takeE takeL
  rw [h1, if_pos (by omega), if_pos (by omega)]
  exact ⟨rfl, rfl⟩
end Go.Proofs.Ytnaiccgbjcppaaa.Rg
