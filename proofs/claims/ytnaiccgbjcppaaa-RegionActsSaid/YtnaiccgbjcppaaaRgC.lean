/- region.span, prots; slices.IndexFunc over a predicate of regions: walked. -/
import Derived.Test.YtnaiccgbjcppaaaRgB
namespace Go.Proofs.Ytnaiccgbjcppaaa.Rg
open Go Go.RowKit Go.Proofs.YtnaiccgbjcppaaaW.PrintWords Go.Proofs.YtnaiccgbjcppaaaW.PrintLast Go.Proofs.YtnaiccgbjcppaaaW.PrintMore
open Go.Proofs.Ytnaiccgbjcppaaa.Hp
attribute [local go_sem] max2_int min2_int max_two min_two max_three min_three max_four min_four
set_option linter.unusedVariables false
set_option linter.unusedSimpArgs false
def spanB (a b : Int) : Bool := decide (a % 4096 = 0) && (decide (b % 4096 = 0) && (decide (a < b) && decide (b ≤ 274877906944)))
theorem span_any (a b : Int) (ha : 0 ≤ a ∧ a < 18446744073709551616) (hb : 0 ≤ b ∧ b < 18446744073709551616) (w : World) : Calls Try.prog 35 #[.int .u64 a, .int .u64 b] w fun e w' => e = .returned (.bool (spanB a b)) ∧ Fr (fun _ => False) w w' := by
  have e1 : a.tmod 4096 = a % 4096 := Int.tmod_eq_emod_of_nonneg ha.1
  have e2 : b.tmod 4096 = b % 4096 := Int.tmod_eq_emod_of_nonneg hb.1
  unfold spanB
  obtain ⟨x, hx⟩ : ∃ x, a % 4096 = x := ⟨_, rfl⟩
  obtain ⟨y, hy⟩ : ∃ y, b % 4096 = y := ⟨_, rfl⟩
  have e3 : IntKind.u64.wrap x = x := IntWalk.u64_in _ (by omega)
  have e4 : IntKind.u64.wrap y = y := IntWalk.u64_in _ (by omega)
  rw [hx] at e1 ⊢
  rw [hy] at e2 ⊢
  clear hx hy
  by_cases c1 : x = 0
  · have b1 : (x == 0) = true := beq_iff_eq.2 c1
    rw [decide_eq_true c1]
    by_cases c2 : y = 0
    · have b2 : (y == 0) = true := beq_iff_eq.2 c2
      rw [decide_eq_true c2]
      by_cases c3 : a < b
      · have b3 : decide (a < b) = true := decide_eq_true c3
        rw [b3]
        by_cases c4 : b ≤ 274877906944
        · have b4 : decide (b ≤ 274877906944) = true := decide_eq_true c4
          rw [b4]
          clear c1 c2 c3 c4
          go_enter Try.func35, Try.ntmps35
          go_wp2_with fail
          go_ret
          exact ⟨rfl, Fr.refl _ _⟩
        · have b4 : decide (b ≤ 274877906944) = false := decide_eq_false c4
          rw [b4]
          clear c1 c2 c3 c4
          go_enter Try.func35, Try.ntmps35
          go_wp2_with fail
          go_ret
          exact ⟨rfl, Fr.refl _ _⟩
      · have b3 : decide (a < b) = false := decide_eq_false c3
        rw [b3]
        clear c1 c2 c3
        go_enter Try.func35, Try.ntmps35
        go_wp2_with fail
        go_ret
        exact ⟨rfl, Fr.refl _ _⟩
    · have b2 : (y == 0) = false := beq_eq_false_iff_ne.2 c2
      rw [decide_eq_false c2]
      clear c1 c2
      go_enter Try.func35, Try.ntmps35
      go_wp2_with fail
      go_ret
      exact ⟨rfl, Fr.refl _ _⟩
  · have b1 : (x == 0) = false := beq_eq_false_iff_ne.2 c1
    rw [decide_eq_false c1]
    clear c1
    go_enter Try.func35, Try.ntmps35
    go_wp2_with fail
    go_ret
    exact ⟨rfl, Fr.refl _ _⟩
def protsB (p : Int) : Bool := decide (0 ≤ p) && decide (p ≤ 7)
theorem prots_any (p : Int) (w : World) : Calls Try.prog 42 #[.int .i64 p] w fun e w' => e = .returned (.bool (protsB p)) ∧ Fr (fun _ => False) w w' := by
  unfold protsB
  by_cases c1 : 0 ≤ p
  · have b1 : decide (0 ≤ p) = true := decide_eq_true c1
    rw [b1]
    obtain ⟨q, hq⟩ : ∃ q, decide (p ≤ 7) = q := ⟨_, rfl⟩
    rw [hq]
    clear c1
    go_enter Try.func42, Try.ntmps42
    go_wp2_with fail
    go_ret
    exact ⟨rfl, Fr.refl _ _⟩
  · have b1 : decide (0 ≤ p) = false := decide_eq_false c1
    rw [b1]
    clear c1
    go_enter Try.func42, Try.ntmps42
    go_wp2_with fail
    go_ret
    exact ⟨rfl, Fr.refl _ _⟩
/-- The first place at which a predicate holds; -1: there is none. -/
def idxL (p : Rg → Bool) : List Rg → Nat → Int
  | [], _ => -1
  | r :: t, i => if p r then (i : Int) else idxL p t (i + 1)
/-- A function value that answers as a predicate does, in whatever world has what it captured, and turns nothing that is older. -/
def Pred (w0 : World) (f : FuncId) (cap : Array Value) (p : Rg → Bool) : Prop := ∀ (w : World) (r : Rg), Below w0.heap.size w0 w → Calls Try.prog f (#[.agg (rc r).toArray] ++ cap) w fun e w' => e = .returned (.bool (p r)) ∧ Fr (fun _ => False) w w'
theorem pred_with (w0 : World) (b : Nat) (s : Int) (cs : Array Value) (h : Blk w0 b 36 cs) (hc : cs[0]? = some (.int .u64 s)) : Pred w0 50 #[.pointer (some ⟨b, 0, none⟩)] (fun r => decide (s < r.s)) := by
  intro w r hb
  obtain ⟨x, y, z⟩ := r
  have k0 := Blk.cell (show Blk w b 36 cs from (hb.block _ h.lt).trans h) 0
  rw [hc] at k0
  obtain ⟨q, hq⟩ : ∃ q, decide (s < x) = q := ⟨_, rfl⟩
  have hlt := (show b < w.heap.size from Nat.lt_of_lt_of_le h.lt hb.size)
  show Calls Try.prog 50 #[.agg #[.int .u64 x, .int .u64 y, .int .i64 z], .pointer (some ⟨b, 0, none⟩)] w fun e w' => e = .returned (.bool (decide (s < x))) ∧ Fr (fun _ => False) w w'
  rw [hq]
  have k0' : (w.alloc (.cells #[.int .u64 x, .int .u64 y, .int .i64 z] 36)).cell? ⟨b, 0, none⟩ = some (.int .u64 s) := (World.cell?_alloc_lt _ _ _ hlt).trans k0
  go_enter Try.func50, Try.ntmps50
  go_wp2_with fail
  go_ret
  exact ⟨rfl, (Fr.refl _ _).alloc _⟩
theorem idxL_none (p : Rg → Bool) (l : List Rg) : ∀ i, (∀ j, j < l.length → p (rgAt l j) = false) → idxL p l i = -1 := by
  induction l with
  | nil => intro i _; rfl
  | cons r t ih =>
    intro i h
    have h0 : p r = false := h 0 (by simp)
    unfold idxL
    rw [h0]
    exact ih _ (fun j hj => h (j + 1) (by simpa using hj))
theorem idxL_some (p : Rg → Bool) (l : List Rg) : ∀ i k, k < l.length → (∀ j, j < k → p (rgAt l j) = false) → p (rgAt l k) = true → idxL p l i = ((i + k : Nat) : Int) := by
  induction l with
  | nil => intro i k hk; simp at hk
  | cons r t ih =>
    intro i k hk h hp
    cases k with
    | zero =>
      have h0 : p r = true := hp
      unfold idxL
      rw [h0]
      rfl
    | succ k =>
      have h0 : p r = false := h 0 (by omega)
      unfold idxL
      rw [h0]
      have e := ih (i + 1) k (by simpa using hk) (fun j hj => h (j + 1) (by omega)) hp
      simp only [Bool.false_eq_true, if_false]
      rw [e]
      omega
def AtIx (p : Rg → Bool) (l : List Rg) (w : World) (n : Nat) (v8 : Value) (kq : Nat) (wr : World) : Prop := ∃ k : Nat, v8 = .int .i64 k ∧ k ≤ n ∧ n - k ≤ kq ∧ (∀ j, j < k → p (rgAt l j) = false) ∧ Fr (fun _ => False) w wr
set_option maxHeartbeats 4000000 in
theorem index_with (v : Value) (l : List Rg) (b : Nat) (p : Rg → Bool) (B : Nat) (w : World) (h : OwnR w B v l) (hn : l.length ≤ 5000) (hp : Pred w 50 #[.pointer (some ⟨b, 0, none⟩)] p) : Calls Try.prog 38 #[v, .func (.func 50) #[] #[.pointer (some ⟨b, 0, none⟩)]] w fun e w' => e = .returned (.int .i64 (idxL p l 0)) ∧ Fr (fun _ => False) w w' := by
  obtain ⟨A, c, rfl, hc, hA⟩ := h.form
  have H := Lib.hid h
  have HA := Lib.hid hA
  have HP := Lib.hid hp
  obtain ⟨n, hnn⟩ : ∃ n, l.length = n := ⟨_, rfl⟩
  have HN := Lib.hid hnn
  rw [hnn] at H HA hc hn ⊢
  clear h hA hnn hp
  go_enter Try.func38, Try.ntmps38
  go_wp2_with fail
  go_loopg [8] n (fun kq v8 wr => Hid (AtIx p l w n v8 kq wr))
  case atStart => exact Lib.hid ⟨0, rfl, by omega, by omega, fun j hj => absurd hj (by omega), Fr.refl _ _⟩
  case round =>
    obtain ⟨k, rfl, hk1, hk2, hno, hf⟩ := hrel.out
    have HNO := Lib.hid hno
    have HF := Lib.hid hf
    clear hrel hno hf
    by_cases hk : k < n
    · have u1 : decide ((k : Int) < (n : Int)) = true := decide_eq_true (by omega)
      have u1' : decide (k < n) = true := decide_eq_true hk
      have j0 : (0 : Int) ≤ (k : Int) := by omega
      have j1 : (k : Int) < (n : Int) := by omega
      obtain ⟨g, rfl⟩ := HA.out (by omega)
      obtain ⟨y0, y1, y2⟩ := (H.out.fr HF.out (fun _ _ => id)).at_ k (by rw [HN.out]; exact hk)
      obtain ⟨r, hr⟩ : ∃ r, rgAt l k = r := ⟨_, rfl⟩
      have HR := Lib.hid hr
      rw [hr] at y0 y1 y2
      clear hr
      obtain ⟨q, hq⟩ : ∃ q, p r = q := ⟨_, rfl⟩
      have HQ := Lib.hid hq
      clear hq
      go_wp2_with fail
      refine (HP.out wr r (Fr.below (Below.refl _ _) HF.out (fun _ _ => id))).mono ?_
      rintro e wq ⟨rfl, hfq⟩
      have HFq := Lib.hid (HF.out.trans hfq (fun _ _ => id))
      rw [HQ.out]
      clear hfq
      cases q
      · go_wp2_with fail
        go_roundg (n - (k + 1))
        case measure => omega
        case rel =>
          refine Lib.hid ⟨k + 1, by go_num, by omega, by omega, fun j hj => ?_, HFq.out⟩
          rcases Nat.lt_succ_iff_lt_or_eq.1 hj with h | rfl
          · exact HNO.out j h
          · rw [HR.out]; exact HQ.out
      · go_wp2_with fail
        go_ret
        rw [idxL_some p l 0 k (by rw [HN.out]; exact hk) HNO.out (by rw [HR.out]; exact HQ.out), Nat.zero_add]
        exact ⟨rfl, HFq.out⟩
    · obtain rfl : k = n := by omega
      have u1 : decide ((k : Int) < (k : Int)) = false := decide_eq_false (by omega)
      go_wp2_with fail
      go_ret
      rw [idxL_none p l 0 (by rw [HN.out]; exact HNO.out)]
      exact ⟨rfl, HF.out⟩
set_option maxHeartbeats 4000000 in
theorem index_at (v : Value) (l : List Rg) (b : Nat) (p : Rg → Bool) (B : Nat) (w : World) (h : OwnR w B v l) (hn : l.length ≤ 5000) (hp : Pred w 39 #[.pointer (some ⟨b, 0, none⟩)] p) : Calls Try.prog 38 #[v, .func (.func 39) #[] #[.pointer (some ⟨b, 0, none⟩)]] w fun e w' => e = .returned (.int .i64 (idxL p l 0)) ∧ Fr (fun _ => False) w w' := by
  obtain ⟨A, c, rfl, hc, hA⟩ := h.form
  have H := Lib.hid h
  have HA := Lib.hid hA
  have HP := Lib.hid hp
  obtain ⟨n, hnn⟩ : ∃ n, l.length = n := ⟨_, rfl⟩
  have HN := Lib.hid hnn
  rw [hnn] at H HA hc hn ⊢
  clear h hA hnn hp
  go_enter Try.func38, Try.ntmps38
  go_wp2_with fail
  go_loopg [8] n (fun kq v8 wr => Hid (AtIx p l w n v8 kq wr))
  case atStart => exact Lib.hid ⟨0, rfl, by omega, by omega, fun j hj => absurd hj (by omega), Fr.refl _ _⟩
  case round =>
    obtain ⟨k, rfl, hk1, hk2, hno, hf⟩ := hrel.out
    have HNO := Lib.hid hno
    have HF := Lib.hid hf
    clear hrel hno hf
    by_cases hk : k < n
    · have u1 : decide ((k : Int) < (n : Int)) = true := decide_eq_true (by omega)
      have u1' : decide (k < n) = true := decide_eq_true hk
      have j0 : (0 : Int) ≤ (k : Int) := by omega
      have j1 : (k : Int) < (n : Int) := by omega
      obtain ⟨g, rfl⟩ := HA.out (by omega)
      obtain ⟨y0, y1, y2⟩ := (H.out.fr HF.out (fun _ _ => id)).at_ k (by rw [HN.out]; exact hk)
      obtain ⟨r, hr⟩ : ∃ r, rgAt l k = r := ⟨_, rfl⟩
      have HR := Lib.hid hr
      rw [hr] at y0 y1 y2
      clear hr
      obtain ⟨q, hq⟩ : ∃ q, p r = q := ⟨_, rfl⟩
      have HQ := Lib.hid hq
      clear hq
      go_wp2_with fail
      refine (HP.out wr r (Fr.below (Below.refl _ _) HF.out (fun _ _ => id))).mono ?_
      rintro e wq ⟨rfl, hfq⟩
      have HFq := Lib.hid (HF.out.trans hfq (fun _ _ => id))
      rw [HQ.out]
      clear hfq
      cases q
      · go_wp2_with fail
        go_roundg (n - (k + 1))
        case measure => omega
        case rel =>
          refine Lib.hid ⟨k + 1, by go_num, by omega, by omega, fun j hj => ?_, HFq.out⟩
          rcases Nat.lt_succ_iff_lt_or_eq.1 hj with h | rfl
          · exact HNO.out j h
          · rw [HR.out]; exact HQ.out
      · go_wp2_with fail
        go_ret
        rw [idxL_some p l 0 k (by rw [HN.out]; exact hk) HNO.out (by rw [HR.out]; exact HQ.out), Nat.zero_add]
        exact ⟨rfl, HFq.out⟩
    · obtain rfl : k = n := by omega
      have u1 : decide ((k : Int) < (k : Int)) = false := decide_eq_false (by omega)
      go_wp2_with fail
      go_ret
      rw [idxL_none p l 0 (by rw [HN.out]; exact HNO.out)]
      exact ⟨rfl, HF.out⟩
set_option maxHeartbeats 4000000 in
theorem index_free (v : Value) (l : List Rg) (b b2 : Nat) (p : Rg → Bool) (B : Nat) (w : World) (h : OwnR w B v l) (hn : l.length ≤ 5000) (hp : Pred w 37 #[.pointer (some ⟨b, 0, none⟩), .pointer (some ⟨b2, 0, none⟩)] p) : Calls Try.prog 38 #[v, .func (.func 37) #[] #[.pointer (some ⟨b, 0, none⟩), .pointer (some ⟨b2, 0, none⟩)]] w fun e w' => e = .returned (.int .i64 (idxL p l 0)) ∧ Fr (fun _ => False) w w' := by
  obtain ⟨A, c, rfl, hc, hA⟩ := h.form
  have H := Lib.hid h
  have HA := Lib.hid hA
  have HP := Lib.hid hp
  obtain ⟨n, hnn⟩ : ∃ n, l.length = n := ⟨_, rfl⟩
  have HN := Lib.hid hnn
  rw [hnn] at H HA hc hn ⊢
  clear h hA hnn hp
  go_enter Try.func38, Try.ntmps38
  go_wp2_with fail
  go_loopg [8] n (fun kq v8 wr => Hid (AtIx p l w n v8 kq wr))
  case atStart => exact Lib.hid ⟨0, rfl, by omega, by omega, fun j hj => absurd hj (by omega), Fr.refl _ _⟩
  case round =>
    obtain ⟨k, rfl, hk1, hk2, hno, hf⟩ := hrel.out
    have HNO := Lib.hid hno
    have HF := Lib.hid hf
    clear hrel hno hf
    by_cases hk : k < n
    · have u1 : decide ((k : Int) < (n : Int)) = true := decide_eq_true (by omega)
      have u1' : decide (k < n) = true := decide_eq_true hk
      have j0 : (0 : Int) ≤ (k : Int) := by omega
      have j1 : (k : Int) < (n : Int) := by omega
      obtain ⟨g, rfl⟩ := HA.out (by omega)
      obtain ⟨y0, y1, y2⟩ := (H.out.fr HF.out (fun _ _ => id)).at_ k (by rw [HN.out]; exact hk)
      obtain ⟨r, hr⟩ : ∃ r, rgAt l k = r := ⟨_, rfl⟩
      have HR := Lib.hid hr
      rw [hr] at y0 y1 y2
      clear hr
      obtain ⟨q, hq⟩ : ∃ q, p r = q := ⟨_, rfl⟩
      have HQ := Lib.hid hq
      clear hq
      go_wp2_with fail
      refine (HP.out wr r (Fr.below (Below.refl _ _) HF.out (fun _ _ => id))).mono ?_
      rintro e wq ⟨rfl, hfq⟩
      have HFq := Lib.hid (HF.out.trans hfq (fun _ _ => id))
      rw [HQ.out]
      clear hfq
      cases q
      · go_wp2_with fail
        go_roundg (n - (k + 1))
        case measure => omega
        case rel =>
          refine Lib.hid ⟨k + 1, by go_num, by omega, by omega, fun j hj => ?_, HFq.out⟩
          rcases Nat.lt_succ_iff_lt_or_eq.1 hj with h | rfl
          · exact HNO.out j h
          · rw [HR.out]; exact HQ.out
      · go_wp2_with fail
        go_ret
        rw [idxL_some p l 0 k (by rw [HN.out]; exact hk) HNO.out (by rw [HR.out]; exact HQ.out), Nat.zero_add]
        exact ⟨rfl, HFq.out⟩
    · obtain rfl : k = n := by omega
      have u1 : decide ((k : Int) < (k : Int)) = false := decide_eq_false (by omega)
      go_wp2_with fail
      go_ret
      rw [idxL_none p l 0 (by rw [HN.out]; exact HNO.out)]
      exact ⟨rfl, HF.out⟩
theorem pred_at (w0 : World) (b : Nat) (x : Int) (h : Blk w0 b 23 #[.int .u64 x]) : Pred w0 39 #[.pointer (some ⟨b, 0, none⟩)] (fun r => decide (r.s ≤ x) && decide (x < r.e)) := by
  intro w r hb
  obtain ⟨s, e, p⟩ := r
  have k0 := Blk.cell (show Blk w b 23 #[.int .u64 x] from (hb.block _ h.lt).trans h) 0
  have hlt := (show b < w.heap.size from Nat.lt_of_lt_of_le h.lt hb.size)
  show Calls Try.prog 39 #[.agg #[.int .u64 s, .int .u64 e, .int .i64 p], .pointer (some ⟨b, 0, none⟩)] w fun e_ w' => e_ = .returned (.bool (decide (s ≤ x) && decide (x < e))) ∧ Fr (fun _ => False) w w'
  have k0' : (w.alloc (.cells #[.int .u64 s, .int .u64 e, .int .i64 p] 36)).cell? ⟨b, 0, none⟩ = some (.int .u64 x) := (World.cell?_alloc_lt _ _ _ hlt).trans k0
  obtain ⟨q1, hq1⟩ : ∃ q, decide (s ≤ x) = q := ⟨_, rfl⟩
  obtain ⟨q2, hq2⟩ : ∃ q, decide (x < e) = q := ⟨_, rfl⟩
  rw [hq1, hq2]
  cases q1
  · go_enter Try.func39, Try.ntmps39
    go_wp2_with fail
    go_ret
    exact ⟨rfl, (Fr.refl _ _).alloc _⟩
  · go_enter Try.func39, Try.ntmps39
    go_wp2_with fail
    go_ret
    exact ⟨rfl, (Fr.refl _ _).alloc _⟩
theorem pred_free (w0 : World) (b1 b2 : Nat) (x y : Int) (h1 : Blk w0 b1 23 #[.int .u64 x]) (h2 : Blk w0 b2 23 #[.int .u64 y]) : Pred w0 37 #[.pointer (some ⟨b1, 0, none⟩), .pointer (some ⟨b2, 0, none⟩)] (fun r => decide (r.s < x) && decide (y < r.e)) := by
  intro w r hb
  obtain ⟨s, e, p⟩ := r
  have k0 := Blk.cell (show Blk w b1 23 #[.int .u64 x] from (hb.block _ h1.lt).trans h1) 0
  have k1 := Blk.cell (show Blk w b2 23 #[.int .u64 y] from (hb.block _ h2.lt).trans h2) 0
  have hlt1 := (show b1 < w.heap.size from Nat.lt_of_lt_of_le h1.lt hb.size)
  have hlt2 := (show b2 < w.heap.size from Nat.lt_of_lt_of_le h2.lt hb.size)
  show Calls Try.prog 37 #[.agg #[.int .u64 s, .int .u64 e, .int .i64 p], .pointer (some ⟨b1, 0, none⟩), .pointer (some ⟨b2, 0, none⟩)] w fun e_ w' => e_ = .returned (.bool (decide (s < x) && decide (y < e))) ∧ Fr (fun _ => False) w w'
  have k0' : (w.alloc (.cells #[.int .u64 s, .int .u64 e, .int .i64 p] 36)).cell? ⟨b1, 0, none⟩ = some (.int .u64 x) := (World.cell?_alloc_lt _ _ _ hlt1).trans k0
  have k1' : (w.alloc (.cells #[.int .u64 s, .int .u64 e, .int .i64 p] 36)).cell? ⟨b2, 0, none⟩ = some (.int .u64 y) := (World.cell?_alloc_lt _ _ _ hlt2).trans k1
  obtain ⟨q1, hq1⟩ : ∃ q, decide (s < x) = q := ⟨_, rfl⟩
  obtain ⟨q2, hq2⟩ : ∃ q, decide (y < e) = q := ⟨_, rfl⟩
  rw [hq1, hq2]
  cases q1
  · go_enter Try.func37, Try.ntmps37
    go_wp2_with fail
    go_ret
    exact ⟨rfl, (Fr.refl _ _).alloc _⟩
  · go_enter Try.func37, Try.ntmps37
    go_wp2_with fail
    go_ret
    exact ⟨rfl, (Fr.refl _ _).alloc _⟩
theorem contains_free (v : Value) (l : List Rg) (b b2 : Nat) (p : Rg → Bool) (B : Nat) (w : World) (h : OwnR w B v l) (hn : l.length ≤ 5000) (hp : Pred w 37 #[.pointer (some ⟨b, 0, none⟩), .pointer (some ⟨b2, 0, none⟩)] p) : Calls Try.prog 36 #[v, .func (.func 37) #[] #[.pointer (some ⟨b, 0, none⟩), .pointer (some ⟨b2, 0, none⟩)]] w fun e w' => e = .returned (.bool (decide (0 ≤ idxL p l 0))) ∧ Fr (fun _ => False) w w' := by
  obtain ⟨A, c, rfl, _, _⟩ := h.form
  have H := Lib.hid h
  have HP := Lib.hid hp
  have HN := Lib.hid hn
  clear h hp hn
  go_enter Try.func36, Try.ntmps36
  go_wp2_with fail
  refine (index_free _ l b b2 p B _ H.out HN.out HP.out).mono ?_
  rintro e wq ⟨rfl, hfq⟩
  have HFQ := Lib.hid hfq
  clear hfq
  go_wp2_with fail
  go_ret
  exact ⟨rfl, HFQ.out⟩
end Go.Proofs.Ytnaiccgbjcppaaa.Rg
