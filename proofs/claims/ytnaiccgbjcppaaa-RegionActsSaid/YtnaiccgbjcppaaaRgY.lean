/- What RegionActs reads of its acts; Unmap and Protect on both sides (plain); whole, Unmap, span: walked. -/
import Derived.Test.YtnaiccgbjcppaaaRgX
import Derived.Deep.Slices
import Derived.OpenShut
import Derived.WideLaws
namespace Go.Proofs.Ytnaiccgbjcppaaa.Rg
open Go.ChangeShapes Go.WideShapes Go.Deep
open Go Go.RowKit Go.Proofs.YtnaiccgbjcppaaaW.PrintWords Go.Proofs.YtnaiccgbjcppaaaW.PrintLast Go.Proofs.YtnaiccgbjcppaaaW.PrintMore
open Go.Proofs.Ytnaiccgbjcppaaa.Hp
attribute [local go_sem] max2_int min2_int max_two min_two max_three min_three max_four min_four
set_option linter.unusedVariables false
set_option linter.unusedSimpArgs false
/-- An act as it lies in memory. -/
structure ActAt (w : World) (x : Addr) (d a n p : Int) (odd : Bool) : Prop where
  c0 : w.cell? (x.add 0) = some (.int .i64 d)
  c1 : w.cell? (x.add 1) = some (.int .i64 a)
  c2 : w.cell? (x.add 2) = some (.int .i64 n)
  c3 : w.cell? (x.add 3) = some (.int .i64 p)
  c4 : w.cell? (x.add 4) = some (.bool odd)
def Acts (w : World) (v : Value) : Prop := ∃ a len cap, v = .slice a len cap ∧ len ≤ maxLen ∧
  ∀ i, i < len → ∃ x d b n p odd, a = some x ∧ ActAt w (x.add (i * 5)) d b n p odd
theorem open_act {H : Type} {enc : TypeId × Value → H} {W : World} {m : Nat} {x : Addr} {cs : List Value} {y : DataW H × List MemPlace} (hc : W.cells? 0 x 5 = some cs)
    (h : DataW.trod enc Try.prog W 0 (fun _ => true) true m 56 cs = some y) : ∃ d a n p odd, ActAt W x d a n p odd := by
  obtain ⟨_, hl, hcell⟩ := World.cells?_some hc
  obtain ⟨xs, m', _, _, _, hxl, hf⟩ := DataW.trod_struct Try.underlying56 h
  have q3 : Try.prog.cellsOf 3 = 1 := by kernel_rfl
  have q4 : Try.prog.cellsOf 4 = 1 := by kernel_rfl
  match cs, hl with
  | [c0, c1, c2, c3, c4], _ =>
  match xs, hxl with
  | [y0, y1, y2, y3, y4], _ =>
  have f0 := hf 0 _ rfl
  have f1 := hf 1 _ rfl
  have f2 := hf 2 _ rfl
  have f3 := hf 3 _ rfl
  have f4 := hf 4 _ rfl
  simp [q3, q4] at f0 f1 f2 f3 f4
  obtain ⟨d, e0, _, w0⟩ := DataW.trod_int Try.underlying3 f0
  obtain ⟨n, e1, _, w1⟩ := DataW.trod_int Try.underlying3 f1
  obtain ⟨t, e2, _, w2⟩ := DataW.trod_int Try.underlying3 f2
  obtain ⟨p, e3, _, w3⟩ := DataW.trod_int Try.underlying3 f3
  obtain ⟨wr, e4, _⟩ := DataW.trod_bool Try.underlying4 f4
  simp at e0 e1 e2 e3 e4
  subst e0 e1 e2 e3 e4
  have h0 := hcell 0 (by decide)
  have h1 := hcell 1 (by decide)
  have h2 := hcell 2 (by decide)
  have h3 := hcell 3 (by decide)
  have h4 := hcell 4 (by decide)
  simp at h0 h1 h2 h3 h4
  exact ⟨d, n, t, p, wr, h0, h1, h2, h3, h4⟩
theorem open_acts {H : Type} {enc : TypeId × Value → H} {W : World} {base : Nat} {v : Value} {d : DataW H} {p : List MemPlace} (hv : Value.okWide Try.prog W .any base 53 v)
    (h : DataW.Trod enc Try.prog W 0 (fun _ => true) true 53 v d p) : Acts W v := by
  obtain ⟨a, len, cap, rfl⟩ := okWide_slice Try.underlying53 hv
  obtain ⟨fuel, hf⟩ := h
  have q : Try.prog.cellsOf 56 = 5 := by kernel_rfl
  rcases open_slice Try.underlying53 hf with ⟨hcs, _⟩ | ⟨x, l, c, m, n, D, Pl, hcs, _, hle, hm, hmm, _, hi⟩
  · simp [Value.cells] at hcs
    obtain ⟨rfl, rfl, rfl⟩ := hcs
    exact ⟨none, 0, 0, rfl, by decide, fun i hi => absurd hi (Nat.not_lt_zero _)⟩
  · simp [Value.cells] at hcs
    obtain ⟨rfl, rfl, rfl⟩ := hcs
    simp at hmm
    subst hmm
    refine ⟨_, _, _, rfl, Nat.le_trans hle hm, fun i hil => ?_⟩
    obtain ⟨cs', hc, ht⟩ := hi i (by omega)
    rw [q] at hc
    obtain ⟨d, b, n, p, odd, k⟩ := open_act hc ht
    exact ⟨x, d, b, n, p, odd, rfl, k⟩
theorem cell_fr {w w' : World} {a : Addr} {v : Value} (hf : Fr (fun _ => False) w w') (h : w.cell? a = some v) : w'.cell? a = some v := by
  have h1 := World.block_lt_of_cell? w _ h
  rw [World.cell?_of_block (w := w) (hf.block a.block h1 id)]
  exact h
theorem ActAt.fr {w w' : World} {x : Addr} {d a n p : Int} {odd : Bool} (k : ActAt w x d a n p odd) (hf : Fr (fun _ => False) w w') : ActAt w' x d a n p odd :=
  ⟨cell_fr hf k.c0, cell_fr hf k.c1, cell_fr hf k.c2, cell_fr hf k.c3, cell_fr hf k.c4⟩
/-! ### Plain: Unmap and Protect on both sides; how many pages. -/
theorem Pair.unmap {L : List Rg} {P : List Pg} {a N : Nat} (h : Pair L P) (hN : 0 < N) (ha : a + N ≤ 1000) (hn : P.length ≤ 127) : unE L ((a : Int) * 4096) (((a + N : Nat) : Int) * 4096) = 0 ∧ Pair (unL L ((a : Int) * 4096) (((a + N : Nat) : Int) * 4096)) (withoutP ((a : Int) * 4096) (((a + N : Nat) : Int) * 4096) P) := by
  have hsp : spanB ((a : Int) * 4096) (((a + N : Nat) : Int) * 4096) = true := by
    have := mapB_at (p := 0) hN ha (by omega)
    unfold mapB at this
    simp only [Bool.and_eq_true] at this
    exact this.1
  have hlen := h.len
  obtain ⟨f1, f2, f3, f4⟩ := un_fits h.cl hsp (by omega)
  refine ⟨f1, f2, ok_filter _ _ _ h.ok, h.sm.without _ _, fun y => by rw [f3, lk_filter a (a + N), h.eq], fun y q hq => ?_⟩
  rw [f3] at hq
  by_cases hy : (a : Int) * 4096 ≤ y ∧ y < ((a + N : Nat) : Int) * 4096
  · rw [if_pos hy] at hq
    cases hq
  · rw [if_neg hy] at hq
    exact h.pr y q hq
/-- The pages of a span with other permissions. -/
def setP (a b p : Int) (P : List Pg) : List Pg := P.map (fun x => if outB a b x = true then x else ⟨x.n, p, x.k⟩)
theorem setP_len (a b p : Int) (P : List Pg) : (setP a b p P).length = P.length := List.length_map ..
theorem set_pg (a b p : Int) (x : Pg) : (pgR (if outB a b x = true then x else ⟨x.n, p, x.k⟩)).s = (pgR x).s ∧ (pgR (if outB a b x = true then x else ⟨x.n, p, x.k⟩)).e = (pgR x).e := by
  by_cases h : outB a b x = true
  · rw [if_pos h]; exact ⟨rfl, rfl⟩
  · rw [if_neg h]; exact ⟨rfl, rfl⟩
theorem setP_ok (a b p : Int) (P : List Pg) (h : Okl (pm P)) : Okl (pm (setP a b p P)) := by
  refine ⟨fun r hr => ?_, ?_⟩
  · obtain ⟨z, hz, rfl⟩ := List.mem_map.1 hr
    obtain ⟨x, hx, rfl⟩ := List.mem_map.1 hz
    have h1 := h.val _ (List.mem_map.2 ⟨x, hx, rfl⟩)
    obtain ⟨e1, e2⟩ := set_pg a b p x
    unfold gd at h1 ⊢
    rw [e1, e2]
    exact h1
  · have h1 := h.srt
    unfold pm setP
    rw [List.pairwise_map] at h1
    rw [List.pairwise_map, List.pairwise_map]
    refine h1.imp fun {x y} hxy => ?_
    rw [(set_pg a b p x).2, (set_pg a b p y).1]
    exact hxy
theorem setP_lk (a b : Nat) (p : Int) (P : List Pg) (y : Int) : lk (pm (setP ((a : Int) * 4096) ((b : Int) * 4096) p P)) y = if (a : Int) * 4096 ≤ y ∧ y < (b : Int) * 4096 then (lk (pm P) y).map (fun _ => p) else lk (pm P) y := by
  induction P with
  | nil =>
    show none = if _ then none else none
    split <;> rfl
  | cons x t ih =>
    unfold pm setP at *
    rw [List.map_cons, List.map_cons, List.map_cons, lk_cons, lk_cons, ih]
    obtain ⟨e1, e2⟩ := set_pg ((a : Int) * 4096) ((b : Int) * 4096) p x
    have hiff : inR y (pgR (if outB ((a : Int) * 4096) ((b : Int) * 4096) x = true then x else ⟨x.n, p, x.k⟩)) ↔ inR y (pgR x) := by unfold inR; rw [e1, e2]
    by_cases hin : inR y (pgR x)
    · rw [if_pos (hiff.2 hin), if_pos hin]
      have hin2 : x.n * 4096 ≤ y ∧ y < x.n * 4096 + 4096 := hin
      by_cases ho : outB ((a : Int) * 4096) ((b : Int) * 4096) x = true
      · rw [if_pos ho, if_neg (by
          unfold outB at ho
          simp only [Bool.or_eq_true, decide_eq_true_eq] at ho
          omega)]
      · rw [if_neg ho, if_pos]
        · rfl
        · unfold outB at ho
          simp only [Bool.or_eq_true, decide_eq_true_eq] at ho
          omega
    · rw [if_neg (fun h => hin (hiff.1 h)), if_neg hin]
theorem setP_small (a b p : Int) (P : List Pg) (h : Small P) : Small (setP a b p P) := fun z hz => by
  obtain ⟨x, hx, rfl⟩ := List.mem_map.1 hz
  have h1 := h x hx
  by_cases ho : outB a b x = true
  · rw [if_pos ho]; exact h1
  · rw [if_neg ho]; exact h1
theorem Pair.prot {L L' : List Rg} {P : List Pg} {a N : Nat} {p x : Int} (h : Pair L P) (hN : 0 < N) (ha : a + N ≤ 1000) (hp : 0 ≤ p ∧ p ≤ 7) (hn : P.length ≤ 127) (hpr : protR L ((a : Int) * 4096) (((a + N : Nat) : Int) * 4096) p x L') :
    ((∀ y, (a : Int) * 4096 ≤ y → y < ((a + N : Nat) : Int) * 4096 → lk (pm P) y ≠ none) → x = 0 ∧ Pair L' (setP ((a : Int) * 4096) (((a + N : Nat) : Int) * 4096) p P)) ∧
    ((¬ ∀ y, (a : Int) * 4096 ≤ y → y < ((a + N : Nat) : Int) * 4096 → lk (pm P) y ≠ none) → x = 12 ∧ L' = L) := by
  have hb := mapB_at hN ha hp
  have hlen := h.len
  constructor
  · intro hall
    obtain ⟨f1, f2, f3, f4⟩ := prot_fits h.cl hb (by omega) (by omega) (fun y hy1 hy2 => by
      obtain ⟨q, hq⟩ := Option.ne_none_iff_exists'.1 (hall y hy1 hy2)
      rw [← h.eq] at hq
      exact ⟨q, hq, h.pr y q hq⟩) hpr
    refine ⟨f1, f2, setP_ok _ _ _ _ h.ok, setP_small _ _ _ _ h.sm, fun y => ?_, fun y q hq => ?_⟩
    · rw [f3, setP_lk a (a + N), h.eq]
      by_cases hy : (a : Int) * 4096 ≤ y ∧ y < ((a + N : Nat) : Int) * 4096
      · rw [if_pos hy, if_pos hy]
        obtain ⟨q, hq⟩ := Option.ne_none_iff_exists'.1 (hall y hy.1 hy.2)
        rw [hq]
        rfl
      · rw [if_neg hy, if_neg hy]
    · rw [f3] at hq
      by_cases hy : (a : Int) * 4096 ≤ y ∧ y < ((a + N : Nat) : Int) * 4096
      · rw [if_pos hy] at hq
        injection hq with hq
        omega
      · rw [if_neg hy] at hq
        exact h.pr y q hq
  · intro hall
    rcases hpr with ⟨h1, _⟩ | ⟨_, _, rfl, rfl⟩ | ⟨_, ⟨y, h1⟩, _⟩
    · rw [hb] at h1
      cases h1
    · exact ⟨rfl, rfl⟩
    · exfalso
      refine hall fun y hy1 hy2 hn => ?_
      obtain ⟨p', hp', _⟩ := ((first_spec h.cl.ok h1).2 rfl).2 y hy1 hy2
      rw [h.eq, hn] at hp'
      cases hp'
theorem pages_pm (P : List Pg) : pagesI (pm P) = P.length := by
  induction P with
  | nil => rfl
  | cons x t ih =>
    show ((x.n * 4096 + 4096) - x.n * 4096) / 4096 + pagesI (pm t) = _
    rw [ih, List.length_cons]
    omega
theorem pages_join (n : Nat) : ∀ l : List Rg, l.length = n → Okl l → pagesI (joinedL l) = pagesI l := by
  induction n with
  | zero =>
    intro l hn _
    obtain rfl := List.length_eq_zero_iff.1 hn
    rfl
  | succ n ihn =>
    intro l hn h
    rcases List.eq_nil_or_concat l with rfl | ⟨t, r, rfl⟩
    · cases hn
    rw [List.concat_eq_append] at *
    have ht : Okl t := ⟨fun x hx => h.val x (by simp [hx]), (List.pairwise_append.1 h.srt).1⟩
    have ih := ihn t (by simpa using hn) ht
    have hr : gd r := h.val r (by simp)
    have hok := (joined_all t ht).1
    rw [joinedL_snoc, pagesI_append, ← ih]
    obtain ⟨o, ho⟩ : ∃ o, joinedL t = o := ⟨_, rfl⟩
    rw [ho] at hok ⊢
    rcases List.eq_nil_or_concat o with rfl | ⟨M, q, rfl⟩
    · rw [joinStep_nil]
      simp [pagesI]
    · rw [List.concat_eq_append] at *
      have hq : gd q := hok.val q (by simp)
      rw [joinStep_snoc]
      by_cases hc : q.e = r.s ∧ q.p = r.p
      · rw [if_pos hc, pagesI_append, pagesI_append]
        unfold gd at *
        simp only [pagesI]
        omega
      · rw [if_neg hc, pagesI_append]
theorem Pair.pages {L : List Rg} {P : List Pg} (h : Pair L P) : pagesI L = P.length := by
  rw [← h.regs]
  unfold regsL
  rw [pages_join _ _ rfl h.ok, pages_pm]
/-- Pages in order with numbers within bounds are no more than these. -/
theorem sorted_len (P : List Pg) : ∀ lo hi : Int, lo ≤ hi → Okl (pm P) → (∀ x ∈ P, lo ≤ x.n ∧ x.n < hi) → (P.length : Int) ≤ hi - lo := by
  induction P with
  | nil => intro lo hi hlh _ _; simp; omega
  | cons x t ih =>
    intro lo hi hlh hok h
    have hx := h x (by simp)
    have hlt := hok.lt
    have h2 := ih (x.n + 1) hi (by omega) hok.tail (fun z hz => by
      have h3 := hlt (pgR z) (List.mem_map.2 ⟨z, hz, rfl⟩)
      have h4 := h z (by simp [hz])
      unfold pgR at h3
      simp only at h3
      omega)
    rw [List.length_cons]
    omega
theorem filter_split (f : Pg → Bool) (P : List Pg) : P.length = (P.filter f).length + (P.filter (fun x => !f x)).length := by
  induction P with
  | nil => rfl
  | cons x t ih =>
    cases hx : f x <;> simp [List.filter_cons, hx] <;> omega
theorem count_all {P : List Pg} (h : Okl (pm P)) (a N : Nat) : ((P.length : Int) - ((withoutP ((a : Int) * 4096) (((a + N : Nat) : Int) * 4096) P).length : Int) = (N : Int)) ↔ ∀ y, (a : Int) * 4096 ≤ y → y < ((a + N : Nat) : Int) * 4096 → lk (pm P) y ≠ none := by
  obtain ⟨I, hI⟩ : ∃ I, P.filter (fun x => !outB ((a : Int) * 4096) (((a + N : Nat) : Int) * 4096) x) = I := ⟨_, rfl⟩
  have hlen : (P.length : Int) - ((withoutP ((a : Int) * 4096) (((a + N : Nat) : Int) * 4096) P).length : Int) = (I.length : Int) := by
    rw [← hI]
    unfold withoutP
    have := filter_split (outB ((a : Int) * 4096) (((a + N : Nat) : Int) * 4096)) P
    omega
  rw [hlen]
  have hIok : Okl (pm I) := by
    rw [← hI]
    refine ⟨fun r hr => ?_, h.srt.sublist (List.Sublist.map pgR List.filter_sublist)⟩
    obtain ⟨x, hx, rfl⟩ := List.mem_map.1 hr
    exact h.val _ (List.mem_map.2 ⟨x, (List.mem_filter.1 hx).1, rfl⟩)
  have hIm : ∀ x ∈ I, x ∈ P ∧ (a : Int) ≤ x.n ∧ x.n < ((a + N : Nat) : Int) := fun x hx => by
    rw [← hI] at hx
    obtain ⟨h1, h2⟩ := List.mem_filter.1 hx
    unfold outB at h2
    simp only [Bool.not_eq_true', Bool.or_eq_false_iff, decide_eq_false_iff_not] at h2
    exact ⟨h1, by omega, by omega⟩
  have hIlk : ∀ y, (a : Int) * 4096 ≤ y → y < ((a + N : Nat) : Int) * 4096 → (lk (pm I) y ≠ none ↔ lk (pm P) y ≠ none) := fun y hy1 hy2 => by
    constructor
    · intro h1 h2
      obtain ⟨p, hp⟩ := Option.ne_none_iff_exists'.1 h1
      obtain ⟨r, hr, hin, _⟩ := lk_ex _ _ _ hp
      obtain ⟨x, hx, rfl⟩ := List.mem_map.1 hr
      rw [lk_mem h (List.mem_map.2 ⟨x, (hIm x hx).1, rfl⟩) hin] at h2
      cases h2
    · intro h1 h2
      obtain ⟨p, hp⟩ := Option.ne_none_iff_exists'.1 h1
      obtain ⟨r, hr, hin, _⟩ := lk_ex _ _ _ hp
      obtain ⟨x, hx, rfl⟩ := List.mem_map.1 hr
      have hxI : x ∈ I := by
        rw [← hI]
        refine List.mem_filter.2 ⟨hx, ?_⟩
        unfold outB
        unfold inR pgR at hin
        simp only at hin
        simp only [Bool.not_eq_true', Bool.or_eq_false_iff, decide_eq_false_iff_not]
        omega
      rw [lk_mem hIok (List.mem_map.2 ⟨x, hxI, rfl⟩) hin] at h2
      cases h2
  have hle := sorted_len I (a : Int) ((a + N : Nat) : Int) (by omega) hIok (fun x hx => (hIm x hx).2)
  constructor
  · intro hN y hy1 hy2
    refine (hIlk y hy1 hy2).1 fun hn => ?_
    -- a missing page: the others are fewer
    have h1 : ∀ x ∈ I, x.n ≠ y / 4096 := fun x hx e => by
      rw [lk_mem hIok (List.mem_map.2 ⟨x, hx, rfl⟩) (y := y) (by unfold inR pgR; simp only; omega)] at hn
      cases hn
    have h2 : (I.length : Int) ≤ ((a + N : Nat) : Int) - (a : Int) - 1 := by
      clear hN hle hlen hIlk hI hn
      have gen : ∀ (J : List Pg) (lo : Int), lo ≤ y / 4096 → Okl (pm J) → (∀ x ∈ J, lo ≤ x.n ∧ x.n < ((a + N : Nat) : Int) ∧ x.n ≠ y / 4096) → (J.length : Int) ≤ ((a + N : Nat) : Int) - lo - 1 := by
        intro J
        induction J with
        | nil => intro lo hlo _ _; simp; omega
        | cons x t ih =>
          intro lo hlo hok hm
          have hx := hm x (by simp)
          have hlt := hok.lt
          have hmt : ∀ z ∈ t, x.n + 1 ≤ z.n ∧ z.n < ((a + N : Nat) : Int) ∧ z.n ≠ y / 4096 := fun z hz => by
            have h3 := hlt (pgR z) (List.mem_map.2 ⟨z, hz, rfl⟩)
            have h4 := hm z (by simp [hz])
            unfold pgR at h3
            simp only at h3
            omega
          rw [List.length_cons]
          rcases Int.lt_or_le x.n (y / 4096) with h5 | h5
          · have := ih (x.n + 1) (by omega) hok.tail hmt
            omega
          · have := sorted_len t (x.n + 1) ((a + N : Nat) : Int) (by omega) hok.tail (fun z hz => ⟨(hmt z hz).1, (hmt z hz).2.1⟩)
            omega
      exact gen I (a : Int) (by omega) hIok (fun x hx => ⟨(hIm x hx).2.1, (hIm x hx).2.2, h1 x hx⟩)
    omega
  · intro hall
    have h1 := pages_cover (pm I) ((a : Int) * 4096) (((a + N : Nat) : Int) * 4096) hIok (fun y hy1 hy2 => (hIlk y hy1 hy2).2 (hall y hy1 hy2))
    rw [pages_pm] at h1
    omega
end Go.Proofs.Ytnaiccgbjcppaaa.Rg
