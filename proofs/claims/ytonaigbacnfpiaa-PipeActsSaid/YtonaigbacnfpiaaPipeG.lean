/- What PipeActs reads of its acts; what it holds of both pipes; both pipes' Write and Read in one form. Plain, but for what names the program's types. -/
import Derived.Test.YtonaigbacnfpiaaPipeF
import Derived.Deep.Slices
namespace Go.Proofs.Ytonaigbacnfpiaa.Pi
open Go Go.RowKit Go.Proofs.YtonaigbacnfpiaaW.PrintWords Go.Proofs.YtonaigbacnfpiaaW.PrintLast Go.Proofs.YtonaigbacnfpiaaW.PrintMore
open Go.Proofs.Ytonaigbacnfpiaa.Hp
open Go.ChangeShapes Go.WideShapes Go.Deep
set_option linter.unusedVariables false
set_option linter.unusedSimpArgs false
/-- An act as it lies in memory. -/
structure ActAt (w : World) (x : Addr) (d n t : Int) (B : Option Addr) (bl bc : Nat) (b : List Int) (wr : Bool) : Prop where
  c0 : w.cell? (x.add 0) = some (.int .i64 d)
  c1 : w.cell? (x.add 1) = some (.int .i64 n)
  c2 : w.cell? (x.add 2) = some (.int .u8 t)
  c3 : w.cell? (x.add 3) = some (.slice B bl bc)
  c4 : w.cell? (x.add 4) = some (.bool wr)
  d_ : (Lit.int .i64 d).wf = true
  n_ : (Lit.int .i64 n).wf = true
  t_ : (Lit.int .u8 t).wf = true
  b_ : ReadsInt w .u8 B bl b
  bc_ : bl ≤ bc
def Acts (w : World) (v : Value) : Prop := ∃ a len cap, v = .slice a len cap ∧ len ≤ maxLen ∧
  ∀ i, i < len → ∃ x d n t B bl bc b wr, a = some x ∧ ActAt w (x.add (i * 5)) d n t B bl bc b wr
theorem open_act {H : Type} {enc : TypeId × Value → H} {W : World} {m : Nat} {x : Addr} {cs : List Value} {y : DataW H × List MemPlace} (hc : W.cells? 0 x 5 = some cs)
    (h : DataW.trod enc Try.prog W 0 (fun _ => true) true m 38 cs = some y) : ∃ d n t B bl bc b wr, ActAt W x d n t B bl bc b wr := by
  obtain ⟨_, hl, hcell⟩ := World.cells?_some hc
  obtain ⟨xs, m', _, _, _, hxl, hf⟩ := DataW.trod_struct Try.underlying38 h
  have q3 : Try.prog.cellsOf 3 = 1 := by kernel_rfl
  have q5 : Try.prog.cellsOf 5 = 1 := by kernel_rfl
  have q31 : Try.prog.cellsOf 31 = 1 := by kernel_rfl
  have q4 : Try.prog.cellsOf 4 = 1 := by kernel_rfl
  match cs, hl with
  | [c0, c1, c2, c3, c4], _ =>
  match xs, hxl with
  | [y0, y1, y2, y3, y4], _ =>
  have f0 := hf 0 _ rfl
  have f1 := hf 1 _ rfl
  have f2 := hf 2 _ rfl
  have f3 := hf 3 _ rfl
  have f4 := hf 4 _ rfl
  simp [q3, q5, q31, q4] at f0 f1 f2 f3 f4
  obtain ⟨d, e0, _, w0⟩ := DataW.trod_int Try.underlying3 f0
  obtain ⟨n, e1, _, w1⟩ := DataW.trod_int Try.underlying3 f1
  obtain ⟨t, e2, _, w2⟩ := DataW.trod_int Try.underlying5 f2
  obtain ⟨wr, e4, _⟩ := DataW.trod_bool Try.underlying4 f4
  simp at e0 e1 e2 e4
  subst e0 e1 e2 e4
  have h0 := hcell 0 (by decide)
  have h1 := hcell 1 (by decide)
  have h2 := hcell 2 (by decide)
  have h3 := hcell 3 (by decide)
  have h4 := hcell 4 (by decide)
  simp at h0 h1 h2 h3 h4
  rcases open_ints Try.underlying31 Try.underlying5 (by kernel_rfl) f3 with ⟨hcs, _⟩ | ⟨z, l, c, zs, hcs, _, hle, hm, hz, _, hzc, hwz⟩
  · simp at hcs
    subst hcs
    exact ⟨d, n, t, none, 0, 0, [], wr, h0, h1, h2, h3, h4, w0, w1, w2, ⟨rfl, by decide, fun h => absurd h (by decide)⟩, Nat.le_refl _⟩
  · simp at hcs
    subst hcs
    obtain ⟨l', e, hr, _, _, hcap⟩ := ReadsInt.ofRowC (k := .u8) (w := W) (a := some z) (len := l) (cap := c) (zs := zs) (.inr ⟨z, rfl, hle, hm, by simpa using hz, hzc, hwz⟩)
    subst e
    exact ⟨d, n, t, some z, l'.length, c, l', wr, h0, h1, h2, h3, h4, w0, w1, w2, hr, hcap⟩
theorem open_acts {H : Type} {enc : TypeId × Value → H} {W : World} {base : Nat} {v : Value} {d : DataW H} {p : List MemPlace} (hv : Value.okWide Try.prog W .any base 33 v)
    (h : DataW.Trod enc Try.prog W 0 (fun _ => true) true 33 v d p) : Acts W v := by
  obtain ⟨a, len, cap, rfl⟩ := okWide_slice Try.underlying33 hv
  obtain ⟨fuel, hf⟩ := h
  have q : Try.prog.cellsOf 38 = 5 := by kernel_rfl
  rcases open_slice Try.underlying33 hf with ⟨hcs, _⟩ | ⟨x, l, c, m, n, D, Pl, hcs, _, hle, hm, hmm, _, hi⟩
  · simp [Value.cells] at hcs
    obtain ⟨rfl, rfl, rfl⟩ := hcs
    exact ⟨none, 0, 0, rfl, by decide, fun i hi => absurd hi (Nat.not_lt_zero _)⟩
  · simp [Value.cells] at hcs
    obtain ⟨rfl, rfl, rfl⟩ := hcs
    simp at hmm
    subst hmm
    refine ⟨_, _, _, rfl, Nat.le_trans hle hm, fun i hil => ?_⟩
    obtain ⟨cs', hc, ht⟩ := hi i (by omega)
    rw [q] at hc
    obtain ⟨d, n, t, B, bl, bc, b, wr, h⟩ := open_act hc ht
    exact ⟨x, d, n, t, B, bl, bc, b, wr, rfl, h⟩
theorem ActAt.below {w w' : World} {x : Addr} {d n t : Int} {B : Option Addr} {bl bc : Nat} {b : List Int} {wr : Bool} (h : ActAt w x d n t B bl bc b wr) (hb : Below w.heap.size w w') : ActAt w' x d n t B bl bc b wr :=
  ⟨pw_cell_below hb h.c0, pw_cell_below hb h.c1, pw_cell_below hb h.c2, pw_cell_below hb h.c3, pw_cell_below hb h.c4, h.d_, h.n_, h.t_, h.b_.below hb, h.bc_⟩
/-- What the law holds of both pipes. -/
structure PInv (w0 w : World) (g1 g2 : Nat) (v1 v2 : Value) (l1 : List Int) (r1 q1 : Int) (l2 : List Int) (r2 q2 : Int) : Prop where
  p1 : Pipe w g1 v1 l1 r1 q1
  p2 : RPipe w g2 v2 l2 r2 q2
  len1 : l1.length ≤ 4096
  low1 : w0.heap.size ≤ g1
  low2 : w0.heap.size ≤ g2
  row1 : ∀ k, v1.ownBlock = some k → w0.heap.size ≤ k
  row2 : ∀ k, v2.ownBlock = some k → w0.heap.size ≤ k
  apart : ∀ k, v1.ownBlock = some k → v2.ownBlock ≠ some k
  below : Below w0.heap.size w0 w
theorem PInv.same {w0 w w' : World} {g1 g2 : Nat} {v1 v2 : Value} {l1 l2 : List Int} {r1 q1 r2 q2 : Int} (h : PInv w0 w g1 g2 v1 v2 l1 r1 q1 l2 r2 q2) (hf : Fr (fun _ => False) w w') : PInv w0 w' g1 g2 v1 v2 l1 r1 q1 l2 r2 q2 :=
  ⟨h.p1.fr hf id (fun _ _ => id), h.p2.fr hf id (fun _ _ => id), h.len1, h.low1, h.low2, h.row1, h.row2, h.apart, Fr.below h.below hf (fun _ _ => id)⟩
theorem PInv.ne {w0 w : World} {g1 g2 : Nat} {v1 v2 : Value} {l1 l2 : List Int} {r1 q1 r2 q2 : Int} (h : PInv w0 w g1 g2 v1 v2 l1 r1 q1 l2 r2 q2) : g2 ≠ g1 := h.p2.blk.ne h.p1.blk (by decide)
theorem PInv.step1 {w0 w w' : World} {g1 g2 : Nat} {v1 v2 v1' : Value} {l1 l2 l1' : List Int} {r1 q1 r2 q2 r1' q1' : Int} (h : PInv w0 w g1 g2 v1 v2 l1 r1 q1 l2 r2 q2) (hp : Pipe w' g1 v1' l1' r1' q1') (hl : l1'.length ≤ 4096)
    (hf : Fr (fun k => k = g1 ∨ v1.ownBlock = some k) w w') (hv : v1'.ownBlock = v1.ownBlock ∨ ∀ k, v1'.ownBlock = some k → w.heap.size ≤ k) : PInv w0 w' g1 g2 v1' v2 l1' r1' q1' l2 r2 q2 := by
  refine ⟨hp, h.p2.fr hf ?_ ?_, hl, h.low1, h.low2, fun k hk => ?_, h.row2, fun k hk => ?_, Fr.below h.below hf (fun k hk e => ?_)⟩
  · rintro (e | e)
    · exact h.ne e
    · exact h.p1.row.ne_blk h.p2.blk (by decide) g2 e rfl
  · rintro b hb (e | e)
    · exact h.p2.row.ne_blk h.p1.blk (by decide) b hb e
    · exact h.apart b e hb
  · rcases hv with e | hb
    · exact h.row1 k (e ▸ hk)
    · exact Nat.le_trans h.below.size (hb k hk)
  · rcases hv with e | hb
    · exact h.apart k (e ▸ hk)
    · intro e2
      have := h.p2.row.lt k e2
      have := hb k hk
      omega
  · rcases e with e | e
    · have := h.low1; omega
    · have := h.row1 k e; omega
theorem PInv.step2 {w0 w w' : World} {g1 g2 : Nat} {v1 v2 v2' : Value} {l1 l2 l2' : List Int} {r1 q1 r2 q2 r2' q2' : Int} (h : PInv w0 w g1 g2 v1 v2 l1 r1 q1 l2 r2 q2) (hp : RPipe w' g2 v2' l2' r2' q2')
    (hf : Fr (fun k => k = g2) w w') (hv : v2'.ownBlock = v2.ownBlock ∨ ∀ k, v2'.ownBlock = some k → w.heap.size ≤ k) : PInv w0 w' g1 g2 v1 v2' l1 r1 q1 l2' r2' q2' := by
  refine ⟨h.p1.fr hf (fun e => h.ne e.symm) (fun b hb e => h.p1.row.ne_blk h.p2.blk (by decide) b hb e), hp, h.len1, h.low1, h.low2, h.row1, fun k hk => ?_, fun k hk => ?_, Fr.below h.below hf (fun k hk e => ?_)⟩
  · rcases hv with e | hb
    · exact h.row2 k (e ▸ hk)
    · exact Nat.le_trans h.below.size (hb k hk)
  · rcases hv with e | hb
    · rw [e]; exact h.apart k hk
    · intro e2
      have := h.p1.row.lt k hk
      have := hb k e2
      omega
  · subst e
    have := h.low2
    omega
theorem rwrite_any (w : World) (g : Nat) (v : Value) (l : List Int) (r q : Int) (A : Option Addr) (c : Nat) (b : List Int) (h : RPipe w g v l r q) (hb : ReadsInt w .u8 A b.length b) (hc : b.length ≤ c) (hl : l.length ≤ 4096) (hbb : b.length ≤ 1000000) :
    Calls Try.prog 14 #[.pointer (some ⟨g, 0, none⟩), .slice A b.length c] w fun e w' => ∃ v', e = .returned (.tuple #[.int .i64 (wN l.length r b.length), .int .i64 (wE l.length r b.length)]) ∧
      RPipe w' g v' (l ++ b.take (wN l.length r b.length)) r q ∧ Fr (fun k => k = g) w w' ∧ (v'.ownBlock = v.ownBlock ∨ ∀ k, v'.ownBlock = some k → w.heap.size ≤ k) := by
  by_cases hz : wN l.length r b.length = 0
  · rw [hz, List.take_zero, List.append_nil]
    refine (rwrite_none w g v l r q A c b _ h hb.2.1 hl rfl hz).mono ?_
    rintro e w' ⟨rfl, rfl⟩
    exact ⟨v, rfl, h, Fr.refl _ _, .inl rfl⟩
  · have hz' := hz
    unfold wN at hz
    by_cases hr0 : r = 0
    · rw [if_pos hr0] at hz; exact absurd rfl hz
    · rw [if_neg hr0] at hz
      by_cases hb0 : b.length = 0
      · rw [if_pos hb0] at hz; exact absurd rfl hz
      · rw [if_neg hb0] at hz
        by_cases hw : l.length = 4096 ∨ (b.length ≤ 512 ∧ 4096 - l.length < b.length)
        · rw [if_pos hw] at hz; exact absurd rfl hz
        · have he : wE l.length r b.length = 0 := by unfold wE; rw [if_neg hr0, if_neg hb0, if_neg hw]
          have hn : wN l.length r b.length = min b.length (4096 - l.length) := by unfold wN; rw [if_neg hr0, if_neg hb0, if_neg hw]
          rw [he, hn]
          refine (rwrite_some w g v l r q A c b _ h hb hc hr0 (by omega) hbb (by omega) (by omega) rfl).mono ?_
          rintro e w' ⟨v', rfl, hp, hf, hv⟩
          exact ⟨v', rfl, hp, hf, .inr hv⟩
/-- How many bytes Read takes. -/
def rN (n : Int) (len : Nat) : Nat := if n ≤ 0 then 0 else if (len : Int) < n then len else n.toNat
theorem rN_le (n : Int) (len : Nat) : rN n len ≤ len := by unfold rN; split; omega; split <;> omega
def ReadsAs (f : Nat) (P : World → Value → List Int → Prop) (S : Nat → Prop) (g : Nat) (w : World) (n : Int) (l : List Int) (q : Int) (own : Option Nat) (e : Ending) (w' : World) : Prop :=
  ∃ u v', e = .returned (.tuple #[u, .int .i64 (rE n l.length q)]) ∧ Row w' 5 .u8 u (l.take (rN n l.length)) ∧ P w' v' (l.drop (rN n l.length)) ∧ Fr S w w' ∧ (v'.ownBlock = own ∨ ∀ k, v'.ownBlock = some k → w.heap.size ≤ k) ∧ (∀ k, u.ownBlock = some k → w.heap.size ≤ k)
theorem rE_pos (n : Int) (len : Nat) (q : Int) (hn : 0 < n) (hl : 0 < len) : rE n len q = 0 := by
  unfold rE; rw [if_neg (by omega), if_neg (by omega), if_neg (by omega)]
theorem read_any (w : World) (g : Nat) (v : Value) (l : List Int) (r q n : Int) (h : Pipe w g v l r q) (hl4 : l.length ≤ 4096) :
    Calls Try.prog 11 #[.pointer (some ⟨g, 0, none⟩), .int .i64 n] w (ReadsAs 0 (fun w' v' d => Pipe w' g v' d r q) (fun k => k = g) g w n l q v.ownBlock) := by
  by_cases hn : n ≤ 0 ∨ l = []
  · refine (read_none w g v l r q n h hn).mono ?_
    rintro e w' ⟨rfl, rfl⟩
    have e0 : rN n l.length = 0 := by unfold rN; rcases hn with h | h; rw [if_pos h]; subst h; simp
    refine ⟨.slice none 0 0, v, rfl, ?_, ?_, Fr.refl _ _, .inl rfl, by simp [Value.ownBlock]⟩
    · rw [e0]; exact Row.nil _ _ _
    · rw [e0]; exact h
  · have h1 : 0 < n := by omega
    have h2 : 0 < l.length := List.length_pos_iff.2 (fun e => hn (.inr e))
    refine (read_some w g v l r q n (rN n l.length) h h1 h2 hl4 (rN_le _ _) (by unfold rN; rw [if_neg (by omega)]; split <;> omega)).mono ?_
    rintro e w' ⟨u, v', rfl, hu, hp, hf, hv, hn'⟩
    exact ⟨u, v', by rw [rE_pos n _ q h1 h2], hu, hp, hf, .inr hv, hn'⟩
theorem rread_any (w : World) (g : Nat) (v : Value) (l : List Int) (r q n : Int) (h : RPipe w g v l r q) (hl4 : l.length ≤ 4096) :
    Calls Try.prog 12 #[.pointer (some ⟨g, 0, none⟩), .int .i64 n] w (ReadsAs 1 (fun w' v' d => RPipe w' g v' d r q) (fun k => k = g) g w n l q v.ownBlock) := by
  by_cases hn : n ≤ 0 ∨ l = []
  · refine (rread_none w g v l r q n h hn).mono ?_
    rintro e w' ⟨rfl, rfl⟩
    have e0 : rN n l.length = 0 := by unfold rN; rcases hn with h | h; rw [if_pos h]; subst h; simp
    refine ⟨.slice none 0 0, v, rfl, ?_, ?_, Fr.refl _ _, .inl rfl, by simp [Value.ownBlock]⟩
    · rw [e0]; exact Row.nil _ _ _
    · rw [e0]; exact h
  · have h1 : 0 < n := by omega
    have h2 : 0 < l.length := List.length_pos_iff.2 (fun e => hn (.inr e))
    refine (rread_some w g v l r q n (rN n l.length) h h1 h2 hl4 (rN_le _ _) (by unfold rN; rw [if_neg (by omega)]; split <;> omega)).mono ?_
    rintro e w' ⟨u, v', rfl, hu, hp, hf, hv, hn'⟩
    exact ⟨u, v', by rw [rE_pos n _ q h1 h2], hu, hp, hf, .inr hv, hn'⟩
theorem own_conv {v v' : Value} {n : Nat} (h : v'.ownBlock = v.ownBlock ∨ ∃ k, v'.ownBlock = some k ∧ n ≤ k) : v'.ownBlock = v.ownBlock ∨ ∀ k, v'.ownBlock = some k → n ≤ k := by
  rcases h with h | ⟨b, h, hb⟩
  · exact .inl h
  · exact .inr (fun k hk => by rw [hk] at h; injection h with h; omega)
theorem wN_le (n : Nat) (r : Int) (m : Nat) (h : n ≤ 4096) : n + wN n r m ≤ 4096 ∧ wN n r m ≤ m := by
  unfold wN; split
  · omega
  · split
    · omega
    · split <;> omega
def WritesAs (P : World → Value → Prop) (S : Nat → Prop) (w : World) (nn : Nat) (ee : Int) (own : Option Nat) (e : Ending) (w' : World) : Prop :=
  ∃ v', e = .returned (.tuple #[.int .i64 nn, .int .i64 ee]) ∧ P w' v' ∧ Fr S w w' ∧ (v'.ownBlock = own ∨ ∀ k, v'.ownBlock = some k → w.heap.size ≤ k)
theorem write_as (w : World) (g : Nat) (v : Value) (l l' : List Int) (r q ee : Int) (nn : Nat) (A : Option Addr) (c : Nat) (b : List Int) (h : Pipe w g v l r q) (hb : ReadsInt w .u8 A b.length b) (hc : b.length ≤ c) (hl : l.length ≤ 4096)
    (hn : nn = wN l.length r b.length) (he : ee = wE l.length r b.length) (hl' : l' = l ++ b.take nn) :
    Calls Try.prog 10 #[.pointer (some ⟨g, 0, none⟩), .slice A b.length c] w (WritesAs (fun w' v' => Pipe w' g v' l' r q) (fun k => k = g ∨ v.ownBlock = some k) w nn ee v.ownBlock) := by
  subst hn he hl'
  exact (write_any w g v l r q A c b h hb hc hl).mono (fun e w' ⟨v', h1, h2, h3, h4⟩ => ⟨v', h1, h2, h3, own_conv h4⟩)
theorem rwrite_as (w : World) (g : Nat) (v : Value) (l l' : List Int) (r q ee : Int) (nn : Nat) (A : Option Addr) (c : Nat) (b : List Int) (h : RPipe w g v l r q) (hb : ReadsInt w .u8 A b.length b) (hc : b.length ≤ c) (hl : l.length ≤ 4096) (hbb : b.length ≤ 1000000)
    (hn : nn = wN l.length r b.length) (he : ee = wE l.length r b.length) (hl' : l' = l ++ b.take nn) :
    Calls Try.prog 14 #[.pointer (some ⟨g, 0, none⟩), .slice A b.length c] w (WritesAs (fun w' v' => RPipe w' g v' l' r q) (fun k => k = g) w nn ee v.ownBlock) := by
  subst hn he hl'
  exact (rwrite_any w g v l r q A c b h hb hc hl hbb).mono (fun e w' ⟨v', h1, h2, h3, h4⟩ => ⟨v', h1, h2, h3, h4⟩)
def ReadAs (P : World → Value → Prop) (g : Nat) (w : World) (ee : Int) (o : List Int) (own : Option Nat) (e : Ending) (w' : World) : Prop :=
  ∃ u v', e = .returned (.tuple #[u, .int .i64 ee]) ∧ Row w' 5 .u8 u o ∧ P w' v' ∧ Fr (fun k => k = g) w w' ∧ (v'.ownBlock = own ∨ ∀ k, v'.ownBlock = some k → w.heap.size ≤ k) ∧ (∀ k, u.ownBlock = some k → w.heap.size ≤ k)
theorem read_as (w : World) (g : Nat) (v : Value) (l o d : List Int) (r q n ee : Int) (h : Pipe w g v l r q) (hl4 : l.length ≤ 4096) (ho : o = l.take (rN n l.length)) (hd : d = l.drop (rN n l.length)) (he : ee = rE n l.length q) :
    Calls Try.prog 11 #[.pointer (some ⟨g, 0, none⟩), .int .i64 n] w (ReadAs (fun w' v' => Pipe w' g v' d r q) g w ee o v.ownBlock) := by
  subst ho hd he
  exact (read_any w g v l r q n h hl4).mono (fun e w' ⟨u, v', h1, h2, h3, h4, h5, h6⟩ => ⟨u, v', h1, h2, h3, h4, h5, h6⟩)
theorem rread_as (w : World) (g : Nat) (v : Value) (l o d : List Int) (r q n ee : Int) (h : RPipe w g v l r q) (hl4 : l.length ≤ 4096) (ho : o = l.take (rN n l.length)) (hd : d = l.drop (rN n l.length)) (he : ee = rE n l.length q) :
    Calls Try.prog 12 #[.pointer (some ⟨g, 0, none⟩), .int .i64 n] w (ReadAs (fun w' v' => RPipe w' g v' d r q) g w ee o v.ownBlock) := by
  subst ho hd he
  exact (rread_any w g v l r q n h hl4).mono (fun e w' ⟨u, v', h1, h2, h3, h4, h5, h6⟩ => ⟨u, v', h1, h2, h3, h4, h5, h6⟩)
/-- b, n times over. -/
def reps (n : Nat) (b : List Int) : List Int := (List.replicate n b).flatten
theorem reps_zero (b : List Int) : reps 0 b = [] := rfl
theorem reps_succ (n : Nat) (b : List Int) : reps (n + 1) b = reps n b ++ b := by unfold reps; rw [List.replicate_succ', List.flatten_append]; simp
theorem reps_length (n : Nat) (b : List Int) : (reps n b).length = n * b.length := by unfold reps; simp
end Go.Proofs.Ytonaigbacnfpiaa.Pi
