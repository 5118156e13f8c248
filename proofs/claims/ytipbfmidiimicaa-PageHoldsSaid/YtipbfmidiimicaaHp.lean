/- Frames and blocks: which blocks of memory a call may have changed, and what a block that is known whole gives. Plain facts on worlds, no program. -/
import Derived.Test.YtipbfmidiimicaaWWords
namespace Go.Proofs.Ytipbfmidiimicaa.Hp
open Go Go.RowKit Go.Proofs.YtipbfmidiimicaaW.PrintWords
/-- From w to w' nothing has changed but blocks in S, and new ones. -/
structure Fr (S : Nat → Prop) (w w' : World) : Prop where
  os : w'.os = w.os
  tape : w'.tape = w.tape
  output : w'.output = w.output
  size : w.heap.size ≤ w'.heap.size
  block : ∀ k, k < w.heap.size → ¬ S k → w'.heap[k]? = w.heap[k]?
theorem Fr.refl (S : Nat → Prop) (w : World) : Fr S w w := ⟨rfl, rfl, rfl, Nat.le_refl _, fun _ _ _ => rfl⟩
theorem Fr.mono {S T : Nat → Prop} {a b : World} (h : Fr S a b) (hS : ∀ k, k < a.heap.size → S k → T k) : Fr T a b :=
  ⟨h.os, h.tape, h.output, h.size, fun k hk hn => h.block k hk (fun hs => hn (hS k hk hs))⟩
theorem Fr.trans {S T : Nat → Prop} {a b c : World} (h : Fr S a b) (k : Fr T b c) (hT : ∀ i, i < a.heap.size → T i → S i) : Fr S a c :=
  ⟨k.os.trans h.os, k.tape.trans h.tape, k.output.trans h.output, Nat.le_trans h.size k.size, fun i hi hn => (k.block i (Nat.lt_of_lt_of_le hi h.size) (fun ht => hn (hT i hi ht))).trans (h.block i hi hn)⟩
theorem Fr.of_below {S : Nat → Prop} {a b : World} (h : Below a.heap.size a b) : Fr S a b := ⟨h.os, h.tape, h.output, h.size, fun k hk _ => h.block k hk⟩
/-- Seen from an elder world: what may have changed lies above it. -/
theorem Fr.below {S : Nat → Prop} {o a b : World} (ho : Below o.heap.size o a) (h : Fr S a b) (hS : ∀ k, k < o.heap.size → ¬ S k) : Below o.heap.size o b :=
  ⟨h.os.trans ho.os, h.tape.trans ho.tape, h.output.trans ho.output, Nat.le_trans ho.size h.size, fun k hk => (h.block k (Nat.lt_of_lt_of_le hk ho.size) (hS k hk)).trans (ho.block k hk)⟩
theorem Fr.drewN {S : Nat → Prop} {a b : World} (h : Fr S a b) (n : Nat) : Fr S a (b.drewN n) := ⟨h.os, h.tape, h.output, h.size, h.block⟩
theorem Fr.drew {S : Nat → Prop} {a b : World} (h : Fr S a b) : Fr S a b.drew := ⟨h.os, h.tape, h.output, h.size, h.block⟩
theorem Fr.undrew {S : Nat → Prop} {a b : World} (h : Fr S a.drew b) : Fr S a b := ⟨h.os, h.tape, h.output, h.size, h.block⟩
theorem Fr.undrewN {S : Nat → Prop} {a b : World} {n : Nat} (h : Fr S (a.drewN n) b) : Fr S a b := ⟨h.os, h.tape, h.output, h.size, h.block⟩
theorem Fr.alloc {S : Nat → Prop} {a b : World} (h : Fr S a b) (o : Obj) : Fr S a (b.alloc o) :=
  h.trans (T := fun _ => False) (Fr.of_below ((Below.refl _ _).alloc (Nat.le_refl _) o)) (fun _ _ hf => hf.elim)
theorem Fr.setCell {S : Nat → Prop} {a b : World} (h : Fr S a b) {p : Addr} (hp : S p.block ∨ a.heap.size ≤ p.block) (u : Value) : Fr S a (b.setCell p u) :=
  h.trans (T := fun k => k = p.block) ⟨rfl, rfl, rfl, by simp [World.setCell], fun k _ hn => Below.heap_setCell _ _ _ _ hn⟩ (fun i hi e => by
    subst e
    rcases hp with hp | hp
    · exact hp
    · omega)
theorem Fr.grown {S : Nat → Prop} {a b c : World} (h : Fr S a b) {row : Option Nat} (hg : b.grownBy c row) (hr : ∀ k, row = some k → S k ∨ a.heap.size ≤ k) : Fr S a c :=
  h.trans (T := fun k => row = some k) ⟨hg.os, hg.tape, hg.output, hg.size, fun k hk hn => hg.block k hk (fun e => hn e.symm)⟩ (fun i hi e => by
    rcases hr i e with h1 | h1
    · exact h1
    · omega)
theorem Fr.drawn {S : Nat → Prop} {a b : World} (h : Drawn0 a b) : Fr S a b := Fr.of_below h.below
/-- Block g holds these cells, and may be written. -/
def Blk (w : World) (g : Nat) (t : TypeId) (cs : Array Value) : Prop := w.heap[g]? = some (.cells cs t (0, 0))
theorem Blk.fr {w w' : World} {g : Nat} {t : TypeId} {cs : Array Value} {S : Nat → Prop} (h : Blk w g t cs) (f : Fr S w w') (hg : ¬ S g) : Blk w' g t cs :=
  (f.block g (Array.getElem?_eq_some_iff.1 h).1 hg).trans h
theorem Blk.lt {w : World} {g : Nat} {t : TypeId} {cs : Array Value} (h : Blk w g t cs) : g < w.heap.size := (Array.getElem?_eq_some_iff.1 h).1
theorem Blk.cell {w : World} {g : Nat} {t : TypeId} {cs : Array Value} (h : Blk w g t cs) (i : Nat) : w.cell? ⟨g, i, none⟩ = cs[i]? := by
  unfold Blk at h
  simp [World.cell?, h]
theorem Blk.frozen {w : World} {g : Nat} {t : TypeId} {cs : Array Value} (h : Blk w g t cs) (i : Nat) : w.frozen? ⟨g, i, none⟩ = false := by
  unfold Blk at h
  simp [World.frozen?, h]
theorem Blk.ne {w : World} {g g' : Nat} {t t' : TypeId} {cs cs' : Array Value} (h : Blk w g t cs) (h' : Blk w g' t' cs') (ht : t ≠ t') : g ≠ g' := by
  intro e
  subst e
  unfold Blk at h h'
  rw [h] at h'
  injection h' with h'
  injection h' with _ h2
  exact ht h2
theorem Blk.drewN {w : World} {g : Nat} {t : TypeId} {cs : Array Value} (h : Blk w g t cs) (n : Nat) : Blk (w.drewN n) g t cs := h
theorem Blk.drew {w : World} {g : Nat} {t : TypeId} {cs : Array Value} (h : Blk w g t cs) : Blk w.drew g t cs := h
theorem Blk.alloc {w : World} {g : Nat} {t : TypeId} {cs : Array Value} (h : Blk w g t cs) (o : Obj) : Blk (w.alloc o) g t cs := h.fr (S := fun _ => False) ((Fr.refl _ _).alloc o) id
theorem Blk.new (w : World) (t : TypeId) (cs : Array Value) : Blk (w.alloc (.cells cs t (0, 0))) w.heap.size t cs := by
  show (w.heap.push _)[w.heap.size]? = _
  simp
theorem Blk.set {w : World} {g : Nat} {t : TypeId} {cs : Array Value} (h : Blk w g t cs) (i : Nat) (v : Value) : Blk (w.setCell ⟨g, i, none⟩ v) g t (cs.setIfInBounds i v) := by
  unfold Blk at *
  simp only [World.setCell, Array.getElem?_modify, if_true, h, Option.map_some]
  rfl
theorem Blk.set_ne {w : World} {g : Nat} {t : TypeId} {cs : Array Value} (h : Blk w g t cs) {p : Addr} (hp : g ≠ p.block) (v : Value) : Blk (w.setCell p v) g t cs :=
  (Below.heap_setCell w p v g hp).trans h
/-- The value v owns the row of numbers l. -/
def Row (w : World) (e : TypeId) (k : IntKind) (v : Value) (l : List Int) : Prop := w.ownsRow 0 e 1 v l.length (nums k l)
theorem Row.nil (w : World) (e : TypeId) (k : IntKind) : Row w e k (.slice none 0 0) [] := own_nil w 0 e 1
theorem Row.lt {w : World} {e : TypeId} {k : IntKind} {v : Value} {l : List Int} (h : Row w e k v l) : ∀ b, v.ownBlock = some b → b < w.heap.size := own_lt h
theorem Row.fr {w w' : World} {e : TypeId} {k : IntKind} {v : Value} {l : List Int} {S : Nat → Prop} (h : Row w e k v l) (f : Fr S w w') (hn : ∀ b, v.ownBlock = some b → ¬ S b) : Row w' e k v l := by
  obtain ⟨h1, h2⟩ := h
  refine ⟨h1, ?_⟩
  rcases h2 with h2 | ⟨g, cap, cur, rfl, hb, hh, h3⟩
  · exact .inl h2
  · refine .inr ⟨g, cap, cur, rfl, hb, ?_, h3⟩
    rw [f.block g (Array.getElem?_eq_some_iff.1 hh).1 (hn g rfl)]
    exact hh
theorem Row.slice {w : World} {e : TypeId} {k : IntKind} {v : Value} {l : List Int} (h : Row w e k v l) : ∃ A c, v = .slice A l.length c ∧ l.length ≤ c ∧ ReadsInt w k A l.length l := by
  obtain ⟨A, c, rfl, hr⟩ := own_reads h
  refine ⟨A, c, rfl, ?_, hr⟩
  rcases h.2 with ⟨h1, h2⟩ | ⟨g, cap, cur, h1, _, _, h3, _⟩
  · omega
  · injection h1 with _ _ h5; omega
theorem Row.reads {w : World} {e : TypeId} {k : IntKind} {A : Option Addr} {n c : Nat} {l : List Int} (h : Row w e k (.slice A n c) l) : ReadsInt w k A l.length l := by
  obtain ⟨A', c', e', _, hr⟩ := h.slice
  injection e' with e1 e2 e3
  subst e1
  exact hr
theorem Row.ne_blk {w : World} {e t : TypeId} {k : IntKind} {v : Value} {l : List Int} {g : Nat} {cs : Array Value} (h : Row w e k v l) (hb : Blk w g t cs) (ht : e ≠ t) : ∀ b, v.ownBlock = some b → b ≠ g := by
  intro b hbk
  rcases h.2 with ⟨rfl, _⟩ | ⟨g', cap, cur, rfl, _, hh, _⟩
  · simp [Value.ownBlock] at hbk
  · have e1 : g' = b := by simpa [Value.ownBlock] using hbk
    subst e1
    exact Blk.ne hh hb ht
/-- A slice that is read, after a step that leaves its block alone. -/
theorem reads_fr {w w' : World} {k : IntKind} {A : Option Addr} {n : Nat} {xs : List Int} {S : Nat → Prop} (h : ReadsInt w k A n xs) (f : Fr S w w') (hA : ∀ ad, A = some ad → 0 < n → ¬ S ad.block) : ReadsInt w' k A n xs := by
  refine ⟨h.1, h.2.1, fun hn => ?_⟩
  obtain ⟨ad, e, hc⟩ := h.2.2 hn
  refine ⟨ad, e, fun j hj => ?_⟩
  have h1 := hc j hj
  have h2 : (ad.add j).block = ad.block := by unfold Addr.add; split <;> rfl
  have h3 := World.block_lt_of_cell? w _ h1
  rw [World.cell?_of_block (w := w) (f.block (ad.add j).block h3 (by rw [h2]; exact hA ad e hn))]
  exact h1
/-! ### append, with the frame told. -/
section
variable {P : Program} {ops : Array Oper} {rest : List Oper} {o : Oper} {a : Act} {Q : Exit → Act → World → Prop} {Kc : Act → World → Prop}
theorem row_app {W : World} (hgd : o.guard = none) (s x : Operand) (t e : TypeId) (k : IntKind) (bytes : Nat)
    (ho : o.op = .call { callee := .builtin .append, args := #[s, x], argTypes := #[t, t] })
    (ht : P.underlying t = some (.slice e)) (hinfo : (P.info? e).map (fun i => (i.zero, i.size, i.bytes)) = some (some (.int k 0), 1, bytes)) (hb0 : 0 < bytes)
    (v : Value) (xs ys : List Int) (A : Option Addr) (m c : Nat) (hs : a.eval s = v) (hx : a.eval x = .slice A m c)
    (HO : Row W e k v xs) (HR : ReadsInt W k A m ys) (hl : (xs.length + m) * bytes ≤ 140737488355328)
    (h : ∀ v1 w1, Row w1 e k v1 (xs ++ ys) → Fr (fun b => v.ownBlock = some b) W w1 → (v1.ownBlock = v.ownBlock ∨ ∃ b, v1.ownBlock = some b ∧ W.heap.size ≤ b) → wpList P ops Q rest (a.put o.dst v1) w1) :
    wpList P ops Q (o :: rest) a W := by
  refine Kd.R_append_rows (Kd.int k) (w0 := W) 0 hgd s x t e (.int k 0) bytes ho ht hinfo rfl Nat.one_pos hb0 v xs ys A m c (fun _ => True) (fun _ => False) hs hx
    (Kd.R_of_own (h1 := fun _ => rfl) HO (fun _ _ => trivial)) (Kd.C_of_reads (d := (0 : Int)) (h1 := fun _ => rfl) HR) (fun _ _ h => h) (fun _ h => h.elim) (fun _ _ => trivial) (Below.refl _ _) (Nat.zero_le _) hl ?_
  intro v1 w1 ho1 _ hg hat
  exact h v1 w1 (Kd.own_of_R ho1) ((Fr.refl _ _).grown hg (fun b hb => .inl hb)) hat
theorem row_app_step {W : World} (hw : Region.wanted o (yielded ops a.tmps) = true) (s x : Operand) (t e : TypeId) (k : IntKind) (bytes : Nat)
    (ho : o.op = .call { callee := .builtin .append, args := #[s, x], argTypes := #[t, t] })
    (ht : P.underlying t = some (.slice e)) (hinfo : (P.info? e).map (fun i => (i.zero, i.size, i.bytes)) = some (some (.int k 0), 1, bytes)) (hb0 : 0 < bytes)
    (v : Value) (xs ys : List Int) (A : Option Addr) (m c : Nat) (hs : a.eval s = v) (hx : a.eval x = .slice A m c)
    (HO : Row W e k v xs) (HR : ReadsInt W k A m ys) (hl : (xs.length + m) * bytes ≤ 140737488355328)
    (h : ∀ v1 w1, Row w1 e k v1 (xs ++ ys) → Fr (fun b => v.ownBlock = some b) W w1 → (v1.ownBlock = v.ownBlock ∨ ∃ b, v1.ownBlock = some b ∧ W.heap.size ≤ b) → Kc (a.put o.dst v1) w1) :
    if Region.wanted o (yielded ops a.tmps) = true then Oper.wp P o a W Kc Q else Kc (a.put o.dst undef) W := by
  refine Kd.R_append_rows_step (Kd.int k) (w0 := W) 0 hw s x t e (.int k 0) bytes ho ht hinfo rfl Nat.one_pos hb0 v xs ys A m c (fun _ => True) (fun _ => False) hs hx
    (Kd.R_of_own (h1 := fun _ => rfl) HO (fun _ _ => trivial)) (Kd.C_of_reads (d := (0 : Int)) (h1 := fun _ => rfl) HR) (fun _ _ h => h) (fun _ h => h.elim) (fun _ _ => trivial) (Below.refl _ _) (Nat.zero_le _) hl ?_
  intro v1 w1 ho1 _ hg hat
  exact h v1 w1 (Kd.own_of_R ho1) ((Fr.refl _ _).grown hg (fun b hb => .inl hb)) hat
end
/-- A literal of no elements is a new block, and the row of nothing. -/
theorem Row.empty (w : World) (e : TypeId) (k : IntKind) : Row (w.alloc (.cells #[] e)) e k (.slice (some ⟨w.heap.size, 0, none⟩) 0 0) [] := own_lit w 0 e k [] (Nat.zero_le _) (by simp)
/-- A new block reads as its own cells. -/
theorem reads_new (w : World) (k : IntKind) (e : TypeId) (fr : Nat × Nat) (xs : List Int) (hx : xs.length ≤ 9223372036854775807) : ReadsInt (w.alloc (.cells (nums k xs).toArray e fr)) k (some ⟨w.heap.size, 0, none⟩) xs.length xs := by
  refine ⟨rfl, hx, fun _ => ⟨_, rfl, fun j hj => ?_⟩⟩
  rw [add_plain]
  have h : (w.alloc (.cells (nums k xs).toArray e fr)).heap[w.heap.size]? = some (.cells (nums k xs).toArray e fr) := by
    show (w.heap.push _)[w.heap.size]? = _
    simp
  unfold World.cell?
  show (match (w.alloc (.cells (nums k xs).toArray e fr)).heap[w.heap.size]? with | some (.cells c _ _) => if (none : Option Nat).isSome then none else c[j]? | _ => none) = _
  rw [h]
  simp [nums, List.getD_eq_getElem?_getD, hj]
end Go.Proofs.Ytipbfmidiimicaa.Hp
