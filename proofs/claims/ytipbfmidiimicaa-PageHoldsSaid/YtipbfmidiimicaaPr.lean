/- Going through a map from whole numbers to pointers: which entries are still to come, as a function; the laws on range and next. Plain facts on worlds, no program. -/
import Derived.Test.YtipbfmidiimicaaPm
namespace Go.Proofs.Ytipbfmidiimicaa.Pm
open Go Go.RowKit
open Go.Maps (Keyed keyOf_int_mk)
open Go.Proofs.Ytipbfmidiimicaa.Hp
/-- Block r goes through the map in block B; todo says which keys are still to come, cnt how many. -/
def PR (P : Program) (K : TypeId) (q : IntKind) (w : World) (B r n : Nat) (f : Int → Option Nat) (sz : Nat) (todo : Int → Bool) (cnt : Nat) : Prop :=
  ∃ (D : DataW Unit) (left : Lit → Bool), w.ranges P K ptrR B r n D left cnt ∧ Maps.size D = sz ∧ (∀ k, (Lit.int q k).wf = true → D.atKey (.int q k) (.lit (.int .i64 (-1))) = .lit (.int .i64 (num (f k))) ∧ Maps.has D (.int q k) = (f k).isSome) ∧ ∀ k, (Lit.int q k).wf = true → left (.int q k) = todo k
section
variable {P : Program} {K T E : TypeId} {q : IntKind} {w : World} {B r n sz cnt : Nat} {f : Int → Option Nat} {todo : Int → Bool}
theorem PR.pm (h : PR P K q w B r n f sz todo cnt) : PM P K q w B n f sz := by
  obtain ⟨D, left, h1, h2, h3, _⟩ := h
  exact ⟨D, h1.owns, h2, h3⟩
theorem PR.lt (h : PR P K q w B r n f sz todo cnt) : r < w.heap.size := by obtain ⟨D, left, h1, _⟩ := h; exact h1.lt
theorem PR.ne (h : PR P K q w B r n f sz todo cnt) : r ≠ B := by obtain ⟨D, left, h1, _⟩ := h; exact h1.ne
theorem PR.fr {w' : World} {S : Nat → Prop} (h : PR P K q w B r n f sz todo cnt) (hf : Fr S w w') (hB : ¬ S B) (hr : ¬ S r) : PR P K q w' B r n f sz todo cnt := by
  have h1 := h.pm.lt
  have h2 := h.lt
  obtain ⟨D, left, ⟨es, clock, since, seen, c0, hb, F, hs, hD, hr', rest⟩, g⟩ := h
  exact ⟨D, left, ⟨es, clock, since, seen, c0, (hf.block B h1 hB).trans hb, F, hs, hD, (hf.block r h2 hr).trans hr', rest⟩, g⟩
theorem PR.cells (h : PR P K q w B r n f sz todo cnt) {t : TypeId} {g : Nat} {cs : Array Value} (hb : Blk w g t cs) : g ≠ r := by
  obtain ⟨D, left, ⟨es, clock, since, seen, c0, _, _, _, _, hr', _⟩, _⟩ := h
  intro e
  subst e
  unfold Blk at hb
  rw [hr'] at hb
  cases hb
theorem PR.row (h : PR P K q w B r n f sz todo cnt) {e : TypeId} {k : IntKind} {v : Value} {l : List Int} (hv : Row w e k v l) : ∀ b, v.ownBlock = some b → b ≠ r ∧ b ≠ B := by
  obtain ⟨D, left, ⟨es, clock, since, seen, c0, hB, _, _, _, hr', _⟩, _⟩ := h
  intro b hb
  rcases hv.2 with ⟨rfl, _⟩ | ⟨g', cap, cur, rfl, _, hh, _⟩
  · simp [Value.ownBlock] at hb
  · have e1 : g' = b := by simpa [Value.ownBlock] using hb
    subst e1
    refine ⟨fun e => ?_, fun e => ?_⟩
    · subst e; rw [hr'] at hh; cases hh
    · subst e; rw [hB] at hh; cases hh
end
section
variable {P : Program} {ops : Array Oper} {rest : List Oper} {o : Oper} {a : Act} {Q : Exit → Act → World → Prop} {W : World}
  {K T E : TypeId} {q : IntKind} {B r n sz cnt : Nat} {f : Int → Option Nat} {todo : Int → Bool}
theorem range_list (hg : o.guard = none) (m : Operand) (hop : o.op = Op.range T m) (hK : Keyed P K) (ht : P.underlying T = some (.map K E)) (h : PM P K q W B n f sz) (hm : a.eval m = .map (some B))
    (hc : ∀ w', PR P K q w' B W.heap.size n f sz (fun k => (f k).isSome) sz → Fr (fun _ => False) W w' → w'.heap.size = W.heap.size + 1 → wpList P ops Q rest (a.put o.dst (.pointer (some ⟨W.heap.size, 0, none⟩))) w') : wpList P ops Q (o :: rest) a W := by
  obtain ⟨D, h1, h2, h3⟩ := h
  refine wpList_range_own W hg m T hop K E hK ht ptrR B n D hm h1 ?_
  intro w' hr hgr hsz
  subst h2
  exact hc w' ⟨D, _, hr, rfl, h3, fun k hk => (h3 k hk).2⟩ ((Fr.refl (fun _ => False) W).grown hgr (fun _ e => by cases e)) hsz
theorem next_list (hg : o.guard = none) (it : Operand) (hop : o.op = Op.next it false) (hK : Keyed P K) (hu : P.underlying K = some (.int q)) (h : PR P K q W B r n f sz todo cnt) (hit : a.eval it = .pointer (some ⟨r, 0, none⟩))
    (hDone : cnt = 0 → (∀ k, (Lit.int q k).wf = true → todo k = false) → wpList P ops Q rest (a.put o.dst (.tuple #[.bool false])) W)
    (hMore : ∀ (x : Int) (b : Nat) (w' : World) (cnt' : Nat), (Lit.int q x).wf = true → todo x = true → f x = some b → PR P K q w' B r n f sz (fun z => todo z && !(z == x)) cnt' → cnt' < cnt → Fr (fun i => i = r) W w' → w'.heap.size = W.heap.size →
      (Instr.entry (.pointer (some ⟨r, 0, none⟩))).run P w' = .ok (.tuple #[.int q x, .pointer (some ⟨b, 0, none⟩)]) w' → wpList P ops Q rest (a.put o.dst (.tuple #[.bool true, .int q x, .pointer (some ⟨b, 0, none⟩)])) w') : wpList P ops Q (o :: rest) a W := by
  obtain ⟨D, left, h1, h2, h3, h4⟩ := h
  refine wpList_next_ranges W hg it hop K hK ptrR (Value.int q) ptrV (fun key kl hkey => by obtain ⟨x, rfl, _⟩ := Maps.keyOf_int_inv hu hkey; exact ⟨x, rfl⟩) (fun v y hv => by obtain ⟨o, rfl, _⟩ := ptrR_inv hv; exact ⟨o, rfl⟩) B r n D left cnt hit h1
    (fun h0 hl => hDone h0 (fun k hk => by rw [← h4 k hk]; exact hl _)) ?_
  intro x c kl y w' cnt' hkey hlk hv hat hrg hlt hgr hsz hen
  obtain ⟨x', ex, rfl, hwx⟩ := Maps.keyOf_int_inv hu hkey
  cases ex
  obtain ⟨o', ev, rfl⟩ := ptrR_inv hv
  have ho : o' = f x := by
    have e1 := (hat (.lit (.int .i64 (-1)))).symm.trans (h3 x hwx).1
    simp only [DataW.lit.injEq, Lit.int.injEq, true_and] at e1
    exact num_inj e1
  have hh : (f x).isSome = true := by rw [← (h3 x hwx).2]; exact Maps.has_true_of_atKey hat
  obtain ⟨b, hb⟩ := Option.isSome_iff_exists.1 hh
  have hc : c = some b := by
    rw [ho, hb] at ev
    cases c
    · cases ev
    · simp only [ptrV, Value.pointer.injEq, Option.some.injEq, Addr.mk.injEq, and_self, and_true] at ev
      rw [ev]
  subst hc
  exact hMore x b w' cnt' hwx (by rw [← h4 x hwx]; exact hlk) hb ⟨D, _, hrg, h2, h3, fun k hk => by
    show (left (.int q k) && !(Lit.int q k).sameKey (.int q x)) = _
    rw [h4 k hk]
    by_cases e : k = x
    · subst e
      rw [WideAt.sameKey_self (hK.key (keyOf_int_mk hu hwx))]
      simp
    · rw [Maps.sameKey_ne (key_ne e)]
      simp [e]⟩ hlt ((Fr.refl _ _).grown hgr (fun i e => .inl (by injection e with e; exact e.symm))) hsz hen
end
end Go.Proofs.Ytipbfmidiimicaa.Pm
