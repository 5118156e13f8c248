/- Maps from whole numbers to pointers: what a map's block holds, as a function; the laws on the look-up, the store, delete, len. Plain facts on worlds, no program. -/
import Derived.Test.YtipbfmidiimicaaHp
import Derived.Maps.RangeWalk
namespace Go.Proofs.Ytipbfmidiimicaa.Pm
open Go Go.RowKit
open Go.Maps (Keyed keyOf_int_mk)
open Go.Proofs.Ytipbfmidiimicaa.Hp
/-- How a pointer reads: as the number of its block. -/
def ptrR : Value → Option (DataW Unit × List MemPlace)
  | .pointer none => some (.lit (.int .i64 (-1)), [])
  | .pointer (some ⟨b, 0, none⟩) => some (.lit (.int .i64 b), [])
  | _ => none
def num (o : Option Nat) : Int := match o with | none => -1 | some b => b
def ptrV (o : Option Nat) : Value := match o with | none => .pointer none | some b => .pointer (some ⟨b, 0, none⟩)
theorem num_inj {o o' : Option Nat} (h : num o = num o') : o = o' := by
  cases o <;> cases o' <;> simp [num] at h ⊢ <;> omega
theorem ptrR_mk (o : Option Nat) : ptrR (ptrV o) = some (.lit (.int .i64 (num o)), []) := by cases o <;> rfl
theorem ptrR_inv {v : Value} {z : DataW Unit × List MemPlace} (h : ptrR v = some z) : ∃ o, v = ptrV o ∧ z = (.lit (.int .i64 (num o)), []) := by
  unfold ptrR at h
  split at h
  · cases h; exact ⟨none, rfl, rfl⟩
  · cases h; rename_i b; exact ⟨some b, rfl, rfl⟩
  · cases h
theorem ptrR_num {v : Value} {o : Option Nat} {ps : List MemPlace} (h : ptrR v = some (.lit (.int .i64 (num o)), ps)) : v = ptrV o := by
  obtain ⟨o', rfl, e⟩ := ptrR_inv h
  simp only [Prod.mk.injEq, DataW.lit.injEq, Lit.int.injEq, true_and] at e
  rw [num_inj e.1]
/-- One entry changed. -/
def updP (f : Int → Option Nat) (k : Int) (o : Option Nat) : Int → Option Nat := fun j => if j = k then o else f j
theorem updP_same (f : Int → Option Nat) (k : Int) (o : Option Nat) : updP f k o k = o := if_pos rfl
theorem updP_ne (f : Int → Option Nat) {k j : Int} (o : Option Nat) (h : j ≠ k) : updP f k o j = f j := if_neg h
/-- Block B is a map that holds pointers as f says, at most n entries ever, sz now. -/
def PM (P : Program) (K : TypeId) (q : IntKind) (w : World) (B n : Nat) (f : Int → Option Nat) (sz : Nat) : Prop :=
  ∃ D : DataW Unit, w.ownsMap P K ptrR B n D ∧ Maps.size D = sz ∧ ∀ k, (Lit.int q k).wf = true → D.atKey (.int q k) (.lit (.int .i64 (-1))) = .lit (.int .i64 (num (f k))) ∧ Maps.has D (.int q k) = (f k).isSome
section
variable {P : Program} {K T E : TypeId} {q : IntKind} {w W : World} {B n sz : Nat} {f : Int → Option Nat}
theorem PM.fr {w' : World} {S : Nat → Prop} (h : PM P K q w B n f sz) (hf : Fr S w w') (hB : ¬ S B) : PM P K q w' B n f sz := by
  obtain ⟨D, ⟨es, clock, hb, r⟩, h2⟩ := h
  exact ⟨D, ⟨es, clock, (hf.block B (Array.getElem?_eq_some_iff.1 hb).1 hB).trans hb, r⟩, h2⟩
theorem PM.lt (h : PM P K q w B n f sz) : B < w.heap.size := h.choose_spec.1.lt
theorem PM.mono {n' : Nat} (h : PM P K q w B n f sz) (hn : n ≤ n') : PM P K q w B n' f sz := by
  obtain ⟨D, h1, h2⟩ := h
  exact ⟨D, h1.mono hn, h2⟩
theorem PM.ne_blk {t : TypeId} {g : Nat} {cs : Array Value} (h : PM P K q w B n f sz) (hb : Blk w g t cs) : B ≠ g := by
  obtain ⟨D, ⟨es, clock, h1, _⟩, _⟩ := h
  intro e
  subst e
  unfold Blk at hb
  rw [h1] at hb
  cases hb
theorem PM.made (w : World) (P : Program) (K : TypeId) (q : IntKind) : PM P K q (w.alloc (.map #[] 0)) w.heap.size 0 (fun _ => none) 0 :=
  ⟨.map [], World.ownsMap_made w P K ptrR, rfl, fun _ _ => ⟨rfl, rfl⟩⟩
theorem PM.size_le (h : PM P K q w B n f sz) : sz ≤ n := by
  obtain ⟨D, h1, h2, _⟩ := h
  rw [← h2]
  exact h1.size_le
/-- The look-up. -/
theorem PM.look (h : PM P K q w B n f sz) (hK : Keyed P K) (hu : P.underlying K = some (.int q)) (ht : P.underlying T = some (.map K E)) (hz : (zeroValue E).run P w = .ok (.pointer none) w) (k : Int) (hk : (Lit.int q k).wf = true) :
    (Instr.lookup T (.map (some B)) (.int q k) false).run P w = .ok (ptrV (f k)) w := by
  obtain ⟨D, h1, _, h2⟩ := h
  obtain ⟨v, ps, hrun, hv⟩ := h1.lookup hK ht hz (zd := .lit (.int .i64 (-1))) (zp := []) rfl (keyOf_int_mk hu hk)
  rw [(h2 k hk).1] at hv
  rw [hrun, ptrR_num hv]
theorem PM.look_ok (h : PM P K q w B n f sz) (hK : Keyed P K) (hu : P.underlying K = some (.int q)) (ht : P.underlying T = some (.map K E)) (hz : (zeroValue E).run P w = .ok (.pointer none) w) (k : Int) (hk : (Lit.int q k).wf = true) :
    (Instr.lookup T (.map (some B)) (.int q k) true).run P w = .ok (.tuple #[ptrV (f k), .bool (f k).isSome]) w := by
  obtain ⟨D, h1, _, h2⟩ := h
  obtain ⟨v, ps, hrun, hv⟩ := h1.look_ok hK ht hz (zd := .lit (.int .i64 (-1))) (zp := []) rfl (keyOf_int_mk hu hk)
  rw [(h2 k hk).1] at hv
  rw [hrun, ptrR_num hv, (h2 k hk).2]
theorem key_ne {q : IntKind} {a b : Int} (h : a ≠ b) : (Lit.int q a) ≠ (Lit.int q b) := fun e => h (by injection e)
/-- The store. -/
theorem PM.put (h : PM P K q w B n f sz) (hK : Keyed P K) (hu : P.underlying K = some (.int q)) (ht : P.underlying T = some (.map K E)) (hn : n < maxLen) (k : Int) (hk : (Lit.int q k).wf = true) (g : Nat) :
    ∃ w', (Instr.mapUpdate T (.map (some B)) (.int q k) (.pointer (some ⟨g, 0, none⟩))).run P w = .ok () w' ∧ PM P K q w' B (n + 1) (updP f k (some g)) (if (f k).isSome then sz else sz + 1) ∧ Fr (fun i => i = B) w w' := by
  obtain ⟨D, h1, h3, h2⟩ := h
  obtain ⟨w', hrun, h4, h5⟩ := h1.update hK ht hn (keyOf_int_mk hu hk) (val := .pointer (some ⟨g, 0, none⟩)) (d := .lit (.int .i64 g)) (ps := []) rfl
  have hkl : WideAt.IsKeyLit (.int q k) := hK.key (keyOf_int_mk hu hk)
  refine ⟨w', hrun, ⟨_, h4, ?_, fun j hj => ?_⟩, (Fr.refl _ _).grown h5 (fun i e => .inl (by injection e with e; exact e.symm))⟩
  · rw [Maps.size_put (h1.tidy hK), (h2 k hk).2, h3]
  · by_cases e : j = k
    · subst e
      rw [updP_same, Maps.atKey_put_same h1.isMap hkl, Maps.has_put_same h1.isMap hkl]
      exact ⟨rfl, rfl⟩
    · rw [updP_ne _ _ e, Maps.atKey_put_other (key_ne e), Maps.has_put_other (key_ne e)]
      exact h2 j hj
/-- Delete. -/
theorem PM.del (h : PM P K q w B n f sz) (hK : Keyed P K) (hu : P.underlying K = some (.int q)) (ht : P.underlying T = some (.map K E)) (k : Int) (hk : (Lit.int q k).wf = true) (ty : TypeId) :
    ∃ w', (Builtin.delete_ #[T, K] ty #[.map (some B), .int q k]).run P w = .ok (.tuple #[]) w' ∧ PM P K q w' B n (updP f k none) (if (f k).isSome then sz - 1 else sz) ∧ Fr (fun i => i = B) w w' := by
  obtain ⟨D, h1, h3, h2⟩ := h
  obtain ⟨w', hrun, h4, h5⟩ := h1.drop hK ht (keyOf_int_mk hu hk) ty
  refine ⟨w', hrun, ⟨_, h4, ?_, fun j hj => ?_⟩, (Fr.refl _ _).grown h5.grown (fun i e => .inl (by injection e with e; exact e.symm))⟩
  · have e := Maps.size_del (h1.tidy hK) (k := .int q k)
    rw [(h2 k hk).2, h3] at e
    split <;> rename_i c <;> simp [c] at e <;> omega
  · by_cases e : j = k
    · subst e
      rw [updP_same, Maps.atKey_del_same, Maps.has_del_same]
      exact ⟨rfl, rfl⟩
    · rw [updP_ne _ _ e, Maps.atKey_del_other (key_ne e), Maps.has_del_other (key_ne e)]
      exact h2 j hj
end
/-! ### At the operation. -/
section
variable {P : Program} {ops : Array Oper} {rest : List Oper} {o : Oper} {a : Act} {Q : Exit → Act → World → Prop} {Kc : Act → World → Prop} {W : World}
  {K T E : TypeId} {q : IntKind} {B n sz : Nat} {f : Int → Option Nat}
theorem look_step (hw : Region.wanted o (yielded ops a.tmps) = true) (m x : Operand) (hop : o.op = Op.lookup T m x false) (hK : Keyed P K) (hu : P.underlying K = some (.int q)) (ht : P.underlying T = some (.map K E)) (hz : (zeroValue E).run P W = .ok (.pointer none) W)
    (h : PM P K q W B n f sz) (k : Int) (hk : (Lit.int q k).wf = true) (hm : a.eval m = .map (some B)) (hx : a.eval x = .int q k) (r : Option Nat) (hr : f k = r) (hc : Kc (a.put o.dst (ptrV r)) W) :
    if Region.wanted o (yielded ops a.tmps) = true then Oper.wp P o a W Kc Q else Kc (a.put o.dst undef) W := by
  rw [if_pos hw]
  subst hr
  unfold Oper.wp
  simp [execOp, hop, hm, hx, h.look hK hu ht hz k hk, Result.andThen]
  exact hc
theorem look_ok_step (hw : Region.wanted o (yielded ops a.tmps) = true) (m x : Operand) (hop : o.op = Op.lookup T m x true) (hK : Keyed P K) (hu : P.underlying K = some (.int q)) (ht : P.underlying T = some (.map K E)) (hz : (zeroValue E).run P W = .ok (.pointer none) W)
    (h : PM P K q W B n f sz) (k : Int) (hk : (Lit.int q k).wf = true) (hm : a.eval m = .map (some B)) (hx : a.eval x = .int q k) (r : Option Nat) (hr : f k = r) (hc : Kc (a.put o.dst (.tuple #[ptrV r, .bool r.isSome])) W) :
    if Region.wanted o (yielded ops a.tmps) = true then Oper.wp P o a W Kc Q else Kc (a.put o.dst undef) W := by
  rw [if_pos hw]
  subst hr
  unfold Oper.wp
  simp [execOp, hop, hm, hx, h.look_ok hK hu ht hz k hk, Result.andThen]
  exact hc
theorem put_step (hw : Region.wanted o (yielded ops a.tmps) = true) (m x v : Operand) (hop : o.op = Op.mapUpdate T m x v) (hK : Keyed P K) (hu : P.underlying K = some (.int q)) (ht : P.underlying T = some (.map K E)) (hn : n < maxLen)
    (h : PM P K q W B n f sz) (k : Int) (hk : (Lit.int q k).wf = true) (g : Nat) (hm : a.eval m = .map (some B)) (hx : a.eval x = .int q k) (hv : a.eval v = .pointer (some ⟨g, 0, none⟩))
    (hc : ∀ w', PM P K q w' B (n + 1) (updP f k (some g)) (if (f k).isSome then sz else sz + 1) → Fr (fun i => i = B) W w' → Kc (a.put o.dst undef) w') :
    if Region.wanted o (yielded ops a.tmps) = true then Oper.wp P o a W Kc Q else Kc (a.put o.dst undef) W := by
  rw [if_pos hw]
  obtain ⟨w', hrun, h1, h2⟩ := h.put hK hu ht hn k hk g
  unfold Oper.wp
  simp [execOp, hop, hm, hx, hv, hrun, Result.andThen]
  exact hc w' h1 h2
theorem del_step (hw : Region.wanted o (yielded ops a.tmps) = true) (m x : Operand) (hop : o.op = Op.call { callee := Callee.builtin Builtin.delete, args := #[m, x], argTypes := #[T, K] }) (hK : Keyed P K) (hu : P.underlying K = some (.int q)) (ht : P.underlying T = some (.map K E))
    (h : PM P K q W B n f sz) (k : Int) (hk : (Lit.int q k).wf = true) (hm : a.eval m = .map (some B)) (hx : a.eval x = .int q k)
    (hc : ∀ w', PM P K q w' B n (updP f k none) (if (f k).isSome then sz - 1 else sz) → Fr (fun i => i = B) W w' → Kc (a.put o.dst (.tuple #[])) w') :
    if Region.wanted o (yielded ops a.tmps) = true then Oper.wp P o a W Kc Q else Kc (a.put o.dst undef) W := by
  rw [if_pos hw]
  obtain ⟨w', hrun, h1, h2⟩ := h.del hK hu ht k hk o.type
  unfold Oper.wp
  simp [execOp, hop, resolve, invoke, builtin, hm, hx, hrun, Result.andThen]
  exact hc w' h1 h2
theorem len_step (hw : Region.wanted o (yielded ops a.tmps) = true) (m : Operand) (hop : o.op = Op.call { callee := Callee.builtin Builtin.len, args := #[m], argTypes := #[T] }) (ht : P.underlying T = some (.map K E))
    (h : PM P K q W B n f sz) (hm : a.eval m = .map (some B)) (hc : Kc (a.put o.dst (.int .i64 sz)) W) :
    if Region.wanted o (yielded ops a.tmps) = true then Oper.wp P o a W Kc Q else Kc (a.put o.dst undef) W := by
  rw [if_pos hw]
  obtain ⟨D, h1, h3, _⟩ := h
  have e := h1.len ht o.type
  rw [h3] at e
  unfold Oper.wp
  simp [execOp, hop, resolve, invoke, builtin, hm, e, Result.andThen]
  exact hc
theorem look_list (hw : Region.wanted o (yielded ops a.tmps) = true) (m x : Operand) (hop : o.op = Op.lookup T m x false) (hK : Keyed P K) (hu : P.underlying K = some (.int q)) (ht : P.underlying T = some (.map K E)) (hz : (zeroValue E).run P W = .ok (.pointer none) W)
    (h : PM P K q W B n f sz) (k : Int) (hk : (Lit.int q k).wf = true) (hm : a.eval m = .map (some B)) (hx : a.eval x = .int q k) (r : Option Nat) (hr : f k = r) (hc : wpList P ops Q rest (a.put o.dst (ptrV r)) W) : wpList P ops Q (o :: rest) a W :=
  wpList_step fun _ hKc => look_step hw m x hop hK hu ht hz h k hk hm hx r hr (hKc _ _ hc)
theorem look_ok_list (hw : Region.wanted o (yielded ops a.tmps) = true) (m x : Operand) (hop : o.op = Op.lookup T m x true) (hK : Keyed P K) (hu : P.underlying K = some (.int q)) (ht : P.underlying T = some (.map K E)) (hz : (zeroValue E).run P W = .ok (.pointer none) W)
    (h : PM P K q W B n f sz) (k : Int) (hk : (Lit.int q k).wf = true) (hm : a.eval m = .map (some B)) (hx : a.eval x = .int q k) (r : Option Nat) (hr : f k = r) (hc : wpList P ops Q rest (a.put o.dst (.tuple #[ptrV r, .bool r.isSome])) W) : wpList P ops Q (o :: rest) a W :=
  wpList_step fun _ hKc => look_ok_step hw m x hop hK hu ht hz h k hk hm hx r hr (hKc _ _ hc)
theorem put_list (hw : Region.wanted o (yielded ops a.tmps) = true) (m x v : Operand) (hop : o.op = Op.mapUpdate T m x v) (hK : Keyed P K) (hu : P.underlying K = some (.int q)) (ht : P.underlying T = some (.map K E)) (hn : n < maxLen)
    (h : PM P K q W B n f sz) (k : Int) (hk : (Lit.int q k).wf = true) (g : Nat) (hm : a.eval m = .map (some B)) (hx : a.eval x = .int q k) (hv : a.eval v = .pointer (some ⟨g, 0, none⟩))
    (hc : ∀ w', PM P K q w' B (n + 1) (updP f k (some g)) (if (f k).isSome then sz else sz + 1) → Fr (fun i => i = B) W w' → wpList P ops Q rest (a.put o.dst undef) w') : wpList P ops Q (o :: rest) a W :=
  wpList_step fun _ hKc => put_step hw m x v hop hK hu ht hn h k hk g hm hx hv (fun w' h1 h2 => hKc _ _ (hc w' h1 h2))
theorem del_list (hw : Region.wanted o (yielded ops a.tmps) = true) (m x : Operand) (hop : o.op = Op.call { callee := Callee.builtin Builtin.delete, args := #[m, x], argTypes := #[T, K] }) (hK : Keyed P K) (hu : P.underlying K = some (.int q)) (ht : P.underlying T = some (.map K E))
    (h : PM P K q W B n f sz) (k : Int) (hk : (Lit.int q k).wf = true) (hm : a.eval m = .map (some B)) (hx : a.eval x = .int q k)
    (hc : ∀ w', PM P K q w' B n (updP f k none) (if (f k).isSome then sz - 1 else sz) → Fr (fun i => i = B) W w' → wpList P ops Q rest (a.put o.dst (.tuple #[])) w') : wpList P ops Q (o :: rest) a W :=
  wpList_step fun _ hKc => del_step hw m x hop hK hu ht h k hk hm hx (fun w' h1 h2 => hKc _ _ (hc w' h1 h2))
theorem len_list (hw : Region.wanted o (yielded ops a.tmps) = true) (m : Operand) (hop : o.op = Op.call { callee := Callee.builtin Builtin.len, args := #[m], argTypes := #[T] }) (ht : P.underlying T = some (.map K E))
    (h : PM P K q W B n f sz) (hm : a.eval m = .map (some B)) (hc : wpList P ops Q rest (a.put o.dst (.int .i64 sz)) W) : wpList P ops Q (o :: rest) a W :=
  wpList_step fun _ hKc => len_step hw m hop ht h hm (hKc _ _ hc)
end
end Go.Proofs.Ytipbfmidiimicaa.Pm
