/- The blocks that the law MarshSignals makes, and append of noughts. -/
import Derived.Test.YtbblamabipabeaaMarQ
import Derived.Test.YtbblamabipabeaaWEqStruct
namespace Go.Proofs.Ytbblamabipabeaa.Mar
open Go Go.RowKit Go.Proofs.YtbblamabipabeaaW.PrintWords Go.Proofs.YtbblamabipabeaaW.PrintLast Go.Proofs.YtbblamabipabeaaW.PrintMore
open Go.Proofs.Ytbblamabipabeaa.Hp Go.Proofs.Ytbblamabipabeaa.By Go.Proofs.Ytbblamabipabeaa.Bv
attribute [local go_sem] max2_int min2_int max_two min_two max_three min_three max_four min_four
set_option linter.unusedVariables false
set_option linter.unusedSimpArgs false
structure St (w : World) (g0 g1 g2 g3 g4 : Nat) (h f m a s x1 x2 w1 w2 y1 y2 : Int) : Prop where
  A : Blk w g0 33 #[.int .u64 h, .int .u64 f, .int .u64 m]
  B : Blk w g1 35 #[.int .u64 a, .int .u64 s]
  X : Blk w g2 35 #[.int .u64 x1, .int .u64 x2]
  W : Blk w g3 35 #[.int .u64 w1, .int .u64 w2]
  Y : Blk w g4 35 #[.int .u64 y1, .int .u64 y2]
section
variable {w w' : World} {g0 g1 g2 g3 g4 : Nat} {h f m a s x1 x2 w1 w2 y1 y2 : Int}
theorem St.fr {S : Nat → Prop} (t : St w g0 g1 g2 g3 g4 h f m a s x1 x2 w1 w2 y1 y2) (k : Fr S w w') (n : ∀ g, g = g0 ∨ g = g1 ∨ g = g2 ∨ g = g3 ∨ g = g4 → ¬ S g) : St w' g0 g1 g2 g3 g4 h f m a s x1 x2 w1 w2 y1 y2 :=
  ⟨t.A.fr k (n _ (by simp)), t.B.fr k (n _ (by simp)), t.X.fr k (n _ (by simp)), t.W.fr k (n _ (by simp)), t.Y.fr k (n _ (by simp))⟩
theorem St.fr0 (t : St w g0 g1 g2 g3 g4 h f m a s x1 x2 w1 w2 y1 y2) (k : Fr (fun _ => False) w w') : St w' g0 g1 g2 g3 g4 h f m a s x1 x2 w1 w2 y1 y2 := t.fr k (fun _ _ => id)
theorem St.alloc (t : St w g0 g1 g2 g3 g4 h f m a s x1 x2 w1 w2 y1 y2) (o : Obj) : St (w.alloc o) g0 g1 g2 g3 g4 h f m a s x1 x2 w1 w2 y1 y2 := t.fr0 ((Fr.refl _ _).alloc o)
theorem St.lt (t : St w g0 g1 g2 g3 g4 h f m a s x1 x2 w1 w2 y1 y2) : ∀ g, g = g0 ∨ g = g1 ∨ g = g2 ∨ g = g3 ∨ g = g4 → g < w.heap.size := by
  rintro g (rfl | rfl | rfl | rfl | rfl)
  · exact t.A.lt
  · exact t.B.lt
  · exact t.X.lt
  · exact t.W.lt
  · exact t.Y.lt
theorem St.row (t : St w g0 g1 g2 g3 g4 h f m a s x1 x2 w1 w2 y1 y2) {v : Value} {l : List Int} (hr : Row w 5 .u8 v l) : ∀ g, g = g0 ∨ g = g1 ∨ g = g2 ∨ g = g3 ∨ g = g4 → ¬ (v.ownBlock = some g) := by
  rintro g (rfl | rfl | rfl | rfl | rfl) hb
  · exact hr.ne_blk t.A (by decide) _ hb rfl
  · exact hr.ne_blk t.B (by decide) _ hb rfl
  · exact hr.ne_blk t.X (by decide) _ hb rfl
  · exact hr.ne_blk t.W (by decide) _ hb rfl
  · exact hr.ne_blk t.Y (by decide) _ hb rfl
theorem St.cA (t : St w g0 g1 g2 g3 g4 h f m a s x1 x2 w1 w2 y1 y2) : w.cell? ⟨g0, 0, none⟩ = some (.int .u64 h) ∧ w.cell? ⟨g0, 1, none⟩ = some (.int .u64 f) ∧ w.cell? ⟨g0, 2, none⟩ = some (.int .u64 m) := ⟨t.A.cell 0, t.A.cell 1, t.A.cell 2⟩
theorem St.cB (t : St w g0 g1 g2 g3 g4 h f m a s x1 x2 w1 w2 y1 y2) : w.cell? ⟨g1, 0, none⟩ = some (.int .u64 a) ∧ w.cell? ⟨g1, 1, none⟩ = some (.int .u64 s) := ⟨t.B.cell 0, t.B.cell 1⟩
theorem St.cX (t : St w g0 g1 g2 g3 g4 h f m a s x1 x2 w1 w2 y1 y2) : w.cell? ⟨g2, 0, none⟩ = some (.int .u64 x1) ∧ w.cell? ⟨g2, 1, none⟩ = some (.int .u64 x2) := ⟨t.X.cell 0, t.X.cell 1⟩
theorem St.cW (t : St w g0 g1 g2 g3 g4 h f m a s x1 x2 w1 w2 y1 y2) : w.cell? ⟨g3, 0, none⟩ = some (.int .u64 w1) ∧ w.cell? ⟨g3, 1, none⟩ = some (.int .u64 w2) := ⟨t.W.cell 0, t.W.cell 1⟩
theorem St.cY (t : St w g0 g1 g2 g3 g4 h f m a s x1 x2 w1 w2 y1 y2) : w.cell? ⟨g4, 0, none⟩ = some (.int .u64 y1) ∧ w.cell? ⟨g4, 1, none⟩ = some (.int .u64 y2) := ⟨t.Y.cell 0, t.Y.cell 1⟩
end
section
variable {P : Program} {ops : Array Oper} {rest : List Oper} {o : Oper} {a : Act} {Q : Exit → Act → World → Prop}
theorem row_zeros {W : World} (hgd : o.guard = none) (s x : Operand) (t ti e : TypeId)
    (ho : o.op = .call { callee := .builtin .append, args := #[s, x], argTypes := #[t, ti] })
    (ht : P.underlying t = some (.slice e)) {k : IntKind} (hti : P.underlying ti = some (.int k)) (hinfo : (P.info? e).map (fun i => (i.zero, i.size, i.bytes)) = some (some (.int .u8 0), 1, 1))
    (v : Value) (xs : List Int) {kx : IntKind} (n : Int) (hs : a.eval s = v) (hx : a.eval x = .int kx n) (HO : Row W e .u8 v xs) (h0 : 0 ≤ n) (hl : (xs.length + n.toNat) * 1 ≤ 140737488355328)
    (h : ∀ v1 w1, Row w1 e .u8 v1 (xs ++ List.replicate n.toNat 0) → Fr (fun b => v.ownBlock = some b) W w1 → (v1.ownBlock = v.ownBlock ∨ ∃ b, v1.ownBlock = some b ∧ W.heap.size ≤ b) → wpList P ops Q rest (a.put o.dst v1) w1) :
    wpList P ops Q (o :: rest) a W := by
  refine Kd.R_append_zeros (Kd.int .u8) (w0 := W) 0 hgd s x t ti e (.int .u8 0) 1 ho ht hti hinfo rfl Nat.one_pos Nat.one_pos v xs 0 n (fun _ => True) hs hx rfl (fun _ _ => trivial)
    (Kd.R_of_own (h1 := fun _ => rfl) HO (fun _ _ => trivial)) h0 (Below.refl _ _) (Nat.zero_le _) hl ?_
  intro v1 w1 ho1 _ hg hat
  exact h v1 w1 (Kd.own_of_R ho1) ((Fr.refl _ _).grown hg (fun b hb => .inl hb)) hat
end
/-- Seen from the first world: the row appended to is new. -/
theorem fr_row {w0 w w' : World} {v : Value} (h : Fr (fun _ => False) w0 w) (f : Fr (fun b => v.ownBlock = some b) w w') (hn : ∀ b, v.ownBlock = some b → w0.heap.size ≤ b) : Fr (fun _ => False) w0 w' :=
  h.trans f (fun i hi hb => absurd (hn i hb) (by omega))
theorem row_next {w0 W : World} {v v1 : Value} (h : ∀ b, v.ownBlock = some b → w0.heap.size ≤ b) (hw : w0.heap.size ≤ W.heap.size) (hat : v1.ownBlock = v.ownBlock ∨ ∃ b, v1.ownBlock = some b ∧ W.heap.size ≤ b) : ∀ b, v1.ownBlock = some b → w0.heap.size ≤ b := by
  intro b hb
  rcases hat with h1 | ⟨b1, h1, h2⟩
  · exact h b (h1 ▸ hb)
  · rw [h1] at hb
    injection hb with hb
    omega
/-- A goal under another name, to be shown by a tactic that simp is handed. -/
theorem idp {p : Prop} (h : p) : p := h
def Shown (p : Prop) : Prop := p
theorem shown_of {p : Prop} (h : p) : Shown p = True := eq_true h
theorem sub_ne {l : List Int} (h : l.length ≤ 100) : (l ++ List.replicate 24 0).length = l.length + 24 := by simp
/-- All that the law's last line reads, and what is known of the world. -/
structure SS (w0 w : World) (ga gb gx gw gy gz gi : Nat) (h f m a s x1 x2 w1 w2 y1 y2 i0 i1 i2 : Int) (A3 : Option Addr) (C : List Int) : Prop where
  fr : Fr (fun _ => False) w0 w
  st : St w ga gb gx gw gy h f m a s x1 x2 w1 w2 y1 y2
  z : Blk w gz 35 #[.int .u64 y1, .int .u64 y2]
  i : Blk w gi 33 #[.int .u64 i0, .int .u64 i1, .int .u64 i2]
  r : ReadsInt w .u8 A3 C.length C
section
variable {w0 w w' : World} {ga gb gx gw gy gz gi : Nat} {h f m a s x1 x2 w1 w2 y1 y2 i0 i1 i2 : Int} {A3 : Option Addr} {C : List Int}
theorem SS.fr0 (t : SS w0 w ga gb gx gw gy gz gi h f m a s x1 x2 w1 w2 y1 y2 i0 i1 i2 A3 C) (k : Fr (fun _ => False) w w') : SS w0 w' ga gb gx gw gy gz gi h f m a s x1 x2 w1 w2 y1 y2 i0 i1 i2 A3 C :=
  ⟨t.fr.trans k (fun _ _ h => h), t.st.fr0 k, t.z.fr k id, t.i.fr k id, reads_fr t.r k (fun _ _ _ => id)⟩
theorem SS.all (t : SS w0 w ga gb gx gw gy gz gi h f m a s x1 x2 w1 w2 y1 y2 i0 i1 i2 A3 C) :
    SS w0 w ga gb gx gw gy gz gi h f m a s x1 x2 w1 w2 y1 y2 i0 i1 i2 A3 C ∧
    w.cell? ⟨ga, 0, none⟩ = some (.int .u64 h) ∧ w.cell? ⟨ga, 1, none⟩ = some (.int .u64 f) ∧ w.cell? ⟨ga, 2, none⟩ = some (.int .u64 m) ∧
    w.cell? ⟨gb, 0, none⟩ = some (.int .u64 a) ∧ w.cell? ⟨gb, 1, none⟩ = some (.int .u64 s) ∧
    w.cell? ⟨gx, 0, none⟩ = some (.int .u64 x1) ∧ w.cell? ⟨gx, 1, none⟩ = some (.int .u64 x2) ∧
    w.cell? ⟨gw, 0, none⟩ = some (.int .u64 w1) ∧ w.cell? ⟨gw, 1, none⟩ = some (.int .u64 w2) ∧
    w.cell? ⟨gy, 0, none⟩ = some (.int .u64 y1) ∧ w.cell? ⟨gy, 1, none⟩ = some (.int .u64 y2) ∧
    w.cell? ⟨gz, 0, none⟩ = some (.int .u64 y1) ∧ w.cell? ⟨gz, 1, none⟩ = some (.int .u64 y2) ∧
    w.cell? ⟨gi, 0, none⟩ = some (.int .u64 i0) ∧ w.cell? ⟨gi, 1, none⟩ = some (.int .u64 i1) ∧ w.cell? ⟨gi, 2, none⟩ = some (.int .u64 i2) :=
  ⟨t, t.st.cA.1, t.st.cA.2.1, t.st.cA.2.2, t.st.cB.1, t.st.cB.2, t.st.cX.1, t.st.cX.2, t.st.cW.1, t.st.cW.2, t.st.cY.1, t.st.cY.2, t.z.cell 0, t.z.cell 1, t.i.cell 0, t.i.cell 1, t.i.cell 2⟩
end
theorem eq_u64 (x : Int) (w : World) : (Op.equalIn 9999 31 (.int .u64 x) (.int .u64 x)).run Try.prog w = .ok true w := by
  rw [run_equalIn_int (P := Try.prog) w 9998 31 .u64 .u64 x x Try.underlying31, beq_self_eq_true]
theorem eq_action (x y z : Int) (w : World) : (binOp .eql 33 (.agg #[.int .u64 x, .int .u64 y, .int .u64 z]) (.agg #[.int .u64 x, .int .u64 y, .int .u64 z])).run Try.prog w = .ok (.bool true) w := by
  rw [run_eql_struct, eqA_of (r := true) Try.underlying33 (by kernel_rfl) (eqf_cons (r := true) (s := true) (by kernel_rfl) (a := .int .u64 x) (b := .int .u64 x) (by kernel_rfl) (by kernel_rfl) (eq_u64 _ _)
    (eqf_cons (r := true) (s := true) (by kernel_rfl) (a := .int .u64 y) (b := .int .u64 y) (by kernel_rfl) (by kernel_rfl) (eq_u64 _ _) (eqf_last (r := true) (by kernel_rfl) (a := .int .u64 z) (b := .int .u64 z) (by kernel_rfl) (by kernel_rfl) (eq_u64 _ _))))]
  rfl
theorem eq_stack (x y : Int) (w : World) : (binOp .eql 35 (.agg #[.int .u64 x, .int .u64 y]) (.agg #[.int .u64 x, .int .u64 y])).run Try.prog w = .ok (.bool true) w := by
  rw [run_eql_struct, eqA_of (r := true) Try.underlying35 (by kernel_rfl) (eqf_cons (r := true) (s := true) (by kernel_rfl) (a := .int .u64 x) (b := .int .u64 x) (by kernel_rfl) (by kernel_rfl) (eq_u64 _ _)
    (eqf_last (r := true) (by kernel_rfl) (a := .int .u64 y) (b := .int .u64 y) (by kernel_rfl) (by kernel_rfl) (eq_u64 _ _)))]
  rfl
theorem rget8 (l : List Int) (A : Option Addr) (c : Nat) (w : World) (hr : ReadsInt w .u8 A l.length l) (hb : By.bytes l) (h : 8 ≤ l.length) :
    Calls Try.prog 23 #[.slice A l.length c, .int .i64 8] w fun e w' => e = .returned (.int .u64 (le (l.take 8))) ∧ Fr (fun _ => False) w w' :=
  (rget_in A c l 8 w (C_of hr) hb (by decide) (by decide)).mono fun _ _ h => ⟨h.1, Fr.drawn h.2⟩
end Go.Proofs.Ytbblamabipabeaa.Mar
