/- Two rows of texts that lie apart. -/
import Derived.Test.YtnoeehdccknhnaaStT
import Derived.Test.YtnoeehdccknhnaaStH
namespace Go.Proofs.Ytnoeehdccknhnaa.St
open Go Go.RowKit Go.Proofs.YtnoeehdccknhnaaW.PrintWords Go.Proofs.YtnoeehdccknhnaaW.PrintLast Go.Proofs.YtnoeehdccknhnaaW.PrintMore
open Go.Proofs.Ytnoeehdccknhnaa.Hp
attribute [local go_sem] max2_int min2_int max_two min_two max_three min_three max_four min_four
set_option linter.unusedVariables false
set_option linter.unusedSimpArgs false
section
variable {P : Program} {ops : Array Oper} {o : Oper} {a : Act} {Q : Exit → Act → World → Prop} {Kc : Act → World → Prop}
theorem rowS_app_step {w0 W : World} (B : Nat) (hw : Region.wanted o (yielded ops a.tmps) = true) (s x : Operand) (t e : TypeId)
    (ho : o.op = .call { callee := .builtin .append, args := #[s, x], argTypes := #[t, t] })
    (ht : P.underlying t = some (.slice e)) (hinfo : (P.info? e).map (fun i => (i.zero, i.size, i.bytes)) = some (some (.string ⟨#[]⟩), 1, 16))
    (v : Value) (xs ys : List ByteArray) (A : Option Addr) (m c : Nat) (hs : a.eval s = v) (hx : a.eval x = .slice A m c)
    (HO : Kd.string.R e W B (fun _ => True) v xs) (HR : Kd.string.C W A m ys) (HB : Below B w0 W) (hb : B ≤ W.heap.size) (hl : (xs.length + m) * 16 ≤ 140737488355328)
    (h : ∀ v1 w1, Kd.string.R e w1 B (fun _ => True) v1 (xs ++ ys) → Below B w0 w1 → (v1.ownBlock = v.ownBlock ∨ ∃ b, v1.ownBlock = some b ∧ W.heap.size ≤ b) → Fr (fun b => v.ownBlock = some b) W w1 → Kc (a.put o.dst v1) w1) :
    if Region.wanted o (yielded ops a.tmps) = true then Oper.wp P o a W Kc Q else Kc (a.put o.dst undef) W :=
  Kd.R_append_rows_step Kd.string (w0 := w0) B hw s x t e (.string ⟨#[]⟩) 16 ho ht hinfo rfl Nat.one_pos (by decide) v xs ys A m c (fun _ => True) (fun _ => False) hs hx HO HR (fun _ _ h => h) (fun _ h => h.elim) (fun _ _ => trivial) HB hb hl (fun v1 w1 h1 h2 h3 h4 => h v1 w1 h1 h2 h4 ((Fr.refl _ _).grown h3 (fun b hb => .inl hb)))
end
theorem rowS_move {w w1 : World} {B : Nat} {v : Value} {l : List ByteArray} (h : Kd.string.R 9 w B (fun _ => True) v l) {S : Nat → Prop} (hf : Fr S w w1) (hn : ∀ k, v.ownBlock = some k → ¬ S k) : Kd.string.R 9 w1 B (fun _ => True) v l := by
  have ho := Kd.own_of_R h
  exact Kd.R_of_own (h1 := fun _ => rfl) (own_move ho (fun k hk => hf.block k (own_lt ho k hk) (hn k hk))) (fun _ _ => trivial)
/-- Two rows of texts, younger than a world, that lie apart. -/
structure TwoR (w2 w : World) (x y : Value) (lx ly : List ByteArray) : Prop where
  bel : Below w2.heap.size w2 w
  rx : Kd.string.R 9 w w2.heap.size (fun _ => True) x lx
  ry : Kd.string.R 9 w w2.heap.size (fun _ => True) y ly
  ne : ∀ k, x.ownBlock = some k → y.ownBlock ≠ some k
theorem TwoR.start (w2 : World) : TwoR w2 w2.drew (.slice none 0 0) (.slice none 0 0) [] [] := ⟨below_drew (Below.refl _ _), rowS_nil _ _ _, rowS_nil _ _ _, fun k e => by simp [Value.ownBlock] at e⟩
theorem TwoR.swap {w2 w : World} {x y : Value} {lx ly : List ByteArray} (h : TwoR w2 w x y lx ly) : TwoR w2 w y x ly lx := ⟨h.bel, h.ry, h.rx, fun k e1 e2 => h.ne k e2 e1⟩
theorem rowS_empty_at (w : World) (B : Nat) (hB : B ≤ w.heap.size) : Kd.string.R 9 (w.alloc (.cells #[] 9)) B (fun _ => True) (.slice (some ⟨w.heap.size, 0, none⟩) 0 0) [] := by
  refine Kd.R_of_own (h1 := fun _ => rfl) ⟨rfl, .inr ⟨w.heap.size, 0, #[], rfl, hB, ?_, Nat.le_refl _, Nat.zero_le _, rfl, rfl⟩⟩ (fun _ _ => trivial)
  show (w.heap.push _)[w.heap.size]? = _
  simp
theorem TwoR.bldX {w2 w : World} {x y : Value} {lx ly : List ByteArray} {n : Nat} (h : TwoR w2 w x y lx ly) (hn : w.heap.size = n) : TwoR w2 (w.alloc (.cells #[] 9)) (.slice (some ⟨n, 0, none⟩) 0 0) y [] ly := by
  subst hn
  exact ⟨Fr.below h.bel ((Fr.refl (fun _ => False) w).alloc _) (fun _ _ => id), rowS_empty_at w _ h.bel.size, Kd.R_alloc h.ry _, fun k e1 e2 => by
    have e : w.heap.size = k := by simpa [Value.ownBlock] using e1
    have e3 := own_lt (Kd.own_of_R h.ry) k e2
    omega⟩
theorem TwoR.bldY {w2 w : World} {x y : Value} {lx ly : List ByteArray} {n : Nat} (h : TwoR w2 w x y lx ly) (hn : w.heap.size = n) : TwoR w2 (w.alloc (.cells #[] 9)) x (.slice (some ⟨n, 0, none⟩) 0 0) lx [] := (h.swap.bldX hn).swap
theorem TwoR.appX {w2 w w1 : World} {x x1 y : Value} {lx lx1 ly : List ByteArray} (h : TwoR w2 w x y lx ly) (hr : Kd.string.R 9 w1 w2.heap.size (fun _ => True) x1 lx1) (hf : Fr (fun b => x.ownBlock = some b) w w1) (hb : Below w2.heap.size w2 w1) (hat : x1.ownBlock = x.ownBlock ∨ ∃ b, x1.ownBlock = some b ∧ w.heap.size ≤ b) : TwoR w2 w1 x1 y lx1 ly :=
  ⟨hb, hr, rowS_move h.ry hf (fun k e1 e2 => h.ne k e2 e1), fun k e1 e2 => by
    rcases hat with hat | ⟨b, hb1, hb2⟩
    · exact h.ne k (hat ▸ e1) e2
    · rw [e1] at hb1
      injection hb1 with hb1
      have e3 := own_lt (Kd.own_of_R h.ry) k e2
      omega⟩
theorem TwoR.appY {w2 w w1 : World} {x y y1 : Value} {lx ly ly1 : List ByteArray} (h : TwoR w2 w x y lx ly) (hr : Kd.string.R 9 w1 w2.heap.size (fun _ => True) y1 ly1) (hf : Fr (fun b => y.ownBlock = some b) w w1) (hb : Below w2.heap.size w2 w1) (hat : y1.ownBlock = y.ownBlock ∨ ∃ b, y1.ownBlock = some b ∧ w.heap.size ≤ b) : TwoR w2 w1 x y1 lx ly1 := (h.swap.appX hr hf hb hat).swap
theorem prog_cells {w : World} {g : Nat} {c0 c1 c2 c3 c4 : Value} (h : Blk w g 26 #[c0, c1, c2, c3, c4]) : w.cell? ⟨g, 0, none⟩ = some c0 ∧ w.cell? ⟨g, 1, none⟩ = some c1 ∧ w.cell? ⟨g, 2, none⟩ = some c2 ∧ w.cell? ⟨g, 3, none⟩ = some c3 ∧ w.cell? ⟨g, 4, none⟩ = some c4 :=
  ⟨h.cell 0, h.cell 1, h.cell 2, h.cell 3, h.cell 4⟩
theorem rnd_cells {w : World} {g : Nat} {c0 c1 c2 c3 c4 c5 c6 c7 c8 c9 c10 c11 c12 c13 c14 c15 : Value} (h : Blk w g 27 #[c0, c1, c2, c3, c4, c5, c6, c7, c8, c9, c10, c11, c12, c13, c14, c15]) : w.cell? ⟨g, 0, none⟩ = some c0 ∧ w.cell? ⟨g, 1, none⟩ = some c1 ∧ w.cell? ⟨g, 2, none⟩ = some c2 ∧ w.cell? ⟨g, 3, none⟩ = some c3 ∧ w.cell? ⟨g, 4, none⟩ = some c4 ∧ w.cell? ⟨g, 5, none⟩ = some c5 ∧ w.cell? ⟨g, 6, none⟩ = some c6 ∧ w.cell? ⟨g, 7, none⟩ = some c7 ∧ w.cell? ⟨g, 8, none⟩ = some c8 ∧ w.cell? ⟨g, 9, none⟩ = some c9 ∧ w.cell? ⟨g, 10, none⟩ = some c10 ∧ w.cell? ⟨g, 11, none⟩ = some c11 ∧ w.cell? ⟨g, 12, none⟩ = some c12 ∧ w.cell? ⟨g, 13, none⟩ = some c13 ∧ w.cell? ⟨g, 14, none⟩ = some c14 ∧ w.cell? ⟨g, 15, none⟩ = some c15 :=
  ⟨h.cell 0, h.cell 1, h.cell 2, h.cell 3, h.cell 4, h.cell 5, h.cell 6, h.cell 7, h.cell 8, h.cell 9, h.cell 10, h.cell 11, h.cell 12, h.cell 13, h.cell 14, h.cell 15⟩
end Go.Proofs.Ytnoeehdccknhnaa.St
