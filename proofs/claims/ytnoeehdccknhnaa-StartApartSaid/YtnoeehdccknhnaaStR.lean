/- Rows of texts; Build in one contract; what is refused. -/
import Derived.Test.YtnoeehdccknhnaaStG
namespace Go.Proofs.Ytnoeehdccknhnaa.St
open Go Go.RowKit Go.Proofs.YtnoeehdccknhnaaW.PrintWords Go.Proofs.YtnoeehdccknhnaaW.PrintLast Go.Proofs.YtnoeehdccknhnaaW.PrintMore
open Go.Proofs.Ytnoeehdccknhnaa.Hp
attribute [local go_sem] max2_int min2_int max_two min_two max_three min_three max_four min_four
set_option linter.unusedVariables false
set_option linter.unusedSimpArgs false
theorem infoST : (Try.prog.info? 9 ).map (fun i => (i.zero, i.size, i.bytes)) = some (some (.string ⟨#[]⟩), 1, 16) := by kernel_rfl
section
variable {P : Program} {ops : Array Oper} {rest : List Oper} {o : Oper} {a : Act} {Q : Exit → Act → World → Prop}
/-- append(v, ys...) of texts. -/
theorem rowS_app {w0 W : World} (B : Nat) (hgd : o.guard = none) (s x : Operand) (t e : TypeId)
    (ho : o.op = .call { callee := .builtin .append, args := #[s, x], argTypes := #[t, t] })
    (ht : P.underlying t = some (.slice e)) (hinfo : (P.info? e).map (fun i => (i.zero, i.size, i.bytes)) = some (some (.string ⟨#[]⟩), 1, 16))
    (v : Value) (xs ys : List ByteArray) (A : Option Addr) (m c : Nat) (hs : a.eval s = v) (hx : a.eval x = .slice A m c)
    (HO : Kd.string.R e W B (fun _ => True) v xs) (HR : Kd.string.C W A m ys) (HB : Below B w0 W) (hb : B ≤ W.heap.size) (hl : (xs.length + m) * 16 ≤ 140737488355328)
    (h : ∀ v1 w1, Kd.string.R e w1 B (fun _ => True) v1 (xs ++ ys) → Below B w0 w1 → (v1.ownBlock = v.ownBlock ∨ ∃ b, v1.ownBlock = some b ∧ W.heap.size ≤ b) → Fr (fun b => v.ownBlock = some b) W w1 → wpList P ops Q rest (a.put o.dst v1) w1) :
    wpList P ops Q (o :: rest) a W :=
  Kd.R_append_rows Kd.string (w0 := w0) B hgd s x t e (.string ⟨#[]⟩) 16 ho ht hinfo rfl Nat.one_pos (by decide) v xs ys A m c (fun _ => True) (fun _ => False) hs hx HO HR (fun _ _ h => h) (fun _ h => h.elim) (fun _ _ => trivial) HB hb hl (fun v1 w1 h1 h2 h3 h4 => h v1 w1 h1 h2 h4 ((Fr.refl _ _).grown h3 (fun b hb => .inl hb)))
end
theorem rowS_nil (w : World) (B : Nat) (e : TypeId) : Kd.string.R e w B (fun _ => True) (.slice none 0 0) [] := Kd.R_of_own (h1 := fun _ => rfl) (own_nil w B e 1) (fun _ _ => trivial)
/-- Build, in one contract. -/
theorem build_all (A1 A2 : Option Addr) (c1 c2 : Nat) (l1 l2 : List ByteArray) (entry phdr phnum phsize : Int) (seg : Value) (hseg : seg.oneCell' = true) (r0 r1 r2 r3 r4 r5 r6 r7 r8 r9 r10 r11 r12 r13 r14 r15 : Int) (w : World) (h1 : Kd.string.C w A1 l1.length l1) (h2 : Kd.string.C w A2 l2.length l2) (hc1 : l1.length ≤ c1) (hc2 : l2.length ≤ c2) (hf : fitsAll l1 l2) (hen : 0 ≤ entry ∧ entry < 18446744073709551616) (hph : 0 ≤ phdr ∧ phdr < 18446744073709551616) :
    Calls Try.prog 8 #[.slice A1 l1.length c1, .slice A2 l2.length c2, .agg #[.int .u64 entry, seg, .int .u64 phdr, .int .i64 phnum, .int .i64 phsize], .agg #[.int .u8 r0, .int .u8 r1, .int .u8 r2, .int .u8 r3, .int .u8 r4, .int .u8 r5, .int .u8 r6, .int .u8 r7, .int .u8 r8, .int .u8 r9, .int .u8 r10, .int .u8 r11, .int .u8 r12, .int .u8 r13, .int .u8 r14, .int .u8 r15]] w fun e w' => ∃ (v : Value) (sp : Int), e = .returned (.tuple #[v, .int .u64 sp, .int .i64 (chk [l1, l2])]) ∧ Fr (fun _ => False) w w' ∧
      (chk [l1, l2] = 0 → sp = spOf (baseOf l1 l2) (wordsOf (baseOf l1 l2) l1 l2 entry phdr phnum phsize).length ∧ Own8 w' w.heap.size v (outOf (baseOf l1 l2) (wordsOf (baseOf l1 l2) l1 l2 entry phdr phnum phsize) (txOf l1 ++ txOf l2 ++ [r0, r1, r2, r3, r4, r5, r6, r7, r8, r9, r10, r11, r12, r13, r14, r15]))) ∧
      (chk [l1, l2] ≠ 0 → v = .slice none 0 0 ∧ sp = 0) := by
  by_cases hn : chk [l1, l2] = 0
  · refine (build_yes A1 A2 c1 c2 l1 l2 entry phdr phnum phsize seg hseg r0 r1 r2 r3 r4 r5 r6 r7 r8 r9 r10 r11 r12 r13 r14 r15 w h1 h2 hc1 hc2 hn hen hph).mono ?_
    rintro e w' ⟨v, rfl, ho, hfr⟩
    exact ⟨v, _, by rw [hn], hfr, fun _ => ⟨rfl, ho⟩, fun h => absurd hn h⟩
  · refine (build_no A1 A2 c1 c2 l1 l2 entry phdr phnum phsize seg hseg r0 r1 r2 r3 r4 r5 r6 r7 r8 r9 r10 r11 r12 r13 r14 r15 w h1 h2 hc1 hc2 hf hn).mono ?_
    rintro e w' ⟨rfl, hfr⟩
    exact ⟨_, _, rfl, hfr, fun h => absurd h hn, fun _ => ⟨rfl, rfl⟩⟩
theorem chk_two (a b : List ByteArray) : chk [a, b] = if badL a || badL b then 22 else if 256 < a.length + b.length ∨ 32768 < szOf a + szOf b then 7 else 0 := by
  unfold chk
  rw [cntLL_two, szLL_two]
  simp only [List.any_cons, List.any_nil, Bool.or_false]
theorem badL_rep (n : Nat) (s : ByteArray) (h : bad s = false) : badL (List.replicate n s) = false := by
  unfold badL
  rw [List.any_eq_false]
  intro x hx
  rw [(List.mem_replicate.1 hx).2, h]
  decide
theorem szOf_rep (n : Nat) (s : ByteArray) : szOf (List.replicate n s) = n * (s.size + 1) := by
  induction n with
  | zero => simp [szOf]
  | succ n ih => rw [List.replicate_succ, szOf, ih, Nat.add_mul]; omega
/-- A text that has no 0. -/
theorem bad_iff (s : ByteArray) : bad s = s.data.toList.any (· == 0) := by
  unfold bad
  show decide (0 ≤ Lib.indexByte s.data.toList 0) = _
  generalize s.data.toList = l
  induction l with
  | nil => rfl
  | cons c r ih =>
    rw [List.any_cons, ← ih, show Lib.indexByte (c :: r) 0 = if c == 0 then 0 else if Lib.indexByte r 0 == -1 then -1 else Lib.indexByte r 0 + 1 from rfl]
    have hg := Lib.indexByte_ge r 0
    generalize Lib.indexByte r 0 = x at hg
    cases hc : (c == 0)
    · by_cases hx : x = -1
      · subst hx
        rfl
      · have h0 : 0 ≤ x := by omega
        have h1 : 0 ≤ x + 1 := by omega
        simp [hx, h0, h1]
    · rfl
theorem made_nums (m : Nat) : (madeCells (Value.int .u8 0).cells (m * 1)).toList = nums .u8 (List.replicate m 0) := by
  apply List.ext_getElem
  · simp [madeCells, nums]
  · intro i h1 h2
    simp [madeCells, nums, Value.cells, Nat.mod_one]
/-- A row that was just made full is its block. -/
theorem blk_made {w : World} {B g m : Nat} {xs : List Value} (h : w.ownsRow B 5 1 (.slice (some ⟨g, 0, none⟩) m m) m xs) : Blk w g 5 xs.toArray := by
  rcases h.2 with ⟨e, _⟩ | ⟨g', cap, cur, e, _, hh, hc, hm, hs, ht⟩
  · cases e
  · cases e
    have : cur.toList = xs := by
      rw [← ht, List.take_of_length_le]
      rw [Array.length_toList, hs]
      exact Nat.le_refl _
    show w.heap[g]? = _
    rw [hh, ← this]
end Go.Proofs.Ytnoeehdccknhnaa.St
