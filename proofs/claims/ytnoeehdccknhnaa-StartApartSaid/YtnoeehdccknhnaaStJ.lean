/- Texts and words in rows of their own; what the document's Build has written so far. -/
import Derived.Test.YtnoeehdccknhnaaStR
import Derived.Test.YtnoeehdccknhnaaStI
namespace Go.Proofs.Ytnoeehdccknhnaa.St
open Go Go.RowKit Go.Proofs.YtnoeehdccknhnaaW.PrintWords Go.Proofs.YtnoeehdccknhnaaW.PrintLast Go.Proofs.YtnoeehdccknhnaaW.PrintMore
open Go.Proofs.Ytnoeehdccknhnaa.Hp
attribute [local go_sem] max2_int min2_int max_two min_two max_three min_three max_four min_four
set_option linter.unusedVariables false
set_option linter.unusedSimpArgs false
structure TW (w4 w : World) (T W : List Int) (tv wv : Value) : Prop where
  tx : Row w 5 .u8 tv T
  wd : Row w 23 .u64 wv W
  tb : ∀ b, tv.ownBlock = some b → w4.heap.size ≤ b
  wb : ∀ b, wv.ownBlock = some b → w4.heap.size ≤ b
  bel : Below w4.heap.size w4 w
theorem TW.start (w4 : World) : TW w4 w4 [] [] (.slice none 0 0) (.slice none 0 0) := ⟨Row.nil _ _ _, Row.nil _ _ _, fun b e => by simp [Value.ownBlock] at e, fun b e => by simp [Value.ownBlock] at e, Below.refl _ _⟩
theorem TW.fr {w4 w w1 : World} {T W : List Int} {tv wv : Value} (h : TW w4 w T W tv wv) (hf : Fr (fun _ => False) w w1) : TW w4 w1 T W tv wv :=
  ⟨h.tx.fr hf (fun _ _ => id), h.wd.fr hf (fun _ _ => id), h.tb, h.wb, Fr.below h.bel hf (fun _ _ => id)⟩
theorem TW.alloc {w4 w : World} {T W : List Int} {tv wv : Value} (h : TW w4 w T W tv wv) (o : Obj) : TW w4 (w.alloc o) T W tv wv := h.fr ((Fr.refl _ _).alloc o)
theorem TW.words {w4 w w1 : World} {T W W1 : List Int} {tv wv wv1 : Value} (h : TW w4 w T W tv wv) (hr : Row w1 23 .u64 wv1 W1) (hf : Fr (fun b => wv.ownBlock = some b) w w1) (hat : wv1.ownBlock = wv.ownBlock ∨ ∃ b, wv1.ownBlock = some b ∧ w.heap.size ≤ b) : TW w4 w1 T W1 tv wv1 :=
  ⟨h.tx.fr hf (fun b e1 e2 => Row.ne h.tx h.wd (by decide) b e1 e2), hr, h.tb, own_hat h.wb h.bel.size hat, Fr.below h.bel (hf.mono (fun k _ e => h.wb k e)) (fun k hk e => by have e : w4.heap.size ≤ k := e; omega)⟩
theorem TW.texts {w4 w w1 : World} {T W T1 : List Int} {tv wv tv1 : Value} (h : TW w4 w T W tv wv) (hr : Row w1 5 .u8 tv1 T1) (hf : Fr (fun b => tv.ownBlock = some b) w w1) (hb : ∀ b, tv1.ownBlock = some b → w4.heap.size ≤ b) : TW w4 w1 T1 W tv1 wv :=
  ⟨hr, h.wd.fr hf (fun b e1 e2 => Row.ne h.wd h.tx (by decide) b e1 e2), hb, h.wb, Fr.below h.bel (hf.mono (fun k _ e => h.tb k e)) (fun k hk e => by have e : w4.heap.size ≤ k := e; omega)⟩
/-- A cell of the older world. -/
theorem TW.cell {w4 w : World} {T W : List Int} {tv wv : Value} (h : TW w4 w T W tv wv) {p : Addr} {u : Value} (hp : w4.cell? p = some u) : w.cell? p = some u := by
  have q := World.block_lt_of_cell? w4 _ hp
  rw [World.cell?_of_block (w := w4) (h.bel.block _ q)]
  exact hp
/-- A row of pairs, behind an append to the words. -/
theorem TW.pairs {w4 w w1 : World} {T W : List Int} {tv wv v : Value} {B n : Nat} {xs : List Value} (h : TW w4 w T W tv wv) (hp : w.ownsRow B 44 2 v n xs) (hf : Fr (fun b => wv.ownBlock = some b) w w1) : w1.ownsRow B 44 2 v n xs := by
  refine own_move hp (fun k hk => ?_)
  obtain ⟨cs, hc⟩ := own_typed hp k hk
  have hlt : k < w.heap.size := (Array.getElem?_eq_some_iff.1 hc).1
  refine hf.block k hlt ?_
  intro e
  obtain ⟨cs', hb⟩ := Row.typed h.wd k e
  have hb' : w.heap[k]? = _ := hb
  rw [hc] at hb'
  injection hb' with hb'
  injection hb' with _ e2
  exact absurd e2 (by decide)
/-- The row of no texts, just laid. -/
theorem rowS_empty (w : World) : Kd.string.R 9 (w.alloc (.cells #[] 9)) w.heap.size (fun _ => True) (.slice (some ⟨w.heap.size, 0, none⟩) 0 0) [] := by
  refine Kd.R_of_own (h1 := fun _ => rfl) ⟨rfl, .inr ⟨w.heap.size, 0, #[], rfl, Nat.le_refl _, ?_, Nat.le_refl _, Nat.zero_le _, rfl, rfl⟩⟩ (fun _ _ => trivial)
  show (w.heap.push _)[w.heap.size]? = _
  simp
/-- The words behind so many texts. -/
def midW (bs : Int) (l1 l2 : List ByteArray) (i : Nat) : List Int := if i ≤ l1.length then [(l1.length : Int)] ++ plOf bs 0 (l1.take i) else [(l1.length : Int)] ++ plOf bs 0 l1 ++ [0] ++ plOf bs (szOf l1) (l2.take (i - l1.length))
theorem midW_zero (bs : Int) (l1 l2 : List ByteArray) : midW bs l1 l2 0 = [(l1.length : Int)] := by simp [midW, plOf]
theorem take_left {l1 l2 : List ByteArray} {i : Nat} (h : i ≤ l1.length) : (l1 ++ l2).take i = l1.take i := List.take_append_of_le_length h
theorem take_right {l1 l2 : List ByteArray} {i : Nat} (h : l1.length ≤ i) : (l1 ++ l2).take i = l1 ++ l2.take (i - l1.length) := by
  rw [List.take_append, List.take_of_length_le h]
theorem midW_lt (bs : Int) (l1 l2 : List ByteArray) (i : Nat) (hi : i < l1.length) : midW bs l1 l2 (i + 1) = midW bs l1 l2 i ++ [bs + (szOf ((l1 ++ l2).take i) : Int)] := by
  unfold midW
  rw [if_pos (by omega), if_pos (by omega), take_snoc ByteArray.empty l1 i hi, plOf_snoc, take_left (by omega)]
  simp
theorem midW_eq (bs : Int) (l1 l2 : List ByteArray) (h : 0 < l2.length) : midW bs l1 l2 (l1.length + 1) = midW bs l1 l2 l1.length ++ [0] ++ [bs + (szOf ((l1 ++ l2).take l1.length) : Int)] := by
  unfold midW
  rw [if_neg (by omega), if_pos (by omega), take_left (Nat.le_refl _), List.take_length, Nat.add_sub_cancel_left]
  match l2, h with
  | s :: r, _ => simp [plOf]
theorem midW_gt (bs : Int) (l1 l2 : List ByteArray) (i : Nat) (h1 : l1.length < i) (h2 : i < l1.length + l2.length) : midW bs l1 l2 (i + 1) = midW bs l1 l2 i ++ [bs + (szOf ((l1 ++ l2).take i) : Int)] := by
  unfold midW
  rw [if_neg (by omega), if_neg (by omega), take_right (by omega), szOf_append, show i + 1 - l1.length = (i - l1.length) + 1 by omega, take_snoc ByteArray.empty l2 (i - l1.length) (by omega), plOf_snoc]
  simp
theorem midW_end0 (bs : Int) (l1 l2 : List ByteArray) (h : l2.length = 0) : midW bs l1 l2 (l1.length + l2.length) ++ [0] ++ [0] = [(l1.length : Int)] ++ plOf bs 0 l1 ++ [0] ++ plOf bs (szOf l1) l2 ++ [0] := by
  obtain rfl : l2 = [] := List.eq_nil_of_length_eq_zero h
  simp [midW, plOf]
theorem midW_end (bs : Int) (l1 l2 : List ByteArray) (h : ¬ l2.length = 0) : midW bs l1 l2 (l1.length + l2.length) ++ [0] = [(l1.length : Int)] ++ plOf bs 0 l1 ++ [0] ++ plOf bs (szOf l1) l2 ++ [0] := by
  unfold midW
  rw [if_neg (by omega), Nat.add_sub_cancel_left, List.take_length]
theorem midW_len (bs : Int) (l1 l2 : List ByteArray) (i : Nat) (h : i ≤ l1.length + l2.length) : (midW bs l1 l2 i).length ≤ l1.length + l2.length + 2 := by
  unfold midW
  split
  · simp only [List.length_append, plOf_length, List.length_take, List.length_cons, List.length_nil]; omega
  · simp only [List.length_append, plOf_length, List.length_take, List.length_cons, List.length_nil]; omega
theorem txOf_append (a b : List ByteArray) : txOf (a ++ b) = txOf a ++ txOf b := by
  induction a with
  | nil => rfl
  | cons s r ih => simp only [List.cons_append, txOf, ih, List.append_assoc]
/-- The next of the zeros is overwritten. -/
theorem set_next (pre : List Int) (x : Int) (tot : Nat) (h : pre.length < tot) : ((nums .u8 (pre ++ List.replicate (tot - pre.length) 0)).toArray).setIfInBounds pre.length (.int .u8 x) = (nums .u8 ((pre ++ [x]) ++ List.replicate (tot - (pre ++ [x]).length) 0)).toArray := by
  rw [List.setIfInBounds_toArray]
  congr 1
  obtain ⟨m, hm⟩ : ∃ m, tot - pre.length = m + 1 := ⟨tot - pre.length - 1, by omega⟩
  have h2 : tot - (pre ++ [x]).length = m := by rw [List.length_append]; simp; omega
  rw [hm, h2, List.replicate_succ, nums, nums, List.map_append, List.map_cons, List.set_append_right _ _ (by simp)]
  simp
theorem pre_zeros (pre : List Int) (z tot : Nat) (h : pre.length + z ≤ tot) : pre ++ List.replicate (tot - pre.length) 0 = (pre ++ List.replicate z 0) ++ List.replicate (tot - (pre ++ List.replicate z (0 : Int)).length) 0 := by
  rw [List.append_assoc, List.replicate_append_replicate]
  congr 2
  simp
  omega
theorem nums_cell {w : World} {g : Nat} {t : TypeId} {k : IntKind} {l : List Int} (h : Blk w g t (nums k l).toArray) (j : Nat) (hj : j < l.length) : ∃ x, w.cell? ⟨g, j, none⟩ = some (.int k x) := by
  refine ⟨l[j], ?_⟩
  rw [h.cell j]
  simp [nums, hj]
end Go.Proofs.Ytnoeehdccknhnaa.St
