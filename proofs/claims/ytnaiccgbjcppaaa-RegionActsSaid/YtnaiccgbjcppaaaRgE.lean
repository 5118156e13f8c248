/- slices.Insert of one region: walked. -/
import Derived.Test.YtnaiccgbjcppaaaRgD
import Derived.Laws.CopyRow
import Derived.Laws.Externs
import Derived.Lib.Overlaps
import Derived.Lib.AppendZerosOnto
import Derived.Deep.RegionLaw
namespace Go.Proofs.Ytnaiccgbjcppaaa.Rg
open Go Go.RowKit Go.Proofs.YtnaiccgbjcppaaaW.PrintWords Go.Proofs.YtnaiccgbjcppaaaW.PrintLast Go.Proofs.YtnaiccgbjcppaaaW.PrintMore
open Go.Proofs.Ytnaiccgbjcppaaa.Hp
attribute [local go_sem] max2_int min2_int max_two min_two max_three min_three max_four min_four
set_option linter.unusedVariables false
set_option linter.unusedSimpArgs false
section
variable {P : Program}
/-- copy, of elements of any size, into a block that is known whole. -/
theorem run_copy_wide (w : World) (dT sT ty elem : TypeId) (size g o k dLen dCap gs os sLen sCap : Nat) (cur : Array Value) (t : TypeId) (cs : List Value)
    (hu : P.underlying dT = some (.slice elem)) (hs : (P.info? elem).map (·.size) = some size)
    (hg : Blk w g t cur) (hk : Nat.min sLen dLen = k) (hn : cs.length = k * size)
    (hsrc : ∀ j v, cs[j]? = some v → w.cell? ⟨gs, os + j, none⟩ = some v) (hfit : o + cs.length ≤ cur.size) (h1 : ∀ v ∈ cs, v.oneCell' = true) :
    ∃ w', (Builtin.copy_ #[dT, sT] ty #[.slice (some ⟨g, o, none⟩) dLen dCap, .slice (some ⟨gs, os, none⟩) sLen sCap]).run P w = .ok (goInt k) w' ∧
      Blk w' g t (cur.toList.take o ++ cs ++ cur.toList.drop (o + cs.length)).toArray ∧ Fr (fun b => b = g) w w' := by
  have hl := run_loadCells_list (P := P) w ⟨gs, os, none⟩ cs (fun j v hj => by rw [show (⟨gs, os, none⟩ : Addr).add j = ⟨gs, os + j, none⟩ from by unfold Addr.add; split <;> simp_all]; exact hsrc j v hj)
  have hst := run_storeCells_at P g o t cs 0 cur w hg (by simpa using hfit) h1
  have hB := setRow_heap w g cur (cur.toList.take o ++ cs ++ cur.toList.drop (o + cs.length)).toArray t (0, 0) hg
  refine ⟨w.setRow g (cur.toList.take o ++ cs ++ cur.toList.drop (o + cs.length)).toArray, ?_, hB, ⟨rfl, rfl, rfl, by simp [World.setRow], fun b hb hne => setRow_other w g b _ hne⟩⟩
  cases hq : P.info? elem with
  | none => simp [hq] at hs
  | some i =>
    have hi : i.size = size := by simpa [hq] using hs
    simp only [Nat.add_zero] at hst
    simp [Builtin.copy_, run_underlying hu, Builtin.lenOf, Builtin.firstCells, sizeOf, typeInfo, hq, hi, hk, ← hn, hl, hst]
section
variable {ops : Array Oper} {rest : List Oper} {o : Oper} {a : Act} {Q : Exit → Act → World → Prop} {Kc : Act → World → Prop} {w : World} {E : Prop}
theorem wpList_copy_wide (hgd : o.guard = none) (d s : Operand) (dT sT : TypeId)
    (ho : o.op = .call { callee := .builtin .copy, args := #[d, s], argTypes := #[dT, sT] }) (elem : TypeId) (size : Nat) (hu : P.underlying dT = some (.slice elem)) (hsz : (P.info? elem).map (·.size) = some size)
    (dp sp : Option Addr) (dLen dCap sLen sCap : Nat) (hd : a.eval d = .slice dp dLen dCap) (hs : a.eval s = .slice sp sLen sCap)
    (g od gs os k : Nat) (hdp : dp = some ⟨g, od, none⟩) (hsp : sp = some ⟨gs, os, none⟩) (hk : Nat.min sLen dLen = k) (cur : Array Value) (t : TypeId) (cs : List Value) (hg : Blk w g t cur) (hn : cs.length = k * size)
    (hsrc : ∀ j v, cs[j]? = some v → w.cell? ⟨gs, os + j, none⟩ = some v) (hfit : od + cs.length ≤ cur.size) (h1 : ∀ v ∈ cs, v.oneCell' = true)
    (h : ∀ w', Blk w' g t (cur.toList.take od ++ cs ++ cur.toList.drop (od + cs.length)).toArray → Fr (fun b => b = g) w w' → wpList P ops Q rest (a.put o.dst (goInt k)) w') : wpList P ops Q (o :: rest) a w := by
  subst hdp
  subst hsp
  obtain ⟨w', hrun, hB, hF⟩ := run_copy_wide (P := P) w dT sT o.type elem size g od k dLen dCap gs os sLen sCap cur t cs hu hsz hg hk hn hsrc hfit h1
  refine wpList_plain hgd fun K hK => ?_
  unfold Oper.wp
  simp [execOp, ho, resolve, invoke, builtin, hd, hs, hrun, Result.andThen]
  exact hK _ _ (h w' hB hF)
theorem step_copy_wide (hgd : o.guard = none) (d s : Operand) (dT sT : TypeId)
    (ho : o.op = .call { callee := .builtin .copy, args := #[d, s], argTypes := #[dT, sT] }) (elem : TypeId) (size : Nat) (hu : P.underlying dT = some (.slice elem)) (hsz : (P.info? elem).map (·.size) = some size)
    (dp sp : Option Addr) (dLen dCap sLen sCap : Nat) (hd : a.eval d = .slice dp dLen dCap) (hs : a.eval s = .slice sp sLen sCap)
    (g od gs os k : Nat) (hdp : dp = some ⟨g, od, none⟩) (hsp : sp = some ⟨gs, os, none⟩) (hk : Nat.min sLen dLen = k) (cur : Array Value) (t : TypeId) (cs : List Value) (hg : Blk w g t cur) (hn : cs.length = k * size)
    (hsrc : ∀ j v, cs[j]? = some v → w.cell? ⟨gs, os + j, none⟩ = some v) (hfit : od + cs.length ≤ cur.size) (h1 : ∀ v ∈ cs, v.oneCell' = true)
    (h : ∀ w', Blk w' g t (cur.toList.take od ++ cs ++ cur.toList.drop (od + cs.length)).toArray → Fr (fun b => b = g) w w' → Kc (a.put o.dst (goInt k)) w') :
    if Region.wanted o (yielded ops a.tmps) = true then Oper.wp P o a w Kc Q else E := by
  have hw : Region.wanted o (yielded ops a.tmps) = true := by simp [Region.wanted, hgd]
  rw [if_pos hw]
  subst hdp
  subst hsp
  obtain ⟨w', hrun, hB, hF⟩ := run_copy_wide (P := P) w dT sT o.type elem size g od k dLen dCap gs os sLen sCap cur t cs hu hsz hg hk hn hsrc hfit h1
  unfold Oper.wp
  simp [execOp, ho, resolve, invoke, builtin, hd, hs, hrun, Result.andThen]
  exact h w' hB hF
end
end
/-- The cells after: the tail is moved up, the new one is laid in its place. -/
theorem ins_cells {α : Type} (X c T N : List α) (z : Nat) (hN : N.length = z) (hX : X = c.take X.length) (hc : X.length + z + T.length ≤ c.length) :
    ((c.take (X.length + z) ++ T ++ c.drop (X.length + z + T.length)).take X.length ++ N ++ (c.take (X.length + z) ++ T ++ c.drop (X.length + z + T.length)).drop (X.length + N.length)) = X ++ N ++ T ++ c.drop (X.length + z + T.length) := by
  obtain ⟨n, hn⟩ : ∃ n, X.length = n := ⟨_, rfl⟩
  rw [hn] at hX hc ⊢
  have e1 : (c.take (n + z) ++ T ++ c.drop (n + z + T.length)).take n = X := by
    rw [List.append_assoc, List.take_append_of_le_length (by rw [List.length_take]; omega), List.take_take, hX]
    congr 1
    omega
  have e2 : (c.take (n + z) ++ T ++ c.drop (n + z + T.length)).drop (n + N.length) = T ++ c.drop (n + z + T.length) := by
    rw [hN, List.append_assoc, List.drop_append, List.drop_eq_nil_of_le (by rw [List.length_take]; omega), List.length_take, Nat.min_eq_left (by omega), Nat.sub_self]
    rfl
  rw [e1, e2, List.append_assoc, List.append_assoc, List.append_assoc]
/-- The same, the new one first. -/
theorem ins_cells2 {α : Type} (X c T N : List α) (z : Nat) (hN : N.length = z) (hX : X = c.take X.length) (hc : X.length + z + T.length ≤ c.length) :
    ((c.take X.length ++ N ++ c.drop (X.length + N.length)).take (X.length + z) ++ T ++ (c.take X.length ++ N ++ c.drop (X.length + N.length)).drop (X.length + z + T.length)) = X ++ N ++ T ++ c.drop (X.length + z + T.length) := by
  obtain ⟨n, hn⟩ : ∃ n, X.length = n := ⟨_, rfl⟩
  rw [hn] at hX hc ⊢
  rw [← hX, hN]
  have hl : (X ++ N).length = n + z := by rw [List.length_append, hn, hN]
  rw [List.take_append_of_le_length (by omega), List.take_of_length_le (by omega), List.drop_append, List.drop_eq_nil_of_le (by omega), hl, List.drop_drop, List.nil_append]
  simp only [List.append_assoc]
  congr 4
  omega
def insL (l : List Rg) (i : Nat) (r : Rg) : List Rg := l.take i ++ r :: l.drop i
theorem insL_len (l : List Rg) (i : Nat) (r : Rg) (h : i ≤ l.length) : (insL l i r).length = l.length + 1 := by
  unfold insL
  rw [List.length_append, List.length_cons, List.length_take, List.length_drop]
  omega
theorem insL_rcs (l : List Rg) (i : Nat) (r : Rg) : rcs (insL l i r) = rcs (l.take i) ++ rc r ++ rcs (l.drop i) := by
  unfold insL
  rw [rcs_append, List.append_assoc]
  rfl
theorem rcs_take (l : List Rg) (i : Nat) (h : i ≤ l.length) : rcs (l.take i) = (rcs l).take (i * 3) := by
  have e : rcs l = rcs (l.take i) ++ rcs (l.drop i) := by rw [← rcs_append, List.take_append_drop]
  have hl : (rcs (l.take i)).length = i * 3 := by rw [rcs_length, List.length_take]; omega
  rw [e, ← hl, List.take_left]
theorem rcs_drop (l : List Rg) (i : Nat) (h : i ≤ l.length) : rcs (l.drop i) = (rcs l).drop (i * 3) := by
  have e : rcs l = rcs (l.take i) ++ rcs (l.drop i) := by rw [← rcs_append, List.take_append_drop]
  have hl : (rcs (l.take i)).length = i * 3 := by rw [rcs_length, List.length_take]; omega
  rw [e, ← hl, List.drop_left]
theorem szRG : (Try.prog.info? 36).map (·.size) = some 3 := by kernel_rfl
/-- A block that begins with these regions is a row of them. -/
theorem OwnR.make {w : World} {B g cap : Nat} {cur : Array Value} {l : List Rg} (hB : B ≤ g) (hb : Blk w g 36 cur) (hl : l.length ≤ cap) (hm : cap ≤ maxLen) (hc : cur.size = cap * 3) (ht : ∃ R, cur.toList = rcs l ++ R) : OwnR w B (.slice (some ⟨g, 0, none⟩) l.length cap) l := by
  refine ⟨rcs_length l, .inr ⟨g, cap, cur, rfl, hB, hb, hl, hm, hc, ?_⟩⟩
  obtain ⟨R, e⟩ := ht
  rw [e, ← rcs_length, List.take_left]
theorem hovF (w : World) (vb g o la ca lb cb : Nat) (hvb : vb ≠ g) (A B : Array Value) (ha : Blk w vb 36 A) (hb : Blk w g 36 B) (hB : B.size ≠ 0) : (callFunc 53 #[.slice (some ⟨vb, 0, none⟩) la ca, .slice (some ⟨g, o, none⟩) lb cb]).run Try.prog w = .ok (.value (.bool false)) w := by
  have h : w.shape? vb = some (36, A.size) := by
    unfold World.shape?
    unfold Blk at ha
    rw [ha]
  have h2 : w.shape? g = some (36, B.size) := by
    unfold World.shape?
    unfold Blk at hb
    rw [hb]
  have hz : ∀ w, (Go.sizeOf 36).run Try.prog w = .ok 3 w := by
    intro w
    obtain ⟨i0, hi, hz0, hz1, hz2⟩ := info_parts infoRG
    simp [sizeOf, typeInfo, hi, hz1]
  rw [run_callFunc_extern Try.func53 (by kernel_rfl) (by kernel_rfl) (by kernel_rfl) (e := Extern.SlicesOverlaps.overlaps #[39, 39] #[4]) (by kernel_rfl),
    Lib.run_overlaps_apart w 39 4 36 Try.underlying39 3 hz ⟨vb, 0, none⟩ ⟨g, o, none⟩ la ca lb cb hvb 36 36 A.size B.size h h2 hB (ha.frozen 0) (ha.frozen _)]
  rfl
end Go.Proofs.Ytnaiccgbjcppaaa.Rg
