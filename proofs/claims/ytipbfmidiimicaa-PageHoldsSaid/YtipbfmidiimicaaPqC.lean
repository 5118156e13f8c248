/- What a page's bytes are after a write (plain); copy of bytes from anywhere; a new page. -/
import Derived.Test.YtipbfmidiimicaaPqB
namespace Go.Proofs.Ytipbfmidiimicaa.Pq
open Go Go.RowKit Go.Proofs.YtipbfmidiimicaaW.PrintWords Go.Proofs.YtipbfmidiimicaaW.PrintLast Go.Proofs.YtipbfmidiimicaaW.PrintMore
open Go.Proofs.Ytipbfmidiimicaa.Hp Go.Proofs.Ytipbfmidiimicaa.Pm
attribute [local go_sem] max2_m min2_m max_two min_two max_three min_three max_four min_four
set_option linter.unusedVariables false
set_option linter.unusedSimpArgs false
/-- The bytes after l was written at a. -/
def wrC (C : Int → Int) (a : Int) (l : List Int) : Int → Int := fun x => if a ≤ x ∧ x < a + l.length then l.getD (x - a).toNat 0 else C x
theorem wrC_nil (C : Int → Int) (a : Int) : wrC C a [] = C := by
  funext x
  unfold wrC
  rw [if_neg (by simp only [List.length_nil]; omega)]
theorem wrC_app (C : Int → Int) (a : Int) (l r : List Int) : wrC C a (l ++ r) = wrC (wrC C a l) (a + l.length) r := by
  funext x
  unfold wrC
  rw [List.length_append]
  by_cases h1 : a + (l.length : Int) ≤ x ∧ x < a + (l.length : Int) + (r.length : Int)
  · rw [if_pos h1, if_pos (by omega), List.getD_eq_getElem?_getD, List.getElem?_append_right (by omega), List.getD_eq_getElem?_getD]
    congr 2
    omega
  · rw [if_neg h1]
    by_cases h2 : a ≤ x ∧ x < a + (l.length : Int)
    · rw [if_pos h2, if_pos (by omega), List.getD_eq_getElem?_getD, List.getElem?_append_left (by omega), List.getD_eq_getElem?_getD]
    · rw [if_neg h2, if_neg (by omega)]
theorem leafC_get (C : Int → Int) (no : Int) (i : Nat) (h : i < 4096) : (leafC C no)[i]? = some (C (no * 4096 + (i : Int))) := by
  unfold leafC
  rw [List.getElem?_map, List.getElem?_range h]
  rfl
/-- A page's cells after a write within it. -/
theorem leafC_wr (C : Int → Int) (no : Int) (at_ : Nat) (l : List Int) (h : at_ + l.length ≤ 4096) : (leafC C no).take at_ ++ l ++ (leafC C no).drop (at_ + l.length) = leafC (wrC C (no * 4096 + (at_ : Int)) l) no := by
  have hlen : ((leafC C no).take at_).length = at_ := by rw [List.length_take, leafC_len]; omega
  refine List.ext_getElem? fun i => ?_
  rcases Nat.lt_or_ge i 4096 with hi | hi
  · rw [leafC_get _ _ _ hi]
    unfold wrC
    rcases Nat.lt_or_ge i at_ with h1 | h1
    · rw [if_neg (by omega), List.append_assoc, List.getElem?_append_left (by rw [hlen]; exact h1), List.getElem?_take_of_lt h1, leafC_get _ _ _ hi]
    · rcases Nat.lt_or_ge i (at_ + l.length) with h2 | h2
      · rw [if_pos (by omega), List.getElem?_append_left (by rw [List.length_append, hlen]; exact h2), List.getElem?_append_right (by rw [hlen]; exact h1), hlen, List.getD_eq_getElem?_getD, show (no * 4096 + (i : Int) - (no * 4096 + (at_ : Int))).toNat = i - at_ from by omega, List.getElem?_eq_getElem (by omega)]
        rfl
      · rw [if_neg (by omega), List.getElem?_append_right (by rw [List.length_append, hlen]; exact h2), List.length_append, hlen, List.getElem?_drop, show at_ + l.length + (i - (at_ + l.length)) = i from by omega, leafC_get _ _ _ hi]
  · rw [List.getElem?_eq_none (by rw [List.length_append, List.length_append, hlen, List.length_drop, leafC_len]; omega), List.getElem?_eq_none (by rw [leafC_len]; exact hi)]
theorem leafC_other (C : Int → Int) (no no' : Int) (at_ : Nat) (l : List Int) (h : at_ + l.length ≤ 4096) (hne : no' ≠ no) : leafC (wrC C (no * 4096 + (at_ : Int)) l) no' = leafC C no' := by
  refine List.ext_getElem? fun i => ?_
  rcases Nat.lt_or_ge i 4096 with hi | hi
  · rw [leafC_get _ _ _ hi, leafC_get _ _ _ hi]
    unfold wrC
    rw [if_neg (by omega)]
  · rw [List.getElem?_eq_none (by rw [leafC_len]; exact hi), List.getElem?_eq_none (by rw [leafC_len]; exact hi)]
/-- The blocks that are a store's own. -/
def ownS (g BL BS : Nat) (f : Int → Option Nat) (k : Nat) : Prop := k = g ∨ k = BL ∨ k = BS ∨ ∃ no, f no = some k
/-- A write within a page that is held. -/
theorem Sto.wr {w w' : World} {B g BL BS n sz : Nat} {f : Int → Option Nat} {C : Int → Int} {clk al : Int} (h : Sto w B g BL BS n f sz C clk al) (no : Int) (b at_ : Nat) (l : List Int) (hb : f no = some b) (hl : at_ + l.length ≤ 4096) (hB : Blk w' b 48 (nums .u8 (leafC (wrC C (no * 4096 + (at_ : Int)) l) no)).toArray) (hf : Fr (fun k => k = b) w w') : Sto w' B g BL BS n f sz (wrC C (no * 4096 + (at_ : Int)) l) clk al := by
  have h1 := h.lv no b hb
  refine ⟨h.blk.fr hf (fun e => Blk.ne h.blk h1.1 (by decide) e), h.lm.fr hf (h.lm.ne_blk h1.1), h.sm.fr hf (h.sm.ne_blk h1.1), fun no' b' hb' => ?_, fun no' hn i hi => ?_, h.inj, h.dom, h.gb, h.lb, h.sb, h.clk0, h.apart⟩
  · by_cases e : no' = no
    · subst e
      rw [hb] at hb'
      injection hb' with e
      subst e
      exact ⟨hB, h1.2⟩
    · rw [leafC_other C no no' at_ l hl e]
      exact ⟨(h.lv no' b' hb').1.fr hf (fun e2 => by subst e2; exact e (h.inj no' no b' hb' hb)), (h.lv no' b' hb').2⟩
  · have hne : no' ≠ no := fun e => by rw [e, hb] at hn; cases hn
    have h2 := h.zero no' hn i hi
    unfold wrC
    rw [if_neg (by omega)]
    exact h2
/-- A page that is new: noughts. -/
theorem Sto.new {w w1 w' : World} {B g BL BS n sz : Nat} {f : Int → Option Nat} {C : Int → Int} {clk al : Int} (h : Sto w B g BL BS n f sz C clk al) (no : Int) (hno : 0 ≤ no ∧ no < 67108864) (b : Nat) (hn : f no = none) (hBb : B ≤ b) (hfr : Fr (fun _ => False) w w1) (hbw : w.heap.size ≤ b) (hB : Blk w1 b 48 (nums .u8 (List.replicate 4096 0)).toArray) (hm : PM Try.prog 27 .u64 w' BL (n + 1) (updP f no (some b)) (if (f no).isSome then sz else sz + 1)) (hf : Fr (fun k => k = BL) w1 w') : Sto w' B g BL BS (n + 1) (updP f no (some b)) (sz + 1) C clk al := by
  have h1 := h.fr hfr
  rw [hn] at hm
  refine ⟨h1.blk.fr hf (fun e => h1.lm.ne_blk h1.blk e.symm), hm, (h1.sm.fr hf (fun e => h.apart e.symm)).mono (by omega), fun no' b' hb' => ?_, fun no' hn' i hi => ?_, fun n1 n2 b' hb1 hb2 => ?_, fun n1 b' hb1 => ?_, h.gb, h.lb, h.sb, by have := h.clk0; omega, h.apart⟩
  · by_cases e : no' = no
    · subst e
      rw [updP_same] at hb'
      injection hb' with e
      subst e
      refine ⟨?_, hBb⟩
      have hz : leafC C no' = List.replicate 4096 0 := by
        refine List.ext_getElem? fun i => ?_
        rcases Nat.lt_or_ge i 4096 with hi | hi
        · rw [leafC_get _ _ _ hi, h.zero no' hn i hi, List.getElem?_replicate, if_pos hi]
        · rw [List.getElem?_eq_none (by rw [leafC_len]; exact hi), List.getElem?_eq_none (by rw [List.length_replicate]; exact hi)]
      rw [hz]
      exact hB.fr hf (fun e => h1.lm.ne_blk hB e.symm)
    · rw [updP_ne _ _ e] at hb'
      exact ⟨(h1.lv no' b' hb').1.fr hf (fun e2 => h1.lm.ne_blk (h1.lv no' b' hb').1 e2.symm), (h1.lv no' b' hb').2⟩
  · have e : no' ≠ no := fun e => by rw [e, updP_same] at hn'; cases hn'
    rw [updP_ne _ _ e] at hn'
    exact h.zero no' hn' i hi
  · by_cases e1 : n1 = no <;> by_cases e2 : n2 = no
    · rw [e1, e2]
    · rw [e1, updP_same] at hb1
      injection hb1 with hb1
      rw [updP_ne _ _ e2] at hb2
      have := (h.lv n2 b' hb2).1.lt
      omega
    · rw [e2, updP_same] at hb2
      injection hb2 with hb2
      rw [updP_ne _ _ e1] at hb1
      have := (h.lv n1 b' hb1).1.lt
      omega
    · rw [updP_ne _ _ e1] at hb1
      rw [updP_ne _ _ e2] at hb2
      exact h.inj n1 n2 b' hb1 hb2
  · by_cases e1 : n1 = no
    · rw [e1]; exact hno
    · rw [updP_ne _ _ e1] at hb1
      exact h.dom n1 b' hb1
def ZA : Array Value := (nums .u8 (List.replicate 4096 0)).toArray
theorem zero_leaf (w : World) : (zeroValue 48).run Try.prog w = .ok (.agg ZA) w := by kernel_rfl
theorem zeroP (w : World) : (zeroValue 45).run Try.prog w = .ok (.pointer none) w := by kernel_rfl
section
variable {P : Program}
/-- copy of bytes, out of any slice, into a block that is known whole. -/
theorem run_copy_from (w : World) (dT sT ty elem : TypeId) (g o k dLen dCap : Nat) (ad : Addr) (sLen sCap : Nat) (cur : Array Value) (t : TypeId) (cs : List Value)
    (hu : P.underlying dT = some (.slice elem)) (hs : (P.info? elem).map (·.size) = some 1)
    (hg : Blk w g t cur) (hk : Nat.min sLen dLen = k) (hn : cs.length = k)
    (hsrc : ∀ j v, cs[j]? = some v → w.cell? (ad.add j) = some v) (hfit : o + cs.length ≤ cur.size) (h1 : ∀ v ∈ cs, v.oneCell' = true) :
    ∃ w', (Builtin.copy_ #[dT, sT] ty #[.slice (some ⟨g, o, none⟩) dLen dCap, .slice (some ad) sLen sCap]).run P w = .ok (goInt k) w' ∧
      Blk w' g t (cur.toList.take o ++ cs ++ cur.toList.drop (o + cs.length)).toArray ∧ Fr (fun b => b = g) w w' := by
  have hl := run_loadCells_list (P := P) w ad cs hsrc
  have hst := run_storeCells_at P g o t cs 0 cur w hg (by simpa using hfit) h1
  have hB := setRow_heap w g cur (cur.toList.take o ++ cs ++ cur.toList.drop (o + cs.length)).toArray t (0, 0) hg
  refine ⟨w.setRow g (cur.toList.take o ++ cs ++ cur.toList.drop (o + cs.length)).toArray, ?_, hB, ⟨rfl, rfl, rfl, by simp [World.setRow], fun b hb hne => setRow_other w g b _ hne⟩⟩
  cases hq : P.info? elem with
  | none => simp [hq] at hs
  | some i =>
    have hi : i.size = 1 := by simpa [hq] using hs
    simp only [Nat.add_zero] at hst
    simp [Builtin.copy_, run_underlying hu, Builtin.lenOf, Builtin.firstCells, sizeOf, typeInfo, hq, hi, hk, ← hn, hl, hst]
section
variable {ops : Array Oper} {rest : List Oper} {o : Oper} {a : Act} {Q : Exit → Act → World → Prop} {Kc : Act → World → Prop} {w : World} {E : Prop}
theorem step_copy_from (hgd : o.guard = none) (d s : Operand) (dT sT : TypeId)
    (ho : o.op = .call { callee := .builtin .copy, args := #[d, s], argTypes := #[dT, sT] }) (elem : TypeId) (hu : P.underlying dT = some (.slice elem)) (hsz : (P.info? elem).map (·.size) = some 1)
    (dp : Option Addr) (ad : Addr) (dLen dCap sLen sCap : Nat) (hd : a.eval d = .slice dp dLen dCap) (hs : a.eval s = .slice (some ad) sLen sCap)
    (g od k : Nat) (hdp : dp = some ⟨g, od, none⟩) (hk : Nat.min sLen dLen = k) (cur : Array Value) (t : TypeId) (cs : List Value) (hg : Blk w g t cur) (hn : cs.length = k)
    (hsrc : ∀ j v, cs[j]? = some v → w.cell? (ad.add j) = some v) (hfit : od + cs.length ≤ cur.size) (h1 : ∀ v ∈ cs, v.oneCell' = true)
    (h : ∀ w', Blk w' g t (cur.toList.take od ++ cs ++ cur.toList.drop (od + cs.length)).toArray → Fr (fun b => b = g) w w' → Kc (a.put o.dst (goInt k)) w') :
    if Region.wanted o (yielded ops a.tmps) = true then Oper.wp P o a w Kc Q else E := by
  have hw : Region.wanted o (yielded ops a.tmps) = true := by simp [Region.wanted, hgd]
  rw [if_pos hw]
  subst hdp
  obtain ⟨w', hrun, hB, hF⟩ := run_copy_from (P := P) w dT sT o.type elem g od k dLen dCap ad sLen sCap cur t cs hu hsz hg hk hn hsrc hfit h1
  unfold Oper.wp
  simp [execOp, ho, resolve, invoke, builtin, hd, hs, hrun, Result.andThen]
  exact h w' hB hF
end
end
theorem szU8 : (Try.prog.info? 5).map (·.size) = some 1 := by kernel_rfl
end Go.Proofs.Ytipbfmidiimicaa.Pq
