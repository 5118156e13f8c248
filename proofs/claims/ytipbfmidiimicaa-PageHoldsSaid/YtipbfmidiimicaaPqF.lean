/- wide, Touch: walked; delete in the round of a range. -/
import Derived.Test.YtipbfmidiimicaaPqE
namespace Go.Proofs.Ytipbfmidiimicaa.Pq
open Go Go.RowKit Go.Proofs.YtipbfmidiimicaaW.PrintWords Go.Proofs.YtipbfmidiimicaaW.PrintLast Go.Proofs.YtipbfmidiimicaaW.PrintMore
open Go.Proofs.Ytipbfmidiimicaa.Hp Go.Proofs.Ytipbfmidiimicaa.Pm
attribute [local go_sem] max2_m min2_m max_two min_two max_three min_three max_four min_four
set_option linter.unusedVariables false
set_option linter.unusedSimpArgs false
section
open Go.ChangeMaps Go.MapKept Go.WideShapes
open Go.WideElems (Fit rd rg pl rd_key rd_val rg_of other_key)
open Go.Maps (Keyed keyOf_int_mk)
variable {P : Program} {K T E : TypeId} {q : IntKind} {w W : World} {B n sz : Nat} {f : Int → Option Nat}
/-- A map at which nothing is found holds nothing. -/
theorem PM.empty (h : PM P K q w B n f sz) (hK : Keyed P K) (hu : P.underlying K = some (.int q)) (hf : ∀ k, (Lit.int q k).wf = true → f k = none) : sz = 0 := by
  obtain ⟨D, ⟨es, clock, hb, F, hs, rfl⟩, rfl, h3⟩ := h
  cases he : es.toList with
  | nil => simp [Maps.size, he]
  | cons x r =>
    exfalso
    have hx : x ∈ es.toList := by rw [he]; exact List.mem_cons_self
    obtain ⟨y, hy⟩ := F.reads x hx
    obtain ⟨k, _, hk, hwk⟩ := Maps.keyOf_int_inv hu (rd_key hy)
    have h1 : Maps.has (DataW.map ((es.toList.map (rg P K ptrR)).foldr DataW.insert [])) (rg P K ptrR x).1 = true :=
      List.any_eq_true.2 ⟨rg P K ptrR x, mem_sorted.2 (List.mem_map.2 ⟨x, hx, rfl⟩), WideAt.sameKey_self (by rw [rg_of hy]; exact hK.key (rd_key hy))⟩
    rw [rg_of hy, hk, (h3 k hwk).2, hf k hwk] at h1
    cases h1
variable {ops : Array Oper} {rest : List Oper} {o : Oper} {a : Act} {Q : Exit → Act → World → Prop} {r cnt : Nat} {todo : Int → Bool}
/-- delete in the round. -/
theorem PR.drop (h : PR P K q w B r n f sz todo cnt) (hK : Keyed P K) (hu : P.underlying K = some (.int q)) (ht : P.underlying T = some (.map K E)) (k : Int) (hk : (Lit.int q k).wf = true) (ty : TypeId) :
    ∃ w' sz' cnt', (Builtin.delete_ #[T, K] ty #[.map (some B), .int q k]).run P w = .ok (.tuple #[]) w' ∧ PR P K q w' B r n (updP f k none) sz' (fun z => todo z && !(z == k)) cnt' ∧ cnt' ≤ cnt ∧ Fr (fun i => i = B) w w' := by
  obtain ⟨D, left, h1, h2, h3, h4⟩ := h
  obtain ⟨w', cnt', hrun, h5, h6, h7⟩ := h1.drop hK ht (keyOf_int_mk hu hk) ty
  refine ⟨w', _, cnt', hrun, ⟨_, _, h5, rfl, fun j hj => ?_, fun j hj => ?_⟩, h6, (Fr.refl _ _).grown h7.grown (fun i e => .inl (by injection e with e; exact e.symm))⟩
  · by_cases e : j = k
    · subst e
      rw [updP_same, Maps.atKey_del_same, Maps.has_del_same]
      exact ⟨rfl, rfl⟩
    · rw [updP_ne _ _ e, Maps.atKey_del_other (key_ne e), Maps.has_del_other (key_ne e)]
      exact h3 j hj
  · show (left (.int q j) && !(Lit.int q j).sameKey (.int q k)) = _
    rw [h4 j hj]
    by_cases e : j = k
    · subst e
      rw [WideAt.sameKey_self (hK.key (keyOf_int_mk hu hk))]
      simp
    · rw [Maps.sameKey_ne (key_ne e)]
      simp [e]
theorem drop_step {Kc : Act → World → Prop} (hw : Region.wanted o (yielded ops a.tmps) = true) (m x : Operand) (hop : o.op = Op.call { callee := Callee.builtin Builtin.delete, args := #[m, x], argTypes := #[T, K] }) (hK : Keyed P K) (hu : P.underlying K = some (.int q)) (ht : P.underlying T = some (.map K E))
    (h : PR P K q W B r n f sz todo cnt) (k : Int) (hk : (Lit.int q k).wf = true) (hm : a.eval m = .map (some B)) (hx : a.eval x = .int q k)
    (hc : ∀ w' sz' cnt', PR P K q w' B r n (updP f k none) sz' (fun z => todo z && !(z == k)) cnt' → cnt' ≤ cnt → Fr (fun i => i = B) W w' → Kc (a.put o.dst (.tuple #[])) w') :
    if Region.wanted o (yielded ops a.tmps) = true then Oper.wp P o a W Kc Q else Kc (a.put o.dst undef) W := by
  rw [if_pos hw]
  obtain ⟨w', sz', cnt', hrun, h1, h2, h3⟩ := PR.drop h hK hu ht k hk o.type
  unfold Oper.wp
  simp [execOp, hop, resolve, invoke, builtin, hm, hx, hrun, Result.andThen]
  exact hc w' sz' cnt' h1 h2 h3
theorem drop_list (hw : Region.wanted o (yielded ops a.tmps) = true) (m x : Operand) (hop : o.op = Op.call { callee := Callee.builtin Builtin.delete, args := #[m, x], argTypes := #[T, K] }) (hK : Keyed P K) (hu : P.underlying K = some (.int q)) (ht : P.underlying T = some (.map K E))
    (h : PR P K q W B r n f sz todo cnt) (k : Int) (hk : (Lit.int q k).wf = true) (hm : a.eval m = .map (some B)) (hx : a.eval x = .int q k)
    (hc : ∀ w' sz' cnt', PR P K q w' B r n (updP f k none) sz' (fun z => todo z && !(z == k)) cnt' → cnt' ≤ cnt → Fr (fun i => i = B) W w' → wpList P ops Q rest (a.put o.dst (.tuple #[])) w') : wpList P ops Q (o :: rest) a W :=
  wpList_step fun _ hKc => drop_step hw m x hop hK hu ht h k hk hm hx (fun w' s c h1 h2 h3 => hKc _ _ (hc w' s c h1 h2 h3))
end
theorem wide_any (fr te : Int) (h0 : 0 ≤ fr ∧ fr < te ∧ te ≤ 274877906944) (w : World) : Calls Try.prog 20 #[.int .u64 fr, .int .u64 te] w fun e w' => e = .returned (.bool (decide (4096 < (te + 4095) / 4096 - fr / 4096))) ∧ Fr (fun _ => False) w w' := by
  have q1 : IntKind.u64.wrap (te + 4096) = te + 4096 := IntWalk.u64_in _ (by omega)
  have q2 : IntKind.u64.wrap (te + 4096 - 1) = te + 4095 := by rw [show te + 4096 - 1 = te + 4095 from by omega]; exact IntWalk.u64_in _ (by omega)
  obtain ⟨a, ha⟩ : ∃ a, (te + 4095) / 4096 = a := ⟨_, rfl⟩
  obtain ⟨b, hb⟩ : ∃ b, fr / 4096 = b := ⟨_, rfl⟩
  have t1 : (te + 4095).tdiv 4096 = a := by rw [Int.tdiv_eq_ediv_of_nonneg (by omega)]; exact ha
  have t2 : fr.tdiv 4096 = b := by rw [Int.tdiv_eq_ediv_of_nonneg (by omega)]; exact hb
  have q3 : IntKind.u64.wrap (a - b) = a - b := IntWalk.u64_in _ (by omega)
  go_enter Try.func20, Try.ntmps20
  go_wp2_with fail
  go_ret
  rw [ha, hb]
  exact ⟨rfl, Fr.refl _ _⟩
def AtTc (w0 : World) (B g BL BS : Nat) (n : Nat) (f : Int → Option Nat) (sz : Nat) (C : Int → Int) (clk al fp : Int) (t : Nat) (v6 : Value) (kq : Nat) (wr : World) : Prop :=
  ∃ (j : Nat), v6 = .int .u64 (fp + (j : Int)) ∧ j ≤ t ∧ t - j ≤ kq ∧ Sto wr B g BL BS (n + j) f sz C (clk + (j : Int)) al ∧ Fr (fun k => k = g ∨ k = BS) w0 wr
set_option maxHeartbeats 8000000 in
set_option maxRecDepth 100000 in
theorem touch_any {B g BL BS n sz : Nat} {f : Int → Option Nat} {C : Int → Int} {clk al : Int} (fr te : Int) (h0 : 0 ≤ fr ∧ fr < te ∧ te ≤ 274877906944) (w : World) (h : Sto w B g BL BS n f sz C clk al) (hn : n < 100000000) :
    Calls Try.prog 16 #[.pointer (some ⟨g, 0, none⟩), .int .u64 fr, .int .u64 te] w fun e w' => e = .returned (.tuple #[]) ∧ ∃ n' clk' al', Sto w' B g BL BS n' f sz C clk' al' ∧ n' ≤ n + 4096 ∧ Fr (fun k => k = g ∨ k = BS) w w' := by
  have HS := Lib.hid h
  have HN := Lib.hid hn
  have hmin : min te 274877906944 = te := by omega
  have c1 : decide (te ≤ fr) = false := decide_eq_false (by omega)
  obtain ⟨fp, hfp⟩ : ∃ fp, fr / 4096 = fp := ⟨_, rfl⟩
  have t1 : fr.tdiv 4096 = fp := by rw [Int.tdiv_eq_ediv_of_nonneg (by omega)]; exact hfp
  have HFP := Lib.hid hfp
  have hwfp : IntKind.u64.wrap fp = fp := IntWalk.u64_in _ (by omega)
  clear h hn
  go_enter Try.func16, Try.ntmps16
  go_wp2_with fail
  refine (wide_any fr te h0 _).mono ?_
  rintro x w1 ⟨rfl, hf1⟩
  have HST := Lib.hid (HS.out.fr hf1)
  have HF1 := Lib.hid hf1
  by_cases hw : 4096 < (te + 4095) / 4096 - fr / 4096
  · rw [decide_eq_true hw]
    have hc := HST.out.clk0
    have k0 := HST.out.blk.cell 0
    have k1 := HST.out.blk.cell 1
    have k2 := HST.out.blk.cell 2
    have k3 := HST.out.blk.cell 3
    have f2 := HST.out.blk.frozen 2
    have f3 := HST.out.blk.frozen 3
    simp at k0 k1 k2 k3
    have hwc : IntKind.u64.wrap (clk + 1) = clk + 1 := IntWalk.u64_in _ (by have := HN.out; omega)
    have hf2 : Fr (fun k => k = g) w1 (w1.setCell ⟨g, 2, none⟩ (.int .u64 (clk + 1))) := (Fr.refl (fun k => k = g) w1).setCell (p := ⟨g, 2, none⟩) (.inl rfl) _
    have hb1 : Blk (w1.setCell ⟨g, 2, none⟩ (.int .u64 (clk + 1))) g 42 #[.map (some BL), .map (some BS), .int .u64 (clk + 1), .int .u64 al] := by simpa using HST.out.blk.set 2 (.int .u64 (clk + 1))
    have g2 := hb1.frozen 3
    have q0 := hb1.cell 0
    have q2 := hb1.cell 2
    have q3 := hb1.cell 3
    simp at q0 q2 q3
    have hf3 : Fr (fun k => k = g) w1 ((w1.setCell ⟨g, 2, none⟩ (.int .u64 (clk + 1))).setCell ⟨g, 3, none⟩ (.int .u64 (clk + 1))) := hf2.setCell (p := ⟨g, 3, none⟩) (.inl rfl) _
    have hb3 : Blk ((w1.setCell ⟨g, 2, none⟩ (.int .u64 (clk + 1))).setCell ⟨g, 3, none⟩ (.int .u64 (clk + 1))) g 42 #[.map (some BL), .map (some BS), .int .u64 (clk + 1), .int .u64 (clk + 1)] := by simpa using hb1.set 3 (.int .u64 (clk + 1))
    have HB3 := Lib.hid hb3
    have HF3 := Lib.hid hf3
    have HC := Lib.hid hc
    clear hf1 hw hb1 hf2 hf3 hb3 hc
    go_wp2_with fail
    refine bodyPost_ret (results_none rfl _ _ _) rfl ?_
    have hs3 := HST.out.touch (HF3.out.mono (T := fun k => k = g ∨ k = BS) (fun _ _ e => .inl e)) HB3.out ((HST.out.sm.fr HF3.out (HST.out.sm.ne_blk HST.out.blk)).mono (by omega)) (by have := HC.out; omega)
    exact ⟨rfl, n + 1, clk + 1, clk + 1, hs3, by omega, HF1.out.mono (T := fun k => k = g ∨ k = BS) (fun _ _ e => e.elim) |>.trans HF3.out (fun _ _ e => .inl e)⟩
  · rw [decide_eq_false hw]
    obtain ⟨t, ht⟩ : ∃ t : Nat, (te + 4095) / 4096 - fp = (t : Int) := ⟨((te + 4095) / 4096 - fp).toNat, by omega⟩
    have HT := Lib.hid (show (te + 4095) / 4096 - fp = (t : Int) ∧ t ≤ 4096 from ⟨ht, by rw [hfp] at hw; omega⟩)
    clear hf1 hw ht hfp
    go_wp2_with fail
    go_loopg [6] t (fun kq v6 wr => Hid (AtTc w B g BL BS n f sz C clk al fp t v6 kq wr))
    case atStart => exact Lib.hid ⟨0, by simp, by omega, by omega, by simpa using HST.out, HF1.out.mono (fun _ _ e => e.elim)⟩
    case round =>
      obtain ⟨j, rfl, hj, hjk, hs, hf⟩ := hrel.out
      have HST := Lib.hid hs
      have HF := Lib.hid hf
      obtain ⟨no, hno⟩ : ∃ no, fp + (j : Int) = no := ⟨_, rfl⟩
      have HNO := Lib.hid hno
      rw [hno]
      have q1 : IntKind.u64.wrap (no * 4096) = no * 4096 := IntWalk.u64_in _ (by have := HT.out; have := HFP.out; omega)
      clear hrel hs hf hno
      by_cases hgo : j < t
      · have u1 : decide (no * 4096 < te) = true := decide_eq_true (by have := HT.out; have := HFP.out; have := HNO.out; omega)
        have q2 : IntKind.u64.wrap (no + 1) = no + 1 := IntWalk.u64_in _ (by have := HT.out; have := HFP.out; have := HNO.out; omega)
        go_wp2_with fail
        refine (mark_any no (by have := HT.out; have := HFP.out; have := HNO.out; omega) _ HST.out (by have := HT.out; have := HN.out; omega)).mono ?_
        rintro x w5 ⟨rfl, hs5, hf5⟩
        have HST5 := Lib.hid hs5
        have HF5 := Lib.hid (HF.out.trans hf5 (fun _ _ e => e))
        clear hs5 hf5
        go_wp2_with fail
        go_roundg (t - (j + 1))
        case measure => omega
        case rel => exact Lib.hid ⟨j + 1, by rw [show fp + ((j + 1 : Nat) : Int) = no + 1 from by have := HNO.out; omega], by omega, Nat.le_refl _, by rw [show n + (j + 1) = n + j + 1 from by omega, show clk + ((j + 1 : Nat) : Int) = clk + (j : Int) + 1 from by omega]; exact HST5.out, HF5.out⟩
      · have u1 : decide (no * 4096 < te) = false := decide_eq_false (by have := HT.out; have := HFP.out; have := HNO.out; omega)
        go_wp2_with fail
        go_end0
        exact ⟨rfl, n + j, clk + (j : Int), al, HST.out, by have := HT.out; omega, HF.out⟩
end Go.Proofs.Ytipbfmidiimicaa.Pq
