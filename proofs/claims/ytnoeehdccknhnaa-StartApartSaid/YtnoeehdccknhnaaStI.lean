/- Rows of pairs; the document's Aux, walked. -/
import Derived.Test.YtnoeehdccknhnaaStC
namespace Go.Proofs.Ytnoeehdccknhnaa.St
open Go Go.RowKit Go.Proofs.YtnoeehdccknhnaaW.PrintWords Go.Proofs.YtnoeehdccknhnaaW.PrintLast Go.Proofs.YtnoeehdccknhnaaW.PrintMore
open Go.Proofs.Ytnoeehdccknhnaa.Hp
attribute [local go_sem] max2_int min2_int max_two min_two max_three min_three max_four min_four
set_option linter.unusedVariables false
set_option linter.unusedSimpArgs false
/-- A row of pairs, in blocks that are younger than a world. -/
structure PRw (w0 w : World) (v : Value) (n : Nat) (L : List Int) : Prop where
  own : w.ownsRow w0.heap.size 44 2 v n (nums .u64 L)
  bel : Below w0.heap.size w0 w
theorem PRw.start {w0 w : World} (h : Below w0.heap.size w0 w) : PRw w0 w (.slice none 0 0) 0 [] := ⟨World.ownsRow_nil _ _ _ _, h⟩
section
variable {ops : Array Oper} {rest : List Oper} {o : Oper} {a : Act} {Q : Exit → Act → World → Prop}
theorem rowP_app {w0 wr : World} (hgd : o.guard = none) (s x : Operand) (ho : o.op = .call { callee := .builtin .append, args := #[s, x], argTypes := #[38, 38] })
    (v : Value) (n : Nat) (L M : List Int) (m : Nat) (hs : a.eval s = v) (hx : a.eval x = .slice (some ⟨wr.heap.size, 0, none⟩) m m) (H : PRw w0 wr v n L) (hM : M.length = m * 2) (hn : n + m ≤ 1000)
    (h : ∀ v1 w1, PRw w0 w1 v1 (n + m) (L ++ M) → Fr (fun b => v.ownBlock = some b) wr w1 → wpList Try.prog ops Q rest (a.put o.dst v1) w1) : wpList Try.prog ops Q (o :: rest) a (wr.alloc (.cells (nums .u64 M).toArray 44)) := by
  obtain ⟨i0, hi, hz0, hz1, hz2⟩ := info_parts infoPR
  have hsz := H.bel.size
  refine wpList_append_own_wide _ hgd s x 38 ho w0.heap.size 44 i0 (.agg #[.int .u64 0, .int .u64 0]) 2 16 Try.underlying38 hi hz0 hz1 hz2 rfl (by decide) v n (nums .u64 L) hs (H.own.alloc _) ⟨wr.heap.size, 0, none⟩ m m (nums .u64 M) hx (by simp [nums, hM]) (news_new wr (nums .u64 M) 44) (one_nums _ _) (by unfold maxLen; omega) (by omega) (by simp; omega) ?_
  intro v1 w1 h1 g1 _
  have hf : Fr (fun b => v.ownBlock = some b) wr w1 := ((Fr.refl (fun b => v.ownBlock = some b) wr).alloc _).grown g1 (fun b hb => .inl hb)
  exact h v1 w1 ⟨by rw [nums_append]; exact h1, Fr.below H.bel hf (fun k hk e => by have := own_ge H.own k e; omega)⟩ hf
end
def loopL : Nat → List Int
  | 0 => []
  | k + 1 => loopL k ++ [11 + (k : Int), 1000]
def AtR (w0 : World) (L : List Int) (n : Nat) (v5 v6 : Value) (kq : Nat) (wr : World) : Prop := ∃ k : Nat, v6 = .int .u64 (11 + (k : Int)) ∧ k ≤ 4 ∧ 4 - k ≤ kq ∧ PRw w0 wr v5 (n + k) (L ++ loopL k)
set_option maxHeartbeats 4000000 in
theorem raux_any (entry phdr phnum phsize random : Int) (seg : Value) (hseg : seg.oneCell' = true) (w : World) : Calls Try.prog 14 #[.agg #[.int .u64 entry, seg, .int .u64 phdr, .int .i64 phnum, .int .i64 phsize], .int .u64 random] w fun e w' => ∃ v, e = .returned v ∧ w'.ownsRow w.heap.size 44 2 v (auxN phdr) (nums .u64 (auxL entry phdr phnum phsize random)) ∧ Below w.heap.size w w' := by
  obtain ⟨o, ho⟩ : ∃ o, o = auxL entry phdr phnum phsize random := ⟨_, rfl⟩
  rw [← ho]
  obtain ⟨p1, hp1⟩ : ∃ p, IntKind.u64.wrap phsize = p := ⟨_, rfl⟩
  obtain ⟨p2, hp2⟩ : ∃ p, IntKind.u64.wrap phnum = p := ⟨_, rfl⟩
  unfold auxL at ho
  rw [hp1, hp2] at ho
  have HX := Lib.hid (Blk.new w 26 #[.int .u64 entry, seg, .int .u64 phdr, .int .i64 phnum, .int .i64 phsize])
  have HB := Lib.hid (Fr.below (Below.refl w.heap.size w) ((Fr.refl (fun _ => False) w).alloc (.cells #[.int .u64 entry, seg, .int .u64 phdr, .int .i64 phnum, .int .i64 phsize] 26)) (fun _ _ => id))
  by_cases hp : phdr = 0
  · rw [if_pos hp] at ho
    have t1 : (phdr == 0) = true := beq_iff_eq.2 hp
    have t2 : (phdr != 0) = false := by rw [bne, t1]; rfl
    rw [auxN, if_pos hp]
    have HO := Lib.hid ho
    have HP := Lib.hid (PRw.start HB.out)
    clear ho hp
    go_enter Try.func14, Try.ntmps14
    have HPa := HP
    have HXa := HX
    clear HP HX
    obtain ⟨k0, k3, k4⟩ := (show _ ∧ _ ∧ _ from ⟨HXa.out.cell 0, HXa.out.cell 3, HXa.out.cell 4⟩)
    simp at k0 k3 k4
    go_wp2_with ((with_reducible refine gate_builtin (b := .append) (xs := #[.tmp 16, .tmp 29]) rfl ?_); refine Classical.byContradiction fun hgoal => ?_)
    apply hgoal
    clear hgoal
    (try (refine gate_guard (by rfl) ?_; dsimp only))
    refine rowP_app (w0 := w) (wr := w.alloc (.cells #[.int .u64 entry, seg, .int .u64 phdr, .int .i64 phnum, .int .i64 phsize] 26)) rfl (.tmp 16) (.tmp 29) rfl (.slice none 0 0) 0 ([] : List Int) [4, p1, 5, p2, 6, 4096, 9, entry] 4 rfl (by simp; rfl) HPa.out rfl (by decide) ?_
    intro v6 wb hpb _
    have HPb := Lib.hid hpb
    clear hpb HPa HXa k0 k3 k4
    obtain ⟨L4, hL4⟩ : ∃ l, ([] : List Int) ++ [4, p1, 5, p2, 6, 4096, 9, entry] = l := ⟨_, rfl⟩
    rw [hL4] at HPb
    have HL4 := Lib.hid hL4
    clear hL4
    go_wp2_with fail
    go_loopg [5, 6] 4 (fun kq v5 v6 wr => Hid (AtR w L4 (0 + 4) v5 v6 kq wr))
    case atStart => exact Lib.hid ⟨0, rfl, by omega, by omega, by simpa [loopL] using HPb.out⟩
    case round =>
      obtain ⟨k, rfl, hk1, hk2, hpr⟩ := hrel.out
      have HPr := Lib.hid hpr
      clear hrel hpr HPb
      by_cases hk : k < 4
      · have d1 : decide (11 + (k : Int) ≤ 14) = true := decide_eq_true (by omega)
        have e1 : IntKind.u64.wrap (11 + (k : Int) + 1) = 11 + (k : Int) + 1 := IntWalk.u64_in _ (by omega)
        go_wp2_with ((with_reducible refine gate_builtin (b := .append) (xs := #[.tmp 35, .tmp 38]) rfl ?_); refine Classical.byContradiction fun hgoal => ?_)
        apply hgoal
        clear hgoal
        (try (refine gate_guard (by rfl) ?_; dsimp only))
        refine rowP_app (w0 := w) rfl (.tmp 35) (.tmp 38) rfl _ (0 + 4 + k) (L4 ++ loopL k) [11 + (k : Int), 1000] 1 rfl rfl HPr.out rfl (by omega) ?_
        intro v7 wc hpc _
        have HPc := Lib.hid hpc
        clear hpc HPr
        go_wp2_with fail
        go_roundg (4 - (k + 1))
        case measure => omega
        case rel => exact Lib.hid ⟨k + 1, by go_num, by omega, by omega, by have e := HPc.out; rw [List.append_assoc] at e; exact e⟩
      · obtain rfl : k = 4 := by omega
        have d1 : decide (11 + ((4 : Nat) : Int) ≤ 14) = false := rfl
        go_wp2_with ((with_reducible refine gate_builtin (b := .append) (xs := #[.tmp 40, .tmp 45]) rfl ?_); refine Classical.byContradiction fun hgoal => ?_)
        apply hgoal
        clear hgoal
        (try (refine gate_guard (by rfl) ?_; dsimp only))
        refine rowP_app (w0 := w) rfl (.tmp 40) (.tmp 45) rfl _ (0 + 4 + 4) (L4 ++ loopL 4) [23, 0, 25, random, 0, 0] 3 rfl rfl HPr.out rfl (by omega) ?_
        intro v7 wc hpc _
        have HPc := Lib.hid hpc
        clear hpc HPr
        go_wp2_with fail
        go_ret
        refine ⟨v7, rfl, ?_, HPc.out.bel⟩
        have e := HPc.out.own
        rw [← HL4.out] at e
        rw [HO.out]
        exact e
  · rw [if_neg hp] at ho
    have t1 : (phdr == 0) = false := beq_eq_false_iff_ne.2 hp
    have t2 : (phdr != 0) = true := by rw [bne, t1]; rfl
    rw [auxN, if_neg hp]
    have HO := Lib.hid ho
    have HP := Lib.hid (PRw.start HB.out)
    clear ho hp
    go_enter Try.func14, Try.ntmps14
    go_wp2_with ((with_reducible refine gate_builtin (b := .append) (xs := #[.tmp 10, .tmp 14]) rfl ?_); refine Classical.byContradiction fun hgoal => ?_)
    apply hgoal
    clear hgoal
    (try (refine gate_guard (by rfl) ?_; dsimp only))
    refine rowP_app (w0 := w) (wr := w.alloc (.cells #[.int .u64 entry, seg, .int .u64 phdr, .int .i64 phnum, .int .i64 phsize] 26)) rfl (.tmp 10) (.tmp 14) rfl (.slice none 0 0) 0 [] [3, phdr] 1 rfl (by simp; rfl) HP.out rfl (by decide) ?_
    intro v5 wa hpa hfa
    have HPa := Lib.hid hpa
    have HXa := Lib.hid (HX.out.fr hfa (by simp [Value.ownBlock]))
    clear hpa hfa HP HX
    obtain ⟨k0, k3, k4⟩ := (show _ ∧ _ ∧ _ from ⟨HXa.out.cell 0, HXa.out.cell 3, HXa.out.cell 4⟩)
    simp at k0 k3 k4
    go_wp2_with ((with_reducible refine gate_builtin (b := .append) (xs := #[.tmp 16, .tmp 29]) rfl ?_); refine Classical.byContradiction fun hgoal => ?_)
    apply hgoal
    clear hgoal
    (try (refine gate_guard (by rfl) ?_; dsimp only))
    refine rowP_app (w0 := w) (wr := wa) rfl (.tmp 16) (.tmp 29) rfl v5 (0 + 1) ([] ++ [3, phdr] : List Int) [4, p1, 5, p2, 6, 4096, 9, entry] 4 rfl rfl HPa.out rfl (by decide) ?_
    intro v6 wb hpb _
    have HPb := Lib.hid hpb
    clear hpb HPa HXa k0 k3 k4
    obtain ⟨L4, hL4⟩ : ∃ l, ([] ++ [3, phdr] : List Int) ++ [4, p1, 5, p2, 6, 4096, 9, entry] = l := ⟨_, rfl⟩
    rw [hL4] at HPb
    have HL4 := Lib.hid hL4
    clear hL4
    go_wp2_with fail
    go_loopg [5, 6] 4 (fun kq v5 v6 wr => Hid (AtR w L4 ((0 + 1) + 4) v5 v6 kq wr))
    case atStart => exact Lib.hid ⟨0, rfl, by omega, by omega, by simpa [loopL] using HPb.out⟩
    case round =>
      obtain ⟨k, rfl, hk1, hk2, hpr⟩ := hrel.out
      have HPr := Lib.hid hpr
      clear hrel hpr HPb
      by_cases hk : k < 4
      · have d1 : decide (11 + (k : Int) ≤ 14) = true := decide_eq_true (by omega)
        have e1 : IntKind.u64.wrap (11 + (k : Int) + 1) = 11 + (k : Int) + 1 := IntWalk.u64_in _ (by omega)
        go_wp2_with ((with_reducible refine gate_builtin (b := .append) (xs := #[.tmp 35, .tmp 38]) rfl ?_); refine Classical.byContradiction fun hgoal => ?_)
        apply hgoal
        clear hgoal
        (try (refine gate_guard (by rfl) ?_; dsimp only))
        refine rowP_app (w0 := w) rfl (.tmp 35) (.tmp 38) rfl _ ((0 + 1) + 4 + k) (L4 ++ loopL k) [11 + (k : Int), 1000] 1 rfl rfl HPr.out rfl (by omega) ?_
        intro v7 wc hpc _
        have HPc := Lib.hid hpc
        clear hpc HPr
        go_wp2_with fail
        go_roundg (4 - (k + 1))
        case measure => omega
        case rel => exact Lib.hid ⟨k + 1, by go_num, by omega, by omega, by have e := HPc.out; rw [List.append_assoc] at e; exact e⟩
      · obtain rfl : k = 4 := by omega
        have d1 : decide (11 + ((4 : Nat) : Int) ≤ 14) = false := rfl
        go_wp2_with ((with_reducible refine gate_builtin (b := .append) (xs := #[.tmp 40, .tmp 45]) rfl ?_); refine Classical.byContradiction fun hgoal => ?_)
        apply hgoal
        clear hgoal
        (try (refine gate_guard (by rfl) ?_; dsimp only))
        refine rowP_app (w0 := w) rfl (.tmp 40) (.tmp 45) rfl _ ((0 + 1) + 4 + 4) (L4 ++ loopL 4) [23, 0, 25, random, 0, 0] 3 rfl rfl HPr.out rfl (by omega) ?_
        intro v7 wc hpc _
        have HPc := Lib.hid hpc
        clear hpc HPr
        go_wp2_with fail
        go_ret
        refine ⟨v7, rfl, ?_, HPc.out.bel⟩
        have e := HPc.out.own
        rw [← HL4.out] at e
        rw [HO.out]
        exact e
end Go.Proofs.Ytnoeehdccknhnaa.St
