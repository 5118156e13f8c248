/- The document's pages as rows; New, without, Regions, Span: walked. -/
import Derived.Test.YtnaiccgbjcppaaaRgL
import Derived.BigQuiet
namespace Go.Proofs.Ytnaiccgbjcppaaa.Rg
open Go Go.RowKit Go.Proofs.YtnaiccgbjcppaaaW.PrintWords Go.Proofs.YtnaiccgbjcppaaaW.PrintLast Go.Proofs.YtnaiccgbjcppaaaW.PrintMore
open Go.Proofs.Ytnaiccgbjcppaaa.Hp
attribute [local go_sem] max2_int min2_int max_two min_two max_three min_three max_four min_four
set_option linter.unusedVariables false
set_option linter.unusedSimpArgs false
/-- A page: its number, its permissions, the block of its bytes. -/
structure Pg where
  n : Int
  p : Int
  k : Nat
def pc (r : Pg) : List Value := [.int .u64 r.n, .int .i64 r.p, .slice (some ⟨r.k, 0, none⟩) 4096 4096]
def pcs : List Pg → List Value
  | [] => []
  | r :: t => pc r ++ pcs t
theorem pcs_length (l : List Pg) : (pcs l).length = l.length * 3 := by
  induction l with
  | nil => rfl
  | cons r t ih => simp only [pcs, List.length_append, ih, pc, List.length_cons, List.length_nil]; omega
theorem pcs_append (l r : List Pg) : pcs (l ++ r) = pcs l ++ pcs r := by
  induction l with
  | nil => rfl
  | cons x t ih => simp only [List.cons_append, pcs, ih, List.append_assoc]
theorem pcs_one (l : List Pg) : ∀ u ∈ pcs l, u.oneCell' = true := by
  induction l with
  | nil => intro u hu; cases hu
  | cons r t ih =>
    intro u hu
    rcases List.mem_append.1 hu with h | h
    · simp only [pc, List.mem_cons, List.not_mem_nil, or_false] at h
      rcases h with rfl | rfl | rfl <;> rfl
    · exact ih u h
def pgAt (l : List Pg) (i : Nat) : Pg := l.getD i ⟨0, 0, 0⟩
theorem pcs_at (l : List Pg) : ∀ (i : Nat), i < l.length → (pcs l)[i * 3]? = some (.int .u64 (pgAt l i).n) ∧ (pcs l)[i * 3 + 1]? = some (.int .i64 (pgAt l i).p) ∧ (pcs l)[i * 3 + 2]? = some (.slice (some ⟨(pgAt l i).k, 0, none⟩) 4096 4096) := by
  induction l with
  | nil => intro i hi; simp at hi
  | cons r t ih =>
    intro i hi
    cases i with
    | zero => exact ⟨rfl, rfl, rfl⟩
    | succ i =>
      have h := ih i (by simpa using hi)
      have e : ∀ j, (pcs (r :: t))[(i + 1) * 3 + j]? = (pcs t)[i * 3 + j]? := fun j => by
        rw [show (i + 1) * 3 + j = (i * 3 + j) + 1 + 1 + 1 by omega]
        rfl
      exact ⟨(e 0).trans h.1, (e 1).trans h.2.1, (e 2).trans h.2.2⟩
/-- A row of pages, in a block from B on. -/
def OwnP (w : World) (B : Nat) (v : Value) (l : List Pg) : Prop := w.ownsRow B 67 3 v l.length (pcs l)
theorem OwnP.nil (w : World) (B : Nat) : OwnP w B (.slice none 0 0) [] := World.ownsRow_nil _ _ _ _
theorem OwnP.low {w : World} {B B1 : Nat} {v : Value} {l : List Pg} (h : OwnP w B v l) (hb : B1 ≤ B) : OwnP w B1 v l := World.ownsRow.mono h hb
theorem OwnP.form {w : World} {B : Nat} {v : Value} {l : List Pg} (h : OwnP w B v l) : ∃ A c, v = .slice A l.length c ∧ l.length ≤ c ∧ (0 < l.length → ∃ g, A = some ⟨g, 0, none⟩) := by
  rcases h.2 with ⟨rfl, h0⟩ | ⟨g, cap, cur, rfl, _, _, hc, _⟩
  · exact ⟨none, 0, by rw [h0], by omega, fun h => by omega⟩
  · exact ⟨_, cap, rfl, hc, fun _ => ⟨g, rfl⟩⟩
theorem OwnP.at_ {w : World} {B g n c : Nat} {l : List Pg} (h : OwnP w B (.slice (some ⟨g, 0, none⟩) n c) l) (i : Nat) (hi : i < l.length) : w.cell? ⟨g, i * 3, none⟩ = some (.int .u64 (pgAt l i).n) ∧ w.cell? ⟨g, i * 3 + 1, none⟩ = some (.int .i64 (pgAt l i).p) ∧ w.cell? ⟨g, i * 3 + 2, none⟩ = some (.slice (some ⟨(pgAt l i).k, 0, none⟩) 4096 4096) := by
  have hc := h.cells (g := g) rfl
  have ha := pcs_at l i hi
  refine ⟨?_, ?_, ?_⟩
  · have e := hc _ _ ha.1
    rwa [add_plain] at e
  · have e := hc _ _ ha.2.1
    rwa [add_plain] at e
  · have e := hc _ _ ha.2.2
    rwa [add_plain] at e
theorem OwnP.fr {w w1 : World} {B : Nat} {v : Value} {l : List Pg} {S : Nat → Prop} (h : OwnP w B v l) (hf : Fr S w w1) (hn : ∀ k, v.ownBlock = some k → ¬ S k) : OwnP w1 B v l := own_move h (fun k hk => hf.block k (own_lt h k hk) (hn k hk))
theorem OwnP.fz {w : World} {B g n c : Nat} {l : List Pg} (h : OwnP w B (.slice (some ⟨g, 0, none⟩) n c) l) (hn : n = l.length) (j : Nat) : w.frozen? ⟨g, j, none⟩ = false := by
  subst hn
  exact World.ownsRow.frozenAt h j
theorem infoPG : (Try.prog.info? 67 ).map (fun i => (i.zero, i.size, i.bytes)) = some (some (.agg #[.int .u64 0, .int .i64 0, .slice none 0 0]), 3, 40) := by kernel_rfl
section
variable {ops : Array Oper} {rest : List Oper} {o : Oper} {a : Act} {Q : Exit → Act → World → Prop}
/-- append(v, r). -/
theorem rowP_app {w0 wr : World} (B : Nat) (hgd : o.guard = none) (s x : Operand) (ho : o.op = .call { callee := .builtin .append, args := #[s, x], argTypes := #[41, 41] })
    (v : Value) (l : List Pg) (r : Pg) (hs : a.eval s = v) (hx : a.eval x = .slice (some ⟨wr.heap.size, 0, none⟩) 1 1) (H : OwnP wr B v l) (hb : Below B w0 wr) (hw : B = w0.heap.size) (hn : l.length ≤ 100000)
    (h : ∀ v1 w1, OwnP w1 B v1 (l ++ [r]) → Below B w0 w1 → Fr (fun b => v.ownBlock = some b) wr w1 → wpList Try.prog ops Q rest (a.put o.dst v1) w1) : wpList Try.prog ops Q (o :: rest) a (wr.alloc (.cells (pc r).toArray 67)) := by
  obtain ⟨i0, hi, hz0, hz1, hz2⟩ := info_parts infoPG
  have hsz := hb.size
  subst hw
  refine wpList_append_own_wide _ hgd s x 41 ho w0.heap.size 67 i0 (.agg #[.int .u64 0, .int .i64 0, .slice none 0 0]) 3 40 Try.underlying41 hi hz0 hz1 hz2 rfl (by decide) v l.length (pcs l) hs (World.ownsRow.alloc H _) ⟨wr.heap.size, 0, none⟩ 1 1 (pc r) hx rfl (news_new wr (pc r) 67) (fun u hu => pcs_one [r] u (by simpa [pcs] using hu)) (by unfold maxLen; omega) (by omega) (by simp; omega) ?_
  intro v1 w1 h1 g1 _
  have hf : Fr (fun b => v.ownBlock = some b) wr w1 := ((Fr.refl (fun b => v.ownBlock = some b) wr).alloc _).grown g1 (fun b hb => .inl hb)
  refine h v1 w1 ?_ (Fr.below hb hf (fun k hk e => by have := own_ge H k e; omega)) hf
  unfold OwnP
  rw [pcs_append, List.length_append]
  simpa [pcs] using h1
end
theorem take_pg (l : List Pg) (i : Nat) (h : i < l.length) : l.take (i + 1) = l.take i ++ [pgAt l i] := by
  unfold pgAt
  rw [List.take_succ_eq_append_getElem h, List.getD_eq_getElem?_getD, List.getElem?_eq_getElem h]
  rfl
theorem pgAt_mem (l : List Pg) (k : Nat) (h : k < l.length) : pgAt l k ∈ l := by
  unfold pgAt
  rw [List.getD_eq_getElem?_getD, List.getElem?_eq_getElem h]
  exact List.getElem_mem h
/-- A space: a block with a row of pages, and at most 100 of them. -/
structure Spc (w : World) (B g : Nat) (l : List Pg) : Prop where
  row : ∃ v, Blk w g 43 #[v, .int .i64 100, .int .u64 0, .int .u64 0] ∧ OwnP w B v l
  gb : B ≤ g
theorem Spc.fr {w w1 : World} {B g : Nat} {l : List Pg} (h : Spc w B g l) (hf : Fr (fun _ => False) w w1) : Spc w1 B g l := by
  obtain ⟨v, hb, ho⟩ := h.row
  exact ⟨⟨v, hb.fr hf id, ho.fr hf (fun _ _ => id)⟩, h.gb⟩
theorem newS_any (w : World) : Calls Try.prog 25 #[.int .i64 100] w fun e w' => e = .returned (.pointer (some ⟨w.heap.size, 0, none⟩)) ∧ Spc w' w.heap.size w.heap.size [] ∧ Fr (fun _ => False) w w' := by
  go_enter Try.func25, Try.ntmps25
  go_wp2_with fail
  go_ret
  exact ⟨rfl, ⟨⟨.slice none 0 0, Blk.new w 43 #[.slice none 0 0, .int .i64 100, .int .u64 0, .int .u64 0], OwnP.nil _ _⟩, Nat.le_refl _⟩, (Fr.refl _ _).alloc _⟩
/-- Pages whose numbers are small. -/
def Small (l : List Pg) : Prop := ∀ x ∈ l, 0 ≤ x.n ∧ x.n ≤ 1000000
def outB (a b : Int) (x : Pg) : Bool := decide (x.n * 4096 < a) || decide (b ≤ x.n * 4096)
def withoutP (a b : Int) (l : List Pg) : List Pg := l.filter (outB a b)
def AtWp (w : World) (a b : Int) (l : List Pg) (n : Nat) (v7 v8 : Value) (kq : Nat) (wr : World) : Prop := ∃ k : Nat, v8 = .int .i64 k ∧ k ≤ n ∧ n - k ≤ kq ∧ OwnP wr w.heap.size v7 (withoutP a b (l.take k)) ∧ Below w.heap.size w wr
set_option maxHeartbeats 4000000 in
theorem withoutP_any (B g0 : Nat) (l : List Pg) (a b : Int) (w : World) (h : Spc w B g0 l) (hn : l.length ≤ 2000) (hv : Small l) : Calls Try.prog 41 #[.pointer (some ⟨g0, 0, none⟩), .int .u64 a, .int .u64 b] w fun e w' => ∃ v', e = .returned v' ∧ OwnP w' w.heap.size v' (withoutP a b l) ∧ Below w.heap.size w w' := by
  have HS := Lib.hid h
  have HV := Lib.hid hv
  have HNL := Lib.hid hn
  clear h hv hn
  go_enter Try.func41, Try.ntmps41
  go_wp2_with fail
  go_loopg [7, 8] l.length (fun kq v7 v8 wr => Hid (AtWp w a b l l.length v7 v8 kq wr))
  case atStart => exact Lib.hid ⟨0, rfl, by omega, by omega, OwnP.nil _ _, Below.refl _ _⟩
  case round =>
    obtain ⟨k, rfl, hk1, hk2, ho, hb⟩ := hrel.out
    have HO := Lib.hid ho
    have HB := Lib.hid hb
    clear hrel ho hb
    have HFB := Lib.hid (Fr.of_below (S := fun _ => False) HB.out |>.mono (fun _ _ h => h))
    obtain ⟨vs, hbs, hrs⟩ := (HS.out.fr HFB.out).row
    obtain ⟨A, c, rfl, hc, hA⟩ := hrs.form
    have HRS := Lib.hid hrs
    have HA := Lib.hid hA
    have s0 := hbs.cell 0
    simp at s0
    have HBS := Lib.hid hbs
    obtain ⟨n, hnn⟩ : ∃ n, l.length = n := ⟨_, rfl⟩
    have HN := Lib.hid hnn
    rw [hnn] at HRS HA hc hk1 hk2 s0 HBS
    have hn9 : n ≤ 2000 := by rw [← HN.out]; exact HNL.out
    clear hbs hrs hA
    by_cases hk : k < n
    · have u1 : decide ((k : Int) < (n : Int)) = true := decide_eq_true (by omega)
      have u1' : decide (k < n) = true := decide_eq_true hk
      have j0 : (0 : Int) ≤ (k : Int) := by omega
      have j1 : (k : Int) < (n : Int) := by omega
      obtain ⟨g, rfl⟩ := HA.out (by omega)
      obtain ⟨y0, y1, y2⟩ := HRS.out.at_ k (by rw [HN.out]; exact hk)
      have HTK := Lib.hid (show withoutP a b (l.take (k + 1)) = withoutP a b (l.take k) ++ (if outB a b (pgAt l k) = true then [pgAt l k] else []) from by
        rw [take_pg l k (by rw [HN.out]; exact hk)]
        unfold withoutP
        rw [List.filter_append]
        congr 1
        by_cases h : outB a b (pgAt l k) = true
        · rw [if_pos h, List.filter_cons_of_pos h]; rfl
        · rw [if_neg h, List.filter_cons_of_neg h]; rfl)
      have hvx := HV.out _ (pgAt_mem l k (by rw [HN.out]; exact hk))
      have HLW := Lib.hid (show (withoutP a b (l.take k)).length ≤ 100000 from by
        have h1 := List.length_filter_le (outB a b) (l.take k)
        rw [List.length_take] at h1
        have := HNL.out
        unfold withoutP
        omega)
      obtain ⟨r, hr⟩ : ∃ r, pgAt l k = r := ⟨_, rfl⟩
      rw [hr] at y0 y1 y2 HTK hvx
      obtain ⟨x, p, kb⟩ := r
      obtain ⟨L, hL⟩ : ∃ x, withoutP a b (l.take k) = x := ⟨_, rfl⟩
      rw [hL] at HO HTK HLW
      obtain ⟨h0, h1⟩ := hvx
      simp only at h0 h1
      obtain ⟨S, hS⟩ : ∃ S, x * 4096 = S := ⟨_, rfl⟩
      have hw1 : IntKind.u64.wrap S = S := IntWalk.u64_in _ (by omega)
      have HLTO := Lib.hid (own_lt HO.out)
      clear hr hL hnn
      by_cases hout : S < a ∨ b ≤ S
      · have HTK2 := Lib.hid (show withoutP a b (l.take (k + 1)) = L ++ [⟨x, p, kb⟩] from by
          rw [HTK.out, if_pos]
          unfold outB
          rw [show (⟨x, p, kb⟩ : Pg).n * 4096 = S from hS]
          simp only [Bool.or_eq_true, decide_eq_true_eq]
          exact hout)
        by_cases c1 : S < a
        · have b1 : decide (S < a) = true := decide_eq_true c1
          clear c1 hout HTK
          go_wp2_with ((with_reducible refine gate_builtin (b := .append) (xs := #[.tmp 36, .tmp 44]) rfl ?_); refine Classical.byContradiction fun hgoal => ?_)
          apply hgoal
          clear hgoal
          (try (refine gate_guard (by rfl) ?_; dsimp only))
          refine rowP_app (w0 := w) (wr := wr) w.heap.size rfl (.tmp 36) (.tmp 44) rfl _ L ⟨x, p, kb⟩ rfl rfl HO.out HB.out rfl HLW.out ?_
          intro v8 w8 ho1 hb1 hf1
          have HO8 := Lib.hid ho1
          have HB8 := Lib.hid hb1
          clear ho1 hb1 hf1
          go_wp2_with fail
          go_roundg (n - (k + 1))
          case measure => omega
          case rel => exact Lib.hid ⟨k + 1, by go_num, by rw [HN.out]; omega, by rw [HN.out]; omega, by rw [HTK2.out]; exact HO8.out, HB8.out⟩
        · have b1 : decide (S < a) = false := decide_eq_false c1
          have b2 : decide (b ≤ S) = true := decide_eq_true (by omega)
          clear c1 hout HTK
          go_wp2_with ((with_reducible refine gate_builtin (b := .append) (xs := #[.tmp 36, .tmp 44]) rfl ?_); refine Classical.byContradiction fun hgoal => ?_)
          apply hgoal
          clear hgoal
          (try (refine gate_guard (by rfl) ?_; dsimp only))
          refine rowP_app (w0 := w) (wr := wr) w.heap.size rfl (.tmp 36) (.tmp 44) rfl _ L ⟨x, p, kb⟩ rfl rfl HO.out HB.out rfl HLW.out ?_
          intro v8 w8 ho1 hb1 hf1
          have HO8 := Lib.hid ho1
          have HB8 := Lib.hid hb1
          clear ho1 hb1 hf1
          go_wp2_with fail
          go_roundg (n - (k + 1))
          case measure => omega
          case rel => exact Lib.hid ⟨k + 1, by go_num, by rw [HN.out]; omega, by rw [HN.out]; omega, by rw [HTK2.out]; exact HO8.out, HB8.out⟩
      · have HTK2 := Lib.hid (show withoutP a b (l.take (k + 1)) = L from by
          rw [HTK.out, if_neg, List.append_nil]
          unfold outB
          rw [show (⟨x, p, kb⟩ : Pg).n * 4096 = S from hS]
          simp only [Bool.or_eq_true, decide_eq_true_eq]
          exact hout)
        have b1 : decide (S < a) = false := decide_eq_false (fun h => hout (.inl h))
        have b2 : decide (b ≤ S) = false := decide_eq_false (fun h => hout (.inr h))
        clear hout HTK
        go_wp2_with fail
        go_roundg (n - (k + 1))
        case measure => omega
        case rel => exact Lib.hid ⟨k + 1, by go_num, by rw [HN.out]; omega, by rw [HN.out]; omega, by rw [HTK2.out]; exact HO.out, HB.out⟩
    · obtain rfl : k = n := by omega
      have u1 : decide ((k : Int) < (k : Int)) = false := decide_eq_false (by omega)
      rw [show l.take k = l from List.take_of_length_le (by rw [HN.out]; exact Nat.le_refl _)] at HO
      go_wp2_with fail
      go_ret
      exact ⟨_, rfl, HO.out, HB.out⟩
end Go.Proofs.Ytnaiccgbjcppaaa.Rg
