/- Rows of regions; span, prots, without: walked. -/
import Derived.Test.YtnaiccgbjcppaaaProg
import Derived.Test.YtnaiccgbjcppaaaSlim
import Derived.Test.YtnaiccgbjcppaaaWLast
import Derived.Test.YtnaiccgbjcppaaaWGuard
import Derived.Test.YtnaiccgbjcppaaaBv
import Derived.Test.YtnaiccgbjcppaaaHp
import Derived.Lib.Hide
import Derived.IntWalk
import Derived.OwnWalk
import Derived.Deep.DeepAppendWide
import Derived.Deep.AppendLies
namespace Go.Proofs.Ytnaiccgbjcppaaa.Rg
open Go Go.RowKit Go.Proofs.YtnaiccgbjcppaaaW.PrintWords Go.Proofs.YtnaiccgbjcppaaaW.PrintLast Go.Proofs.YtnaiccgbjcppaaaW.PrintMore
open Go.Proofs.Ytnaiccgbjcppaaa.Hp
attribute [local go_sem] max2_int min2_int max_two min_two max_three min_three max_four min_four
set_option linter.unusedVariables false
set_option linter.unusedSimpArgs false
/-- A region: where it begins, where it ends, its permissions. -/
structure Rg where
  s : Int
  e : Int
  p : Int
def rc (r : Rg) : List Value := [.int .u64 r.s, .int .u64 r.e, .int .i64 r.p]
def rcs : List Rg → List Value
  | [] => []
  | r :: t => rc r ++ rcs t
theorem rcs_length (l : List Rg) : (rcs l).length = l.length * 3 := by
  induction l with
  | nil => rfl
  | cons r t ih => simp only [rcs, List.length_append, ih, rc, List.length_cons, List.length_nil]; omega
theorem rcs_append (l r : List Rg) : rcs (l ++ r) = rcs l ++ rcs r := by
  induction l with
  | nil => rfl
  | cons x t ih => simp only [List.cons_append, rcs, ih, List.append_assoc]
theorem rcs_one (l : List Rg) : ∀ u ∈ rcs l, u.oneCell' = true := by
  induction l with
  | nil => intro u hu; cases hu
  | cons r t ih =>
    intro u hu
    rcases List.mem_append.1 hu with h | h
    · simp only [rc, List.mem_cons, List.not_mem_nil, or_false] at h
      rcases h with rfl | rfl | rfl <;> rfl
    · exact ih u h
def rgAt (l : List Rg) (i : Nat) : Rg := l.getD i ⟨0, 0, 0⟩
theorem rcs_at (l : List Rg) : ∀ (i : Nat), i < l.length → (rcs l)[i * 3]? = some (.int .u64 (rgAt l i).s) ∧ (rcs l)[i * 3 + 1]? = some (.int .u64 (rgAt l i).e) ∧ (rcs l)[i * 3 + 2]? = some (.int .i64 (rgAt l i).p) := by
  induction l with
  | nil => intro i hi; simp at hi
  | cons r t ih =>
    intro i hi
    cases i with
    | zero => exact ⟨rfl, rfl, rfl⟩
    | succ i =>
      have h := ih i (by simpa using hi)
      have e : ∀ j, (rcs (r :: t))[(i + 1) * 3 + j]? = (rcs t)[i * 3 + j]? := fun j => by
        rw [show (i + 1) * 3 + j = (i * 3 + j) + 1 + 1 + 1 by omega]
        rfl
      exact ⟨(e 0).trans h.1, (e 1).trans h.2.1, (e 2).trans h.2.2⟩
/-- A row of regions, in a block from B on. -/
def OwnR (w : World) (B : Nat) (v : Value) (l : List Rg) : Prop := w.ownsRow B 36 3 v l.length (rcs l)
theorem OwnR.nil (w : World) (B : Nat) : OwnR w B (.slice none 0 0) [] := World.ownsRow_nil _ _ _ _
theorem OwnR.form {w : World} {B : Nat} {v : Value} {l : List Rg} (h : OwnR w B v l) : ∃ A c, v = .slice A l.length c ∧ l.length ≤ c ∧ (0 < l.length → ∃ g, A = some ⟨g, 0, none⟩) := by
  rcases h.2 with ⟨rfl, h0⟩ | ⟨g, cap, cur, rfl, _, _, hc, _⟩
  · exact ⟨none, 0, by rw [h0], by omega, fun h => by omega⟩
  · exact ⟨_, cap, rfl, hc, fun _ => ⟨g, rfl⟩⟩
theorem OwnR.at_ {w : World} {B g n c : Nat} {l : List Rg} (h : OwnR w B (.slice (some ⟨g, 0, none⟩) n c) l) (i : Nat) (hi : i < l.length) : w.cell? ⟨g, i * 3, none⟩ = some (.int .u64 (rgAt l i).s) ∧ w.cell? ⟨g, i * 3 + 1, none⟩ = some (.int .u64 (rgAt l i).e) ∧ w.cell? ⟨g, i * 3 + 2, none⟩ = some (.int .i64 (rgAt l i).p) := by
  have hc := h.cells (g := g) rfl
  have ha := rcs_at l i hi
  refine ⟨?_, ?_, ?_⟩
  · have e := hc _ _ ha.1
    rwa [add_plain] at e
  · have e := hc _ _ ha.2.1
    rwa [add_plain] at e
  · have e := hc _ _ ha.2.2
    rwa [add_plain] at e
theorem OwnR.fr {w w1 : World} {B : Nat} {v : Value} {l : List Rg} {S : Nat → Prop} (h : OwnR w B v l) (hf : Fr S w w1) (hn : ∀ k, v.ownBlock = some k → ¬ S k) : OwnR w1 B v l := own_move h (fun k hk => hf.block k (own_lt h k hk) (hn k hk))
theorem own_ge {w : World} {base : Nat} {e : TypeId} {size n : Nat} {v : Value} {xs : List Value} (h : w.ownsRow base e size v n xs) : ∀ k, v.ownBlock = some k → base ≤ k := fun k hk => by
  rcases h.2 with ⟨rfl, _⟩ | ⟨g, cap, cur, rfl, hbb, _⟩
  · simp [Value.ownBlock] at hk
  · have : g = k := by simpa [Value.ownBlock] using hk
    omega
theorem infoRG : (Try.prog.info? 36 ).map (fun i => (i.zero, i.size, i.bytes)) = some (some (.agg #[.int .u64 0, .int .u64 0, .int .i64 0]), 3, 24) := by kernel_rfl
theorem news_new (w : World) (cs : List Value) (t : TypeId) : ∀ j u, cs[j]? = some u → (w.alloc (.cells cs.toArray t)).cell? ((⟨w.heap.size, 0, none⟩ : Addr).add j) = some u := by
  have h := World.news_of_block (w := w.alloc (.cells cs.toArray t)) (B := w.heap.size) (cs := cs.toArray) (t := t) (fr := (0, 0)) (Blk.new w t cs.toArray)
  simpa using h
section
variable {ops : Array Oper} {rest : List Oper} {o : Oper} {a : Act} {Q : Exit → Act → World → Prop}
/-- append(v, r). -/
theorem rowR_app {w0 wr : World} (B : Nat) (hgd : o.guard = none) (s x : Operand) (ho : o.op = .call { callee := .builtin .append, args := #[s, x], argTypes := #[39, 39] })
    (v : Value) (l : List Rg) (r : Rg) (hs : a.eval s = v) (hx : a.eval x = .slice (some ⟨wr.heap.size, 0, none⟩) 1 1) (H : OwnR wr B v l) (hb : Below B w0 wr) (hw : B = w0.heap.size) (hn : l.length ≤ 100000)
    (h : ∀ v1 w1, OwnR w1 B v1 (l ++ [r]) → Below B w0 w1 → Fr (fun b => v.ownBlock = some b) wr w1 → wpList Try.prog ops Q rest (a.put o.dst v1) w1) : wpList Try.prog ops Q (o :: rest) a (wr.alloc (.cells (rc r).toArray 36)) := by
  obtain ⟨i0, hi, hz0, hz1, hz2⟩ := info_parts infoRG
  have hsz := hb.size
  subst hw
  refine wpList_append_own_wide _ hgd s x 39 ho w0.heap.size 36 i0 (.agg #[.int .u64 0, .int .u64 0, .int .i64 0]) 3 24 Try.underlying39 hi hz0 hz1 hz2 rfl (by decide) v l.length (rcs l) hs (World.ownsRow.alloc H _) ⟨wr.heap.size, 0, none⟩ 1 1 (rc r) hx rfl (news_new wr (rc r) 36) (fun u hu => rcs_one [r] u (by simpa [rcs] using hu)) (by unfold maxLen; omega) (by omega) (by simp; omega) ?_
  intro v1 w1 h1 g1 _
  have hf : Fr (fun b => v.ownBlock = some b) wr w1 := ((Fr.refl (fun b => v.ownBlock = some b) wr).alloc _).grown g1 (fun b hb => .inl hb)
  refine h v1 w1 ?_ (Fr.below hb hf (fun k hk e => by have := own_ge H k e; omega)) hf
  unfold OwnR
  rw [rcs_append, List.length_append]
  simpa [rcs] using h1
end
theorem take_rg (l : List Rg) (i : Nat) (h : i < l.length) : l.take (i + 1) = l.take i ++ [rgAt l i] := by
  unfold rgAt
  rw [List.take_succ_eq_append_getElem h, List.getD_eq_getElem?_getD, List.getElem?_eq_getElem h]
  rfl
/-- A region without a span. -/
def cutR (a b : Int) (r : Rg) : List Rg := if r.e ≤ a ∨ b ≤ r.s then [r] else (if r.s < a then [⟨r.s, a, r.p⟩] else []) ++ (if b < r.e then [⟨b, r.e, r.p⟩] else [])
def withoutL (a b : Int) : List Rg → List Rg
  | [] => []
  | r :: t => cutR a b r ++ withoutL a b t
theorem withoutL_append (a b : Int) (l t : List Rg) : withoutL a b (l ++ t) = withoutL a b l ++ withoutL a b t := by
  induction l with
  | nil => rfl
  | cons r s ih => simp only [List.cons_append, withoutL, ih, List.append_assoc]
theorem withoutL_len (a b : Int) (l : List Rg) : (withoutL a b l).length ≤ 2 * l.length := by
  induction l with
  | nil => simp [withoutL]
  | cons r t ih =>
    have h : (cutR a b r).length ≤ 2 := by
      unfold cutR
      split
      · simp
      · split <;> split <;> simp
    simp only [withoutL, List.length_append, List.length_cons]
    omega
def AtWo (w : World) (a b : Int) (l : List Rg) (n : Nat) (v7 v12 : Value) (kq : Nat) (wr : World) : Prop := ∃ k : Nat, v12 = .int .i64 k ∧ k ≤ n ∧ n - k ≤ kq ∧ OwnR wr w.heap.size v7 (withoutL a b (l.take k)) ∧ Below w.heap.size w wr
set_option maxHeartbeats 4000000 in
theorem without_any (v : Value) (l : List Rg) (a b : Int) (B : Nat) (w : World) (h : OwnR w B v l) (hn : l.length ≤ 1000) : Calls Try.prog 46 #[v, .int .u64 a, .int .u64 b] w fun e w' => ∃ v', e = .returned v' ∧ OwnR w' w.heap.size v' (withoutL a b l) ∧ Below w.heap.size w w' := by
  obtain ⟨A, c, rfl, hc, hA⟩ := h.form
  have H := Lib.hid h
  have HA := Lib.hid hA
  obtain ⟨n, hnn⟩ : ∃ n, l.length = n := ⟨_, rfl⟩
  have HN := Lib.hid hnn
  rw [hnn] at H HA hc hn ⊢
  clear h hA hnn
  go_enter Try.func46, Try.ntmps46
  go_wp2_with fail
  go_loopg [7, 12] n (fun kq v7 v12 wr => Hid (AtWo w a b l n v7 v12 kq wr))
  case atStart => exact Lib.hid ⟨0, rfl, by omega, by omega, OwnR.nil _ _, Below.refl _ _⟩
  case round =>
    obtain ⟨k, rfl, hk1, hk2, ho, hb⟩ := hrel.out
    have HO := Lib.hid ho
    have HB := Lib.hid hb
    clear hrel ho hb
    by_cases hk : k < n
    · have u1 : decide ((k : Int) < (n : Int)) = true := decide_eq_true (by omega)
      have u1' : decide (k < n) = true := decide_eq_true hk
      have j0 : (0 : Int) ≤ (k : Int) := by omega
      have j1 : (k : Int) < (n : Int) := by omega
      obtain ⟨g, rfl⟩ := HA.out (by omega)
      obtain ⟨y0, y1, y2⟩ := (H.out.fr (Fr.of_below (S := fun _ => False) HB.out |>.mono (fun _ _ h => h)) (fun _ _ => id)).at_ k (by rw [HN.out]; exact hk)
      have HTK := Lib.hid (show withoutL a b (l.take (k + 1)) = withoutL a b (l.take k) ++ cutR a b (rgAt l k) from by rw [take_rg l k (by rw [HN.out]; exact hk), withoutL_append]; simp [withoutL])
      have hwl := withoutL_len a b (l.take k)
      rw [List.length_take] at hwl
      obtain ⟨r, hr⟩ : ∃ r, rgAt l k = r := ⟨_, rfl⟩
      rw [hr] at y0 y1 y2 HTK
      obtain ⟨s, e, p⟩ := r
      obtain ⟨L, hL⟩ : ∃ x, withoutL a b (l.take k) = x := ⟨_, rfl⟩
      rw [hL] at HO HTK hwl
      have HXB := Lib.hid (Blk.new wr 36 (rc ⟨s, e, p⟩).toArray)
      have HOa := Lib.hid (HO.out.fr ((Fr.refl (fun _ => False) wr).alloc (.cells (rc ⟨s, e, p⟩).toArray 36)) (fun _ _ => id))
      have HBa := Lib.hid (Fr.below HB.out ((Fr.refl (fun _ => False) wr).alloc (.cells (rc ⟨s, e, p⟩).toArray 36)) (fun _ _ => id))
      have HLT := Lib.hid (own_lt HO.out)
      clear hr hL
      by_cases c1 : e ≤ a
      · have b1 : decide (e ≤ a) = true := decide_eq_true c1
        have hcut : cutR a b ⟨s, e, p⟩ = [⟨s, e, p⟩] := by unfold cutR; rw [if_pos (.inl c1)]
        rw [hcut] at HTK
        clear hcut
        go_wp2_with ((with_reducible refine gate_builtin (b := .append) (xs := #[.tmp 26, .tmp 28]) rfl ?_); refine Classical.byContradiction fun hgoal => ?_)
        apply hgoal
        clear hgoal
        (try (refine gate_guard (by rfl) ?_; dsimp only))
        refine rowR_app (w0 := w) (wr := wr.alloc (.cells (rc ⟨s, e, p⟩).toArray 36)) w.heap.size rfl (.tmp 26) (.tmp 28) rfl _ L ⟨s, e, p⟩ rfl (by simp; rfl) HOa.out HBa.out rfl (by omega) ?_
        intro v1 w1 ho1 hb1 hf1
        have HO1 := Lib.hid ho1
        have HB1 := Lib.hid hb1
        clear ho1 hb1 hf1
        go_wp2_with fail
        go_roundg (n - (k + 1))
        case measure => omega
        case rel => exact Lib.hid ⟨k + 1, by go_num, by omega, by omega, by rw [HTK.out]; exact HO1.out, HB1.out⟩
      · have b1 : decide (e ≤ a) = false := decide_eq_false c1
        by_cases c2 : b ≤ s
        · have b2 : decide (b ≤ s) = true := decide_eq_true c2
          have hcut : cutR a b ⟨s, e, p⟩ = [⟨s, e, p⟩] := by unfold cutR; rw [if_pos (.inr c2)]
          rw [hcut] at HTK
          clear hcut
          go_wp2_with ((with_reducible refine gate_builtin (b := .append) (xs := #[.tmp 26, .tmp 28]) rfl ?_); refine Classical.byContradiction fun hgoal => ?_)
          apply hgoal
          clear hgoal
          (try (refine gate_guard (by rfl) ?_; dsimp only))
          refine rowR_app (w0 := w) (wr := wr.alloc (.cells (rc ⟨s, e, p⟩).toArray 36)) w.heap.size rfl (.tmp 26) (.tmp 28) rfl _ L ⟨s, e, p⟩ rfl (by simp; rfl) HOa.out HBa.out rfl (by omega) ?_
          intro v1 w1 ho1 hb1 hf1
          have HO1 := Lib.hid ho1
          have HB1 := Lib.hid hb1
          clear ho1 hb1 hf1
          go_wp2_with fail
          go_roundg (n - (k + 1))
          case measure => omega
          case rel => exact Lib.hid ⟨k + 1, by go_num, by omega, by omega, by rw [HTK.out]; exact HO1.out, HB1.out⟩
        · have b2 : decide (b ≤ s) = false := decide_eq_false c2
          have hcut : cutR a b ⟨s, e, p⟩ = (if s < a then [⟨s, a, p⟩] else []) ++ (if b < e then [⟨b, e, p⟩] else []) := by unfold cutR; rw [if_neg (by intro h; exact h.elim c1 c2)]
          rw [hcut] at HTK
          clear hcut
          by_cases c3 : s < a
          · have b3 : decide (s < a) = true := decide_eq_true c3
            rw [if_pos c3] at HTK
            go_wp2_with ((with_reducible refine gate_builtin (b := .append) (xs := #[.tmp 34, .tmp 41]) rfl ?_); refine Classical.byContradiction fun hgoal => ?_)
            apply hgoal
            clear hgoal
            (try (refine gate_guard (by rfl) ?_; dsimp only))
            refine rowR_app (w0 := w) (wr := wr.alloc (.cells (rc ⟨s, e, p⟩).toArray 36)) w.heap.size rfl (.tmp 34) (.tmp 41) rfl _ L ⟨s, a, p⟩ rfl (by simp; rfl) HOa.out HBa.out rfl (by omega) ?_
            intro v1 w1 ho1 hb1 hf1
            have HO1 := Lib.hid ho1
            have HB1 := Lib.hid hb1
            clear ho1 hb1
            have HXC := Lib.hid (HXB.out.fr hf1 (fun e => Nat.lt_irrefl _ (HLT.out _ e)))
            have k0 := HXC.out.cell 0
            have k1 := HXC.out.cell 1
            have k2 := HXC.out.cell 2
            simp [rc] at k0 k1 k2
            clear hf1
            by_cases c4 : b < e
            · have b4 : decide (b < e) = true := decide_eq_true c4
              rw [if_pos c4, ← List.append_assoc] at HTK
              go_wp2_with ((with_reducible refine gate_builtin (b := .append) (xs := #[.tmp 47, .tmp 54]) rfl ?_); refine Classical.byContradiction fun hgoal => ?_)
              apply hgoal
              clear hgoal
              (try (refine gate_guard (by rfl) ?_; dsimp only))
              refine rowR_app (w0 := w) (wr := w1) w.heap.size rfl (.tmp 47) (.tmp 54) rfl v1 (L ++ [⟨s, a, p⟩]) ⟨b, e, p⟩ rfl rfl HO1.out HB1.out rfl (by rw [List.length_append, List.length_singleton]; omega) ?_
              intro v2 w2 ho1 hb1 hf1
              have HO2 := Lib.hid ho1
              have HB2 := Lib.hid hb1
              clear ho1 hb1 hf1
              go_wp2_with fail
              go_roundg (n - (k + 1))
              case measure => omega
              case rel => exact Lib.hid ⟨k + 1, by go_num, by omega, by omega, by rw [HTK.out]; exact HO2.out, HB2.out⟩
            · have b4 : decide (b < e) = false := decide_eq_false c4
              rw [if_neg c4, List.append_nil] at HTK
              go_wp2_with fail
              go_roundg (n - (k + 1))
              case measure => omega
              case rel => exact Lib.hid ⟨k + 1, by go_num, by omega, by omega, by rw [HTK.out]; exact HO1.out, HB1.out⟩
          · have b3 : decide (s < a) = false := decide_eq_false c3
            rw [if_neg c3, List.nil_append] at HTK
            by_cases c4 : b < e
            · have b4 : decide (b < e) = true := decide_eq_true c4
              rw [if_pos c4] at HTK
              go_wp2_with ((with_reducible refine gate_builtin (b := .append) (xs := #[.tmp 47, .tmp 54]) rfl ?_); refine Classical.byContradiction fun hgoal => ?_)
              apply hgoal
              clear hgoal
              (try (refine gate_guard (by rfl) ?_; dsimp only))
              refine rowR_app (w0 := w) (wr := wr.alloc (.cells (rc ⟨s, e, p⟩).toArray 36)) w.heap.size rfl (.tmp 47) (.tmp 54) rfl _ L ⟨b, e, p⟩ rfl (by simp; rfl) HOa.out HBa.out rfl (by omega) ?_
              intro v1 w1 ho1 hb1 hf1
              have HO1 := Lib.hid ho1
              have HB1 := Lib.hid hb1
              clear ho1 hb1 hf1
              go_wp2_with fail
              go_roundg (n - (k + 1))
              case measure => omega
              case rel => exact Lib.hid ⟨k + 1, by go_num, by omega, by omega, by rw [HTK.out]; exact HO1.out, HB1.out⟩
            · have b4 : decide (b < e) = false := decide_eq_false c4
              rw [if_neg c4, List.append_nil] at HTK
              go_wp2_with fail
              go_roundg (n - (k + 1))
              case measure => omega
              case rel => exact Lib.hid ⟨k + 1, by go_num, by omega, by omega, by rw [HTK.out]; exact HOa.out, HBa.out⟩
    · obtain rfl : k = n := by omega
      have u1 : decide ((k : Int) < (k : Int)) = false := decide_eq_false (by omega)
      rw [show l.take k = l from List.take_of_length_le (by rw [HN.out]; exact Nat.le_refl _)] at HO
      go_wp2_with fail
      go_ret
      exact ⟨_, rfl, HO.out, HB.out⟩
end Go.Proofs.Ytnaiccgbjcppaaa.Rg
