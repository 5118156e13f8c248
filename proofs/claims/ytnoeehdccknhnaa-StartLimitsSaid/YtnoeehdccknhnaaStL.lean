/- The law StartLimits, walked. -/
import Derived.Test.YtnoeehdccknhnaaStR
import Derived.Laws.BytesArg
import Derived.WideLaws
namespace Go.Proofs.Ytnoeehdccknhnaa.St
open Go Go.RowKit Go.Proofs.YtnoeehdccknhnaaW.PrintWords Go.Proofs.YtnoeehdccknhnaaW.PrintLast Go.Proofs.YtnoeehdccknhnaaW.PrintMore
open Go.Proofs.Ytnoeehdccknhnaa.Hp
attribute [local go_sem] max2_int min2_int max_two min_two max_three min_three max_four min_four
set_option linter.unusedVariables false
set_option linter.unusedSimpArgs false
def tA : ByteArray := ⟨#[97]⟩
theorem bad_tA : bad tA = false := by decide +kernel
def xs (m : Nat) : ByteArray := strOfNums (List.replicate m 120)
theorem xs_size (m : Nat) : (xs m).size = m := by unfold xs; rw [strOfNums_size, List.length_replicate]
theorem bad_xs (m : Nat) : bad (xs m) = false := by
  rw [bad_iff]
  unfold xs
  rw [strOfNums_data, List.any_eq_false]
  intro x hx
  obtain ⟨n, hn, rfl⟩ := List.mem_map.1 hx
  rw [(List.mem_replicate.1 hn).2]
  decide
theorem chk_as (n k : Nat) (hk : k ≤ n) (hn : n ≤ 300) : chk [List.replicate k tA, List.replicate (n - k) tA] = if n ≤ 256 then 0 else 7 := by
  rw [chk_two, badL_rep _ _ bad_tA, badL_rep _ _ bad_tA, szOf_rep, szOf_rep, List.length_replicate, List.length_replicate]
  have e : tA.size = 1 := rfl
  rw [e]
  simp only [Bool.or_false, Bool.false_eq_true, if_false]
  by_cases h : n ≤ 256
  · rw [if_neg (by omega), if_pos h]
  · rw [if_pos (by omega), if_neg h]
theorem chk_xs (m : Nat) : chk [[xs m], []] = if m ≤ 32767 then 0 else 7 := by
  rw [chk_two]
  have e : szOf [xs m] = m + 1 := by simp [szOf, xs_size]
  have e0 : szOf [] = 0 := rfl
  rw [e, e0, show badL [xs m] = false from by simp [badL, bad_xs], show badL [] = false from rfl]
  simp only [Bool.or_false, Bool.false_eq_true, if_false, List.length_cons, List.length_nil]
  by_cases h : m ≤ 32767
  · rw [if_neg (by omega), if_pos h]
  · rw [if_pos (by omega), if_neg h]
def AtL1 (w0 : World) (n : Nat) (v8 v9 : Value) (kq : Nat) (wr : World) : Prop := ∃ (k : Nat), k ≤ n ∧ n - k ≤ kq ∧ v9 = .int .i64 k ∧ Kd.string.R 9 wr w0.heap.size (fun _ => True) v8 (List.replicate k tA) ∧ Below w0.heap.size w0 wr
def AtL2 (w0 : World) (g m : Nat) (v16 : Value) (kq : Nat) (wr : World) : Prop := ∃ (k : Nat), k ≤ m ∧ m - k ≤ kq ∧ v16 = .int .i64 k ∧ Blk wr g 5 (nums .u8 (List.replicate k 120 ++ List.replicate (m - k) 0)).toArray ∧ Below w0.heap.size w0 wr
theorem made_nums (m : Nat) : (madeCells (Value.int .u8 0).cells (m * 1)).toList = nums .u8 (List.replicate m 0) := by
  apply List.ext_getElem
  · simp [madeCells, nums]
  · intro i h1 h2
    simp [madeCells, nums, Value.cells, Nat.mod_one]
/-- A row that was just made full is its block. -/
theorem blk_made {w : World} {B g m : Nat} {xs : List Value} (h : w.ownsRow B 5 1 (.slice (some ⟨g, 0, none⟩) m m) m xs) : Blk w g 5 xs.toArray := by
  rcases h.2 with ⟨e, _⟩ | ⟨g', cap, cur, e, _, hh, hc, hm, hs, ht⟩
  · cases e
  · cases e
    have : cur.toList = xs := by
      rw [← ht, List.take_of_length_le]
      rw [Array.length_toList, hs]
      exact Nat.le_refl _
    show w.heap[g]? = _
    rw [hh, ← this]
theorem set_x (k m : Nat) (h : k < m) : ((nums .u8 (List.replicate k 120 ++ List.replicate (m - k) 0)).toArray).setIfInBounds k (.int .u8 120) = (nums .u8 (List.replicate (k + 1) 120 ++ List.replicate (m - (k + 1)) 0)).toArray := by
  rw [List.setIfInBounds_toArray]
  congr 1
  apply List.ext_getElem
  · simp [nums]; omega
  · intro i h1 h2
    simp only [nums, List.getElem_set, List.getElem_map, List.getElem_append, List.length_replicate, List.getElem_replicate]
    by_cases e : k = i
    · subst e; simp
    · rw [if_neg e]
      by_cases h3 : i < k
      · rw [dif_pos h3, dif_pos (by omega)]
      · rw [dif_neg h3, dif_neg (by omega)]
theorem C_take_rep {w : World} {A : Option Addr} {n k : Nat} (h : Kd.string.C w A n (List.replicate n tA)) (hk : k ≤ n) : Kd.string.C w A (List.replicate k tA).length (List.replicate k tA) := by
  have e : List.replicate k tA = (List.replicate n tA).take k := by rw [List.take_replicate, Nat.min_eq_left hk]
  rw [e]
  exact Kd.C_take (by rw [List.length_replicate]; exact h) (by rw [List.length_replicate]; exact hk)
theorem C_drop_rep {w : World} {A : Option Addr} {n k c : Nat} (h : Kd.string.C w A n (List.replicate n tA)) (hk : k ≤ n) (hc : n ≤ c) : Kd.string.C w (if c = k then A else A.map (·.add k)) (List.replicate (n - k) tA).length (List.replicate (n - k) tA) := by
  have e : List.replicate (n - k) tA = (List.replicate n tA).drop k := by rw [List.drop_replicate]
  rw [e]
  have h2 := Kd.C_drop (m := k) (c := c) (show Kd.string.C w A (List.replicate n tA).length (List.replicate n tA) by rw [List.length_replicate]; exact h) (by rw [List.length_replicate]; exact hk) (by rw [List.length_replicate]; exact hc)
  rw [show k * Kd.string.sz = k from Nat.mul_one k] at h2
  exact h2
theorem cut_two (A : Option Addr) (n c k : Nat) (hk : k ≤ n) (hc : n ≤ c) : (∀ W : World, (Instr.slice 22 (.slice A n c) none (some (.int .i64 (k : Int))) none).run Try.prog W = .ok (.slice A k c) W) ∧ (∀ W : World, (Instr.slice 22 (.slice A n c) (some (.int .i64 (k : Int))) none none).run Try.prog W = .ok (.slice (if c = k then A else A.map (·.add k)) (n - k) (c - k)) W) := by
  obtain ⟨i0, hi, _, hsz, _⟩ := info_parts infoST
  have hl : (List.replicate n tA).length = n := List.length_replicate
  refine ⟨fun W => ?_, fun W => ?_⟩
  · have h := (print_take_of (P := Try.prog) Value.string tA 22 9 .i64 Try.underlying22 hi hsz A c (List.replicate n tA) (k : Int) (by omega) (by omega) (by omega)).1 W
    rw [hl] at h
    rw [h]
    simp [Nat.min_eq_left hk]
  · have hel : Try.prog.elem 22 = 9 := by simp [Program.elem, Try.underlying22]
    have hu : Try.prog.underlying 22 = some (.slice (Try.prog.elem 22)) := by rw [hel]; exact Try.underlying22
    rw [run_slice_l W 22 A n c hu .i64 (k : Int) (by omega) (by omega), hel]
    simp [sizeOf, typeInfo, hi, hsz, sliced, Result.andThen]
set_option maxHeartbeats 8000000 in
theorem limits_walk (a0 a1 a2 : Int) (W : World) (w0 : (Lit.int .u16 a0).wf = true) (w1 : (Lit.int .u16 a1).wf = true) (w2 : (Lit.int .u16 a2).wf = true) :
    Calls Try.prog 5 #[.int .u16 a0, .int .u16 a1, .int .u16 a2] W fun e W' => e = .returned (.bool true) ∧ Below W.heap.size W W' := by
  have b0 := Go.bounds_u16 w0
  have b1 := Go.bounds_u16 w1
  have b2 := Go.bounds_u16 w2
  clear w0 w1 w2
  have e0 : a0.tmod 300 = a0 % 300 := Int.tmod_eq_emod_of_nonneg b0.1
  have e1 : a1.tmod 20 = a1 % 20 := Int.tmod_eq_emod_of_nonneg b1.1
  obtain ⟨n, hn⟩ := nat_of (a0 % 300) (by omega)
  obtain ⟨s, hs⟩ := nat_of (a1 % 20) (by omega)
  have hn2 : n < 300 := by omega
  have hs2 : s < 20 := by omega
  rw [hn] at e0
  rw [hs] at e1
  clear hn hs b0 b1
  have e2 : IntKind.u16.wrap (n : Int) = (n : Int) := by rw [IntKind.wrap_u16]; omega
  have e3 : IntKind.i64.wrap (n : Int) = (n : Int) := IntWalk.i64_in _ (by omega)
  have e4 : IntKind.u16.wrap (s : Int) = (s : Int) := by rw [IntKind.wrap_u16]; omega
  have e5 : IntKind.i64.wrap (s : Int) = (s : Int) := IntWalk.i64_in _ (by omega)
  obtain ⟨m, hm⟩ := nat_of (32760 + (s : Int)) (by omega)
  have hm2 : m ≤ 32779 := by omega
  have e6 : IntKind.i64.wrap (32760 + (s : Int)) = (m : Int) := by rw [hm]; exact IntWalk.i64_in _ (by omega)
  obtain ⟨i8, hi8, hz8, hzs8, hzb8⟩ := info_parts info8
  clear hm
  go_enter Try.func5, Try.ntmps5
  go_wp2_with fail
  go_loopg [8, 9] n (fun kq v8 v9 wr => Hid (AtL1 W n v8 v9 kq wr))
  case atStart => exact Lib.hid ⟨0, by omega, by omega, rfl, rowS_nil _ _ _, Below.refl _ _⟩
  case round =>
    obtain ⟨k, hk1, hk2, rfl, ho, hb⟩ := hrel.out
    have HO := Lib.hid ho
    have HB := Lib.hid hb
    clear hrel ho hb
    by_cases hk : k < n
    · have u1 : decide ((k : Int) < (n : Int)) = true := decide_eq_true (by omega)
      have u1' : decide (k < n) = true := decide_eq_true hk
      have HR := Lib.hid (str_new wr 9 [tA] (by decide))
      have HOa := Lib.hid (Kd.R_alloc HO.out (.cells #[.string tA] 9))
      have HBa := Lib.hid (Fr.below HB.out ((Fr.refl (fun _ => False) wr).alloc (.cells #[.string tA] 9)) (fun _ _ => id))
      clear HO
      go_wp2_with ((with_reducible refine gate_builtin (b := .append) (xs := #[.tmp 28, .tmp 29]) rfl ?_); refine Classical.byContradiction fun hgoal => ?_)
      apply hgoal
      clear hgoal
      (try (refine gate_guard (by rfl) ?_; dsimp only))
      refine rowS_app (w0 := W) W.heap.size rfl (.tmp 28) (.tmp 29) 22 9 rfl Try.underlying22 infoST _ (List.replicate k tA) [tA] (some ⟨wr.heap.size, 0, none⟩) 1 1 rfl rfl HOa.out HR.out HBa.out HBa.out.size (by rw [List.length_replicate]; omega) ?_
      intro v1 wx ho1 hb1 _ _
      have HO1 := Lib.hid ho1
      have HB1 := Lib.hid hb1
      clear ho1 hb1 HOa HBa HR
      go_wp2_with fail
      go_roundg (n - (k + 1))
      case measure => omega
      case rel => exact Lib.hid ⟨k + 1, by omega, by omega, by go_num, by rw [List.replicate_succ']; exact HO1.out, HB1.out⟩
    · obtain rfl : k = n := by omega
      have u1 : decide ((k : Int) < (k : Int)) = false := decide_eq_false (by omega)
      obtain ⟨A8, c8, rfl, hc8, hC8⟩ := Kd.R_reads HO.out
      rw [List.length_replicate] at hc8 hC8 ⊢
      have HC8 := Lib.hid hC8
      clear hC8 HO
      by_cases hz : 0 < k
      · have u2 : decide ((0 : Int) < (k : Int)) = true := decide_eq_true (by omega)
        have u2' : decide (0 < k) = true := decide_eq_true hz
        have f0 : ¬ ((k : Int) + 1 = 0) := by omega
        obtain ⟨kk, hkk⟩ := nat_of (a2 % ((k : Int) + 1)) (Int.emod_nonneg _ f0)
        have hkk2 : kk ≤ k := by have := Int.emod_lt_of_pos a2 (show (0 : Int) < (k : Int) + 1 by omega); omega
        have f1 : a2.tmod ((k : Int) + 1) = (kk : Int) := by rw [Int.tmod_eq_emod_of_nonneg b2.1]; exact hkk
        have f2 : IntKind.i64.wrap a2 = a2 := IntWalk.i64_in _ (by omega)
        have f3 : IntKind.i64.wrap ((k : Int) + 1) = (k : Int) + 1 := IntWalk.i64_in _ (by omega)
        have f4 : IntKind.i64.wrap (kk : Int) = (kk : Int) := IntWalk.i64_in _ (by omega)
        have f5 : (((k : Int) + 1) == 0) = false := beq_eq_false_iff_ne.2 f0
        clear hkk
        go_wp2_with fail
        obtain ⟨q1, q2⟩ := cut_two A8 k c8 kk (by omega) hc8
        have HT1 := Lib.hid (C_take_rep (k := kk) HC8.out (by omega))
        have HT2 := Lib.hid (C_drop_rep (k := kk) HC8.out (by omega) hc8)
        obtain ⟨A9, hA9⟩ : ∃ A, (if c8 = kk then A8 else A8.map (·.add kk)) = A := ⟨_, rfl⟩
        rw [hA9] at q2 HT2
        have HCK := Lib.hid (chk_as k kk (by omega) (by omega))
        obtain ⟨l1, hl1⟩ : ∃ l, List.replicate kk tA = l := ⟨_, rfl⟩
        obtain ⟨l2, hl2⟩ : ∃ l, List.replicate (k - kk) tA = l := ⟨_, rfl⟩
        have hll1 : l1.length = kk := by rw [← hl1, List.length_replicate]
        have hll2 : l2.length = k - kk := by rw [← hl2, List.length_replicate]
        rw [hl1, hl2] at HCK
        rw [hl1] at HT1
        rw [hl2] at HT2
        have HFI := Lib.hid (show fitsAll l1 l2 from by rw [← hl1, ← hl2]; unfold fitsAll; rw [szOf_rep, szOf_rep, List.length_replicate, List.length_replicate, show tA.size = 1 from rfl]; omega)
        have q1' : ∀ W : World, (Instr.slice 22 (.slice A8 k c8) none (some (.int .i64 (kk : Int))) none).run Try.prog W = .ok (.slice A8 l1.length c8) W := fun W => by rw [hll1]; exact q1 W
        have q2' : ∀ W : World, (Instr.slice 22 (.slice A8 k c8) (some (.int .i64 (kk : Int))) none none).run Try.prog W = .ok (.slice A9 l2.length (c8 - kk)) W := fun W => by rw [hll2]; exact q2 W
        have hcc2 : l2.length ≤ c8 - kk := by omega
        have hcc1 : l1.length ≤ c8 := by omega
        clear q1 q2 hA9 hl1 hl2 hll1 hll2
        obtain ⟨ck, hck⟩ : ∃ c, chk [l1, l2] = c := ⟨_, rfl⟩
        have HCKE := Lib.hid hck
        have HCK2 := Lib.hid (hck.symm.trans HCK.out)
        clear hck HCK
        go_region_with (go_at_call 8; refine (build_all A8 A9 c8 (c8 - kk) l1 l2 0 0 0 0 (.slice none 0 0) rfl 0 0 0 0 0 0 0 0 0 0 0 0 0 0 0 0 _ (Kd.C_drew HT1.out) (Kd.C_drew HT2.out) hcc1 hcc2 HFI.out (by decide) (by decide)).mono ?_; rintro e wb ⟨v1, sp1, rfl, hfb, hy1, hn1⟩; clear hy1 hn1; have HBb := Lib.hid (Fr.below HB.out hfb.undrew (fun _ _ => id)); clear hfb; rw [HCKE.out])
        go_wp2_with (at_make; refine Classical.byContradiction fun hgoal => ?_)
        apply hgoal
        clear hgoal
        refine wpList_make_full _ rfl _ _ 29 rfl wb.heap.size 5 i8 (.int .u8 0) 1 Try.underlying29 hi8 hz8 hzs8 .i64 .i64 0 0 0 rfl rfl rfl rfl (by omega) (by decide) (Nat.le_refl _) ?_
        intro wc hoc hgc
        have HBc := Lib.hid (Fr.below HBb.out ((Fr.refl (fun _ => False) wb).grown hgc (fun k e => by cases e)) (fun _ _ => id))
        have q5 : ∀ W, (convert 29 9 (.slice (some ⟨wb.heap.size, 0, none⟩) 0 0)).run Try.prog W = .ok (.string ⟨#[]⟩) W := fun W => run_convert_bytes_arg W 29 5 Try.underlying29 Try.underlying5 wb.heap.size 0 0 0 [] rfl (fun i h => by omega) 9 Try.underlying9
        clear hoc hgc HBb
        go_wp2_with (at_make; refine Classical.byContradiction fun hgoal => ?_)
        apply hgoal
        clear hgoal
        refine wpList_make_full _ rfl _ _ 29 rfl wc.heap.size 5 i8 (.int .u8 0) 1 Try.underlying29 hi8 hz8 hzs8 .i64 .i64 (m : Int) (m : Int) m rfl rfl rfl rfl (by rw [hzb8]; omega) (by unfold maxLen; omega) (Nat.le_refl _) ?_
        intro wd hod hgd
        have HBd := Lib.hid (Fr.below HBc.out ((Fr.refl (fun _ => False) wc).grown hgd (fun k e => by cases e)) (fun _ _ => id))
        rw [made_nums] at hod
        have HX := Lib.hid (blk_made hod)
        have hgW := HBc.out.size
        clear hod hgd HBc q5
        obtain ⟨g, hg⟩ : ∃ g, wc.heap.size = g := ⟨_, rfl⟩
        rw [hg] at HX hgW ⊢
        clear hg
        go_wp2_with fail
        go_loopg [16] m (fun kq v16 wr => Hid (AtL2 W g m v16 kq wr))
        case atStart => exact Lib.hid ⟨0, by omega, by omega, rfl, by simpa using HX.out, HBd.out⟩
        case round =>
          obtain ⟨j, hj1, hj2, rfl, hx, hb⟩ := hrel.out
          clear hrel HX HBd
          by_cases hj : j < m
          · have u3 : decide ((j : Int) < (m : Int)) = true := decide_eq_true (by omega)
            have u3' : decide (j < m) = true := decide_eq_true hj
            have j0 : (0 : Int) ≤ (j : Int) := by omega
            have j1 : (j : Int) < (m : Int) := by omega
            have y := hx.cell j
            have f := hx.frozen j
            have y' : wr.cell? ⟨g, j, none⟩ = some (.int .u8 0) := by
              rw [y]
              simp [nums, List.getElem?_append, List.getElem?_replicate, hj]
              omega
            have HX := Lib.hid (hx.set j (.int .u8 120))
            have HB5 := Lib.hid (Fr.below hb ((Fr.refl (fun k => k = g) wr).setCell (p := ⟨g, j, none⟩) (.inl rfl) (.int .u8 120)) (fun k hk e => by omega))
            clear hx hb y
            go_wp2_with fail
            go_roundg (m - (j + 1))
            case measure => omega
            case rel => exact Lib.hid ⟨j + 1, by omega, by omega, by go_num, by rw [← set_x j m hj]; exact HX.out, HB5.out⟩
          · obtain rfl : j = m := by omega
            have u3 : decide ((j : Int) < (j : Int)) = false := decide_eq_false (by omega)
            rw [Nat.sub_self, List.replicate_zero, List.append_nil] at hx
            have q6 : (convert 29 9 (.slice (some ⟨g, 0, none⟩) j j)).run Try.prog wr = .ok (.string (xs j)) wr := run_convert_bytes_arg wr 29 5 Try.underlying29 Try.underlying5 g 0 j j (List.replicate j 120) (List.length_replicate ..) (fun i h => by
              rw [Nat.zero_add, hx.cell i]
              simp [nums, h]) 9 Try.underlying9
            have HCT := Lib.hid (chk_xs j)
            have hts := xs_size j
            generalize xs j = t at q6 HCT hts
            have q7 : (⟨#[]⟩ : ByteArray) ++ t = t := by
              apply ByteArray.ext
              simp
            have HTS := Lib.hid hts
            obtain ⟨ct, hct⟩ : ∃ c, chk [[t], []] = c := ⟨_, rfl⟩
            have HCTE := Lib.hid hct
            have HCT2 := Lib.hid (hct.symm.trans HCT.out)
            have HBr := Lib.hid hb
            have hfi : fitsAll [t] [] := by
              unfold fitsAll
              simp only [szOf, List.length_cons, List.length_nil, hts]
              omega
            clear hct HCT hx hb
            go_wp2_with fail
            refine (build_all (some ⟨wr.heap.size, 0, none⟩) none 1 0 [t] [] 0 0 0 0 (.slice none 0 0) rfl 0 0 0 0 0 0 0 0 0 0 0 0 0 0 0 0 _ (str_new wr 9 [t] (by show 1 ≤ _; decide)) (str_nil _) (Nat.le_refl _) (Nat.le_refl _) hfi (by decide) (by decide)).mono ?_
            rintro e we ⟨v2, sp2, rfl, hfe, hy2, -⟩
            have HBe := Lib.hid (Fr.below HBr.out (((Fr.refl (fun _ => False) wr).alloc _).trans hfe (fun _ _ => id)) (fun _ _ => id))
            have HY2 := Lib.hid (show ct = 0 → 274877837312 ≤ sp2 from fun h0 => by
              rw [(hy2 (HCTE.out.trans h0)).1]
              exact (sp_two [t] [] 0 0 0 0 (chk_fits (HCTE.out.trans h0))).1)
            clear hfe hy2 HBr
            rw [HCTE.out]
            by_cases hk1 : k ≤ 256
            all_goals
              by_cases hj1 : j ≤ 32767
              all_goals
                have c1 := HCK2.out
                have c2 := HCT2.out
                first | rw [if_pos hk1] at c1 | rw [if_neg hk1] at c1
                first | rw [if_pos hj1] at c2 | rw [if_neg hj1] at c2
                subst c1
                subst c2
                have d1 : decide ((k : Int) ≤ 256) = decide (k ≤ 256) := by rw [decide_eq_decide]; omega
                have d2 : decide ((j : Int) ≤ 32767) = decide (j ≤ 32767) := by rw [decide_eq_decide]; omega
                first | rw [decide_eq_true hk1] at d1 | rw [decide_eq_false hk1] at d1
                first | rw [decide_eq_true hj1] at d2 | rw [decide_eq_false hj1] at d2
                have d1' : decide (k ≤ 256) = decide ((k : Int) ≤ 256) := by rw [decide_eq_decide]; omega
                have d2' : decide (j ≤ 32767) = decide ((j : Int) ≤ 32767) := by rw [decide_eq_decide]; omega
                rw [d1] at d1'
                rw [d2] at d2'
                first | (have d3 := decide_eq_false (show ¬ (sp2 < 274877837312) by have e := HY2.out rfl; omega)) | skip
                all_goals
                  go_wp2_with fail
                  refine (answers_any _).mono ?_
                  rintro e wf ⟨rfl, hff⟩
                  have HBf := Lib.hid (Fr.below HBe.out hff (fun _ _ => id))
                  clear hff
                  go_wp2_with fail
                  go_ret
                  exact ⟨rfl, HBf.out⟩
      · have u2 : decide ((0 : Int) < (k : Int)) = false := decide_eq_false (by omega)
        have u2' : decide (0 < k) = false := decide_eq_false hz
        go_wp2_with fail
        obtain ⟨q1, q2⟩ := cut_two A8 k c8 0 (by omega) hc8
        have HT1 := Lib.hid (C_take_rep (k := 0) HC8.out (by omega))
        have HT2 := Lib.hid (C_drop_rep (k := 0) HC8.out (by omega) hc8)
        obtain ⟨A9, hA9⟩ : ∃ A, (if c8 = 0 then A8 else A8.map (·.add 0)) = A := ⟨_, rfl⟩
        rw [hA9] at q2 HT2
        have HCK := Lib.hid (chk_as k 0 (by omega) (by omega))
        obtain ⟨l1, hl1⟩ : ∃ l, List.replicate 0 tA = l := ⟨_, rfl⟩
        obtain ⟨l2, hl2⟩ : ∃ l, List.replicate (k - 0) tA = l := ⟨_, rfl⟩
        have hll1 : l1.length = 0 := by rw [← hl1, List.length_replicate]
        have hll2 : l2.length = k - 0 := by rw [← hl2, List.length_replicate]
        rw [hl1, hl2] at HCK
        rw [hl1] at HT1
        rw [hl2] at HT2
        have HFI := Lib.hid (show fitsAll l1 l2 from by rw [← hl1, ← hl2]; unfold fitsAll; rw [szOf_rep, szOf_rep, List.length_replicate, List.length_replicate, show tA.size = 1 from rfl]; omega)
        have q1' : ∀ W : World, (Instr.slice 22 (.slice A8 k c8) none (some (.int .i64 0)) none).run Try.prog W = .ok (.slice A8 l1.length c8) W := fun W => by rw [hll1]; exact q1 W
        have q2' : ∀ W : World, (Instr.slice 22 (.slice A8 k c8) (some (.int .i64 0)) none none).run Try.prog W = .ok (.slice A9 l2.length c8) W := fun W => by rw [hll2]; exact q2 W
        have hcc2 : l2.length ≤ c8 := by omega
        have hcc1 : l1.length ≤ c8 := by omega
        clear q1 q2 hA9 hl1 hl2 hll1 hll2
        obtain ⟨ck, hck⟩ : ∃ c, chk [l1, l2] = c := ⟨_, rfl⟩
        have HCKE := Lib.hid hck
        have HCK2 := Lib.hid (hck.symm.trans HCK.out)
        clear hck HCK
        go_region_with (go_at_call 8; refine (build_all A8 A9 c8 c8 l1 l2 0 0 0 0 (.slice none 0 0) rfl 0 0 0 0 0 0 0 0 0 0 0 0 0 0 0 0 _ (Kd.C_drew HT1.out) (Kd.C_drew HT2.out) hcc1 hcc2 HFI.out (by decide) (by decide)).mono ?_; rintro e wb ⟨v1, sp1, rfl, hfb, hy1, hn1⟩; clear hy1 hn1; have HBb := Lib.hid (Fr.below HB.out hfb.undrew (fun _ _ => id)); clear hfb; rw [HCKE.out])
        go_wp2_with (at_make; refine Classical.byContradiction fun hgoal => ?_)
        apply hgoal
        clear hgoal
        refine wpList_make_full _ rfl _ _ 29 rfl wb.heap.size 5 i8 (.int .u8 0) 1 Try.underlying29 hi8 hz8 hzs8 .i64 .i64 0 0 0 rfl rfl rfl rfl (by omega) (by decide) (Nat.le_refl _) ?_
        intro wc hoc hgc
        have HBc := Lib.hid (Fr.below HBb.out ((Fr.refl (fun _ => False) wb).grown hgc (fun k e => by cases e)) (fun _ _ => id))
        have q5 : ∀ W, (convert 29 9 (.slice (some ⟨wb.heap.size, 0, none⟩) 0 0)).run Try.prog W = .ok (.string ⟨#[]⟩) W := fun W => run_convert_bytes_arg W 29 5 Try.underlying29 Try.underlying5 wb.heap.size 0 0 0 [] rfl (fun i h => by omega) 9 Try.underlying9
        clear hoc hgc HBb
        go_wp2_with (at_make; refine Classical.byContradiction fun hgoal => ?_)
        apply hgoal
        clear hgoal
        refine wpList_make_full _ rfl _ _ 29 rfl wc.heap.size 5 i8 (.int .u8 0) 1 Try.underlying29 hi8 hz8 hzs8 .i64 .i64 (m : Int) (m : Int) m rfl rfl rfl rfl (by rw [hzb8]; omega) (by unfold maxLen; omega) (Nat.le_refl _) ?_
        intro wd hod hgd
        have HBd := Lib.hid (Fr.below HBc.out ((Fr.refl (fun _ => False) wc).grown hgd (fun k e => by cases e)) (fun _ _ => id))
        rw [made_nums] at hod
        have HX := Lib.hid (blk_made hod)
        have hgW := HBc.out.size
        clear hod hgd HBc q5
        obtain ⟨g, hg⟩ : ∃ g, wc.heap.size = g := ⟨_, rfl⟩
        rw [hg] at HX hgW ⊢
        clear hg
        go_wp2_with fail
        go_loopg [16] m (fun kq v16 wr => Hid (AtL2 W g m v16 kq wr))
        case atStart => exact Lib.hid ⟨0, by omega, by omega, rfl, by simpa using HX.out, HBd.out⟩
        case round =>
          obtain ⟨j, hj1, hj2, rfl, hx, hb⟩ := hrel.out
          clear hrel HX HBd
          by_cases hj : j < m
          · have u3 : decide ((j : Int) < (m : Int)) = true := decide_eq_true (by omega)
            have u3' : decide (j < m) = true := decide_eq_true hj
            have j0 : (0 : Int) ≤ (j : Int) := by omega
            have j1 : (j : Int) < (m : Int) := by omega
            have y := hx.cell j
            have f := hx.frozen j
            have y' : wr.cell? ⟨g, j, none⟩ = some (.int .u8 0) := by
              rw [y]
              simp [nums, List.getElem?_append, List.getElem?_replicate, hj]
              omega
            have HX := Lib.hid (hx.set j (.int .u8 120))
            have HB5 := Lib.hid (Fr.below hb ((Fr.refl (fun k => k = g) wr).setCell (p := ⟨g, j, none⟩) (.inl rfl) (.int .u8 120)) (fun k hk e => by omega))
            clear hx hb y
            go_wp2_with fail
            go_roundg (m - (j + 1))
            case measure => omega
            case rel => exact Lib.hid ⟨j + 1, by omega, by omega, by go_num, by rw [← set_x j m hj]; exact HX.out, HB5.out⟩
          · obtain rfl : j = m := by omega
            have u3 : decide ((j : Int) < (j : Int)) = false := decide_eq_false (by omega)
            rw [Nat.sub_self, List.replicate_zero, List.append_nil] at hx
            have q6 : (convert 29 9 (.slice (some ⟨g, 0, none⟩) j j)).run Try.prog wr = .ok (.string (xs j)) wr := run_convert_bytes_arg wr 29 5 Try.underlying29 Try.underlying5 g 0 j j (List.replicate j 120) (List.length_replicate ..) (fun i h => by
              rw [Nat.zero_add, hx.cell i]
              simp [nums, h]) 9 Try.underlying9
            have HCT := Lib.hid (chk_xs j)
            have hts := xs_size j
            generalize xs j = t at q6 HCT hts
            have q7 : (⟨#[]⟩ : ByteArray) ++ t = t := by
              apply ByteArray.ext
              simp
            have HTS := Lib.hid hts
            obtain ⟨ct, hct⟩ : ∃ c, chk [[t], []] = c := ⟨_, rfl⟩
            have HCTE := Lib.hid hct
            have HCT2 := Lib.hid (hct.symm.trans HCT.out)
            have HBr := Lib.hid hb
            have hfi : fitsAll [t] [] := by
              unfold fitsAll
              simp only [szOf, List.length_cons, List.length_nil, hts]
              omega
            clear hct HCT hx hb
            go_wp2_with fail
            refine (build_all (some ⟨wr.heap.size, 0, none⟩) none 1 0 [t] [] 0 0 0 0 (.slice none 0 0) rfl 0 0 0 0 0 0 0 0 0 0 0 0 0 0 0 0 _ (str_new wr 9 [t] (by show 1 ≤ _; decide)) (str_nil _) (Nat.le_refl _) (Nat.le_refl _) hfi (by decide) (by decide)).mono ?_
            rintro e we ⟨v2, sp2, rfl, hfe, hy2, -⟩
            have HBe := Lib.hid (Fr.below HBr.out (((Fr.refl (fun _ => False) wr).alloc _).trans hfe (fun _ _ => id)) (fun _ _ => id))
            have HY2 := Lib.hid (show ct = 0 → 274877837312 ≤ sp2 from fun h0 => by
              rw [(hy2 (HCTE.out.trans h0)).1]
              exact (sp_two [t] [] 0 0 0 0 (chk_fits (HCTE.out.trans h0))).1)
            clear hfe hy2 HBr
            rw [HCTE.out]
            by_cases hk1 : k ≤ 256
            all_goals
              by_cases hj1 : j ≤ 32767
              all_goals
                have c1 := HCK2.out
                have c2 := HCT2.out
                first | rw [if_pos hk1] at c1 | rw [if_neg hk1] at c1
                first | rw [if_pos hj1] at c2 | rw [if_neg hj1] at c2
                subst c1
                subst c2
                have d1 : decide ((k : Int) ≤ 256) = decide (k ≤ 256) := by rw [decide_eq_decide]; omega
                have d2 : decide ((j : Int) ≤ 32767) = decide (j ≤ 32767) := by rw [decide_eq_decide]; omega
                first | rw [decide_eq_true hk1] at d1 | rw [decide_eq_false hk1] at d1
                first | rw [decide_eq_true hj1] at d2 | rw [decide_eq_false hj1] at d2
                have d1' : decide (k ≤ 256) = decide ((k : Int) ≤ 256) := by rw [decide_eq_decide]; omega
                have d2' : decide (j ≤ 32767) = decide ((j : Int) ≤ 32767) := by rw [decide_eq_decide]; omega
                rw [d1] at d1'
                rw [d2] at d2'
                first | (have d3 := decide_eq_false (show ¬ (sp2 < 274877837312) by have e := HY2.out rfl; omega)) | skip
                all_goals
                  go_wp2_with fail
                  refine (answers_any _).mono ?_
                  rintro e wf ⟨rfl, hff⟩
                  have HBf := Lib.hid (Fr.below HBe.out hff (fun _ _ => id))
                  clear hff
                  go_wp2_with fail
                  go_ret
                  exact ⟨rfl, HBf.out⟩
end Go.Proofs.Ytnoeehdccknhnaa.St
