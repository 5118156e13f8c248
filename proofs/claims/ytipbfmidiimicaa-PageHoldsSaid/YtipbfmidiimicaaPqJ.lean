/- PageHolds: walked. -/
import Derived.Test.YtipbfmidiimicaaPqI
namespace Go.Proofs.Ytipbfmidiimicaa.Pq
open Go Go.RowKit Go.Proofs.YtipbfmidiimicaaW.PrintWords Go.Proofs.YtipbfmidiimicaaW.PrintLast Go.Proofs.YtipbfmidiimicaaW.PrintMore
open Go.Proofs.Ytipbfmidiimicaa.Hp Go.Proofs.Ytipbfmidiimicaa.Pm
attribute [local go_sem] max2_m min2_m max_two min_two max_three min_three max_four min_four
set_option linter.unusedVariables false
set_option linter.unusedSimpArgs false
theorem infoI : (Try.prog.info? 3 ).map (fun i => (i.zero, i.size, i.bytes)) = some (some (.int .i64 0), 1, 8) := by kernel_rfl
theorem made_numsI (m : Nat) : (madeCells (Value.int .i64 0).cells (m * 1)).toList = nums .i64 (List.replicate m 0) := by
  apply List.ext_getElem
  · simp [madeCells, nums]
  · intro i h1 h2
    simp [madeCells, nums, Value.cells, Nat.mod_one]
theorem blk_madeI {w : World} {B g m : Nat} {xs : List Value} (h : w.ownsRow B 3 1 (.slice (some ⟨g, 0, none⟩) m m) m xs) : Blk w g 3 xs.toArray := by
  rcases h.2 with ⟨e, _⟩ | ⟨g', cap, cur, e, _, hh, hc, hm, hs, ht⟩
  · cases e
  · cases e
    have : cur.toList = xs := by
      rw [← ht, List.take_of_length_le]
      simp [hs]
    rw [← this]
    simpa [Blk] using hh
theorem Sto.ne_own {w : World} {B g BL BS n sz : Nat} {f : Int → Option Nat} {C : Int → Int} {clk al : Int} (h : Sto w B g BL BS n f sz C clk al) {gs : Nat} {t : TypeId} {cs : Array Value} (hb : Blk w gs t cs) (h1 : t ≠ 42 ) (h2 : t ≠ 48 ) : ¬ ownS g BL BS f gs := fun e => by
  rcases e with e | e | e | ⟨no, e⟩
  · exact Blk.ne hb h.blk h1 e
  · exact h.lm.ne_blk hb e.symm
  · exact h.sm.ne_blk hb e.symm
  · exact Blk.ne hb (h.lv no gs e).1 h2 rfl
theorem read_int {B g BL BS n sz : Nat} {f : Int → Option Nat} {C : Int → Int} {clk al : Int} (k : Int) (addr : Int) (ha : 0 ≤ addr ∧ addr < 18446744073709551616) (w : World) (h : Sto w B g BL BS n f sz C clk al) (hB : B ≤ w.heap.size) :
    Calls Try.prog 11 #[.pointer (some ⟨g, 0, none⟩), .int .u64 addr, .int .i64 k] w fun e w' => ∃ (A : Option Addr) (c m : Nat), ((k < 1 ∧ m = 0) ∨ (4194304 < k ∧ m = 0) ∨ (1 ≤ k ∧ k ≤ 4194304 ∧ (m : Int) = k)) ∧ e = .returned (.slice A m c) ∧ ReadsInt w' .u8 A m (rowC C addr m) ∧ Sto w' B g BL BS n f sz C clk al ∧ Fr (fun _ => False) w w' := by
  by_cases h1 : k < 1
  · have u1 : decide (k < 1) = true := decide_eq_true h1
    go_enter Try.func11, Try.ntmps11
    go_wp2_with fail
    refine bodyPost_ret (results_tmp rfl _ _ _) rfl ?_
    exact ⟨none, 0, 0, by omega, rfl, ⟨by simp [rowC], by omega, fun h => by omega⟩, h, Fr.refl _ _⟩
  · by_cases h2 : 4194304 < k
    · have u1 : decide (k < 1) = false := decide_eq_false h1
      have u2 : decide (4194304 < k) = true := decide_eq_true h2
      go_enter Try.func11, Try.ntmps11
      go_wp2_with fail
      refine bodyPost_ret (results_tmp rfl _ _ _) rfl ?_
      exact ⟨none, 0, 0, by omega, rfl, ⟨by simp [rowC], by omega, fun h => by omega⟩, h, Fr.refl _ _⟩
    · obtain ⟨m, rfl⟩ : ∃ m : Nat, k = (m : Int) := ⟨k.toNat, by omega⟩
      refine (read_reads m addr ha w h hB (by omega)).mono ?_
      rintro e w' ⟨A, c, rfl, _, _, hr, hs, hf⟩
      exact ⟨A, c, m, .inr (.inr ⟨by omega, by omega, rfl⟩), rfl, hr, hs, hf⟩
theorem places0_any (A : Option Addr) (c : Nat) (l : List Int) (w : World) (hr : ReadsInt w .u64 A l.length l) (hb : ∀ y ∈ l, 0 ≤ y ∧ y < 18446744073709551616) : Calls Try.prog 12 #[.slice A l.length c] w fun e w' => ∃ X, e = .returned (.int .u64 X) ∧ (0 ≤ X ∧ X < 18446744073709551616) ∧ Fr (fun _ => False) w w' := by
  cases l with
  | nil =>
    go_enter Try.func12, Try.ntmps12
    go_wp2_with fail
    go_ret
    exact ⟨0, rfl, by omega, Fr.refl _ _⟩
  | cons x r =>
    obtain ⟨ad, rfl, hc⟩ := hr.2.2 (by simp)
    have q := hc 0 (by simp)
    rw [show ad.add 0 = ad from by unfold Addr.add; split <;> simp_all] at q
    simp at q
    have hx := hb x List.mem_cons_self
    obtain ⟨m, hm⟩ : ∃ m, (x :: r).length = m := ⟨_, rfl⟩
    have HM := Lib.hid (show 0 < m from by rw [← hm]; simp)
    rw [hm]
    have u1 : ((m : Int) == 0) = false := beq_eq_false_iff_ne.2 (by have := HM.out; omega)
    have u2 : (m == 0) = false := beq_eq_false_iff_ne.2 (by have := HM.out; omega)
    have u3 : (0 : Int) < (m : Int) := by have := HM.out; omega
    have u4 : 0 < m := HM.out
    clear hr hb hc hm
    go_enter Try.func12, Try.ntmps12
    go_wp2_with fail
    go_ret
    exact ⟨x, rfl, hx, Fr.refl _ _⟩
theorem few4 (a b c d : Int) (ha : a = 0 ∨ a = 1) (hb : b = 0 ∨ b = 1) (hc : c = 0 ∨ c = 1) (hd : d = 0 ∨ d = 1) : (((([0, 1, 2, 3] : List Int).filter (fun k => decide ([a, b, c, d].getD k.toNat 0 = 1))).length : Nat) : Int) = a + b + c + d := by
  rcases ha with rfl | rfl <;> rcases hb with rfl | rfl <;> rcases hc with rfl | rfl <;> rcases hd with rfl | rfl <;> decide
def AtHo (w0 : World) (B g BL BS gs : Nat) (m : Nat) (v7 : Value) (kq : Nat) (wr : World) : Prop :=
  ∃ (j n' sz' : Nat) (f' : Int → Option Nat) (C' : Int → Int) (clk' : Int) (L : List Int), v7 = .int .i64 j ∧ j ≤ m ∧ m - j ≤ kq ∧ L.length = 4 ∧ (∀ k, k < 4 → L.getD k 0 = 0 ∨ L.getD k 0 = 1) ∧ Blk wr gs 3 (nums .i64 L).toArray ∧ Sto wr B g BL BS n' f' sz' C' clk' 0 ∧ n' ≤ 2 * j ∧
    (∀ no b, f' no = some b → ∃ k : Nat, no = (k : Int) ∧ k < 4 ∧ L.getD k 0 = 1) ∧ Fr (fun _ => False) w0 wr
set_option maxHeartbeats 8000000 in
set_option maxRecDepth 100000 in
theorem holds_any (A : Option Addr) (c : Nat) (l : List Int) (nn : Int) (w : World) (hl : l.length ≤ 140737488351232) (hr : ReadsInt w .u64 A l.length l) (hby : ∀ y ∈ l, 0 ≤ y ∧ y < 18446744073709551616) : Calls Try.prog 3 #[.slice A l.length c, .int .i64 nn] w fun e w' => e = .returned (.bool true) ∧ Fr (fun _ => False) w w' := by
  obtain ⟨m, hm⟩ : ∃ m, l.length = m := ⟨_, rfl⟩
  have HR := Lib.hid hr
  have HM := Lib.hid hm
  have HY := Lib.hid hby
  rw [hm] at hl ⊢
  clear hr hm hby
  go_enter Try.func3, Try.ntmps3
  go_wp2_with fail
  refine (new_any w).mono ?_
  rintro x w1 ⟨g, BL, BS, rfl, hs1, hf1⟩
  have HS1 := Lib.hid hs1
  have HF1 := Lib.hid hf1
  clear hs1 hf1
  go_wp2_with fail
  refine (answers_any w1).mono ?_
  rintro x w2 ⟨rfl, hf2⟩
  have HS2 := Lib.hid (HS1.out.fr hf2)
  have HF2 := Lib.hid (HF1.out.trans hf2 (fun _ _ e => e))
  clear hf2
  by_cases h5 : 200 < m
  · have u1 : decide ((200 : Int) < (m : Int)) = true := decide_eq_true (by omega)
    go_wp2_with fail
    refine (answers_any w2).mono ?_
    rintro x w3 ⟨rfl, hf3⟩
    have HF3 := Lib.hid (HF2.out.trans hf3 (fun _ _ e => e))
    clear hf3
    go_wp2_with fail
    go_ret
    exact ⟨rfl, HF3.out⟩
  · have u1 : decide ((200 : Int) < (m : Int)) = false := decide_eq_false (by omega)
    obtain ⟨i8, hi8, hz8, hzs8, hzb8⟩ := info_parts infoI
    have HI8 := Lib.hid (And.intro hi8 (And.intro hz8 (And.intro hzs8 hzb8)))
    clear hi8 hz8 hzs8 hzb8
    go_wp2_with (at_make; refine Classical.byContradiction fun hgoal => ?_)
    apply hgoal
    clear hgoal
    refine wpList_make_full _ rfl _ _ 26 rfl w2.heap.size 3 i8 (.int .i64 0) 1 Try.underlying26 HI8.out.1 HI8.out.2.1 HI8.out.2.2.1 .i64 .i64 4 4 4 rfl rfl rfl rfl (by rw [HI8.out.2.2.2]; omega) (by unfold maxLen; omega) (Nat.le_refl _) ?_
    intro wm hmk gm
    have HFM := Lib.hid ((Fr.refl (fun _ => False) w2).grown gm (fun k e => by cases e))
    have HBM := Lib.hid (show Blk wm w2.heap.size 3 (nums .i64 [0, 0, 0, 0]).toArray from blk_madeI (by rw [show (madeCells (Value.int .i64 0).cells (4 * 1)).toList = nums .i64 [0, 0, 0, 0] from made_numsI 4] at hmk; exact hmk))
    have HSM := Lib.hid (HS2.out.fr HFM.out)
    have HFW := Lib.hid (HF2.out.trans HFM.out (fun _ _ e => e))
    clear hmk gm
    go_wp2_with fail
    go_loopg [7] m (fun kq v7 wr => Hid (AtHo w w.heap.size g BL BS w2.heap.size m v7 kq wr))
    case atStart => exact Lib.hid ⟨0, 0, 0, _, _, 0, [0, 0, 0, 0], rfl, by omega, by omega, rfl, fun k hk => (by rcases k with _ | _ | _ | _ | k <;> first | exact .inl rfl | omega), HBM.out, HSM.out, by omega, fun no b e => (by cases e), HFW.out⟩
    case round =>
      obtain ⟨j, n', sz', f', C', clk', L, rfl, hj, hjk, hL, hL1, hb, hs, hn', hfs, hf⟩ := hrel.out
      have HB := Lib.hid hb
      have HST := Lib.hid hs
      have HF := Lib.hid hf
      have HL := Lib.hid (And.intro hL (And.intro hL1 hfs))
      have HN := Lib.hid hn'
      clear hrel hb hs hf hL hL1 hfs hn'
      by_cases hgo : j < m
      · have v1 : decide ((j : Int) < (m : Int)) = true := decide_eq_true (by omega)
        have v1' : decide (j < m) = true := decide_eq_true hgo
        have j0 : (0 : Int) ≤ (j : Int) := by omega
        have j1 : (j : Int) < (m : Int) := by omega
        have j2 : IntKind.i64.wrap ((j : Int) + 1) = (j : Int) + 1 := IntWalk.i64_in _ (by omega)
        have hrr := reads_fr HR.out HF.out (fun _ _ _ => id)
        obtain ⟨ad, rfl, hxc⟩ := hrr.2.2 (by rw [HM.out]; omega)
        have qx := hxc j (by rw [HM.out]; exact hgo)
        have hX := HY.out (l.getD j 0) (by rw [List.getD_eq_getElem?_getD, List.getElem?_eq_getElem (by rw [HM.out]; exact hgo)]; exact List.getElem_mem _)
        obtain ⟨X, hXX⟩ : ∃ X, l.getD j 0 = X := ⟨_, rfl⟩
        rw [hXX] at qx hX
        obtain ⟨at_, hat⟩ : ∃ at_, X % 16384 = at_ := ⟨_, rfl⟩
        have t1 : X.tmod 16384 = at_ := by rw [Int.tmod_eq_emod_of_nonneg hX.1]; exact hat
        obtain ⟨k, hk⟩ : ∃ k : Nat, at_ / 4096 = (k : Int) := ⟨(at_ / 4096).toNat, by omega⟩
        have t2 : at_.tdiv 4096 = (k : Int) := by rw [Int.tdiv_eq_ediv_of_nonneg (by omega)]; exact hk
        have t3 : IntKind.u64.wrap at_ = at_ := IntWalk.u64_in _ (by omega)
        have t4 : IntKind.u64.wrap (k : Int) = (k : Int) := IntWalk.u64_in _ (by omega)
        have k0 : (0 : Int) ≤ (k : Int) := by omega
        have k1 : (k : Int) < 4 := by omega
        have k1' : k < 4 := by omega
        have HK := Lib.hid (show at_ / 4096 = (k : Int) ∧ k < 4 ∧ 0 ≤ at_ ∧ at_ < 16384 from ⟨hk, by omega, by omega, by omega⟩)
        clear hrr hxc hX hXX hat hk
        go_wp2_with fail
        have HAL := Lib.hid ((Fr.refl (fun _ => False) wr).alloc (.cells #[.int .u8 1] 5))
        have HX := Lib.hid (reads_new wr .u8 5 (0, 0) [1] (by simp))
        refine (write_any (some ⟨wr.heap.size, 0, none⟩) 1 [1] at_ (by have := HK.out; omega) _ (HST.out.fr HAL.out) (by have := HF.out.size; have := HAL.out.size; omega) (by have := HN.out; omega) (by simp) (by simp) HX.out (fun ad e _ h => by
          injection e with e
          subst e
          have h2 := HST.out.own_lt _ h
          exact Nat.lt_irrefl _ h2)).mono ?_
        rintro x w3 ⟨rfl, n3, sz3, f3, clk3, hs3, hn3, hz3, hg3, hf3⟩
        have HS3 := Lib.hid hs3
        have HN3 := Lib.hid (show n3 ≤ n' + 2 from by simpa using hn3)
        have HG3 := Lib.hid (show ∀ no b, f3 no = some b → f' no = some b ∨ no = (k : Int) from fun no b e => by
          rcases hg3.new no b e with h | h
          · exact .inl h
          · refine .inr ?_
            have h2 := h.2
            simp at h2
            have := HK.out
            omega)
        have HB3 := Lib.hid (Blk.fr (show Blk (wr.alloc (.cells #[.int .u8 1] 5)) w2.heap.size 3 (nums .i64 L).toArray from HB.out.fr HAL.out id) hf3 (HST.out.ne_own HB.out (by decide) (by decide)))
        have HF3 := Lib.hid ((HF.out.alloc (.cells #[.int .u8 1] 5)).trans hf3 (fun i hi e => by
          rcases e with rfl | rfl | rfl | ⟨no, e⟩
          · have := HST.out.gb; omega
          · have := HST.out.lb; omega
          · have := HST.out.sb; omega
          · have := (HST.out.lv no i e).2; omega))
        have hfz := HB3.out.frozen k
        have hcl : w3.cell? ⟨w2.heap.size, k, none⟩ = some (.int .i64 (L.getD k 0)) := by
          rw [HB3.out.cell]
          simp [nums, List.getD_eq_getElem?_getD, List.getElem?_eq_getElem (show k < L.length from by rw [HL.out.1]; exact HK.out.2.1)]
        have HF4 := Lib.hid (HF3.out.setCell (p := ⟨w2.heap.size, k, none⟩) (.inr (by have := HF2.out.size; exact this)) (.int .i64 1))
        have HS4 := Lib.hid (HS3.out.fr2 ((Fr.refl (fun i => i = w2.heap.size) w3).setCell (p := ⟨w2.heap.size, k, none⟩) (.inl rfl) (.int .i64 1)) (fun i hi e => by subst e; exact HS3.out.ne_own HB3.out (by decide) (by decide) hi))
        have HB4 := Lib.hid (show Blk (w3.setCell ⟨w2.heap.size, k, none⟩ (.int .i64 1)) w2.heap.size 3 (nums .i64 (L.set k 1)).toArray from by
          have h := HB3.out.set k (.int .i64 1)
          rw [List.setIfInBounds_toArray] at h
          unfold nums at h ⊢
          rw [List.map_set]
          exact h)
        clear hs3 hn3 hz3 hg3 hf3
        go_wp2_with fail
        go_roundg (m - (j + 1))
        case measure => omega
        case rel =>
          refine Lib.hid ⟨j + 1, n3, sz3, f3, _, clk3, L.set k 1, by go_num, by omega, Nat.le_refl _, by rw [List.length_set]; exact HL.out.1, fun i hi => ?_, HB4.out, HS4.out, by have := HN3.out; have := HN.out; omega, fun no b e => ?_, HF4.out⟩
          · by_cases e : i = k
            · subst e; right; simp [List.getD_eq_getElem?_getD, HL.out.1, hi]
            · rw [List.getD_eq_getElem?_getD, List.getElem?_set_ne (fun h => e h.symm), ← List.getD_eq_getElem?_getD]; exact HL.out.2.1 i hi
          · by_cases e2 : no = (k : Int)
            · exact ⟨k, e2, HK.out.2.1, by simp [List.getD_eq_getElem?_getD, HL.out.1, HK.out.2.1]⟩
            · rcases HG3.out no b e with h | h
              · obtain ⟨i, h1, h2, h3⟩ := HL.out.2.2 no b h
                refine ⟨i, h1, h2, ?_⟩
                rw [List.getD_eq_getElem?_getD, List.getElem?_set_ne (fun h => e2 (by rw [h1, h])), ← List.getD_eq_getElem?_getD]
                exact h3
              · exact absurd h e2
      · have v1 : decide ((j : Int) < (m : Int)) = false := decide_eq_false (by omega)
        have v1' : decide (j < m) = false := decide_eq_false hgo
        have HJ := Lib.hid hj
        clear hj hjk hgo
        go_wp2_with fail
        refine (held_any _ HST.out).mono ?_
        rintro x w4 ⟨rfl, hf4⟩
        have HS4 := Lib.hid (HST.out.fr hf4)
        have HF4 := Lib.hid (HF.out.trans hf4 (fun _ _ e => e))
        have HB4 := Lib.hid (HB.out.fr hf4 id)
        clear hf4
        obtain ⟨hL, hL1, hfs⟩ := HL.out
        obtain ⟨a, b, c', d, rfl⟩ : ∃ a b c' d, L = [a, b, c', d] := by
          match L, hL with
          | [a, b, c', d], _ => exact ⟨a, b, c', d, rfl⟩
        have ea : a = 0 ∨ a = 1 := hL1 0 (by omega)
        have eb : b = 0 ∨ b = 1 := hL1 1 (by omega)
        have ec : c' = 0 ∨ c' = 1 := hL1 2 (by omega)
        have ed : d = 0 ∨ d = 1 := hL1 3 (by omega)
        have hsz : (sz' : Int) ≤ a + b + c' + d := by
          have h1 := PM.few HST.out.lm lawK Try.underlying27 (([0, 1, 2, 3] : List Int).filter (fun k => decide ([a, b, c', d].getD k.toNat 0 = 1))) (fun k _ hk => by
            cases e : f' k with
            | none => exact absurd e hk
            | some y =>
              obtain ⟨i, rfl, h2, h3⟩ := hfs k y e
              refine List.mem_filter.2 ⟨?_, by simpa using h3⟩
              rcases i with _ | _ | _ | _ | i
              · simp
              · simp
              · simp
              · simp
              · omega)
          have h2 := few4 a b c' d ea eb ec ed
          omega
        have q0 := HB4.out.cell 0
        have q1 := HB4.out.cell 1
        have q2 := HB4.out.cell 2
        have q3 := HB4.out.cell 3
        simp [nums] at q0 q1 q2 q3
        have s1 : IntKind.i64.wrap (a + b) = a + b := IntWalk.i64_in _ (by omega)
        have s2 : IntKind.i64.wrap (a + b + c') = a + b + c' := IntWalk.i64_in _ (by omega)
        have s3 : IntKind.i64.wrap (a + b + c' + d) = a + b + c' + d := IntWalk.i64_in _ (by omega)
        have s4 : decide (a + b + c' + d < (sz' : Int)) = false := decide_eq_false (by omega)
        have HALL := Lib.hid (show ∀ no y, f' no = some y → no * 4096 + 4096 ≤ 16384 from fun no y e => by
          obtain ⟨i, rfl, h2, _⟩ := hfs no y e
          omega)
        clear hL hL1 hfs ea eb ec ed hsz
        go_wp2_with fail
        go_region_law (fail)
        all_goals
          go_wp2_with fail
          refine (clear_all 16384 (by omega) w4.drew (HS4.out.fr (Fr.refl (fun _ => False) w4).drew) (by have := HN.out; have := HJ.out; omega) HALL.out).mono ?_
          rintro x w5 ⟨rfl, n5, clk5, al5, hs5, hn5, hf5⟩
          have HS5 := Lib.hid hs5
          have HF5 := Lib.hid (HF4.out.trans (Fr.undrew hf5) (fun i hi e => by
            have := HST.out.gb
            have := HST.out.lb
            have := HST.out.sb
            omega))
          clear hs5 hn5 hf5
          go_wp2_with fail
          have hpl := places0_any A c l w5 (reads_fr HR.out HF5.out (fun _ _ _ => id)) HY.out
          rw [HM.out] at hpl
          refine hpl.mono ?_
          rintro x w6 ⟨X, rfl, hX, hf6⟩
          have HS6 := Lib.hid (HS5.out.fr hf6)
          have HF6 := Lib.hid (HF5.out.trans hf6 (fun _ _ e => e))
          obtain ⟨at_, hat⟩ : ∃ at_, X % 16384 = at_ := ⟨_, rfl⟩
          have t1 : X.tmod 16384 = at_ := by rw [Int.tmod_eq_emod_of_nonneg hX.1]; exact hat
          have t3 : IntKind.u64.wrap at_ = at_ := IntWalk.u64_in _ (by omega)
          have HAT := Lib.hid (show 0 ≤ at_ ∧ at_ < 16384 from by omega)
          clear hpl hX hf6 hat
          go_wp2_with fail
          refine (read_int nn at_ (by have := HAT.out; omega) w6 HS6.out (by have := HF6.out.size; omega)).mono ?_
          rintro x w7 ⟨Ab, cb, mb, hmb, rfl, hrb, hs7, hf7⟩
          have HS7 := Lib.hid hs7
          have HRB := Lib.hid hrb
          have HF7 := Lib.hid (HF6.out.trans hf7 (fun _ _ e => e))
          have HMB := Lib.hid hmb
          clear hmb hrb hs7 hf7
          go_wp2_with fail
          go_loopg [11] mb (fun kq v11 wr => Hid (AtY mb w7 v11 kq wr))
          case atStart => exact Lib.hid ⟨0, rfl, by omega, by omega, rfl⟩
          case round =>
            obtain ⟨j, rfl, hj, hjk, rfl⟩ := hrel.out
            clear hrel
            by_cases hgo : j < mb
            · have v1 : decide ((j : Int) < (mb : Int)) = true := decide_eq_true (by omega)
              have v1' : decide (j < mb) = true := decide_eq_true hgo
              have j0 : (0 : Int) ≤ (j : Int) := by omega
              have j1 : (j : Int) < (mb : Int) := by omega
              have j2 : IntKind.i64.wrap ((j : Int) + 1) = (j : Int) + 1 := IntWalk.i64_in _ (by have := HMB.out; omega)
              obtain ⟨ady, rfl, hyc⟩ := HRB.out.2.2 (by omega)
              have qy := hyc j hgo
              rw [show (rowC (fun _ => 0) at_ mb).getD j 0 = 0 from by rw [List.getD_eq_getElem?_getD, rowC_get _ _ _ _ hgo]; simp] at qy
              clear hyc
              go_wp2_with fail
              go_roundg (mb - (j + 1))
              case measure => omega
              case rel => exact Lib.hid ⟨j + 1, by go_num, by omega, by omega, rfl⟩
            · have v1 : decide ((j : Int) < (mb : Int)) = false := decide_eq_false (by omega)
              have v1' : decide (j < mb) = false := decide_eq_false hgo
              clear hj hjk hgo
              rcases HMB.out with ⟨h1, h2⟩ | ⟨h1, h2⟩ | ⟨h1, h2, h3⟩
              · have n1 : decide (nn < 1) = true := decide_eq_true h1
                have n3 : ((mb : Int) == 0) = true := by rw [h2]; rfl
                have n4 : (mb == 0) = true := by rw [h2]; rfl
                clear h1 h2
                go_wp2_with fail
                refine (held_any _ HS7.out).mono ?_
                rintro x w8 ⟨rfl, hf8⟩
                have HF8 := Lib.hid (HF7.out.trans hf8 (fun _ _ e => e))
                clear hf8
                go_wp2_with fail
                go_ret
                exact ⟨rfl, HF8.out⟩
              · have n1 : decide (nn < 1) = false := decide_eq_false (by omega)
                have n2 : decide (4194304 < nn) = true := decide_eq_true h1
                have n3 : ((mb : Int) == 0) = true := by rw [h2]; rfl
                have n4 : (mb == 0) = true := by rw [h2]; rfl
                clear h1 h2
                go_wp2_with fail
                refine (held_any _ HS7.out).mono ?_
                rintro x w8 ⟨rfl, hf8⟩
                have HF8 := Lib.hid (HF7.out.trans hf8 (fun _ _ e => e))
                clear hf8
                go_wp2_with fail
                go_ret
                exact ⟨rfl, HF8.out⟩
              · have n1 : decide (nn < 1) = false := decide_eq_false (by omega)
                have n2 : decide (4194304 < nn) = false := decide_eq_false (by omega)
                have n3 : ((mb : Int) == nn) = true := beq_iff_eq.2 h3
                clear h1 h2 h3
                go_wp2_with fail
                refine (held_any _ HS7.out).mono ?_
                rintro x w8 ⟨rfl, hf8⟩
                have HF8 := Lib.hid (HF7.out.trans hf8 (fun _ _ e => e))
                clear hf8
                go_wp2_with fail
                go_ret
                exact ⟨rfl, HF8.out⟩
end Go.Proofs.Ytipbfmidiimicaa.Pq
