/- Read: walked. -/
import Derived.Test.YtipbfmidiimicaaPqD
namespace Go.Proofs.Ytipbfmidiimicaa.Pq
open Go Go.RowKit Go.Proofs.YtipbfmidiimicaaW.PrintWords Go.Proofs.YtipbfmidiimicaaW.PrintLast Go.Proofs.YtipbfmidiimicaaW.PrintMore
open Go.Proofs.Ytipbfmidiimicaa.Hp Go.Proofs.Ytipbfmidiimicaa.Pm
attribute [local go_sem] max2_m min2_m max_two min_two max_three min_three max_four min_four
set_option linter.unusedVariables false
set_option linter.unusedSimpArgs false
theorem info8b : (Try.prog.info? 5 ).map (fun i => (i.zero, i.size, i.bytes)) = some (some (.int .u8 0), 1, 1) := by kernel_rfl
theorem info_parts {P : Program} {e : TypeId} {z : Value} {s b : Nat} (h : (P.info? e).map (fun i => (i.zero, i.size, i.bytes)) = some (some z, s, b)) : ∃ i, P.info? e = some i ∧ i.zero = some z ∧ i.size = s ∧ i.bytes = b := by
  cases hi : P.info? e with
  | none => rw [hi] at h; simp at h
  | some i => rw [hi] at h; simp at h; exact ⟨i, rfl, h.1, h.2.1, h.2.2⟩
theorem made_nums (m : Nat) : (madeCells (Value.int .u8 0).cells (m * 1)).toList = nums .u8 (List.replicate m 0) := by
  apply List.ext_getElem
  · simp [madeCells, nums]
  · intro i h1 h2
    simp [madeCells, nums, Value.cells, Nat.mod_one]
/-- A row that was just made full is its block. -/
theorem blk_made {w : World} {B g m : Nat} {xs : List Value} (h : w.ownsRow B 5 1 (.slice (some ⟨g, 0, none⟩) m m) m xs) : Blk w g 5 xs.toArray := by
  rcases h.2 with ⟨e, _⟩ | ⟨g', cap, cur, e, _, hh, hc, hm, hs, ht⟩
  · cases e
  · cases e
    have : cur.toList = xs := by
      rw [← ht, List.take_of_length_le]
      simp [hs]
    rw [← this]
    simpa [Blk] using hh
/-- The bytes that a reading of n from addr gives. -/
def rowC (C : Int → Int) (addr : Int) (n : Nat) : List Int := (List.range n).map (fun (i : Nat) => if addr + (i : Int) < 274877906944 then C (addr + (i : Int)) else 0)
theorem rowC_len (C : Int → Int) (addr : Int) (n : Nat) : (rowC C addr n).length = n := by unfold rowC; simp
theorem rowC_get (C : Int → Int) (addr : Int) (n i : Nat) (h : i < n) : (rowC C addr n)[i]? = some (if addr + (i : Int) < 274877906944 then C (addr + (i : Int)) else 0) := by
  unfold rowC
  rw [List.getElem?_map, List.getElem?_range h]
  rfl
/-- What stands in the row after j of its n bytes. -/
def halfC (C : Int → Int) (addr : Int) (n j : Nat) : List Int := rowC C addr j ++ List.replicate (n - j) 0
theorem halfC_len (C : Int → Int) (addr : Int) (n j : Nat) (h : j ≤ n) : (halfC C addr n j).length = n := by unfold halfC; rw [List.length_append, rowC_len, List.length_replicate]; omega
theorem halfC_get (C : Int → Int) (addr : Int) (n j i : Nat) (h : i < n) (hj : j ≤ n) : (halfC C addr n j)[i]? = some (if i < j ∧ addr + (i : Int) < 274877906944 then C (addr + (i : Int)) else 0) := by
  unfold halfC
  rcases Nat.lt_or_ge i j with h1 | h1
  · rw [List.getElem?_append_left (by rw [rowC_len]; exact h1), rowC_get _ _ _ _ h1]
    by_cases h2 : addr + (i : Int) < 274877906944
    · rw [if_pos h2, if_pos ⟨h1, h2⟩]
    · rw [if_neg h2, if_neg (fun h => h2 h.2)]
  · rw [List.getElem?_append_right (by rw [rowC_len]; exact h1), rowC_len, List.getElem?_replicate, if_pos (by omega), if_neg (fun h => by omega)]
theorem half_end (C : Int → Int) (addr : Int) (n j : Nat) (hj : j ≤ n) (hend : j = 0 ∨ addr + (j : Int) ≤ 274877906944) (h : ¬ (0 < n - j ∧ addr + (j : Int) < 274877906944)) : halfC C addr n j = rowC C addr n := by
  refine List.ext_getElem? fun i => ?_
  rcases Nat.lt_or_ge i n with hi | hi
  · rw [halfC_get _ _ _ _ _ hi hj, rowC_get _ _ _ _ hi]
    by_cases h1 : addr + (i : Int) < 274877906944
    · rw [if_pos h1]
      by_cases h2 : i < j
      · rw [if_pos ⟨h2, h1⟩]
      · exact absurd ⟨by omega, by omega⟩ h
    · rw [if_neg h1, if_neg (fun h => h1 h.2)]
  · rw [List.getElem?_eq_none (by rw [halfC_len _ _ _ _ hj]; exact hi), List.getElem?_eq_none (by rw [rowC_len]; exact hi)]
theorem half_none (C : Int → Int) (addr : Int) (n j s : Nat) (no : Int) (at_ : Nat) (hj : j + s ≤ n) (ha : addr + (j : Int) = no * 4096 + (at_ : Int)) (hs : at_ + s ≤ 4096) (hz : ∀ i : Nat, i < 4096 → C (no * 4096 + (i : Int)) = 0) : halfC C addr n (j + s) = halfC C addr n j := by
  refine List.ext_getElem? fun i => ?_
  rcases Nat.lt_or_ge i n with hi | hi
  · rw [halfC_get _ _ _ _ _ hi hj, halfC_get _ _ _ _ _ hi (by omega)]
    by_cases h1 : i < j
    · simp only [h1, show i < j + s from by omega]
    · by_cases h2 : i < j + s
      · rw [if_neg (show ¬ (i < j ∧ addr + (i : Int) < 274877906944) from fun h => h1 h.1)]
        split
        · have h3 := hz (at_ + (i - j)) (by omega)
          rw [show addr + (i : Int) = no * 4096 + ((at_ + (i - j) : Nat) : Int) from by omega, h3]
        · rfl
      · rw [if_neg (fun h => h2 h.1), if_neg (fun h => h1 h.1)]
  · rw [List.getElem?_eq_none (by rw [halfC_len _ _ _ _ hj]; exact hi), List.getElem?_eq_none (by rw [halfC_len _ _ _ _ (by omega)]; exact hi)]
theorem half_some (C : Int → Int) (addr : Int) (n j s : Nat) (no : Int) (at_ : Nat) (hj : j + s ≤ n) (ha : addr + (j : Int) = no * 4096 + (at_ : Int)) (hs : at_ + s ≤ 4096) (hno : no < 67108864) : (halfC C addr n j).take j ++ ((leafC C no).drop at_).take s ++ (halfC C addr n j).drop (j + s) = halfC C addr n (j + s) := by
  have hl1 : ((halfC C addr n j).take j).length = j := by rw [List.length_take, halfC_len _ _ _ _ (by omega)]; omega
  have hl2 : (((leafC C no).drop at_).take s).length = s := by rw [List.length_take, List.length_drop, leafC_len]; omega
  refine List.ext_getElem? fun i => ?_
  rcases Nat.lt_or_ge i n with hi | hi
  · rw [halfC_get _ _ _ _ _ hi hj]
    by_cases h1 : i < j
    · rw [List.append_assoc, List.getElem?_append_left (by omega), List.getElem?_take_of_lt h1, halfC_get _ _ _ _ _ hi (by omega)]
      simp only [h1, show i < j + s from by omega]
    · by_cases h2 : i < j + s
      · rw [List.getElem?_append_left (by rw [List.length_append]; omega), List.getElem?_append_right (by omega), hl1, List.getElem?_take_of_lt (by omega), List.getElem?_drop, leafC_get _ _ _ (by omega), if_pos ⟨h2, by omega⟩]
        congr 2
        omega
      · rw [List.getElem?_append_right (by rw [List.length_append]; omega), List.length_append, hl1, hl2, List.getElem?_drop, halfC_get _ _ _ _ _ (by omega) (by omega), if_neg (fun h => by omega), if_neg (fun h => h2 h.1)]
  · rw [List.getElem?_eq_none (by rw [List.length_append, List.length_append, hl1, hl2, List.length_drop, halfC_len _ _ _ _ (by omega)]; omega), List.getElem?_eq_none (by rw [halfC_len _ _ _ _ hj]; exact hi)]
theorem half_cells (C : Int → Int) (addr : Int) (n j s : Nat) (no : Int) (at_ : Nat) (hj : j + s ≤ n) (ha : addr + (j : Int) = no * 4096 + (at_ : Int)) (hs : at_ + s ≤ 4096) (hno : no < 67108864) : ((nums .u8 (halfC C addr n j)).toArray.toList.take j ++ nums .u8 (((leafC C no).drop at_).take s) ++ (nums .u8 (halfC C addr n j)).toArray.toList.drop (j + (nums .u8 (((leafC C no).drop at_).take s)).length)).toArray = (nums .u8 (halfC C addr n (j + s))).toArray := by
  have hl2 : (((leafC C no).drop at_).take s).length = s := by rw [List.length_take, List.length_drop, leafC_len]; omega
  rw [← half_some C addr n j s no at_ hj ha hs hno]
  simp only [nums_length, nums_app, nums_take, nums_drop, List.length_take, List.length_drop, List.toList_toArray]
  congr 3
  rw [leafC_len]
  omega
theorem leaf_src {w : World} {b at_ s : Nat} {C : Int → Int} {no : Int} (h : Blk w b 48 (nums .u8 (leafC C no)).toArray) : ∀ i v, (nums .u8 (((leafC C no).drop at_).take s))[i]? = some v → w.cell? ((⟨b, at_, none⟩ : Addr).add i) = some v := fun i v hi => by
  rw [show (⟨b, at_, none⟩ : Addr).add i = ⟨b, at_ + i, none⟩ from by unfold Addr.add; split <;> simp_all, h.cell]
  have hi2 := (List.getElem?_eq_some_iff.1 hi).1
  rw [nums_length, List.length_take] at hi2
  rw [nums_take, List.getElem?_take_of_lt (by omega), nums_drop, List.getElem?_drop] at hi
  simpa using hi
theorem rest_addr {A2 : Option Addr} {b j r s : Nat} (h : (if r = s then some (⟨b, j, none⟩ : Addr) else some ⟨b, j + s, none⟩) = A2) : 0 < r - s → A2 = some ⟨b, j + s, none⟩ := fun hp => by
  rw [if_neg (by omega)] at h
  exact h.symm
theorem Sto.own_lt {w : World} {B g BL BS n sz : Nat} {f : Int → Option Nat} {C : Int → Int} {clk al : Int} (h : Sto w B g BL BS n f sz C clk al) : ∀ i, ownS g BL BS f i → i < w.heap.size := fun i hi => by
  rcases hi with rfl | rfl | rfl | ⟨no, hi⟩
  · exact h.blk.lt
  · exact h.lm.lt
  · exact h.sm.lt
  · exact (h.lv no i hi).1.lt
theorem Sto.fr2 {w w' : World} {B g BL BS n sz : Nat} {f : Int → Option Nat} {C : Int → Int} {clk al : Int} {S : Nat → Prop} (h : Sto w B g BL BS n f sz C clk al) (hf : Fr S w w') (hS : ∀ i, ownS g BL BS f i → ¬ S i) : Sto w' B g BL BS n f sz C clk al :=
  ⟨h.blk.fr hf (hS g (.inl rfl)), h.lm.fr hf (hS BL (.inr (.inl rfl))), h.sm.fr hf (hS BS (.inr (.inr (.inl rfl)))), fun no b hb => ⟨(h.lv no b hb).1.fr hf (hS b (.inr (.inr (.inr ⟨no, hb⟩)))), (h.lv no b hb).2⟩, h.zero, h.inj, h.dom, h.gb, h.lb, h.sb, h.clk0, h.apart⟩
def AtRd (w0 : World) (B g BL BS : Nat) (n : Nat) (f : Int → Option Nat) (sz : Nat) (C : Int → Int) (clk al addr : Int) (b m : Nat) (v1 v8 : Value) (kq : Nat) (wr : World) : Prop :=
  ∃ (j : Nat) (A' : Option Addr), v1 = .int .u64 (addr + (j : Int)) ∧ v8 = .slice A' (m - j) (m - j) ∧ (0 < m - j → A' = some ⟨b, j, none⟩) ∧ j ≤ m ∧ m - j ≤ kq ∧
    Sto wr B g BL BS n f sz C clk al ∧ Blk wr b 5 (nums .u8 (halfC C addr m j)).toArray ∧ (j = 0 ∨ addr + (j : Int) ≤ 274877906944) ∧ Fr (fun _ => False) w0 wr
set_option maxHeartbeats 8000000 in
set_option maxRecDepth 100000 in
theorem read_any {B g BL BS n sz : Nat} {f : Int → Option Nat} {C : Int → Int} {clk al : Int} (m : Nat) (addr : Int) (ha : 0 ≤ addr ∧ addr < 18446744073709551616) (w : World) (h : Sto w B g BL BS n f sz C clk al) (hB : B ≤ w.heap.size) (hm : 1 ≤ m ∧ m ≤ 4194304) :
    Calls Try.prog 11 #[.pointer (some ⟨g, 0, none⟩), .int .u64 addr, .int .i64 (m : Int)] w fun e w' => ∃ b, e = .returned (.slice (some ⟨b, 0, none⟩) m m) ∧ w.heap.size ≤ b ∧ Blk w' b 5 (nums .u8 (rowC C addr m)).toArray ∧ Sto w' B g BL BS n f sz C clk al ∧ Fr (fun _ => False) w w' := by
  have HS := Lib.hid h
  have HBW := Lib.hid hB
  have HM := Lib.hid hm
  have c0 : decide ((m : Int) < 1) = false := decide_eq_false (by omega)
  have c1 : decide ((4194304 : Int) < (m : Int)) = false := decide_eq_false (by omega)
  obtain ⟨i8, hi8, hz8, hzs8, hzb8⟩ := info_parts info8b
  have HI8 := Lib.hid (And.intro hi8 (And.intro hz8 (And.intro hzs8 hzb8)))
  clear h hB hm hi8 hz8 hzs8 hzb8
  go_enter Try.func11, Try.ntmps11
  go_wp2_with (at_make; refine Classical.byContradiction fun hgoal => ?_)
  apply hgoal
  clear hgoal
  refine wpList_make_full _ rfl _ _ 29 rfl w.heap.size 5 i8 (.int .u8 0) 1 Try.underlying29 HI8.out.1 HI8.out.2.1 HI8.out.2.2.1 .i64 .i64 (m : Int) (m : Int) m rfl rfl rfl rfl (by rw [HI8.out.2.2.2]; have := HM.out; omega) (by have := HM.out; unfold maxLen; omega) (Nat.le_refl _) ?_
  intro wm hm gm
  rw [made_nums] at hm
  have HFM := Lib.hid ((Fr.refl (fun _ => False) w).grown gm (fun k e => by cases e))
  have HBM := Lib.hid (blk_made hm)
  have HSM := Lib.hid (HS.out.fr HFM.out)
  clear hm gm
  go_wp2_with fail
  go_loopg [1, 8] m (fun kq v1 v8 wr => Hid (AtRd w B g BL BS n f sz C clk al addr w.heap.size m v1 v8 kq wr))
  case atStart =>
    exact Lib.hid ⟨0, some ⟨w.heap.size, 0, none⟩, by simp, rfl, fun _ => rfl, by omega, by omega, HSM.out, by simpa [halfC, rowC] using HBM.out, .inl rfl, HFM.out⟩
  case round =>
    obtain ⟨j, A', rfl, rfl, hA, hj, hjk, hs, hb, hend, hf⟩ := hrel.out
    have HST := Lib.hid hs
    have HBR := Lib.hid hb
    have HF := Lib.hid hf
    clear hrel hs hb hf
    by_cases hgo : 0 < m - j ∧ addr + (j : Int) < 274877906944
    · obtain ⟨hg1, hg2⟩ := hgo
      obtain rfl := hA hg1
      obtain ⟨r, hrm⟩ : ∃ r, m - j = r := ⟨_, rfl⟩
      obtain ⟨a, haj⟩ : ∃ a : Nat, addr + (j : Int) = (a : Int) := ⟨(addr + (j : Int)).toNat, by omega⟩
      rw [hrm] at hg1 ⊢
      rw [haj] at hg2 ⊢
      have u1 : decide ((0 : Int) < (r : Int)) = true := decide_eq_true (by omega)
      have u1' : decide (0 < r) = true := decide_eq_true (by omega)
      have u2 : decide ((a : Int) < 274877906944) = true := decide_eq_true (by omega)
      have HM2 := HM
      clear hA
      go_wp2_with fail
      refine (part_any (a : Int) (r : Int) (by omega) (by have := HM.out; omega) _).mono ?_
      rintro x w1 ⟨rfl, hf1⟩
      obtain ⟨no, hno⟩ : ∃ no : Nat, a / 4096 = no := ⟨_, rfl⟩
      obtain ⟨at_, hat⟩ : ∃ at_ : Nat, a % 4096 = at_ := ⟨_, rfl⟩
      obtain ⟨s, hs⟩ : ∃ s : Nat, min r (4096 - at_) = s := ⟨_, rfl⟩
      rw [show (a : Int) % 4096 = (at_ : Int) from by omega, show min (r : Int) (4096 - (at_ : Int)) = (s : Int) from by omega]
      have t1 : (a : Int).tdiv 4096 = (no : Int) := by rw [Int.tdiv_eq_ediv_of_nonneg (by omega)]; omega
      have t2 : (a : Int) / 4096 = (no : Int) := by omega
      have HST1 := Lib.hid (HST.out.fr hf1)
      have HF1 := Lib.hid (HF.out.trans hf1 (fun _ _ h => h.elim))
      have HBR1 := Lib.hid (HBR.out.fr hf1 id)
      have q0 := HST1.out.blk.cell 0
      simp at q0
      have HNO := Lib.hid (wf64 (k := (no : Int)) (by omega) (by omega))
      have HAR := Lib.hid (show a = no * 4096 + at_ ∧ at_ < 4096 ∧ s ≤ r ∧ 0 < s ∧ at_ + s ≤ 4096 ∧ (s = r ∨ at_ + s = 4096) ∧ no < 67108864 from by omega)
      obtain ⟨fo, hfo⟩ : ∃ fo, f (no : Int) = fo := ⟨_, rfl⟩
      have HFO := Lib.hid hfo
      have HJ := Lib.hid (show m - j = r ∧ addr + (j : Int) = (a : Int) ∧ r ≤ gk ∧ j ≤ m ∧ 0 < r from ⟨hrm, haj, by omega, by omega, hg1⟩)
      clear hf1 hno hat hs hfo hrm haj hg1 hjk hj
      have i0 : (0 : Int) ≤ (at_ : Int) := by omega
      have i1 : (at_ : Int) ≤ 4096 := by have := HAR.out; omega
      have i2 : (0 : Int) ≤ (s : Int) := by omega
      have i4 : (s : Int) ≤ (r : Int) := by have := HAR.out; omega
      have hwas : IntKind.u64.wrap ((a : Int) + (s : Int)) = (a : Int) + (s : Int) := IntWalk.u64_in _ (by have := HAR.out; omega)
      have hws : IntKind.u64.wrap (s : Int) = (s : Int) := IntWalk.u64_in _ (by have := HAR.out; omega)
      cases fo with
      | none =>
        have HB5 := Lib.hid (show Blk w1 w.heap.size 5 (nums .u8 (halfC C addr m (j + s))).toArray from by
          rw [half_none C addr m j s (no : Int) at_ (by have := HAR.out; have := HJ.out; omega) (by have := HAR.out; have := HJ.out; omega) (by have := HAR.out; omega) (HST1.out.zero (no : Int) HFO.out)]
          exact HBR1.out)
        go_upto_region 10 with (at_lookup; refine look_ok_list (by rfl) _ _ rfl lawK Try.underlying27 Try.underlying39 (zeroP _) HST1.out.lm (no : Int) HNO.out rfl rfl none HFO.out ?_; (try simp only [ptrV]))
        iterate 9 go_step
        generalize hA2 : (if r = s then some (⟨w.heap.size, j, none⟩ : Addr) else some ⟨w.heap.size, j + s, none⟩) = A2
        generalize hr2 : r - s = r2
        have HR2 := Lib.hid (show 0 < r2 → A2 = some ⟨w.heap.size, j + s, none⟩ from fun hp => rest_addr hA2 (by omega))
        have HRC := Lib.hid hr2
        clear hA2 hr2
        go_wp2_with fail
        go_roundg (m - (j + s))
        case measure => have := HAR.out; have := HJ.out; omega
        case rel => exact Lib.hid ⟨j + s, A2, by rw [show addr + ((j + s : Nat) : Int) = (a : Int) + (s : Int) from by have := HJ.out; omega], by rw [show m - (j + s) = r2 from by have := HRC.out; have := HJ.out; omega], fun hp => HR2.out (by have := HRC.out; have := HJ.out; omega), by have := HAR.out; have := HJ.out; omega, Nat.le_refl _, HST1.out, HB5.out, .inr (by have := HAR.out; have := HJ.out; omega), HF1.out⟩
      | some b =>
        have HV := Lib.hid (HST1.out.lv (no : Int) b HFO.out)
        have HSEG := Lib.hid (show (nums .u8 (((leafC C (no : Int)).drop at_).take s)).length = s from by rw [nums_length, List.length_take, List.length_drop, leafC_len]; have := HAR.out; omega)
        have HLL := Lib.hid (show (nums .u8 (halfC C addr m j)).toArray.size = m from by rw [List.size_toArray, nums_length, halfC_len _ _ _ _ (by have := HJ.out; omega)])
        go_upto_region 9 with (at_lookup; refine look_ok_list (by rfl) _ _ rfl lawK Try.underlying27 Try.underlying39 (zeroP _) HST1.out.lm (no : Int) HNO.out rfl rfl (some b) HFO.out ?_; (try simp only [ptrV]))
        go_region_law (refine step_copy_from rfl (.tmp 53) (.tmp 57) 29 29 rfl 5 Try.underlying29 szU8 (some ⟨w.heap.size, j, none⟩) ⟨b, at_, none⟩ s r (4096 - at_) (4096 - at_) (by simp [Act.eval, Act.put]) (by have := HAR.out; simp [Act.eval, Act.put]; omega) w.heap.size j s rfl (by simp only [Nat.min_def]; split <;> (have := HAR.out; omega)) (nums .u8 (halfC C addr m j)).toArray 5 (nums .u8 (((leafC C (no : Int)).drop at_).take s)) HBR1.out.drew HSEG.out (leaf_src HV.out.1.drew) (by rw [HSEG.out, HLL.out]; have := HAR.out; have := HJ.out; omega) (nums_one _ _) ?_; intro w4 hb4 hf4)
        all_goals
          rw [half_cells C addr m j s (no : Int) at_ (by have := HAR.out; have := HJ.out; omega) (by have := HAR.out; have := HJ.out; omega) (by have := HAR.out; omega) (by have := HAR.out; omega)] at hb4
          have HB5 := Lib.hid hb4
          have HS5 := Lib.hid (HST1.out.fr2 (Fr.undrew hf4) (fun i hi e => by have := HS.out.own_lt i hi; omega))
          have HF5 := Lib.hid (show Fr (fun _ => False) w w4 from HF1.out.trans (Fr.undrew hf4) (fun i hi e => by omega))
          clear hb4 hf4
          generalize Value.slice (some (if 4096 = at_ then (⟨b, 0, none⟩ : Addr) else ⟨b, at_, none⟩)) (4096 - at_) (4096 - at_) = vz
          go_upto_region 10 with (fail)
          iterate 9 go_step
          generalize hA2 : (if r = s then some (⟨w.heap.size, j, none⟩ : Addr) else some ⟨w.heap.size, j + s, none⟩) = A2
          generalize hr2 : r - s = r2
          have HR2 := Lib.hid (show 0 < r2 → A2 = some ⟨w.heap.size, j + s, none⟩ from fun hp => rest_addr hA2 (by omega))
          have HRC := Lib.hid hr2
          clear hA2 hr2
          go_wp2_with fail
          go_roundg (m - (j + s))
          case measure => have := HAR.out; have := HJ.out; omega
          case rel => exact Lib.hid ⟨j + s, A2, by rw [show addr + ((j + s : Nat) : Int) = (a : Int) + (s : Int) from by have := HJ.out; omega], by rw [show m - (j + s) = r2 from by have := HRC.out; have := HJ.out; omega], fun hp => HR2.out (by have := HRC.out; have := HJ.out; omega), by have := HAR.out; have := HJ.out; omega, Nat.le_refl _, HS5.out, HB5.out, .inr (by have := HAR.out; have := HJ.out; omega), HF5.out⟩
    · have HCU := Lib.hid (half_end C addr m j hj hend hgo)
      by_cases h0 : 0 < m - j
      · obtain ⟨r, hrm⟩ : ∃ r, m - j = r := ⟨_, rfl⟩
        have HRM := Lib.hid hrm
        obtain ⟨a, haj⟩ : ∃ a : Int, addr + (j : Int) = a := ⟨_, rfl⟩
        have u2 : decide (a < 274877906944) = false := decide_eq_false (by have : ¬ (addr + (j : Int) < 274877906944) := fun h => hgo ⟨h0, h⟩; omega)
        rw [hrm] at h0 ⊢
        rw [haj]
        have u1 : decide ((0 : Int) < (r : Int)) = true := decide_eq_true (by omega)
        have u1' : decide (0 < r) = true := decide_eq_true h0
        clear hgo h0 hrm haj hA
        go_wp2_with fail
        go_ret
        exact ⟨w.heap.size, rfl, Nat.le_refl _, by rw [← HCU.out]; exact HBR.out, HST.out, HF.out⟩
      · obtain ⟨r, hrm⟩ : ∃ r, m - j = r := ⟨_, rfl⟩
        have HRM := Lib.hid hrm
        obtain rfl : r = 0 := by omega
        rw [hrm]
        clear hgo h0 hrm hA
        go_wp2_with fail
        go_ret
        exact ⟨w.heap.size, rfl, Nat.le_refl _, by rw [← HCU.out]; exact HBR.out, HST.out, HF.out⟩
end Go.Proofs.Ytipbfmidiimicaa.Pq
