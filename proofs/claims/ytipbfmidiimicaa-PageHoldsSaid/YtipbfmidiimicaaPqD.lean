/- Write: walked. -/
import Derived.Test.YtipbfmidiimicaaPqC
namespace Go.Proofs.Ytipbfmidiimicaa.Pq
open Go Go.RowKit Go.Proofs.YtipbfmidiimicaaW.PrintWords Go.Proofs.YtipbfmidiimicaaW.PrintLast Go.Proofs.YtipbfmidiimicaaW.PrintMore
open Go.Proofs.Ytipbfmidiimicaa.Hp Go.Proofs.Ytipbfmidiimicaa.Pm
attribute [local go_sem] max2_m min2_m max_two min_two max_three min_three max_four min_four
set_option linter.unusedVariables false
set_option linter.unusedSimpArgs false
theorem nums_one (k : IntKind) (xs : List Int) : ∀ v ∈ nums k xs, v.oneCell' = true := fun v hv => by
  unfold nums at hv
  obtain ⟨x, _, rfl⟩ := List.mem_map.1 hv
  rfl
theorem nums_length (k : IntKind) (xs : List Int) : (nums k xs).length = xs.length := by unfold nums; simp
theorem reads_seg {w : World} {ad : Addr} {r : Nat} {xs : List Int} (h : ReadsInt w .u8 (some ad) r xs) (s : Nat) (hs : s ≤ r) : ∀ i v, (nums .u8 (xs.take s))[i]? = some v → w.cell? (ad.add i) = some v := fun i v hi => by
  have hi2 : i < s := by
    have h1 := (List.getElem?_eq_some_iff.1 hi).1
    rw [nums_length, List.length_take] at h1
    omega
  obtain ⟨ad2, e, hc⟩ := h.2.2 (by omega)
  injection e with e
  subst e
  rw [hc i (by omega)]
  unfold nums at hi
  rw [List.getElem?_map, List.getElem?_take_of_lt hi2, List.getElem?_eq_getElem (by rw [h.1]; omega)] at hi
  rw [List.getD_eq_getElem?_getD, List.getElem?_eq_getElem (by rw [h.1]; omega)]
  simpa using hi
/-- How much of a text lies ahead of the end of memory. -/
def cut (addr : Int) (l : List Int) : List Int := l.take (274877906944 - addr).toNat
structure Grew (w0 : World) (f f' : Int → Option Nat) (lo hi : Int) : Prop where
  old : ∀ no b, f no = some b → f' no = some b
  new : ∀ no b, f' no = some b → f no = some b ∨ (w0.heap.size ≤ b ∧ lo ≤ no ∧ no < hi)
theorem slc_block {A2 : Option Addr} {ad : Addr} {s c' : Nat} (h : (if c' = s then some ad else some (ad.add s)) = A2) : ∀ ad2, A2 = some ad2 → ad2.block = ad.block := fun ad2 e => by
  subst e
  by_cases hx : c' = s
  · rw [if_pos hx] at h; injection h with h; rw [h]
  · rw [if_neg hx] at h; injection h with h; rw [← h]; unfold Addr.add; split <;> rfl
theorem cut_of (addr : Int) (l : List Int) (j : Nat) (hj : j ≤ l.length) (hend : j = 0 ∨ addr + (j : Int) ≤ 274877906944) (h : ¬ (0 < l.length - j ∧ addr + (j : Int) < 274877906944)) : l.take j = cut addr l := by
  unfold cut
  by_cases h0 : l.length - j = 0
  · rw [List.take_of_length_le (show l.length ≤ j from by omega)]
    rcases hend with rfl | he
    · rw [List.length_eq_zero_iff.1 (by omega : l.length = 0)]; simp
    · rw [List.take_of_length_le (by omega)]
  · rcases hend with rfl | he
    · rw [show (274877906944 - addr).toNat = 0 from by simp at h; omega]
    · rw [show (274877906944 - addr).toNat = j from by omega]
theorem Grew.hi {w0 : World} {f f' : Int → Option Nat} {lo a b : Int} (h : Grew w0 f f' lo a) (hab : a ≤ b) : Grew w0 f f' lo b :=
  ⟨h.old, fun q c hq => by
    rcases h.new q c hq with h | h
    · exact .inl h
    · exact .inr ⟨h.1, h.2.1, by omega⟩⟩
theorem nums_app (k : IntKind) (xs ys : List Int) : nums k (xs ++ ys) = nums k xs ++ nums k ys := by unfold nums; simp
theorem nums_take (k : IntKind) (xs : List Int) (n : Nat) : nums k (xs.take n) = (nums k xs).take n := by unfold nums; simp [List.map_take]
theorem nums_drop (k : IntKind) (xs : List Int) (n : Nat) : nums k (xs.drop n) = (nums k xs).drop n := by unfold nums; simp [List.map_drop]
theorem take_more (l : List Int) (j s : Nat) : l.take j ++ (l.drop j).take s = l.take (j + s) := by rw [List.take_add]
theorem seg_wr (C : Int → Int) (addr : Int) (l : List Int) (j s : Nat) (no : Int) (at_ : Nat) (hj : j + s ≤ l.length) (ha : addr + (j : Int) = no * 4096 + (at_ : Int)) : wrC (wrC C addr (l.take j)) (no * 4096 + (at_ : Int)) ((l.drop j).take s) = wrC C addr (l.take (j + s)) := by
  rw [← take_more, wrC_app, List.length_take, Nat.min_eq_left (by omega), ha]
theorem seg_cells (C : Int → Int) (addr : Int) (l : List Int) (j s : Nat) (no : Int) (at_ : Nat) (hj : j + s ≤ l.length) (ha : addr + (j : Int) = no * 4096 + (at_ : Int)) (h : at_ + s ≤ 4096) : ((nums .u8 (leafC (wrC C addr (l.take j)) no)).toArray.toList.take at_ ++ nums .u8 ((l.drop j).take s) ++ (nums .u8 (leafC (wrC C addr (l.take j)) no)).toArray.toList.drop (at_ + (nums .u8 ((l.drop j).take s)).length)).toArray = (nums .u8 (leafC (wrC C addr (l.take (j + s))) no)).toArray := by
  have hs : ((l.drop j).take s).length = s := by rw [List.length_take, List.length_drop]; omega
  rw [← seg_wr C addr l j s no at_ hj ha, ← leafC_wr _ no at_ _ (by omega)]
  simp only [nums_length, nums_app, nums_take, nums_drop, List.length_take, List.length_drop, List.toList_toArray]
def AtWr (w0 : World) (B g BL BS : Nat) (n : Nat) (f : Int → Option Nat) (sz : Nat) (C : Int → Int) (al addr : Int) (l : List Int) (v1 v2 : Value) (kq : Nat) (wr : World) : Prop :=
  ∃ (j n' sz' : Nat) (f' : Int → Option Nat) (clk' : Int) (A' : Option Addr) (c' : Nat), v1 = .int .u64 (addr + (j : Int)) ∧ v2 = .slice A' (l.length - j) c' ∧ j ≤ l.length ∧ l.length - j ≤ kq ∧ l.length - j ≤ c' ∧
    ReadsInt wr .u8 A' (l.length - j) (l.drop j) ∧ Sto wr B g BL BS n' f' sz' (wrC C addr (l.take j)) clk' al ∧ n' ≤ n + 2 * j ∧ (j = 0 ∨ addr + (j : Int) ≤ 274877906944) ∧
    (sz ≤ sz' ∧ sz' ≤ sz + j) ∧ Grew w0 f f' (addr / 4096) ((addr + (j : Int) + 4095) / 4096) ∧ Fr (ownS g BL BS f) w0 wr ∧ (∀ ad, A' = some ad → 0 < l.length - j → ¬ ownS g BL BS f ad.block ∧ ad.block < w0.heap.size)
set_option maxHeartbeats 8000000 in
set_option maxRecDepth 100000 in
theorem write_any {B g BL BS n sz : Nat} {f : Int → Option Nat} {C : Int → Int} {clk al : Int} (A : Option Addr) (c : Nat) (l : List Int) (addr : Int) (ha : 0 ≤ addr ∧ addr < 18446744073709551616) (w : World) (h : Sto w B g BL BS n f sz C clk al) (hB : B ≤ w.heap.size) (hn : n < 100000000) (hl : l.length ≤ 4194304) (hc : l.length ≤ c) (hr : ReadsInt w .u8 A l.length l) (hap : ∀ ad, A = some ad → 0 < l.length → ¬ ownS g BL BS f ad.block) :
    Calls Try.prog 8 #[.pointer (some ⟨g, 0, none⟩), .int .u64 addr, .slice A l.length c] w fun e w' => e = .returned (.tuple #[]) ∧ ∃ n' sz' f' clk', Sto w' B g BL BS n' f' sz' (wrC C addr (cut addr l)) clk' al ∧ n' ≤ n + 2 * l.length ∧ (sz ≤ sz' ∧ sz' ≤ sz + l.length) ∧ Grew w f f' (addr / 4096) ((addr + (l.length : Int) + 4095) / 4096) ∧ Fr (ownS g BL BS f) w w' := by
  have HS := Lib.hid h
  have HBW := Lib.hid hB
  have HN := Lib.hid hn
  have HR := Lib.hid hr
  have HAP := Lib.hid hap
  have HL := Lib.hid (And.intro hl hc)
  obtain ⟨m, hm⟩ : ∃ m, l.length = m := ⟨_, rfl⟩
  have HM := Lib.hid hm
  rw [hm] at hl hc ⊢
  have c0 : decide ((4194304 : Int) < (m : Int)) = false := decide_eq_false (by omega)
  clear h hB hn hr hap hm
  go_enter Try.func8, Try.ntmps8
  go_wp2_with fail
  go_loopg [1, 2] m (fun kq v1 v2 wr => Hid (AtWr w B g BL BS n f sz C al addr l v1 v2 kq wr))
  case atStart =>
    refine Lib.hid ⟨0, n, sz, f, clk, A, c, by simp, by rw [HM.out]; rfl, by omega, by rw [HM.out]; omega, by rw [HM.out]; omega, by simpa [HM.out] using HR.out, ?_, by omega, .inl rfl, ⟨Nat.le_refl _, by omega⟩, ⟨fun _ _ h => h, fun _ _ h => .inl h⟩, Fr.refl _ _, fun ad e hpos => ⟨HAP.out ad e (by simpa using hpos), ?_⟩⟩
    · rw [List.take_zero, wrC_nil]
      exact HS.out
    · obtain ⟨ad2, e2, hc2⟩ := HR.out.2.2 (by omega)
      rw [e] at e2
      injection e2 with e2
      have h3 := World.block_lt_of_cell? w _ (hc2 0 (by omega))
      rw [← e2] at h3
      have h4 : (ad.add 0).block = ad.block := by unfold Addr.add; split <;> rfl
      rw [h4] at h3
      exact h3
  case round =>
    obtain ⟨j, n', sz', f', clk', A', c', rfl, rfl, hj, hjk, hjc, hrr, hs, hn', hend, hsz, hgr, hf, hab⟩ := hrel.out
    have HAB := Lib.hid hab
    have HRR := Lib.hid hrr
    have HST := Lib.hid hs
    have HF := Lib.hid hf
    have HG := Lib.hid hgr
    have HNN := Lib.hid (And.intro hn' hsz)
    rw [HM.out] at hj hjk hjc HRR ⊢
    rw [HM.out] at HAB
    clear hrel hrr hs hf hgr hn' hsz hab
    by_cases hgo : 0 < m - j ∧ addr + (j : Int) < 274877906944
    · obtain ⟨hg1, hg2⟩ := hgo
      obtain ⟨r, hrm⟩ : ∃ r, m - j = r := ⟨_, rfl⟩
      obtain ⟨a, haj⟩ : ∃ a : Nat, addr + (j : Int) = (a : Int) := ⟨(addr + (j : Int)).toNat, by omega⟩
      rw [hrm] at HRR HAB hjc hg1 ⊢
      rw [haj] at hg2 ⊢
      have u1 : decide ((0 : Int) < (r : Int)) = true := decide_eq_true (by omega)
      have u1' : decide (0 < r) = true := decide_eq_true (by omega)
      have u2 : decide ((a : Int) < 274877906944) = true := decide_eq_true (by omega)
      go_wp2_with fail
      refine (part_any (a : Int) (r : Int) (by omega) (by omega) _).mono ?_
      rintro x w1 ⟨rfl, hf1⟩
      obtain ⟨no, hno⟩ : ∃ no : Nat, a / 4096 = no := ⟨_, rfl⟩
      obtain ⟨at_, hat⟩ : ∃ at_ : Nat, a % 4096 = at_ := ⟨_, rfl⟩
      obtain ⟨s, hs⟩ : ∃ s : Nat, min r (4096 - at_) = s := ⟨_, rfl⟩
      rw [show (a : Int) % 4096 = (at_ : Int) from by omega, show min (r : Int) (4096 - (at_ : Int)) = (s : Int) from by omega]
      have t1 : (a : Int).tdiv 4096 = (no : Int) := by rw [Int.tdiv_eq_ediv_of_nonneg (by omega)]; omega
      have t2 : (a : Int) / 4096 = (no : Int) := by omega
      have HST1 := Lib.hid (HST.out.fr hf1)
      have HF1 := Lib.hid (HF.out.trans hf1 (fun _ _ h => h.elim))
      have HRR1 := Lib.hid (reads_fr HRR.out hf1 (fun _ _ _ => id))
      have q0 := HST1.out.blk.cell 0
      simp at q0
      have HNO := Lib.hid (wf64 (k := (no : Int)) (by omega) (by omega))
      have HAR := Lib.hid (show a = no * 4096 + at_ ∧ at_ < 4096 ∧ s ≤ r ∧ 0 < s ∧ at_ + s ≤ 4096 ∧ (s = r ∨ at_ + s = 4096) from by omega)
      have HZP := Lib.hid zeroP
      obtain ⟨fo, hfo⟩ : ∃ fo, f' (no : Int) = fo := ⟨_, rfl⟩
      have HFO := Lib.hid hfo
      have HJ := Lib.hid (show m - j = r ∧ addr + (j : Int) = (a : Int) ∧ r ≤ gk ∧ j ≤ m ∧ 0 < r from ⟨hrm, haj, by omega, by omega, hg1⟩)
      clear hf1 hno hat hs hfo hrm haj hg1
      obtain ⟨ad, rfl, hcl⟩ := HRR1.out.2.2 (by have := HJ.out.2.2.2.2; omega)
      have HCL := Lib.hid hcl
      have HAD := Lib.hid (HAB.out ad rfl (by have := HJ.out.2.2.2.2; omega))
      clear hcl
      have i0 : (0 : Int) ≤ (at_ : Int) := by omega
      have i1 : (at_ : Int) ≤ 4096 := by have := HAR.out; omega
      have i2 : (0 : Int) ≤ (s : Int) := by omega
      have i3 : (s : Int) ≤ (c' : Int) := by have := HAR.out; omega
      have i4 : (s : Int) ≤ (r : Int) := by have := HAR.out; omega
      cases fo with
      | none =>
        have hz48 := zero_leaf
        have HBA := Lib.hid (Blk.new w1 48 ZA)
        have HFA := Lib.hid ((Fr.refl (fun _ => False) w1).alloc (.cells ZA 48))
        have q0' := (HST1.out.blk.fr HFA.out id).cell 0
        simp at q0'
        obtain ⟨w3, hrun3, hp3, hf3⟩ := PM.put (T := 39) (w := w1.alloc (.cells ZA 48)) (HST1.out.lm.fr HFA.out id) lawK Try.underlying27 Try.underlying39 (by have := HNN.out.1; have := HN.out; have := HL.out.1; have := HJ.out.2.2.2.1; unfold maxLen; omega) (no : Int) HNO.out w1.heap.size
        have HSTX := Lib.hid (HST1.out.new (no : Int) (by have := HAR.out; omega) w1.heap.size HFO.out (by have := HBW.out; have := HF1.out.size; omega) HFA.out (Nat.le_refl _) HBA.out hp3 hf3)
        have HFX := Lib.hid ((HFA.out.mono (T := fun k => k = BL) (fun _ _ h => h.elim)).trans hf3 (fun _ _ h => h))
        obtain ⟨bx, hbx⟩ : ∃ bx, w1.heap.size = bx := ⟨_, rfl⟩
        have HBX := Lib.hid (show w.heap.size ≤ bx from by have := HF1.out.size; omega)
        have HFXO := Lib.hid (updP_same f' (no : Int) (some bx))
        rw [hbx] at hrun3 HSTX
        go_wp2_with (at_lookup; refine look_ok_list (by rfl) _ _ rfl lawK Try.underlying27 Try.underlying39 (zeroP _) HST1.out.lm (no : Int) HNO.out rfl rfl none HFO.out ?_; (try simp only [ptrV]))
        have HGX := Lib.hid (show Grew w f (updP f' (no : Int) (some bx)) (addr / 4096) ((addr + ((j + s : Nat) : Int) + 4095) / 4096) from ⟨fun q b hq => by
          by_cases e : q = (no : Int)
          · rw [e] at hq
            have := HG.out.old _ b hq
            rw [HFO.out] at this
            cases this
          · rw [updP_ne _ _ e]; exact HG.out.old q b hq, fun q b hq => by
          by_cases e : q = (no : Int)
          · rw [e, updP_same] at hq
            injection hq with hq
            have := HAR.out
            have := HJ.out
            have := HBX.out
            exact .inr (by omega)
          · rw [updP_ne _ _ e] at hq
            rcases HG.out.new q b hq with h | h
            · exact .inl h
            · have := HAR.out
              exact .inr (by omega)⟩)
        have HSX := Lib.hid (show n' + 1 ≤ n + 2 * j + 1 ∧ sz ≤ sz' + 1 ∧ sz' + 1 ≤ sz + j + 1 from by have := HNN.out; omega)
        clear hrun3 hp3 hf3 hbx q0 q0'
        have HV := Lib.hid (HSTX.out.lv (no : Int) bx HFXO.out)
        have HFW := Lib.hid (show Fr (ownS g BL BS f) w w3 from HF1.out.trans HFX.out (fun i hi e => .inr (.inl e)))
        have HRX := Lib.hid (reads_fr HRR1.out HFX.out (fun ad2 e _ e2 => by injection e with e; subst e; exact HAD.out.1 (.inr (.inl e2))))
        have HSEG := Lib.hid (show (nums .u8 ((l.drop j).take s)).length = s from by rw [nums_length, List.length_take, List.length_drop, HM.out]; have := HAR.out; have := HJ.out; omega)
        have HNB := Lib.hid (show ad.block ≠ bx from fun e => by
          rcases HGX.out.new (no : Int) bx HFXO.out with h | h
          · exact HAD.out.1 (.inr (.inr (.inr ⟨(no : Int), by rw [h, e]⟩)))
          · have := HAD.out.2; omega)
        go_region_law (refine step_copy_from rfl (.tmp 56) (.tmp 59) 29 29 rfl 5 Try.underlying29 szU8 (some ⟨bx, at_, none⟩) ad (4096 - at_) (4096 - at_) s c' (by have := HAR.out; simp [Act.eval, Act.put]; omega) (by simp [Act.eval, Act.put]) bx at_ s rfl (by simp only [Nat.min_def]; split <;> (have := HAR.out; omega)) (nums .u8 (leafC (wrC C addr (l.take j)) (no : Int))).toArray 48 (nums .u8 ((l.drop j).take s)) HV.out.1.drew HSEG.out (reads_seg HRX.out s (by have := HAR.out; omega)) (by rw [HSEG.out]; simp [leafC_len, nums_length]; have := HAR.out; omega) (nums_one _ _) ?_; intro w4 hb4 hf4)
        all_goals
          have HB4 := Lib.hid hb4
          rw [seg_cells C addr l j s (no : Int) at_ (by rw [HM.out]; have := HAR.out; have := HJ.out; omega) (by have := HAR.out; have := HJ.out; omega) (by have := HAR.out; omega)] at HB4
          have HST4 := Lib.hid (HSTX.out.wr (no : Int) bx at_ ((l.drop j).take s) HFXO.out (by rw [← nums_length .u8, HSEG.out]; have := HAR.out; omega) (by rw [seg_wr C addr l j s (no : Int) at_ (by rw [HM.out]; have := HAR.out; have := HJ.out; omega) (by have := HAR.out; have := HJ.out; omega)]; exact HB4.out) (Fr.undrew hf4))
          rw [seg_wr C addr l j s (no : Int) at_ (by rw [HM.out]; have := HAR.out; have := HJ.out; omega) (by have := HAR.out; have := HJ.out; omega)] at HST4
          have HR4 := Lib.hid (reads_fr HRX.out (Fr.undrew hf4) (fun ad2 e _ e2 => by injection e with e; subst e; exact HNB.out e2))
          have HF4 := Lib.hid (show Fr (ownS g BL BS f) w w4 from HFW.out.trans (Fr.undrew hf4) (fun i hi e => by
            rcases HGX.out.new (no : Int) bx HFXO.out with h | h
            · exact .inr (.inr (.inr ⟨_, by rw [h, e]⟩))
            · omega))
          clear hb4 hf4
          generalize Value.slice (some (if 4096 = at_ then (⟨bx, 0, none⟩ : Addr) else ⟨bx, at_, none⟩)) (4096 - at_) (4096 - at_) = vz
          go_wp2_with fail
          refine (mark_any (no : Int) (by have := HAR.out; omega) _ HST4.out (by have := HSX.out; have := HN.out; have := HJ.out; omega)).mono ?_
          rintro x w5 ⟨rfl, hs5, hf5⟩
          have HST5 := Lib.hid hs5
          have HR5 := Lib.hid (reads_fr HR4.out hf5 (fun ad2 e _ e2 => by injection e with e; subst e; exact HAD.out.1 (e2.elim .inl (fun e => .inr (.inr (.inl e))))))
          have HF5 := Lib.hid (show Fr (ownS g BL BS f) w w5 from HF4.out.trans hf5 (fun i hi e => e.elim .inl (fun e => .inr (.inr (.inl e)))))
          have HRD := Lib.hid (ReadsInt.drop_ HR5.out s (by have := HAR.out; omega) hjc)
          clear hs5 hf5
          have hwas : IntKind.u64.wrap ((a : Int) + (s : Int)) = (a : Int) + (s : Int) := IntWalk.u64_in _ (by have := HAR.out; omega)
          have hws : IntKind.u64.wrap (s : Int) = (s : Int) := IntWalk.u64_in _ (by have := HAR.out; omega)
          go_upto_region 10 with (fail)
          iterate 9 go_step
          generalize hA2 : (if c' = s then some ad else some (ad.add s)) = A2
          generalize hr2 : r - s = r2
          generalize hc2 : c' - s = c2
          have HR2 := Lib.hid (show ReadsInt w5 .u8 A2 r2 ((l.drop j).drop s) from by have h := HRD.out; simp only [Option.map_some] at h; rw [hA2, hr2] at h; exact h)
          have HA2 := Lib.hid (slc_block hA2)
          have HRC := Lib.hid (show r - s = r2 ∧ r2 ≤ c2 from ⟨hr2, by omega⟩)
          clear hA2 hr2 hc2
          go_wp2_with fail
          go_roundg (m - (j + s))
          case measure => have := HAR.out; have := HJ.out; omega
          case rel => exact Lib.hid ⟨j + s, _, _, _, _, A2, c2, by rw [show addr + ((j + s : Nat) : Int) = (a : Int) + (s : Int) from by have := HJ.out; omega], by rw [HM.out, show m - (j + s) = r2 from by have := HRC.out; have := HJ.out; omega], by rw [HM.out]; have := HAR.out; have := HJ.out; omega, by rw [HM.out]; exact Nat.le_refl _, by rw [HM.out]; have := HRC.out; have := HJ.out; omega, by
            have h := HR2.out
            rw [List.drop_drop] at h
            rw [HM.out, show m - (j + s) = r2 from by have := HRC.out; have := HJ.out; omega]
            exact h, HST5.out, by have := HSX.out; have := HAR.out; omega, .inr (by have := HAR.out; have := HJ.out; omega), by have := HSX.out; have := HAR.out; omega, HGX.out, HF5.out, fun ad2 e _ => by rw [HA2.out ad2 e]; exact HAD.out⟩
      | some b =>
        have HSTX := HST1
        have HFX := Lib.hid (Fr.refl (fun k => k = BL) w1)
        have HFXO := HFO
        have HGX := Lib.hid (show Grew w f f' (addr / 4096) ((addr + ((j + s : Nat) : Int) + 4095) / 4096) from ⟨HG.out.old, fun q b hq => by
          rcases HG.out.new q b hq with h | h
          · exact .inl h
          · have := HAR.out
            exact .inr (by omega)⟩)
        have HSX := Lib.hid (show n' ≤ n + 2 * j + 1 ∧ sz ≤ sz' ∧ sz' ≤ sz + j + 1 from by have := HNN.out; omega)
        go_wp2_with (at_lookup; refine look_ok_list (by rfl) _ _ rfl lawK Try.underlying27 Try.underlying39 (zeroP _) HST1.out.lm (no : Int) HNO.out rfl rfl (some b) HFO.out ?_; (try simp only [ptrV]))
        clear q0
        have HV := Lib.hid (HSTX.out.lv (no : Int) b HFXO.out)
        have HFW := Lib.hid (show Fr (ownS g BL BS f) w w1 from HF1.out.trans HFX.out (fun i hi e => .inr (.inl e)))
        have HRX := Lib.hid (reads_fr HRR1.out HFX.out (fun ad2 e _ e2 => by injection e with e; subst e; exact HAD.out.1 (.inr (.inl e2))))
        have HSEG := Lib.hid (show (nums .u8 ((l.drop j).take s)).length = s from by rw [nums_length, List.length_take, List.length_drop, HM.out]; have := HAR.out; have := HJ.out; omega)
        have HNB := Lib.hid (show ad.block ≠ b from fun e => by
          rcases HGX.out.new (no : Int) b HFXO.out with h | h
          · exact HAD.out.1 (.inr (.inr (.inr ⟨(no : Int), by rw [h, e]⟩)))
          · have := HAD.out.2; omega)
        go_region_law (refine step_copy_from rfl (.tmp 56) (.tmp 59) 29 29 rfl 5 Try.underlying29 szU8 (some ⟨b, at_, none⟩) ad (4096 - at_) (4096 - at_) s c' (by have := HAR.out; simp [Act.eval, Act.put]; omega) (by simp [Act.eval, Act.put]) b at_ s rfl (by simp only [Nat.min_def]; split <;> (have := HAR.out; omega)) (nums .u8 (leafC (wrC C addr (l.take j)) (no : Int))).toArray 48 (nums .u8 ((l.drop j).take s)) HV.out.1.drew HSEG.out (reads_seg HRX.out s (by have := HAR.out; omega)) (by rw [HSEG.out]; simp [leafC_len, nums_length]; have := HAR.out; omega) (nums_one _ _) ?_; intro w4 hb4 hf4)
        all_goals
          have HB4 := Lib.hid hb4
          rw [seg_cells C addr l j s (no : Int) at_ (by rw [HM.out]; have := HAR.out; have := HJ.out; omega) (by have := HAR.out; have := HJ.out; omega) (by have := HAR.out; omega)] at HB4
          have HST4 := Lib.hid (HSTX.out.wr (no : Int) b at_ ((l.drop j).take s) HFXO.out (by rw [← nums_length .u8, HSEG.out]; have := HAR.out; omega) (by rw [seg_wr C addr l j s (no : Int) at_ (by rw [HM.out]; have := HAR.out; have := HJ.out; omega) (by have := HAR.out; have := HJ.out; omega)]; exact HB4.out) (Fr.undrew hf4))
          rw [seg_wr C addr l j s (no : Int) at_ (by rw [HM.out]; have := HAR.out; have := HJ.out; omega) (by have := HAR.out; have := HJ.out; omega)] at HST4
          have HR4 := Lib.hid (reads_fr HRX.out (Fr.undrew hf4) (fun ad2 e _ e2 => by injection e with e; subst e; exact HNB.out e2))
          have HF4 := Lib.hid (show Fr (ownS g BL BS f) w w4 from HFW.out.trans (Fr.undrew hf4) (fun i hi e => by
            rcases HGX.out.new (no : Int) b HFXO.out with h | h
            · exact .inr (.inr (.inr ⟨_, by rw [h, e]⟩))
            · omega))
          clear hb4 hf4
          generalize Value.slice (some (if 4096 = at_ then (⟨b, 0, none⟩ : Addr) else ⟨b, at_, none⟩)) (4096 - at_) (4096 - at_) = vz
          go_wp2_with fail
          refine (mark_any (no : Int) (by have := HAR.out; omega) _ HST4.out (by have := HSX.out; have := HN.out; have := HJ.out; omega)).mono ?_
          rintro x w5 ⟨rfl, hs5, hf5⟩
          have HST5 := Lib.hid hs5
          have HR5 := Lib.hid (reads_fr HR4.out hf5 (fun ad2 e _ e2 => by injection e with e; subst e; exact HAD.out.1 (e2.elim .inl (fun e => .inr (.inr (.inl e))))))
          have HF5 := Lib.hid (show Fr (ownS g BL BS f) w w5 from HF4.out.trans hf5 (fun i hi e => e.elim .inl (fun e => .inr (.inr (.inl e)))))
          have HRD := Lib.hid (ReadsInt.drop_ HR5.out s (by have := HAR.out; omega) hjc)
          clear hs5 hf5
          have hwas : IntKind.u64.wrap ((a : Int) + (s : Int)) = (a : Int) + (s : Int) := IntWalk.u64_in _ (by have := HAR.out; omega)
          have hws : IntKind.u64.wrap (s : Int) = (s : Int) := IntWalk.u64_in _ (by have := HAR.out; omega)
          go_upto_region 10 with (fail)
          iterate 9 go_step
          generalize hA2 : (if c' = s then some ad else some (ad.add s)) = A2
          generalize hr2 : r - s = r2
          generalize hc2 : c' - s = c2
          have HR2 := Lib.hid (show ReadsInt w5 .u8 A2 r2 ((l.drop j).drop s) from by have h := HRD.out; simp only [Option.map_some] at h; rw [hA2, hr2] at h; exact h)
          have HA2 := Lib.hid (slc_block hA2)
          have HRC := Lib.hid (show r - s = r2 ∧ r2 ≤ c2 from ⟨hr2, by omega⟩)
          clear hA2 hr2 hc2
          go_wp2_with fail
          go_roundg (m - (j + s))
          case measure => have := HAR.out; have := HJ.out; omega
          case rel => exact Lib.hid ⟨j + s, _, _, _, _, A2, c2, by rw [show addr + ((j + s : Nat) : Int) = (a : Int) + (s : Int) from by have := HJ.out; omega], by rw [HM.out, show m - (j + s) = r2 from by have := HRC.out; have := HJ.out; omega], by rw [HM.out]; have := HAR.out; have := HJ.out; omega, by rw [HM.out]; exact Nat.le_refl _, by rw [HM.out]; have := HRC.out; have := HJ.out; omega, by
            have h := HR2.out
            rw [List.drop_drop] at h
            rw [HM.out, show m - (j + s) = r2 from by have := HRC.out; have := HJ.out; omega]
            exact h, HST5.out, by have := HSX.out; have := HAR.out; omega, .inr (by have := HAR.out; have := HJ.out; omega), by have := HSX.out; have := HAR.out; omega, HGX.out, HF5.out, fun ad2 e _ => by rw [HA2.out ad2 e]; exact HAD.out⟩
    · have HCU := Lib.hid (cut_of addr l j (by rw [HM.out]; exact hj) hend (by rw [HM.out]; exact hgo))
      by_cases h0 : 0 < m - j
      · obtain ⟨r, hrm⟩ : ∃ r, m - j = r := ⟨_, rfl⟩
        have HRM := Lib.hid hrm
        obtain ⟨a, haj⟩ : ∃ a : Int, addr + (j : Int) = a := ⟨_, rfl⟩
        have u2 : decide (a < 274877906944) = false := decide_eq_false (by have : ¬ (addr + (j : Int) < 274877906944) := fun h => hgo ⟨h0, h⟩; omega)
        rw [hrm] at h0 ⊢
        rw [haj]
        have u1 : decide ((0 : Int) < (r : Int)) = true := decide_eq_true (by omega)
        have u1' : decide (0 < r) = true := decide_eq_true h0
        clear hgo h0 hrm haj
        go_wp2_with fail
        go_end0
        exact ⟨rfl, n', sz', f', clk', by rw [← HCU.out]; exact HST.out, by have := HNN.out; omega, by have := HNN.out; omega, HG.out.hi (by omega), HF.out⟩
      · obtain ⟨r, hrm⟩ : ∃ r, m - j = r := ⟨_, rfl⟩
        have HRM := Lib.hid hrm
        obtain rfl : r = 0 := by omega
        rw [hrm]
        clear hgo h0 hrm
        go_wp2_with fail
        go_end0
        exact ⟨rfl, n', sz', f', clk', by rw [← HCU.out]; exact HST.out, by have := HNN.out; omega, by have := HNN.out; omega, HG.out.hi (by omega), HF.out⟩
end Go.Proofs.Ytipbfmidiimicaa.Pq
