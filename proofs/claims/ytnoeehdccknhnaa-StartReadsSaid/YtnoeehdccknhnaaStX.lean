/- The law StartReads, walked. -/
import Derived.Test.YtnoeehdccknhnaaStO
import Derived.Test.YtnoeehdccknhnaaBySame
import Derived.Deep.RegionHeld
import Derived.ChangeKeysEq
namespace Go.Proofs.Ytnoeehdccknhnaa.St
open Go Go.RowKit Go.Proofs.YtnoeehdccknhnaaW.PrintWords Go.Proofs.YtnoeehdccknhnaaW.PrintLast Go.Proofs.YtnoeehdccknhnaaW.PrintMore
open Go.Proofs.Ytnoeehdccknhnaa.Hp
attribute [local go_sem] max2_int min2_int max_two min_two max_three min_three max_four min_four
set_option linter.unusedVariables false
set_option linter.unusedSimpArgs false
theorem eq_pair (a b : Int) (w : World) : (Op.equalIn 10000 44 (.agg #[.int .u64 a, .int .u64 b]) (.agg #[.int .u64 a, .int .u64 b])).run Try.prog w = .ok true w := by
  obtain ⟨i, hi, hz, hs, _⟩ := info_parts info64
  rw [run_equalIn_array (w := w) 9999 _ _ Try.underlying44 hi]
  have hc : Try.prog.cellsOf 23 = 1 := by kernel_rfl
  rw [hc]
  have e1 : ∀ x w, (Op.equalIn 9999 23 (.int .u64 x) (.int .u64 x)).run Try.prog w = .ok (x == x) w := fun x w => run_equalIn_int (P := Try.prog) w 9998 23 .u64 .u64 x x Try.underlying23
  have p1 : ∀ (xs : Array Value) (j : Nat) (x : Int) (w : World), xs[j]? = some (.int .u64 x) → (part 23 xs j).run Try.prog w = .ok (.int .u64 x) w := fun xs j x w hj => by
    unfold part
    simp [run_underlying, Try.underlying23, hj, sizeOf, typeInfo, hi, hs]
  simp only [List.range, List.range.loop, Op.eqItems, Sem.run_bind]
  rw [p1 _ _ a w (by rfl)]
  simp only [Result.andThen_ok]
  rw [p1 _ _ a w (by rfl)]
  simp only [Result.andThen_ok, e1, beq_self_eq_true, Bool.not_true, Bool.false_eq_true, if_false, Sem.run_bind]
  rw [p1 _ _ b w (by rfl)]
  simp only [Result.andThen_ok]
  rw [p1 _ _ b w (by rfl)]
  simp only [Result.andThen_ok, e1, beq_self_eq_true, Bool.not_true, Bool.false_eq_true, if_false, Sem.run_pure]
theorem C_rnd {w : World} {g0 room p0 : Nat} {O rs : List Int} (h : ReadsInt w .u8 (some ⟨g0, 0, none⟩) room O) (hp : p0 + 16 ≤ room) (hr : (O.drop p0).take 16 = rs) (hl : rs.length = 16) : Kd.C (Kd.int .u8) w (some ⟨g0, p0, none⟩) rs.length rs := by
  refine Kd.C_of_reads (d := (0 : Int)) (h1 := fun _ => rfl) ⟨rfl, by omega, fun _ => ⟨_, rfl, fun j hj => ?_⟩⟩
  rw [hl] at hj
  have e := reads_head h (p0 + j) (by omega)
  have ea : (⟨g0, p0, none⟩ : Addr).add j = ⟨g0, p0 + j, none⟩ := by unfold Addr.add; split <;> simp_all
  rw [ea, e]
  congr 2
  rw [← hr, List.getD_eq_getElem?_getD, List.getD_eq_getElem?_getD, List.getElem?_take, if_pos hj, List.getElem?_drop]
theorem pair_cells {w : World} {B g n c : Nat} {AL : List Int} (h : w.ownsRow B 44 2 (.slice (some ⟨g, 0, none⟩) n c) n (nums .u64 AL)) (i : Nat) (hi : i < n) (hl : AL.length = 2 * n) : w.cell? ⟨g, i * 2, none⟩ = some (.int .u64 (AL.getD (2 * i) 0)) ∧ w.cell? ⟨g, i * 2 + 1, none⟩ = some (.int .u64 (AL.getD (2 * i + 1) 0)) := by
  have hc := h.cells (g := g) rfl
  refine ⟨?_, ?_⟩
  · have e := hc (2 * i) (.int .u64 (AL.getD (2 * i) 0)) (by rw [nums, List.getElem?_map, List.getD_eq_getElem?_getD, List.getElem?_eq_getElem (by omega)]; rfl)
    rw [add_plain] at e
    rw [Nat.mul_comm]
    exact e
  · have e := hc (2 * i + 1) (.int .u64 (AL.getD (2 * i + 1) 0)) (by rw [nums, List.getElem?_map, List.getD_eq_getElem?_getD, List.getElem?_eq_getElem (by omega)]; rfl)
    rw [add_plain] at e
    rw [Nat.mul_comm i 2]
    exact e
def AtFi (w0 : World) (at_ : Int) (na : Nat) (v14 v15 : Value) (kq : Nat) (wr : World) : Prop := ∃ i : Nat, v15 = .int .i64 i ∧ i ≤ na ∧ na - i ≤ kq ∧ v14 = .int .u64 (if i + 1 < na then 0 else at_) ∧ w0 = wr
def AtCm (w0 : World) (na : Nat) (v18 : Value) (kq : Nat) (wr : World) : Prop := ∃ j : Nat, v18 = .int .i64 j ∧ j ≤ na ∧ na - j ≤ kq ∧ Fr (fun _ => False) w0 wr
set_option maxHeartbeats 8000000 in
set_option maxRecDepth 100000 in
theorem reads_in (A1 A2 : Option Addr) (c1 c2 : Nat) (l1 l2 : List ByteArray) (entry phdr phnum phsize : Int) (seg : Value) (hseg : seg.oneCell' = true) (r0 r1 r2 r3 r4 r5 r6 r7 r8 r9 r10 r11 r12 r13 r14 r15 : Int) (w : World) (h1 : Kd.string.C w A1 l1.length l1) (h2 : Kd.string.C w A2 l2.length l2) (hc1 : l1.length ≤ c1) (hc2 : l2.length ≤ c2) (hlen : l1.length + l2.length ≤ 4611686018427387904) (hl1 : ∀ s ∈ l1, s.size ≤ 140737488351232) (hl2 : ∀ s ∈ l2, s.size ≤ 140737488351232) (hen : 0 ≤ entry ∧ entry < 18446744073709551616) (hph : 0 ≤ phdr ∧ phdr < 18446744073709551616) (hrs : By.bytes [r0, r1, r2, r3, r4, r5, r6, r7, r8, r9, r10, r11, r12, r13, r14, r15]) :
    Calls Try.prog 4 #[.slice A1 l1.length c1, .slice A2 l2.length c2, .agg #[.int .u64 entry, seg, .int .u64 phdr, .int .i64 phnum, .int .i64 phsize], .agg #[.int .u8 r0, .int .u8 r1, .int .u8 r2, .int .u8 r3, .int .u8 r4, .int .u8 r5, .int .u8 r6, .int .u8 r7, .int .u8 r8, .int .u8 r9, .int .u8 r10, .int .u8 r11, .int .u8 r12, .int .u8 r13, .int .u8 r14, .int .u8 r15]] w fun e w' => e = .returned (.bool true) ∧ Fr (fun _ => False) w w' := by
  have H1 := Lib.hid h1
  have H2 := Lib.hid h2
  have HEN := Lib.hid hen
  have HPH := Lib.hid hph
  have HRS := Lib.hid hrs
  have m1 := h1.2.1
  have m2 := h2.2.1
  have HP := Lib.hid (blk_new2 w (.cells #[.int .u8 r0, .int .u8 r1, .int .u8 r2, .int .u8 r3, .int .u8 r4, .int .u8 r5, .int .u8 r6, .int .u8 r7, .int .u8 r8, .int .u8 r9, .int .u8 r10, .int .u8 r11, .int .u8 r12, .int .u8 r13, .int .u8 r14, .int .u8 r15] 27) 26 #[.int .u64 entry, seg, .int .u64 phdr, .int .i64 phnum, .int .i64 phsize])
  have HR16 := Lib.hid (blk_new22 w (.cells #[.int .u64 entry, seg, .int .u64 phdr, .int .i64 phnum, .int .i64 phsize] 26) 27 #[.int .u8 r0, .int .u8 r1, .int .u8 r2, .int .u8 r3, .int .u8 r4, .int .u8 r5, .int .u8 r6, .int .u8 r7, .int .u8 r8, .int .u8 r9, .int .u8 r10, .int .u8 r11, .int .u8 r12, .int .u8 r13, .int .u8 r14, .int .u8 r15])
  have HF2 := Lib.hid (((Fr.refl (fun _ => False) w).alloc (.cells #[.int .u64 entry, seg, .int .u64 phdr, .int .i64 phnum, .int .i64 phsize] 26)).alloc (.cells #[.int .u8 r0, .int .u8 r1, .int .u8 r2, .int .u8 r3, .int .u8 r4, .int .u8 r5, .int .u8 r6, .int .u8 r7, .int .u8 r8, .int .u8 r9, .int .u8 r10, .int .u8 r11, .int .u8 r12, .int .u8 r13, .int .u8 r14, .int .u8 r15] 27))
  have f1 : IntKind.i64.wrap ((l1.length : Int) + (l2.length : Int)) = (l1.length : Int) + (l2.length : Int) := IntWalk.i64_in _ (by omega)
  clear h1 h2 hen hph hrs
  by_cases hbig : 300 < l1.length + l2.length
  · have d1 : decide ((300 : Int) < (l1.length : Int) + (l2.length : Int)) = true := decide_eq_true (by omega)
    have d0 : decide (300 < l1.length + l2.length) = true := decide_eq_true hbig
    go_enter Try.func4, Try.ntmps4
    go_wp2_with fail
    refine (answers_any _).mono ?_
    rintro e wd ⟨rfl, hfd⟩
    have HFD := Lib.hid (HF2.out.trans hfd (fun _ _ => id))
    clear hfd
    go_wp2_with fail
    go_ret
    exact ⟨rfl, HFD.out⟩
  · have HFI := Lib.hid (fits_texts hl1 hl2 (by omega))
    clear hl1 hl2
    have d1 : decide ((300 : Int) < (l1.length : Int) + (l2.length : Int)) = false := decide_eq_false (by omega)
    go_enter Try.func4, Try.ntmps4
    go_wp2_with fail
    obtain ⟨w2, hw2⟩ : ∃ w2, (w.alloc (.cells #[.int .u64 entry, seg, .int .u64 phdr, .int .i64 phnum, .int .i64 phsize] 26)).alloc (.cells #[.int .u8 r0, .int .u8 r1, .int .u8 r2, .int .u8 r3, .int .u8 r4, .int .u8 r5, .int .u8 r6, .int .u8 r7, .int .u8 r8, .int .u8 r9, .int .u8 r10, .int .u8 r11, .int .u8 r12, .int .u8 r13, .int .u8 r14, .int .u8 r15] 27) = w2 := ⟨_, rfl⟩
    have hs2 : w2.heap.size = w.heap.size + 1 + 1 := by rw [← hw2]; simp
    rw [hw2] at HP HR16 HF2 ⊢
    clear hw2
    have HS2 := Lib.hid hs2
    clear hs2
    have HC1 := Lib.hid (Kd.C_below H1.out (Fr.below (Below.refl _ _) HF2.out (fun _ _ => id)))
    have HC2 := Lib.hid (Kd.C_below H2.out (Fr.below (Below.refl _ _) HF2.out (fun _ _ => id)))
    refine (refused_any A1 A2 c1 c2 l1 l2 _ HC1.out HC2.out HFI.out).mono ?_
    rintro e w3 ⟨rfl, rfl⟩
    by_cases hck : chk [l1, l2] = 0
    · rw [hck]
      have HFIT := Lib.hid (chk_fits hck)
      obtain ⟨room, nw, hok⟩ := out_ok l1 l2 entry phdr phnum phsize [r0, r1, r2, r3, r4, r5, r6, r7, r8, r9, r10, r11, r12, r13, r14, r15] rfl HRS.out HFIT.out HEN.out HPH.out
      obtain ⟨q0, q1, q2, q3, q4⟩ := prog_cells HP.out
      obtain ⟨rq0, rq1, rq2, rq3, rq4, rq5, rq6, rq7, rq8, rq9, rq10, rq11, rq12, rq13, rq14, rq15⟩ := rnd_cells HR16.out
      go_wp2_with fail
      refine (build_yes A1 A2 c1 c2 l1 l2 entry phdr phnum phsize seg hseg r0 r1 r2 r3 r4 r5 r6 r7 r8 r9 r10 r11 r12 r13 r14 r15 _ HC1.out HC2.out hc1 hc2 hck HEN.out HPH.out).mono ?_
      rintro e w4 ⟨vb, rfl, hob, hfb⟩
      have HCK := Lib.hid hck
      obtain ⟨O, hO⟩ : ∃ l, outOf (baseOf l1 l2) (wordsOf (baseOf l1 l2) l1 l2 entry phdr phnum phsize) (txOf l1 ++ txOf l2 ++ [r0, r1, r2, r3, r4, r5, r6, r7, r8, r9, r10, r11, r12, r13, r14, r15]) = l := ⟨_, rfl⟩
      obtain ⟨sp, hsp⟩ : ∃ s, spOf (baseOf l1 l2) (wordsOf (baseOf l1 l2) l1 l2 entry phdr phnum phsize).length = s := ⟨_, rfl⟩
      obtain ⟨at_, hat⟩ : ∃ a, baseOf l1 l2 + ((szOf l1 + szOf l2 : Nat) : Int) = a := ⟨_, rfl⟩
      obtain ⟨WL, hWL⟩ : ∃ l, wordsOf (baseOf l1 l2) l1 l2 entry phdr phnum phsize = l := ⟨_, rfl⟩
      rw [hO, hsp, hat, hWL] at hok
      rw [hO] at hob
      rw [hsp]
      have hkey := aux_keys entry phdr phnum phsize at_
      obtain ⟨AL, hAL⟩ : ∃ l, auxL entry phdr phnum phsize at_ = l := ⟨_, rfl⟩
      have hna : 2 ≤ auxN phdr ∧ auxN phdr ≤ 12 := by unfold auxN; split <;> omega
      obtain ⟨na, hna1⟩ : ∃ n, auxN phdr = n := ⟨_, rfl⟩
      rw [hAL, hna1] at hok hkey
      rw [hna1] at hna
      have HOK := Lib.hid hok
      have HKEY := Lib.hid hkey
      have HAL := Lib.hid hAL
      have HNA := Lib.hid hna1
      obtain ⟨p0, hp1, hp2, hp3⟩ := hok.rnd
      have HP1 := Lib.hid hp1
      have HP3 := Lib.hid hp3
      have hrb := hok.rb
      have hlo := hok.len
      have hsb := hok.spb
      have hsr := hok.spr
      have h16 := hok.sp16
      obtain ⟨g0, c0, e0, hc0⟩ := Row.head hob.row (by rw [hlo]; have := hok.nwr; have := hok.nwv; omega)
      rw [hlo] at e0 hc0
      subst e0
      have hRO := Row.reads hob.row
      rw [hlo] at hRO
      have HRO := Lib.hid hRO
      have HF4 := Lib.hid (HF2.out.trans hfb (fun _ _ => id))
      have HFB := Lib.hid hfb
      clear hfb hok hkey hO hsp hat hWL hAL hna1 hRO hob hp1 hp3 q0 q1 q2 q3 q4 rq0 rq1 rq2 rq3 rq4 rq5 rq6 rq7 rq8 rq9 rq10 rq11 rq12 rq13 rq14 rq15
      go_wp2_with fail
      refine (read_ok g0 c0 O WL l1 l2 AL [r0, r1, r2, r3, r4, r5, r6, r7, r8, r9, r10, r11, r12, r13, r14, r15] sp at_ room nw na _ HRO.out hc0 HOK.out HKEY.out hna (by have e := HCK.out; rw [chk_two] at e; cases hb : badL l1; rfl; rw [hb] at e; simp at e) (by have e := HCK.out; rw [chk_two] at e; cases hb : badL l2; rfl; rw [hb, Bool.or_true] at e; simp at e) p0 ⟨HP1.out, hp2⟩).mono ?_
      rintro e w5 ⟨x, y, v, rfl, hf5, htwo, hpr⟩
      obtain ⟨Ax, cx, rfl, hcx, hCx⟩ := Kd.R_reads htwo.rx
      obtain ⟨Ay, cy, rfl, hcy, hCy⟩ := Kd.R_reads htwo.ry
      obtain ⟨gv, cv, rfl, _, _⟩ := hpr.own.form (by omega)
      have HCX0 := Lib.hid hCx
      have HCY0 := Lib.hid hCy
      have HPR0 := Lib.hid hpr.own
      have HF5 := Lib.hid hf5
      clear hf5 htwo hpr hCx hCy
      go_wp2_with fail
      obtain ⟨gT, hgT⟩ : ∃ g, w5.heap.size = g := ⟨_, rfl⟩
      have HTX := Lib.hid (Blk.new w5 40 #[.slice Ax l1.length cx, .slice Ay l2.length cy, .slice (some ⟨gv, 0, none⟩) na cv, .slice (some ⟨g0, p0, none⟩) 16 (c0 - p0)])
      have HFX := Lib.hid ((HF4.out.trans HF5.out (fun _ _ => id)).alloc (.cells #[.slice Ax l1.length cx, .slice Ay l2.length cy, .slice (some ⟨gv, 0, none⟩) na cv, .slice (some ⟨g0, p0, none⟩) 16 (c0 - p0)] 40))
      have HFY := Lib.hid ((HFB.out.trans HF5.out (fun _ _ => id)).alloc (.cells #[.slice Ax l1.length cx, .slice Ay l2.length cy, .slice (some ⟨gv, 0, none⟩) na cv, .slice (some ⟨g0, p0, none⟩) 16 (c0 - p0)] 40))
      have HCX := Lib.hid (Kd.C_alloc HCX0.out (.cells #[.slice Ax l1.length cx, .slice Ay l2.length cy, .slice (some ⟨gv, 0, none⟩) na cv, .slice (some ⟨g0, p0, none⟩) 16 (c0 - p0)] 40))
      have HCY := Lib.hid (Kd.C_alloc HCY0.out (.cells #[.slice Ax l1.length cx, .slice Ay l2.length cy, .slice (some ⟨gv, 0, none⟩) na cv, .slice (some ⟨g0, p0, none⟩) 16 (c0 - p0)] 40))
      have HCR := Lib.hid (C_rnd (reads_fr (S := fun _ => False) HRO.out (HF5.out.alloc (.cells #[.slice Ax l1.length cx, .slice Ay l2.length cy, .slice (some ⟨gv, 0, none⟩) na cv, .slice (some ⟨g0, p0, none⟩) 16 (c0 - p0)] 40)) (fun _ _ _ => id)) hp2 HP3.out rfl)
      have HPR := Lib.hid (own_fr HPR0.out ((Fr.refl (fun _ => False) w5).alloc (.cells #[.slice Ax l1.length cx, .slice Ay l2.length cy, .slice (some ⟨gv, 0, none⟩) na cv, .slice (some ⟨g0, p0, none⟩) 16 (c0 - p0)] 40)) (fun _ _ => id))
      rw [hgT] at HTX ⊢
      generalize w5.alloc (.cells #[.slice Ax l1.length cx, .slice Ay l2.length cy, .slice (some ⟨gv, 0, none⟩) na cv, .slice (some ⟨g0, p0, none⟩) 16 (c0 - p0)] 40) = wX at HTX HFX HFY HCX HCY HCR HPR ⊢
      have HC1' := Lib.hid (Kd.C_below H1.out (Fr.below (Below.refl _ _) HFX.out (fun _ _ => id)))
      have HC2' := Lib.hid (Kd.C_below H2.out (Fr.below (Below.refl _ _) HFX.out (fun _ _ => id)))
      have HPX := Lib.hid (HP.out.fr HFY.out id)
      have HRX := Lib.hid (HR16.out.fr HFY.out id)
      have HCS := Lib.hid (show Kd.C (Kd.int .u8) wX (some ⟨w.heap.size + 1, 0, none⟩) ([r0, r1, r2, r3, r4, r5, r6, r7, r8, r9, r10, r11, r12, r13, r14, r15] : List Int).length [r0, r1, r2, r3, r4, r5, r6, r7, r8, r9, r10, r11, r12, r13, r14, r15] from Kd.C_of_reads (d := (0 : Int)) (h1 := fun _ => rfl) (reads_blk (k := .u8) (xs := [r0, r1, r2, r3, r4, r5, r6, r7, r8, r9, r10, r11, r12, r13, r14, r15]) HRX.out (by show 16 ≤ _; decide)))
      clear HC1 HC2 hgT
      have HC1 := HC1'
      have HC2 := HC2'
      have g1 : sp.tmod 16 = 0 := by rw [Int.tmod_eq_emod_of_nonneg (by omega)]; exact h16
      have g2 : IntKind.u64.wrap (room : Int) = (room : Int) := IntWalk.u64_in _ (by omega)
      have g3 : IntKind.u64.wrap (sp + (room : Int)) = 274877902848 := by rw [hsr]; rfl
      clear h16 hsr hsb HC1' HC2'
      refine wp_region_noPanic ?_
      refine wp_region_held_drew (S := (fun w => Below wX.heap.size wX w)) (by kernel_rfl) ?_ (fun hHeld => ?_)
      · exact below_drew (Below.refl _ _)
      refine wpAnyH_ready (rs := [0]) (by kernel_rfl) (by simp) ?_
      refine AllReadyH.cons rfl (fun K' hK' => ?_) AllReadyH.nil
      go_simp
      go_at_call 7; refine (answers_any _).mono ?_; rintro e wd ⟨rfl, hfd⟩
      have hS1 := Fr.below hHeld hfd (fun _ _ => id); clear hfd
      clear hHeld
      refine hK'.out _ _ hS1 (fun hHeld => ?_)
      clear hK' K' hS1
      try simp only [List.getElem_toArray, List.getElem_cons_succ, List.getElem_cons_zero, Act.put, List.setIfInBounds_toArray, List.set_cons_zero, List.set_cons_succ]
      refine wpAnyH_take (i := 1) (v := ?_) rfl (by kernel_rfl) (by kernel_rfl) (by kernel_rfl) (fun _ _ _ h => h) (Or.inl ⟨by rfl, ?_⟩) (by assumption) ?_
      rotate_left
      · (intro w hSw; (try dsimp only at hSw); go_simp; first | done | (with_reducible rfl))
      try simp only [List.getElem_toArray, List.getElem_cons_succ, List.getElem_cons_zero, Act.put, List.setIfInBounds_toArray, List.set_cons_zero, List.set_cons_succ]
      refine wpAnyH_take (i := 2) (v := ?_) rfl (by kernel_rfl) (by kernel_rfl) (by kernel_rfl) (fun _ _ _ h => h) (Or.inl ⟨by rfl, ?_⟩) (by assumption) ?_
      rotate_left
      · (intro w hSw; (try dsimp only at hSw); go_simp; first | done | (with_reducible rfl))
      try simp only [List.getElem_toArray, List.getElem_cons_succ, List.getElem_cons_zero, Act.put, List.setIfInBounds_toArray, List.set_cons_zero, List.set_cons_succ]
      refine wpAnyH_take (i := 3) (v := ?_) rfl (by kernel_rfl) (by kernel_rfl) (by kernel_rfl) (fun _ _ _ h => h) (Or.inl ⟨by rfl, ?_⟩) (by assumption) ?_
      rotate_left
      · (intro w hSw; (try dsimp only at hSw); go_simp; first | done | (with_reducible rfl))
      try simp only [List.getElem_toArray, List.getElem_cons_succ, List.getElem_cons_zero, Act.put, List.setIfInBounds_toArray, List.set_cons_zero, List.set_cons_succ]
      refine wpAnyH_take (i := 4) (v := ?_) rfl (by kernel_rfl) (by kernel_rfl) (by kernel_rfl) (fun _ _ _ h => h) (Or.inl ⟨by rfl, ?_⟩) (by assumption) ?_
      rotate_left
      · (intro w hSw; (try dsimp only at hSw); go_simp; first | done | (with_reducible rfl))
      try simp only [List.getElem_toArray, List.getElem_cons_succ, List.getElem_cons_zero, Act.put, List.setIfInBounds_toArray, List.set_cons_zero, List.set_cons_succ]
      refine wpAnyH_take (i := 5) (v := ?_) rfl (by kernel_rfl) (by kernel_rfl) (by kernel_rfl) (fun _ _ _ h => h) (Or.inl ⟨by rfl, ?_⟩) (by assumption) ?_
      rotate_left
      · (intro w hSw; (try dsimp only at hSw); go_simp; first | done | (with_reducible rfl))
      try simp only [List.getElem_toArray, List.getElem_cons_succ, List.getElem_cons_zero, Act.put, List.setIfInBounds_toArray, List.set_cons_zero, List.set_cons_succ]
      refine wpAnyH_take (i := 6) (v := ?_) rfl (by kernel_rfl) (by kernel_rfl) (by kernel_rfl) (fun _ _ _ h => h) (Or.inl ⟨by rfl, ?_⟩) (by assumption) ?_
      rotate_left
      · (intro w hSw; (try dsimp only at hSw); go_simp; first | done | (with_reducible rfl))
      try simp only [List.getElem_toArray, List.getElem_cons_succ, List.getElem_cons_zero, Act.put, List.setIfInBounds_toArray, List.set_cons_zero, List.set_cons_succ]
      refine wpAnyH_take (i := 7) (v := ?_) rfl (by kernel_rfl) (by kernel_rfl) (by kernel_rfl) (fun _ _ _ h => h) (Or.inl ⟨by rfl, ?_⟩) (by assumption) ?_
      rotate_left
      · (intro w hSw; (try dsimp only at hSw); go_simp; first | done | (with_reducible rfl))
      try simp only [List.getElem_toArray, List.getElem_cons_succ, List.getElem_cons_zero, Act.put, List.setIfInBounds_toArray, List.set_cons_zero, List.set_cons_succ]
      refine wpAnyH_take (i := 8) (v := ?_) rfl (by kernel_rfl) (by kernel_rfl) (by kernel_rfl) (fun _ _ _ h => h) (Or.inl ⟨by rfl, ?_⟩) (by assumption) ?_
      rotate_left
      · (intro w hSw; (try dsimp only at hSw); go_simp; first | done | (with_reducible rfl))
      try simp only [List.getElem_toArray, List.getElem_cons_succ, List.getElem_cons_zero, Act.put, List.setIfInBounds_toArray, List.set_cons_zero, List.set_cons_succ]
      refine wpAnyH_take (i := 9) (v := ?_) rfl (by kernel_rfl) (by kernel_rfl) (by kernel_rfl) (fun _ _ _ h => h) (Or.inl ⟨by rfl, ?_⟩) (by assumption) ?_
      rotate_left
      · (intro w hSw; (try dsimp only at hSw); go_simp; first | done | (with_reducible rfl))
      try simp only [List.getElem_toArray, List.getElem_cons_succ, List.getElem_cons_zero, Act.put, List.setIfInBounds_toArray, List.set_cons_zero, List.set_cons_succ]
      refine wpAnyH_take (i := 10) (v := ?_) rfl (by kernel_rfl) (by kernel_rfl) (by kernel_rfl) (fun _ _ _ h => h) (Or.inl ⟨by rfl, ?_⟩) (by assumption) ?_
      rotate_left
      · (intro w hSw; (try dsimp only at hSw); go_simp; first | done | (with_reducible rfl))
      try simp only [List.getElem_toArray, List.getElem_cons_succ, List.getElem_cons_zero, Act.put, List.setIfInBounds_toArray, List.set_cons_zero, List.set_cons_succ]
      refine wpAnyH_take (i := 11) (v := ?_) rfl (by kernel_rfl) (by kernel_rfl) (by kernel_rfl) (fun _ _ _ h => h) (Or.inl ⟨by rfl, ?_⟩) (by assumption) ?_
      rotate_left
      · (intro w hSw; (try dsimp only at hSw); go_simp; first | done | (with_reducible rfl))
      try simp only [List.getElem_toArray, List.getElem_cons_succ, List.getElem_cons_zero, Act.put, List.setIfInBounds_toArray, List.set_cons_zero, List.set_cons_succ]
      refine wpAnyH_take (i := 12) (v := ?_) rfl (by kernel_rfl) (by kernel_rfl) (by kernel_rfl) (fun _ _ _ h => h) (Or.inl ⟨by rfl, ?_⟩) (by assumption) ?_
      rotate_left
      · (intro w hSw; (try dsimp only at hSw); go_simp; first | done | (with_reducible rfl))
      try simp only [List.getElem_toArray, List.getElem_cons_succ, List.getElem_cons_zero, Act.put, List.setIfInBounds_toArray, List.set_cons_zero, List.set_cons_succ]
      refine wpAnyH_take (i := 13) (v := ?_) rfl (by kernel_rfl) (by kernel_rfl) (by kernel_rfl) (fun _ _ _ h => h) (Or.inl ⟨by rfl, ?_⟩) (by assumption) ?_
      rotate_left
      · (intro w hSw; (try dsimp only at hSw); go_simp; first | done | (with_reducible rfl))
      try simp only [List.getElem_toArray, List.getElem_cons_succ, List.getElem_cons_zero, Act.put, List.setIfInBounds_toArray, List.set_cons_zero, List.set_cons_succ]
      refine wpAnyH_take (i := 14) (v := ?_) rfl (by kernel_rfl) (by kernel_rfl) (by kernel_rfl) (fun _ _ _ h => h) (Or.inl ⟨by rfl, ?_⟩) (by assumption) ?_
      rotate_left
      · (intro w hSw; (try dsimp only at hSw); go_simp; first | done | (with_reducible rfl))
      try simp only [List.getElem_toArray, List.getElem_cons_succ, List.getElem_cons_zero, Act.put, List.setIfInBounds_toArray, List.set_cons_zero, List.set_cons_succ]
      refine wpAnyH_take (i := 15) (v := ?_) rfl (by kernel_rfl) (by kernel_rfl) (by kernel_rfl) (fun _ _ _ h => h) (Or.inl ⟨by rfl, ?_⟩) (by assumption) ?_
      rotate_left
      · (intro w hSw; (try dsimp only at hSw); go_simp; first | done | (with_reducible rfl))
      try simp only [List.getElem_toArray, List.getElem_cons_succ, List.getElem_cons_zero, Act.put, List.setIfInBounds_toArray, List.set_cons_zero, List.set_cons_succ]
      refine wpAnyH_take (i := 16) (v := ?_) rfl (by kernel_rfl) (by kernel_rfl) (by kernel_rfl) (fun _ _ _ h => h) (Or.inl ⟨by rfl, ?_⟩) (by assumption) ?_
      rotate_left
      · (intro w hSw; (try dsimp only at hSw); go_simp; first | done | (with_reducible rfl))
      try simp only [List.getElem_toArray, List.getElem_cons_succ, List.getElem_cons_zero, Act.put, List.setIfInBounds_toArray, List.set_cons_zero, List.set_cons_succ]
      refine wpAnyH_take (i := 17) (v := ?_) rfl (by kernel_rfl) (by kernel_rfl) (by kernel_rfl) (fun _ _ _ h => h) (Or.inl ⟨by rfl, ?_⟩) (by assumption) ?_
      rotate_left
      · (intro w hSw; (try dsimp only at hSw); go_simp; first | done | (with_reducible rfl))
      try simp only [List.getElem_toArray, List.getElem_cons_succ, List.getElem_cons_zero, Act.put, List.setIfInBounds_toArray, List.set_cons_zero, List.set_cons_succ]
      refine wpAnyH_take (i := 18) (v := ?_) rfl (by kernel_rfl) (by kernel_rfl) (by kernel_rfl) (fun _ _ _ h => h) (Or.inl ⟨by rfl, ?_⟩) (by assumption) ?_
      rotate_left
      · (intro w hSw; (try dsimp only at hSw); go_simp; first | done | (with_reducible rfl))
      try simp only [List.getElem_toArray, List.getElem_cons_succ, List.getElem_cons_zero, Act.put, List.setIfInBounds_toArray, List.set_cons_zero, List.set_cons_succ]
      refine wpAnyH_take (i := 19) (v := ?_) rfl (by kernel_rfl) (by kernel_rfl) (by kernel_rfl) (fun _ _ _ h => h) (Or.inl ⟨by rfl, ?_⟩) (by assumption) ?_
      rotate_left
      · (intro w hSw; (try dsimp only at hSw); go_simp; first | done | (with_reducible rfl))
      try simp only [List.getElem_toArray, List.getElem_cons_succ, List.getElem_cons_zero, Act.put, List.setIfInBounds_toArray, List.set_cons_zero, List.set_cons_succ]
      refine wpAnyH_take (i := 20) (v := ?_) rfl (by kernel_rfl) (by kernel_rfl) (by kernel_rfl) (fun _ _ _ h => h) (Or.inl ⟨by rfl, ?_⟩) (by assumption) ?_
      rotate_left
      · (intro w hSw; (try dsimp only at hSw); go_simp; first | done | (with_reducible rfl))
      try simp only [List.getElem_toArray, List.getElem_cons_succ, List.getElem_cons_zero, Act.put, List.setIfInBounds_toArray, List.set_cons_zero, List.set_cons_succ]
      refine wpAnyH_take (i := 21) (v := ?_) rfl (by kernel_rfl) (by kernel_rfl) (by kernel_rfl) (fun _ _ _ h => h) (Or.inl ⟨by rfl, ?_⟩) (by assumption) ?_
      rotate_left
      · (intro w hSw; (try dsimp only at hSw); go_simp; first | done | (with_reducible rfl))
      try simp only [List.getElem_toArray, List.getElem_cons_succ, List.getElem_cons_zero, Act.put, List.setIfInBounds_toArray, List.set_cons_zero, List.set_cons_succ]
      refine wpAnyH_take (i := 22) (v := ?_) rfl (by kernel_rfl) (by kernel_rfl) (by kernel_rfl) (fun _ _ _ h => h) (Or.inl ⟨by rfl, ?_⟩) (by assumption) ?_
      rotate_left
      · (intro w hSw; (try dsimp only at hSw); go_simp; first | done | (with_reducible rfl))
      try simp only [List.getElem_toArray, List.getElem_cons_succ, List.getElem_cons_zero, Act.put, List.setIfInBounds_toArray, List.set_cons_zero, List.set_cons_succ]
      refine wpAnyH_take (i := 23) (v := ?_) rfl (by kernel_rfl) (by kernel_rfl) (by kernel_rfl) (fun _ _ _ h => h) (Or.inl ⟨by rfl, ?_⟩) (by assumption) ?_
      rotate_left
      · (intro w hSw; (try dsimp only at hSw); go_simp; first | done | (with_reducible rfl))
      try simp only [List.getElem_toArray, List.getElem_cons_succ, List.getElem_cons_zero, Act.put, List.setIfInBounds_toArray, List.set_cons_zero, List.set_cons_succ]
      refine wpAnyH_take (i := 24) (v := ?_) rfl (by kernel_rfl) (by kernel_rfl) (by kernel_rfl) (fun _ _ _ h => h) (Or.inl ⟨by rfl, ?_⟩) (by assumption) ?_
      rotate_left
      · (intro w hSw; (try dsimp only at hSw); go_simp; first | done | (with_reducible rfl))
      try simp only [List.getElem_toArray, List.getElem_cons_succ, List.getElem_cons_zero, Act.put, List.setIfInBounds_toArray, List.set_cons_zero, List.set_cons_succ]
      refine wpAnyH_take (i := 25) (v := .slice Ax l1.length cx) rfl (by kernel_rfl) (by kernel_rfl) (by kernel_rfl) (fun _ _ _ h => h) (Or.inl ⟨by rfl, fun w h => by have k0 := Blk.cell (show Blk w gT 40 #[.slice Ax l1.length cx, .slice Ay l2.length cy, .slice (some ⟨gv, 0, none⟩) na cv, .slice (some ⟨g0, p0, none⟩) 16 (c0 - p0)] from (h.block _ HTX.out.lt).trans HTX.out) 0; simp at k0; go_simp⟩) (by assumption) ?_
      try simp only [List.getElem_toArray, List.getElem_cons_succ, List.getElem_cons_zero, Act.put, List.setIfInBounds_toArray, List.set_cons_zero, List.set_cons_succ]
      refine wpAnyH_take (i := 26) (v := ?_) rfl (by kernel_rfl) (by kernel_rfl) (by kernel_rfl) (fun _ _ _ h => h) (Or.inl ⟨by rfl, ?_⟩) (by assumption) ?_
      rotate_left
      · (intro w hSw; (try dsimp only at hSw); go_simp; first | done | (with_reducible rfl))
      try simp only [List.getElem_toArray, List.getElem_cons_succ, List.getElem_cons_zero, Act.put, List.setIfInBounds_toArray, List.set_cons_zero, List.set_cons_succ]
      refine wpAnyH_ready (rs := [27]) (by kernel_rfl) (by simp) ?_
      refine AllReadyH.cons rfl (fun K' hK' => ?_) AllReadyH.nil
      go_simp
      go_at_call 13; refine (same_texts Ax A1 cx c1 l1 _ (Kd.C_below HCX.out hHeld) (Kd.C_below HC1.out hHeld)).mono ?_; rintro e wd ⟨rfl, hfd⟩
      have hS1 := Fr.below hHeld hfd (fun _ _ => id); clear hfd
      clear hHeld
      refine hK'.out _ _ hS1 (fun hHeld => ?_)
      clear hK' K' hS1
      try simp only [List.getElem_toArray, List.getElem_cons_succ, List.getElem_cons_zero, Act.put, List.setIfInBounds_toArray, List.set_cons_zero, List.set_cons_succ]
      refine wpAnyH_take (i := 28) (v := ?_) rfl (by kernel_rfl) (by kernel_rfl) (by kernel_rfl) (fun _ _ _ h => h) (Or.inl ⟨by rfl, ?_⟩) (by assumption) ?_
      rotate_left
      · (intro w hSw; (try dsimp only at hSw); go_simp; first | done | (with_reducible rfl))
      try simp only [List.getElem_toArray, List.getElem_cons_succ, List.getElem_cons_zero, Act.put, List.setIfInBounds_toArray, List.set_cons_zero, List.set_cons_succ]
      refine wpAnyH_take (i := 29) (v := ?_) rfl (by kernel_rfl) (by kernel_rfl) (by kernel_rfl) (fun _ _ _ h => h) (Or.inl ⟨by rfl, ?_⟩) (by assumption) ?_
      rotate_left
      · (intro w hSw; (try dsimp only at hSw); go_simp; first | done | (with_reducible rfl))
      try simp only [List.getElem_toArray, List.getElem_cons_succ, List.getElem_cons_zero, Act.put, List.setIfInBounds_toArray, List.set_cons_zero, List.set_cons_succ]
      refine wpAnyH_take (i := 30) (v := ?_) rfl (by kernel_rfl) (by kernel_rfl) (by kernel_rfl) (fun _ _ _ h => h) (Or.inl ⟨by rfl, ?_⟩) (by assumption) ?_
      rotate_left
      · (intro w hSw; (try dsimp only at hSw); go_simp; first | done | (with_reducible rfl))
      try simp only [List.getElem_toArray, List.getElem_cons_succ, List.getElem_cons_zero, Act.put, List.setIfInBounds_toArray, List.set_cons_zero, List.set_cons_succ]
      refine wpAnyH_take (i := 31) (v := ?_) rfl (by kernel_rfl) (by kernel_rfl) (by kernel_rfl) (fun _ _ _ h => h) (Or.inl ⟨by rfl, ?_⟩) (by assumption) ?_
      rotate_left
      · (intro w hSw; (try dsimp only at hSw); go_simp; first | done | (with_reducible rfl))
      try simp only [List.getElem_toArray, List.getElem_cons_succ, List.getElem_cons_zero, Act.put, List.setIfInBounds_toArray, List.set_cons_zero, List.set_cons_succ]
      refine wpAnyH_take (i := 32) (v := .slice Ay l2.length cy) rfl (by kernel_rfl) (by kernel_rfl) (by kernel_rfl) (fun _ _ _ h => h) (Or.inl ⟨by rfl, fun w h => by have k0 := Blk.cell (show Blk w gT 40 #[.slice Ax l1.length cx, .slice Ay l2.length cy, .slice (some ⟨gv, 0, none⟩) na cv, .slice (some ⟨g0, p0, none⟩) 16 (c0 - p0)] from (h.block _ HTX.out.lt).trans HTX.out) 1; simp at k0; go_simp⟩) (by assumption) ?_
      try simp only [List.getElem_toArray, List.getElem_cons_succ, List.getElem_cons_zero, Act.put, List.setIfInBounds_toArray, List.set_cons_zero, List.set_cons_succ]
      refine wpAnyH_take (i := 33) (v := ?_) rfl (by kernel_rfl) (by kernel_rfl) (by kernel_rfl) (fun _ _ _ h => h) (Or.inl ⟨by rfl, ?_⟩) (by assumption) ?_
      rotate_left
      · (intro w hSw; (try dsimp only at hSw); go_simp; first | done | (with_reducible rfl))
      try simp only [List.getElem_toArray, List.getElem_cons_succ, List.getElem_cons_zero, Act.put, List.setIfInBounds_toArray, List.set_cons_zero, List.set_cons_succ]
      refine wpAnyH_ready (rs := [34]) (by kernel_rfl) (by simp) ?_
      refine AllReadyH.cons rfl (fun K' hK' => ?_) AllReadyH.nil
      go_simp
      go_at_call 13; refine (same_texts Ay A2 cy c2 l2 _ (Kd.C_below HCY.out hHeld) (Kd.C_below HC2.out hHeld)).mono ?_; rintro e wd ⟨rfl, hfd⟩
      have hS1 := Fr.below hHeld hfd (fun _ _ => id); clear hfd
      clear hHeld
      refine hK'.out _ _ hS1 (fun hHeld => ?_)
      clear hK' K' hS1
      try simp only [List.getElem_toArray, List.getElem_cons_succ, List.getElem_cons_zero, Act.put, List.setIfInBounds_toArray, List.set_cons_zero, List.set_cons_succ]
      refine wpAnyH_take (i := 35) (v := ?_) rfl (by kernel_rfl) (by kernel_rfl) (by kernel_rfl) (fun _ _ _ h => h) (Or.inl ⟨by rfl, ?_⟩) (by assumption) ?_
      rotate_left
      · (intro w hSw; (try dsimp only at hSw); go_simp; first | done | (with_reducible rfl))
      try simp only [List.getElem_toArray, List.getElem_cons_succ, List.getElem_cons_zero, Act.put, List.setIfInBounds_toArray, List.set_cons_zero, List.set_cons_succ]
      refine wpAnyH_take (i := 36) (v := ?_) rfl (by kernel_rfl) (by kernel_rfl) (by kernel_rfl) (fun _ _ _ h => h) (Or.inl ⟨by rfl, ?_⟩) (by assumption) ?_
      rotate_left
      · (intro w hSw; (try dsimp only at hSw); go_simp; first | done | (with_reducible rfl))
      try simp only [List.getElem_toArray, List.getElem_cons_succ, List.getElem_cons_zero, Act.put, List.setIfInBounds_toArray, List.set_cons_zero, List.set_cons_succ]
      refine wpAnyH_take (i := 37) (v := ?_) rfl (by kernel_rfl) (by kernel_rfl) (by kernel_rfl) (fun _ _ _ h => h) (Or.inl ⟨by rfl, ?_⟩) (by assumption) ?_
      rotate_left
      · (intro w hSw; (try dsimp only at hSw); go_simp; first | done | (with_reducible rfl))
      try simp only [List.getElem_toArray, List.getElem_cons_succ, List.getElem_cons_zero, Act.put, List.setIfInBounds_toArray, List.set_cons_zero, List.set_cons_succ]
      refine wpAnyH_take (i := 38) (v := ?_) rfl (by kernel_rfl) (by kernel_rfl) (by kernel_rfl) (fun _ _ _ h => h) (Or.inl ⟨by rfl, ?_⟩) (by assumption) ?_
      rotate_left
      · (intro w hSw; (try dsimp only at hSw); go_simp; first | done | (with_reducible rfl))
      try simp only [List.getElem_toArray, List.getElem_cons_succ, List.getElem_cons_zero, Act.put, List.setIfInBounds_toArray, List.set_cons_zero, List.set_cons_succ]
      refine wpAnyH_take (i := 39) (v := .slice (some ⟨g0, p0, none⟩) 16 (c0 - p0)) rfl (by kernel_rfl) (by kernel_rfl) (by kernel_rfl) (fun _ _ _ h => h) (Or.inl ⟨by rfl, fun w h => by have k0 := Blk.cell (show Blk w gT 40 #[.slice Ax l1.length cx, .slice Ay l2.length cy, .slice (some ⟨gv, 0, none⟩) na cv, .slice (some ⟨g0, p0, none⟩) 16 (c0 - p0)] from (h.block _ HTX.out.lt).trans HTX.out) 3; simp at k0; go_simp⟩) (by assumption) ?_
      try simp only [List.getElem_toArray, List.getElem_cons_succ, List.getElem_cons_zero, Act.put, List.setIfInBounds_toArray, List.set_cons_zero, List.set_cons_succ]
      refine wpAnyH_take (i := 40) (v := ?_) rfl (by kernel_rfl) (by kernel_rfl) (by kernel_rfl) (fun _ _ _ h => h) (Or.inl ⟨by rfl, ?_⟩) (by assumption) ?_
      rotate_left
      · (intro w hSw; (try dsimp only at hSw); go_simp; first | done | (with_reducible rfl))
      try simp only [List.getElem_toArray, List.getElem_cons_succ, List.getElem_cons_zero, Act.put, List.setIfInBounds_toArray, List.set_cons_zero, List.set_cons_succ]
      refine wpAnyH_ready (rs := [41]) (by kernel_rfl) (by simp) ?_
      refine AllReadyH.cons rfl (fun K' hK' => ?_) AllReadyH.nil
      go_simp
      go_at_call 11; refine (By.same_any (some ⟨g0, p0, none⟩) (some ⟨w.heap.size + 1, 0, none⟩) (c0 - p0) 16 [r0, r1, r2, r3, r4, r5, r6, r7, r8, r9, r10, r11, r12, r13, r14, r15] [r0, r1, r2, r3, r4, r5, r6, r7, r8, r9, r10, r11, r12, r13, r14, r15] _ (Kd.C_below HCR.out hHeld) (Kd.C_below HCS.out hHeld)).mono ?_; rintro e wd ⟨rfl, hdd⟩; rw [show decide ([r0, r1, r2, r3, r4, r5, r6, r7, r8, r9, r10, r11, r12, r13, r14, r15] = [r0, r1, r2, r3, r4, r5, r6, r7, r8, r9, r10, r11, r12, r13, r14, r15]) = true from decide_eq_true rfl]
      have hS1 := Fr.below hHeld (Fr.drawn (S := fun _ => False) hdd) (fun _ _ => id); clear hdd
      clear hHeld
      refine hK'.out _ _ hS1 (fun hHeld => ?_)
      clear hK' K' hS1
      try simp only [List.getElem_toArray, List.getElem_cons_succ, List.getElem_cons_zero, Act.put, List.setIfInBounds_toArray, List.set_cons_zero, List.set_cons_succ]
      refine wpAnyH_take (i := 42) (v := ?_) rfl (by kernel_rfl) (by kernel_rfl) (by kernel_rfl) (fun _ _ _ h => h) (Or.inl ⟨by rfl, ?_⟩) (by assumption) ?_
      rotate_left
      · (intro w hSw; (try dsimp only at hSw); go_simp; first | done | (with_reducible rfl))
      try simp only [List.getElem_toArray, List.getElem_cons_succ, List.getElem_cons_zero, Act.put, List.setIfInBounds_toArray, List.set_cons_zero, List.set_cons_succ]
      refine wpAnyH_take (i := 43) (v := ?_) rfl (by kernel_rfl) (by kernel_rfl) (by kernel_rfl) (fun _ _ _ h => h) (Or.inl ⟨by rfl, ?_⟩) (by assumption) ?_
      rotate_left
      · (intro w hSw; (try dsimp only at hSw); go_simp; first | done | (with_reducible rfl))
      try simp only [List.getElem_toArray, List.getElem_cons_succ, List.getElem_cons_zero, Act.put, List.setIfInBounds_toArray, List.set_cons_zero, List.set_cons_succ]
      refine wpAnyH_done (by kernel_rfl) ?_ _
      refine NoPanic.normal ?_
      have HBL := Lib.hid (show Below wX.heap.size wX wd from hHeld)
      clear hHeld g1 g2 g3 HC1 HC2 HCX HCY HCR HCS
      go_wp2_with fail
      have HTD := Lib.hid (show Blk wd gT 40 #[.slice Ax l1.length cx, .slice Ay l2.length cy, .slice (some ⟨gv, 0, none⟩) na cv, .slice (some ⟨g0, p0, none⟩) 16 (c0 - p0)] from (HBL.out.block _ HTX.out.lt).trans HTX.out)
      have HPD := Lib.hid (show Blk wd w.heap.size 26 #[.int .u64 entry, seg, .int .u64 phdr, .int .i64 phnum, .int .i64 phsize] from (HBL.out.block _ HPX.out.lt).trans HPX.out)
      have HPRD := Lib.hid (own_fr HPR.out (Fr.of_below (S := fun _ => False) HBL.out) (fun _ _ => id))
      have HFD := Lib.hid (HFX.out.trans (Fr.of_below (S := fun _ => False) HBL.out) (fun _ _ => id))
      clear HTX HPX HPR HBL HFX HFY HRX HCX0 HCY0 HPR0 HF5 HF4 HFB HRO HP3 HP HR16 HF2 HS2
      have z2 := HTD.out.cell 2
      simp at z2
      go_loopg [14, 15] na (fun kq v14 v15 wr => Hid (AtFi wd at_ na v14 v15 kq wr))
      case atStart => exact Lib.hid ⟨0, rfl, by omega, by omega, by rw [if_pos (by omega)], rfl⟩
      case round =>
        obtain ⟨i, rfl, hi1, hi2, rfl, rfl⟩ := hrel.out
        clear hrel
        by_cases hi : i < na
        · have u1 : decide ((i : Int) < (na : Int)) = true := decide_eq_true (by omega)
          have u1' : decide (i < na) = true := decide_eq_true hi
          have j0 : (0 : Int) ≤ (i : Int) := by omega
          have j1 : (i : Int) < (na : Int) := by omega
          have hal := HOK.out.all_
          obtain ⟨ky, hky⟩ : ∃ z, AL.getD (2 * i) 0 = z := ⟨_, rfl⟩
          obtain ⟨vl, hvl⟩ : ∃ z, AL.getD (2 * i + 1) 0 = z := ⟨_, rfl⟩
          have hke := HKEY.out i hi
          rw [hky, hvl] at hke
          obtain ⟨y0, y1⟩ := pair_cells HPRD.out i hi (by rw [hal])
          rw [hky] at y0
          rw [hvl] at y1
          have HKE := Lib.hid hke
          clear hky hvl hke hal
          by_cases h2 : i + 2 = na
          · obtain ⟨e1, e2⟩ := HKE.out.1 h2
            subst e1
            subst e2
            go_wp2_with fail
            go_roundg (na - (i + 1))
            case measure => omega
            case rel => exact Lib.hid ⟨i + 1, by go_num, by omega, by omega, by rw [if_neg (by omega)], rfl⟩
          · have b1 : (ky == 25) = false := beq_eq_false_iff_ne.2 (HKE.out.2.2.1 h2)
            obtain ⟨q, hq⟩ : ∃ q, (if i + 1 < na then 0 else at_) = q := ⟨_, rfl⟩
            have HQ := Lib.hid hq
            rw [hq]
            clear hq
            go_wp2_with fail
            go_roundg (na - (i + 1))
            case measure => omega
            case rel =>
              refine Lib.hid ⟨i + 1, by go_num, by omega, by omega, ?_, rfl⟩
              rw [← HQ.out]
              by_cases h3 : i + 1 < na
              · rw [if_pos h3, if_pos (by omega)]
              · rw [if_neg h3, if_neg (by omega)]
        · obtain rfl : i = na := by omega
          have u1 : decide ((i : Int) < (i : Int)) = false := decide_eq_false (by omega)
          rw [if_neg (by omega)]
          obtain ⟨q0, q1, q2, q3, q4⟩ := prog_cells HPD.out
          go_wp2_with fail
          refine (raux_any entry phdr phnum phsize at_ seg hseg _).mono ?_
          rintro e w6 ⟨v6, rfl, h6, hb6⟩
          rw [HAL.out, HNA.out] at h6
          have HPD6 := Lib.hid (show Blk w6 w.heap.size 26 #[.int .u64 entry, seg, .int .u64 phdr, .int .i64 phnum, .int .i64 phsize] from (hb6.block _ HPD.out.lt).trans HPD.out)
          obtain ⟨g6, c6, rfl, _, _⟩ := h6.form (by omega)
          have H6 := Lib.hid h6
          have HB6 := Lib.hid hb6
          clear h6 hb6 q0 q1 q2 q3 q4
          obtain ⟨q0, q1, q2, q3, q4⟩ := prog_cells HPD6.out
          go_wp2_with fail
          refine (aux_any entry phdr phnum phsize at_ seg hseg _).mono ?_
          rintro e w7 ⟨v7, rfl, h7, hb7⟩
          rw [HAL.out, HNA.out] at h7
          obtain ⟨g7, c7, rfl, _, _⟩ := h7.form (by omega)
          have H7 := Lib.hid h7
          have HF67 := Lib.hid (Fr.of_below (S := fun _ => False) hb7)
          have HFD7 := Lib.hid ((Fr.of_below (S := fun _ => False) HB6.out).trans HF67.out (fun _ _ => id))
          have H6' := Lib.hid (own_fr H6.out HF67.out (fun _ _ => id))
          have H5' := Lib.hid (own_fr HPRD.out HFD7.out (fun _ _ => id))
          have HT7 := Lib.hid (HTD.out.fr HFD7.out id)
          have HF7 := Lib.hid (HFD.out.trans HFD7.out (fun _ _ => id))
          clear h7 hb7 q0 q1 q2 q3 q4 H6 HPRD HTD HFD HB6 HF67 HFD7 z2
          have z2 := HT7.out.cell 2
          simp at z2
          have b2 : ((i : Int) != (i : Int)) = false := by simp
          have b2' : (i != i) = false := by simp
          go_wp2_with fail
          go_loopg [18] i (fun kq v18 wr => Hid (AtCm w7 i v18 kq wr))
          case atStart => exact Lib.hid ⟨0, rfl, by omega, by omega, Fr.refl _ _⟩
          case round =>
            obtain ⟨j, rfl, hj1, hj2, hfr⟩ := hrel.out
            have HFR := Lib.hid hfr
            clear hrel hfr
            by_cases hj : j < i
            · have u3 : decide ((j : Int) < (i : Int)) = true := decide_eq_true (by omega)
              have u3' : decide (j < i) = true := decide_eq_true hj
              have j2 : (0 : Int) ≤ (j : Int) := by omega
              have j3 : (j : Int) < (i : Int) := by omega
              have hal := HOK.out.all_
              obtain ⟨y0, y1⟩ := pair_cells (own_fr H5'.out HFR.out (fun _ _ => id)) j hj (by rw [hal])
              obtain ⟨x0, x1⟩ := pair_cells (own_fr H6'.out HFR.out (fun _ _ => id)) j hj (by rw [hal])
              obtain ⟨t0, t1⟩ := pair_cells (own_fr H7.out HFR.out (fun _ _ => id)) j hj (by rw [hal])
              have z4 := (HT7.out.fr HFR.out id).cell 2
              simp at z4
              obtain ⟨ky, hky⟩ : ∃ z, AL.getD (2 * j) 0 = z := ⟨_, rfl⟩
              obtain ⟨vl, hvl⟩ : ∃ z, AL.getD (2 * j + 1) 0 = z := ⟨_, rfl⟩
              rw [hky] at y0 x0 t0
              rw [hvl] at y1 x1 t1
              have hq := eq_pair ky vl
              clear hky hvl hal
              go_wp2_with fail
              go_quiet (fail)
              all_goals
                go_wp2_with fail
                go_roundg (i - (j + 1))
                case measure => omega
                case rel => exact Lib.hid ⟨j + 1, by go_num, by omega, by omega, HFR.out.drewN _⟩
            · obtain rfl : j = i := by omega
              have u3 : decide ((j : Int) < (j : Int)) = false := decide_eq_false (by omega)
              go_wp2_with fail
              go_ret
              exact ⟨rfl, HF7.out.trans HFR.out (fun _ _ => id)⟩
    · have HNE := Lib.hid hck
      obtain ⟨ck, hckk⟩ : ∃ c, chk [l1, l2] = c := ⟨_, rfl⟩
      rw [hckk] at hck ⊢
      have b1 : (ck != 0) = true := by simpa using hck
      clear hckk
      go_wp2_with fail
      refine (answers_any _).mono ?_
      rintro e wd ⟨rfl, hfd⟩
      have HFD := Lib.hid (HF2.out.trans hfd (fun _ _ => id))
      clear hfd
      go_wp2_with fail
      go_ret
      exact ⟨rfl, HFD.out⟩
theorem reads_walk (a0 a1 a2 a3 : Value) (W : World) (w0 : Texts W a0) (w1 : Texts W a1) (w2 : Prg a2) (w3 : Rnd a3) : Calls Try.prog 4 #[a0, a1, a2, a3] W fun e W' => e = .returned (.bool true) ∧ Below W.heap.size W W' := by
  obtain ⟨A1, c1, l1, rfl, hc1, hn1, hC1, hs1⟩ := w0
  obtain ⟨A2, c2, l2, rfl, hc2, hn2, hC2, hs2⟩ := w1
  obtain ⟨entry, phdr, phnum, phsize, seg, rfl, hseg, hen, hph⟩ := w2
  obtain ⟨rs, hr, hb, rfl⟩ := w3
  match rs, hr, hb with
  | [r0, r1, r2, r3, r4, r5, r6, r7, r8, r9, r10, r11, r12, r13, r14, r15], _, hb => exact (reads_in A1 A2 c1 c2 l1 l2 entry phdr phnum phsize seg hseg r0 r1 r2 r3 r4 r5 r6 r7 r8 r9 r10 r11 r12 r13 r14 r15 W hC1 hC2 hc1 hc2 (by omega) hs1 hs2 hen hph hb).mono fun _ _ g => ⟨g.1, Fr.below (Below.refl _ _) g.2 (fun _ _ => id)⟩
end Go.Proofs.Ytnoeehdccknhnaa.St
