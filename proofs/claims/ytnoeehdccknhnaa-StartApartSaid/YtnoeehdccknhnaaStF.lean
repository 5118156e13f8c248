/- start.Build of what is not refused, walked. -/
import Derived.Test.YtnoeehdccknhnaaStP
namespace Go.Proofs.Ytnoeehdccknhnaa.St
open Go Go.RowKit Go.Proofs.YtnoeehdccknhnaaW.PrintWords Go.Proofs.YtnoeehdccknhnaaW.PrintLast Go.Proofs.YtnoeehdccknhnaaW.PrintMore
open Go.Proofs.Ytnoeehdccknhnaa.Hp
attribute [local go_sem] max2_int min2_int max_two min_two max_three min_three max_four min_four
set_option linter.unusedVariables false
set_option linter.unusedSimpArgs false
theorem blk_new2 (w : World) (o : Obj) (t : TypeId) (cs : Array Value) : Blk ((w.alloc (.cells cs t (0, 0))).alloc o) w.heap.size t cs := Blk.alloc (Blk.new w t cs) o
theorem blk_new22 (w : World) (o : Obj) (t : TypeId) (cs : Array Value) : Blk ((w.alloc o).alloc (.cells cs t (0, 0))) (w.heap.size + 1) t cs := by
  have h := Blk.new (w.alloc o) t cs
  rwa [show (w.alloc o).heap.size = w.heap.size + 1 by simp] at h
theorem blk_new4 (w : World) (o1 o2 o3 : Obj) (t : TypeId) (cs : Array Value) : Blk ((((w.alloc o1).alloc o2).alloc o3).alloc (.cells cs t (0, 0))) (w.heap.size + 1 + 1 + 1) t cs := by
  have h := Blk.new (((w.alloc o1).alloc o2).alloc o3) t cs
  rwa [show (((w.alloc o1).alloc o2).alloc o3).heap.size = w.heap.size + 1 + 1 + 1 by simp] at h
theorem bld_new (w : World) (B n : Nat) (x : Int) (hn : w.heap.size = n) (hB : B ≤ n) : Bld ((w.alloc (.cells #[.int .u64 x] 23)).alloc (.cells #[.slice none 0 0, .slice (some ⟨n, 0, none⟩) 1 1] 55)) B (n + 1) [] [x] (.slice none 0 0) (.slice (some ⟨n, 0, none⟩) 1 1) := by
  subst hn
  have h := Blk.new (w.alloc (.cells #[.int .u64 x] 23)) 55 #[.slice none 0 0, .slice (some ⟨w.heap.size, 0, none⟩) 1 1]
  rw [show (w.alloc (.cells #[.int .u64 x] 23)).heap.size = w.heap.size + 1 by simp] at h
  have hw : Row (w.alloc (.cells #[.int .u64 x] 23)) 23 .u64 (.slice (some ⟨w.heap.size, 0, none⟩) 1 1) [x] := own_lit w 0 23 .u64 [x] (Nat.zero_le _) (by show 1 ≤ _; decide)
  refine ⟨h, Row.nil _ _ _, hw.fr ((Fr.refl (fun _ => False) _).alloc _) (fun _ _ => id), fun b e => by simp [Value.ownBlock] at e, fun b e => ?_, by omega⟩
  have : w.heap.size = b := by simpa [Value.ownBlock] using e
  omega
/-- Behind an append to the words, and its store: the frame told closely. -/
theorem Bld.words2 {w w1 : World} {B g : Nat} {T W W1 : List Int} {tv wv wv1 : Value} (h : Bld w B g T W tv wv) (hB : B ≤ w.heap.size) (hr : Row w1 23 .u64 wv1 W1) (hf : Fr (fun b => wv.ownBlock = some b) w w1) (hat : wv1.ownBlock = wv.ownBlock ∨ ∃ b, wv1.ownBlock = some b ∧ w.heap.size ≤ b) :
    Blk w1 g 55 #[tv, wv] ∧ Bld (w1.setCell ⟨g, 1, none⟩ wv1) B g T W1 tv wv1 ∧ Fr (fun k => k = g ∨ wv.ownBlock = some k) w (w1.setCell ⟨g, 1, none⟩ wv1) := by
  obtain ⟨h1, h2, _⟩ := h.words hB hr hf hat
  have hfr : Fr (fun k => k = g) w1 (w1.setCell ⟨g, 1, none⟩ wv1) := (Fr.refl (fun k => k = g) w1).setCell (p := ⟨g, 1, none⟩) (.inl rfl) wv1
  exact ⟨h1, h2, (hf.mono (fun k _ hk => Or.inr hk)).trans hfr (fun k _ hk => Or.inl hk)⟩
/-- A row of pairs, behind a step on the builder. -/
theorem pairs_fr {w w' : World} {B B5 g : Nat} {T W : List Int} {tv wv v : Value} {n : Nat} {xs : List Value} (hd : Bld w B g T W tv wv) (h : w.ownsRow B5 44 2 v n xs) (hf : Fr (fun k => k = g ∨ wv.ownBlock = some k) w w') : w'.ownsRow B5 44 2 v n xs := by
  refine own_move h (fun k hk => ?_)
  obtain ⟨cs, hc⟩ := own_typed h k hk
  have hlt : k < w.heap.size := (Array.getElem?_eq_some_iff.1 hc).1
  refine hf.block k hlt ?_
  rintro (rfl | e)
  · have hb : w.heap[k]? = _ := hd.blk
    rw [hc] at hb
    injection hb with hb
    injection hb with _ e2
    exact absurd e2 (by decide)
  · obtain ⟨cs', hb⟩ := Row.typed hd.wd k e
    have hb' : w.heap[k]? = _ := hb
    rw [hc] at hb'
    injection hb' with hb'
    injection hb' with _ e2
    exact absurd e2 (by decide)
def AtAx (w2 : World) (g : Nat) (T W AL : List Int) (B5 n : Nat) (v5 : Value) (i : Value) (kq : Nat) (wr : World) : Prop := ∃ (k : Nat) (tv wv : Value), i = .int .i64 k ∧ k ≤ n ∧ n - k ≤ kq ∧ Bld wr w2.heap.size g T (W ++ AL.take (2 * k)) tv wv ∧ Below w2.heap.size w2 wr ∧ wr.ownsRow B5 44 2 v5 n (nums .u64 AL)
def AtPut (w0 : World) (n : Nat) (W2 : List Int) (v17 v106 : Value) (kq : Nat) (wr : World) : Prop := ∃ (k : Nat) (v : Value), 0 ≤ k ∧ k ≤ n ∧ n - k ≤ kq ∧ v17 = v ∧ v106 = .int .i64 k ∧ Own8 wr w0.heap.size v (wby (W2.take k)) ∧ Below w0.heap.size w0 wr
/-- Behind one append to the texts, and its store. -/
theorem Bld.texts1 {w w1 : World} {B g : Nat} {T W T1 : List Int} {tv wv tv1 : Value} (h : Bld w B g T W tv wv) (hB : B ≤ w.heap.size) (hr : Row w1 5 .u8 tv1 T1) (hf : Fr (fun b => tv.ownBlock = some b) w w1) (hat : tv1.ownBlock = tv.ownBlock ∨ ∃ b, tv1.ownBlock = some b ∧ w.heap.size ≤ b) :
    Blk w1 g 55 #[tv, wv] ∧ Bld (w1.setCell ⟨g, 0, none⟩ tv1) B g T1 W tv1 wv ∧ Fr (fun k => B ≤ k) w (w1.setCell ⟨g, 0, none⟩ tv1) := by
  have hb := h.blk.fr hf (fun e => h.tx.ne_blk h.blk (by decide) g e rfl)
  have hs := hb.set 0 tv1
  have hw := h.wd.fr hf (fun b e1 e2 => Row.ne h.wd h.tx (by decide) b e1 e2)
  have hfr : Fr (fun k => k = g) w1 (w1.setCell ⟨g, 0, none⟩ tv1) := (Fr.refl (fun k => k = g) w1).setCell (p := ⟨g, 0, none⟩) (.inl rfl) tv1
  refine ⟨hb, ⟨by simpa using hs, hr.fr hfr (fun b e => hr.ne_blk hb (by decide) b e), hw.fr hfr (fun b e => hw.ne_blk hb (by decide) b e), own_hat h.tb hB hat, h.wb, h.gb⟩, ?_⟩
  exact (hf.mono (fun k _ hk => h.tb k hk)).trans hfr (fun k _ hk => by subst hk; exact h.gb)
/-- A block that is known reads as its own cells. -/
theorem reads_blk {w : World} {g : Nat} {t : TypeId} {k : IntKind} {xs : List Int} (h : Blk w g t (nums k xs).toArray) (hx : xs.length ≤ 9223372036854775807) : ReadsInt w k (some ⟨g, 0, none⟩) xs.length xs := by
  refine ⟨rfl, hx, fun _ => ⟨_, rfl, fun j hj => ?_⟩⟩
  rw [add_plain]
  have e := h.cell j
  rw [e]
  simp [nums, List.getD_eq_getElem?_getD, hj]
/-- Where texts begin. -/
def baseOf (l1 l2 : List ByteArray) : Int := (274877902848 - ((szOf l1 + szOf l2 : Nat) + 16 : Int)) / 16 * 16
set_option maxHeartbeats 8000000 in
set_option maxRecDepth 100000 in
theorem build_yes (A1 A2 : Option Addr) (c1 c2 : Nat) (l1 l2 : List ByteArray) (entry phdr phnum phsize : Int) (seg : Value) (hseg : seg.oneCell' = true) (r0 r1 r2 r3 r4 r5 r6 r7 r8 r9 r10 r11 r12 r13 r14 r15 : Int) (w : World) (h1 : Kd.string.C w A1 l1.length l1) (h2 : Kd.string.C w A2 l2.length l2) (hc1 : l1.length ≤ c1) (hc2 : l2.length ≤ c2) (hn : chk [l1, l2] = 0) (hen : 0 ≤ entry ∧ entry < 18446744073709551616) (hph : 0 ≤ phdr ∧ phdr < 18446744073709551616) :
    Calls Try.prog 8 #[.slice A1 l1.length c1, .slice A2 l2.length c2, .agg #[.int .u64 entry, seg, .int .u64 phdr, .int .i64 phnum, .int .i64 phsize], .agg #[.int .u8 r0, .int .u8 r1, .int .u8 r2, .int .u8 r3, .int .u8 r4, .int .u8 r5, .int .u8 r6, .int .u8 r7, .int .u8 r8, .int .u8 r9, .int .u8 r10, .int .u8 r11, .int .u8 r12, .int .u8 r13, .int .u8 r14, .int .u8 r15]] w fun e w' => ∃ v, e = .returned (.tuple #[v, .int .u64 (spOf (baseOf l1 l2) (wordsOf (baseOf l1 l2) l1 l2 entry phdr phnum phsize).length), .int .i64 0]) ∧ Own8 w' w.heap.size v (outOf (baseOf l1 l2) (wordsOf (baseOf l1 l2) l1 l2 entry phdr phnum phsize) (txOf l1 ++ txOf l2 ++ [r0, r1, r2, r3, r4, r5, r6, r7, r8, r9, r10, r11, r12, r13, r14, r15])) ∧ Fr (fun _ => False) w w' := by
  have HEN := Lib.hid hen
  have HPH := Lib.hid hph
  have HK := Lib.hid hn
  have hfit := chk_fits hn
  have HFT := Lib.hid hfit
  have H1 := Lib.hid h1
  have H2 := Lib.hid h2
  have HF := Lib.hid (show fitsAll l1 l2 from ⟨by omega, by omega⟩)
  have HC1 := Lib.hid hc1
  have HC2 := Lib.hid hc2
  obtain ⟨n1, hn1⟩ : ∃ n, l1.length = n := ⟨_, rfl⟩
  obtain ⟨n2, hn2⟩ : ∃ n, l2.length = n := ⟨_, rfl⟩
  obtain ⟨sz, hsz⟩ : ∃ z, szOf l1 + szOf l2 = z := ⟨_, rfl⟩
  have HN1 := Lib.hid hn1
  have HN2 := Lib.hid hn2
  have HSZ := Lib.hid hsz
  rw [hn1, hn2]
  rw [hn1, hn2, hsz] at hfit
  have hw1 : IntKind.i64.wrap ((sz : Int) + 16) = (sz : Int) + 16 := IntWalk.i64_in _ (by omega)
  have hw2 : IntKind.u64.wrap ((sz : Int) + 16) = (sz : Int) + 16 := IntWalk.u64_in _ (by omega)
  have hw3 : IntKind.u64.wrap (274877902848 - ((sz : Int) + 16)) = 274877902848 - ((sz : Int) + 16) := IntWalk.u64_in _ (by omega)
  have hw4 : IntKind.u64.wrap (n1 : Int) = (n1 : Int) := IntWalk.u64_in _ (by omega)
  clear hn h1 h2 hc1 hc2 hn1 hn2 hsz hen hph
  go_enter Try.func8, Try.ntmps8
  go_wp2_with fail
  rw [← HN1.out, ← HN2.out]
  have HB := Lib.hid ((((Fr.refl (fun _ => False) w).alloc (.cells #[.int .u64 entry, seg, .int .u64 phdr, .int .i64 phnum, .int .i64 phsize] 26)).alloc (.cells #[.int .u8 r0, .int .u8 r1, .int .u8 r2, .int .u8 r3, .int .u8 r4, .int .u8 r5, .int .u8 r6, .int .u8 r7, .int .u8 r8, .int .u8 r9, .int .u8 r10, .int .u8 r11, .int .u8 r12, .int .u8 r13, .int .u8 r14, .int .u8 r15] 27)).alloc (.cells #[.slice A1 l1.length c1, .slice A2 l2.length c2] 22))
  refine (check_two (blk_new3 _ _ _ _ _) (C_fr H1.out (Fr.below (Below.refl _ _) HB.out (fun _ _ => id))) (C_fr H2.out (Fr.below (Below.refl _ _) HB.out (fun _ _ => id))) HC1.out HC2.out HF.out).mono ?_
  rintro e w1 ⟨rfl, rfl⟩
  rw [HK.out, HN1.out, HN2.out]
  go_wp2_with fail
  rw [← HN1.out, ← HN2.out]
  have HB := Lib.hid ((((Fr.refl (fun _ => False) w).alloc (.cells #[.int .u64 entry, seg, .int .u64 phdr, .int .i64 phnum, .int .i64 phsize] 26)).alloc (.cells #[.int .u8 r0, .int .u8 r1, .int .u8 r2, .int .u8 r3, .int .u8 r4, .int .u8 r5, .int .u8 r6, .int .u8 r7, .int .u8 r8, .int .u8 r9, .int .u8 r10, .int .u8 r11, .int .u8 r12, .int .u8 r13, .int .u8 r14, .int .u8 r15] 27)).alloc (.cells #[.slice A1 l1.length c1, .slice A2 l2.length c2] 22) |>.alloc (.cells #[.slice A1 l1.length c1, .slice A2 l2.length c2] 22))
  refine (total_two (blk_new4 _ _ _ _ _ _) (C_fr H1.out (Fr.below (Below.refl _ _) HB.out (fun _ _ => id))) (C_fr H2.out (Fr.below (Below.refl _ _) HB.out (fun _ _ => id))) HC1.out HC2.out HFT.out).mono ?_
  rintro e w1 ⟨rfl, rfl⟩
  rw [HSZ.out, HN1.out, HN2.out]
  go_wp2_with fail
  refine (down_any _ (by omega) (by omega) _).mono ?_
  rintro e w1 ⟨rfl, rfl⟩
  obtain ⟨bs, hbs⟩ : ∃ b, (274877902848 - ((sz : Int) + 16)) / 16 * 16 = b := ⟨_, rfl⟩
  have HBS := Lib.hid hbs
  have hb1 : bs ≤ 274877902848 := by omega
  have hb2 : 274877000000 ≤ bs := by omega
  rw [hbs]
  clear hbs
  go_wp2_with fail
  rw [← HN1.out]
  have HB2 := Lib.hid (((Fr.refl (fun _ => False) w).alloc (.cells #[.int .u64 entry, seg, .int .u64 phdr, .int .i64 phnum, .int .i64 phsize] 26)).alloc (.cells #[.int .u8 r0, .int .u8 r1, .int .u8 r2, .int .u8 r3, .int .u8 r4, .int .u8 r5, .int .u8 r6, .int .u8 r7, .int .u8 r8, .int .u8 r9, .int .u8 r10, .int .u8 r11, .int .u8 r12, .int .u8 r13, .int .u8 r14, .int .u8 r15] 27))
  have HP := Lib.hid (blk_new2 w (.cells #[.int .u8 r0, .int .u8 r1, .int .u8 r2, .int .u8 r3, .int .u8 r4, .int .u8 r5, .int .u8 r6, .int .u8 r7, .int .u8 r8, .int .u8 r9, .int .u8 r10, .int .u8 r11, .int .u8 r12, .int .u8 r13, .int .u8 r14, .int .u8 r15] 27) 26 #[.int .u64 entry, seg, .int .u64 phdr, .int .i64 phnum, .int .i64 phsize])
  obtain ⟨w2, hw2⟩ : ∃ w2, (w.alloc (.cells #[.int .u64 entry, seg, .int .u64 phdr, .int .i64 phnum, .int .i64 phsize] 26)).alloc (.cells #[.int .u8 r0, .int .u8 r1, .int .u8 r2, .int .u8 r3, .int .u8 r4, .int .u8 r5, .int .u8 r6, .int .u8 r7, .int .u8 r8, .int .u8 r9, .int .u8 r10, .int .u8 r11, .int .u8 r12, .int .u8 r13, .int .u8 r14, .int .u8 r15] 27) = w2 := ⟨_, rfl⟩
  have hs2 : w2.heap.size = w.heap.size + 1 + 1 := by rw [← hw2]; simp
  have HC1' := Lib.hid (C_fr H1.out (Fr.below (Below.refl _ _) HB2.out (fun _ _ => id)))
  have HC2' := Lib.hid (C_fr H2.out (Fr.below (Below.refl _ _) HB2.out (fun _ _ => id)))
  rw [hw2] at HB2 HC1' HC2' ⊢
  have HD := Lib.hid (bld_new ((w2.alloc (.cells #[.slice A1 l1.length c1, .slice A2 n2 c2] 22)).alloc (.cells #[.slice A1 l1.length c1, .slice A2 n2 c2] 22)) w2.heap.size (w.heap.size + 1 + 1 + 1 + 1) (l1.length : Int) (by simp [hs2]) (by omega))
  have HB6 := Lib.hid (Fr.below (Below.refl _ _) (((((Fr.refl (fun _ => False) w2).alloc (.cells #[.slice A1 l1.length c1, .slice A2 n2 c2] 22)).alloc (.cells #[.slice A1 l1.length c1, .slice A2 n2 c2] 22)).alloc (.cells #[.int .u64 (l1.length : Int)] 23)).alloc (.cells #[.slice none 0 0, .slice (some ⟨w.heap.size + 1 + 1 + 1 + 1, 0, none⟩) 1 1] 55)) (fun _ _ => id))
  refine (add_any w2 _ [] [(l1.length : Int)] _ _ bs A1 c1 l1 _ HD.out HB6.out HC1'.out HC1.out (by have := HFT.out; simp; omega) (by have := HFT.out; simp; omega) (by omega) (by omega)).mono ?_
  rintro e w3 ⟨tv1, wv1, rfl, hd3, hb3⟩
  have HD3 := Lib.hid hd3
  have HB3 := Lib.hid hb3
  clear hd3 hb3 HD HB6
  rw [HN1.out]
  go_wp2_with fail
  rw [← HN2.out]
  refine (add_any w2 _ _ _ _ _ bs A2 c2 l2 _ HD3.out HB3.out HC2'.out HC2.out (by have := HFT.out; rw [List.nil_append, txOf_length]; omega) (by have := HFT.out; simp [plOf_length]; omega) (by omega) (by omega)).mono ?_
  rintro e w4 ⟨tv2, wv2, rfl, hd4, hb4⟩
  have HB4 := Lib.hid hb4
  rw [List.nil_append] at hd4
  obtain ⟨T, hT⟩ : ∃ T, txOf l1 ++ txOf l2 = T := ⟨_, rfl⟩
  obtain ⟨W, hW⟩ : ∃ W, [(l1.length : Int)] ++ plOf bs ([] : List Int).length l1 ++ [0] ++ plOf bs (txOf l1).length l2 ++ [0] = W := ⟨_, rfl⟩
  rw [hT, hW] at hd4
  have htl : T.length = sz := by rw [← hT, List.length_append, txOf_length, txOf_length, HSZ.out]
  have hwl : W.length = l1.length + l2.length + 3 := by rw [← hW]; simp [plOf_length]; omega
  have HTL := Lib.hid htl
  have HWL := Lib.hid hwl
  have HT := Lib.hid hT
  have HW := Lib.hid hW
  obtain ⟨A3, c3, rfl, hc3, hr3⟩ := hd4.tx.slice
  obtain ⟨A4, c4, rfl, hc4, hr4⟩ := hd4.wd.slice
  have HD4 := Lib.hid hd4
  have HX := Lib.hid (show Blk w4 w.heap.size 26 #[.int .u64 entry, seg, .int .u64 phdr, .int .i64 phnum, .int .i64 phsize] from (HB4.out.block _ (by omega)).trans (show Blk w2 w.heap.size 26 #[.int .u64 entry, seg, .int .u64 phdr, .int .i64 phnum, .int .i64 phsize] from hw2 ▸ HP.out))
  obtain ⟨q0, q1, q2, q3, q4⟩ := (show _ ∧ _ ∧ _ ∧ _ ∧ _ from ⟨HX.out.cell 0, HX.out.cell 1, HX.out.cell 2, HX.out.cell 3, HX.out.cell 4⟩)
  obtain ⟨p0, p1⟩ := (show _ ∧ _ from ⟨HD4.out.blk.cell 0, HD4.out.blk.cell 1⟩)
  simp at q0 q1 q2 q3 q4 p0 p1
  rw [htl] at p0
  have hw5 : IntKind.u64.wrap (sz : Int) = (sz : Int) := IntWalk.u64_in _ (by omega)
  have hw6 : IntKind.u64.wrap (bs + (sz : Int)) = bs + (sz : Int) := IntWalk.u64_in _ (by omega)
  rw [HN2.out]
  clear hd4 hb4 hT hW htl hwl hr3 hr4 HD3 HB3
  go_wp2_with fail
  refine (aux_any entry phdr phnum phsize (bs + (sz : Int)) seg hseg _).mono ?_
  rintro e w5 ⟨v5, rfl, h5, hb5⟩
  obtain ⟨AL, hAL⟩ : ∃ l, auxL entry phdr phnum phsize (bs + (sz : Int)) = l := ⟨_, rfl⟩
  obtain ⟨na, hna⟩ : ∃ n, auxN phdr = n := ⟨_, rfl⟩
  have hna2 : 0 < na ∧ na ≤ 12 := by rw [← hna]; unfold auxN; split <;> omega
  rw [hAL, hna] at h5
  have HAL := Lib.hid hAL
  have HNA := Lib.hid hna
  have hall : AL.length = 2 * na := by have e := h5.1; simp [nums] at e; omega
  have HALL := Lib.hid hall
  have h45 := HB4.out.size
  have HF5 := Lib.hid (Fr.of_below (S := fun _ => False) hb5)
  have HD5 := Lib.hid (HD4.out.fr HF5.out)
  have HB5 := Lib.hid (Fr.below HB4.out HF5.out (fun _ _ => id))
  obtain ⟨g5, cap5, rfl, _, _⟩ := h5.form hna2.1
  have H5 := Lib.hid h5
  clear h5 hb5 hAL hna hall HD4 HB4 p0 p1 q0 q1 q2 q3 q4
  go_wp2_with fail
  go_loopg [61] na (fun kq v61 wr => Hid (AtAx w2 (w.heap.size + 1 + 1 + 1 + 1 + 1) T W AL w4.heap.size na (.slice (some ⟨g5, 0, none⟩) na cap5) v61 kq wr))
  case atStart => exact Lib.hid ⟨0, _, _, rfl, by omega, by omega, by simpa using HD5.out, HB5.out, H5.out⟩
  case round =>
    obtain ⟨k, tv, wv, rfl, hk1, hk2, hd, hb, h5⟩ := hrel.out
    have HD := Lib.hid hd
    have HB := Lib.hid hb
    have HP5 := Lib.hid h5
    clear hrel hd hb h5 HD5 HB5 H5
    by_cases hk : k < na
    · have u1 : decide ((k : Int) < (na : Int)) = true := decide_eq_true (by omega)
      have u1' : decide (k < na) = true := decide_eq_true hk
      have j0 : (0 : Int) ≤ (k : Int) := by omega
      have j1 : (k : Int) < (na : Int) := by omega
      have hl0 : 2 * k < AL.length := by rw [HALL.out]; omega
      have hl1 : 2 * k + 1 < AL.length := by rw [HALL.out]; omega
      obtain ⟨a, ha⟩ : ∃ a, AL[2 * k] = a := ⟨_, rfl⟩
      obtain ⟨b, hb⟩ : ∃ b, AL[2 * k + 1] = b := ⟨_, rfl⟩
      have hc := HP5.out.cells (g := g5) rfl
      have y0 : wr.cell? ⟨g5, k * 2, none⟩ = some (.int .u64 a) := by
        have e := hc (2 * k) (.int .u64 a) (by simp [nums, List.getElem?_eq_getElem hl0, ha])
        rw [add_plain] at e
        rw [Nat.mul_comm]
        exact e
      have y1 : wr.cell? ⟨g5, k * 2 + 1, none⟩ = some (.int .u64 b) := by
        have e := hc (2 * k + 1) (.int .u64 b) (by simp [nums, List.getElem?_eq_getElem hl1, hb])
        rw [add_plain] at e
        rw [Nat.mul_comm k 2]
        exact e
      have HWN := Lib.hid (show W ++ AL.take (2 * (k + 1)) = W ++ AL.take (2 * k) ++ [a, b] from by
        rw [show 2 * (k + 1) = 2 * k + 1 + 1 by omega, List.take_add_one, List.take_add_one, List.getElem?_eq_getElem hl0, List.getElem?_eq_getElem hl1, ha, hb]
        simp)
      have hlw : (W ++ AL.take (2 * k)).length ≤ 1000 := by
        have e1 := HWL.out
        have e2 := HFT.out
        rw [List.length_append, List.length_take]
        omega
      go_wp2_with fail
      have HDa := Lib.hid (HD.out.fr ((Fr.refl (fun _ => False) wr).alloc (.cells #[.int .u64 a, .int .u64 b] 44)))
      have HBa := Lib.hid (Fr.below HB.out ((Fr.refl (fun _ => False) wr).alloc (.cells #[.int .u64 a, .int .u64 b] 44)) (fun _ _ => id))
      have HPa := Lib.hid (HP5.out.alloc (.cells #[.int .u64 a, .int .u64 b] 44))
      have HXa := Lib.hid (Blk.new wr 44 #[.int .u64 a, .int .u64 b])
      clear HD HB HP5 hc y0 y1 ha hb
      generalize wr.alloc (.cells #[.int .u64 a, .int .u64 b] 44) = wA at HDa HBa HPa HXa ⊢
      generalize wr.heap.size = bA at HXa ⊢
      obtain ⟨W1, hW1⟩ : ∃ W1, W ++ AL.take (2 * k) = W1 := ⟨_, rfl⟩
      rw [hW1] at HDa HWN hlw
      obtain ⟨wl, hwl⟩ : ∃ wl, W1.length = wl := ⟨_, rfl⟩
      have HWL1 := Lib.hid hwl
      obtain ⟨A7, c7, rfl, hc7, hr7⟩ := HDa.out.wd.slice
      rw [hwl] at HDa hc7 hlw
      clear hW1 hwl hr7
      have HDB := Lib.hid (HDa.out.fr ((Fr.refl (fun _ => False) wA).alloc (.cells #[.int .u64 a, .int .u64 b] 23)))
      have HBB := Lib.hid (Fr.below HBa.out ((Fr.refl (fun _ => False) wA).alloc (.cells #[.int .u64 a, .int .u64 b] 23)) (fun _ _ => id))
      have HPB := Lib.hid (HPa.out.alloc (.cells #[.int .u64 a, .int .u64 b] 23))
      have HXB := Lib.hid (HXa.out.fr ((Fr.refl (fun _ => False) wA).alloc (.cells #[.int .u64 a, .int .u64 b] 23)) id)
      have HRE := Lib.hid (reads_new wA .u64 23 (0, 0) [a, b] (by show 2 ≤ _; decide))
      have hszB := HBB.out.size
      obtain ⟨z0, z1, p1, f1⟩ := (show _ ∧ _ ∧ _ ∧ _ from ⟨HXa.out.cell 0, HXa.out.cell 1, HDa.out.blk.cell 1, HDa.out.blk.frozen 1⟩)
      obtain ⟨z0', z1', p1', f1'⟩ := (show _ ∧ _ ∧ _ ∧ _ from ⟨HXB.out.cell 0, HXB.out.cell 1, HDB.out.blk.cell 1, HDB.out.blk.frozen 1⟩)
      simp at z0 z1 p1 z0' z1' p1'
      clear HDa HBa HPa HXa HXB
      go_region_law (refine row_app_step rfl (.tmp 69) (.tmp 74) 53 23 .u64 8 rfl Try.underlying53 info64 (by decide) (.slice A7 wl c7) W1 [a, b] (some ⟨wA.heap.size, 0, none⟩) 2 2 rfl rfl HDB.out.wd HRE.out (by have e := HWL1.out; omega) ?_; intro v1 w1 ho1 hf1 hat1; have HA := Lib.hid (Bld.words2 HDB.out hszB ho1 hf1.undrew hat1); obtain ⟨A8, c8, e8, _, _⟩ := ho1.slice; rw [show (W1 ++ [a, b]).length = wl + 2 from by rw [List.length_append, HWL1.out]; rfl] at e8; subst e8; have k1' := HA.out.1.cell 1; have f1'' := HA.out.1.frozen 1; simp at k1'; clear hf1 ho1 hat1)
      all_goals
        go_wp2_with fail
        go_roundg (na - (k + 1))
        case measure => omega
        case rel => exact Lib.hid ⟨k + 1, _, _, by go_num, by omega, by omega, by rw [HWN.out]; exact HA.out.2.1, Fr.below HBB.out HA.out.2.2 (fun i hi e => e.elim (fun e => by have e1 := HDB.out.gb; omega) (fun e => by have e2 := HDB.out.wb i e; omega)), pairs_fr HDB.out HPB.out HA.out.2.2⟩
    · obtain rfl : k = na := by omega
      have e0 : AL.take (2 * k) = AL := List.take_of_length_le (by rw [HALL.out]; exact Nat.le_refl _)
      rw [e0] at HD
      have u1 : decide ((k : Int) < (k : Int)) = false := decide_eq_false (by omega)
      have HR16 := Lib.hid (show Blk wr (w.heap.size + 1) 27 #[.int .u8 r0, .int .u8 r1, .int .u8 r2, .int .u8 r3, .int .u8 r4, .int .u8 r5, .int .u8 r6, .int .u8 r7, .int .u8 r8, .int .u8 r9, .int .u8 r10, .int .u8 r11, .int .u8 r12, .int .u8 r13, .int .u8 r14, .int .u8 r15] from (HB.out.block _ (by omega)).trans (show Blk w2 (w.heap.size + 1) 27 #[.int .u8 r0, .int .u8 r1, .int .u8 r2, .int .u8 r3, .int .u8 r4, .int .u8 r5, .int .u8 r6, .int .u8 r7, .int .u8 r8, .int .u8 r9, .int .u8 r10, .int .u8 r11, .int .u8 r12, .int .u8 r13, .int .u8 r14, .int .u8 r15] from hw2 ▸ blk_new22 w (.cells #[.int .u64 entry, seg, .int .u64 phdr, .int .i64 phnum, .int .i64 phsize] 26) 27 #[.int .u8 r0, .int .u8 r1, .int .u8 r2, .int .u8 r3, .int .u8 r4, .int .u8 r5, .int .u8 r6, .int .u8 r7, .int .u8 r8, .int .u8 r9, .int .u8 r10, .int .u8 r11, .int .u8 r12, .int .u8 r13, .int .u8 r14, .int .u8 r15]))
      have HRR := Lib.hid (reads_blk (k := .u8) (xs := [r0, r1, r2, r3, r4, r5, r6, r7, r8, r9, r10, r11, r12, r13, r14, r15]) HR16.out (by show 16 ≤ _; decide))
      obtain ⟨A7, c7, rfl, hc7, hr7⟩ := HD.out.tx.slice
      rw [HTL.out] at HD hc7
      obtain ⟨p0, f0⟩ := (show _ ∧ _ from ⟨HD.out.blk.cell 0, HD.out.blk.frozen 0⟩)
      simp at p0
      clear HP5 e0 hr7
      go_wp2_with fail
      have hszB := HB.out.size
      go_region_law (refine row_app_step rfl (.tmp 83) (.tmp 84) 29 5 .u8 1 rfl Try.underlying29 info8 (by decide) (.slice A7 sz c7) T [r0, r1, r2, r3, r4, r5, r6, r7, r8, r9, r10, r11, r12, r13, r14, r15] (some ⟨w.heap.size + 1, 0, none⟩) 16 16 rfl rfl HD.out.tx HRR.out (by have e := HTL.out; show (T.length + 16) * 1 ≤ _; omega) ?_; intro v1 w1 ho1 hf1 hat1; have HA := Lib.hid (Bld.texts1 HD.out hszB ho1 hf1.undrew hat1); obtain ⟨A8, c8, e8, _, _⟩ := ho1.slice; rw [show (T ++ [r0, r1, r2, r3, r4, r5, r6, r7, r8, r9, r10, r11, r12, r13, r14, r15]).length = sz + 16 from by rw [List.length_append, HTL.out]; rfl] at e8; subst e8; have k0' := HA.out.1.cell 0; have f0' := HA.out.1.frozen 0; simp at k0'; clear hf1 ho1 hat1)
      all_goals
        have HD6 := Lib.hid HA.out.2.1
        have HB6 := Lib.hid (below_fr HB.out HA.out.2.2)
        clear HA HD HB p0 f0 k0' f0' HRR HR16
        generalize w1.setCell ⟨w.heap.size + 1 + 1 + 1 + 1 + 1, 0, none⟩ (.slice A8 (sz + 16) c8) = w6 at HD6 HB6 ⊢
        obtain ⟨W2, hW2⟩ : ∃ l, W ++ AL = l := ⟨_, rfl⟩
        have HW2 := Lib.hid hW2
        obtain ⟨nw, hnw⟩ : ∃ n, W2.length = n := ⟨_, rfl⟩
        have HNW := Lib.hid hnw
        have hnw2 : nw ≤ 300 := by
          have e1 := HWL.out
          have e2 := HALL.out
          have e3 := HFT.out
          have e4 := hna2.2
          rw [← hnw, ← hW2, List.length_append]
          omega
        rw [hW2] at HD6
        have hnw0 : 3 ≤ nw := by
          have e1 := HWL.out
          rw [← hnw, ← hW2, List.length_append]
          omega
        obtain ⟨g9, c9, rfl, hc9⟩ := Row.head HD6.out.wd (by omega)
        rw [hnw] at HD6 hc9
        obtain ⟨p0, p1⟩ := (show _ ∧ _ from ⟨HD6.out.blk.cell 0, HD6.out.blk.cell 1⟩)
        simp at p0 p1
        have hv1 : IntKind.i64.wrap (8 * (nw : Int)) = 8 * (nw : Int) := IntWalk.i64_in _ (by omega)
        have hv2 : IntKind.u64.wrap (8 * (nw : Int)) = 8 * (nw : Int) := IntWalk.u64_in _ (by omega)
        have hv3 : IntKind.u64.wrap (bs - 8 * (nw : Int)) = bs - 8 * (nw : Int) := IntWalk.u64_in _ (by omega)
        clear hW2 hnw
        go_wp2_with fail
        refine (down_any _ (by omega) (by omega) _).mono ?_
        rintro e w7 ⟨rfl, rfl⟩
        obtain ⟨sp, hsp⟩ : ∃ s, (bs - 8 * (nw : Int)) / 16 * 16 = s := ⟨_, rfl⟩
        have HSP := Lib.hid hsp
        have hs1 : sp ≤ bs - 8 * (nw : Int) := by omega
        have hs3 : bs - 8 * (nw : Int) - sp ≤ 15 := by omega
        rw [hsp]
        clear hsp
        obtain ⟨room, hroom⟩ : ∃ n : Nat, 274877902848 - sp = (n : Int) := ⟨(274877902848 - sp).toNat, by omega⟩
        have hv4 : IntKind.u64.wrap (274877902848 - sp) = (room : Int) := by rw [hroom]; exact IntWalk.u64_in _ (by omega)
        have HRO := Lib.hid hroom
        have hr2 : room ≤ 1000000 := by omega
        clear hroom
        obtain ⟨i8, hi8, hz8, hzs8, hzb8⟩ := info_parts info8
        go_wp2_with (at_make; refine Classical.byContradiction fun hgoal => ?_)
        apply hgoal
        clear hgoal
        refine wpList_make_own _ rfl _ _ 29 rfl w7.heap.size 5 i8 (.int .u8 0) 1 Try.underlying29 hi8 hz8 hzs8 .i64 .u64 (room : Int) room rfl rfl rfl (by rw [hzb8]; omega) (by unfold maxLen; omega) (Nat.le_refl _) ?_
        intro w8 h8 g8
        have H8 := Lib.hid h8
        have HB8 := Lib.hid (Fr.below (Below.refl w7.heap.size w7) ((Fr.refl (fun _ => False) w7).grown g8 (fun k e => by cases e)) (fun _ _ => id))
        have p1' := (HD6.out.fr (Fr.of_below HB8.out)).blk.cell 1
        simp at p1'
        clear h8 g8
        go_wp2_with fail
        have HOK := Lib.hid (show wok W2 from by
          rw [← HW2.out, ← HW.out, ← HAL.out]
          have e1 := HFT.out
          have e2 := HSZ.out
          refine wok_app (wok_app (wok_app (wok_app (wok_app (wok_cons (by omega) wok_nil) (wok_pl bs (by omega) (by omega) l1 _ ?_)) (wok_cons (by decide) wok_nil)) (wok_pl bs (by omega) (by omega) l2 _ ?_)) (wok_cons (by decide) wok_nil)) (wok_aux _ _ _ _ _ HEN.out HPH.out (by omega))
          · rw [List.length_nil]; omega
          · rw [txOf_length]; omega)
        have HR9 := Lib.hid (Row.reads HD6.out.wd)
        go_loopg [17, 106] nw (fun kq v17 v106 wr => Hid (AtPut w7 nw W2 v17 v106 kq wr))
        case atStart => exact Lib.hid ⟨0, _, by omega, by omega, by omega, rfl, rfl, own8_of H8.out, HB8.out⟩
        case round =>
          obtain ⟨k, v17, hk0, hk1, hk2, rfl, rfl, ho, hb⟩ := hrel.out
          have HO := Lib.hid ho
          have HB := Lib.hid hb
          clear hrel ho hb p1' H8 HB8
          by_cases hk : k < nw
          · obtain ⟨x, hx⟩ : ∃ x, W2.getD k 0 = x := ⟨_, rfl⟩
            have u1 : decide ((k : Int) < (nw : Int)) = true := decide_eq_true (by omega)
            have u1' : decide (k < nw) = true := decide_eq_true hk
            have j0 : (0 : Int) ≤ (k : Int) := by omega
            have j1 : (k : Int) < (nw : Int) := by omega
            have y0 : wr.cell? ⟨g9, k, none⟩ = some (.int .u64 x) := by
              have e := reads_head (reads_fr (S := fun _ => False) HR9.out (Fr.of_below HB.out) (fun _ _ _ => id)) k (by rw [HNW.out]; exact hk)
              rw [← hx]
              exact e
            have hxo : 0 ≤ x ∧ x < 18446744073709551616 := by
              rw [← hx, List.getD_eq_getElem?_getD, List.getElem?_eq_getElem (by rw [HNW.out]; exact hk)]
              exact HOK.out _ (List.getElem_mem _)
            have HTK := Lib.hid (show wby (W2.take (k + 1)) = wby (W2.take k) ++ By.enc x 8 from by rw [← hx]; exact take_wby W2 k (by rw [HNW.out]; exact hk))
            have hll : (wby (W2.take k)).length ≤ 100000 := by rw [wby_length, List.length_take, HNW.out]; omega
            obtain ⟨l, hl⟩ : ∃ l, wby (W2.take k) = l := ⟨_, rfl⟩
            rw [hl] at HO HTK hll
            obtain ⟨A10, c10, rfl, hc10, hC10⟩ := HO.out.form
            have HC10 := Lib.hid hC10
            clear hl hx hC10
            go_wp2_with fail
            refine (By.put_in A10 c10 l x 8 _ HC10.out hc10 (by omega) hxo.1 hxo.2 (by decide) (by decide)).mono ?_
            rintro e wp ⟨v', rfl, ho, hb⟩
            have HO' := Lib.hid ((own8_of (Kd.own_of_R ho)).low HB.out.size)
            have HB' := Lib.hid (Fr.below HB.out (Fr.of_below hb) (fun _ _ => id))
            clear ho hb
            go_wp2_with fail
            go_roundg (nw - (k + 1))
            case measure => omega
            case rel => exact Lib.hid ⟨k + 1, _, by omega, by omega, by omega, rfl, by go_num, by rw [HTK.out]; exact HO'.out, HB'.out⟩
          · obtain rfl : k = nw := by omega
            have u1 : decide ((k : Int) < (k : Int)) = false := decide_eq_false (by omega)
            rw [show W2.take k = W2 from List.take_of_length_le (by rw [HNW.out]; exact Nat.le_refl _)] at HO
            obtain ⟨l8, hl8⟩ : ∃ l, wby W2 = l := ⟨_, rfl⟩
            obtain ⟨m8, hm8⟩ : ∃ m, 8 * k = m := ⟨_, rfl⟩
            have hll8 : l8.length = m8 := by rw [← hl8, wby_length, HNW.out, hm8]
            rw [hl8] at HO
            have HL8 := Lib.hid hl8
            have HM8 := Lib.hid hm8
            have HLL8 := Lib.hid hll8
            obtain ⟨A10, c10, rfl, hc10, _⟩ := HO.out.form
            rw [hll8] at HO hc10 ⊢
            obtain ⟨d, hd⟩ := nat_of (bs - sp) (by omega)
            obtain ⟨z1, hz1⟩ := nat_of ((d : Int) - (m8 : Int)) (by omega)
            have hz1b : z1 ≤ 15 := by omega
            have hdb : d ≤ 100000 := by omega
            have HG := Lib.hid (gap HBS.out)
            have HG2 := Lib.hid (gap2 (s := (sz : Int) + 16) hd HRO.out)
            obtain ⟨z2, hz2⟩ := nat_of ((room : Int) - ((d : Int) + ((sz : Int) + 16))) (by rw [← HG2.out]; exact HG.out.1)
            have hz2b : z2 ≤ 15 := by have e := HG.out.2; rw [HG2.out, hz2] at e; omega
            have e1 : IntKind.u64.wrap (bs - sp) = (d : Int) := by rw [hd]; exact IntWalk.u64_in _ (by omega)
            have e2 : IntKind.i64.wrap (d : Int) = (d : Int) := IntWalk.i64_in _ (by omega)
            have e3 : IntKind.i64.wrap ((d : Int) - (m8 : Int)) = (z1 : Int) := by rw [hz1]; exact IntWalk.i64_in _ (by omega)
            have e4 : IntKind.i64.wrap (room : Int) = (room : Int) := IntWalk.i64_in _ (by omega)
            obtain ⟨n22, hn22⟩ : ∃ n, m8 + z1 = n := ⟨_, rfl⟩
            obtain ⟨n23, hn23⟩ : ∃ n, n22 + (sz + 16) = n := ⟨_, rfl⟩
            have hd22 : d = n22 := by omega
            have e5 : IntKind.i64.wrap ((room : Int) - (n23 : Int)) = (z2 : Int) := by rw [show (room : Int) - (n23 : Int) = (z2 : Int) by omega]; exact IntWalk.i64_in _ (by omega)
            have hn22b : n22 ≤ 100000 := by omega
            have hn23b : n23 ≤ 200000 := by omega
            have HZ1 := Lib.hid hz1
            have HZ2 := Lib.hid hz2
            have HDD := Lib.hid hd
            have HN22 := Lib.hid hn22
            have HN23 := Lib.hid hn23
            have HD22 := Lib.hid hd22
            have hsm : m8 ≤ 10000 := by omega
            clear hl8 hll8 hm8 hd hz1 hz2 hn22 hn23 hd22
            go_wp2_with ((with_reducible refine gate_builtin (b := .append) (xs := #[.tmp 114, .tmp 121]) rfl ?_); refine Classical.byContradiction fun hgoal => ?_)
            apply hgoal
            clear hgoal
            (try (refine gate_guard (by rfl) ?_; dsimp only))
            refine row_zeros rfl (.tmp 114) (.tmp 121) 29 3 5 .u8 1 rfl Try.underlying29 Try.underlying3 info8 (by decide) (.slice A10 m8 c10) l8 z1 rfl rfl HO.out.row (by rw [HLL8.out]; omega) ?_
            intro v1 wa ho1 hf1 hat1
            have HA := Lib.hid (Own8.app HO.out HB.out HB.out.size ho1 hf1 hat1 rfl)
            clear ho1 hf1 hat1 HO HB
            obtain ⟨l22, hl22⟩ : ∃ l, l8 ++ List.replicate z1 0 = l := ⟨_, rfl⟩
            have HL22 := Lib.hid hl22
            have hll22 : l22.length = n22 := by rw [← hl22, List.length_append, List.length_replicate, HLL8.out]; exact HN22.out
            have HLL22 := Lib.hid hll22
            rw [hl22] at HA
            obtain ⟨A11, c11, rfl, hc11, _⟩ := HA.out.1.form
            rw [hll22] at HA hc11 ⊢
            have HDa := Lib.hid (HD6.out.fr (Fr.of_below HA.out.2))
            have p0' := HDa.out.blk.cell 0
            simp at p0'
            clear hl22 hll22
            go_wp2_with ((with_reducible refine gate_builtin (b := .append) (xs := #[.tmp 123, .tmp 127]) rfl ?_); refine Classical.byContradiction fun hgoal => ?_)
            apply hgoal
            clear hgoal
            (try (refine gate_guard (by rfl) ?_; dsimp only))
            refine row_app rfl (.tmp 123) (.tmp 127) 29 5 .u8 1 rfl Try.underlying29 info8 (by decide) (.slice A11 n22 c11) l22 (T ++ [r0, r1, r2, r3, r4, r5, r6, r7, r8, r9, r10, r11, r12, r13, r14, r15]) A8 (sz + 16) c8 rfl rfl HA.out.1.row (by have e := Row.reads HDa.out.tx; rwa [show (T ++ [r0, r1, r2, r3, r4, r5, r6, r7, r8, r9, r10, r11, r12, r13, r14, r15]).length = sz + 16 from by rw [List.length_append, HTL.out]; rfl] at e) (by rw [HLL22.out]; omega) ?_
            intro v1 wb ho1 hf1 hat1
            have HQ2 := Lib.hid (Own8.app HA.out.1 HA.out.2 HA.out.2.size ho1 hf1 hat1 rfl)
            clear ho1 hf1 hat1 HA p0' HDa
            obtain ⟨l23, hl23⟩ : ∃ l, l22 ++ (T ++ [r0, r1, r2, r3, r4, r5, r6, r7, r8, r9, r10, r11, r12, r13, r14, r15]) = l := ⟨_, rfl⟩
            have HL23 := Lib.hid hl23
            have hll23 : l23.length = n23 := by rw [← hl23, List.length_append, List.length_append, HLL22.out, HTL.out]; exact HN23.out
            have HLL23 := Lib.hid hll23
            rw [hl23] at HQ2
            obtain ⟨A12, c12, rfl, hc12, _⟩ := HQ2.out.1.form
            rw [hll23] at HQ2 hc12 ⊢
            clear hl23 hll23
            go_wp2_with ((with_reducible refine gate_builtin (b := .append) (xs := #[.tmp 129, .tmp 135]) rfl ?_); refine Classical.byContradiction fun hgoal => ?_)
            apply hgoal
            clear hgoal
            (try (refine gate_guard (by rfl) ?_; dsimp only))
            refine row_zeros rfl (.tmp 129) (.tmp 135) 29 3 5 .u8 1 rfl Try.underlying29 Try.underlying3 info8 (by decide) (.slice A12 n23 c12) l23 z2 rfl rfl HQ2.out.1.row (by rw [HLL23.out]; omega) ?_
            intro v1 wc ho1 hf1 hat1
            have HC3 := Lib.hid (Own8.app HQ2.out.1 HQ2.out.2 HQ2.out.2.size ho1 hf1 hat1 rfl)
            clear ho1 hf1 hat1 HQ2
            go_wp2_with fail
            go_ret3
            have hbs' : baseOf l1 l2 = bs := by
              unfold baseOf
              rw [HSZ.out]
              exact HBS.out
            have hwo : wordsOf bs l1 l2 entry phdr phnum phsize = W2 := by
              unfold wordsOf
              rw [← HW2.out, ← HW.out, ← HAL.out, HSZ.out, txOf_length]
              rfl
            have hsp' : spOf bs W2.length = sp := by
              unfold spOf
              rw [HNW.out]
              exact HSP.out
            rw [hbs', hwo]
            refine ⟨v1, by rw [hsp']; rfl, ?_, ?_⟩
            · have ho : outOf bs W2 (txOf l1 ++ txOf l2 ++ [r0, r1, r2, r3, r4, r5, r6, r7, r8, r9, r10, r11, r12, r13, r14, r15]) = l23 ++ List.replicate z2 0 := by
                unfold outOf
                have a1 : (bs - 8 * (W2.length : Int) - spOf bs W2.length).toNat = z1 := by
                  rw [hsp', HNW.out]
                  exact gap3 HDD.out HZ1.out HM8.out
                have a5 : ((txOf l1 ++ txOf l2 ++ [r0, r1, r2, r3, r4, r5, r6, r7, r8, r9, r10, r11, r12, r13, r14, r15]).length : Int) = (sz : Int) + 16 := by
                  rw [HT.out, List.length_append, HTL.out]
                  rfl
                rw [a1, a5, HG2.out, HZ2.out, Int.toNat_natCast, HL8.out, HL22.out, HT.out, HL23.out]
              rw [ho]
              exact HC3.out.1.low (by have a1 := HB6.out.size; omega)
            · exact (HB2.out.trans (Fr.of_below HB6.out) (fun _ _ => id)).trans (Fr.of_below HC3.out.2) (fun _ _ => id)
end Go.Proofs.Ytnoeehdccknhnaa.St
