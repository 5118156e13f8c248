/- The law StartBuilds, walked. -/
import Derived.Test.YtnoeehdccknhnaaStT
import Derived.Test.YtnoeehdccknhnaaStH
import Derived.Test.YtnoeehdccknhnaaBySame
import Derived.Deep.RegionHeld
import Derived.Deep.CutBlock
import Derived.Deep.DeepCutAuto
namespace Go.Proofs.Ytnoeehdccknhnaa.St
open Go Go.RowKit Go.Proofs.YtnoeehdccknhnaaW.PrintWords Go.Proofs.YtnoeehdccknhnaaW.PrintLast Go.Proofs.YtnoeehdccknhnaaW.PrintMore
open Go.Proofs.Ytnoeehdccknhnaa.Hp
attribute [local go_sem] max2_int min2_int max_two min_two max_three min_three max_four min_four
set_option linter.unusedVariables false
set_option linter.unusedSimpArgs false
section
variable {P : Program} {ops : Array Oper} {o : Oper} {a : Act} {Q : Exit → Act → World → Prop} {Kc : Act → World → Prop}
theorem rowS_app_step {w0 W : World} (B : Nat) (hw : Region.wanted o (yielded ops a.tmps) = true) (s x : Operand) (t e : TypeId)
    (ho : o.op = .call { callee := .builtin .append, args := #[s, x], argTypes := #[t, t] })
    (ht : P.underlying t = some (.slice e)) (hinfo : (P.info? e).map (fun i => (i.zero, i.size, i.bytes)) = some (some (.string ⟨#[]⟩), 1, 16))
    (v : Value) (xs ys : List ByteArray) (A : Option Addr) (m c : Nat) (hs : a.eval s = v) (hx : a.eval x = .slice A m c)
    (HO : Kd.string.R e W B (fun _ => True) v xs) (HR : Kd.string.C W A m ys) (HB : Below B w0 W) (hb : B ≤ W.heap.size) (hl : (xs.length + m) * 16 ≤ 140737488355328)
    (h : ∀ v1 w1, Kd.string.R e w1 B (fun _ => True) v1 (xs ++ ys) → Below B w0 w1 → (v1.ownBlock = v.ownBlock ∨ ∃ b, v1.ownBlock = some b ∧ W.heap.size ≤ b) → Fr (fun b => v.ownBlock = some b) W w1 → Kc (a.put o.dst v1) w1) :
    if Region.wanted o (yielded ops a.tmps) = true then Oper.wp P o a W Kc Q else Kc (a.put o.dst undef) W :=
  Kd.R_append_rows_step Kd.string (w0 := w0) B hw s x t e (.string ⟨#[]⟩) 16 ho ht hinfo rfl Nat.one_pos (by decide) v xs ys A m c (fun _ => True) (fun _ => False) hs hx HO HR (fun _ _ h => h) (fun _ h => h.elim) (fun _ _ => trivial) HB hb hl (fun v1 w1 h1 h2 h3 h4 => h v1 w1 h1 h2 h4 ((Fr.refl _ _).grown h3 (fun b hb => .inl hb)))
end
theorem rowS_move {w w1 : World} {B : Nat} {v : Value} {l : List ByteArray} (h : Kd.string.R 9 w B (fun _ => True) v l) {S : Nat → Prop} (hf : Fr S w w1) (hn : ∀ k, v.ownBlock = some k → ¬ S k) : Kd.string.R 9 w1 B (fun _ => True) v l := by
  have ho := Kd.own_of_R h
  exact Kd.R_of_own (h1 := fun _ => rfl) (own_move ho (fun k hk => hf.block k (own_lt ho k hk) (hn k hk))) (fun _ _ => trivial)
/-- Two rows of texts, younger than a world, that lie apart. -/
structure TwoR (w2 w : World) (x y : Value) (lx ly : List ByteArray) : Prop where
  bel : Below w2.heap.size w2 w
  rx : Kd.string.R 9 w w2.heap.size (fun _ => True) x lx
  ry : Kd.string.R 9 w w2.heap.size (fun _ => True) y ly
  ne : ∀ k, x.ownBlock = some k → y.ownBlock ≠ some k
theorem TwoR.start (w2 : World) : TwoR w2 w2.drew (.slice none 0 0) (.slice none 0 0) [] [] := ⟨below_drew (Below.refl _ _), rowS_nil _ _ _, rowS_nil _ _ _, fun k e => by simp [Value.ownBlock] at e⟩
theorem TwoR.swap {w2 w : World} {x y : Value} {lx ly : List ByteArray} (h : TwoR w2 w x y lx ly) : TwoR w2 w y x ly lx := ⟨h.bel, h.ry, h.rx, fun k e1 e2 => h.ne k e2 e1⟩
theorem rowS_empty_at (w : World) (B : Nat) (hB : B ≤ w.heap.size) : Kd.string.R 9 (w.alloc (.cells #[] 9)) B (fun _ => True) (.slice (some ⟨w.heap.size, 0, none⟩) 0 0) [] := by
  refine Kd.R_of_own (h1 := fun _ => rfl) ⟨rfl, .inr ⟨w.heap.size, 0, #[], rfl, hB, ?_, Nat.le_refl _, Nat.zero_le _, rfl, rfl⟩⟩ (fun _ _ => trivial)
  show (w.heap.push _)[w.heap.size]? = _
  simp
theorem TwoR.bldX {w2 w : World} {x y : Value} {lx ly : List ByteArray} {n : Nat} (h : TwoR w2 w x y lx ly) (hn : w.heap.size = n) : TwoR w2 (w.alloc (.cells #[] 9)) (.slice (some ⟨n, 0, none⟩) 0 0) y [] ly := by
  subst hn
  exact ⟨Fr.below h.bel ((Fr.refl (fun _ => False) w).alloc _) (fun _ _ => id), rowS_empty_at w _ h.bel.size, Kd.R_alloc h.ry _, fun k e1 e2 => by
    have e : w.heap.size = k := by simpa [Value.ownBlock] using e1
    have e3 := own_lt (Kd.own_of_R h.ry) k e2
    omega⟩
theorem TwoR.bldY {w2 w : World} {x y : Value} {lx ly : List ByteArray} {n : Nat} (h : TwoR w2 w x y lx ly) (hn : w.heap.size = n) : TwoR w2 (w.alloc (.cells #[] 9)) x (.slice (some ⟨n, 0, none⟩) 0 0) lx [] := (h.swap.bldX hn).swap
theorem TwoR.appX {w2 w w1 : World} {x x1 y : Value} {lx lx1 ly : List ByteArray} (h : TwoR w2 w x y lx ly) (hr : Kd.string.R 9 w1 w2.heap.size (fun _ => True) x1 lx1) (hf : Fr (fun b => x.ownBlock = some b) w w1) (hb : Below w2.heap.size w2 w1) (hat : x1.ownBlock = x.ownBlock ∨ ∃ b, x1.ownBlock = some b ∧ w.heap.size ≤ b) : TwoR w2 w1 x1 y lx1 ly :=
  ⟨hb, hr, rowS_move h.ry hf (fun k e1 e2 => h.ne k e2 e1), fun k e1 e2 => by
    rcases hat with hat | ⟨b, hb1, hb2⟩
    · exact h.ne k (hat ▸ e1) e2
    · rw [e1] at hb1
      injection hb1 with hb1
      have e3 := own_lt (Kd.own_of_R h.ry) k e2
      omega⟩
theorem TwoR.appY {w2 w w1 : World} {x y y1 : Value} {lx ly ly1 : List ByteArray} (h : TwoR w2 w x y lx ly) (hr : Kd.string.R 9 w1 w2.heap.size (fun _ => True) y1 ly1) (hf : Fr (fun b => y.ownBlock = some b) w w1) (hb : Below w2.heap.size w2 w1) (hat : y1.ownBlock = y.ownBlock ∨ ∃ b, y1.ownBlock = some b ∧ w.heap.size ≤ b) : TwoR w2 w1 x y1 lx ly1 := (h.swap.appX hr hf hb hat).swap
theorem prog_cells {w : World} {g : Nat} {c0 c1 c2 c3 c4 : Value} (h : Blk w g 26 #[c0, c1, c2, c3, c4]) : w.cell? ⟨g, 0, none⟩ = some c0 ∧ w.cell? ⟨g, 1, none⟩ = some c1 ∧ w.cell? ⟨g, 2, none⟩ = some c2 ∧ w.cell? ⟨g, 3, none⟩ = some c3 ∧ w.cell? ⟨g, 4, none⟩ = some c4 :=
  ⟨h.cell 0, h.cell 1, h.cell 2, h.cell 3, h.cell 4⟩
theorem rnd_cells {w : World} {g : Nat} {c0 c1 c2 c3 c4 c5 c6 c7 c8 c9 c10 c11 c12 c13 c14 c15 : Value} (h : Blk w g 27 #[c0, c1, c2, c3, c4, c5, c6, c7, c8, c9, c10, c11, c12, c13, c14, c15]) : w.cell? ⟨g, 0, none⟩ = some c0 ∧ w.cell? ⟨g, 1, none⟩ = some c1 ∧ w.cell? ⟨g, 2, none⟩ = some c2 ∧ w.cell? ⟨g, 3, none⟩ = some c3 ∧ w.cell? ⟨g, 4, none⟩ = some c4 ∧ w.cell? ⟨g, 5, none⟩ = some c5 ∧ w.cell? ⟨g, 6, none⟩ = some c6 ∧ w.cell? ⟨g, 7, none⟩ = some c7 ∧ w.cell? ⟨g, 8, none⟩ = some c8 ∧ w.cell? ⟨g, 9, none⟩ = some c9 ∧ w.cell? ⟨g, 10, none⟩ = some c10 ∧ w.cell? ⟨g, 11, none⟩ = some c11 ∧ w.cell? ⟨g, 12, none⟩ = some c12 ∧ w.cell? ⟨g, 13, none⟩ = some c13 ∧ w.cell? ⟨g, 14, none⟩ = some c14 ∧ w.cell? ⟨g, 15, none⟩ = some c15 :=
  ⟨h.cell 0, h.cell 1, h.cell 2, h.cell 3, h.cell 4, h.cell 5, h.cell 6, h.cell 7, h.cell 8, h.cell 9, h.cell 10, h.cell 11, h.cell 12, h.cell 13, h.cell 14, h.cell 15⟩
def AtBu (w2 : World) (l1 l2 : List ByteArray) (entry phdr phnum phsize : Int) (rs : List Int) (v9 v10 v11 : Value) (wx : World) : Prop := ∃ (v : Value) (sp : Int), v9 = v ∧ v10 = .int .u64 sp ∧ v11 = .int .i64 (chk [l1, l2]) ∧ Below w2.heap.size w2 wx ∧
  (chk [l1, l2] = 0 → sp = spOf (baseOf l1 l2) (wordsOf (baseOf l1 l2) l1 l2 entry phdr phnum phsize).length ∧ Own8 wx w2.heap.size v (outOf (baseOf l1 l2) (wordsOf (baseOf l1 l2) l1 l2 entry phdr phnum phsize) (txOf l1 ++ txOf l2 ++ rs))) ∧ (chk [l1, l2] ≠ 0 → v = .slice none 0 0 ∧ sp = 0)
set_option maxHeartbeats 8000000 in
set_option maxRecDepth 100000 in
theorem builds_in (A1 A2 : Option Addr) (c1 c2 : Nat) (l1 l2 : List ByteArray) (entry phdr phnum phsize : Int) (seg : Value) (hseg : seg.oneCell' = true) (r0 r1 r2 r3 r4 r5 r6 r7 r8 r9 r10 r11 r12 r13 r14 r15 : Int) (w : World) (h1 : Kd.string.C w A1 l1.length l1) (h2 : Kd.string.C w A2 l2.length l2) (hlen : l1.length + l2.length ≤ 4611686018427387904) (hl1 : ∀ s ∈ l1, s.size ≤ 140737488351232) (hl2 : ∀ s ∈ l2, s.size ≤ 140737488351232) (hen : 0 ≤ entry ∧ entry < 18446744073709551616) (hph : 0 ≤ phdr ∧ phdr < 18446744073709551616) :
    Calls Try.prog 3 #[.slice A1 l1.length c1, .slice A2 l2.length c2, .agg #[.int .u64 entry, seg, .int .u64 phdr, .int .i64 phnum, .int .i64 phsize], .agg #[.int .u8 r0, .int .u8 r1, .int .u8 r2, .int .u8 r3, .int .u8 r4, .int .u8 r5, .int .u8 r6, .int .u8 r7, .int .u8 r8, .int .u8 r9, .int .u8 r10, .int .u8 r11, .int .u8 r12, .int .u8 r13, .int .u8 r14, .int .u8 r15]] w fun e w' => e = .returned (.bool true) ∧ Fr (fun _ => False) w w' := by
  have H1 := Lib.hid h1
  have H2 := Lib.hid h2
  have HEN := Lib.hid hen
  have HPH := Lib.hid hph
  have m1 := h1.2.1
  have m2 := h2.2.1
  have HP := Lib.hid (blk_new2 w (.cells #[.int .u8 r0, .int .u8 r1, .int .u8 r2, .int .u8 r3, .int .u8 r4, .int .u8 r5, .int .u8 r6, .int .u8 r7, .int .u8 r8, .int .u8 r9, .int .u8 r10, .int .u8 r11, .int .u8 r12, .int .u8 r13, .int .u8 r14, .int .u8 r15] 27) 26 #[.int .u64 entry, seg, .int .u64 phdr, .int .i64 phnum, .int .i64 phsize])
  have HR16 := Lib.hid (blk_new22 w (.cells #[.int .u64 entry, seg, .int .u64 phdr, .int .i64 phnum, .int .i64 phsize] 26) 27 #[.int .u8 r0, .int .u8 r1, .int .u8 r2, .int .u8 r3, .int .u8 r4, .int .u8 r5, .int .u8 r6, .int .u8 r7, .int .u8 r8, .int .u8 r9, .int .u8 r10, .int .u8 r11, .int .u8 r12, .int .u8 r13, .int .u8 r14, .int .u8 r15])
  have HF2 := Lib.hid (((Fr.refl (fun _ => False) w).alloc (.cells #[.int .u64 entry, seg, .int .u64 phdr, .int .i64 phnum, .int .i64 phsize] 26)).alloc (.cells #[.int .u8 r0, .int .u8 r1, .int .u8 r2, .int .u8 r3, .int .u8 r4, .int .u8 r5, .int .u8 r6, .int .u8 r7, .int .u8 r8, .int .u8 r9, .int .u8 r10, .int .u8 r11, .int .u8 r12, .int .u8 r13, .int .u8 r14, .int .u8 r15] 27))
  clear h1 h2 hen hph
  by_cases hbig : 400 < l1.length + l2.length
  · have d1 : decide ((400 : Int) < (l1.length : Int) + (l2.length : Int)) = true := decide_eq_true (by omega)
    have d0 : decide (400 < l1.length + l2.length) = true := decide_eq_true hbig
    have f1 : IntKind.i64.wrap ((l1.length : Int) + (l2.length : Int)) = (l1.length : Int) + (l2.length : Int) := IntWalk.i64_in _ (by omega)
    go_enter Try.func3, Try.ntmps3
    go_wp2_with fail
    refine (answers_any _).mono ?_
    rintro e wd ⟨rfl, hfd⟩
    have HFD := Lib.hid (HF2.out.trans hfd (fun _ _ => id))
    clear hfd
    go_wp2_with fail
    go_ret
    exact ⟨rfl, HFD.out⟩
  · have HFI := Lib.hid (fits_texts hl1 hl2 (by omega))
    clear hl1 hl2
    have d1 : decide ((400 : Int) < (l1.length : Int) + (l2.length : Int)) = false := decide_eq_false (by omega)
    have f1 : IntKind.i64.wrap ((l1.length : Int) + (l2.length : Int)) = (l1.length : Int) + (l2.length : Int) := IntWalk.i64_in _ (by omega)
    go_enter Try.func3, Try.ntmps3
    go_wp2_with fail
    obtain ⟨w2, hw2⟩ : ∃ w2, (w.alloc (.cells #[.int .u64 entry, seg, .int .u64 phdr, .int .i64 phnum, .int .i64 phsize] 26)).alloc (.cells #[.int .u8 r0, .int .u8 r1, .int .u8 r2, .int .u8 r3, .int .u8 r4, .int .u8 r5, .int .u8 r6, .int .u8 r7, .int .u8 r8, .int .u8 r9, .int .u8 r10, .int .u8 r11, .int .u8 r12, .int .u8 r13, .int .u8 r14, .int .u8 r15] 27) = w2 := ⟨_, rfl⟩
    have hs2 : w2.heap.size = w.heap.size + 1 + 1 := by rw [← hw2]; simp
    rw [hw2] at HP HR16 HF2 ⊢
    clear hw2
    have HS2 := Lib.hid hs2
    clear hs2
    have HC1 := Lib.hid (Kd.C_below H1.out (Fr.below (Below.refl _ _) HF2.out (fun _ _ => id)))
    have HC2 := Lib.hid (Kd.C_below H2.out (Fr.below (Below.refl _ _) HF2.out (fun _ _ => id)))
    go_cut [9, 10, 11] (fun v9 v10 v11 wx => Hid (AtBu w2 l1 l2 entry phdr phnum phsize [r0, r1, r2, r3, r4, r5, r6, r7, r8, r9, r10, r11, r12, r13, r14, r15] v9 v10 v11 wx))
    case first =>
      have HT := Lib.hid (TwoR.start w2)
      refine wp_region_noPanic ?_
      refine wp_region_held_drew (S := fun w => Below w2.heap.size w2 w) (by kernel_rfl) ?_ (fun hHeld => ?_)
      · exact HT.out.bel
      refine wpAnyH_take (i := 1) (v := ?_) rfl (by kernel_rfl) (by kernel_rfl) (by kernel_rfl) (fun _ _ _ h => h) (Or.inl ⟨by rfl, ?_⟩) (by assumption) ?_
      rotate_left
      · (intro w hSw; (try dsimp only at hSw); go_simp; first | done | (with_reducible rfl))
      try simp only [List.getElem_toArray, List.getElem_cons_succ, List.getElem_cons_zero, Act.put, List.setIfInBounds_toArray, List.set_cons_zero, List.set_cons_succ]
      refine wpAnyH_take (i := 4) (v := ?_) rfl (by kernel_rfl) (by kernel_rfl) (by kernel_rfl) (fun _ _ _ h => h) (Or.inl ⟨by rfl, ?_⟩) (by assumption) ?_
      rotate_left
      · (intro w hSw; (try dsimp only at hSw); go_simp; first | done | (with_reducible rfl))
      try simp only [List.getElem_toArray, List.getElem_cons_succ, List.getElem_cons_zero, Act.put, List.setIfInBounds_toArray, List.set_cons_zero, List.set_cons_succ]
      refine wpAnyH_take (i := 6) (v := .agg #[.int .u64 entry, seg, .int .u64 phdr, .int .i64 phnum, .int .i64 phsize]) rfl (by kernel_rfl) (by kernel_rfl) (by kernel_rfl) (fun _ _ _ h => h) (Or.inl ⟨by rfl, fun w h => by obtain ⟨q0, q1, q2, q3, q4⟩ := prog_cells ((h.block _ (by have e := HS2.out; omega)).trans HP.out); go_simp⟩) (by assumption) ?_
      try simp only [List.getElem_toArray, List.getElem_cons_succ, List.getElem_cons_zero, Act.put, List.setIfInBounds_toArray, List.set_cons_zero, List.set_cons_succ]
      refine wpAnyH_take (i := 7) (v := .agg #[.int .u8 r0, .int .u8 r1, .int .u8 r2, .int .u8 r3, .int .u8 r4, .int .u8 r5, .int .u8 r6, .int .u8 r7, .int .u8 r8, .int .u8 r9, .int .u8 r10, .int .u8 r11, .int .u8 r12, .int .u8 r13, .int .u8 r14, .int .u8 r15]) rfl (by kernel_rfl) (by kernel_rfl) (by kernel_rfl) (fun _ _ _ h => h) (Or.inl ⟨by rfl, fun w h => by obtain ⟨q0, q1, q2, q3, q4, q5, q6, q7, q8, q9, q10, q11, q12, q13, q14, q15⟩ := rnd_cells ((h.block _ (by have e := HS2.out; omega)).trans HR16.out); go_simp⟩) (by assumption) ?_
      try simp only [List.getElem_toArray, List.getElem_cons_succ, List.getElem_cons_zero, Act.put, List.setIfInBounds_toArray, List.set_cons_zero, List.set_cons_succ]
      refine wpAnyH_ready (rs := [0, 3]) (by kernel_rfl) (by simp) ?_
      refine AllReadyH.cons rfl (fun K' hK' => ?_) ?_
      · go_simp
        have HT1 := Lib.hid (TwoR.bldX (n := w2.heap.size) HT.out (by first | rfl | simp))
        clear HT
        have HT := HT1
        clear HT1
        have hS1 := HT.out.bel
        clear hHeld
        refine hK'.out _ _ hS1 (fun hHeld => ?_)
        clear hK' K' hS1
        try simp only [List.getElem_toArray, List.getElem_cons_succ, List.getElem_cons_zero, Act.put, List.setIfInBounds_toArray, List.set_cons_zero, List.set_cons_succ]
        refine wpAnyH_ready (rs := [2, 3]) (by kernel_rfl) (by simp) ?_
        refine AllReadyH.cons rfl (fun K' hK' => ?_) ?_
        · refine rowS_app_step (w0 := w2) w2.heap.size (by rfl) (.tmp 23) (.tmp 24) 22 9 rfl Try.underlying22 infoST _ [] l1 A1 l1.length c1 (by rfl) (by rfl) HT.out.rx (Kd.C_below HC1.out HT.out.bel) HT.out.bel HT.out.bel.size (by simp; omega) ?_
          intro vx wx ho hb hat hf
          have HT1 := Lib.hid (TwoR.appX HT.out ho hf hb hat)
          clear ho hb hat hf HT
          rw [List.nil_append] at HT1
          obtain ⟨Ax, cx, rfl, hcx, _⟩ := Kd.R_reads HT1.out.rx
          have HT := HT1
          clear HT1
          have hS1 := HT.out.bel
          clear hHeld
          refine hK'.out _ _ hS1 (fun hHeld => ?_)
          clear hK' K' hS1
          try simp only [List.getElem_toArray, List.getElem_cons_succ, List.getElem_cons_zero, Act.put, List.setIfInBounds_toArray, List.set_cons_zero, List.set_cons_succ]
          refine wpAnyH_ready (rs := [3]) (by kernel_rfl) (by simp) ?_
          refine AllReadyH.cons rfl (fun K' hK' => ?_) ?_
          · go_simp
            have HT1 := Lib.hid (TwoR.bldY (n := wx.heap.size) HT.out (by first | rfl | simp))
            clear HT
            have HT := HT1
            clear HT1
            have hS1 := HT.out.bel
            clear hHeld
            refine hK'.out _ _ hS1 (fun hHeld => ?_)
            clear hK' K' hS1
            try simp only [List.getElem_toArray, List.getElem_cons_succ, List.getElem_cons_zero, Act.put, List.setIfInBounds_toArray, List.set_cons_zero, List.set_cons_succ]
            refine wpAnyH_ready (rs := [5]) (by kernel_rfl) (by simp) ?_
            refine AllReadyH.cons rfl (fun K' hK' => ?_) ?_
            · refine rowS_app_step (w0 := w2) w2.heap.size (by rfl) (.tmp 26) (.tmp 27) 22 9 rfl Try.underlying22 infoST _ [] l2 A2 l2.length c2 (by rfl) (by rfl) HT.out.ry (Kd.C_below HC2.out HT.out.bel) HT.out.bel HT.out.bel.size (by simp; omega) ?_
              intro vy wy ho hb hat hf
              have HT1 := Lib.hid (TwoR.appY HT.out ho hf hb hat)
              clear ho hb hat hf HT
              rw [List.nil_append] at HT1
              obtain ⟨Ay, cy, rfl, hcy, _⟩ := Kd.R_reads HT1.out.ry
              have HT := HT1
              clear HT1
              have hS1 := HT.out.bel
              clear hHeld
              refine hK'.out _ _ hS1 (fun hHeld => ?_)
              clear hK' K' hS1
              try simp only [List.getElem_toArray, List.getElem_cons_succ, List.getElem_cons_zero, Act.put, List.setIfInBounds_toArray, List.set_cons_zero, List.set_cons_succ]
              obtain ⟨_, _, hCx⟩ := Kd.R_reads' HT.out.rx
              obtain ⟨_, _, hCy⟩ := Kd.R_reads' HT.out.ry
              have HCx := Lib.hid hCx
              have HCy := Lib.hid hCy
              clear hCx hCy
              refine wpAnyH_ready (rs := [8]) (by kernel_rfl) (by simp) ?_
              refine AllReadyH.cons rfl (fun K' hK' => ?_) AllReadyH.nil
              go_simp
              go_at_call 8
              refine (build_all Ax Ay cx cy l1 l2 entry phdr phnum phsize seg hseg r0 r1 r2 r3 r4 r5 r6 r7 r8 r9 r10 r11 r12 r13 r14 r15 _ HCx.out HCy.out hcx hcy HFI.out HEN.out HPH.out).mono ?_
              rintro e wb ⟨vb, sp, rfl, hfb, hyes, hno⟩
              have HBb := Lib.hid (Fr.below HT.out.bel hfb (fun _ _ => id))
              have HLO := Lib.hid HT.out.bel.size
              have HYES := Lib.hid hyes
              have HNO := Lib.hid hno
              have hS1 := HBb.out
              clear hHeld hyes hno hfb HCx HCy
              refine hK'.out _ _ hS1 (fun hHeld => ?_)
              clear hK' K' hS1
              try simp only [List.getElem_toArray, List.getElem_cons_succ, List.getElem_cons_zero, Act.put, List.setIfInBounds_toArray, List.set_cons_zero, List.set_cons_succ]
              refine wpAnyH_take (i := 9) (v := ?_) rfl (by kernel_rfl) (by kernel_rfl) (by kernel_rfl) (fun _ _ _ h => h) (Or.inl ⟨by rfl, ?_⟩) (by assumption) ?_
              rotate_left
              · (intro w hSw; (try dsimp only at hSw); go_simp; first | done | (with_reducible rfl))
              try simp only [List.getElem_toArray, List.getElem_cons_succ, List.getElem_cons_zero, Act.put, List.setIfInBounds_toArray, List.set_cons_zero, List.set_cons_succ]
              refine wpAnyH_take (i := 10) (v := ?_) rfl (by kernel_rfl) (by kernel_rfl) (by kernel_rfl) (fun _ _ _ h => h) (Or.inl ⟨by rfl, ?_⟩) (by assumption) ?_
              rotate_left
              · (intro w hSw; (try dsimp only at hSw); go_simp; first | done | (with_reducible rfl))
              try simp only [List.getElem_toArray, List.getElem_cons_succ, List.getElem_cons_zero, Act.put, List.setIfInBounds_toArray, List.set_cons_zero, List.set_cons_succ]
              refine wpAnyH_take (i := 11) (v := ?_) rfl (by kernel_rfl) (by kernel_rfl) (by kernel_rfl) (fun _ _ _ h => h) (Or.inl ⟨by rfl, ?_⟩) (by assumption) ?_
              rotate_left
              · (intro w hSw; (try dsimp only at hSw); go_simp; first | done | (with_reducible rfl))
              try simp only [List.getElem_toArray, List.getElem_cons_succ, List.getElem_cons_zero, Act.put, List.setIfInBounds_toArray, List.set_cons_zero, List.set_cons_succ]
              refine wpAnyH_take (i := 12) (v := ?_) rfl (by kernel_rfl) (by kernel_rfl) (by kernel_rfl) (fun _ _ _ h => h) (Or.inl ⟨by rfl, ?_⟩) (by assumption) ?_
              rotate_left
              · (intro w hSw; (try dsimp only at hSw); go_simp; first | done | (with_reducible rfl))
              try simp only [List.getElem_toArray, List.getElem_cons_succ, List.getElem_cons_zero, Act.put, List.setIfInBounds_toArray, List.set_cons_zero, List.set_cons_succ]
              refine wpAnyH_take (i := 13) (v := ?_) rfl (by kernel_rfl) (by kernel_rfl) (by kernel_rfl) (fun _ _ _ h => h) (Or.inl ⟨by rfl, ?_⟩) (by assumption) ?_
              rotate_left
              · (intro w hSw; (try dsimp only at hSw); go_simp; first | done | (with_reducible rfl))
              try simp only [List.getElem_toArray, List.getElem_cons_succ, List.getElem_cons_zero, Act.put, List.setIfInBounds_toArray, List.set_cons_zero, List.set_cons_succ]
              refine wpAnyH_take (i := 14) (v := ?_) rfl (by kernel_rfl) (by kernel_rfl) (by kernel_rfl) (fun _ _ _ h => h) (Or.inl ⟨by rfl, ?_⟩) (by assumption) ?_
              rotate_left
              · (intro w hSw; (try dsimp only at hSw); go_simp; first | done | (with_reducible rfl))
              try simp only [List.getElem_toArray, List.getElem_cons_succ, List.getElem_cons_zero, Act.put, List.setIfInBounds_toArray, List.set_cons_zero, List.set_cons_succ]
              refine wpAnyH_take (i := 15) (v := ?_) rfl (by kernel_rfl) (by kernel_rfl) (by kernel_rfl) (fun _ _ _ h => h) (Or.inl ⟨by rfl, ?_⟩) (by assumption) ?_
              rotate_left
              · (intro w hSw; (try dsimp only at hSw); go_simp; first | done | (with_reducible rfl))
              try simp only [List.getElem_toArray, List.getElem_cons_succ, List.getElem_cons_zero, Act.put, List.setIfInBounds_toArray, List.set_cons_zero, List.set_cons_succ]
              refine wpAnyH_done (by kernel_rfl) ?_ _
              refine NoPanic.normal ?_
              go_wp2_with fail
              go_meet
              case rel => exact Lib.hid ⟨vb, sp, rfl, rfl, rfl, HBb.out, fun h0 => ⟨(HYES.out h0).1, (HYES.out h0).2.low HLO.out⟩, HNO.out⟩
            exact AllReadyH.nil
          exact AllReadyH.nil
        refine AllReadyH.cons rfl (fun K' hK' => ?_) ?_
        · go_simp
          have HT1 := Lib.hid (TwoR.bldY (n := w2.heap.size + 1) HT.out (by first | rfl | simp))
          clear HT
          have HT := HT1
          clear HT1
          have hS1 := HT.out.bel
          clear hHeld
          refine hK'.out _ _ hS1 (fun hHeld => ?_)
          clear hK' K' hS1
          try simp only [List.getElem_toArray, List.getElem_cons_succ, List.getElem_cons_zero, Act.put, List.setIfInBounds_toArray, List.set_cons_zero, List.set_cons_succ]
          refine wpAnyH_ready (rs := [2]) (by kernel_rfl) (by simp) ?_
          refine AllReadyH.cons rfl (fun K' hK' => ?_) ?_
          · refine rowS_app_step (w0 := w2) w2.heap.size (by rfl) (.tmp 23) (.tmp 24) 22 9 rfl Try.underlying22 infoST _ [] l1 A1 l1.length c1 (by rfl) (by rfl) HT.out.rx (Kd.C_below HC1.out HT.out.bel) HT.out.bel HT.out.bel.size (by simp; omega) ?_
            intro vx wx ho hb hat hf
            have HT1 := Lib.hid (TwoR.appX HT.out ho hf hb hat)
            clear ho hb hat hf HT
            rw [List.nil_append] at HT1
            obtain ⟨Ax, cx, rfl, hcx, _⟩ := Kd.R_reads HT1.out.rx
            have HT := HT1
            clear HT1
            have hS1 := HT.out.bel
            clear hHeld
            refine hK'.out _ _ hS1 (fun hHeld => ?_)
            clear hK' K' hS1
            try simp only [List.getElem_toArray, List.getElem_cons_succ, List.getElem_cons_zero, Act.put, List.setIfInBounds_toArray, List.set_cons_zero, List.set_cons_succ]
            refine wpAnyH_ready (rs := [5]) (by kernel_rfl) (by simp) ?_
            refine AllReadyH.cons rfl (fun K' hK' => ?_) ?_
            · refine rowS_app_step (w0 := w2) w2.heap.size (by rfl) (.tmp 26) (.tmp 27) 22 9 rfl Try.underlying22 infoST _ [] l2 A2 l2.length c2 (by rfl) (by rfl) HT.out.ry (Kd.C_below HC2.out HT.out.bel) HT.out.bel HT.out.bel.size (by simp; omega) ?_
              intro vy wy ho hb hat hf
              have HT1 := Lib.hid (TwoR.appY HT.out ho hf hb hat)
              clear ho hb hat hf HT
              rw [List.nil_append] at HT1
              obtain ⟨Ay, cy, rfl, hcy, _⟩ := Kd.R_reads HT1.out.ry
              have HT := HT1
              clear HT1
              have hS1 := HT.out.bel
              clear hHeld
              refine hK'.out _ _ hS1 (fun hHeld => ?_)
              clear hK' K' hS1
              try simp only [List.getElem_toArray, List.getElem_cons_succ, List.getElem_cons_zero, Act.put, List.setIfInBounds_toArray, List.set_cons_zero, List.set_cons_succ]
              obtain ⟨_, _, hCx⟩ := Kd.R_reads' HT.out.rx
              obtain ⟨_, _, hCy⟩ := Kd.R_reads' HT.out.ry
              have HCx := Lib.hid hCx
              have HCy := Lib.hid hCy
              clear hCx hCy
              refine wpAnyH_ready (rs := [8]) (by kernel_rfl) (by simp) ?_
              refine AllReadyH.cons rfl (fun K' hK' => ?_) AllReadyH.nil
              go_simp
              go_at_call 8
              refine (build_all Ax Ay cx cy l1 l2 entry phdr phnum phsize seg hseg r0 r1 r2 r3 r4 r5 r6 r7 r8 r9 r10 r11 r12 r13 r14 r15 _ HCx.out HCy.out hcx hcy HFI.out HEN.out HPH.out).mono ?_
              rintro e wb ⟨vb, sp, rfl, hfb, hyes, hno⟩
              have HBb := Lib.hid (Fr.below HT.out.bel hfb (fun _ _ => id))
              have HLO := Lib.hid HT.out.bel.size
              have HYES := Lib.hid hyes
              have HNO := Lib.hid hno
              have hS1 := HBb.out
              clear hHeld hyes hno hfb HCx HCy
              refine hK'.out _ _ hS1 (fun hHeld => ?_)
              clear hK' K' hS1
              try simp only [List.getElem_toArray, List.getElem_cons_succ, List.getElem_cons_zero, Act.put, List.setIfInBounds_toArray, List.set_cons_zero, List.set_cons_succ]
              refine wpAnyH_take (i := 9) (v := ?_) rfl (by kernel_rfl) (by kernel_rfl) (by kernel_rfl) (fun _ _ _ h => h) (Or.inl ⟨by rfl, ?_⟩) (by assumption) ?_
              rotate_left
              · (intro w hSw; (try dsimp only at hSw); go_simp; first | done | (with_reducible rfl))
              try simp only [List.getElem_toArray, List.getElem_cons_succ, List.getElem_cons_zero, Act.put, List.setIfInBounds_toArray, List.set_cons_zero, List.set_cons_succ]
              refine wpAnyH_take (i := 10) (v := ?_) rfl (by kernel_rfl) (by kernel_rfl) (by kernel_rfl) (fun _ _ _ h => h) (Or.inl ⟨by rfl, ?_⟩) (by assumption) ?_
              rotate_left
              · (intro w hSw; (try dsimp only at hSw); go_simp; first | done | (with_reducible rfl))
              try simp only [List.getElem_toArray, List.getElem_cons_succ, List.getElem_cons_zero, Act.put, List.setIfInBounds_toArray, List.set_cons_zero, List.set_cons_succ]
              refine wpAnyH_take (i := 11) (v := ?_) rfl (by kernel_rfl) (by kernel_rfl) (by kernel_rfl) (fun _ _ _ h => h) (Or.inl ⟨by rfl, ?_⟩) (by assumption) ?_
              rotate_left
              · (intro w hSw; (try dsimp only at hSw); go_simp; first | done | (with_reducible rfl))
              try simp only [List.getElem_toArray, List.getElem_cons_succ, List.getElem_cons_zero, Act.put, List.setIfInBounds_toArray, List.set_cons_zero, List.set_cons_succ]
              refine wpAnyH_take (i := 12) (v := ?_) rfl (by kernel_rfl) (by kernel_rfl) (by kernel_rfl) (fun _ _ _ h => h) (Or.inl ⟨by rfl, ?_⟩) (by assumption) ?_
              rotate_left
              · (intro w hSw; (try dsimp only at hSw); go_simp; first | done | (with_reducible rfl))
              try simp only [List.getElem_toArray, List.getElem_cons_succ, List.getElem_cons_zero, Act.put, List.setIfInBounds_toArray, List.set_cons_zero, List.set_cons_succ]
              refine wpAnyH_take (i := 13) (v := ?_) rfl (by kernel_rfl) (by kernel_rfl) (by kernel_rfl) (fun _ _ _ h => h) (Or.inl ⟨by rfl, ?_⟩) (by assumption) ?_
              rotate_left
              · (intro w hSw; (try dsimp only at hSw); go_simp; first | done | (with_reducible rfl))
              try simp only [List.getElem_toArray, List.getElem_cons_succ, List.getElem_cons_zero, Act.put, List.setIfInBounds_toArray, List.set_cons_zero, List.set_cons_succ]
              refine wpAnyH_take (i := 14) (v := ?_) rfl (by kernel_rfl) (by kernel_rfl) (by kernel_rfl) (fun _ _ _ h => h) (Or.inl ⟨by rfl, ?_⟩) (by assumption) ?_
              rotate_left
              · (intro w hSw; (try dsimp only at hSw); go_simp; first | done | (with_reducible rfl))
              try simp only [List.getElem_toArray, List.getElem_cons_succ, List.getElem_cons_zero, Act.put, List.setIfInBounds_toArray, List.set_cons_zero, List.set_cons_succ]
              refine wpAnyH_take (i := 15) (v := ?_) rfl (by kernel_rfl) (by kernel_rfl) (by kernel_rfl) (fun _ _ _ h => h) (Or.inl ⟨by rfl, ?_⟩) (by assumption) ?_
              rotate_left
              · (intro w hSw; (try dsimp only at hSw); go_simp; first | done | (with_reducible rfl))
              try simp only [List.getElem_toArray, List.getElem_cons_succ, List.getElem_cons_zero, Act.put, List.setIfInBounds_toArray, List.set_cons_zero, List.set_cons_succ]
              refine wpAnyH_done (by kernel_rfl) ?_ _
              refine NoPanic.normal ?_
              go_wp2_with fail
              go_meet
              case rel => exact Lib.hid ⟨vb, sp, rfl, rfl, rfl, HBb.out, fun h0 => ⟨(HYES.out h0).1, (HYES.out h0).2.low HLO.out⟩, HNO.out⟩
            exact AllReadyH.nil
          exact AllReadyH.nil
        exact AllReadyH.nil
      refine AllReadyH.cons rfl (fun K' hK' => ?_) ?_
      · go_simp
        have HT1 := Lib.hid (TwoR.bldY (n := w2.heap.size) HT.out (by first | rfl | simp))
        clear HT
        have HT := HT1
        clear HT1
        have hS1 := HT.out.bel
        clear hHeld
        refine hK'.out _ _ hS1 (fun hHeld => ?_)
        clear hK' K' hS1
        try simp only [List.getElem_toArray, List.getElem_cons_succ, List.getElem_cons_zero, Act.put, List.setIfInBounds_toArray, List.set_cons_zero, List.set_cons_succ]
        refine wpAnyH_ready (rs := [0]) (by kernel_rfl) (by simp) ?_
        refine AllReadyH.cons rfl (fun K' hK' => ?_) ?_
        · go_simp
          have HT1 := Lib.hid (TwoR.bldX (n := w2.heap.size + 1) HT.out (by first | rfl | simp))
          clear HT
          have HT := HT1
          clear HT1
          have hS1 := HT.out.bel
          clear hHeld
          refine hK'.out _ _ hS1 (fun hHeld => ?_)
          clear hK' K' hS1
          try simp only [List.getElem_toArray, List.getElem_cons_succ, List.getElem_cons_zero, Act.put, List.setIfInBounds_toArray, List.set_cons_zero, List.set_cons_succ]
          refine wpAnyH_ready (rs := [2]) (by kernel_rfl) (by simp) ?_
          refine AllReadyH.cons rfl (fun K' hK' => ?_) ?_
          · refine rowS_app_step (w0 := w2) w2.heap.size (by rfl) (.tmp 23) (.tmp 24) 22 9 rfl Try.underlying22 infoST _ [] l1 A1 l1.length c1 (by rfl) (by rfl) HT.out.rx (Kd.C_below HC1.out HT.out.bel) HT.out.bel HT.out.bel.size (by simp; omega) ?_
            intro vx wx ho hb hat hf
            have HT1 := Lib.hid (TwoR.appX HT.out ho hf hb hat)
            clear ho hb hat hf HT
            rw [List.nil_append] at HT1
            obtain ⟨Ax, cx, rfl, hcx, _⟩ := Kd.R_reads HT1.out.rx
            have HT := HT1
            clear HT1
            have hS1 := HT.out.bel
            clear hHeld
            refine hK'.out _ _ hS1 (fun hHeld => ?_)
            clear hK' K' hS1
            try simp only [List.getElem_toArray, List.getElem_cons_succ, List.getElem_cons_zero, Act.put, List.setIfInBounds_toArray, List.set_cons_zero, List.set_cons_succ]
            refine wpAnyH_ready (rs := [5]) (by kernel_rfl) (by simp) ?_
            refine AllReadyH.cons rfl (fun K' hK' => ?_) ?_
            · refine rowS_app_step (w0 := w2) w2.heap.size (by rfl) (.tmp 26) (.tmp 27) 22 9 rfl Try.underlying22 infoST _ [] l2 A2 l2.length c2 (by rfl) (by rfl) HT.out.ry (Kd.C_below HC2.out HT.out.bel) HT.out.bel HT.out.bel.size (by simp; omega) ?_
              intro vy wy ho hb hat hf
              have HT1 := Lib.hid (TwoR.appY HT.out ho hf hb hat)
              clear ho hb hat hf HT
              rw [List.nil_append] at HT1
              obtain ⟨Ay, cy, rfl, hcy, _⟩ := Kd.R_reads HT1.out.ry
              have HT := HT1
              clear HT1
              have hS1 := HT.out.bel
              clear hHeld
              refine hK'.out _ _ hS1 (fun hHeld => ?_)
              clear hK' K' hS1
              try simp only [List.getElem_toArray, List.getElem_cons_succ, List.getElem_cons_zero, Act.put, List.setIfInBounds_toArray, List.set_cons_zero, List.set_cons_succ]
              obtain ⟨_, _, hCx⟩ := Kd.R_reads' HT.out.rx
              obtain ⟨_, _, hCy⟩ := Kd.R_reads' HT.out.ry
              have HCx := Lib.hid hCx
              have HCy := Lib.hid hCy
              clear hCx hCy
              refine wpAnyH_ready (rs := [8]) (by kernel_rfl) (by simp) ?_
              refine AllReadyH.cons rfl (fun K' hK' => ?_) AllReadyH.nil
              go_simp
              go_at_call 8
              refine (build_all Ax Ay cx cy l1 l2 entry phdr phnum phsize seg hseg r0 r1 r2 r3 r4 r5 r6 r7 r8 r9 r10 r11 r12 r13 r14 r15 _ HCx.out HCy.out hcx hcy HFI.out HEN.out HPH.out).mono ?_
              rintro e wb ⟨vb, sp, rfl, hfb, hyes, hno⟩
              have HBb := Lib.hid (Fr.below HT.out.bel hfb (fun _ _ => id))
              have HLO := Lib.hid HT.out.bel.size
              have HYES := Lib.hid hyes
              have HNO := Lib.hid hno
              have hS1 := HBb.out
              clear hHeld hyes hno hfb HCx HCy
              refine hK'.out _ _ hS1 (fun hHeld => ?_)
              clear hK' K' hS1
              try simp only [List.getElem_toArray, List.getElem_cons_succ, List.getElem_cons_zero, Act.put, List.setIfInBounds_toArray, List.set_cons_zero, List.set_cons_succ]
              refine wpAnyH_take (i := 9) (v := ?_) rfl (by kernel_rfl) (by kernel_rfl) (by kernel_rfl) (fun _ _ _ h => h) (Or.inl ⟨by rfl, ?_⟩) (by assumption) ?_
              rotate_left
              · (intro w hSw; (try dsimp only at hSw); go_simp; first | done | (with_reducible rfl))
              try simp only [List.getElem_toArray, List.getElem_cons_succ, List.getElem_cons_zero, Act.put, List.setIfInBounds_toArray, List.set_cons_zero, List.set_cons_succ]
              refine wpAnyH_take (i := 10) (v := ?_) rfl (by kernel_rfl) (by kernel_rfl) (by kernel_rfl) (fun _ _ _ h => h) (Or.inl ⟨by rfl, ?_⟩) (by assumption) ?_
              rotate_left
              · (intro w hSw; (try dsimp only at hSw); go_simp; first | done | (with_reducible rfl))
              try simp only [List.getElem_toArray, List.getElem_cons_succ, List.getElem_cons_zero, Act.put, List.setIfInBounds_toArray, List.set_cons_zero, List.set_cons_succ]
              refine wpAnyH_take (i := 11) (v := ?_) rfl (by kernel_rfl) (by kernel_rfl) (by kernel_rfl) (fun _ _ _ h => h) (Or.inl ⟨by rfl, ?_⟩) (by assumption) ?_
              rotate_left
              · (intro w hSw; (try dsimp only at hSw); go_simp; first | done | (with_reducible rfl))
              try simp only [List.getElem_toArray, List.getElem_cons_succ, List.getElem_cons_zero, Act.put, List.setIfInBounds_toArray, List.set_cons_zero, List.set_cons_succ]
              refine wpAnyH_take (i := 12) (v := ?_) rfl (by kernel_rfl) (by kernel_rfl) (by kernel_rfl) (fun _ _ _ h => h) (Or.inl ⟨by rfl, ?_⟩) (by assumption) ?_
              rotate_left
              · (intro w hSw; (try dsimp only at hSw); go_simp; first | done | (with_reducible rfl))
              try simp only [List.getElem_toArray, List.getElem_cons_succ, List.getElem_cons_zero, Act.put, List.setIfInBounds_toArray, List.set_cons_zero, List.set_cons_succ]
              refine wpAnyH_take (i := 13) (v := ?_) rfl (by kernel_rfl) (by kernel_rfl) (by kernel_rfl) (fun _ _ _ h => h) (Or.inl ⟨by rfl, ?_⟩) (by assumption) ?_
              rotate_left
              · (intro w hSw; (try dsimp only at hSw); go_simp; first | done | (with_reducible rfl))
              try simp only [List.getElem_toArray, List.getElem_cons_succ, List.getElem_cons_zero, Act.put, List.setIfInBounds_toArray, List.set_cons_zero, List.set_cons_succ]
              refine wpAnyH_take (i := 14) (v := ?_) rfl (by kernel_rfl) (by kernel_rfl) (by kernel_rfl) (fun _ _ _ h => h) (Or.inl ⟨by rfl, ?_⟩) (by assumption) ?_
              rotate_left
              · (intro w hSw; (try dsimp only at hSw); go_simp; first | done | (with_reducible rfl))
              try simp only [List.getElem_toArray, List.getElem_cons_succ, List.getElem_cons_zero, Act.put, List.setIfInBounds_toArray, List.set_cons_zero, List.set_cons_succ]
              refine wpAnyH_take (i := 15) (v := ?_) rfl (by kernel_rfl) (by kernel_rfl) (by kernel_rfl) (fun _ _ _ h => h) (Or.inl ⟨by rfl, ?_⟩) (by assumption) ?_
              rotate_left
              · (intro w hSw; (try dsimp only at hSw); go_simp; first | done | (with_reducible rfl))
              try simp only [List.getElem_toArray, List.getElem_cons_succ, List.getElem_cons_zero, Act.put, List.setIfInBounds_toArray, List.set_cons_zero, List.set_cons_succ]
              refine wpAnyH_done (by kernel_rfl) ?_ _
              refine NoPanic.normal ?_
              go_wp2_with fail
              go_meet
              case rel => exact Lib.hid ⟨vb, sp, rfl, rfl, rfl, HBb.out, fun h0 => ⟨(HYES.out h0).1, (HYES.out h0).2.low HLO.out⟩, HNO.out⟩
            exact AllReadyH.nil
          exact AllReadyH.nil
        exact AllReadyH.nil
      exact AllReadyH.nil
    case rest =>
      obtain ⟨vb, sp, rfl, rfl, rfl, hbel, hyes, hno⟩ := hcut.out
      have HBC := Lib.hid hbel
      have HYES := Lib.hid hyes
      have HNO := Lib.hid hno
      clear hcut hbel hyes hno
      obtain ⟨ck, hck⟩ : ∃ c, chk [l1, l2] = c := ⟨_, rfl⟩
      have HCK := Lib.hid hck
      rw [hck] at HYES HNO ⊢
      clear hck
      go_wp2_with fail
      refine (refused_any A1 A2 c1 c2 l1 l2 _ (Kd.C_below HC1.out HBC.out) (Kd.C_below HC2.out HBC.out) HFI.out).mono ?_
      rintro e wr ⟨rfl, rfl⟩
      rw [HCK.out]
      go_wp2_with fail
      refine (answers_any _).mono ?_
      rintro e wd ⟨rfl, hfd⟩
      have HBD := Lib.hid (Fr.below HBC.out hfd (fun _ _ => id))
      have HFD := Lib.hid hfd
      clear hfd
      have b0 : (ck != ck) = false := by simp
      have b0' : (ck == ck) = true := by simp
      by_cases h0 : ck = 0
      · have hy := HYES.out h0
        have b1 : (ck != 0) = false := by rw [h0]; rfl
        have b1' : (ck == 0) = true := by rw [h0]; rfl
        have HO1 := Lib.hid hy.2
        have HFIT := Lib.hid (chk_fits (HCK.out.trans h0))
        obtain ⟨q0, q1, q2, q3, q4⟩ := prog_cells ((HBD.out.block _ (by have e := HS2.out; omega)).trans HP.out)
        obtain ⟨rq0, rq1, rq2, rq3, rq4, rq5, rq6, rq7, rq8, rq9, rq10, rq11, rq12, rq13, rq14, rq15⟩ := rnd_cells ((HBD.out.block _ (by have e := HS2.out; omega)).trans HR16.out)
        obtain ⟨O, hO⟩ : ∃ l, outOf (baseOf l1 l2) (wordsOf (baseOf l1 l2) l1 l2 entry phdr phnum phsize) (txOf l1 ++ txOf l2 ++ [r0, r1, r2, r3, r4, r5, r6, r7, r8, r9, r10, r11, r12, r13, r14, r15]) = l := ⟨_, rfl⟩
        have HO := Lib.hid hO
        have hsp := hy.1
        obtain ⟨sq, hsq⟩ : ∃ s, spOf (baseOf l1 l2) (wordsOf (baseOf l1 l2) l1 l2 entry phdr phnum phsize).length = s := ⟨_, rfl⟩
        have HSQ := Lib.hid hsq
        rw [hsq] at hsp
        subst hsp
        rw [hO] at HO1
        obtain ⟨A7, c7, rfl, hc7, hC7⟩ := HO1.out.form
        have HC7 := Lib.hid hC7
        clear hy hO hsq hC7 HYES HNO
        go_wp2_with fail
        refine (rbuild_yes A1 A2 c1 c2 l1 l2 entry phdr phnum phsize seg hseg r0 r1 r2 r3 r4 r5 r6 r7 r8 r9 r10 r11 r12 r13 r14 r15 _ (Kd.C_below HC1.out HBD.out) (Kd.C_below HC2.out HBD.out) HFIT.out HEN.out HPH.out).mono ?_
        rintro e we ⟨v2, rfl, ho2, hfe⟩
        rw [HO.out] at ho2
        rw [HSQ.out]
        obtain ⟨A8, c8, rfl, hc8, hC8⟩ := ho2.form
        have HC8 := Lib.hid hC8
        have HC7e := Lib.hid (Kd.C_below HC7.out (Fr.below (Below.refl _ _) (HFD.out.trans hfe (fun _ _ => id)) (fun _ _ => id)))
        have HBE := Lib.hid (Fr.below HBD.out hfe (fun _ _ => id))
        have b2 : (sp == sp) = true := beq_self_eq_true _
        clear ho2 hfe hC8
        go_wp2_with fail
        refine (By.same_any A7 A8 c7 c8 O O _ HC7e.out HC8.out).mono ?_
        rintro e wf ⟨rfl, hdf⟩
        have HBF := Lib.hid (Fr.below HBE.out (Fr.drawn (S := fun _ => False) hdf) (fun _ _ => id))
        have b3 : decide (O = O) = true := decide_eq_true rfl
        clear hdf
        go_wp2_with fail
        go_ret
        exact ⟨rfl, HF2.out.trans (Fr.of_below (S := fun _ => False) HBF.out) (fun _ _ => id)⟩
      · obtain ⟨rfl, rfl⟩ := HNO.out h0
        have b1 : (ck != 0) = true := by simpa using h0
        have b1' : (ck == 0) = false := by simpa using h0
        go_wp2_with fail
        go_ret
        exact ⟨rfl, HF2.out.trans (Fr.of_below (S := fun _ => False) HBD.out) (fun _ _ => id)⟩
theorem builds_walk (a0 a1 a2 a3 : Value) (W : World) (w0 : Texts W a0) (w1 : Texts W a1) (w2 : Prg a2) (w3 : Rnd a3) : Calls Try.prog 3 #[a0, a1, a2, a3] W fun e W' => e = .returned (.bool true) ∧ Below W.heap.size W W' := by
  obtain ⟨A1, c1, l1, rfl, hc1, hn1, hC1, hs1⟩ := w0
  obtain ⟨A2, c2, l2, rfl, hc2, hn2, hC2, hs2⟩ := w1
  obtain ⟨entry, phdr, phnum, phsize, seg, rfl, hseg, hen, hph⟩ := w2
  obtain ⟨rs, hr, _, rfl⟩ := w3
  match rs, hr with
  | [r0, r1, r2, r3, r4, r5, r6, r7, r8, r9, r10, r11, r12, r13, r14, r15], _ => exact (builds_in A1 A2 c1 c2 l1 l2 entry phdr phnum phsize seg hseg r0 r1 r2 r3 r4 r5 r6 r7 r8 r9 r10 r11 r12 r13 r14 r15 W hC1 hC2 (by omega) hs1 hs2 hen hph).mono fun _ _ g => ⟨g.1, Fr.below (Below.refl _ _) g.2 (fun _ _ => id)⟩
end Go.Proofs.Ytnoeehdccknhnaa.St
