/- The contracts of the document's one (over a row in a block), withImm and atomic (through a pointer to an instruction). -/
import Derived.Test.YtnopppamfleniaaInsD
import Derived.LoopTactic
import Derived.Outline
namespace Go.Proofs.Ytnopppamfleniaa.Ins
open Go Go.RowKit Go.Proofs.YtnopppamfleniaaW.PrintWords Go.Proofs.YtnopppamfleniaaW.PrintLast Go.Proofs.YtnopppamfleniaaW.PrintMore
open Go.Proofs.Ytnopppamfleniaa.Hp Go.Proofs.Ytnopppamfleniaa.Bv
attribute [local go_sem] max2_int min2_int max_two min_two max_three min_three max_four min_four
set_option linter.unusedVariables false
set_option linter.unusedSimpArgs false
theorem reads_blk {W : World} {g : Nat} {t : TypeId} {l : List Int} (hb : Blk W g t (nums .i64 l).toArray) (hl : l.length ≤ 9223372036854775807) : Kd.C (Kd.int .i64) W (some ⟨g, 0, none⟩) l.length l := by
  refine Kd.C_of_reads (enc := Value.int .i64) (d := 0) (h1 := fun _ => rfl) ?_
  refine ⟨rfl, hl, fun _ => ⟨_, rfl, fun j hj => ?_⟩⟩
  rw [add_plain, hb.cell j]
  simp [nums, List.getD_eq_getElem?_getD, hj]
theorem one_fr (l : List Int) (hl : l.length ≤ 100) (k g c : Nat) (hc : l.length ≤ c) (t : TypeId) (W : World) (hb : Blk W g t (nums .i64 l).toArray) :
    Calls Try.prog 28 #[.slice (some ⟨g, 0, none⟩) l.length c, .int .i64 (k : Int)] W fun e w' => e = .returned (.int .i64 (oneP l k)) ∧ Fr (fun _ => False) W w' :=
  (InsB.marionetteref03_one.calls _ _ _ _ _ W (reads_blk hb (by omega)) hc (one_f l k)).mono fun _ _ g => ⟨g.1, Fr.drawn g.2⟩
theorem F_fr (h hi lo n : Nat) (hh : h < 4294967296) (hhi : hi ≤ 31) (hl : lo ≤ hi + 1) (hn : hi + 1 - lo = n) (W : World) : Calls Try.prog 26 #[.int .u32 (h : Int), .int .i64 (hi : Int), .int .i64 (lo : Int)] W fun e w' => e = .returned (.int .i64 ((fld h lo n : Nat) : Int)) ∧ Fr (fun _ => False) W w' :=
  (F_any h hi lo hh hhi hl W).mono fun _ _ g => ⟨g.1.trans (by unfold fN fld; rw [hn]), Fr.drawn g.2⟩
theorem S_fr (n w : Nat) (h1 : 1 ≤ w) (hw : w ≤ 31) (hn : n < 4294967296) (W : World) : Calls Try.prog 27 #[.int .i64 (n : Int), .int .i64 (w : Int)] W fun e w' => e = .returned (.int .i64 (sg n w)) ∧ Fr (fun _ => False) W w' :=
  (S_any n w h1 hw hn W).mono fun _ _ g => ⟨g.1, Fr.drawn g.2⟩
/-- What a call that writes into block g leaves. -/
structure PS (W v : World) (g : Nat) (x0 x1 x2 x3 x4 x5 x6 : Int) : Prop where
  f : Fr (fun k => k = g) W v
  b : Blk v g 24 #[.int .i64 x0, .int .i64 x1, .int .i64 x2, .int .i64 x3, .int .i64 x4, .int .i64 x5, .int .i64 x6]
theorem PS.fr {W v v' : World} {g : Nat} {x0 x1 x2 x3 x4 x5 x6 : Int} (t : PS W v g x0 x1 x2 x3 x4 x5 x6) (k : Fr (fun _ => False) v v') : PS W v' g x0 x1 x2 x3 x4 x5 x6 := ⟨t.f.trans k (fun _ _ h => h.elim), t.b.fr k id⟩
theorem PS.al {W v : World} {g : Nat} {x0 x1 x2 x3 x4 x5 x6 : Int} (t : PS W v g x0 x1 x2 x3 x4 x5 x6) (ob : Obj) : PS W (v.alloc ob) g x0 x1 x2 x3 x4 x5 x6 := ⟨t.f.alloc ob, t.b.alloc ob⟩
theorem PS.s0 {W v : World} {g : Nat} {x0 x1 x2 x3 x4 x5 x6 : Int} (t : PS W v g x0 x1 x2 x3 x4 x5 x6) (u : Int) : PS W (v.setCell ⟨g, 0, none⟩ (.int .i64 u)) g u x1 x2 x3 x4 x5 x6 := ⟨t.f.setCell (Or.inl rfl) _, by have e := t.b.set 0 (.int .i64 u); simpa [Blk] using e⟩
theorem PS.s4 {W v : World} {g : Nat} {x0 x1 x2 x3 x4 x5 x6 : Int} (t : PS W v g x0 x1 x2 x3 x4 x5 x6) (u : Int) : PS W (v.setCell ⟨g, 4, none⟩ (.int .i64 u)) g x0 x1 x2 x3 u x5 x6 := ⟨t.f.setCell (Or.inl rfl) _, by have e := t.b.set 4 (.int .i64 u); simpa [Blk] using e⟩
theorem insR_sq0 (w : Nat) (hw : w < 4294967296) : Hid (∀ W, Calls Try.prog 26 #[.int .u32 (w : Int), .int .i64 6, .int .i64 0] W fun e w' => e = .returned (.int .i64 ((fld w 0 7 : Nat) : Int)) ∧ Fr (fun _ => False) W w') := Lib.hid (F_fr w 6 0 7 hw (by decide) (by decide) rfl)
theorem insR_sq1 (w : Nat) (hw : w < 4294967296) : Hid (∀ W, Calls Try.prog 26 #[.int .u32 (w : Int), .int .i64 25, .int .i64 20] W fun e w' => e = .returned (.int .i64 (((fld w 20 6 : Nat) : Int))) ∧ Fr (fun _ => False) W w') := Lib.hid (F_fr w 25 20 6 hw (by decide) (by decide) rfl)
theorem insR_sq2 (w : Nat) (hw : w < 4294967296) : Hid (∀ W, Calls Try.prog 26 #[.int .u32 (w : Int), .int .i64 24, .int .i64 20] W fun e w' => e = .returned (.int .i64 (((fld w 20 5 : Nat) : Int))) ∧ Fr (fun _ => False) W w') := Lib.hid (F_fr w 24 20 5 hw (by decide) (by decide) rfl)
set_option maxHeartbeats 2000000 in
theorem rwith_a0 (w : Nat) (hw : w < 4294967296) (f g : Nat) (hf3 : fld w 12 3 = f) (x0 x1 x2 x3 x4 x5 x6 : Int) (W : World) (hb : Blk W g 24 #[.int .i64 x0, .int .i64 x1, .int .i64 x2, .int .i64 x3, .int .i64 x4, .int .i64 x5, .int .i64 x6]) (ck : fld w 0 7 = 19) (n1 : f ≠ 1) (n5 : f ≠ 5) :
    Calls Try.prog 29 #[.int .u32 (w : Int), .int .i64 (f : Int), .pointer (some ⟨g, 0, none⟩)] W fun e w' => e = .returned (.tuple #[]) ∧ PS W w' g (oneP [22, 0, 23, 24, 25, 0, 26, 27] f) x1 x2 x3 x4 x5 x6 := by
  have t1 : ((f : Int) == 1) = false := beq_eq_false_iff_ne.2 (by omega)
  have t5 : ((f : Int) == 5) = false := beq_eq_false_iff_ne.2 (by omega)
  have HK := insR_sq0 w hw
  rw [ck] at HK
  have HK := Lib.hid (show ∀ W, Calls Try.prog 26 #[.int .u32 (w : Int), .int .i64 6, .int .i64 0] W fun e w' => e = .returned (.int .i64 19) ∧ Fr (fun _ => False) W w' from HK.out)
  have HO := Lib.hid (show ∀ g W, Blk W g 3 #[.int .i64 22, .int .i64 0, .int .i64 23, .int .i64 24, .int .i64 25, .int .i64 0, .int .i64 26, .int .i64 27] → Calls Try.prog 28 #[.slice (some ⟨g, 0, none⟩) 8 8, .int .i64 (f : Int)] W fun e w' => e = .returned (.int .i64 (oneP [22, 0, 23, 24, 25, 0, 26, 27] f)) ∧ Fr (fun _ => False) W w' from fun g W hb => one_fr [22, 0, 23, 24, 25, 0, 26, 27] (by decide) f g 8 (by decide) 3 W hb)
  have HS := Lib.hid (show PS W W g x0 x1 x2 x3 x4 x5 x6 from ⟨Fr.refl _ _, hb⟩)
  clear hf3 hb ck n1 n5
  generalize oneP [22, 0, 23, 24, 25, 0, 26, 27] f = q0 at *
  generalize (f : Int) = y at *
  go_enter Try.func29, Try.ntmps29
  go_wp2_with fail
  refine (HK.out _).mono ?_
  rintro e v0 ⟨rfl, hf⟩
  have HS := Lib.hid (HS.out.fr hf)
  clear hf
  go_wp2_with fail
  refine (HO.out _ _ (Blk.new _ _ _)).mono ?_
  rintro e v1 ⟨rfl, hf⟩
  have HS := Lib.hid ((HS.out.al (.cells #[.int .i64 22, .int .i64 0, .int .i64 23, .int .i64 24, .int .i64 25, .int .i64 0, .int .i64 26, .int .i64 27] 3)).fr hf)
  clear hf
  have k0 := HS.out.b.cell 0
  have k4 := HS.out.b.cell 4
  have f0 := HS.out.b.frozen 0
  have f4 := HS.out.b.frozen 4
  simp at k0 k4
  go_wp2_with fail
  exact bodyPost_ret (by kernel_rfl) rfl ⟨rfl, HS.out.s0 _⟩
set_option maxHeartbeats 2000000 in
theorem rwith_a1l (w : Nat) (hw : w < 4294967296) (f g : Nat) (hf3 : fld w 12 3 = f) (x0 x1 x2 x3 x4 x5 x6 : Int) (W : World) (hb : Blk W g 24 #[.int .i64 x0, .int .i64 x1, .int .i64 x2, .int .i64 x3, .int .i64 x4, .int .i64 x5, .int .i64 x6]) (ck : fld w 0 7 = 19) (hf : f = 1) (cu : fld w 26 6 = 0) :
    Calls Try.prog 29 #[.int .u32 (w : Int), .int .i64 (f : Int), .pointer (some ⟨g, 0, none⟩)] W fun e w' => e = .returned (.tuple #[]) ∧ PS W w' g 28 x1 x2 x3 ((fld w 20 6 : Nat) : Int) x5 x6 := by
  subst hf
  have HK := insR_sq0 w hw
  rw [ck] at HK
  have HK := Lib.hid (show ∀ W, Calls Try.prog 26 #[.int .u32 (w : Int), .int .i64 6, .int .i64 0] W fun e w' => e = .returned (.int .i64 19) ∧ Fr (fun _ => False) W w' from HK.out)
  have HO := Lib.hid (show ∀ g W, Blk W g 3 #[.int .i64 22, .int .i64 0, .int .i64 23, .int .i64 24, .int .i64 25, .int .i64 0, .int .i64 26, .int .i64 27] → Calls Try.prog 28 #[.slice (some ⟨g, 0, none⟩) 8 8, .int .i64 1] W fun e w' => e = .returned (.int .i64 (oneP [22, 0, 23, 24, 25, 0, 26, 27] 1)) ∧ Fr (fun _ => False) W w' from fun g W hb => one_fr [22, 0, 23, 24, 25, 0, 26, 27] (by decide) 1 g 8 (by decide) 3 W hb)
  have HN := insR_sq1 w hw
  have HU := Lib.hid (show ∀ W, Calls Try.prog 26 #[.int .u32 (w : Int), .int .i64 31, .int .i64 26] W fun e w' => e = .returned (.int .i64 (0)) ∧ Fr (fun _ => False) W w' from fun W => by have g := F_fr w 31 26 6 hw (by decide) (by decide) rfl W; rw [cu] at g; exact g)
  have HS := Lib.hid (show PS W W g x0 x1 x2 x3 x4 x5 x6 from ⟨Fr.refl _ _, hb⟩)
  clear hf3 hb ck cu
  generalize oneP [22, 0, 23, 24, 25, 0, 26, 27] 1 = q0 at *
  generalize fld w 20 6 = n at *
  go_enter Try.func29, Try.ntmps29
  go_wp2_with fail
  refine (HK.out _).mono ?_
  rintro e v0 ⟨rfl, hf⟩
  have HS := Lib.hid (HS.out.fr hf)
  clear hf
  go_wp2_with fail
  refine (HO.out _ _ (Blk.new _ _ _)).mono ?_
  rintro e v1 ⟨rfl, hf⟩
  have HS := Lib.hid ((HS.out.al (.cells #[.int .i64 22, .int .i64 0, .int .i64 23, .int .i64 24, .int .i64 25, .int .i64 0, .int .i64 26, .int .i64 27] 3)).fr hf)
  clear hf
  have k0 := HS.out.b.cell 0
  have k4 := HS.out.b.cell 4
  have f0 := HS.out.b.frozen 0
  have f4 := HS.out.b.frozen 4
  simp at k0 k4
  go_upto_region 3 with (fail)
  have HS := Lib.hid (HS.out.s0 q0)
  clear k0 k4 f0 f4
  generalize v1.setCell ⟨g, 0, none⟩ (.int .i64 q0) = v2 at *
  go_wp2_with fail
  refine (HN.out _).mono ?_
  rintro e v3 ⟨rfl, hf⟩
  have HS := Lib.hid (HS.out.fr hf)
  clear hf
  have k0 := HS.out.b.cell 0
  have k4 := HS.out.b.cell 4
  have f0 := HS.out.b.frozen 0
  have f4 := HS.out.b.frozen 4
  simp at k0 k4
  go_upto_region 4 with (fail)
  have HS := Lib.hid (HS.out.s4 (n : Int))
  clear k0 k4 f0 f4
  generalize v3.setCell ⟨g, 4, none⟩ (.int .i64 (n : Int)) = v4 at *
  go_wp2_with fail
  refine (HU.out _).mono ?_
  rintro e v5 ⟨rfl, hf⟩
  have HS := Lib.hid (HS.out.fr hf)
  clear hf
  have k0 := HS.out.b.cell 0
  have k4 := HS.out.b.cell 4
  have f0 := HS.out.b.frozen 0
  have f4 := HS.out.b.frozen 4
  simp at k0 k4
  go_wp2_with fail
  exact bodyPost_ret (by kernel_rfl) rfl ⟨rfl, HS.out.s0 _⟩
set_option maxHeartbeats 2000000 in
theorem rwith_a1n (w : Nat) (hw : w < 4294967296) (f g : Nat) (hf3 : fld w 12 3 = f) (x0 x1 x2 x3 x4 x5 x6 : Int) (W : World) (hb : Blk W g 24 #[.int .i64 x0, .int .i64 x1, .int .i64 x2, .int .i64 x3, .int .i64 x4, .int .i64 x5, .int .i64 x6]) (ck : fld w 0 7 = 19) (hf : f = 1) (cu : fld w 26 6 ≠ 0) :
    Calls Try.prog 29 #[.int .u32 (w : Int), .int .i64 (f : Int), .pointer (some ⟨g, 0, none⟩)] W fun e w' => e = .returned (.tuple #[]) ∧ PS W w' g (oneP [22, 0, 23, 24, 25, 0, 26, 27] 1) x1 x2 x3 ((fld w 20 6 : Nat) : Int) x5 x6 := by
  subst hf
  have HK := insR_sq0 w hw
  rw [ck] at HK
  have HK := Lib.hid (show ∀ W, Calls Try.prog 26 #[.int .u32 (w : Int), .int .i64 6, .int .i64 0] W fun e w' => e = .returned (.int .i64 19) ∧ Fr (fun _ => False) W w' from HK.out)
  have HO := Lib.hid (show ∀ g W, Blk W g 3 #[.int .i64 22, .int .i64 0, .int .i64 23, .int .i64 24, .int .i64 25, .int .i64 0, .int .i64 26, .int .i64 27] → Calls Try.prog 28 #[.slice (some ⟨g, 0, none⟩) 8 8, .int .i64 1] W fun e w' => e = .returned (.int .i64 (oneP [22, 0, 23, 24, 25, 0, 26, 27] 1)) ∧ Fr (fun _ => False) W w' from fun g W hb => one_fr [22, 0, 23, 24, 25, 0, 26, 27] (by decide) 1 g 8 (by decide) 3 W hb)
  have HN := insR_sq1 w hw
  have HU := Lib.hid (show ∀ W, Calls Try.prog 26 #[.int .u32 (w : Int), .int .i64 31, .int .i64 26] W fun e w' => e = .returned (.int .i64 (((fld w 26 6 : Nat) : Int))) ∧ Fr (fun _ => False) W w' from F_fr w 31 26 6 hw (by decide) (by decide) rfl)
  have u0 : (((fld w 26 6 : Nat) : Int) == 0) = false := beq_eq_false_iff_ne.2 (by omega)
  have HS := Lib.hid (show PS W W g x0 x1 x2 x3 x4 x5 x6 from ⟨Fr.refl _ _, hb⟩)
  clear hf3 hb ck cu
  generalize oneP [22, 0, 23, 24, 25, 0, 26, 27] 1 = q0 at *
  generalize fld w 20 6 = n at *
  generalize fld w 26 6 = u at *
  generalize (u : Int) = y at *
  go_enter Try.func29, Try.ntmps29
  go_wp2_with fail
  refine (HK.out _).mono ?_
  rintro e v0 ⟨rfl, hf⟩
  have HS := Lib.hid (HS.out.fr hf)
  clear hf
  go_wp2_with fail
  refine (HO.out _ _ (Blk.new _ _ _)).mono ?_
  rintro e v1 ⟨rfl, hf⟩
  have HS := Lib.hid ((HS.out.al (.cells #[.int .i64 22, .int .i64 0, .int .i64 23, .int .i64 24, .int .i64 25, .int .i64 0, .int .i64 26, .int .i64 27] 3)).fr hf)
  clear hf
  have k0 := HS.out.b.cell 0
  have k4 := HS.out.b.cell 4
  have f0 := HS.out.b.frozen 0
  have f4 := HS.out.b.frozen 4
  simp at k0 k4
  go_upto_region 3 with (fail)
  have HS := Lib.hid (HS.out.s0 q0)
  clear k0 k4 f0 f4
  generalize v1.setCell ⟨g, 0, none⟩ (.int .i64 q0) = v2 at *
  go_wp2_with fail
  refine (HN.out _).mono ?_
  rintro e v3 ⟨rfl, hf⟩
  have HS := Lib.hid (HS.out.fr hf)
  clear hf
  have k0 := HS.out.b.cell 0
  have k4 := HS.out.b.cell 4
  have f0 := HS.out.b.frozen 0
  have f4 := HS.out.b.frozen 4
  simp at k0 k4
  go_upto_region 4 with (fail)
  have HS := Lib.hid (HS.out.s4 (n : Int))
  clear k0 k4 f0 f4
  generalize v3.setCell ⟨g, 4, none⟩ (.int .i64 (n : Int)) = v4 at *
  go_wp2_with fail
  refine (HU.out _).mono ?_
  rintro e v5 ⟨rfl, hf⟩
  have HS := Lib.hid (HS.out.fr hf)
  clear hf
  have k0 := HS.out.b.cell 0
  have k4 := HS.out.b.cell 4
  have f0 := HS.out.b.frozen 0
  have f4 := HS.out.b.frozen 4
  simp at k0 k4
  go_wp2_with fail
  exact bodyPost_ret (by kernel_rfl) rfl ⟨rfl, HS.out⟩
set_option maxHeartbeats 2000000 in
theorem rwith_a5r (w : Nat) (hw : w < 4294967296) (f g : Nat) (hf3 : fld w 12 3 = f) (x0 x1 x2 x3 x4 x5 x6 : Int) (W : World) (hb : Blk W g 24 #[.int .i64 x0, .int .i64 x1, .int .i64 x2, .int .i64 x3, .int .i64 x4, .int .i64 x5, .int .i64 x6]) (ck : fld w 0 7 = 19) (hf : f = 5) (cu : fld w 26 6 = 0) :
    Calls Try.prog 29 #[.int .u32 (w : Int), .int .i64 (f : Int), .pointer (some ⟨g, 0, none⟩)] W fun e w' => e = .returned (.tuple #[]) ∧ PS W w' g 29 x1 x2 x3 ((fld w 20 6 : Nat) : Int) x5 x6 := by
  subst hf
  have HK := insR_sq0 w hw
  rw [ck] at HK
  have HK := Lib.hid (show ∀ W, Calls Try.prog 26 #[.int .u32 (w : Int), .int .i64 6, .int .i64 0] W fun e w' => e = .returned (.int .i64 19) ∧ Fr (fun _ => False) W w' from HK.out)
  have HO := Lib.hid (show ∀ g W, Blk W g 3 #[.int .i64 22, .int .i64 0, .int .i64 23, .int .i64 24, .int .i64 25, .int .i64 0, .int .i64 26, .int .i64 27] → Calls Try.prog 28 #[.slice (some ⟨g, 0, none⟩) 8 8, .int .i64 5] W fun e w' => e = .returned (.int .i64 (oneP [22, 0, 23, 24, 25, 0, 26, 27] 5)) ∧ Fr (fun _ => False) W w' from fun g W hb => one_fr [22, 0, 23, 24, 25, 0, 26, 27] (by decide) 5 g 8 (by decide) 3 W hb)
  have HN := insR_sq1 w hw
  have HU := Lib.hid (show ∀ W, Calls Try.prog 26 #[.int .u32 (w : Int), .int .i64 31, .int .i64 26] W fun e w' => e = .returned (.int .i64 (0)) ∧ Fr (fun _ => False) W w' from fun W => by have g := F_fr w 31 26 6 hw (by decide) (by decide) rfl W; rw [cu] at g; exact g)
  have HS := Lib.hid (show PS W W g x0 x1 x2 x3 x4 x5 x6 from ⟨Fr.refl _ _, hb⟩)
  clear hf3 hb ck cu
  generalize oneP [22, 0, 23, 24, 25, 0, 26, 27] 5 = q0 at *
  generalize fld w 20 6 = n at *
  go_enter Try.func29, Try.ntmps29
  go_wp2_with fail
  refine (HK.out _).mono ?_
  rintro e v0 ⟨rfl, hf⟩
  have HS := Lib.hid (HS.out.fr hf)
  clear hf
  go_wp2_with fail
  refine (HO.out _ _ (Blk.new _ _ _)).mono ?_
  rintro e v1 ⟨rfl, hf⟩
  have HS := Lib.hid ((HS.out.al (.cells #[.int .i64 22, .int .i64 0, .int .i64 23, .int .i64 24, .int .i64 25, .int .i64 0, .int .i64 26, .int .i64 27] 3)).fr hf)
  clear hf
  have k0 := HS.out.b.cell 0
  have k4 := HS.out.b.cell 4
  have f0 := HS.out.b.frozen 0
  have f4 := HS.out.b.frozen 4
  simp at k0 k4
  go_upto_region 3 with (fail)
  have HS := Lib.hid (HS.out.s0 q0)
  clear k0 k4 f0 f4
  generalize v1.setCell ⟨g, 0, none⟩ (.int .i64 q0) = v2 at *
  go_wp2_with fail
  refine (HN.out _).mono ?_
  rintro e v3 ⟨rfl, hf⟩
  have HS := Lib.hid (HS.out.fr hf)
  clear hf
  have k0 := HS.out.b.cell 0
  have k4 := HS.out.b.cell 4
  have f0 := HS.out.b.frozen 0
  have f4 := HS.out.b.frozen 4
  simp at k0 k4
  go_upto_region 4 with (fail)
  have HS := Lib.hid (HS.out.s4 (n : Int))
  clear k0 k4 f0 f4
  generalize v3.setCell ⟨g, 4, none⟩ (.int .i64 (n : Int)) = v4 at *
  go_wp2_with fail
  refine (HU.out _).mono ?_
  rintro e v5 ⟨rfl, hf⟩
  have HS := Lib.hid (HS.out.fr hf)
  clear hf
  have k0 := HS.out.b.cell 0
  have k4 := HS.out.b.cell 4
  have f0 := HS.out.b.frozen 0
  have f4 := HS.out.b.frozen 4
  simp at k0 k4
  go_wp2_with fail
  exact bodyPost_ret (by kernel_rfl) rfl ⟨rfl, HS.out.s0 _⟩
set_option maxHeartbeats 2000000 in
theorem rwith_a5s (w : Nat) (hw : w < 4294967296) (f g : Nat) (hf3 : fld w 12 3 = f) (x0 x1 x2 x3 x4 x5 x6 : Int) (W : World) (hb : Blk W g 24 #[.int .i64 x0, .int .i64 x1, .int .i64 x2, .int .i64 x3, .int .i64 x4, .int .i64 x5, .int .i64 x6]) (ck : fld w 0 7 = 19) (hf : f = 5) (cu : fld w 26 6 = 16) :
    Calls Try.prog 29 #[.int .u32 (w : Int), .int .i64 (f : Int), .pointer (some ⟨g, 0, none⟩)] W fun e w' => e = .returned (.tuple #[]) ∧ PS W w' g 30 x1 x2 x3 ((fld w 20 6 : Nat) : Int) x5 x6 := by
  subst hf
  have HK := insR_sq0 w hw
  rw [ck] at HK
  have HK := Lib.hid (show ∀ W, Calls Try.prog 26 #[.int .u32 (w : Int), .int .i64 6, .int .i64 0] W fun e w' => e = .returned (.int .i64 19) ∧ Fr (fun _ => False) W w' from HK.out)
  have HO := Lib.hid (show ∀ g W, Blk W g 3 #[.int .i64 22, .int .i64 0, .int .i64 23, .int .i64 24, .int .i64 25, .int .i64 0, .int .i64 26, .int .i64 27] → Calls Try.prog 28 #[.slice (some ⟨g, 0, none⟩) 8 8, .int .i64 5] W fun e w' => e = .returned (.int .i64 (oneP [22, 0, 23, 24, 25, 0, 26, 27] 5)) ∧ Fr (fun _ => False) W w' from fun g W hb => one_fr [22, 0, 23, 24, 25, 0, 26, 27] (by decide) 5 g 8 (by decide) 3 W hb)
  have HN := insR_sq1 w hw
  have HU := Lib.hid (show ∀ W, Calls Try.prog 26 #[.int .u32 (w : Int), .int .i64 31, .int .i64 26] W fun e w' => e = .returned (.int .i64 (16)) ∧ Fr (fun _ => False) W w' from fun W => by have g := F_fr w 31 26 6 hw (by decide) (by decide) rfl W; rw [cu] at g; exact g)
  have HS := Lib.hid (show PS W W g x0 x1 x2 x3 x4 x5 x6 from ⟨Fr.refl _ _, hb⟩)
  clear hf3 hb ck cu
  generalize oneP [22, 0, 23, 24, 25, 0, 26, 27] 5 = q0 at *
  generalize fld w 20 6 = n at *
  go_enter Try.func29, Try.ntmps29
  go_wp2_with fail
  refine (HK.out _).mono ?_
  rintro e v0 ⟨rfl, hf⟩
  have HS := Lib.hid (HS.out.fr hf)
  clear hf
  go_wp2_with fail
  refine (HO.out _ _ (Blk.new _ _ _)).mono ?_
  rintro e v1 ⟨rfl, hf⟩
  have HS := Lib.hid ((HS.out.al (.cells #[.int .i64 22, .int .i64 0, .int .i64 23, .int .i64 24, .int .i64 25, .int .i64 0, .int .i64 26, .int .i64 27] 3)).fr hf)
  clear hf
  have k0 := HS.out.b.cell 0
  have k4 := HS.out.b.cell 4
  have f0 := HS.out.b.frozen 0
  have f4 := HS.out.b.frozen 4
  simp at k0 k4
  go_upto_region 3 with (fail)
  have HS := Lib.hid (HS.out.s0 q0)
  clear k0 k4 f0 f4
  generalize v1.setCell ⟨g, 0, none⟩ (.int .i64 q0) = v2 at *
  go_wp2_with fail
  refine (HN.out _).mono ?_
  rintro e v3 ⟨rfl, hf⟩
  have HS := Lib.hid (HS.out.fr hf)
  clear hf
  have k0 := HS.out.b.cell 0
  have k4 := HS.out.b.cell 4
  have f0 := HS.out.b.frozen 0
  have f4 := HS.out.b.frozen 4
  simp at k0 k4
  go_upto_region 4 with (fail)
  have HS := Lib.hid (HS.out.s4 (n : Int))
  clear k0 k4 f0 f4
  generalize v3.setCell ⟨g, 4, none⟩ (.int .i64 (n : Int)) = v4 at *
  go_wp2_with fail
  refine (HU.out _).mono ?_
  rintro e v5 ⟨rfl, hf⟩
  have HS := Lib.hid (HS.out.fr hf)
  clear hf
  have k0 := HS.out.b.cell 0
  have k4 := HS.out.b.cell 4
  have f0 := HS.out.b.frozen 0
  have f4 := HS.out.b.frozen 4
  simp at k0 k4
  go_wp2_with fail
  exact bodyPost_ret (by kernel_rfl) rfl ⟨rfl, HS.out.s0 _⟩
set_option maxHeartbeats 2000000 in
theorem rwith_a5n (w : Nat) (hw : w < 4294967296) (f g : Nat) (hf3 : fld w 12 3 = f) (x0 x1 x2 x3 x4 x5 x6 : Int) (W : World) (hb : Blk W g 24 #[.int .i64 x0, .int .i64 x1, .int .i64 x2, .int .i64 x3, .int .i64 x4, .int .i64 x5, .int .i64 x6]) (ck : fld w 0 7 = 19) (hf : f = 5) (cu : fld w 26 6 ≠ 0) (cu2 : fld w 26 6 ≠ 16) :
    Calls Try.prog 29 #[.int .u32 (w : Int), .int .i64 (f : Int), .pointer (some ⟨g, 0, none⟩)] W fun e w' => e = .returned (.tuple #[]) ∧ PS W w' g (oneP [22, 0, 23, 24, 25, 0, 26, 27] 5) x1 x2 x3 ((fld w 20 6 : Nat) : Int) x5 x6 := by
  subst hf
  have HK := insR_sq0 w hw
  rw [ck] at HK
  have HK := Lib.hid (show ∀ W, Calls Try.prog 26 #[.int .u32 (w : Int), .int .i64 6, .int .i64 0] W fun e w' => e = .returned (.int .i64 19) ∧ Fr (fun _ => False) W w' from HK.out)
  have HO := Lib.hid (show ∀ g W, Blk W g 3 #[.int .i64 22, .int .i64 0, .int .i64 23, .int .i64 24, .int .i64 25, .int .i64 0, .int .i64 26, .int .i64 27] → Calls Try.prog 28 #[.slice (some ⟨g, 0, none⟩) 8 8, .int .i64 5] W fun e w' => e = .returned (.int .i64 (oneP [22, 0, 23, 24, 25, 0, 26, 27] 5)) ∧ Fr (fun _ => False) W w' from fun g W hb => one_fr [22, 0, 23, 24, 25, 0, 26, 27] (by decide) 5 g 8 (by decide) 3 W hb)
  have HN := insR_sq1 w hw
  have HU := Lib.hid (show ∀ W, Calls Try.prog 26 #[.int .u32 (w : Int), .int .i64 31, .int .i64 26] W fun e w' => e = .returned (.int .i64 (((fld w 26 6 : Nat) : Int))) ∧ Fr (fun _ => False) W w' from F_fr w 31 26 6 hw (by decide) (by decide) rfl)
  have u0 : (((fld w 26 6 : Nat) : Int) == 0) = false := beq_eq_false_iff_ne.2 (by omega)
  have u1 : (((fld w 26 6 : Nat) : Int) == 16) = false := beq_eq_false_iff_ne.2 (by omega)
  have HS := Lib.hid (show PS W W g x0 x1 x2 x3 x4 x5 x6 from ⟨Fr.refl _ _, hb⟩)
  clear hf3 hb ck cu cu2
  generalize oneP [22, 0, 23, 24, 25, 0, 26, 27] 5 = q0 at *
  generalize fld w 20 6 = n at *
  generalize fld w 26 6 = u at *
  generalize (u : Int) = y at *
  go_enter Try.func29, Try.ntmps29
  go_wp2_with fail
  refine (HK.out _).mono ?_
  rintro e v0 ⟨rfl, hf⟩
  have HS := Lib.hid (HS.out.fr hf)
  clear hf
  go_wp2_with fail
  refine (HO.out _ _ (Blk.new _ _ _)).mono ?_
  rintro e v1 ⟨rfl, hf⟩
  have HS := Lib.hid ((HS.out.al (.cells #[.int .i64 22, .int .i64 0, .int .i64 23, .int .i64 24, .int .i64 25, .int .i64 0, .int .i64 26, .int .i64 27] 3)).fr hf)
  clear hf
  have k0 := HS.out.b.cell 0
  have k4 := HS.out.b.cell 4
  have f0 := HS.out.b.frozen 0
  have f4 := HS.out.b.frozen 4
  simp at k0 k4
  go_upto_region 3 with (fail)
  have HS := Lib.hid (HS.out.s0 q0)
  clear k0 k4 f0 f4
  generalize v1.setCell ⟨g, 0, none⟩ (.int .i64 q0) = v2 at *
  go_wp2_with fail
  refine (HN.out _).mono ?_
  rintro e v3 ⟨rfl, hf⟩
  have HS := Lib.hid (HS.out.fr hf)
  clear hf
  have k0 := HS.out.b.cell 0
  have k4 := HS.out.b.cell 4
  have f0 := HS.out.b.frozen 0
  have f4 := HS.out.b.frozen 4
  simp at k0 k4
  go_upto_region 4 with (fail)
  have HS := Lib.hid (HS.out.s4 (n : Int))
  clear k0 k4 f0 f4
  generalize v3.setCell ⟨g, 4, none⟩ (.int .i64 (n : Int)) = v4 at *
  go_wp2_with fail
  refine (HU.out _).mono ?_
  rintro e v5 ⟨rfl, hf⟩
  have HS := Lib.hid (HS.out.fr hf)
  clear hf
  have k0 := HS.out.b.cell 0
  have k4 := HS.out.b.cell 4
  have f0 := HS.out.b.frozen 0
  have f4 := HS.out.b.frozen 4
  simp at k0 k4
  go_wp2_with fail
  exact bodyPost_ret (by kernel_rfl) rfl ⟨rfl, HS.out⟩
set_option maxHeartbeats 2000000 in
theorem rwith_b0 (w : Nat) (hw : w < 4294967296) (f g : Nat) (hf3 : fld w 12 3 = f) (x0 x1 x2 x3 x4 x5 x6 : Int) (W : World) (hb : Blk W g 24 #[.int .i64 x0, .int .i64 x1, .int .i64 x2, .int .i64 x3, .int .i64 x4, .int .i64 x5, .int .i64 x6]) (ck : fld w 0 7 ≠ 19) (n1 : f ≠ 1) (n5 : f ≠ 5) :
    Calls Try.prog 29 #[.int .u32 (w : Int), .int .i64 (f : Int), .pointer (some ⟨g, 0, none⟩)] W fun e w' => e = .returned (.tuple #[]) ∧ PS W w' g (oneP [41] f) x1 x2 x3 x4 x5 x6 := by
  have t1 : ((f : Int) == 1) = false := beq_eq_false_iff_ne.2 (by omega)
  have t5 : ((f : Int) == 5) = false := beq_eq_false_iff_ne.2 (by omega)
  have HK := insR_sq0 w hw
  have t7 : (((fld w 0 7 : Nat) : Int) == 19) = false := beq_eq_false_iff_ne.2 (by omega)
  have HO := Lib.hid (show ∀ g W, Blk W g 3 #[.int .i64 41] → Calls Try.prog 28 #[.slice (some ⟨g, 0, none⟩) 1 1, .int .i64 (f : Int)] W fun e w' => e = .returned (.int .i64 (oneP [41] f)) ∧ Fr (fun _ => False) W w' from fun g W hb => one_fr [41] (by decide) f g 1 (by decide) 3 W hb)
  have HS := Lib.hid (show PS W W g x0 x1 x2 x3 x4 x5 x6 from ⟨Fr.refl _ _, hb⟩)
  clear hf3 hb ck n1 n5
  generalize oneP [41] f = q0 at *
  generalize (f : Int) = y at *
  generalize fld w 0 7 = p at *
  generalize (p : Int) = yp at *
  go_enter Try.func29, Try.ntmps29
  go_wp2_with fail
  refine (HK.out _).mono ?_
  rintro e v0 ⟨rfl, hf⟩
  have HS := Lib.hid (HS.out.fr hf)
  clear hf
  go_wp2_with fail
  refine (HO.out _ _ (Blk.new _ _ _)).mono ?_
  rintro e v1 ⟨rfl, hf⟩
  have HS := Lib.hid ((HS.out.al (.cells #[.int .i64 41] 3)).fr hf)
  clear hf
  have k0 := HS.out.b.cell 0
  have k4 := HS.out.b.cell 4
  have f0 := HS.out.b.frozen 0
  have f4 := HS.out.b.frozen 4
  simp at k0 k4
  go_wp2_with fail
  exact bodyPost_end (by kernel_rfl) rfl ⟨rfl, HS.out.s0 _⟩
set_option maxHeartbeats 2000000 in
theorem rwith_b1l (w : Nat) (hw : w < 4294967296) (f g : Nat) (hf3 : fld w 12 3 = f) (x0 x1 x2 x3 x4 x5 x6 : Int) (W : World) (hb : Blk W g 24 #[.int .i64 x0, .int .i64 x1, .int .i64 x2, .int .i64 x3, .int .i64 x4, .int .i64 x5, .int .i64 x6]) (ck : fld w 0 7 ≠ 19) (hf : f = 1) (cu : fld w 25 7 = 0) :
    Calls Try.prog 29 #[.int .u32 (w : Int), .int .i64 (f : Int), .pointer (some ⟨g, 0, none⟩)] W fun e w' => e = .returned (.tuple #[]) ∧ PS W w' g 42 x1 x2 x3 ((fld w 20 5 : Nat) : Int) x5 x6 := by
  subst hf
  have HK := insR_sq0 w hw
  have t7 : (((fld w 0 7 : Nat) : Int) == 19) = false := beq_eq_false_iff_ne.2 (by omega)
  have HO := Lib.hid (show ∀ g W, Blk W g 3 #[.int .i64 41] → Calls Try.prog 28 #[.slice (some ⟨g, 0, none⟩) 1 1, .int .i64 1] W fun e w' => e = .returned (.int .i64 (oneP [41] 1)) ∧ Fr (fun _ => False) W w' from fun g W hb => one_fr [41] (by decide) 1 g 1 (by decide) 3 W hb)
  have HN := insR_sq2 w hw
  have HU := Lib.hid (show ∀ W, Calls Try.prog 26 #[.int .u32 (w : Int), .int .i64 31, .int .i64 25] W fun e w' => e = .returned (.int .i64 (0)) ∧ Fr (fun _ => False) W w' from fun W => by have g := F_fr w 31 25 7 hw (by decide) (by decide) rfl W; rw [cu] at g; exact g)
  have HS := Lib.hid (show PS W W g x0 x1 x2 x3 x4 x5 x6 from ⟨Fr.refl _ _, hb⟩)
  clear hf3 hb ck cu
  generalize oneP [41] 1 = q0 at *
  generalize fld w 20 5 = n at *
  generalize fld w 0 7 = p at *
  generalize (p : Int) = yp at *
  go_enter Try.func29, Try.ntmps29
  go_wp2_with fail
  refine (HK.out _).mono ?_
  rintro e v0 ⟨rfl, hf⟩
  have HS := Lib.hid (HS.out.fr hf)
  clear hf
  go_wp2_with fail
  refine (HO.out _ _ (Blk.new _ _ _)).mono ?_
  rintro e v1 ⟨rfl, hf⟩
  have HS := Lib.hid ((HS.out.al (.cells #[.int .i64 41] 3)).fr hf)
  clear hf
  have k0 := HS.out.b.cell 0
  have k4 := HS.out.b.cell 4
  have f0 := HS.out.b.frozen 0
  have f4 := HS.out.b.frozen 4
  simp at k0 k4
  go_upto_region 13 with (fail)
  have HS := Lib.hid (HS.out.s0 q0)
  clear k0 k4 f0 f4
  generalize v1.setCell ⟨g, 0, none⟩ (.int .i64 q0) = v2 at *
  go_wp2_with fail
  refine (HN.out _).mono ?_
  rintro e v3 ⟨rfl, hf⟩
  have HS := Lib.hid (HS.out.fr hf)
  clear hf
  have k0 := HS.out.b.cell 0
  have k4 := HS.out.b.cell 4
  have f0 := HS.out.b.frozen 0
  have f4 := HS.out.b.frozen 4
  simp at k0 k4
  go_upto_region 14 with (fail)
  have HS := Lib.hid (HS.out.s4 (n : Int))
  clear k0 k4 f0 f4
  generalize v3.setCell ⟨g, 4, none⟩ (.int .i64 (n : Int)) = v4 at *
  go_wp2_with fail
  refine (HU.out _).mono ?_
  rintro e v5 ⟨rfl, hf⟩
  have HS := Lib.hid (HS.out.fr hf)
  clear hf
  have k0 := HS.out.b.cell 0
  have k4 := HS.out.b.cell 4
  have f0 := HS.out.b.frozen 0
  have f4 := HS.out.b.frozen 4
  simp at k0 k4
  go_wp2_with fail
  exact bodyPost_end (by kernel_rfl) rfl ⟨rfl, HS.out.s0 _⟩
set_option maxHeartbeats 2000000 in
theorem rwith_b1n (w : Nat) (hw : w < 4294967296) (f g : Nat) (hf3 : fld w 12 3 = f) (x0 x1 x2 x3 x4 x5 x6 : Int) (W : World) (hb : Blk W g 24 #[.int .i64 x0, .int .i64 x1, .int .i64 x2, .int .i64 x3, .int .i64 x4, .int .i64 x5, .int .i64 x6]) (ck : fld w 0 7 ≠ 19) (hf : f = 1) (cu : fld w 25 7 ≠ 0) :
    Calls Try.prog 29 #[.int .u32 (w : Int), .int .i64 (f : Int), .pointer (some ⟨g, 0, none⟩)] W fun e w' => e = .returned (.tuple #[]) ∧ PS W w' g (oneP [41] 1) x1 x2 x3 ((fld w 20 5 : Nat) : Int) x5 x6 := by
  subst hf
  have HK := insR_sq0 w hw
  have t7 : (((fld w 0 7 : Nat) : Int) == 19) = false := beq_eq_false_iff_ne.2 (by omega)
  have HO := Lib.hid (show ∀ g W, Blk W g 3 #[.int .i64 41] → Calls Try.prog 28 #[.slice (some ⟨g, 0, none⟩) 1 1, .int .i64 1] W fun e w' => e = .returned (.int .i64 (oneP [41] 1)) ∧ Fr (fun _ => False) W w' from fun g W hb => one_fr [41] (by decide) 1 g 1 (by decide) 3 W hb)
  have HN := insR_sq2 w hw
  have HU := Lib.hid (show ∀ W, Calls Try.prog 26 #[.int .u32 (w : Int), .int .i64 31, .int .i64 25] W fun e w' => e = .returned (.int .i64 (((fld w 25 7 : Nat) : Int))) ∧ Fr (fun _ => False) W w' from F_fr w 31 25 7 hw (by decide) (by decide) rfl)
  have u0 : (((fld w 25 7 : Nat) : Int) == 0) = false := beq_eq_false_iff_ne.2 (by omega)
  have HS := Lib.hid (show PS W W g x0 x1 x2 x3 x4 x5 x6 from ⟨Fr.refl _ _, hb⟩)
  clear hf3 hb ck cu
  generalize oneP [41] 1 = q0 at *
  generalize fld w 20 5 = n at *
  generalize fld w 25 7 = u at *
  generalize (u : Int) = y at *
  generalize fld w 0 7 = p at *
  generalize (p : Int) = yp at *
  go_enter Try.func29, Try.ntmps29
  go_wp2_with fail
  refine (HK.out _).mono ?_
  rintro e v0 ⟨rfl, hf⟩
  have HS := Lib.hid (HS.out.fr hf)
  clear hf
  go_wp2_with fail
  refine (HO.out _ _ (Blk.new _ _ _)).mono ?_
  rintro e v1 ⟨rfl, hf⟩
  have HS := Lib.hid ((HS.out.al (.cells #[.int .i64 41] 3)).fr hf)
  clear hf
  have k0 := HS.out.b.cell 0
  have k4 := HS.out.b.cell 4
  have f0 := HS.out.b.frozen 0
  have f4 := HS.out.b.frozen 4
  simp at k0 k4
  go_upto_region 13 with (fail)
  have HS := Lib.hid (HS.out.s0 q0)
  clear k0 k4 f0 f4
  generalize v1.setCell ⟨g, 0, none⟩ (.int .i64 q0) = v2 at *
  go_wp2_with fail
  refine (HN.out _).mono ?_
  rintro e v3 ⟨rfl, hf⟩
  have HS := Lib.hid (HS.out.fr hf)
  clear hf
  have k0 := HS.out.b.cell 0
  have k4 := HS.out.b.cell 4
  have f0 := HS.out.b.frozen 0
  have f4 := HS.out.b.frozen 4
  simp at k0 k4
  go_upto_region 14 with (fail)
  have HS := Lib.hid (HS.out.s4 (n : Int))
  clear k0 k4 f0 f4
  generalize v3.setCell ⟨g, 4, none⟩ (.int .i64 (n : Int)) = v4 at *
  go_wp2_with fail
  refine (HU.out _).mono ?_
  rintro e v5 ⟨rfl, hf⟩
  have HS := Lib.hid (HS.out.fr hf)
  clear hf
  have k0 := HS.out.b.cell 0
  have k4 := HS.out.b.cell 4
  have f0 := HS.out.b.frozen 0
  have f4 := HS.out.b.frozen 4
  simp at k0 k4
  go_wp2_with fail
  exact bodyPost_end (by kernel_rfl) rfl ⟨rfl, HS.out⟩
set_option maxHeartbeats 2000000 in
theorem rwith_b5r (w : Nat) (hw : w < 4294967296) (f g : Nat) (hf3 : fld w 12 3 = f) (x0 x1 x2 x3 x4 x5 x6 : Int) (W : World) (hb : Blk W g 24 #[.int .i64 x0, .int .i64 x1, .int .i64 x2, .int .i64 x3, .int .i64 x4, .int .i64 x5, .int .i64 x6]) (ck : fld w 0 7 ≠ 19) (hf : f = 5) (cu : fld w 25 7 = 0) :
    Calls Try.prog 29 #[.int .u32 (w : Int), .int .i64 (f : Int), .pointer (some ⟨g, 0, none⟩)] W fun e w' => e = .returned (.tuple #[]) ∧ PS W w' g 43 x1 x2 x3 ((fld w 20 5 : Nat) : Int) x5 x6 := by
  subst hf
  have HK := insR_sq0 w hw
  have t7 : (((fld w 0 7 : Nat) : Int) == 19) = false := beq_eq_false_iff_ne.2 (by omega)
  have HO := Lib.hid (show ∀ g W, Blk W g 3 #[.int .i64 41] → Calls Try.prog 28 #[.slice (some ⟨g, 0, none⟩) 1 1, .int .i64 5] W fun e w' => e = .returned (.int .i64 (oneP [41] 5)) ∧ Fr (fun _ => False) W w' from fun g W hb => one_fr [41] (by decide) 5 g 1 (by decide) 3 W hb)
  have HN := insR_sq2 w hw
  have HU := Lib.hid (show ∀ W, Calls Try.prog 26 #[.int .u32 (w : Int), .int .i64 31, .int .i64 25] W fun e w' => e = .returned (.int .i64 (0)) ∧ Fr (fun _ => False) W w' from fun W => by have g := F_fr w 31 25 7 hw (by decide) (by decide) rfl W; rw [cu] at g; exact g)
  have HS := Lib.hid (show PS W W g x0 x1 x2 x3 x4 x5 x6 from ⟨Fr.refl _ _, hb⟩)
  clear hf3 hb ck cu
  generalize oneP [41] 5 = q0 at *
  generalize fld w 20 5 = n at *
  generalize fld w 0 7 = p at *
  generalize (p : Int) = yp at *
  go_enter Try.func29, Try.ntmps29
  go_wp2_with fail
  refine (HK.out _).mono ?_
  rintro e v0 ⟨rfl, hf⟩
  have HS := Lib.hid (HS.out.fr hf)
  clear hf
  go_wp2_with fail
  refine (HO.out _ _ (Blk.new _ _ _)).mono ?_
  rintro e v1 ⟨rfl, hf⟩
  have HS := Lib.hid ((HS.out.al (.cells #[.int .i64 41] 3)).fr hf)
  clear hf
  have k0 := HS.out.b.cell 0
  have k4 := HS.out.b.cell 4
  have f0 := HS.out.b.frozen 0
  have f4 := HS.out.b.frozen 4
  simp at k0 k4
  go_upto_region 13 with (fail)
  have HS := Lib.hid (HS.out.s0 q0)
  clear k0 k4 f0 f4
  generalize v1.setCell ⟨g, 0, none⟩ (.int .i64 q0) = v2 at *
  go_wp2_with fail
  refine (HN.out _).mono ?_
  rintro e v3 ⟨rfl, hf⟩
  have HS := Lib.hid (HS.out.fr hf)
  clear hf
  have k0 := HS.out.b.cell 0
  have k4 := HS.out.b.cell 4
  have f0 := HS.out.b.frozen 0
  have f4 := HS.out.b.frozen 4
  simp at k0 k4
  go_upto_region 14 with (fail)
  have HS := Lib.hid (HS.out.s4 (n : Int))
  clear k0 k4 f0 f4
  generalize v3.setCell ⟨g, 4, none⟩ (.int .i64 (n : Int)) = v4 at *
  go_wp2_with fail
  refine (HU.out _).mono ?_
  rintro e v5 ⟨rfl, hf⟩
  have HS := Lib.hid (HS.out.fr hf)
  clear hf
  have k0 := HS.out.b.cell 0
  have k4 := HS.out.b.cell 4
  have f0 := HS.out.b.frozen 0
  have f4 := HS.out.b.frozen 4
  simp at k0 k4
  go_wp2_with fail
  exact bodyPost_end (by kernel_rfl) rfl ⟨rfl, HS.out.s0 _⟩
set_option maxHeartbeats 2000000 in
theorem rwith_b5s (w : Nat) (hw : w < 4294967296) (f g : Nat) (hf3 : fld w 12 3 = f) (x0 x1 x2 x3 x4 x5 x6 : Int) (W : World) (hb : Blk W g 24 #[.int .i64 x0, .int .i64 x1, .int .i64 x2, .int .i64 x3, .int .i64 x4, .int .i64 x5, .int .i64 x6]) (ck : fld w 0 7 ≠ 19) (hf : f = 5) (cu : fld w 25 7 = 32) :
    Calls Try.prog 29 #[.int .u32 (w : Int), .int .i64 (f : Int), .pointer (some ⟨g, 0, none⟩)] W fun e w' => e = .returned (.tuple #[]) ∧ PS W w' g 44 x1 x2 x3 ((fld w 20 5 : Nat) : Int) x5 x6 := by
  subst hf
  have HK := insR_sq0 w hw
  have t7 : (((fld w 0 7 : Nat) : Int) == 19) = false := beq_eq_false_iff_ne.2 (by omega)
  have HO := Lib.hid (show ∀ g W, Blk W g 3 #[.int .i64 41] → Calls Try.prog 28 #[.slice (some ⟨g, 0, none⟩) 1 1, .int .i64 5] W fun e w' => e = .returned (.int .i64 (oneP [41] 5)) ∧ Fr (fun _ => False) W w' from fun g W hb => one_fr [41] (by decide) 5 g 1 (by decide) 3 W hb)
  have HN := insR_sq2 w hw
  have HU := Lib.hid (show ∀ W, Calls Try.prog 26 #[.int .u32 (w : Int), .int .i64 31, .int .i64 25] W fun e w' => e = .returned (.int .i64 (32)) ∧ Fr (fun _ => False) W w' from fun W => by have g := F_fr w 31 25 7 hw (by decide) (by decide) rfl W; rw [cu] at g; exact g)
  have HS := Lib.hid (show PS W W g x0 x1 x2 x3 x4 x5 x6 from ⟨Fr.refl _ _, hb⟩)
  clear hf3 hb ck cu
  generalize oneP [41] 5 = q0 at *
  generalize fld w 20 5 = n at *
  generalize fld w 0 7 = p at *
  generalize (p : Int) = yp at *
  go_enter Try.func29, Try.ntmps29
  go_wp2_with fail
  refine (HK.out _).mono ?_
  rintro e v0 ⟨rfl, hf⟩
  have HS := Lib.hid (HS.out.fr hf)
  clear hf
  go_wp2_with fail
  refine (HO.out _ _ (Blk.new _ _ _)).mono ?_
  rintro e v1 ⟨rfl, hf⟩
  have HS := Lib.hid ((HS.out.al (.cells #[.int .i64 41] 3)).fr hf)
  clear hf
  have k0 := HS.out.b.cell 0
  have k4 := HS.out.b.cell 4
  have f0 := HS.out.b.frozen 0
  have f4 := HS.out.b.frozen 4
  simp at k0 k4
  go_upto_region 13 with (fail)
  have HS := Lib.hid (HS.out.s0 q0)
  clear k0 k4 f0 f4
  generalize v1.setCell ⟨g, 0, none⟩ (.int .i64 q0) = v2 at *
  go_wp2_with fail
  refine (HN.out _).mono ?_
  rintro e v3 ⟨rfl, hf⟩
  have HS := Lib.hid (HS.out.fr hf)
  clear hf
  have k0 := HS.out.b.cell 0
  have k4 := HS.out.b.cell 4
  have f0 := HS.out.b.frozen 0
  have f4 := HS.out.b.frozen 4
  simp at k0 k4
  go_upto_region 14 with (fail)
  have HS := Lib.hid (HS.out.s4 (n : Int))
  clear k0 k4 f0 f4
  generalize v3.setCell ⟨g, 4, none⟩ (.int .i64 (n : Int)) = v4 at *
  go_wp2_with fail
  refine (HU.out _).mono ?_
  rintro e v5 ⟨rfl, hf⟩
  have HS := Lib.hid (HS.out.fr hf)
  clear hf
  have k0 := HS.out.b.cell 0
  have k4 := HS.out.b.cell 4
  have f0 := HS.out.b.frozen 0
  have f4 := HS.out.b.frozen 4
  simp at k0 k4
  go_wp2_with fail
  exact bodyPost_end (by kernel_rfl) rfl ⟨rfl, HS.out.s0 _⟩
set_option maxHeartbeats 2000000 in
theorem rwith_b5n (w : Nat) (hw : w < 4294967296) (f g : Nat) (hf3 : fld w 12 3 = f) (x0 x1 x2 x3 x4 x5 x6 : Int) (W : World) (hb : Blk W g 24 #[.int .i64 x0, .int .i64 x1, .int .i64 x2, .int .i64 x3, .int .i64 x4, .int .i64 x5, .int .i64 x6]) (ck : fld w 0 7 ≠ 19) (hf : f = 5) (cu : fld w 25 7 ≠ 0) (cu2 : fld w 25 7 ≠ 32) :
    Calls Try.prog 29 #[.int .u32 (w : Int), .int .i64 (f : Int), .pointer (some ⟨g, 0, none⟩)] W fun e w' => e = .returned (.tuple #[]) ∧ PS W w' g (oneP [41] 5) x1 x2 x3 ((fld w 20 5 : Nat) : Int) x5 x6 := by
  subst hf
  have HK := insR_sq0 w hw
  have t7 : (((fld w 0 7 : Nat) : Int) == 19) = false := beq_eq_false_iff_ne.2 (by omega)
  have HO := Lib.hid (show ∀ g W, Blk W g 3 #[.int .i64 41] → Calls Try.prog 28 #[.slice (some ⟨g, 0, none⟩) 1 1, .int .i64 5] W fun e w' => e = .returned (.int .i64 (oneP [41] 5)) ∧ Fr (fun _ => False) W w' from fun g W hb => one_fr [41] (by decide) 5 g 1 (by decide) 3 W hb)
  have HN := insR_sq2 w hw
  have HU := Lib.hid (show ∀ W, Calls Try.prog 26 #[.int .u32 (w : Int), .int .i64 31, .int .i64 25] W fun e w' => e = .returned (.int .i64 (((fld w 25 7 : Nat) : Int))) ∧ Fr (fun _ => False) W w' from F_fr w 31 25 7 hw (by decide) (by decide) rfl)
  have u0 : (((fld w 25 7 : Nat) : Int) == 0) = false := beq_eq_false_iff_ne.2 (by omega)
  have u1 : (((fld w 25 7 : Nat) : Int) == 32) = false := beq_eq_false_iff_ne.2 (by omega)
  have HS := Lib.hid (show PS W W g x0 x1 x2 x3 x4 x5 x6 from ⟨Fr.refl _ _, hb⟩)
  clear hf3 hb ck cu cu2
  generalize oneP [41] 5 = q0 at *
  generalize fld w 20 5 = n at *
  generalize fld w 25 7 = u at *
  generalize (u : Int) = y at *
  generalize fld w 0 7 = p at *
  generalize (p : Int) = yp at *
  go_enter Try.func29, Try.ntmps29
  go_wp2_with fail
  refine (HK.out _).mono ?_
  rintro e v0 ⟨rfl, hf⟩
  have HS := Lib.hid (HS.out.fr hf)
  clear hf
  go_wp2_with fail
  refine (HO.out _ _ (Blk.new _ _ _)).mono ?_
  rintro e v1 ⟨rfl, hf⟩
  have HS := Lib.hid ((HS.out.al (.cells #[.int .i64 41] 3)).fr hf)
  clear hf
  have k0 := HS.out.b.cell 0
  have k4 := HS.out.b.cell 4
  have f0 := HS.out.b.frozen 0
  have f4 := HS.out.b.frozen 4
  simp at k0 k4
  go_upto_region 13 with (fail)
  have HS := Lib.hid (HS.out.s0 q0)
  clear k0 k4 f0 f4
  generalize v1.setCell ⟨g, 0, none⟩ (.int .i64 q0) = v2 at *
  go_wp2_with fail
  refine (HN.out _).mono ?_
  rintro e v3 ⟨rfl, hf⟩
  have HS := Lib.hid (HS.out.fr hf)
  clear hf
  have k0 := HS.out.b.cell 0
  have k4 := HS.out.b.cell 4
  have f0 := HS.out.b.frozen 0
  have f4 := HS.out.b.frozen 4
  simp at k0 k4
  go_upto_region 14 with (fail)
  have HS := Lib.hid (HS.out.s4 (n : Int))
  clear k0 k4 f0 f4
  generalize v3.setCell ⟨g, 4, none⟩ (.int .i64 (n : Int)) = v4 at *
  go_wp2_with fail
  refine (HU.out _).mono ?_
  rintro e v5 ⟨rfl, hf⟩
  have HS := Lib.hid (HS.out.fr hf)
  clear hf
  have k0 := HS.out.b.cell 0
  have k4 := HS.out.b.cell 4
  have f0 := HS.out.b.frozen 0
  have f4 := HS.out.b.frozen 4
  simp at k0 k4
  go_wp2_with fail
  exact bodyPost_end (by kernel_rfl) rfl ⟨rfl, HS.out⟩
end Go.Proofs.Ytnopppamfleniaa.Ins
