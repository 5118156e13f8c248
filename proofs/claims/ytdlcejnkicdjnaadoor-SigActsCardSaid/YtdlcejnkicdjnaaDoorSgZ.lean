/- The law SigActs, walked. -/
import Derived.Test.YtdlcejnkicdjnaaDoorSgY
import Derived.Deep.CutBlock
import Derived.Deep.DeepCutAuto
namespace Go.Proofs.YtdlcejnkicdjnaaDoor.Sg
open Go Go.RowKit Go.Proofs.YtdlcejnkicdjnaaDoorW.PrintWords Go.Proofs.YtdlcejnkicdjnaaDoorW.PrintLast Go.Proofs.YtdlcejnkicdjnaaDoorW.PrintMore
open Go.Proofs.YtdlcejnkicdjnaaDoor.Hp Go.Proofs.YtdlcejnkicdjnaaDoor.Bv
attribute [local go_sem] max2_int min2_int max_two min_two max_three min_three max_four min_four
attribute [local go_sem] wrap_add wrap_sub wrap_mul wrap_neg and_U or_U xor_U andNot_U wrap_U
set_option linter.unusedVariables false
set_option linter.unusedSimpArgs false
theorem rg4 {g : Nat} {A : Nat → Int} {mf pf : Nat → Bool} {x y : BitVec 64} {w : World} (h : Rs w g A mf pf x y) : w.rangeAt g 195 (comeA mf).toList ∧ w.rangeAt g 260 (comeA pf).toList ∧ w.cell? ⟨g, 325, none⟩ = some (.int .u64 (U x)) ∧ w.cell? ⟨g, 326, none⟩ = some (.int .u64 (U y)) := ⟨h.ranges.1, h.ranges.2, h.k.1, h.k.2⟩
theorem hi65 (f : Nat → Bool) : (Tryd.prog.info? 29 ).map (·.size) = some (comeA f).toList.length := by rw [Array.length_toList, comeA_size]; kernel_rfl
theorem y_mid {ops : Array Oper} {S : World → Prop} {op : Oper} {a : Act} (hw : Region.wanted op (yielded ops a.tmps) = true) (x : Operand) (ho : op.op = .load 29 x) (g o : Nat) (hx : a.eval x = .pointer (some ⟨g, o, none⟩)) (f : Nat → Bool) (hS : ∀ w, S w → w.rangeAt g o (comeA f).toList) : YieldsIf Tryd.prog ops S op (.agg (comeA f)) a := by
  have h := yieldsIf_load_mid (P := Tryd.prog) hw 29 x ho g o hx (comeA f).toList _ hS Tryd.underlying29 rfl (hi65 f)
  rwa [Array.toArray_toList] at h
def AtSw (w0 : World) (s g : Nat) (e f : Value) (wr : World) : Prop := ∃ (q : Int) (A : Nat → Int) (M P x y : BitVec 64) (mf pf : Nat → Bool), e = .int .i64 q ∧ f = .int .i64 q ∧ SInv w0 wr s g A M P x y mf pf
theorem ac5 {w : World} {b : Nat} {c0 c1 c2 c3 c4 c5 : Value} (h : Blk w b 42 #[c0, c1, c2, c3, c4, c5]) : w.cell? ⟨b, 1, none⟩ = some c1 ∧ w.cell? ⟨b, 2, none⟩ = some c2 ∧ w.cell? ⟨b, 3, none⟩ = some c3 ∧ w.cell? ⟨b, 4, none⟩ = some c4 ∧ w.cell? ⟨b, 5, none⟩ = some c5 :=
  ⟨by simpa using h.cell 1, by simpa using h.cell 2, by simpa using h.cell 3, by simpa using h.cell 4, by simpa using h.cell 5⟩
theorem bits_or {pf : Nat → Bool} {P : BitVec 64} (h : BitsOf pf P) (m : Nat) (hm : 1 ≤ (m : Int) ∧ (m : Int) ≤ 64) : BitsOf (updB pf m true) (P ||| bitZ (m : Int)) := by
  obtain ⟨j, rfl⟩ : ∃ j, m = j + 1 := ⟨m - 1, by omega⟩
  have e := came_step (P := P) (f := pf) ⟨h.1, h.2⟩ j (by omega)
  exact ⟨e.1, e.2⟩
theorem z_if {A : Nat → Int} (hz : A 0 = 0 ∧ A 1 = 0 ∧ A 2 = 0) (b : Bool) (m : Nat) (hm : 1 ≤ (m : Int) ∧ (m : Int) ≤ 64) : (if b then upd3 A m 0 0 0 else A) 0 = 0 ∧ (if b then upd3 A m 0 0 0 else A) 1 = 0 ∧ (if b then upd3 A m 0 0 0 else A) 2 = 0 := by
  cases b
  · exact hz
  · simp only [if_true, upd3_at]
    refine ⟨?_, ?_, ?_⟩
    all_goals
      repeat rw [if_neg (by omega)]
      first | exact hz.1 | exact hz.2.1 | exact hz.2.2
def AtEx (w0 : World) (s g : Nat) (A : Nat → Int) (M P x y : BitVec 64) (mf pf : Nat → Bool) (i : Value) (kq : Nat) (wr : World) : Prop := ∃ z : Int, i = .int .i64 z ∧ -1 ≤ z ∧ z ≤ 67 ∧ 67 - z ≤ (kq : Int) ∧ SInv w0 wr s g A M P x y mf pf
theorem acz_in (A : Nat → Int) (m : Nat) (h : 1 ≤ (m : Int) ∧ (m : Int) ≤ 64) : acE (m : Int) = 0 ∧ acZ A (m : Int) 0 = A (m * 3) ∧ acZ A (m : Int) 1 = A (m * 3 + 1) ∧ acZ A (m : Int) 2 = A (m * 3 + 2) := ⟨if_pos h, if_pos h, if_pos h, if_pos h⟩
theorem acz_out (A : Nat → Int) (n : Int) (h : ¬ (1 ≤ n ∧ n ≤ 64)) : acE n = 22 ∧ acZ A n 0 = 0 ∧ acZ A n 1 = 0 ∧ acZ A n 2 = 0 := ⟨if_neg h, if_neg h, if_neg h, if_neg h⟩
def AtSa (w0 : World) (s g : Nat) (i : Value) (kq : Nat) (wr : World) : Prop := ∃ (k : Nat) (A : Nat → Int) (M P x y : BitVec 64) (mf pf : Nat → Bool), i = .int .i64 k ∧ k ≤ 80 ∧ 80 - k ≤ kq ∧ SInv w0 wr s g A M P x y mf pf
set_option maxHeartbeats 40000000 in
set_option maxRecDepth 100000 in
theorem acts_law (a : Option Addr) (len cap : Nat) (w : World) (hlen : len ≤ 9223372036854775807) (hacts : ∀ i, i < len → ∃ x d n h f m X, a = some x ∧ ActAt w (x.add (i * 6)) d n h f m X) (ht : Tb w) : Calls Tryd.prog 5 #[.slice a len cap] w fun e w' => e = .returned (.bool true) ∧ Fr (fun _ => False) w w' := by
  have HA := Lib.hid hacts
  have HT := Lib.hid ht
  have HT0 := Lib.hid ht
  have hws := ht.lt
  have hz := zero_rs
  clear hacts ht
  go_enter Tryd.func5, Tryd.ntmps5
  go_wp2_with fail
  refine (new_any _).mono ?_
  rintro e w1 ⟨rfl, hs, hf⟩
  have HS := Lib.hid hs
  have HF := Lib.hid hf
  have HT := Lib.hid ((HT.out.fr hf id).fr ((Fr.refl (fun _ => False) _).alloc (.cells (fnA 327 (rsC (fun _ => 0) (fun _ => false) (fun _ => false) 0#64 0#64)) 55)) id)
  clear hs hf
  go_wp2_with fail
  refine (answers_any _ HT.out).mono ?_
  rintro e w2 ⟨rfl, hf⟩
  obtain ⟨g, hg⟩ : ∃ g, g = w1.heap.size := ⟨_, rfl⟩
  obtain ⟨s, hs⟩ : ∃ s, s = w.heap.size := ⟨_, rfl⟩
  have HI0 := Lib.hid (show SInv w w2 s g (fun _ => 0) 0#64 0#64 0#64 0#64 (fun _ => false) (fun _ => false) from
    ⟨St.fr (Blk.alloc (hs ▸ HS.out) (.cells (fnA 327 (rsC (fun _ => 0) (fun _ => false) (fun _ => false) 0#64 0#64)) 55)) hf id, Rs.fr (hg ▸ Blk.new w1 55 (fnA 327 (rsC (fun _ => 0) (fun _ => false) (fun _ => false) 0#64 0#64))) hf id, ⟨rfl, fun j _ => by simp⟩, ⟨rfl, fun j _ => by simp⟩, ⟨rfl, rfl, rfl⟩, (HF.out.alloc _).trans hf (fun _ _ => id), by omega, by rw [hg]; exact HF.out.size⟩)
  have HS0 := Lib.hid (show s ≠ 0 by omega)
  rw [← hg, ← hs]
  clear hf hg hs HS HF hz hws
  go_wp2_with fail
  go_loopg [5] 80 (fun kq i wr => Hid (AtSa w s g i kq wr))
  case atStart => exact Lib.hid ⟨0, _, _, _, _, _, _, _, rfl, by omega, by omega, HI0.out⟩
  case round =>
    obtain ⟨k, A, M, P, sx, sy, mf, pf, rfl, hk80, hkq, hI⟩ := hrel.out
    have HI := Lib.hid hI
    clear hrel hI HI0
    by_cases hk : k < len ∧ k < 80
    · obtain ⟨hkl, hk6⟩ := hk
      have t1 : decide ((k : Int) < (len : Int)) = true := decide_eq_true (by omega)
      have t1' : decide (k < len) = true := decide_eq_true (by omega)
      have t2 : decide ((k : Int) < 80) = true := decide_eq_true (by omega)
      have t2' : decide (k < 80) = true := decide_eq_true (by omega)
      obtain ⟨x, d, n, hh, ff, mm, X, hax, hact⟩ := HA.out k hkl
      subst hax
      have hX := hact.fr HI.out.fr
      clear hact
      have x0 : wr.cell? (x.add (k * 6)) = some (.int .i64 d) := hX.c0
      have x1 : wr.cell? ⟨(x.add (k * 6)).block, (x.add (k * 6)).off + 1, none⟩ = some (.int .i64 n) := hX.c1
      have x2 : wr.cell? ⟨(x.add (k * 6)).block, (x.add (k * 6)).off + 2, none⟩ = some (.int .u64 (U hh)) := hX.c2
      have x3 : wr.cell? ⟨(x.add (k * 6)).block, (x.add (k * 6)).off + 3, none⟩ = some (.int .u64 (U ff)) := hX.c3
      have x4 : wr.cell? ⟨(x.add (k * 6)).block, (x.add (k * 6)).off + 4, none⟩ = some (.int .u64 (U mm)) := hX.c4
      have x5 : wr.cell? ⟨(x.add (k * 6)).block, (x.add (k * 6)).off + 5, none⟩ = some (.int .u64 (U X)) := hX.c5
      clear hX
      have hsl := HI.out.st.lt
      have hgl := HI.out.rs.lt
      have hne : ¬ (wr.heap.size = s) := by omega
      have hne2 : ¬ (wr.heap.size = g) := by omega
      have HC := Lib.hid (Blk.new wr 42 #[.int .i64 d, .int .i64 n, .int .u64 (U hh), .int .u64 (U ff), .int .u64 (U mm), .int .u64 (U X)])
      have HI := Lib.hid (HI.out.same ((Fr.refl (fun _ => False) wr).alloc (.cells #[.int .i64 d, .int .i64 n, .int .u64 (U hh), .int .u64 (U ff), .int .u64 (U mm), .int .u64 (U X)] 42)))
      obtain ⟨inb, hinb⟩ : ∃ b, b = (decide (1 ≤ n) && decide (n ≤ 64)) := ⟨_, rfl⟩
      have HIN := Lib.hid hinb
      obtain ⟨bz, hbz⟩ : ∃ b, b = wr.heap.size := ⟨_, rfl⟩
      rw [← hbz] at HC hne hne2
      go_upto_region 10 with (fail)
      go_cut [9] (fun v wx => v = .bool inb ∧ wx = wr.alloc (.cells #[.int .i64 d, .int .i64 n, .int .u64 (U hh), .int .u64 (U ff), .int .u64 (U mm), .int .u64 (U X)] 42))
      case first =>
        cases c1 : decide (1 ≤ n)
        · rw [c1, Bool.false_and] at hinb
          subst hinb
          go_wp2_with fail
          go_meet
          case rel => exact ⟨rfl, rfl⟩
        · rw [c1, Bool.true_and] at hinb
          subst hinb
          go_wp2_with fail
          go_meet
          case rel => exact ⟨rfl, rfl⟩
      case rest =>
        obtain ⟨rfl, rfl⟩ := hcut
        clear hinb x0 x1 x2 x3 x4 x5
        rw [← hbz]
        generalize wr.alloc (.cells #[.int .i64 d, .int .i64 n, .int .u64 (U hh), .int .u64 (U ff), .int .u64 (U mm), .int .u64 (U X)] 42) = wA at HI HC ⊢
        clear hbz
        have HId := Lib.hid (HI.out.same (w' := wA.drew) ((Fr.refl _ _).drew))
        obtain ⟨z0, z1, z2, z3, z4, z5⟩ := (show _ ∧ _ ∧ _ ∧ _ ∧ _ ∧ _ from ⟨HC.out.cell 0, HC.out.cell 1, HC.out.cell 2, HC.out.cell 3, HC.out.cell 4, HC.out.cell 5⟩)
        simp at z0 z1 z2 z3 z4 z5
        go_upto_block 2 with (fail)
        go_cut [7, 8] (fun e f wx => Hid (AtSw w s g e f wx))
        case first =>
          clear z0 z1 z2 z3 z4 z5
          by_cases d1 : d = 1
          · subst d1
            as_aux_lemma =>
              obtain ⟨z0, z1, z2, z3, z4, z5⟩ := (show _ ∧ _ ∧ _ ∧ _ ∧ _ ∧ _ from ⟨HC.out.cell 0, HC.out.cell 1, HC.out.cell 2, HC.out.cell 3, HC.out.cell 4, HC.out.cell 5⟩)
              simp at z0 z1 z2 z3 z4 z5
              go_wp2_with fail
              go_region_held3 (fun w' => w'.cell? ⟨bz, 1, none⟩ = some (.int .i64 n) ∧ w'.cell? ⟨bz, 2, none⟩ = some (.int .u64 (U hh)) ∧ w'.cell? ⟨bz, 3, none⟩ = some (.int .u64 (U ff)) ∧ w'.cell? ⟨bz, 4, none⟩ = some (.int .u64 (U mm)) ∧ w'.cell? ⟨bz, 5, none⟩ = some (.int .u64 (U X))) (first | exact ac5 (show Blk wA.drew bz 42 #[.int .i64 1, .int .i64 n, .int .u64 (U hh), .int .u64 (U ff), .int .u64 (U mm), .int .u64 (U X)] from HC.out) | exact ac5 ((show Blk wA.drew bz 42 #[.int .i64 1, .int .i64 n, .int .u64 (U hh), .int .u64 (U ff), .int .u64 (U mm), .int .u64 (U X)] from HC.out).fr hf3 hne) | exact ac5 (((show Blk wA.drew bz 42 #[.int .i64 1, .int .i64 n, .int .u64 (U hh), .int .u64 (U ff), .int .u64 (U mm), .int .u64 (U X)] from HC.out).fr hf3 hne).fr hf4 hne2)) (first | (go_at_call 17; refine (setaction_any n (U hh) ff mm _ HId.out.st).mono ?_; rintro e w3 ⟨rfl, hs3, hf3⟩) | (go_at_call 21; refine (rsetaction_any n (U hh) ff mm _ (HId.out.rs1 hf3)).mono ?_; rintro e w4 ⟨rfl, hs4, hf4⟩))
              have HJ := Lib.hid (HId.out.both hs3 hf3 hs4 hf4 HId.out.bm HId.out.bp (saA_z HId.out.z n (U hh) ff mm))
              clear hs3 hf3 hs4 hf4
              go_wp2_with fail
              go_meet
              case rel => exact Lib.hid ⟨saE n, _, _, _, _, _, _, _, rfl, rfl, HJ.out⟩
          by_cases d2 : d = 2
          · subst d2
            as_aux_lemma =>
              obtain ⟨z0, z1, z2, z3, z4, z5⟩ := (show _ ∧ _ ∧ _ ∧ _ ∧ _ ∧ _ from ⟨HC.out.cell 0, HC.out.cell 1, HC.out.cell 2, HC.out.cell 3, HC.out.cell 4, HC.out.cell 5⟩)
              simp at z0 z1 z2 z3 z4 z5
              go_wp2_with fail
              refine (setmask_any X _ HI.out.st).mono ?_
              rintro e w3 ⟨rfl, hs3, hf3⟩
              have HR3 := Lib.hid (HI.out.rs1 hf3)
              have HC := Lib.hid (HC.out.fr hf3 hne)
              have HS3 := Lib.hid hs3
              have HF3 := Lib.hid hf3
              clear hs3 hf3 z0 z1 z2 z3 z4 z5
              obtain ⟨z0, z1, z2, z3, z4, z5⟩ := (show _ ∧ _ ∧ _ ∧ _ ∧ _ ∧ _ from ⟨HC.out.cell 0, HC.out.cell 1, HC.out.cell 2, HC.out.cell 3, HC.out.cell 4, HC.out.cell 5⟩)
              simp at z0 z1 z2 z3 z4 z5
              go_wp2_with fail
              refine (rsetmask_any X _ HR3.out HI.out.bm.1).mono ?_
              rintro e w4 ⟨rfl, mf', hm4, hs4, hf4⟩
              have HJ := Lib.hid (HI.out.both HS3.out HF3.out hs4 hf4 hm4 HI.out.bp HI.out.z)
              clear hm4 hs4 hf4 z0 z1 z2 z3 z4 z5
              go_wp2_with fail
              go_meet
              case rel => exact Lib.hid ⟨0, _, _, _, _, _, _, _, rfl, rfl, HJ.out⟩
          by_cases d3 : d = 3
          · subst d3
            as_aux_lemma =>
              obtain ⟨z0, z1, z2, z3, z4, z5⟩ := (show _ ∧ _ ∧ _ ∧ _ ∧ _ ∧ _ from ⟨HC.out.cell 0, HC.out.cell 1, HC.out.cell 2, HC.out.cell 3, HC.out.cell 4, HC.out.cell 5⟩)
              simp at z0 z1 z2 z3 z4 z5
              go_wp2_with fail
              go_region_held3 (fun w' => w'.cell? ⟨bz, 1, none⟩ = some (.int .i64 n) ∧ w'.cell? ⟨bz, 2, none⟩ = some (.int .u64 (U hh)) ∧ w'.cell? ⟨bz, 3, none⟩ = some (.int .u64 (U ff)) ∧ w'.cell? ⟨bz, 4, none⟩ = some (.int .u64 (U mm)) ∧ w'.cell? ⟨bz, 5, none⟩ = some (.int .u64 (U X))) (first | exact ac5 (show Blk wA.drew bz 42 #[.int .i64 3, .int .i64 n, .int .u64 (U hh), .int .u64 (U ff), .int .u64 (U mm), .int .u64 (U X)] from HC.out) | exact ac5 ((show Blk wA.drew bz 42 #[.int .i64 3, .int .i64 n, .int .u64 (U hh), .int .u64 (U ff), .int .u64 (U mm), .int .u64 (U X)] from HC.out).fr hf3 hne) | exact ac5 (((show Blk wA.drew bz 42 #[.int .i64 3, .int .i64 n, .int .u64 (U hh), .int .u64 (U ff), .int .u64 (U mm), .int .u64 (U X)] from HC.out).fr hf3 hne).fr hf4 hne2)) (first | (go_at_call 18; refine (change_any n X _ HId.out.st).mono ?_; rintro e w3 ⟨rfl, hs3, hf3⟩) | (go_at_call 23; refine (rchange_any n X M HId.out.bm _ (HId.out.rs1 hf3)).mono ?_; rintro e w4 ⟨rfl, mf', hm4, hs4, hf4⟩))
              have HJ := Lib.hid (HId.out.both hs3 hf3 hs4 hf4 hm4 HId.out.bp HId.out.z)
              clear hs3 hf3 hs4 hf4 hm4
              go_wp2_with fail
              go_meet
              case rel => exact Lib.hid ⟨chE n, _, _, _, _, _, _, _, rfl, rfl, HJ.out⟩
          by_cases d4 : d = 4
          · subst d4
            as_aux_lemma =>
              cases inb
              · have HN := Lib.hid (show ¬ (1 ≤ n ∧ n ≤ 64) from fun h => by have e := HIN.out; rw [decide_eq_true h.1, decide_eq_true h.2] at e; cases e)
                obtain ⟨z0, z1, z2, z3, z4, z5⟩ := (show _ ∧ _ ∧ _ ∧ _ ∧ _ ∧ _ from ⟨HC.out.cell 0, HC.out.cell 1, HC.out.cell 2, HC.out.cell 3, HC.out.cell 4, HC.out.cell 5⟩)
                simp at z0 z1 z2 z3 z4 z5
                go_wp2_with fail
                refine (raise_no (g := s) (A := A) (M := M) (P := P) (x := sx) (y := sy) n HN.out _).mono ?_
                rintro e w3 ⟨rfl, hf3⟩
                have HJ := Lib.hid (HI.out.same hf3)
                clear hf3 z0 z1 z2 z3 z4 z5
                go_wp2_with fail
                go_meet
                case rel => exact Lib.hid ⟨22, _, _, _, _, _, _, _, rfl, rfl, HJ.out⟩
              · have HN := Lib.hid (show 1 ≤ n ∧ n ≤ 64 from by
                  have e := HIN.out.symm
                  rw [Bool.and_eq_true, decide_eq_true_eq, decide_eq_true_eq] at e
                  exact e)
                obtain ⟨m, rfl⟩ : ∃ m : Nat, n = m := ⟨n.toNat, by have := HN.out; omega⟩
                obtain ⟨z0, z1, z2, z3, z4, z5⟩ := (show _ ∧ _ ∧ _ ∧ _ ∧ _ ∧ _ from ⟨HC.out.cell 0, HC.out.cell 1, HC.out.cell 2, HC.out.cell 3, HC.out.cell 4, HC.out.cell 5⟩)
                simp at z0 z1 z2 z3 z4 z5
                go_wp2_with fail
                refine (raise_yes (m : Int) HN.out _ HI.out.st).mono ?_
                rintro e w3 ⟨rfl, hs3, hf3⟩
                have HR3 := Lib.hid (HI.out.rs1 hf3)
                have HC := Lib.hid (HC.out.fr hf3 hne)
                have HS3 := Lib.hid hs3
                have HF3 := Lib.hid hf3
                clear hs3 hf3 z0 z1 z2 z3 z4 z5
                have hm65 : m < 65 := by have := HN.out; omega
                have t5 : decide ((m : Int) < 65) = true := decide_eq_true (by omega)
                obtain ⟨z0, z1, z2, z3, z4, z5⟩ := (show _ ∧ _ ∧ _ ∧ _ ∧ _ ∧ _ from ⟨HC.out.cell 0, HC.out.cell 1, HC.out.cell 2, HC.out.cell 3, HC.out.cell 4, HC.out.cell 5⟩)
                simp at z0 z1 z2 z3 z4 z5
                have c0 := HR3.out.p m hm65
                have f0 := HR3.out.frz (260 + m)
                go_wp2_with fail
                go_region
                all_goals
                  have HJ := Lib.hid (HI.out.both HS3.out HF3.out (show Rs (w3.drew.setCell ⟨g, 260 + m, none⟩ (.bool true)) g A mf (updB pf m true) sx sy from Rs.setP (w := w3.drew) HR3.out m hm65 true) ((Fr.refl (fun k => k = g) w3).drew.setCell (p := ⟨g, 260 + m, none⟩) (.inl rfl) _) HI.out.bm (bits_or HI.out.bp m HN.out) HI.out.z)
                  clear z0 z1 z2 z3 z4 z5 c0 f0
                  go_wp2_with fail
                  go_meet
                  case rel => exact Lib.hid ⟨0, _, _, _, _, _, _, _, rfl, rfl, HJ.out⟩
          by_cases d5 : d = 5
          · subst d5
            as_aux_lemma =>
              obtain ⟨z0, z1, z2, z3, z4, z5⟩ := (show _ ∧ _ ∧ _ ∧ _ ∧ _ ∧ _ from ⟨HC.out.cell 0, HC.out.cell 1, HC.out.cell 2, HC.out.cell 3, HC.out.cell 4, HC.out.cell 5⟩)
              simp at z0 z1 z2 z3 z4 z5
              go_wp2_with fail
              refine (copy_any _ HI.out.st).mono ?_
              rintro e w3 ⟨rfl, _, hf3⟩
              have HI := Lib.hid (HI.out.same hf3)
              clear hf3 z0 z1 z2 z3 z4 z5
              go_wp2_with fail
              refine (take_any _ HS0.out HI.out.st (HT0.out.fr HI.out.fr id)).mono ?_
              rintro e w4 ⟨tn, P', hk, rfl, hs4, hf4⟩
              have hn64 : tn ≤ 64 := by rcases hk with ⟨rfl, _⟩ | ⟨k, hk, rfl, _⟩ <;> omega
              rw [actC_all HI.out.z tn]
              obtain ⟨bt, hbt⟩ : ∃ b, decide (0 < tn) = b := ⟨_, rfl⟩
              have hbt2 : decide ((0 : Int) < (tn : Int)) = bt := by rw [← hbt]; exact decide_eq_decide.2 (by omega)
              have HK := Lib.hid hk
              have HR4 := Lib.hid (Rs.fr (HI.out.rs1 hf4) ((Fr.refl (fun _ => False) _).alloc (.cells #[.int .u64 (A (tn * 3)), .int .u64 (A (tn * 3 + 1)), .int .u64 (A (tn * 3 + 2))] 33)) id)
              have HX := Lib.hid (Blk.new w4 33 #[.int .u64 (A (tn * 3)), .int .u64 (A (tn * 3 + 1)), .int .u64 (A (tn * 3 + 2))])
              have HS4 := Lib.hid (show St (w4.alloc (.cells #[.int .u64 (A (tn * 3)), .int .u64 (A (tn * 3 + 1)), .int .u64 (A (tn * 3 + 2))] 33)) s A M P' sx sy from Blk.alloc hs4 _)
              have HF4 := Lib.hid (hf4.alloc (.cells #[.int .u64 (A (tn * 3)), .int .u64 (A (tn * 3 + 1)), .int .u64 (A (tn * 3 + 2))] 33))
              have hw4 := HI.out.rs.lt
              have hw5 := hf4.size
              rw [hbt]
              clear hk hs4 hf4
              go_wp2_with fail
              refine (rtake_any M P P' tn HK.out HI.out.bm HI.out.bp _ HR4.out).mono ?_
              rintro e w5 ⟨rfl, pf', hp5, hs5, hf5⟩
              have HX := Lib.hid (HX.out.fr hf5 (by omega))
              have HJ := Lib.hid (HI.out.both HS4.out HF4.out hs5 hf5 HI.out.bm hp5 HI.out.z)
              have HR5 := Lib.hid hs5
              clear hp5 hs5 hf5 HS4 HF4 HR4
              obtain ⟨v0, hv0⟩ : ∃ v, A (tn * 3) = v := ⟨_, rfl⟩
              obtain ⟨v1, hv1⟩ : ∃ v, A (tn * 3 + 1) = v := ⟨_, rfl⟩
              obtain ⟨v2, hv2⟩ : ∃ v, A (tn * 3 + 2) = v := ⟨_, rfl⟩
              obtain ⟨y0, y1, y2⟩ := (show _ ∧ _ ∧ _ from ⟨HX.out.cell 0, HX.out.cell 1, HX.out.cell 2⟩)
              simp at y0 y1 y2
              obtain ⟨r0, r1, r2⟩ := (show _ ∧ _ ∧ _ from ⟨HR5.out.a (tn * 3) (by omega), HR5.out.a (tn * 3 + 1) (by omega), HR5.out.a (tn * 3 + 2) (by omega)⟩)
              rw [hv0] at y0 r0
              rw [hv1] at y1 r1
              rw [hv2] at y2 r2
              rw [hv0, hv1, hv2]
              clear hv0 hv1 hv2
              have hq3 := eq_act v0 v1 v2 v0 v1 v2
              have t6 : decide ((tn : Int) < 65) = true := decide_eq_true (by omega)
              have i1 : (tn : Int) < 65 := by omega
              have i0 : (0 : Int) ≤ (tn : Int) := by omega
              cases bt
              all_goals
                go_wp2_with fail
                go_quiet (fail)
                go_wp2_with fail
                go_meet
                case rel => exact Lib.hid ⟨0, _, _, _, _, _, _, _, rfl, rfl, HJ.out.same ((Fr.refl _ _).drewN nq)⟩
          by_cases d6 : d = 6
          · subst d6
            as_aux_lemma =>
              cases inb
              · have HN := Lib.hid (show ¬ (1 ≤ n ∧ n ≤ 64) from fun h => by have e := HIN.out; rw [decide_eq_true h.1, decide_eq_true h.2] at e; cases e)
                obtain ⟨z0, z1, z2, z3, z4, z5⟩ := (show _ ∧ _ ∧ _ ∧ _ ∧ _ ∧ _ from ⟨HC.out.cell 0, HC.out.cell 1, HC.out.cell 2, HC.out.cell 3, HC.out.cell 4, HC.out.cell 5⟩)
                simp at z0 z1 z2 z3 z4 z5
                go_wp2_with fail
                refine (enter_out (g := s) (A := A) (M := M) (P := P) (x := sx) (y := sy) n (U hh) ff mm HN.out _).mono ?_
                rintro e w3 ⟨rfl, hf3⟩
                have HJ := Lib.hid (HI.out.same hf3)
                clear hf3 z0 z1 z2 z3 z4 z5
                go_wp2_with fail
                go_meet
                case rel => exact Lib.hid ⟨0, _, _, _, _, _, _, _, rfl, rfl, HJ.out⟩
              · have HN := Lib.hid (show 1 ≤ n ∧ n ≤ 64 from by
                  have e := HIN.out.symm
                  rw [Bool.and_eq_true, decide_eq_true_eq, decide_eq_true_eq] at e
                  exact e)
                obtain ⟨m, rfl⟩ : ∃ m : Nat, n = m := ⟨n.toNat, by have := HN.out; omega⟩
                obtain ⟨z0, z1, z2, z3, z4, z5⟩ := (show _ ∧ _ ∧ _ ∧ _ ∧ _ ∧ _ from ⟨HC.out.cell 0, HC.out.cell 1, HC.out.cell 2, HC.out.cell 3, HC.out.cell 4, HC.out.cell 5⟩)
                simp at z0 z1 z2 z3 z4 z5
                go_wp2_with fail
                refine (enter_in m (U hh) ff mm (by have := HN.out; omega) _ _ rfl rfl _ HI.out.st).mono ?_
                rintro e w3 ⟨rfl, hs3, hf3⟩
                have HR3 := Lib.hid (HI.out.rs1 hf3)
                have HC := Lib.hid (HC.out.fr hf3 hne)
                have HS3 := Lib.hid hs3
                have HF3 := Lib.hid hf3
                clear hs3 hf3 z0 z1 z2 z3 z4 z5
                obtain ⟨z0, z1, z2, z3, z4, z5⟩ := (show _ ∧ _ ∧ _ ∧ _ ∧ _ ∧ _ from ⟨HC.out.cell 0, HC.out.cell 1, HC.out.cell 2, HC.out.cell 3, HC.out.cell 4, HC.out.cell 5⟩)
                simp at z0 z1 z2 z3 z4 z5
                go_wp2_with fail
                refine (renter_any m (U hh) ff mm M (by have := HN.out; omega) _ _ rfl rfl HI.out.bm _ HR3.out).mono ?_
                rintro e w4 ⟨rfl, mf', hm4, hs4, hf4⟩
                have HJ := Lib.hid (HI.out.both HS3.out HF3.out hs4 hf4 hm4 HI.out.bp (z_if HI.out.z _ m HN.out))
                clear hm4 hs4 hf4 z0 z1 z2 z3 z4 z5
                go_wp2_with fail
                go_meet
                case rel => exact Lib.hid ⟨0, _, _, _, _, _, _, _, rfl, rfl, HJ.out⟩
          by_cases d7 : d = 7
          · subst d7
            as_aux_lemma =>
              obtain ⟨yn, hyn⟩ : ∃ yn, IntKind.u64.wrap n = U yn := ⟨_, wrap_u64 n⟩
              obtain ⟨z0, z1, z2, z3, z4, z5⟩ := (show _ ∧ _ ∧ _ ∧ _ ∧ _ ∧ _ from ⟨HC.out.cell 0, HC.out.cell 1, HC.out.cell 2, HC.out.cell 3, HC.out.cell 4, HC.out.cell 5⟩)
              simp at z0 z1 z2 z3 z4 z5
              go_wp2_with fail
              refine (setstack_any X yn _ HI.out.st).mono ?_
              rintro e w3 ⟨rfl, hs3, hf3⟩
              have HR3 := Lib.hid (HI.out.rs1 hf3)
              have HC := Lib.hid (HC.out.fr hf3 hne)
              have HS3 := Lib.hid hs3
              have HF3 := Lib.hid hf3
              clear hs3 hf3 z0 z1 z2 z3 z4 z5
              obtain ⟨z0, z1, z2, z3, z4, z5⟩ := (show _ ∧ _ ∧ _ ∧ _ ∧ _ ∧ _ from ⟨HC.out.cell 0, HC.out.cell 1, HC.out.cell 2, HC.out.cell 3, HC.out.cell 4, HC.out.cell 5⟩)
              simp at z0 z1 z2 z3 z4 z5
              obtain ⟨k1, k2⟩ := HR3.out.k
              obtain ⟨g1, g2⟩ := (show _ ∧ _ from ⟨HR3.out.frz 325, HR3.out.frz 326⟩)
              have HJ := Lib.hid (HI.out.both HS3.out HF3.out (HR3.out.setK X yn) (((Fr.refl (fun k => k = g) w3).setCell (p := ⟨g, 325, none⟩) (.inl rfl) (.int .u64 (U X))).setCell (p := ⟨g, 326, none⟩) (.inl rfl) (.int .u64 (U yn))) HI.out.bm HI.out.bp HI.out.z)
              go_wp2_with fail
              go_meet
              case rel => exact Lib.hid ⟨0, _, _, _, _, _, _, _, rfl, rfl, HJ.out⟩
          have e1 : (d == 1) = false := beq_eq_false_iff_ne.2 d1
          have e2 : (d == 2) = false := beq_eq_false_iff_ne.2 d2
          have e3 : (d == 3) = false := beq_eq_false_iff_ne.2 d3
          have e4 : (d == 4) = false := beq_eq_false_iff_ne.2 d4
          have e5 : (d == 5) = false := beq_eq_false_iff_ne.2 d5
          have e6 : (d == 6) = false := beq_eq_false_iff_ne.2 d6
          have e7 : (d == 7) = false := beq_eq_false_iff_ne.2 d7
          clear d1 d2 d3 d4 d5 d6 d7
          obtain ⟨z0, z1, z2, z3, z4, z5⟩ := (show _ ∧ _ ∧ _ ∧ _ ∧ _ ∧ _ from ⟨HC.out.cell 0, HC.out.cell 1, HC.out.cell 2, HC.out.cell 3, HC.out.cell 4, HC.out.cell 5⟩)
          simp at z0 z1 z2 z3 z4 z5
          go_wp2_with fail
          go_meet
          case rel => exact Lib.hid ⟨0, _, _, _, _, _, _, _, rfl, rfl, HI.out⟩
        case rest =>
          obtain ⟨q, A', M', P', x', y', mf', pf', rfl, rfl, hJ⟩ := hcut.out
          have HJ := Lib.hid hJ
          clear hcut hJ HI HId HC z0 z1 z2 z3 z4 z5
          obtain ⟨wB, hwB⟩ : ∃ wB, wB = wc := ⟨_, rfl⟩
          rw [← hwB] at HJ ⊢
          clear hwB
          as_aux_lemma =>
            have hq2 := eq_stack (U x') (U y') (U x') (U y')
            have HQ := Lib.hid hq2
            go_wp2_with fail
            refine wp_region_noPanic ?_
            refine wp_region_held_drew (S := (fun w' => SInv w w' s g A' M' P' x' y' (mf') (pf'))) (by kernel_rfl) ?_ (fun hHeld => ?_)
            · exact HJ.out.same ((Fr.refl _ _).drew)
            refine wpAnyH_take (i := 0) (v := ?_) rfl (by kernel_rfl) (by kernel_rfl) (by kernel_rfl) (fun _ _ _ h => h) (Or.inl ⟨by rfl, ?_⟩) (by assumption) ?_
            rotate_left
            · (intro w hSw; (try dsimp only at hSw); go_simp; first | done | (with_reducible rfl))
            try simp only [List.getElem_toArray, List.getElem_cons_succ, List.getElem_cons_zero, Act.put, List.setIfInBounds_toArray, List.set_cons_zero, List.set_cons_succ]
            refine wpAnyH_take (i := 1) (v := ?_) rfl (by kernel_rfl) (by kernel_rfl) (by kernel_rfl) (fun _ _ _ h => h) (Or.inl ⟨by rfl, ?_⟩) (by assumption) ?_
            rotate_left
            · (intro w hSw; (try dsimp only at hSw); go_simp; first | done | (with_reducible rfl))
            try simp only [List.getElem_toArray, List.getElem_cons_succ, List.getElem_cons_zero, Act.put, List.setIfInBounds_toArray, List.set_cons_zero, List.set_cons_succ]
            refine wpAnyH_take (i := 2) (v := ?_) rfl (by kernel_rfl) (by kernel_rfl) (by kernel_rfl) (fun _ _ _ h => h) (Or.inl ⟨by rfl, ?_⟩) (by assumption) ?_
            rotate_left
            · (intro w hSw; (try dsimp only at hSw); go_simp; first | done | (with_reducible rfl))
            try simp only [List.getElem_toArray, List.getElem_cons_succ, List.getElem_cons_zero, Act.put, List.setIfInBounds_toArray, List.set_cons_zero, List.set_cons_succ]
            refine wpAnyH_take (i := 3) (v := ?_) rfl (by kernel_rfl) (by kernel_rfl) (by kernel_rfl) (fun _ _ _ h => h) (Or.inl ⟨by rfl, ?_⟩) (by assumption) ?_
            rotate_left
            · (intro w hSw; (try dsimp only at hSw); go_simp; first | done | (with_reducible rfl))
            try simp only [List.getElem_toArray, List.getElem_cons_succ, List.getElem_cons_zero, Act.put, List.setIfInBounds_toArray, List.set_cons_zero, List.set_cons_succ]
            refine wpAnyH_take (i := 4) (v := ?_) rfl (by kernel_rfl) (by kernel_rfl) (by kernel_rfl) (fun _ _ _ h => h) (Or.inl ⟨by rfl, ?_⟩) (by assumption) ?_
            rotate_left
            · (intro w hSw; (try dsimp only at hSw); go_simp; first | done | (with_reducible rfl))
            try simp only [List.getElem_toArray, List.getElem_cons_succ, List.getElem_cons_zero, Act.put, List.setIfInBounds_toArray, List.set_cons_zero, List.set_cons_succ]
            refine wpAnyH_take (i := 6) (v := ?_) rfl (by kernel_rfl) (by kernel_rfl) (by kernel_rfl) (fun _ _ _ h => h) (Or.inl ⟨by rfl, ?_⟩) (by assumption) ?_
            rotate_left
            · (intro w hSw; (try dsimp only at hSw); go_simp; first | done | (with_reducible rfl))
            try simp only [List.getElem_toArray, List.getElem_cons_succ, List.getElem_cons_zero, Act.put, List.setIfInBounds_toArray, List.set_cons_zero, List.set_cons_succ]
            refine wpAnyH_take (i := 7) (v := ?_) rfl (by kernel_rfl) (by kernel_rfl) (by kernel_rfl) (fun _ _ _ h => h) (Or.inl ⟨by rfl, ?_⟩) (by assumption) ?_
            rotate_left
            · (intro w hSw; (try dsimp only at hSw); go_simp; first | done | (with_reducible rfl))
            try simp only [List.getElem_toArray, List.getElem_cons_succ, List.getElem_cons_zero, Act.put, List.setIfInBounds_toArray, List.set_cons_zero, List.set_cons_succ]
            refine wpAnyH_take (i := 8) (v := ?_) rfl (by kernel_rfl) (by kernel_rfl) (by kernel_rfl) (fun _ _ _ h => h) (Or.inl ⟨by rfl, ?_⟩) (by assumption) ?_
            rotate_left
            · (intro w hSw; (try dsimp only at hSw); go_simp; first | done | (with_reducible rfl))
            try simp only [List.getElem_toArray, List.getElem_cons_succ, List.getElem_cons_zero, Act.put, List.setIfInBounds_toArray, List.set_cons_zero, List.set_cons_succ]
            refine wpAnyH_take (i := 9) (v := .agg (comeA (mf'))) rfl (by kernel_rfl) (by kernel_rfl) (by kernel_rfl) (fun _ _ _ h => h) (y_mid (by rfl) (.tmp 175) rfl g 195 rfl (mf') (fun w h => h.rs.ranges.1)) (by assumption) ?_
            try simp only [List.getElem_toArray, List.getElem_cons_succ, List.getElem_cons_zero, Act.put, List.setIfInBounds_toArray, List.set_cons_zero, List.set_cons_succ]
            refine wpAnyH_ready (rs := [5]) (by kernel_rfl) (by simp) ?_
            refine AllReadyH.cons rfl (fun K' hK' => ?_) AllReadyH.nil
            go_simp
            go_at_call 10; refine (mask_same _ hHeld.st).mono ?_; rintro e w' ⟨rfl, rfl⟩
            have hS1 := hHeld
            clear hHeld
            refine hK'.out _ _ hS1 (fun hHeld => ?_)
            clear hK' K' hS1
            try simp only [List.getElem_toArray, List.getElem_cons_succ, List.getElem_cons_zero, Act.put, List.setIfInBounds_toArray, List.set_cons_zero, List.set_cons_succ]
            refine wpAnyH_ready (rs := [10]) (by kernel_rfl) (by simp) ?_
            refine AllReadyH.cons rfl (fun K' hK' => ?_) AllReadyH.nil
            go_simp
            go_at_call 28; refine (word_any (mf') M' hHeld.bm _).mono ?_; rintro e w3 ⟨rfl, hf3⟩
            have hS1 := hHeld.same hf3; clear hf3
            clear hHeld
            refine hK'.out _ _ hS1 (fun hHeld => ?_)
            clear hK' K' hS1
            try simp only [List.getElem_toArray, List.getElem_cons_succ, List.getElem_cons_zero, Act.put, List.setIfInBounds_toArray, List.set_cons_zero, List.set_cons_succ]
            refine wpAnyH_take (i := 11) (v := ?_) rfl (by kernel_rfl) (by kernel_rfl) (by kernel_rfl) (fun _ _ _ h => h) (Or.inl ⟨by rfl, ?_⟩) (by assumption) ?_
            rotate_left
            · (intro w hSw; (try dsimp only at hSw); go_simp; first | done | (with_reducible rfl))
            try simp only [List.getElem_toArray, List.getElem_cons_succ, List.getElem_cons_zero, Act.put, List.setIfInBounds_toArray, List.set_cons_zero, List.set_cons_succ]
            refine wpAnyH_take (i := 12) (v := ?_) rfl (by kernel_rfl) (by kernel_rfl) (by kernel_rfl) (fun _ _ _ h => h) (Or.inl ⟨by rfl, ?_⟩) (by assumption) ?_
            rotate_left
            · (intro w hSw; (try dsimp only at hSw); go_simp; first | done | (with_reducible rfl))
            try simp only [List.getElem_toArray, List.getElem_cons_succ, List.getElem_cons_zero, Act.put, List.setIfInBounds_toArray, List.set_cons_zero, List.set_cons_succ]
            refine wpAnyH_take (i := 13) (v := ?_) rfl (by kernel_rfl) (by kernel_rfl) (by kernel_rfl) (fun _ _ _ h => h) (Or.inl ⟨by rfl, ?_⟩) (by assumption) ?_
            rotate_left
            · (intro w hSw; (try dsimp only at hSw); go_simp; first | done | (with_reducible rfl))
            try simp only [List.getElem_toArray, List.getElem_cons_succ, List.getElem_cons_zero, Act.put, List.setIfInBounds_toArray, List.set_cons_zero, List.set_cons_succ]
            refine wpAnyH_take (i := 14) (v := ?_) rfl (by kernel_rfl) (by kernel_rfl) (by kernel_rfl) (fun _ _ _ h => h) (Or.inl ⟨by rfl, ?_⟩) (by assumption) ?_
            rotate_left
            · (intro w hSw; (try dsimp only at hSw); go_simp; first | done | (with_reducible rfl))
            try simp only [List.getElem_toArray, List.getElem_cons_succ, List.getElem_cons_zero, Act.put, List.setIfInBounds_toArray, List.set_cons_zero, List.set_cons_succ]
            refine wpAnyH_take (i := 16) (v := ?_) rfl (by kernel_rfl) (by kernel_rfl) (by kernel_rfl) (fun _ _ _ h => h) (Or.inl ⟨by rfl, ?_⟩) (by assumption) ?_
            rotate_left
            · (intro w hSw; (try dsimp only at hSw); go_simp; first | done | (with_reducible rfl))
            try simp only [List.getElem_toArray, List.getElem_cons_succ, List.getElem_cons_zero, Act.put, List.setIfInBounds_toArray, List.set_cons_zero, List.set_cons_succ]
            refine wpAnyH_take (i := 17) (v := ?_) rfl (by kernel_rfl) (by kernel_rfl) (by kernel_rfl) (fun _ _ _ h => h) (Or.inl ⟨by rfl, ?_⟩) (by assumption) ?_
            rotate_left
            · (intro w hSw; (try dsimp only at hSw); go_simp; first | done | (with_reducible rfl))
            try simp only [List.getElem_toArray, List.getElem_cons_succ, List.getElem_cons_zero, Act.put, List.setIfInBounds_toArray, List.set_cons_zero, List.set_cons_succ]
            refine wpAnyH_take (i := 18) (v := ?_) rfl (by kernel_rfl) (by kernel_rfl) (by kernel_rfl) (fun _ _ _ h => h) (Or.inl ⟨by rfl, ?_⟩) (by assumption) ?_
            rotate_left
            · (intro w hSw; (try dsimp only at hSw); go_simp; first | done | (with_reducible rfl))
            try simp only [List.getElem_toArray, List.getElem_cons_succ, List.getElem_cons_zero, Act.put, List.setIfInBounds_toArray, List.set_cons_zero, List.set_cons_succ]
            refine wpAnyH_take (i := 19) (v := .agg (comeA (pf'))) rfl (by kernel_rfl) (by kernel_rfl) (by kernel_rfl) (fun _ _ _ h => h) (y_mid (by rfl) (.tmp 185) rfl g 260 rfl (pf') (fun w h => h.rs.ranges.2)) (by assumption) ?_
            try simp only [List.getElem_toArray, List.getElem_cons_succ, List.getElem_cons_zero, Act.put, List.setIfInBounds_toArray, List.set_cons_zero, List.set_cons_succ]
            refine wpAnyH_ready (rs := [15]) (by kernel_rfl) (by simp) ?_
            refine AllReadyH.cons rfl (fun K' hK' => ?_) AllReadyH.nil
            go_simp
            go_at_call 16; refine (pending_same _ hHeld.st).mono ?_; rintro e w' ⟨rfl, rfl⟩
            have hS1 := hHeld
            clear hHeld
            refine hK'.out _ _ hS1 (fun hHeld => ?_)
            clear hK' K' hS1
            try simp only [List.getElem_toArray, List.getElem_cons_succ, List.getElem_cons_zero, Act.put, List.setIfInBounds_toArray, List.set_cons_zero, List.set_cons_succ]
            refine wpAnyH_ready (rs := [20]) (by kernel_rfl) (by simp) ?_
            refine AllReadyH.cons rfl (fun K' hK' => ?_) AllReadyH.nil
            go_simp
            go_at_call 28; refine (word_any (pf') P' hHeld.bp _).mono ?_; rintro e w4 ⟨rfl, hf4⟩
            have hS1 := hHeld.same hf4; clear hf4
            clear hHeld
            refine hK'.out _ _ hS1 (fun hHeld => ?_)
            clear hK' K' hS1
            try simp only [List.getElem_toArray, List.getElem_cons_succ, List.getElem_cons_zero, Act.put, List.setIfInBounds_toArray, List.set_cons_zero, List.set_cons_succ]
            refine wpAnyH_take (i := 21) (v := ?_) rfl (by kernel_rfl) (by kernel_rfl) (by kernel_rfl) (fun _ _ _ h => h) (Or.inl ⟨by rfl, ?_⟩) (by assumption) ?_
            rotate_left
            · (intro w hSw; (try dsimp only at hSw); go_simp; first | done | (with_reducible rfl))
            try simp only [List.getElem_toArray, List.getElem_cons_succ, List.getElem_cons_zero, Act.put, List.setIfInBounds_toArray, List.set_cons_zero, List.set_cons_succ]
            refine wpAnyH_take (i := 22) (v := ?_) rfl (by kernel_rfl) (by kernel_rfl) (by kernel_rfl) (fun _ _ _ h => h) (Or.inl ⟨by rfl, ?_⟩) (by assumption) ?_
            rotate_left
            · (intro w hSw; (try dsimp only at hSw); go_simp; first | done | (with_reducible rfl))
            try simp only [List.getElem_toArray, List.getElem_cons_succ, List.getElem_cons_zero, Act.put, List.setIfInBounds_toArray, List.set_cons_zero, List.set_cons_succ]
            refine wpAnyH_take (i := 23) (v := ?_) rfl (by kernel_rfl) (by kernel_rfl) (by kernel_rfl) (fun _ _ _ h => h) (Or.inl ⟨by rfl, ?_⟩) (by assumption) ?_
            rotate_left
            · (intro w hSw; (try dsimp only at hSw); go_simp; first | done | (with_reducible rfl))
            try simp only [List.getElem_toArray, List.getElem_cons_succ, List.getElem_cons_zero, Act.put, List.setIfInBounds_toArray, List.set_cons_zero, List.set_cons_succ]
            refine wpAnyH_take (i := 24) (v := ?_) rfl (by kernel_rfl) (by kernel_rfl) (by kernel_rfl) (fun _ _ _ h => h) (Or.inl ⟨by rfl, ?_⟩) (by assumption) ?_
            rotate_left
            · (intro w hSw; (try dsimp only at hSw); go_simp; first | done | (with_reducible rfl))
            try simp only [List.getElem_toArray, List.getElem_cons_succ, List.getElem_cons_zero, Act.put, List.setIfInBounds_toArray, List.set_cons_zero, List.set_cons_succ]
            refine wpAnyH_take (i := 26) (v := ?_) rfl (by kernel_rfl) (by kernel_rfl) (by kernel_rfl) (fun _ _ _ h => h) (Or.inl ⟨by rfl, ?_⟩) (by assumption) ?_
            rotate_left
            · (intro w hSw; (try dsimp only at hSw); go_simp; first | done | (with_reducible rfl))
            try simp only [List.getElem_toArray, List.getElem_cons_succ, List.getElem_cons_zero, Act.put, List.setIfInBounds_toArray, List.set_cons_zero, List.set_cons_succ]
            refine wpAnyH_take (i := 27) (v := ?_) rfl (by kernel_rfl) (by kernel_rfl) (by kernel_rfl) (fun _ _ _ h => h) (Or.inl ⟨by rfl, ?_⟩) (by assumption) ?_
            rotate_left
            · (intro w hSw; (try dsimp only at hSw); go_simp; first | done | (with_reducible rfl))
            try simp only [List.getElem_toArray, List.getElem_cons_succ, List.getElem_cons_zero, Act.put, List.setIfInBounds_toArray, List.set_cons_zero, List.set_cons_succ]
            refine wpAnyH_take (i := 28) (v := ?_) rfl (by kernel_rfl) (by kernel_rfl) (by kernel_rfl) (fun _ _ _ h => h) (Or.inl ⟨by rfl, ?_⟩) (by assumption) ?_
            rotate_left
            · (intro w hSw; (try dsimp only at hSw); go_simp; first | done | (with_reducible rfl))
            try simp only [List.getElem_toArray, List.getElem_cons_succ, List.getElem_cons_zero, Act.put, List.setIfInBounds_toArray, List.set_cons_zero, List.set_cons_succ]
            refine wpAnyH_take (i := 29) (v := .agg #[.int .u64 (U x'), .int .u64 (U y')]) rfl (by kernel_rfl) (by kernel_rfl) (by kernel_rfl) (fun _ _ _ h => h) (Or.inl ⟨by rfl, fun w h => by obtain ⟨k1, k2⟩ := h.rs.k; go_simp⟩) (by assumption) ?_
            try simp only [List.getElem_toArray, List.getElem_cons_succ, List.getElem_cons_zero, Act.put, List.setIfInBounds_toArray, List.set_cons_zero, List.set_cons_succ]
            refine wpAnyH_ready (rs := [25]) (by kernel_rfl) (by simp) ?_
            refine AllReadyH.cons rfl (fun K' hK' => ?_) AllReadyH.nil
            go_simp
            go_at_call 29; refine (stack_any _ hHeld.st).mono ?_; rintro e w5 ⟨rfl, hf5⟩
            have hS1 := hHeld.same hf5; clear hf5
            clear hHeld
            refine hK'.out _ _ hS1 (fun hHeld => ?_)
            clear hK' K' hS1
            try simp only [List.getElem_toArray, List.getElem_cons_succ, List.getElem_cons_zero, Act.put, List.setIfInBounds_toArray, List.set_cons_zero, List.set_cons_succ]
            refine wpAnyH_take (i := 30) (v := ?_) rfl (by kernel_rfl) (by kernel_rfl) (by kernel_rfl) (fun _ _ _ h => h) (Or.inl ⟨by rfl, ?_⟩) (by assumption) ?_
            rotate_left
            · (intro w hSw; (try dsimp only at hSw); go_simp; first | done | (with_reducible rfl))
            try simp only [List.getElem_toArray, List.getElem_cons_succ, List.getElem_cons_zero, Act.put, List.setIfInBounds_toArray, List.set_cons_zero, List.set_cons_succ]
            refine wpAnyH_take (i := 31) (v := ?_) rfl (by kernel_rfl) (by kernel_rfl) (by kernel_rfl) (fun _ _ _ h => h) (Or.inl ⟨by rfl, ?_⟩) (by assumption) ?_
            rotate_left
            · (intro w hSw; (try dsimp only at hSw); go_simp; first | done | (with_reducible rfl))
            try simp only [List.getElem_toArray, List.getElem_cons_succ, List.getElem_cons_zero, Act.put, List.setIfInBounds_toArray, List.set_cons_zero, List.set_cons_succ]
            refine wpAnyH_done (by kernel_rfl) ?_ _
            refine NoPanic.normal ?_
            go_wp2_with fail
            go_roundg (80 - (k + 1))
            case measure => omega
            case rel => exact Lib.hid ⟨k + 1, A', M', P', x', y', mf', pf', by go_num, by omega, Nat.le_refl _, hHeld⟩
    · by_cases hkl : k < len
      · have t1 : decide ((k : Int) < (len : Int)) = true := decide_eq_true (by omega)
        have t1' : decide (k < len) = true := decide_eq_true (by omega)
        have t2 : decide ((k : Int) < 80) = false := decide_eq_false (by omega)
        have t2' : decide (k < 80) = false := decide_eq_false (by omega)
        as_aux_lemma =>
          go_wp2_with fail
          go_loopg [14] 68 (fun kq i wr2 => Hid (AtEx w s g A M P sx sy mf pf i kq wr2))
          case atStart => exact Lib.hid ⟨-1, rfl, by omega, by omega, by omega, HI.out⟩
          case round =>
            obtain ⟨z, rfl, hz1, hz2, hkq2, hI2⟩ := hrel.out
            have HI := Lib.hid hI2
            clear hrel hI2
            by_cases hz : z ≤ 66
            · have u1 : decide (z ≤ 66) = true := decide_eq_true hz
              go_wp2_with fail
              refine (action_any z _ HI.out.st).mono ?_
              rintro e w3 ⟨rfl, hf3⟩
              have HI := Lib.hid (HI.out.same hf3)
              clear hf3
              by_cases hin : 1 ≤ z ∧ z ≤ 64
              · obtain ⟨m, rfl⟩ : ∃ m : Nat, z = m := ⟨z.toNat, by omega⟩
                obtain ⟨e0, e1, e2, e3⟩ := acz_in A m hin
                rw [e0, e1, e2, e3]
                clear e0 e1 e2 e3
                have ug := HI.out.rs.lt
                have une : ¬ (w3.heap.size = g) := by omega
                obtain ⟨v0, hv0⟩ : ∃ v, A (m * 3) = v := ⟨_, rfl⟩
                obtain ⟨v1, hv1⟩ : ∃ v, A (m * 3 + 1) = v := ⟨_, rfl⟩
                obtain ⟨v2, hv2⟩ : ∃ v, A (m * 3 + 2) = v := ⟨_, rfl⟩
                have HI := Lib.hid (HI.out.same ((Fr.refl (fun _ => False) w3).alloc (.cells #[.int .u64 v0, .int .u64 v1, .int .u64 v2] 33)))
                have HR := Lib.hid HI.out.rs
                obtain ⟨r0, r1, r2⟩ := (show _ ∧ _ ∧ _ from ⟨HR.out.a (m * 3) (by omega), HR.out.a (m * 3 + 1) (by omega), HR.out.a (m * 3 + 2) (by omega)⟩)
                rw [hv0] at r0
                rw [hv1] at r1
                rw [hv2] at r2
                rw [hv0, hv1, hv2]
                clear hv0 hv1 hv2
                have q3 := eq_act v0 v1 v2 v0 v1 v2
                have u2 : decide ((m : Int) < 1) = false := decide_eq_false (by omega)
                have u2' : decide (m < 1) = false := decide_eq_false (by omega)
                have u3 : decide (64 < (m : Int)) = false := decide_eq_false (by omega)
                have u3' : decide (64 < m) = false := decide_eq_false (by omega)
                have u4 : decide ((m : Int) < 65) = true := decide_eq_true (by omega)
                have i1 : (m : Int) < 65 := by omega
                have i0 : (0 : Int) ≤ (m : Int) := by omega
                go_wp2_with fail
                go_quiet (fail)
                go_wp2_with fail
                go_roundg (67 - ((m : Int) + 1)).toNat
                case measure => omega
                case rel => exact Lib.hid ⟨(m : Int) + 1, by go_num, by omega, by omega, by omega, HI.out.same ((Fr.refl _ _).drewN nq)⟩
              · obtain ⟨e0, e1, e2, e3⟩ := acz_out A z hin
                rw [e0, e1, e2, e3]
                clear e0 e1 e2 e3
                have HI := Lib.hid (HI.out.same ((Fr.refl (fun _ => False) w3).alloc (.cells #[.int .u64 0, .int .u64 0, .int .u64 0] 33)))
                have q3 := eq_act 0 0 0 0 0 0
                by_cases hlo : z < 1
                · have u2 : decide (z < 1) = true := decide_eq_true hlo
                  go_wp2_with fail
                  go_roundg (67 - (z + 1)).toNat
                  case measure => omega
                  case rel => exact Lib.hid ⟨z + 1, by go_num, by omega, by omega, by omega, HI.out⟩
                · have u2 : decide (z < 1) = false := decide_eq_false hlo
                  have u3 : decide (64 < z) = true := decide_eq_true (by omega)
                  go_wp2_with fail
                  go_roundg (67 - (z + 1)).toNat
                  case measure => omega
                  case rel => exact Lib.hid ⟨z + 1, by go_num, by omega, by omega, by omega, HI.out⟩
            · have u1 : decide (z ≤ 66) = false := decide_eq_false hz
              go_wp2_with fail
              go_ret
              exact ⟨rfl, HI.out.fr⟩
      · have t1 : decide ((k : Int) < (len : Int)) = false := decide_eq_false (by omega)
        have t1' : decide (k < len) = false := decide_eq_false (by omega)
        as_aux_lemma =>
          go_wp2_with fail
          go_loopg [14] 68 (fun kq i wr2 => Hid (AtEx w s g A M P sx sy mf pf i kq wr2))
          case atStart => exact Lib.hid ⟨-1, rfl, by omega, by omega, by omega, HI.out⟩
          case round =>
            obtain ⟨z, rfl, hz1, hz2, hkq2, hI2⟩ := hrel.out
            have HI := Lib.hid hI2
            clear hrel hI2
            by_cases hz : z ≤ 66
            · have u1 : decide (z ≤ 66) = true := decide_eq_true hz
              go_wp2_with fail
              refine (action_any z _ HI.out.st).mono ?_
              rintro e w3 ⟨rfl, hf3⟩
              have HI := Lib.hid (HI.out.same hf3)
              clear hf3
              by_cases hin : 1 ≤ z ∧ z ≤ 64
              · obtain ⟨m, rfl⟩ : ∃ m : Nat, z = m := ⟨z.toNat, by omega⟩
                obtain ⟨e0, e1, e2, e3⟩ := acz_in A m hin
                rw [e0, e1, e2, e3]
                clear e0 e1 e2 e3
                have ug := HI.out.rs.lt
                have une : ¬ (w3.heap.size = g) := by omega
                obtain ⟨v0, hv0⟩ : ∃ v, A (m * 3) = v := ⟨_, rfl⟩
                obtain ⟨v1, hv1⟩ : ∃ v, A (m * 3 + 1) = v := ⟨_, rfl⟩
                obtain ⟨v2, hv2⟩ : ∃ v, A (m * 3 + 2) = v := ⟨_, rfl⟩
                have HI := Lib.hid (HI.out.same ((Fr.refl (fun _ => False) w3).alloc (.cells #[.int .u64 v0, .int .u64 v1, .int .u64 v2] 33)))
                have HR := Lib.hid HI.out.rs
                obtain ⟨r0, r1, r2⟩ := (show _ ∧ _ ∧ _ from ⟨HR.out.a (m * 3) (by omega), HR.out.a (m * 3 + 1) (by omega), HR.out.a (m * 3 + 2) (by omega)⟩)
                rw [hv0] at r0
                rw [hv1] at r1
                rw [hv2] at r2
                rw [hv0, hv1, hv2]
                clear hv0 hv1 hv2
                have q3 := eq_act v0 v1 v2 v0 v1 v2
                have u2 : decide ((m : Int) < 1) = false := decide_eq_false (by omega)
                have u2' : decide (m < 1) = false := decide_eq_false (by omega)
                have u3 : decide (64 < (m : Int)) = false := decide_eq_false (by omega)
                have u3' : decide (64 < m) = false := decide_eq_false (by omega)
                have u4 : decide ((m : Int) < 65) = true := decide_eq_true (by omega)
                have i1 : (m : Int) < 65 := by omega
                have i0 : (0 : Int) ≤ (m : Int) := by omega
                go_wp2_with fail
                go_quiet (fail)
                go_wp2_with fail
                go_roundg (67 - ((m : Int) + 1)).toNat
                case measure => omega
                case rel => exact Lib.hid ⟨(m : Int) + 1, by go_num, by omega, by omega, by omega, HI.out.same ((Fr.refl _ _).drewN nq)⟩
              · obtain ⟨e0, e1, e2, e3⟩ := acz_out A z hin
                rw [e0, e1, e2, e3]
                clear e0 e1 e2 e3
                have HI := Lib.hid (HI.out.same ((Fr.refl (fun _ => False) w3).alloc (.cells #[.int .u64 0, .int .u64 0, .int .u64 0] 33)))
                have q3 := eq_act 0 0 0 0 0 0
                by_cases hlo : z < 1
                · have u2 : decide (z < 1) = true := decide_eq_true hlo
                  go_wp2_with fail
                  go_roundg (67 - (z + 1)).toNat
                  case measure => omega
                  case rel => exact Lib.hid ⟨z + 1, by go_num, by omega, by omega, by omega, HI.out⟩
                · have u2 : decide (z < 1) = false := decide_eq_false hlo
                  have u3 : decide (64 < z) = true := decide_eq_true (by omega)
                  go_wp2_with fail
                  go_roundg (67 - (z + 1)).toNat
                  case measure => omega
                  case rel => exact Lib.hid ⟨z + 1, by go_num, by omega, by omega, by omega, HI.out⟩
            · have u1 : decide (z ≤ 66) = false := decide_eq_false hz
              go_wp2_with fail
              go_ret
              exact ⟨rfl, HI.out.fr⟩
theorem acts_walk (a0 : Value) (W : World) (w0 : Acts W a0) (ht : Tb W) : Calls Tryd.prog 5 #[a0] W fun e W' => e = .returned (.bool true) ∧ Below W.heap.size W W' := by
  obtain ⟨a, len, cap, rfl, hlen, hacts⟩ := w0
  unfold maxLen at hlen
  exact (acts_law a len cap W (by omega) hacts ht).mono fun _ _ g => ⟨g.1, Fr.below (Below.refl _ _) g.2 (fun _ _ => id)⟩
end Go.Proofs.YtdlcejnkicdjnaaDoor.Sg
