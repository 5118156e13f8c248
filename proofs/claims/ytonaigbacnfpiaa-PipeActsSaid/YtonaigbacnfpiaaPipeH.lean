/- The law PipeActs, walked: for every slice of acts it returns true, and nothing old has changed. -/
import Derived.Test.YtonaigbacnfpiaaPipeG
import Derived.Deep.QuietTactic
import Derived.BigQuiet
namespace Go.Proofs.Ytonaigbacnfpiaa.Pi
open Go Go.RowKit Go.Proofs.YtonaigbacnfpiaaW.PrintWords Go.Proofs.YtonaigbacnfpiaaW.PrintLast Go.Proofs.YtonaigbacnfpiaaW.PrintMore
open Go.Proofs.Ytonaigbacnfpiaa.Hp
attribute [local go_sem] max2_int min2_int max_two min_two max_three min_three max_four min_four
set_option linter.unusedVariables false
set_option linter.unusedSimpArgs false
def AtAct (w0 : World) (g1 g2 : Nat) (i : Value) (kq : Nat) (wr : World) : Prop := ∃ (k : Nat) (v1 v2 : Value) (l : List Int) (r q : Int), i = .int .i64 k ∧ k ≤ 60 ∧ 60 - k ≤ kq ∧ 0 ≤ r ∧ r ≤ k ∧ 0 ≤ q ∧ q ≤ k ∧ PInv w0 wr g1 g2 v1 v2 l r q l r q
theorem len_quiet {w : World} {g : Nat} {v : Value} {l : List Int} {r q : Int} (h : Pipe w g v l r q) (n : Nat) :
    Calls Try.prog 9 #[.pointer (some ⟨g, 0, none⟩)] (w.drewN n) fun e w' => e = .returned (.int .i64 l.length) ∧ ∃ m, w' = (w.drewN n).drewN m :=
  (len_any (w.drewN n) g v l r q ⟨h.blk, h.row⟩).mono (fun e w' ⟨he, hw⟩ => ⟨he, 0, by rw [← hw]; rfl⟩)
/-- What an inner loop holds: the bytes that were put together so far. -/
def AtRep (w1 : World) (b : List Int) (T : Nat) (v i : Value) (wr : World) : Prop := ∃ j : Nat, i = .int .i64 j ∧ j ≤ T + 1 ∧ Row wr 5 .u8 v (reps j b) ∧ Fr (fun _ => False) w1 wr ∧ ∀ k, v.ownBlock = some k → w1.heap.size ≤ k
theorem AtRep.app {w1 wr w2 : World} {v v2 : Value} (hf : Fr (fun _ => False) w1 wr) (hv : ∀ k, v.ownBlock = some k → w1.heap.size ≤ k) (hg : Fr (fun k => v.ownBlock = some k) wr w2) (hat : v2.ownBlock = v.ownBlock ∨ ∃ k, v2.ownBlock = some k ∧ wr.heap.size ≤ k) :
    Fr (fun _ => False) w1 w2 ∧ ∀ k, v2.ownBlock = some k → w1.heap.size ≤ k := by
  refine ⟨hf.trans hg (fun i hi e => by have := hv i e; omega), fun k hk => ?_⟩
  rcases hat with e | ⟨b, e, hb⟩
  · exact hv k (e ▸ hk)
  · rw [hk] at e; injection e with e; subst e; exact Nat.le_trans hf.size hb
theorem natCast_i64 (j : Nat) (h : (j : Int) + 1 ≤ 9223372036854775807) : True := trivial
set_option maxRecDepth 100000 in
set_option maxHeartbeats 8000000 in
theorem acts_law (a : Option Addr) (len cap : Nat) (w : World) (hlen : len ≤ 9223372036854775807) (hacts : ∀ i, i < len → ∃ x d n t B bl bc b wr, a = some x ∧ ActAt w (x.add (i * 5)) d n t B bl bc b wr) :
    Calls Try.prog 4 #[.slice a len cap] w fun e w' => e = .returned (.bool true) ∧ Below w.heap.size w w' := by
  have HA := Lib.hid hacts
  clear hacts
  go_enter Try.func4, Try.ntmps4
  go_wp2_with fail
  refine (new_any _).mono ?_
  rintro e w1 ⟨rfl, hp1, hf1⟩
  have HP1 := Lib.hid hp1
  have HF1 := Lib.hid hf1
  clear hp1 hf1
  go_wp2_with fail
  refine (answers_any _).mono ?_
  rintro e w2 ⟨rfl, hf2⟩
  have HI0 : Hid (PInv w w2 w.heap.size w1.heap.size (.slice none 0 0) (.slice none 0 0) [] 0 0 [] 0 0) := Lib.hid ⟨(HP1.out.fr ((Fr.refl (fun _ => False) w1).alloc _) id (fun _ _ => id)).fr hf2 id (fun _ _ => id), (show RPipe _ _ _ _ _ _ from ⟨Blk.new _ _ _, Row.nil _ _ _⟩).fr hf2 id (fun _ _ => id), by decide, Nat.le_refl _, HF1.out.size, by simp [Value.ownBlock], by simp [Value.ownBlock], by simp [Value.ownBlock], Fr.below (Fr.below (Below.refl _ _) HF1.out (fun _ _ => id)) (((Fr.refl (fun _ => False) w1).alloc _).trans hf2 (fun _ _ => id)) (fun _ _ => id)⟩
  clear hf2 HP1 HF1
  obtain ⟨g1, hg1⟩ : ∃ g, g = w.heap.size := ⟨_, rfl⟩
  obtain ⟨g2, hg2⟩ : ∃ g, g = w1.heap.size := ⟨_, rfl⟩
  go_wp2_with fail
  rw [← hg1, ← hg2] at HI0 ⊢
  clear hg1 hg2
  go_loopg [5] 60 (fun kq i wr => Hid (AtAct w g1 g2 i kq wr))
  case atStart => exact Lib.hid ⟨0, _, _, _, _, _, rfl, by omega, by omega, by omega, by omega, by omega, by omega, HI0.out⟩
  case round =>
    obtain ⟨k, v1, v2, l, r, q, rfl, hk60, hkq, hr0, hr1, hq0, hq1, hI⟩ := hrel.out
    have HI := Lib.hid hI
    have hl4 := hI.len1
    clear hI hrel HI0
    by_cases hk : k < len ∧ k < 60
    · obtain ⟨hkl, hk6⟩ := hk
      have t1 : decide ((k : Int) < (len : Int)) = true := decide_eq_true (by omega)
      have t1' : decide (k < len) = true := decide_eq_true (by omega)
      have t2 : decide ((k : Int) < 60) = true := decide_eq_true (by omega)
      have t2' : decide (k < 60) = true := decide_eq_true (by omega)
      obtain ⟨x, d, n, t, B, bl, bc, b, wr', hax, hact⟩ := HA.out k hkl
      subst hax
      have hbl := hact.b_.1
      subst hbl
      have HB0 := Lib.hid hact.b_
      have hbc := hact.bc_
      have hbm := hact.b_.2.1
      have ht := Go.bounds_u8 hact.t_
      have hX := hact.below HI.out.below
      clear hact
      have x0 : wr.cell? (x.add (k * 5)) = some (.int .i64 d) := hX.c0
      have x1 : wr.cell? ⟨(x.add (k * 5)).block, (x.add (k * 5)).off + 1, none⟩ = some (.int .i64 n) := hX.c1
      have x2 : wr.cell? ⟨(x.add (k * 5)).block, (x.add (k * 5)).off + 2, none⟩ = some (.int .u8 t) := hX.c2
      have x3 : wr.cell? ⟨(x.add (k * 5)).block, (x.add (k * 5)).off + 3, none⟩ = some (.slice B b.length bc) := hX.c3
      have x4 : wr.cell? ⟨(x.add (k * 5)).block, (x.add (k * 5)).off + 4, none⟩ = some (.bool wr') := hX.c4
      clear hX
      have HI1 := Lib.hid (HI.out.same ((Fr.refl (fun _ => False) wr).alloc (.cells #[.int .i64 d, .int .i64 n, .int .u8 t, .slice B b.length bc, .bool wr'] 38)))
      have HC := Lib.hid (Blk.new wr 38 #[.int .i64 d, .int .i64 n, .int .u8 t, .slice B b.length bc, .bool wr'])
      by_cases h1000 : 1000 < b.length
      · have t3 : decide (1000 < (b.length : Int)) = true := decide_eq_true (by omega)
        have t3' : decide (1000 < b.length) = true := decide_eq_true (by omega)
        go_wp2_with fail
        go_roundg (60 - (k + 1))
        case measure => omega
        case rel => exact Lib.hid ⟨k + 1, _, _, _, _, _, by go_num, by omega, by omega, by omega, by omega, by omega, by omega, HI1.out⟩
      have t3 : decide (1000 < (b.length : Int)) = false := decide_eq_false (by omega)
      have t3' : decide (1000 < b.length) = false := decide_eq_false (by omega)
      by_cases d1 : d = 1
      · subst d1
        obtain ⟨oo, hoo⟩ : ∃ oo, oo = l.take (rN n l.length) := ⟨_, rfl⟩
        obtain ⟨dd, hdd⟩ : ∃ dd, dd = l.drop (rN n l.length) := ⟨_, rfl⟩
        obtain ⟨ee, hee⟩ : ∃ ee, ee = rE n l.length q := ⟨_, rfl⟩
        have HE := Lib.hid (And.intro hoo (And.intro hdd hee))
        have hdl : dd.length ≤ 4096 := by rw [hdd, List.length_drop]; omega
        clear hoo hdd hee
        go_wp2_with fail

        generalize hwA : wr.alloc (.cells #[.int .i64 1, .int .i64 n, .int .u8 t, .slice B b.length bc, .bool wr'] 38) = wA at HI1 HC ⊢
        generalize hga : wr.heap.size = ga at HC ⊢
        clear hwA hga x0 x1 x2 x3 x4 HI

        refine (read_as _ _ _ _ oo dd _ _ n ee HI1.out.p1 hl4 HE.out.1 HE.out.2.1 HE.out.2.2).mono ?_
        rintro e w4 ⟨u4, v4, rfl, hu4, hp4, hf4, ho4, hn4⟩
        have HI4 := Lib.hid (HI1.out.step1 hp4 hdl (hf4.mono (fun k _ e => .inl e)) ho4)
        have HC4 := Lib.hid (HC.out.fr hf4 (fun e => HC.out.ne HI1.out.p1.blk (by decide) e))
        have HU4 := Lib.hid hu4
        clear hp4 hf4 HI1 HC hu4 ho4 hn4
        obtain ⟨A4, c4, rfl, _, _⟩ := HU4.out.slice

        have z0 := HC4.out.cell 0
        have z1 := HC4.out.cell 1
        have z2 := HC4.out.cell 2
        have z3 := HC4.out.cell 3
        have z4 := HC4.out.cell 4
        simp at z0 z1 z2 z3 z4

        go_wp2_with fail
        refine (rread_as _ _ _ _ oo dd _ _ n ee HI4.out.p2 hl4 HE.out.1 HE.out.2.1 HE.out.2.2).mono ?_
        rintro e w5 ⟨u5, v5, rfl, hu5, hp5, hf5, ho5, hn5⟩
        have HI5 := Lib.hid (HI4.out.step2 hp5 hf5 ho5)
        have HU5 := Lib.hid hu5
        have HU6 := Lib.hid (HU4.out.fr hf5 (fun b hb e => HU4.out.ne_blk HI4.out.p2.blk (by decide) b hb e))
        clear hp5 hf5 HI4 HC4 HU4 hu5 ho5 hn5 z0 z1 z2 z3 z4
        obtain ⟨A5, c5, rfl, _, _⟩ := HU5.out.slice
        go_wp2_with fail
        refine (By.same_any A4 A5 c4 c5 oo oo w5 (Kd.C_of_reads (d := (0 : Int)) (h1 := fun _ => rfl) HU6.out.reads) (Kd.C_of_reads (d := (0 : Int)) (h1 := fun _ => rfl) HU5.out.reads)).mono ?_
        rw [show decide (oo = oo) = true from decide_eq_true rfl]
        rintro e w6 ⟨rfl, hd6⟩
        have HJ := Lib.hid (HI5.out.same (Fr.drawn hd6))
        clear hd6 HI5 HU5 HU6 HE

        go_wp2_with fail
        refine (ends_any _ _ _ _ _ _ HJ.out.p1).mono ?_
        rintro e w9 ⟨rfl, hd9⟩
        have HK := Lib.hid (HJ.out.same (Fr.drawn hd9))
        clear hd9
        have hq := Lib.hid (len_quiet HK.out.p1)
        obtain ⟨A2, c2, rfl, _, _⟩ := HK.out.p2.row.slice
        have y0 := HK.out.p2.blk.cell 0
        have y1 := HK.out.p2.blk.cell 1
        have y2 := HK.out.p2.blk.cell 2
        simp at y0 y1 y2
        have hz4 := HK.out.len1
        have t40 : decide (4096 < (dd.length : Int)) = false := decide_eq_false (by omega)
        have t40' : decide (4096 < dd.length) = false := decide_eq_false (by omega)
        go_wp2_with fail
        go_quiet ((go_at_call 9; with_reducible refine Calls.quiet_of (hq.out _)))
        go_wp2_with fail
        go_roundg (60 - (k + 1))
        case measure => omega
        case rel => exact Lib.hid ⟨k + 1, _, _, _, _, _, by go_num, by omega, by omega, by omega, by omega, by omega, by omega, HK.out.same ((Fr.refl (fun _ => False) _).drewN _)⟩
      have td1 : (d == 1) = false := beq_eq_false_iff_ne.2 d1
      by_cases d2 : d = 2
      · subst d2
        obtain ⟨T, hT, hT9⟩ : ∃ T : Nat, t % 30 = (T : Int) ∧ T ≤ 29 := ⟨(t % 30).toNat, by omega, by omega⟩
        go_wp2_with fail

        generalize hwA : wr.alloc (.cells #[.int .i64 2, .int .i64 n, .int .u8 t, .slice B b.length bc, .bool wr'] 38) = wA at HI1 HC ⊢
        generalize hga : wr.heap.size = ga at HC ⊢
        clear hwA hga x0 x1 x2 x3 x4 HI

        go_loopg [11, 12] (T + 1) (fun kq v i wr2 => Hid (AtRep wA b T v i wr2) ∧ T + 1 - (intOf i).toNat ≤ kq)
        case atStart => exact ⟨Lib.hid ⟨0, rfl, by omega, Row.nil _ _ _, Fr.refl _ _, by simp [Value.ownBlock]⟩, by simp [intOf]⟩
        case round =>
          obtain ⟨hrel, hkq2⟩ := hrel
          obtain ⟨j, rfl, hj, hrow, hfa, hva⟩ := hrel.out
          simp only [intOf] at hkq2
          have hlj : (reps j b).length ≤ 30000 := by rw [reps_length]; exact Nat.mul_le_mul (show j ≤ 30 by omega) (show b.length ≤ 1000 by omega)
          have HROW := Lib.hid hrow
          have HFA := Lib.hid hfa
          have HVA := Lib.hid hva
          clear hrel hrow hva
          have HC2 := Lib.hid (HC.out.fr hfa id)
          clear hfa
          have z0 := HC2.out.cell 0
          have z1 := HC2.out.cell 1
          have z2 := HC2.out.cell 2
          have z3 := HC2.out.cell 3
          have z4 := HC2.out.cell 4
          simp at z0 z1 z2 z3 z4

          by_cases hjT : j ≤ T
          · have s1 : decide ((j : Int) ≤ (T : Int)) = true := decide_eq_true (by omega)
            have s1' : decide (j ≤ T) = true := decide_eq_true (by omega)
            have HBr := Lib.hid (HB0.out.below ((HI1.out.same HFA.out).below))
            go_wp2_with (at_builtin; refine row_app rfl (.tmp 83) (.tmp 85) 31 5 .u8 1 rfl Try.underlying31 info5 (by decide) _ (reps j b) b B b.length bc rfl rfl HROW.out HBr.out (by omega) ?_; intro v3 w3 ho3 hf3 hat3; rw [← reps_succ] at ho3; have HO3 := Lib.hid ho3; have HN := Lib.hid (AtRep.app HFA.out HVA.out hf3 hat3); clear ho3 hf3 hat3)
            go_roundg (T + 1 - (j + 1))
            case measure => omega
            case rel => exact ⟨Lib.hid ⟨j + 1, by go_num, by omega, HO3.out, HN.out.1, HN.out.2⟩, by simp only [intOf]; omega⟩
          · have s1 : decide ((j : Int) ≤ (T : Int)) = false := decide_eq_false (by omega)
            have s1' : decide (j ≤ T) = false := decide_eq_false (by omega)
            obtain ⟨L, hL⟩ : ∃ L, L = reps j b := ⟨_, rfl⟩
            rw [← hL] at HROW hlj
            clear hL
            have HI2 := Lib.hid (HI1.out.same HFA.out)
            have HV1 := Lib.hid (show ∀ k, v1.ownBlock = some k → k < wA.heap.size from fun k hk => HI1.out.p1.row.lt k hk)
            have hHF := HFA
            clear HI1 HC HC2 HB0 HA
            obtain ⟨nn, hnn⟩ : ∃ nn, nn = wN l.length r L.length := ⟨_, rfl⟩
            obtain ⟨ee, hee⟩ : ∃ ee, ee = wE l.length r L.length := ⟨_, rfl⟩
            obtain ⟨l', hl'⟩ : ∃ l', l' = l ++ L.take nn := ⟨_, rfl⟩
            have hl'4 : l'.length ≤ 4096 := by have := wN_le l.length r L.length hl4; rw [hl', List.length_append, List.length_take, hnn]; omega
            have HE := Lib.hid (And.intro hnn (And.intro hee hl'))
            clear hnn hee hl'
            obtain ⟨Av, cv, rfl, hcv, hrv⟩ := HROW.out.slice
            have HRV := Lib.hid hrv
            clear hrv
            go_wp2_with (at_builtin; refine row_app rfl (.tmp 89) (.tmp 90) 31 5 .u8 1 rfl Try.underlying31 info5 (by decide) (.slice (some ⟨wr.heap.size, 0, none⟩) 0 0) [] L Av L.length cv rfl rfl (Row.empty wr _ _) (reads_alloc HRV.out _) (by simp; omega) ?_; intro v6 w6 ho6 hf6 hat6; rw [List.nil_append] at ho6; have HO6 := Lib.hid ho6; have HF6 := Lib.hid (fr_new (w := wr) (e := 5) hf6); clear hat6 hf6 ho6; obtain ⟨A6, c6, rfl, hc6, hr6⟩ := HO6.out.slice; have HR6 := Lib.hid hr6; clear hr6)
            have HI6 := Lib.hid (HI2.out.same HF6.out)
            refine (write_as _ _ _ _ l' _ _ ee nn A6 c6 L HI6.out.p1 HR6.out hc6 hl4 HE.out.1 HE.out.2.1 HE.out.2.2).mono ?_
            rintro e w7 ⟨v7, rfl, hp7, hf7, ho7⟩
            have HI7 := Lib.hid (HI6.out.step1 hp7 hl'4 hf7 ho7)
            have HB7 := Lib.hid ((HROW.out.fr HF6.out (fun _ _ => id)).fr hf7 (fun bk hb e => by
              rcases e with e | e
              · exact (HROW.out.fr HF6.out (fun _ _ => id)).ne_blk HI6.out.p1.blk (by decide) bk hb e
              · have h1 := HV1.out bk e
                have h2 := HVA.out bk hb
                omega))
            clear hp7 hf7 ho7 HI6 HI2
            go_wp2_with fail
            refine (rwrite_as _ _ _ _ l' _ _ ee nn Av cv L HI7.out.p2 HB7.out.reads hcv hl4 (by omega) HE.out.1 HE.out.2.1 HE.out.2.2).mono ?_
            rintro e w8 ⟨v8, rfl, hp8, hf8, ho8⟩
            have HJ := Lib.hid (HI7.out.step2 hp8 hf8 ho8)
            clear hp8 hf8 ho8 HI7 HB7 HE
            go_wp2_with fail
            refine (ends_any _ _ _ _ _ _ HJ.out.p1).mono ?_
            rintro e w9 ⟨rfl, hd9⟩
            have HK := Lib.hid (HJ.out.same (Fr.drawn hd9))
            clear hd9
            have hq := Lib.hid (len_quiet HK.out.p1)
            obtain ⟨A2, c2, rfl, _, _⟩ := HK.out.p2.row.slice
            have y0 := HK.out.p2.blk.cell 0
            have y1 := HK.out.p2.blk.cell 1
            have y2 := HK.out.p2.blk.cell 2
            simp at y0 y1 y2
            have hz4 := HK.out.len1
            have t40 : decide (4096 < (l'.length : Int)) = false := decide_eq_false (by omega)
            have t40' : decide (4096 < l'.length) = false := decide_eq_false (by omega)
            go_wp2_with fail
            go_quiet ((go_at_call 9; with_reducible refine Calls.quiet_of (hq.out _)))
            go_wp2_with fail
            go_roundg (60 - (k + 1))
            case measure => omega
            case rel => exact Lib.hid ⟨k + 1, _, _, _, _, _, by go_num, by omega, by omega, by omega, by omega, by omega, by omega, HK.out.same ((Fr.refl (fun _ => False) _).drewN _)⟩
      have td2 : (d == 2) = false := beq_eq_false_iff_ne.2 d2
      by_cases d3 : d = 3
      · subst d3
        go_wp2_with fail

        generalize hwA : wr.alloc (.cells #[.int .i64 3, .int .i64 n, .int .u8 t, .slice B b.length bc, .bool wr'] 38) = wA at HI1 HC ⊢
        generalize hga : wr.heap.size = ga at HC ⊢
        clear hwA hga x0 x1 x2 x3 x4 HI

        refine (open_any _ _ _ _ _ _ wr' HI1.out.p1 (by omega) (by omega) (by omega) (by omega)).mono ?_
        rintro e w4 ⟨rfl, hp4, hf4⟩
        have HI4 := Lib.hid (HI1.out.step1 hp4 hl4 (hf4.mono (fun k _ e => .inl e)) (.inl rfl))
        have HC4 := Lib.hid (HC.out.fr hf4 (fun e => HC.out.ne HI1.out.p1.blk (by decide) e))
        clear hp4 hf4 HI1 HC

        have z0 := HC4.out.cell 0
        have z1 := HC4.out.cell 1
        have z2 := HC4.out.cell 2
        have z3 := HC4.out.cell 3
        have z4 := HC4.out.cell 4
        simp at z0 z1 z2 z3 z4

        obtain ⟨r', hr'⟩ : ∃ r', r' = (if wr' then r else r + 1) := ⟨_, rfl⟩
        obtain ⟨q', hq'⟩ : ∃ q', q' = (if wr' then q + 1 else q) := ⟨_, rfl⟩
        rw [← hr', ← hq'] at HI4
        have hr'0 : 0 ≤ r' ∧ r' ≤ k + 1 := by rw [hr']; cases wr' <;> simp <;> omega
        have hq'0 : 0 ≤ q' ∧ q' ≤ k + 1 := by rw [hq']; cases wr' <;> simp <;> omega
        have HR := Lib.hid (And.intro hr' hq')
        clear hr' hq'
        go_wp2_with fail
        refine (rend_up _ _ _ _ _ _ wr' HI4.out.p2 (by omega) (by omega) (by omega) (by omega)).mono ?_
        rintro e w5 ⟨rfl, hp5, hf5⟩
        rw [← HR.out.1, ← HR.out.2] at hp5
        have HJ := Lib.hid (HI4.out.step2 hp5 hf5 (.inl rfl))
        clear hp5 hf5 HI4 HC4 HR z0 z1 z2 z3 z4

        go_wp2_with fail
        refine (ends_any _ _ _ _ _ _ HJ.out.p1).mono ?_
        rintro e w9 ⟨rfl, hd9⟩
        have HK := Lib.hid (HJ.out.same (Fr.drawn hd9))
        clear hd9
        have hq := Lib.hid (len_quiet HK.out.p1)
        obtain ⟨A2, c2, rfl, _, _⟩ := HK.out.p2.row.slice
        have y0 := HK.out.p2.blk.cell 0
        have y1 := HK.out.p2.blk.cell 1
        have y2 := HK.out.p2.blk.cell 2
        simp at y0 y1 y2
        have hz4 := HK.out.len1
        have t40 : decide (4096 < (l.length : Int)) = false := decide_eq_false (by omega)
        have t40' : decide (4096 < l.length) = false := decide_eq_false (by omega)
        go_wp2_with fail
        go_quiet ((go_at_call 9; with_reducible refine Calls.quiet_of (hq.out _)))
        go_wp2_with fail
        go_roundg (60 - (k + 1))
        case measure => omega
        case rel => exact Lib.hid ⟨k + 1, _, _, _, _, _, by go_num, by omega, by omega, hr'0.1, by have := hr'0.2; omega, hq'0.1, by have := hq'0.2; omega, HK.out.same ((Fr.refl (fun _ => False) _).drewN _)⟩
      have td3 : (d == 3) = false := beq_eq_false_iff_ne.2 d3
      by_cases d4 : d = 4
      · subst d4
        go_wp2_with fail

        generalize hwA : wr.alloc (.cells #[.int .i64 4, .int .i64 n, .int .u8 t, .slice B b.length bc, .bool wr'] 38) = wA at HI1 HC ⊢
        generalize hga : wr.heap.size = ga at HC ⊢
        clear hwA hga x0 x1 x2 x3 x4 HI

        refine (close_any _ _ _ _ _ _ wr' HI1.out.p1 (by omega) (by omega) (by omega) (by omega)).mono ?_
        rintro e w4 ⟨rfl, hp4, hf4⟩
        have HI4 := Lib.hid (HI1.out.step1 hp4 hl4 (hf4.mono (fun k _ e => .inl e)) (.inl rfl))
        have HC4 := Lib.hid (HC.out.fr hf4 (fun e => HC.out.ne HI1.out.p1.blk (by decide) e))
        clear hp4 hf4 HI1 HC

        have z0 := HC4.out.cell 0
        have z1 := HC4.out.cell 1
        have z2 := HC4.out.cell 2
        have z3 := HC4.out.cell 3
        have z4 := HC4.out.cell 4
        simp at z0 z1 z2 z3 z4

        obtain ⟨r', hr'⟩ : ∃ r', r' = (if wr' then r else max (r - 1) 0) := ⟨_, rfl⟩
        obtain ⟨q', hq'⟩ : ∃ q', q' = (if wr' then max (q - 1) 0 else q) := ⟨_, rfl⟩
        rw [← hr', ← hq'] at HI4
        have hr'0 : 0 ≤ r' ∧ r' ≤ k + 1 := by rw [hr']; cases wr' <;> simp <;> omega
        have hq'0 : 0 ≤ q' ∧ q' ≤ k + 1 := by rw [hq']; cases wr' <;> simp <;> omega
        have HR := Lib.hid (And.intro hr' hq')
        clear hr' hq'
        go_wp2_with fail
        refine (rend_down _ _ _ _ _ _ wr' HI4.out.p2 (by omega) (by omega) (by omega) (by omega)).mono ?_
        rintro e w5 ⟨rfl, hp5, hf5⟩
        rw [← HR.out.1, ← HR.out.2] at hp5
        have HJ := Lib.hid (HI4.out.step2 hp5 hf5 (.inl rfl))
        clear hp5 hf5 HI4 HC4 HR z0 z1 z2 z3 z4

        go_wp2_with fail
        refine (ends_any _ _ _ _ _ _ HJ.out.p1).mono ?_
        rintro e w9 ⟨rfl, hd9⟩
        have HK := Lib.hid (HJ.out.same (Fr.drawn hd9))
        clear hd9
        have hq := Lib.hid (len_quiet HK.out.p1)
        obtain ⟨A2, c2, rfl, _, _⟩ := HK.out.p2.row.slice
        have y0 := HK.out.p2.blk.cell 0
        have y1 := HK.out.p2.blk.cell 1
        have y2 := HK.out.p2.blk.cell 2
        simp at y0 y1 y2
        have hz4 := HK.out.len1
        have t40 : decide (4096 < (l.length : Int)) = false := decide_eq_false (by omega)
        have t40' : decide (4096 < l.length) = false := decide_eq_false (by omega)
        go_wp2_with fail
        go_quiet ((go_at_call 9; with_reducible refine Calls.quiet_of (hq.out _)))
        go_wp2_with fail
        go_roundg (60 - (k + 1))
        case measure => omega
        case rel => exact Lib.hid ⟨k + 1, _, _, _, _, _, by go_num, by omega, by omega, hr'0.1, by have := hr'0.2; omega, hq'0.1, by have := hq'0.2; omega, HK.out.same ((Fr.refl (fun _ => False) _).drewN _)⟩
      have td4 : (d == 4) = false := beq_eq_false_iff_ne.2 d4
      have HJ := HI1
      go_wp2_with fail
      refine (ends_any _ _ _ _ _ _ HJ.out.p1).mono ?_
      rintro e w9 ⟨rfl, hd9⟩
      have HK := Lib.hid (HJ.out.same (Fr.drawn hd9))
      clear hd9
      have hq := Lib.hid (len_quiet HK.out.p1)
      obtain ⟨A2, c2, rfl, _, _⟩ := HK.out.p2.row.slice
      have y0 := HK.out.p2.blk.cell 0
      have y1 := HK.out.p2.blk.cell 1
      have y2 := HK.out.p2.blk.cell 2
      simp at y0 y1 y2
      have hz4 := HK.out.len1
      have t40 : decide (4096 < (l.length : Int)) = false := decide_eq_false (by omega)
      have t40' : decide (4096 < l.length) = false := decide_eq_false (by omega)
      go_wp2_with fail
      go_quiet ((go_at_call 9; with_reducible refine Calls.quiet_of (hq.out _)))
      go_wp2_with fail
      go_roundg (60 - (k + 1))
      case measure => omega
      case rel => exact Lib.hid ⟨k + 1, _, _, _, _, _, by go_num, by omega, by omega, by omega, by omega, by omega, by omega, HK.out.same ((Fr.refl (fun _ => False) _).drewN _)⟩
    · have hd : k < len → ¬ k < 60 := fun h1 h2 => hk ⟨h1, h2⟩
      by_cases hkl : k < len
      · have t1 : decide ((k : Int) < (len : Int)) = true := decide_eq_true (by omega)
        have t1' : decide (k < len) = true := decide_eq_true (by omega)
        have t2 : decide ((k : Int) < 60) = false := decide_eq_false (by have := hd hkl; omega)
        have t2' : decide (k < 60) = false := decide_eq_false (by have := hd hkl; omega)
        clear hd hk
        go_wp2_with fail
        go_ret
        exact ⟨rfl, HI.out.below⟩
      · have t1 : decide ((k : Int) < (len : Int)) = false := decide_eq_false (by omega)
        have t1' : decide (k < len) = false := decide_eq_false (by omega)
        clear hd hk
        go_wp2_with fail
        go_ret
        exact ⟨rfl, HI.out.below⟩
/-- The same, as the row opens its arguments. -/
theorem acts_walk (v : Value) (w : World) (h : Acts w v) : Calls Try.prog 4 #[v] w fun e w' => e = .returned (.bool true) ∧ Below w.heap.size w w' := by
  obtain ⟨a, len, cap, rfl, hl, ha⟩ := h
  exact acts_law a len cap w hl ha
end Go.Proofs.Ytonaigbacnfpiaa.Pi
