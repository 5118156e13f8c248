/- Clear: walked, where it meets nothing, and where it meets all. -/
import Derived.Test.YtipbfmidiimicaaPqF
namespace Go.Proofs.Ytipbfmidiimicaa.Pq
open Go Go.RowKit Go.Proofs.YtipbfmidiimicaaW.PrintWords Go.Proofs.YtipbfmidiimicaaW.PrintLast Go.Proofs.YtipbfmidiimicaaW.PrintMore
open Go.Proofs.Ytipbfmidiimicaa.Hp Go.Proofs.Ytipbfmidiimicaa.Pm
attribute [local go_sem] max2_m min2_m max_two min_two max_three min_three max_four min_four
set_option linter.unusedVariables false
set_option linter.unusedSimpArgs false
theorem clear_far (p : Value) (hp : p = .pointer none ∨ ∃ g, p = .pointer (some ⟨g, 0, none⟩)) (fr te : Int) (h : min te 274877906944 ≤ fr) (w : World) : Calls Try.prog 10 #[p, .int .u64 fr, .int .u64 te] w fun e w' => e = .returned (.tuple #[]) ∧ Fr (fun _ => False) w w' := by
  obtain ⟨m, hm⟩ : ∃ m, min te 274877906944 = m := ⟨_, rfl⟩
  have c1 : decide (m ≤ fr) = true := decide_eq_true (by omega)
  rcases hp with rfl | ⟨g, rfl⟩
  · go_enter Try.func10, Try.ntmps10
    go_wp2_with fail
    refine bodyPost_ret (results_none rfl _ _ _) rfl ?_
    exact ⟨rfl, Fr.refl _ _⟩
  · go_enter Try.func10, Try.ntmps10
    go_wp2_with fail
    refine bodyPost_ret (results_none rfl _ _ _) rfl ?_
    exact ⟨rfl, Fr.refl _ _⟩
def AtCl (w0 : World) (B g BL BS r n : Nat) (f : Int → Option Nat) (C : Int → Int) (clk al : Int) (kq : Nat) (wr : World) : Prop :=
  ∃ (todo : Int → Bool) (cnt sz' : Nat) (f' : Int → Option Nat), cnt ≤ kq ∧ PR Try.prog 27 .u64 wr BL r n f' sz' todo cnt ∧ (∀ k, (Lit.int .u64 k).wf = true → (f' k).isSome = todo k) ∧ (∀ k b, f' k = some b → f k = some b) ∧ IM wr BS n ∧ Blk wr g 42 #[.map (some BL), .map (some BS), .int .u64 clk, .int .u64 al] ∧ Fr (fun i => i = g ∨ i = BL ∨ i = BS) w0 wr
set_option maxHeartbeats 8000000 in
set_option maxRecDepth 100000 in
theorem clear_all {B g BL BS n sz : Nat} {f : Int → Option Nat} {C : Int → Int} {clk al : Int} (te : Int) (h0 : 0 < te ∧ te ≤ 274877906944) (w : World) (h : Sto w B g BL BS n f sz C clk al) (hn : n < 100000000) (hall : ∀ no b, f no = some b → no * 4096 + 4096 ≤ te) :
    Calls Try.prog 10 #[.pointer (some ⟨g, 0, none⟩), .int .u64 0, .int .u64 te] w fun e w' => e = .returned (.tuple #[]) ∧ ∃ n' clk' al', Sto w' B g BL BS n' (fun _ => none) 0 (fun _ => 0) clk' al' ∧ n' ≤ n + 4096 ∧ Fr (fun i => i = g ∨ i = BL ∨ i = BS) w w' := by
  have HS := Lib.hid h
  have HN := Lib.hid hn
  have HA := Lib.hid hall
  have hmin : min te 274877906944 = te := by omega
  have c1 : decide (te ≤ 0) = false := decide_eq_false (by omega)
  have H0 := Lib.hid h0
  clear h hn hall h0
  go_enter Try.func10, Try.ntmps10
  go_wp2_with fail
  refine (touch_any 0 te (by have := H0.out; omega) w HS.out HN.out).mono ?_
  rintro x w1 ⟨rfl, n', clk', al', hs1, hn1, hf1⟩
  have HST := Lib.hid hs1
  have HN1 := Lib.hid hn1
  have HF1 := Lib.hid hf1
  have k0 := hs1.blk.cell 0
  simp at k0
  clear hs1 hn1 hf1
  go_wp2_with (first | (at_range; refine range_list rfl _ rfl lawK Try.underlying39 HST.out.lm rfl ?_; intro w2 hp2 hf2 hs2; have HP := Lib.hid hp2; have HF := Lib.hid hf2; have HS2 := Lib.hid hs2; clear hp2 hf2 hs2; go_frame))
  go_loopg [] sz (fun kq wr => Hid (AtCl w B g BL BS w1.heap.size n' f C clk' al' kq wr))
  case atStart => exact Lib.hid ⟨_, sz, sz, f, Nat.le_refl _, HP.out, fun _ _ => rfl, fun _ _ h => h, HST.out.sm.fr HF.out id, HST.out.blk.fr HF.out id, (HF1.out.mono (fun _ _ e => e.elim .inl (fun e => .inr (.inr e)))).trans HF.out (fun _ _ e => e.elim)⟩
  case round =>
    obtain ⟨todo, cnt, sz', f', hc, hp, htd, hsub, hi, hb, hf⟩ := hrel.out
    have HP := Lib.hid hp
    have HI := Lib.hid hi
    have HB := Lib.hid hb
    have HF := Lib.hid hf
    have HTD := Lib.hid htd
    have HSUB := Lib.hid hsub
    clear hrel hp hi hb hf htd hsub
    go_wp2_with (first | (at_next; refine next_list rfl _ rfl lawK Try.underlying27 HP.out rfl ?_ ?_))
    · intro hc0 h0
      have HD := Lib.hid (show f' = fun _ => none from funext fun k => by
        cases e : f' k with
        | none => rfl
        | some b =>
          have h1 := HST.out.dom k b (HSUB.out k b e)
          have h2 := HTD.out k (wf64 (by omega) (by omega))
          rw [h0 k (wf64 (by omega) (by omega)), e] at h2
          cases h2)
      have HZ := Lib.hid (PM.empty HP.out.pm lawK Try.underlying27 (fun k _ => by rw [HD.out]))
      clear hc0 h0
      go_wp2_with fail
      go_end0
      refine ⟨rfl, n', clk', al', ⟨HB.out, ?_, HI.out, fun no b e => (by cases e), fun _ _ _ _ => rfl, fun _ _ _ e => (by cases e), fun _ _ e => (by cases e), HST.out.gb, HST.out.lb, HST.out.sb, HST.out.clk0, HST.out.apart⟩, HN1.out, HF.out⟩
      have h := HP.out.pm
      rw [HD.out, HZ.out] at h
      exact h
    · intro x b w2 cnt' hwx htx hfx hp2 hlt hf2 hs2 hen
      have hd := HST.out.dom x b (HSUB.out x b hfx)
      have ha := HA.out x b (HSUB.out x b hfx)
      have HNE := Lib.hid (show w1.heap.size ≠ g ∧ w1.heap.size ≠ BS from ⟨fun e => by have := HST.out.blk.lt; omega, fun e => by have := HST.out.sm.lt; omega⟩)
      have HP2 := Lib.hid hp2
      have HB2 := Lib.hid (HB.out.fr hf2 (fun e => HNE.out.1 e.symm))
      have HI2 := Lib.hid (HI.out.fr hf2 (fun e => HNE.out.2 e.symm))
      have HF2 := Lib.hid (HF.out.trans hf2 (fun i hi e => by have := HF1.out.size; omega))
      have HX := Lib.hid (And.intro hwx (And.intro htx hfx))
      have q0 := HB2.out.cell 0
      simp at q0
      obtain ⟨s, hs⟩ : ∃ s, x * 4096 = s := ⟨_, rfl⟩
      have v1 : IntKind.u64.wrap s = s := IntWalk.u64_in _ (by omega)
      have v2 : IntKind.u64.wrap (s + 4096) = s + 4096 := IntWalk.u64_in _ (by omega)
      have v3 : decide (te ≤ s) = false := decide_eq_false (by omega)
      have v4 : decide (s + 4096 ≤ 0) = false := decide_eq_false (by omega)
      have v5 : decide (0 ≤ s) = true := decide_eq_true (by omega)
      have v6 : decide (s + 4096 ≤ te) = true := decide_eq_true (by omega)
      clear hp2 hf2 hs2 hwx htx hfx hd ha
      go_wp2_with ((with_reducible refine gate_builtin (b := .delete) (xs := #[.tmp 57, .tmp 58]) rfl ?_); refine Classical.byContradiction fun hgoal => ?_)
      apply hgoal
      clear hgoal
      (try (refine gate_guard (by rfl) ?_; dsimp only))
      refine drop_list (by rfl) (.tmp 57) (.tmp 58) rfl lawK Try.underlying27 Try.underlying39 HP2.out x HX.out.1 rfl rfl ?_
      intro w3 sz3 cnt3 hp3 hc3 hf3
      have HP3 := Lib.hid hp3
      have HC3 := Lib.hid hc3
      have HF3 := Lib.hid hf3
      have hneg := HP2.out.cells HB2.out
      clear hp3 hc3 hf3
      go_wp2_with fail
      go_roundg cnt3
      case measure => have := HC3.out; omega
      case rel =>
        refine Lib.hid ⟨_, cnt3, sz3, updP f' x none, Nat.le_refl _, HP3.out, fun k hk => ?_, fun k b' e => ?_, HI2.out.fr HF3.out (fun e => HST.out.apart e.symm), HB2.out.fr HF3.out (fun e => HST.out.lm.ne_blk HST.out.blk e.symm), HF2.out.trans HF3.out (fun _ _ e => .inr (.inl e))⟩
        · by_cases e : k = x
          · subst e; rw [updP_same]; simp
          · rw [updP_ne _ _ e, HTD.out k hk]; simp [e]
        · by_cases e2 : k = x
          · subst e2; rw [updP_same] at e; cases e
          · rw [updP_ne _ _ e2] at e; exact HSUB.out k b' e
end Go.Proofs.Ytipbfmidiimicaa.Pq
