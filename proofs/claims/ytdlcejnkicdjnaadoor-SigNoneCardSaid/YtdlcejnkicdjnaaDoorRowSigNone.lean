/- The row of the law SigNone: for every input the law returns true and its arguments read as before. No further condition. -/
import Derived.Test.YtdlcejnkicdjnaaDoorRows
import Derived.Test.YtdlcejnkicdjnaaDoorSgN
import Derived.WalkKit
import Derived.ProofKit
import Derived.OpenShut
import Derived.ShutString
import Derived.ChangeOld
import Derived.Below
import Derived.SizedLaws
import Derived.Handed
import Derived.Handy
import Derived.Lay
import Derived.Lib.LaidTab
import Derived.SevenTiedAt
import Derived.Test.YtdlcejnkicdjnaaDoorTie
import Derived.Test.YtdlcejnkicdjnaaDoorCards
import Derived.Lib.SmallJoins
namespace Go.Proofs.YtdlcejnkicdjnaaDoor.sigNone
open Go.ChangeShapes Go.WideShapes Go.ChangeAt Go.RowKit
open Go.ChangeMaps (open_string shut_string)
set_option linter.unusedVariables false
theorem own : ownKnob Tryd.prog.godebug = none := by kernel_rfl
set_option maxRecDepth 100000 in
theorem lifted (os : Os) (started : os.Started) (H : Type) (enc : TypeId × Value → H) :
    ReturnsInHanded {} Tryd.checked os 6 .any (fun w args => (Rows.sigNoneSpec.pre enc Tryd.prog Tryd.f6 Rows.sigNoneRow.domain false w args ∧ laidMetH Tryd.prog [("math/bits.deBruijn64tab", Rows.laid_math_bits_deBruijn64tab)] w) ∧ sizedMet enc Tryd.prog Tryd.f6 (OpenSpec.ofChange Rows.sigNoneSpec) false w args) (Rows.sigNoneSpec.post enc Tryd.prog Tryd.f6 false true false false) := by
  refine returnsInHanded_of_change_and (C := Tryd.checked) (X := fun w _ => laidMetH Tryd.prog [("math/bits.deBruijn64tab", Rows.laid_math_bits_deBruijn64tab)] w) (fun _ _ _ hh h => h.of_heap hh) own started (by kernel_rfl) Tryd.func6
    (ChangeSpec.witness_shaped (enc := enc) (C := Tryd.checked) (os := os) (X := fun w _ => laidMetH Tryd.prog [("math/bits.deBruijn64tab", Rows.laid_math_bits_deBruijn64tab)] w) false (World.laidAll Tryd.prog os [("math/bits.deBruijn64tab", Rows.laid_math_bits_deBruijn64tab)]) #[.int .i64 0, .agg #[.int .u64 0, .int .u64 0, .int .u64 0], .int .u64 0] 8 (World.laidAll_os _ _ _)
      (World.shaped_of_ZipB (by kernel_rfl) (by kernel_rfl)) (by kernel_rfl) (by kernel_rfl) (by kernel_rfl)
      (by rw [MakeChecks.laidMetH_plain _ _ _ (by kernel_rfl)]; exact laidMet_laidAll _ (by kernel_rfl) (by kernel_rfl))) ?_
  intro W base args ds gs before hval0 hW hcnd hsz0 hL _
  have hsz : (DataW.weightsEach Tryd.prog (Tryd.f6.params.toList ++ Rows.sigNoneSpec.plain.varTypes Tryd.prog) (ds ++ gs)).all (· ≤ reachBytes) = true := hsz0
  have hval : ∀ (j : Nat) t v, Tryd.f6.params[j]? = some t → args[j]? = some v → Value.okWide Tryd.prog W .any base t v := hval0
  have hW' := hW
  obtain ⟨p, q, hA0, hV, rfl, hfz, hnd⟩ := hW
  have hA : DataW.TrodAll enc Tryd.prog W 0 (fun _ => true) true Tryd.f6.params.toList args.toList ds p := hA0
  rw [Tryd.params6] at hA hval hsz
  obtain ⟨v0, vs0, d0, ds0, p0, q0, hargs, rfl, rfl, h0, r0⟩ := trodAll_cons hA
  obtain ⟨v1, vs1, d1, ds1, p1, q1, rfl, rfl, rfl, h1, r1⟩ := trodAll_cons r0
  obtain ⟨v2, vs2, d2, ds2, p2, q2, rfl, rfl, rfl, h2, r2⟩ := trodAll_cons r1
  obtain ⟨rfl, rfl, rfl⟩ := trodAll_nil r2
  obtain rfl : args = #[v0, v1, v2] := by cases args; simp_all
  obtain ⟨rfl, rfl⟩ := trodVars_none hV
  obtain ⟨a0, rfl, rfl, rfl, w0⟩ := open_int Tryd.underlying3 (hval 0 3 v0 rfl rfl) h0
  obtain ⟨c1_0, c1_1, c1_2, y1_0, y1_1, y1_2, m1, rfl, rfl, rfl, hy1_0, hy1_1, hy1_2⟩ := Go.Joins.open_agg3 Tryd.underlying33 (by kernel_rfl) (by kernel_rfl) (hval 1 33 v1 rfl rfl) h1
  obtain ⟨a1_0, e1_0, rfl, w1_0⟩ := DataW.trod_int Tryd.underlying23 hy1_0
  simp at e1_0
  subst e1_0
  obtain ⟨a1_1, e1_1, rfl, w1_1⟩ := DataW.trod_int Tryd.underlying23 hy1_1
  simp at e1_1
  subst e1_1
  obtain ⟨a1_2, e1_2, rfl, w1_2⟩ := DataW.trod_int Tryd.underlying23 hy1_2
  simp at e1_2
  subst e1_2
  obtain ⟨a2, rfl, rfl, rfl, w2⟩ := open_int Tryd.underlying23 (hval 2 23 v2 rfl rfl) h2
  clear hA0 hval0 hsz0 hsz
  have hL' := hL
  rw [MakeChecks.laidMetH_plain _ _ _ (by kernel_rfl)] at hL'
  have hI := Lib.tabIs_of_head (k := .u8) (zs := Sg.tabZ) (g := 0) (t := 66) (e := 5) (n := 64) (by kernel_rfl) (by kernel_rfl) Tryd.underlying66 Tryd.underlying5 (by kernel_rfl) (by kernel_rfl) (show laidMet Tryd.prog [("math/bits.deBruijn64tab", Lib.tabData .u8 Sg.tabZ)] W from hL')
  have hT : Sg.Tb W := fun i hi => hI.cell (by kernel_rfl) i (by rw [show Sg.tabZ.length = 64 from rfl]; exact hi)
  refine (Sg.none_walk a0 a1_0 a1_1 a1_2 a2 W w0 w1_0 w1_1 w1_2 w2 hT).mono fun e W' ⟨he, bel⟩ => ?_
  subst he
  exact ⟨_, rfl, _, _, _, [], _, [], hW', trodAll_mk1 (shut_bool Tryd.underlying4 _), (trodAll_cons_mk (shut_int Tryd.underlying3 w0) (trodAll_cons_mk (Go.Joins.shut_agg3 (y0 := (.lit (.int .u64 a1_0), [])) (y1 := (.lit (.int .u64 a1_1), [])) (y2 := (.lit (.int .u64 a1_2), [])) Tryd.underlying33 (by kernel_rfl) (by kernel_rfl) ⟨1, trod_int_mk 0 Tryd.underlying23 w1_0⟩ ⟨1, trod_int_mk 0 Tryd.underlying23 w1_1⟩ ⟨1, trod_int_mk 0 Tryd.underlying23 w1_2⟩) (trodAll_cons_mk (shut_int Tryd.underlying23 w2) trodAll_mk0))), rfl, bel.frame _, fun h => by cases h⟩
theorem over : Rows.sigNoneRow.holds Tryd.pinned (OpenSpec.ofChange Rows.sigNoneSpec) :=
  OpenClaim.holds_of_wide 6 Tryd.f6 rfl rfl rfl rfl rfl rfl rfl ⟨rfl, rfl, rfl, rfl, rfl⟩ rfl rfl rfl rfl rfl (by kernel_rfl) Tryd.func6 (by kernel_rfl)
    (of_decide_eq_true (by kernel_rfl)) (by unfold Func.isWrapper; first | (rw [if_pos (by decide +kernel)]; kernel_rfl) | (rw [if_neg (by decide +kernel)]; exact ⟨rfl, rfl⟩))
    (fun os started H enc _ => lifted os started H enc)
theorem proved : Rows.SigNoneSaid := over
#print axioms proved
end Go.Proofs.YtdlcejnkicdjnaaDoor.sigNone
namespace Go.Proofs.YtdlcejnkicdjnaaDoor
/-- The row. -/
theorem sigNone_row : Rows.SigNoneSaid := sigNone.proved
/-- The tied card. -/
theorem sigNone_holds : Rows.SigNoneCardSaid :=
  Claim7.holds_tied_plain_at .later [] [.data] true (true, "90d68a2baafa0bac6db03998b296b836d74a882c2e1e0dec4a01c910bba5fdc7") false
    sigNone_row (fun _ h => by cases h) (by kernel_rfl) (fun _ h => by cases h) sigNone_row_tie rfl ⟨rfl, rfl⟩ (by kernel_rfl) rfl
    (fun f fn hf hfn => by
      obtain rfl : f = 6 := Option.some.inj ((show Tryd.prog.funcNamed "marionette/marionettelaw21.SigNone" = some 6 by kernel_rfl).symm.trans hf) |>.symm
      obtain rfl : fn = Tryd.f6 := (Option.some.inj (Tryd.func6.symm.trans hfn)).symm
      exact ⟨by kernel_rfl, fun j t ht => by
        rw [Tryd.params6] at ht
        have hm : t ∈ [3, 33, 23] := List.mem_of_getElem? (by simpa using ht)
        have all : ([3, 33, 23].all fun t => !Tryd.prog.wantsStandIn t) = true := by kernel_rfl
        have := List.all_eq_true.1 all t hm
        exact (show Tryd.prog.wantsStandIn t = false by simpa using this)⟩)
    (by kernel_rfl)
#print axioms sigNone_holds
end Go.Proofs.YtdlcejnkicdjnaaDoor
