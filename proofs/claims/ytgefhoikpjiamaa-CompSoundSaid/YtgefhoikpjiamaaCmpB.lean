/- Contracts of functions that a law reaches: for every argument they answer as their printed twins do. -/
import Derived.Test.YtgefhoikpjiamaaProg
import Derived.Below
import Derived.Deep.Draws
import Derived.Deep.AppendLies
import Derived.Maps.AppendAt
import Derived.OwnWalk
import Derived.Laws.BytesArg
import Derived.Laws.MakeOwn
import Derived.Laws.OwnMore
import Derived.Deep.OwnRows
import Derived.Tactics
import Derived.Lib.ConvBytes
import Derived.Laws.Slices
import Derived.WalkKit
import Derived.KernelRfl
import Derived.RowKit3
import Derived.Deep.LoopGhost
import Derived.Deep.QuietTactic
import Derived.BigQuiet
import Derived.WideLaws
import Derived.Deep.DeepCutAuto
import Derived.Deep.CutBlock
import Derived.Deep.RegionHeld3
import Derived.Laws.Rows
import Derived.Lib.AppendStr
import Derived.ArgAppend
import Derived.Laws.IdiomCopy
import Derived.OrdersHeld
import Derived.Laws.BitsLemmas
import Derived.RowKit
import Derived.Test.YtgefhoikpjiamaaWWords
import Derived.Test.YtgefhoikpjiamaaWLast
import Derived.Test.YtgefhoikpjiamaaSlim
namespace Go.Proofs.Ytgefhoikpjiamaa.CmpB
open Go.RowKit Go.Proofs.YtgefhoikpjiamaaW.PrintWords Go.Proofs.YtgefhoikpjiamaaW.PrintLast Go.Proofs.YtgefhoikpjiamaaW.PrintMore
attribute [local go_sem] max2_int min2_int max_two min_two max_three min_three max_four min_four   -- for this text's walks alone
set_option linter.unusedVariables false
set_option linter.unusedSimpArgs false
def errW : Option Int → Value
  | none => .nilIface
  | some c => .iface 0 (.int .i64 c)
theorem errW_none : errW none = .nilIface := rfl
theorem errW_some (c : Int) : errW (some c) = .iface 0 (.int .i64 c) := rfl

theorem info3 : (Try.prog.info? 3).map (fun i => (i.zero, i.size, i.bytes)) = some (some (.int .i64 0), 1, 8) := by kernel_rfl
-- the values' own types
/-! ### comp_Short: function 10 -/
def comp_Short.f (a0 : Int) : Option (Bool) := some ((Go.bits .and .u16 a0 3) != 3)
set_option maxHeartbeats 8000000 in
set_option maxRecDepth 100000 in
theorem comp_Short.calls (a0 : Int) (r : Bool) (w : World) (h : comp_Short.f a0 = some r) :
    Calls Try.prog 10 #[.int .u16 a0] w fun e w' => e = .returned (.bool r) ∧ Drawn0 w w' := by
  have H : (some ((Go.bits .and .u16 a0 3) != 3)) = some r := h
  clear h
  obtain rfl := Option.some.inj H
  go_enter Try.func10, Try.ntmps10
  go_wp2
  go_ret
  exact ⟨by first | rfl | (simp; done) | (simp [*]; done), by repeat (first | exact Drawn0.refl _ | apply Drawn0.step)⟩

-- NOT PRINTED: function 5 (marionettelaw04_CompExpands)
end Go.Proofs.Ytgefhoikpjiamaa.CmpB
