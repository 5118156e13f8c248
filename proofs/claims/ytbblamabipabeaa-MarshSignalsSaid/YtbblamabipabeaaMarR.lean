/- The law MarshSignals for every argument, out of its four cases. No further condition. -/
import Derived.Test.YtbblamabipabeaaMarQz
import Derived.Test.YtbblamabipabeaaMarQs
import Derived.Test.YtbblamabipabeaaMarQb
namespace Go.Proofs.Ytbblamabipabeaa.Mar
open Go Go.RowKit Go.Proofs.YtbblamabipabeaaW.PrintWords Go.Proofs.YtbblamabipabeaaW.PrintLast Go.Proofs.YtbblamabipabeaaW.PrintMore
open Go.Proofs.Ytbblamabipabeaa.Hp Go.Proofs.Ytbblamabipabeaa.By Go.Proofs.Ytbblamabipabeaa.Bv
theorem signals_walk (h f m a s n : Int) (a3 : Option Addr) (len3 cap3 : Nat) (z3 : List Int) (W : World) (wh : (Lit.int .u64 h).wf = true) (wf : (Lit.int .u64 f).wf = true) (wm : (Lit.int .u64 m).wf = true) (wa : (Lit.int .u64 a).wf = true) (ws : (Lit.int .u64 s).wf = true) (wn : (Lit.int .u32 n).wf = true)
    (w3 : (a3 = none ∧ len3 = 0 ∧ cap3 = 0 ∧ z3 = []) ∨ ∃ x, a3 = some x ∧ len3 ≤ cap3 ∧ cap3 ≤ maxLen ∧ z3.length = cap3 ∧ (∀ i, i < z3.length → W.cell? (x.add i) = some (.int .u8 (z3.getD i 0))) ∧ ∀ n ∈ z3, (Lit.int .u8 n).wf = true)
    (_ : len3 * 1 ≤ 140737488351232) :
    Calls Try.prog 4 #[.agg #[.int .u64 h, .int .u64 f, .int .u64 m], .agg #[.int .u64 a, .int .u64 s], .int .u32 n, .slice a3 len3 cap3] W fun e W' => e = .returned (.bool true) ∧ Below W.heap.size W W' := by
  have bh := Go.bounds_u64 wh
  have bf := Go.bounds_u64 wf
  have bm := Go.bounds_u64 wm
  have ba := Go.bounds_u64 wa
  have bs := Go.bounds_u64 ws
  have bn := Go.bounds_u32 wn
  obtain ⟨l0, rfl, hr0, hm0, hw0, hc0⟩ := ReadsInt.ofRowC w3
  have hby : By.bytes l0 := fun y hy => Go.bounds_u8 (hw0 y hy)
  have fin : ∀ e W', (e = Ending.returned (.bool true) ∧ Fr (fun _ => False) W W') → e = .returned (.bool true) ∧ Below W.heap.size W W' := fun _ _ g => ⟨g.1, Fr.below (Below.refl _ _) g.2 (fun _ _ => id)⟩
  by_cases hl : 100 < l0.length
  · exact (signals_long a3 cap3 l0 h f m a s n W hr0.2.1 hl).mono fin
  · have h0 : 0 ≤ h ∧ h < 18446744073709551616 := ⟨bh.1, by omega⟩
    have f0 : 0 ≤ f ∧ f < 18446744073709551616 := ⟨bf.1, by omega⟩
    have m0 : 0 ≤ m ∧ m < 18446744073709551616 := ⟨bm.1, by omega⟩
    have a0 : 0 ≤ a ∧ a < 18446744073709551616 := ⟨ba.1, by omega⟩
    have s0 : 0 ≤ s ∧ s < 18446744073709551616 := ⟨bs.1, by omega⟩
    have n0 : 0 ≤ n ∧ n < 4294967296 := ⟨bn.1, by omega⟩
    by_cases hz : s = 0
    · exact (signals_z a3 cap3 l0 h f m a s n W hr0 hc0 hby (by omega) h0 f0 m0 a0 s0 n0 hz).mono fin
    · by_cases hs : s < 2048
      · exact (signals_s a3 cap3 l0 h f m a s n W hr0 hc0 hby (by omega) h0 f0 m0 a0 s0 n0 hz hs).mono fin
      · exact (signals_b a3 cap3 l0 h f m a s n W hr0 hc0 hby (by omega) h0 f0 m0 a0 s0 n0 hz (by omega)).mono fin
end Go.Proofs.Ytbblamabipabeaa.Mar
