/- Every word of 16 bits: the instruction it stands for, made four bytes long, is sound. -/
import Derived.Test.YtgefhoikpjiamaaCmpM0
import Derived.Test.YtgefhoikpjiamaaCmpM1
import Derived.Test.YtgefhoikpjiamaaCmpM2
import Derived.Test.YtgefhoikpjiamaaCmpM3
import Derived.Test.YtgefhoikpjiamaaEncS
namespace Go.Proofs.Ytgefhoikpjiamaa.Cmp
theorem ok_at (h : Nat) (hh : h < 65536) : okB h = true := by
  rcases Nat.lt_or_ge h 4096 with h0 | h0
  · exact allB_at _ _ _ _ ok0 (by omega) (by omega)
  rcases Nat.lt_or_ge h 8192 with h1 | h1
  · exact allB_at _ _ _ _ ok1 (by omega) (by omega)
  rcases Nat.lt_or_ge h 12288 with h2 | h2
  · exact allB_at _ _ _ _ ok2 (by omega) (by omega)
  rcases Nat.lt_or_ge h 16384 with h3 | h3
  · exact allB_at _ _ _ _ ok3 (by omega) (by omega)
  rcases Nat.lt_or_ge h 20480 with h4 | h4
  · exact allB_at _ _ _ _ ok4 (by omega) (by omega)
  rcases Nat.lt_or_ge h 24576 with h5 | h5
  · exact allB_at _ _ _ _ ok5 (by omega) (by omega)
  rcases Nat.lt_or_ge h 28672 with h6 | h6
  · exact allB_at _ _ _ _ ok6 (by omega) (by omega)
  rcases Nat.lt_or_ge h 32768 with h7 | h7
  · exact allB_at _ _ _ _ ok7 (by omega) (by omega)
  rcases Nat.lt_or_ge h 36864 with h8 | h8
  · exact allB_at _ _ _ _ ok8 (by omega) (by omega)
  rcases Nat.lt_or_ge h 40960 with h9 | h9
  · exact allB_at _ _ _ _ ok9 (by omega) (by omega)
  rcases Nat.lt_or_ge h 45056 with h10 | h10
  · exact allB_at _ _ _ _ ok10 (by omega) (by omega)
  rcases Nat.lt_or_ge h 49152 with h11 | h11
  · exact allB_at _ _ _ _ ok11 (by omega) (by omega)
  rcases Nat.lt_or_ge h 53248 with h12 | h12
  · exact allB_at _ _ _ _ ok12 (by omega) (by omega)
  rcases Nat.lt_or_ge h 57344 with h13 | h13
  · exact allB_at _ _ _ _ ok13 (by omega) (by omega)
  rcases Nat.lt_or_ge h 61440 with h14 | h14
  · exact allB_at _ _ _ _ ok14 (by omega) (by omega)
  exact allB_at _ _ _ _ ok15 (by omega) (by omega)
theorem sound_at (h : Nat) (hh : h < 65536) {i : I7} (he : expandP h = (i, true)) : (Ins.EncE (set4 i)).2 = true := by
  have e := ok_at h hh
  unfold okB at e
  rw [he] at e
  have e : okW (set4 i) = true := e
  unfold okW at e
  rw [Bool.and_eq_true, Bool.and_eq_true, decide_eq_true_eq] at e
  rw [Ins.Enc_back e.1 (i := set4 i) (Prod.ext (eqI_eq e.2.2) e.2.1)]
theorem size_at (h : Nat) {i : I7} (he : expandP h = (i, true)) : i.2.2.2.2.2.2 = 2 := by
  unfold expandP size2 at he
  split at he
  · injection he with _ h2
    cases h2
  · injection he with h1 _
    rw [← h1]
theorem none_at (h : Nat) {i : I7} (he : expandP h = (i, false)) : i = i0 := by
  unfold expandP size2 at he
  split at he
  · injection he with h1 _
    exact h1.symm
  · injection he with _ h2
    cases h2
end Go.Proofs.Ytgefhoikpjiamaa.Cmp
