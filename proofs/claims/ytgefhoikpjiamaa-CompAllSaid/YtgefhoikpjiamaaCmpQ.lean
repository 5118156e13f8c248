/- Every word of 16 bits: the program's answer and the document's, in plain Lean, are the same. -/
import Derived.Test.YtgefhoikpjiamaaCmpP
namespace Go.Proofs.Ytgefhoikpjiamaa.Cmp
theorem all0 : allB sameB 13 0 = true := by kernel_rfl
theorem all1 : allB sameB 13 8192 = true := by kernel_rfl
theorem all2 : allB sameB 13 16384 = true := by kernel_rfl
theorem all3 : allB sameB 13 24576 = true := by kernel_rfl
theorem all4 : allB sameB 13 32768 = true := by kernel_rfl
theorem all5 : allB sameB 13 40960 = true := by kernel_rfl
theorem all6 : allB sameB 13 49152 = true := by kernel_rfl
theorem all7 : allB sameB 13 57344 = true := by kernel_rfl
theorem same_at (h : Nat) (hh : h < 65536) : sameB h = true := by
  rcases Nat.lt_or_ge h 8192 with h0 | h0
  · exact allB_at _ _ _ _ all0 (by omega) (by omega)
  rcases Nat.lt_or_ge h 16384 with h1 | h1
  · exact allB_at _ _ _ _ all1 (by omega) (by omega)
  rcases Nat.lt_or_ge h 24576 with h2 | h2
  · exact allB_at _ _ _ _ all2 (by omega) (by omega)
  rcases Nat.lt_or_ge h 32768 with h3 | h3
  · exact allB_at _ _ _ _ all3 (by omega) (by omega)
  rcases Nat.lt_or_ge h 40960 with h4 | h4
  · exact allB_at _ _ _ _ all4 (by omega) (by omega)
  rcases Nat.lt_or_ge h 49152 with h5 | h5
  · exact allB_at _ _ _ _ all5 (by omega) (by omega)
  rcases Nat.lt_or_ge h 57344 with h6 | h6
  · exact allB_at _ _ _ _ all6 (by omega) (by omega)
  · exact allB_at _ _ _ _ all7 (by omega) (by omega)
theorem expand_same (h : Nat) (hh : h < 65536) : expandP h = rexpandP h := by
  have e := same_at h hh
  unfold sameB at e
  rw [Bool.and_eq_true, beq_iff_eq] at e
  exact Prod.ext (eqI_eq e.1) e.2
end Go.Proofs.Ytgefhoikpjiamaa.Cmp
