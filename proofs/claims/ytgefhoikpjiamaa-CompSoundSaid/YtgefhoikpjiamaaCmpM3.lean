/- Every word of 16 bits: the instruction it stands for, made four bytes long, is one that some word of 32 bits has: part 3. -/
import Derived.Test.YtgefhoikpjiamaaCmpK
namespace Go.Proofs.Ytgefhoikpjiamaa.Cmp
theorem ok12 : allB okB 12 49152 = true := by kernel_rfl
theorem ok13 : allB okB 12 53248 = true := by kernel_rfl
theorem ok14 : allB okB 12 57344 = true := by kernel_rfl
theorem ok15 : allB okB 12 61440 = true := by kernel_rfl
end Go.Proofs.Ytgefhoikpjiamaa.Cmp
