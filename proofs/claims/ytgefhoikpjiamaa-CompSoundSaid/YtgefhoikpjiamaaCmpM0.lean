/- Every word of 16 bits: the instruction it stands for, made four bytes long, is one that some word of 32 bits has: part 0. -/
import Derived.Test.YtgefhoikpjiamaaCmpK
namespace Go.Proofs.Ytgefhoikpjiamaa.Cmp
theorem ok0 : allB okB 12 0 = true := by kernel_rfl
theorem ok1 : allB okB 12 4096 = true := by kernel_rfl
theorem ok2 : allB okB 12 8192 = true := by kernel_rfl
theorem ok3 : allB okB 12 12288 = true := by kernel_rfl
end Go.Proofs.Ytgefhoikpjiamaa.Cmp
