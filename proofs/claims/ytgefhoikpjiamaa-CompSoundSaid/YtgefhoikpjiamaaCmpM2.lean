/- Every word of 16 bits: the instruction it stands for, made four bytes long, is one that some word of 32 bits has: part 2. -/
import Derived.Test.YtgefhoikpjiamaaCmpK
namespace Go.Proofs.Ytgefhoikpjiamaa.Cmp
theorem ok8 : allB okB 12 32768 = true := by kernel_rfl
theorem ok9 : allB okB 12 36864 = true := by kernel_rfl
theorem ok10 : allB okB 12 40960 = true := by kernel_rfl
theorem ok11 : allB okB 12 45056 = true := by kernel_rfl
end Go.Proofs.Ytgefhoikpjiamaa.Cmp
