/- Every word of 16 bits: the instruction it stands for, made four bytes long, is one that some word of 32 bits has: part 1. -/
import Derived.Test.YtgefhoikpjiamaaCmpK
namespace Go.Proofs.Ytgefhoikpjiamaa.Cmp
theorem ok4 : allB okB 12 16384 = true := by kernel_rfl
theorem ok5 : allB okB 12 20480 = true := by kernel_rfl
theorem ok6 : allB okB 12 24576 = true := by kernel_rfl
theorem ok7 : allB okB 12 28672 = true := by kernel_rfl
end Go.Proofs.Ytgefhoikpjiamaa.Cmp
