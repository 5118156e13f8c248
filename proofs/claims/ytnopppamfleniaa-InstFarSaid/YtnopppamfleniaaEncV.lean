/- The law InstFar, walked: its cases joined. No further condition. -/
import Derived.Test.YtnopppamfleniaaEncV0
import Derived.Test.YtnopppamfleniaaEncV1
import Derived.Test.YtnopppamfleniaaEncV2
import Derived.Test.YtnopppamfleniaaEncV3
import Derived.Test.YtnopppamfleniaaEncV4
import Derived.Test.YtnopppamfleniaaEncV5
namespace Go.Proofs.Ytnopppamfleniaa.Ins
open Go Go.RowKit Go.Proofs.YtnopppamfleniaaW.PrintWords Go.Proofs.YtnopppamfleniaaW.PrintLast Go.Proofs.YtnopppamfleniaaW.PrintMore
open Go.Proofs.Ytnopppamfleniaa.Hp Go.Proofs.Ytnopppamfleniaa.Bv
attribute [local go_sem] max2_int min2_int max_two min_two max_three min_three max_four min_four
set_option linter.unusedVariables false
set_option linter.unusedSimpArgs false
theorem far_any (n p q : Int) (p0 : 0 ≤ p) (p255 : p ≤ 255) (q0 : 0 ≤ q) (q255 : q ≤ 255) (w : World) : Calls Try.prog 8 #[.int .i64 n, .int .u8 p, .int .u8 q] w fun e w' => e = .returned (.bool true) ∧ Fr (fun _ => False) w w' := by
  obtain ⟨d, hp, hd⟩ := low p 32 (by decide)
  obtain ⟨s, hq, hs⟩ := low q 32 (by decide)
  by_cases q4 : n % 4096 = 0
  · skip
    by_cases z0 : n < -2147483648
    · exact far_0 n p q d s hd hs hp hq p0 p255 q0 q255 (by omega) q4 w
    by_cases z1 : n < -1048576
    · exact far_1 n p q d s hd hs hp hq p0 p255 q0 q255 (by omega) (by omega) q4 w
    by_cases z2 : n < -4096
    · exact far_2 n p q d s hd hs hp hq p0 p255 q0 q255 (by omega) (by omega) q4 w
    by_cases z3 : n < 0
    · exact far_3 n p q d s hd hs hp hq p0 p255 q0 q255 (by omega) (by omega) q4 w
    by_cases z4 : n < 1
    · exact far_4 n p q d s hd hs hp hq p0 p255 q0 q255 (by omega) (by omega) q4 w
    by_cases z5 : n < 1048576
    · exact far_5 n p q d s hd hs hp hq p0 p255 q0 q255 (by omega) (by omega) q4 w
    by_cases z6 : n < 2147483648
    · exact far_6 n p q d s hd hs hp hq p0 p255 q0 q255 (by omega) (by omega) q4 w
    exact far_7 n p q d s hd hs hp hq p0 p255 q0 q255 (by omega) q4 w
  · by_cases q2 : n % 2 = 0
    · skip
      by_cases z8 : n < -1048576
      · exact far_8 n p q d s hd hs hp hq p0 p255 q0 q255 (by omega) q4 q2 w
      by_cases z9 : n < -4096
      · exact far_9 n p q d s hd hs hp hq p0 p255 q0 q255 (by omega) (by omega) q4 q2 w
      by_cases z10 : n < -2048
      · exact far_10 n p q d s hd hs hp hq p0 p255 q0 q255 (by omega) (by omega) q4 q2 w
      by_cases z11 : n < 0
      · exact far_11 n p q d s hd hs hp hq p0 p255 q0 q255 (by omega) (by omega) q4 q2 w
      by_cases z12 : n < 32
      · exact far_12 n p q d s hd hs hp hq p0 p255 q0 q255 (by omega) (by omega) q4 q2 w
      by_cases z13 : n < 64
      · exact far_13 n p q d s hd hs hp hq p0 p255 q0 q255 (by omega) (by omega) q4 q2 w
      by_cases z14 : n < 2048
      · exact far_14 n p q d s hd hs hp hq p0 p255 q0 q255 (by omega) (by omega) q4 q2 w
      by_cases z15 : n < 4096
      · exact far_15 n p q d s hd hs hp hq p0 p255 q0 q255 (by omega) (by omega) q4 q2 w
      by_cases z16 : n < 1048576
      · exact far_16 n p q d s hd hs hp hq p0 p255 q0 q255 (by omega) (by omega) q4 q2 w
      exact far_17 n p q d s hd hs hp hq p0 p255 q0 q255 (by omega) q4 q2 w
    · skip
      by_cases z18 : n < -2048
      · exact far_18 n p q d s hd hs hp hq p0 p255 q0 q255 (by omega) q4 q2 w
      by_cases z19 : n < 0
      · exact far_19 n p q d s hd hs hp hq p0 p255 q0 q255 (by omega) (by omega) q4 q2 w
      by_cases z20 : n < 32
      · exact far_20 n p q d s hd hs hp hq p0 p255 q0 q255 (by omega) (by omega) q4 q2 w
      by_cases z21 : n < 64
      · exact far_21 n p q d s hd hs hp hq p0 p255 q0 q255 (by omega) (by omega) q4 q2 w
      by_cases z22 : n < 2048
      · exact far_22 n p q d s hd hs hp hq p0 p255 q0 q255 (by omega) (by omega) q4 q2 w
      exact far_23 n p q d s hd hs hp hq p0 p255 q0 q255 (by omega) q4 q2 w
theorem far_walk (a0 a1 a2 : Int) (W : World) (w0 : (Lit.int .i64 a0).wf = true) (w1 : (Lit.int .u8 a1).wf = true) (w2 : (Lit.int .u8 a2).wf = true) :
    Calls Try.prog 8 #[.int .i64 a0, .int .u8 a1, .int .u8 a2] W fun e W' => e = .returned (.bool true) ∧ Below W.heap.size W W' := by
  have b1 := Go.bounds_u8 w1
  have b2 := Go.bounds_u8 w2
  exact (far_any a0 a1 a2 (by omega) (by omega) (by omega) (by omega) W).mono fun _ _ g => ⟨g.1, Fr.below (Below.refl _ _) g.2 (fun _ _ => id)⟩
end Go.Proofs.Ytnopppamfleniaa.Ins
