/- alu.Do and the document's Do at any operator: both answer dv and kn. Known likewise. -/
import Derived.Test.YtdjgjedmbgnjbaaAluR
import Derived.Lib.Hide
namespace Go.Proofs.Ytdjgjedmbgnjbaa.Alu
open Go Go.RowKit Go.Proofs.YtdjgjedmbgnjbaaW.PrintWords Go.Proofs.YtdjgjedmbgnjbaaW.PrintLast Go.Proofs.YtdjgjedmbgnjbaaW.PrintMore
open Go.Proofs.Ytdjgjedmbgnjbaa.Bv
set_option linter.unusedVariables false
set_option linter.unusedSimpArgs false
attribute [local go_sem] wrap_add wrap_sub wrap_mul and_U or_U xor_U shl_U' shr_U' sar_toInt' i64_U wrap64_U u64_toInt wrap_shr wrap_U wrap64_toInt
theorem bit_of {x y : BitVec 64} (h : x.setWidth 32 = y.setWidth 32) (i : Nat) (hi : i < 32) : x.getLsbD i = y.getLsbD i := by
  have e := congrArg (fun z : BitVec 32 => z.getLsbD i) h
  simpa [BitVec.getLsbD_setWidth, hi] using e
theorem sx_congr {x y : BitVec 64} (h : x.setWidth 32 = y.setWidth 32) : sx x 32 = sx y 32 := by
  apply BitVec.eq_of_getLsbD_eq
  intro i hi
  rw [sx_bit _ _ _ (by decide) (by decide) hi, sx_bit _ _ _ (by decide) (by decide) hi]
  exact bit_of h _ (by omega)
theorem low_width (a : BitVec 64) : (low a).setWidth 32 = a.setWidth 32 := by
  apply BitVec.eq_of_toNat_eq
  unfold low
  rw [BitVec.toNat_setWidth, BitVec.toNat_setWidth, BitVec.toNat_ofNat]
  omega
theorem sx_low (a : BitVec 64) : sx (low a) 32 = sx a 32 := sx_congr (low_width a)
theorem e_add (a b : BitVec 64) : sx (low a + low b) 32 = sx (a + b) 32 := sx_congr (by rw [BitVec.setWidth_add _ _ (by decide), BitVec.setWidth_add _ _ (by decide), low_width, low_width])
theorem e_mul (a b : BitVec 64) : sx (low a * low b) 32 = sx (a * b) 32 := sx_congr (by rw [BitVec.setWidth_mul _ _ (by decide), BitVec.setWidth_mul _ _ (by decide), low_width, low_width])
theorem e_sub (a b : BitVec 64) : sx (low a - low b) 32 = sx (a - b) 32 := sx_congr (by
  apply BitVec.eq_of_toNat_eq
  rw [BitVec.toNat_setWidth, BitVec.toNat_setWidth, BitVec.toNat_sub, BitVec.toNat_sub]
  unfold low
  rw [BitVec.toNat_ofNat, BitVec.toNat_ofNat]
  have := a.isLt
  have := b.isLt
  omega)
theorem e_shl (a : BitVec 64) (n : Nat) : sx (low a <<< n) 32 = sx (a <<< n) 32 := sx_congr (by
  apply BitVec.eq_of_getLsbD_eq
  intro i hi
  rw [BitVec.getLsbD_setWidth, BitVec.getLsbD_setWidth, BitVec.getLsbD_shiftLeft, BitVec.getLsbD_shiftLeft]
  by_cases h : i < n
  · simp [h]
  · rw [bit_of (low_width a) (i - n) (by omega)])
theorem e_shr (a : BitVec 64) (n : Nat) : rgt a 0#64 n = a >>> n := by
  induction n with
  | zero => simp [rgt]
  | succ n ih =>
    show (rgt a 0#64 n >>> 1) ||| (0#64 <<< 63) = _
    rw [ih, ← BitVec.shiftRight_add]
    simp
theorem bt1_bit (a : BitVec 64) (k i : Nat) : (SgHand.bt1 a k).getLsbD i = (decide (i = 0) && a.getLsbD k) := by
  unfold SgHand.bt1
  rw [BitVec.getLsbD_and, BitVec.getLsbD_ushiftRight, BitVec.getLsbD_one]
  by_cases h : i = 0
  · subst h; simp
  · simp [h]
theorem e_sar (a f : BitVec 64) (hf : ∀ i, f.getLsbD i = (decide (i = 0) && a.msb)) (n : Nat) : rgt a f n = a.sshiftRight n := by
  induction n with
  | zero => simp [rgt]
  | succ n ih =>
    show (rgt a f n >>> 1) ||| (f <<< 63) = _
    rw [ih]
    apply BitVec.eq_of_getLsbD_eq
    intro i hi
    rw [BitVec.getLsbD_or, BitVec.getLsbD_ushiftRight, BitVec.getLsbD_shiftLeft, BitVec.getLsbD_sshiftRight, BitVec.getLsbD_sshiftRight, hf]
    by_cases h63 : i = 63
    · subst h63
      by_cases hn : n + 1 + 63 < 64
      · omega
      · simp [hn]
    · have h1 : i < 63 := by omega
      have a1 : decide (64 ≤ 1 + i) = false := decide_eq_false (by omega)
      have a2 : decide (64 ≤ i) = false := decide_eq_false (by omega)
      have a3 : decide (i < 63) = true := decide_eq_true h1
      rw [a1, a2, a3]
      by_cases hn : n + (1 + i) < 64
      · rw [if_pos hn, if_pos (by omega), show n + 1 + i = n + (1 + i) by omega]; simp
      · rw [if_neg hn, if_neg (by omega)]; simp
theorem msb63 (a : BitVec 64) : a.getLsbD 63 = a.msb := (BitVec.msb_eq_getLsbD_last a).symm
theorem e_sra (a : BitVec 64) (n : Nat) : rgt a (SgHand.bt1 a 63) n = a.sshiftRight n := e_sar a _ (fun i => by rw [bt1_bit, msb63]) n
theorem sx_msb (a : BitVec 64) : (sx a 32).msb = a.getLsbD 31 := by rw [← msb63, sx_bit _ _ _ (by decide) (by decide) (by decide)]; rfl
theorem e_sraw (a : BitVec 64) (n : Nat) (hn : n ≤ 31) : rgt (sx (low a) 32) (SgHand.bt1 (low a) 31) n = sx ((sx a 32).sshiftRight n) 32 := by
  rw [e_sar (sx (low a) 32) _ (fun i => by rw [bt1_bit, sx_msb]) n, sx_low]
  apply BitVec.eq_of_getLsbD_eq
  intro i hi
  rw [sx_bit _ _ _ (by decide) (by decide) hi, BitVec.getLsbD_sshiftRight, BitVec.getLsbD_sshiftRight]
  have a1 : decide (64 ≤ i) = false := decide_eq_false (by omega)
  have a2 : decide (64 ≤ min i (32 - 1)) = false := decide_eq_false (by omega)
  rw [a1, a2, if_pos (show n + min i (32 - 1) < 64 by omega)]
  by_cases h : n + i < 64
  · rw [if_pos h, sx_bit _ _ _ (by decide) (by decide) h, sx_bit _ _ _ (by decide) (by decide) (by omega)]
    by_cases hi2 : i ≤ 31
    · rw [show min i (32 - 1) = i by omega]
    · rw [show min (n + i) (32 - 1) = 31 by omega, show min (n + min i (32 - 1)) (32 - 1) = 31 by omega]
  · rw [if_neg h, sx_msb, sx_bit _ _ _ (by decide) (by decide) (by omega), show min (n + min i (32 - 1)) (32 - 1) = 31 by omega]
/-- What an operator answers. -/
def dv (op : Int) (a b : BitVec 64) : BitVec 64 :=
  if op = 1 then b else if op = 22 then a + b else if op = 23 then tr (decide (a.toInt < b.toInt)) else if op = 24 then tr (decide (U a < U b)) else if op = 25 then a ^^^ b else if op = 26 then a ||| b else if op = 27 then a &&& b else if op = 28 then a <<< (b.toNat % 64) else if op = 29 then a >>> (b.toNat % 64) else if op = 30 then a.sshiftRight (b.toNat % 64) else if op = 31 then a + b else if op = 32 then a - b else if op = 33 then a <<< (b.toNat % 64) else if op = 34 then tr (decide (a.toInt < b.toInt)) else if op = 35 then tr (decide (U a < U b)) else if op = 36 then a ^^^ b else if op = 37 then a >>> (b.toNat % 64) else if op = 38 then a.sshiftRight (b.toNat % 64) else if op = 39 then a ||| b else if op = 40 then a &&& b else if op = 41 then sx (a + b) 32 else if op = 42 then sx (a <<< (b.toNat % 32)) 32 else if op = 43 then sx ((BitVec.ofNat 64 (a.toNat % 4294967296)) >>> (b.toNat % 32)) 32 else if op = 44 then sx ((sx a 32).sshiftRight (b.toNat % 32)) 32 else if op = 45 then sx (a + b) 32 else if op = 46 then sx (a - b) 32 else if op = 47 then sx (a <<< (b.toNat % 32)) 32 else if op = 48 then sx ((BitVec.ofNat 64 (a.toNat % 4294967296)) >>> (b.toNat % 32)) 32 else if op = 49 then sx ((sx a 32).sshiftRight (b.toNat % 32)) 32 else if op = 50 then a * b else if op = 51 then mh a.toInt b.toInt else if op = 52 then mh a.toInt (U b) else if op = 53 then mh (U a) (U b) else if op = 54 then qs a b else if op = 55 then qu a b else if op = 56 then rs a b else if op = 57 then ru a b else if op = 58 then sx (a * b) 32 else if op = 59 then sx (qs (sx a 32) (sx b 32)) 32 else if op = 60 then sx (qu (BitVec.ofNat 64 (a.toNat % 4294967296)) (BitVec.ofNat 64 (b.toNat % 4294967296))) 32 else if op = 61 then sx (rs (sx a 32) (sx b 32)) 32 else if op = 62 then sx (ru (BitVec.ofNat 64 (a.toNat % 4294967296)) (BitVec.ofNat 64 (b.toNat % 4294967296))) 32 else 0#64
/-- Does it reckon? -/
def kn (op : Int) : Bool := op == 1 || op == 22 || op == 23 || op == 24 || op == 25 || op == 26 || op == 27 || op == 28 || op == 29 || op == 30 || op == 31 || op == 32 || op == 33 || op == 34 || op == 35 || op == 36 || op == 37 || op == 38 || op == 39 || op == 40 || op == 41 || op == 42 || op == 43 || op == 44 || op == 45 || op == 46 || op == 47 || op == 48 || op == 49 || op == 50 || op == 51 || op == 52 || op == 53 || op == 54 || op == 55 || op == 56 || op == 57 || op == 58 || op == 59 || op == 60 || op == 61 || op == 62
theorem ret2_same {x y : BitVec 64} {p q : Bool} (h : x = y) (hp : p = q) : Ending.returned (.tuple #[.int .u64 (U x), .bool p]) = .returned (.tuple #[.int .u64 (U y), .bool q]) := by rw [h, hp]
theorem dv_1 (a b : BitVec 64) : dv 1 a b = b := rfl
theorem dv_22 (a b : BitVec 64) : dv 22 a b = a + b := rfl
theorem dv_23 (a b : BitVec 64) : dv 23 a b = tr (decide (a.toInt < b.toInt)) := rfl
theorem dv_24 (a b : BitVec 64) : dv 24 a b = tr (decide (U a < U b)) := rfl
theorem dv_25 (a b : BitVec 64) : dv 25 a b = a ^^^ b := rfl
theorem dv_26 (a b : BitVec 64) : dv 26 a b = a ||| b := rfl
theorem dv_27 (a b : BitVec 64) : dv 27 a b = a &&& b := rfl
theorem dv_28 (a b : BitVec 64) : dv 28 a b = a <<< (b.toNat % 64) := rfl
theorem dv_29 (a b : BitVec 64) : dv 29 a b = a >>> (b.toNat % 64) := rfl
theorem dv_30 (a b : BitVec 64) : dv 30 a b = a.sshiftRight (b.toNat % 64) := rfl
theorem dv_31 (a b : BitVec 64) : dv 31 a b = a + b := rfl
theorem dv_32 (a b : BitVec 64) : dv 32 a b = a - b := rfl
theorem dv_33 (a b : BitVec 64) : dv 33 a b = a <<< (b.toNat % 64) := rfl
theorem dv_34 (a b : BitVec 64) : dv 34 a b = tr (decide (a.toInt < b.toInt)) := rfl
theorem dv_35 (a b : BitVec 64) : dv 35 a b = tr (decide (U a < U b)) := rfl
theorem dv_36 (a b : BitVec 64) : dv 36 a b = a ^^^ b := rfl
theorem dv_37 (a b : BitVec 64) : dv 37 a b = a >>> (b.toNat % 64) := rfl
theorem dv_38 (a b : BitVec 64) : dv 38 a b = a.sshiftRight (b.toNat % 64) := rfl
theorem dv_39 (a b : BitVec 64) : dv 39 a b = a ||| b := rfl
theorem dv_40 (a b : BitVec 64) : dv 40 a b = a &&& b := rfl
theorem dv_41 (a b : BitVec 64) : dv 41 a b = sx (a + b) 32 := rfl
theorem dv_42 (a b : BitVec 64) : dv 42 a b = sx (a <<< (b.toNat % 32)) 32 := rfl
theorem dv_43 (a b : BitVec 64) : dv 43 a b = sx ((BitVec.ofNat 64 (a.toNat % 4294967296)) >>> (b.toNat % 32)) 32 := rfl
theorem dv_44 (a b : BitVec 64) : dv 44 a b = sx ((sx a 32).sshiftRight (b.toNat % 32)) 32 := rfl
theorem dv_45 (a b : BitVec 64) : dv 45 a b = sx (a + b) 32 := rfl
theorem dv_46 (a b : BitVec 64) : dv 46 a b = sx (a - b) 32 := rfl
theorem dv_47 (a b : BitVec 64) : dv 47 a b = sx (a <<< (b.toNat % 32)) 32 := rfl
theorem dv_48 (a b : BitVec 64) : dv 48 a b = sx ((BitVec.ofNat 64 (a.toNat % 4294967296)) >>> (b.toNat % 32)) 32 := rfl
theorem dv_49 (a b : BitVec 64) : dv 49 a b = sx ((sx a 32).sshiftRight (b.toNat % 32)) 32 := rfl
theorem dv_50 (a b : BitVec 64) : dv 50 a b = a * b := rfl
theorem dv_51 (a b : BitVec 64) : dv 51 a b = mh a.toInt b.toInt := rfl
theorem dv_52 (a b : BitVec 64) : dv 52 a b = mh a.toInt (U b) := rfl
theorem dv_53 (a b : BitVec 64) : dv 53 a b = mh (U a) (U b) := rfl
theorem dv_54 (a b : BitVec 64) : dv 54 a b = qs a b := rfl
theorem dv_55 (a b : BitVec 64) : dv 55 a b = qu a b := rfl
theorem dv_56 (a b : BitVec 64) : dv 56 a b = rs a b := rfl
theorem dv_57 (a b : BitVec 64) : dv 57 a b = ru a b := rfl
theorem dv_58 (a b : BitVec 64) : dv 58 a b = sx (a * b) 32 := rfl
theorem dv_59 (a b : BitVec 64) : dv 59 a b = sx (qs (sx a 32) (sx b 32)) 32 := rfl
theorem dv_60 (a b : BitVec 64) : dv 60 a b = sx (qu (BitVec.ofNat 64 (a.toNat % 4294967296)) (BitVec.ofNat 64 (b.toNat % 4294967296))) 32 := rfl
theorem dv_61 (a b : BitVec 64) : dv 61 a b = sx (rs (sx a 32) (sx b 32)) 32 := rfl
theorem dv_62 (a b : BitVec 64) : dv 62 a b = sx (ru (BitVec.ofNat 64 (a.toNat % 4294967296)) (BitVec.ofNat 64 (b.toNat % 4294967296))) 32 := rfl
theorem kn_none (op : Int) (h1 : ¬ op = 1) (h22 : ¬ op = 22) (h23 : ¬ op = 23) (h24 : ¬ op = 24) (h25 : ¬ op = 25) (h26 : ¬ op = 26) (h27 : ¬ op = 27) (h28 : ¬ op = 28) (h29 : ¬ op = 29) (h30 : ¬ op = 30) (h31 : ¬ op = 31) (h32 : ¬ op = 32) (h33 : ¬ op = 33) (h34 : ¬ op = 34) (h35 : ¬ op = 35) (h36 : ¬ op = 36) (h37 : ¬ op = 37) (h38 : ¬ op = 38) (h39 : ¬ op = 39) (h40 : ¬ op = 40) (h41 : ¬ op = 41) (h42 : ¬ op = 42) (h43 : ¬ op = 43) (h44 : ¬ op = 44) (h45 : ¬ op = 45) (h46 : ¬ op = 46) (h47 : ¬ op = 47) (h48 : ¬ op = 48) (h49 : ¬ op = 49) (h50 : ¬ op = 50) (h51 : ¬ op = 51) (h52 : ¬ op = 52) (h53 : ¬ op = 53) (h54 : ¬ op = 54) (h55 : ¬ op = 55) (h56 : ¬ op = 56) (h57 : ¬ op = 57) (h58 : ¬ op = 58) (h59 : ¬ op = 59) (h60 : ¬ op = 60) (h61 : ¬ op = 61) (h62 : ¬ op = 62) : kn op = false := by
  unfold kn
  simp only [beq_eq_false_iff_ne.2 h1, beq_eq_false_iff_ne.2 h22, beq_eq_false_iff_ne.2 h23, beq_eq_false_iff_ne.2 h24, beq_eq_false_iff_ne.2 h25, beq_eq_false_iff_ne.2 h26, beq_eq_false_iff_ne.2 h27, beq_eq_false_iff_ne.2 h28, beq_eq_false_iff_ne.2 h29, beq_eq_false_iff_ne.2 h30, beq_eq_false_iff_ne.2 h31, beq_eq_false_iff_ne.2 h32, beq_eq_false_iff_ne.2 h33, beq_eq_false_iff_ne.2 h34, beq_eq_false_iff_ne.2 h35, beq_eq_false_iff_ne.2 h36, beq_eq_false_iff_ne.2 h37, beq_eq_false_iff_ne.2 h38, beq_eq_false_iff_ne.2 h39, beq_eq_false_iff_ne.2 h40, beq_eq_false_iff_ne.2 h41, beq_eq_false_iff_ne.2 h42, beq_eq_false_iff_ne.2 h43, beq_eq_false_iff_ne.2 h44, beq_eq_false_iff_ne.2 h45, beq_eq_false_iff_ne.2 h46, beq_eq_false_iff_ne.2 h47, beq_eq_false_iff_ne.2 h48, beq_eq_false_iff_ne.2 h49, beq_eq_false_iff_ne.2 h50, beq_eq_false_iff_ne.2 h51, beq_eq_false_iff_ne.2 h52, beq_eq_false_iff_ne.2 h53, beq_eq_false_iff_ne.2 h54, beq_eq_false_iff_ne.2 h55, beq_eq_false_iff_ne.2 h56, beq_eq_false_iff_ne.2 h57, beq_eq_false_iff_ne.2 h58, beq_eq_false_iff_ne.2 h59, beq_eq_false_iff_ne.2 h60, beq_eq_false_iff_ne.2 h61, beq_eq_false_iff_ne.2 h62, Bool.or_false]
theorem dv_none (op : Int) (a b : BitVec 64) (h1 : ¬ op = 1) (h22 : ¬ op = 22) (h23 : ¬ op = 23) (h24 : ¬ op = 24) (h25 : ¬ op = 25) (h26 : ¬ op = 26) (h27 : ¬ op = 27) (h28 : ¬ op = 28) (h29 : ¬ op = 29) (h30 : ¬ op = 30) (h31 : ¬ op = 31) (h32 : ¬ op = 32) (h33 : ¬ op = 33) (h34 : ¬ op = 34) (h35 : ¬ op = 35) (h36 : ¬ op = 36) (h37 : ¬ op = 37) (h38 : ¬ op = 38) (h39 : ¬ op = 39) (h40 : ¬ op = 40) (h41 : ¬ op = 41) (h42 : ¬ op = 42) (h43 : ¬ op = 43) (h44 : ¬ op = 44) (h45 : ¬ op = 45) (h46 : ¬ op = 46) (h47 : ¬ op = 47) (h48 : ¬ op = 48) (h49 : ¬ op = 49) (h50 : ¬ op = 50) (h51 : ¬ op = 51) (h52 : ¬ op = 52) (h53 : ¬ op = 53) (h54 : ¬ op = 54) (h55 : ¬ op = 55) (h56 : ¬ op = 56) (h57 : ¬ op = 57) (h58 : ¬ op = 58) (h59 : ¬ op = 59) (h60 : ¬ op = 60) (h61 : ¬ op = 61) (h62 : ¬ op = 62) : dv op a b = 0#64 := by
  unfold dv
  rw [if_neg h1, if_neg h22, if_neg h23, if_neg h24, if_neg h25, if_neg h26, if_neg h27, if_neg h28, if_neg h29, if_neg h30, if_neg h31, if_neg h32, if_neg h33, if_neg h34, if_neg h35, if_neg h36, if_neg h37, if_neg h38, if_neg h39, if_neg h40, if_neg h41, if_neg h42, if_neg h43, if_neg h44, if_neg h45, if_neg h46, if_neg h47, if_neg h48, if_neg h49, if_neg h50, if_neg h51, if_neg h52, if_neg h53, if_neg h54, if_neg h55, if_neg h56, if_neg h57, if_neg h58, if_neg h59, if_neg h60, if_neg h61, if_neg h62]
set_option maxHeartbeats 4000000 in
theorem do_none (op : Int) (a b : BitVec 64) (h1 : ¬ op = 1) (h22 : ¬ op = 22) (h23 : ¬ op = 23) (h24 : ¬ op = 24) (h25 : ¬ op = 25) (h26 : ¬ op = 26) (h27 : ¬ op = 27) (h28 : ¬ op = 28) (h29 : ¬ op = 29) (h30 : ¬ op = 30) (h31 : ¬ op = 31) (h32 : ¬ op = 32) (h33 : ¬ op = 33) (h34 : ¬ op = 34) (h35 : ¬ op = 35) (h36 : ¬ op = 36) (h37 : ¬ op = 37) (h38 : ¬ op = 38) (h39 : ¬ op = 39) (h40 : ¬ op = 40) (h41 : ¬ op = 41) (h42 : ¬ op = 42) (h43 : ¬ op = 43) (h44 : ¬ op = 44) (h45 : ¬ op = 45) (h46 : ¬ op = 46) (h47 : ¬ op = 47) (h48 : ¬ op = 48) (h49 : ¬ op = 49) (h50 : ¬ op = 50) (h51 : ¬ op = 51) (h52 : ¬ op = 52) (h53 : ¬ op = 53) (h54 : ¬ op = 54) (h55 : ¬ op = 55) (h56 : ¬ op = 56) (h57 : ¬ op = 57) (h58 : ¬ op = 58) (h59 : ¬ op = 59) (h60 : ¬ op = 60) (h61 : ¬ op = 61) (h62 : ¬ op = 62) (w : World) : Calls Try.prog 33 #[.int .i64 op, .int .u64 (U a), .int .u64 (U b)] w fun e w' => e = .returned (.tuple #[.int .u64 0, .bool false]) ∧ Drawn0 w w' := by
  have t1 : (op == 1) = false := beq_eq_false_iff_ne.2 h1
  have t22 : (op == 22) = false := beq_eq_false_iff_ne.2 h22
  have t23 : (op == 23) = false := beq_eq_false_iff_ne.2 h23
  have t24 : (op == 24) = false := beq_eq_false_iff_ne.2 h24
  have t25 : (op == 25) = false := beq_eq_false_iff_ne.2 h25
  have t26 : (op == 26) = false := beq_eq_false_iff_ne.2 h26
  have t27 : (op == 27) = false := beq_eq_false_iff_ne.2 h27
  have t28 : (op == 28) = false := beq_eq_false_iff_ne.2 h28
  have t29 : (op == 29) = false := beq_eq_false_iff_ne.2 h29
  have t30 : (op == 30) = false := beq_eq_false_iff_ne.2 h30
  have t31 : (op == 31) = false := beq_eq_false_iff_ne.2 h31
  have t32 : (op == 32) = false := beq_eq_false_iff_ne.2 h32
  have t33 : (op == 33) = false := beq_eq_false_iff_ne.2 h33
  have t34 : (op == 34) = false := beq_eq_false_iff_ne.2 h34
  have t35 : (op == 35) = false := beq_eq_false_iff_ne.2 h35
  have t36 : (op == 36) = false := beq_eq_false_iff_ne.2 h36
  have t37 : (op == 37) = false := beq_eq_false_iff_ne.2 h37
  have t38 : (op == 38) = false := beq_eq_false_iff_ne.2 h38
  have t39 : (op == 39) = false := beq_eq_false_iff_ne.2 h39
  have t40 : (op == 40) = false := beq_eq_false_iff_ne.2 h40
  have t41 : (op == 41) = false := beq_eq_false_iff_ne.2 h41
  have t42 : (op == 42) = false := beq_eq_false_iff_ne.2 h42
  have t43 : (op == 43) = false := beq_eq_false_iff_ne.2 h43
  have t44 : (op == 44) = false := beq_eq_false_iff_ne.2 h44
  have t45 : (op == 45) = false := beq_eq_false_iff_ne.2 h45
  have t46 : (op == 46) = false := beq_eq_false_iff_ne.2 h46
  have t47 : (op == 47) = false := beq_eq_false_iff_ne.2 h47
  have t48 : (op == 48) = false := beq_eq_false_iff_ne.2 h48
  have t49 : (op == 49) = false := beq_eq_false_iff_ne.2 h49
  have t50 : (op == 50) = false := beq_eq_false_iff_ne.2 h50
  have t51 : (op == 51) = false := beq_eq_false_iff_ne.2 h51
  have t52 : (op == 52) = false := beq_eq_false_iff_ne.2 h52
  have t53 : (op == 53) = false := beq_eq_false_iff_ne.2 h53
  have t54 : (op == 54) = false := beq_eq_false_iff_ne.2 h54
  have t55 : (op == 55) = false := beq_eq_false_iff_ne.2 h55
  have t56 : (op == 56) = false := beq_eq_false_iff_ne.2 h56
  have t57 : (op == 57) = false := beq_eq_false_iff_ne.2 h57
  have t58 : (op == 58) = false := beq_eq_false_iff_ne.2 h58
  have t59 : (op == 59) = false := beq_eq_false_iff_ne.2 h59
  have t60 : (op == 60) = false := beq_eq_false_iff_ne.2 h60
  have t61 : (op == 61) = false := beq_eq_false_iff_ne.2 h61
  have t62 : (op == 62) = false := beq_eq_false_iff_ne.2 h62
  clear h1 h22 h23 h24 h25 h26 h27 h28 h29 h30 h31 h32 h33 h34 h35 h36 h37 h38 h39 h40 h41 h42 h43 h44 h45 h46 h47 h48 h49 h50 h51 h52 h53 h54 h55 h56 h57 h58 h59 h60 h61 h62
  go_enter Try.func33, Try.ntmps33
  go_wp2_with (first | (go_at_call 15; refine (c_sext32 _ _).mono ?_; rintro e w' ⟨rfl, ⟨m2, rfl⟩⟩) | go_in)
  go_ret2
  exact ⟨rfl, by repeat (first | exact Drawn0.refl _ | apply Drawn0.step)⟩
set_option maxHeartbeats 4000000 in
theorem rdo_none (op : Int) (a b : BitVec 64) (h1 : ¬ op = 1) (h22 : ¬ op = 22) (h23 : ¬ op = 23) (h24 : ¬ op = 24) (h25 : ¬ op = 25) (h26 : ¬ op = 26) (h27 : ¬ op = 27) (h28 : ¬ op = 28) (h29 : ¬ op = 29) (h30 : ¬ op = 30) (h31 : ¬ op = 31) (h32 : ¬ op = 32) (h33 : ¬ op = 33) (h34 : ¬ op = 34) (h35 : ¬ op = 35) (h36 : ¬ op = 36) (h37 : ¬ op = 37) (h38 : ¬ op = 38) (h39 : ¬ op = 39) (h40 : ¬ op = 40) (h41 : ¬ op = 41) (h42 : ¬ op = 42) (h43 : ¬ op = 43) (h44 : ¬ op = 44) (h45 : ¬ op = 45) (h46 : ¬ op = 46) (h47 : ¬ op = 47) (h48 : ¬ op = 48) (h49 : ¬ op = 49) (h50 : ¬ op = 50) (h51 : ¬ op = 51) (h52 : ¬ op = 52) (h53 : ¬ op = 53) (h54 : ¬ op = 54) (h55 : ¬ op = 55) (h56 : ¬ op = 56) (h57 : ¬ op = 57) (h58 : ¬ op = 58) (h59 : ¬ op = 59) (h60 : ¬ op = 60) (h61 : ¬ op = 61) (h62 : ¬ op = 62) (w : World) : Calls Try.prog 35 #[.int .i64 op, .int .u64 (U a), .int .u64 (U b)] w fun e w' => e = .returned (.tuple #[.int .u64 0, .bool false]) ∧ Drawn0 w w' := by
  have t1 : (op == 1) = false := beq_eq_false_iff_ne.2 h1
  have t22 : (op == 22) = false := beq_eq_false_iff_ne.2 h22
  have t23 : (op == 23) = false := beq_eq_false_iff_ne.2 h23
  have t24 : (op == 24) = false := beq_eq_false_iff_ne.2 h24
  have t25 : (op == 25) = false := beq_eq_false_iff_ne.2 h25
  have t26 : (op == 26) = false := beq_eq_false_iff_ne.2 h26
  have t27 : (op == 27) = false := beq_eq_false_iff_ne.2 h27
  have t28 : (op == 28) = false := beq_eq_false_iff_ne.2 h28
  have t29 : (op == 29) = false := beq_eq_false_iff_ne.2 h29
  have t30 : (op == 30) = false := beq_eq_false_iff_ne.2 h30
  have t31 : (op == 31) = false := beq_eq_false_iff_ne.2 h31
  have t32 : (op == 32) = false := beq_eq_false_iff_ne.2 h32
  have t33 : (op == 33) = false := beq_eq_false_iff_ne.2 h33
  have t34 : (op == 34) = false := beq_eq_false_iff_ne.2 h34
  have t35 : (op == 35) = false := beq_eq_false_iff_ne.2 h35
  have t36 : (op == 36) = false := beq_eq_false_iff_ne.2 h36
  have t37 : (op == 37) = false := beq_eq_false_iff_ne.2 h37
  have t38 : (op == 38) = false := beq_eq_false_iff_ne.2 h38
  have t39 : (op == 39) = false := beq_eq_false_iff_ne.2 h39
  have t40 : (op == 40) = false := beq_eq_false_iff_ne.2 h40
  have t41 : (op == 41) = false := beq_eq_false_iff_ne.2 h41
  have t42 : (op == 42) = false := beq_eq_false_iff_ne.2 h42
  have t43 : (op == 43) = false := beq_eq_false_iff_ne.2 h43
  have t44 : (op == 44) = false := beq_eq_false_iff_ne.2 h44
  have t45 : (op == 45) = false := beq_eq_false_iff_ne.2 h45
  have t46 : (op == 46) = false := beq_eq_false_iff_ne.2 h46
  have t47 : (op == 47) = false := beq_eq_false_iff_ne.2 h47
  have t48 : (op == 48) = false := beq_eq_false_iff_ne.2 h48
  have t49 : (op == 49) = false := beq_eq_false_iff_ne.2 h49
  have t50 : (op == 50) = false := beq_eq_false_iff_ne.2 h50
  have t51 : (op == 51) = false := beq_eq_false_iff_ne.2 h51
  have t52 : (op == 52) = false := beq_eq_false_iff_ne.2 h52
  have t53 : (op == 53) = false := beq_eq_false_iff_ne.2 h53
  have t54 : (op == 54) = false := beq_eq_false_iff_ne.2 h54
  have t55 : (op == 55) = false := beq_eq_false_iff_ne.2 h55
  have t56 : (op == 56) = false := beq_eq_false_iff_ne.2 h56
  have t57 : (op == 57) = false := beq_eq_false_iff_ne.2 h57
  have t58 : (op == 58) = false := beq_eq_false_iff_ne.2 h58
  have t59 : (op == 59) = false := beq_eq_false_iff_ne.2 h59
  have t60 : (op == 60) = false := beq_eq_false_iff_ne.2 h60
  have t61 : (op == 61) = false := beq_eq_false_iff_ne.2 h61
  have t62 : (op == 62) = false := beq_eq_false_iff_ne.2 h62
  clear h1 h22 h23 h24 h25 h26 h27 h28 h29 h30 h31 h32 h33 h34 h35 h36 h37 h38 h39 h40 h41 h42 h43 h44 h45 h46 h47 h48 h49 h50 h51 h52 h53 h54 h55 h56 h57 h58 h59 h60 h61 h62
  go_enter Try.func35, Try.ntmps35
  go_wp2_with (first | go_in)
  go_ret2
  exact ⟨rfl, by repeat (first | exact Drawn0.refl _ | apply Drawn0.step)⟩
theorem do_any (op : Int) (a b : BitVec 64) (w : World) : Calls Try.prog 33 #[.int .i64 op, .int .u64 (U a), .int .u64 (U b)] w fun e w' => e = .returned (.tuple #[.int .u64 (U (dv op a b)), .bool (kn op)]) ∧ Drawn0 w w' := by
  by_cases h1 : op = 1
  · subst h1; exact do_1 a b w
  by_cases h22 : op = 22
  · subst h22; exact do_22 a b w
  by_cases h23 : op = 23
  · subst h23; exact do_23 a b w
  by_cases h24 : op = 24
  · subst h24; exact do_24 a b w
  by_cases h25 : op = 25
  · subst h25; exact do_25 a b w
  by_cases h26 : op = 26
  · subst h26; exact do_26 a b w
  by_cases h27 : op = 27
  · subst h27; exact do_27 a b w
  by_cases h28 : op = 28
  · subst h28; exact do_28 a b w
  by_cases h29 : op = 29
  · subst h29; exact do_29 a b w
  by_cases h30 : op = 30
  · subst h30; exact do_30 a b w
  by_cases h31 : op = 31
  · subst h31; exact do_31 a b w
  by_cases h32 : op = 32
  · subst h32; exact do_32 a b w
  by_cases h33 : op = 33
  · subst h33; exact do_33 a b w
  by_cases h34 : op = 34
  · subst h34; exact do_34 a b w
  by_cases h35 : op = 35
  · subst h35; exact do_35 a b w
  by_cases h36 : op = 36
  · subst h36; exact do_36 a b w
  by_cases h37 : op = 37
  · subst h37; exact do_37 a b w
  by_cases h38 : op = 38
  · subst h38; exact do_38 a b w
  by_cases h39 : op = 39
  · subst h39; exact do_39 a b w
  by_cases h40 : op = 40
  · subst h40; exact do_40 a b w
  by_cases h41 : op = 41
  · subst h41; exact do_41 a b w
  by_cases h42 : op = 42
  · subst h42; exact do_42 a b w
  by_cases h43 : op = 43
  · subst h43; exact do_43 a b w
  by_cases h44 : op = 44
  · subst h44; exact do_44 a b w
  by_cases h45 : op = 45
  · subst h45; exact do_45 a b w
  by_cases h46 : op = 46
  · subst h46; exact do_46 a b w
  by_cases h47 : op = 47
  · subst h47; exact do_47 a b w
  by_cases h48 : op = 48
  · subst h48; exact do_48 a b w
  by_cases h49 : op = 49
  · subst h49; exact do_49 a b w
  by_cases h50 : op = 50
  · subst h50; exact do_50 a b w
  by_cases h51 : op = 51
  · subst h51; exact do_51 a b w
  by_cases h52 : op = 52
  · subst h52; exact do_52 a b w
  by_cases h53 : op = 53
  · subst h53; exact do_53 a b w
  by_cases h54 : op = 54
  · subst h54; exact do_54 a b w
  by_cases h55 : op = 55
  · subst h55; exact do_55 a b w
  by_cases h56 : op = 56
  · subst h56; exact do_56 a b w
  by_cases h57 : op = 57
  · subst h57; exact do_57 a b w
  by_cases h58 : op = 58
  · subst h58; exact do_58 a b w
  by_cases h59 : op = 59
  · subst h59; exact do_59 a b w
  by_cases h60 : op = 60
  · subst h60; exact do_60 a b w
  by_cases h61 : op = 61
  · subst h61; exact do_61 a b w
  by_cases h62 : op = 62
  · subst h62; exact do_62 a b w
  rw [kn_none op h1 h22 h23 h24 h25 h26 h27 h28 h29 h30 h31 h32 h33 h34 h35 h36 h37 h38 h39 h40 h41 h42 h43 h44 h45 h46 h47 h48 h49 h50 h51 h52 h53 h54 h55 h56 h57 h58 h59 h60 h61 h62, dv_none op a b h1 h22 h23 h24 h25 h26 h27 h28 h29 h30 h31 h32 h33 h34 h35 h36 h37 h38 h39 h40 h41 h42 h43 h44 h45 h46 h47 h48 h49 h50 h51 h52 h53 h54 h55 h56 h57 h58 h59 h60 h61 h62]
  exact do_none op a b h1 h22 h23 h24 h25 h26 h27 h28 h29 h30 h31 h32 h33 h34 h35 h36 h37 h38 h39 h40 h41 h42 h43 h44 h45 h46 h47 h48 h49 h50 h51 h52 h53 h54 h55 h56 h57 h58 h59 h60 h61 h62 w
theorem rdo_any (op : Int) (a b : BitVec 64) (w : World) : Calls Try.prog 35 #[.int .i64 op, .int .u64 (U a), .int .u64 (U b)] w fun e w' => e = .returned (.tuple #[.int .u64 (U (dv op a b)), .bool (kn op)]) ∧ Drawn0 w w' := by
  by_cases h1 : op = 1
  · subst h1; exact rdo_1 a b w
  by_cases h22 : op = 22
  · subst h22; exact rdo_22 a b w
  by_cases h23 : op = 23
  · subst h23; exact rdo_23 a b w
  by_cases h24 : op = 24
  · subst h24; exact rdo_24 a b w
  by_cases h25 : op = 25
  · subst h25; exact rdo_25 a b w
  by_cases h26 : op = 26
  · subst h26; exact rdo_26 a b w
  by_cases h27 : op = 27
  · subst h27; exact rdo_27 a b w
  by_cases h28 : op = 28
  · subst h28; exact rdo_28 a b w
  by_cases h29 : op = 29
  · subst h29; have h := rdo_29 a b w; rw [e_shr a _] at h; exact h
  by_cases h30 : op = 30
  · subst h30; have h := rdo_30 a b w; rw [e_sra a _] at h; exact h
  by_cases h31 : op = 31
  · subst h31; exact rdo_31 a b w
  by_cases h32 : op = 32
  · subst h32; exact rdo_32 a b w
  by_cases h33 : op = 33
  · subst h33; exact rdo_33 a b w
  by_cases h34 : op = 34
  · subst h34; exact rdo_34 a b w
  by_cases h35 : op = 35
  · subst h35; exact rdo_35 a b w
  by_cases h36 : op = 36
  · subst h36; exact rdo_36 a b w
  by_cases h37 : op = 37
  · subst h37; have h := rdo_37 a b w; rw [e_shr a _] at h; exact h
  by_cases h38 : op = 38
  · subst h38; have h := rdo_38 a b w; rw [e_sra a _] at h; exact h
  by_cases h39 : op = 39
  · subst h39; exact rdo_39 a b w
  by_cases h40 : op = 40
  · subst h40; exact rdo_40 a b w
  by_cases h41 : op = 41
  · subst h41; have h := rdo_41 a b w; rw [e_add a b] at h; exact h
  by_cases h42 : op = 42
  · subst h42; have h := rdo_42 a b w; rw [e_shl a _] at h; exact h
  by_cases h43 : op = 43
  · subst h43; exact rdo_43 a b w
  by_cases h44 : op = 44
  · subst h44; have h := rdo_44 a b w; rw [e_sraw a _ (by omega)] at h; exact h
  by_cases h45 : op = 45
  · subst h45; have h := rdo_45 a b w; rw [e_add a b] at h; exact h
  by_cases h46 : op = 46
  · subst h46; have h := rdo_46 a b w; rw [e_sub a b] at h; exact h
  by_cases h47 : op = 47
  · subst h47; have h := rdo_47 a b w; rw [e_shl a _] at h; exact h
  by_cases h48 : op = 48
  · subst h48; exact rdo_48 a b w
  by_cases h49 : op = 49
  · subst h49; have h := rdo_49 a b w; rw [e_sraw a _ (by omega)] at h; exact h
  by_cases h50 : op = 50
  · subst h50; exact rdo_50 a b w
  by_cases h51 : op = 51
  · subst h51; exact rdo_51 a b w
  by_cases h52 : op = 52
  · subst h52; exact rdo_52 a b w
  by_cases h53 : op = 53
  · subst h53; exact rdo_53 a b w
  by_cases h54 : op = 54
  · subst h54; exact rdo_54 a b w
  by_cases h55 : op = 55
  · subst h55; exact rdo_55 a b w
  by_cases h56 : op = 56
  · subst h56; exact rdo_56 a b w
  by_cases h57 : op = 57
  · subst h57; exact rdo_57 a b w
  by_cases h58 : op = 58
  · subst h58; have h := rdo_58 a b w; rw [e_mul a b] at h; exact h
  by_cases h59 : op = 59
  · subst h59; have h := rdo_59 a b w; rw [sx_low, sx_low] at h; exact h
  by_cases h60 : op = 60
  · subst h60; exact rdo_60 a b w
  by_cases h61 : op = 61
  · subst h61; have h := rdo_61 a b w; rw [sx_low, sx_low] at h; exact h
  by_cases h62 : op = 62
  · subst h62; exact rdo_62 a b w
  rw [kn_none op h1 h22 h23 h24 h25 h26 h27 h28 h29 h30 h31 h32 h33 h34 h35 h36 h37 h38 h39 h40 h41 h42 h43 h44 h45 h46 h47 h48 h49 h50 h51 h52 h53 h54 h55 h56 h57 h58 h59 h60 h61 h62, dv_none op a b h1 h22 h23 h24 h25 h26 h27 h28 h29 h30 h31 h32 h33 h34 h35 h36 h37 h38 h39 h40 h41 h42 h43 h44 h45 h46 h47 h48 h49 h50 h51 h52 h53 h54 h55 h56 h57 h58 h59 h60 h61 h62]
  exact rdo_none op a b h1 h22 h23 h24 h25 h26 h27 h28 h29 h30 h31 h32 h33 h34 h35 h36 h37 h38 h39 h40 h41 h42 h43 h44 h45 h46 h47 h48 h49 h50 h51 h52 h53 h54 h55 h56 h57 h58 h59 h60 h61 h62 w
theorem known_any (op : Int) (w : World) : Calls Try.prog 36 #[.int .i64 op] w fun e w' => e = .returned (.bool (kn op)) ∧ Drawn0 w w' := by
  have h : Calls Try.prog 33 #[.int .i64 op, .int .u64 0, .int .u64 1] w fun e w' => e = .returned (.tuple #[.int .u64 (U (dv op 0#64 1#64)), .bool (kn op)]) ∧ Drawn0 w w' := do_any op 0#64 1#64 w
  have HH := Lib.hid h
  clear h
  go_enter Try.func36, Try.ntmps36
  go_wp2_with fail
  refine HH.out.mono ?_
  rintro e w1 ⟨rfl, ⟨m1, rfl⟩⟩
  go_wp2_with fail
  go_ret
  exact ⟨rfl, by repeat (first | exact Drawn0.refl _ | apply Drawn0.step)⟩
theorem answers_any (w : World) : Calls Try.prog 34 #[] w fun e w' => e = .returned (.bool true) ∧ Drawn0 w w' := by
  have h : Calls Try.prog 33 #[.int .i64 31, .int .u64 2, .int .u64 3] w fun e w' => e = .returned (.tuple #[.int .u64 5, .bool true]) ∧ Drawn0 w w' := do_31 2#64 3#64 w
  have HH := Lib.hid h
  clear h
  go_enter Try.func34, Try.ntmps34
  go_wp2_with fail
  refine HH.out.mono ?_
  rintro e w1 ⟨rfl, ⟨m1, rfl⟩⟩
  go_wp2_with fail
  go_ret
  exact ⟨rfl, by repeat (first | exact Drawn0.refl _ | apply Drawn0.step)⟩
theorem does_law (op : Int) (a b : BitVec 64) (w : World) : Calls Try.prog 12 #[.int .i64 op, .int .u64 (U a), .int .u64 (U b)] w fun e w' => e = .returned (.bool true) ∧ Drawn0 w w' := by
  have h1 := Lib.hid (do_any op a b)
  have h2 := Lib.hid (rdo_any op a b)
  have h3 := Lib.hid (known_any op)
  generalize dv op a b = d at *
  generalize kn op = p at *
  go_enter Try.func12, Try.ntmps12
  go_wp2_with fail
  refine (h1.out _).mono ?_; rintro e w' ⟨rfl, ⟨m1, rfl⟩⟩
  go_wp2_with fail
  refine (h2.out _).mono ?_; rintro e w' ⟨rfl, ⟨m2, rfl⟩⟩
  go_wp2_with fail
  refine (answers_any _).mono ?_; rintro e w' ⟨rfl, ⟨m3, rfl⟩⟩
  go_wp2_with fail
  refine (h3.out _).mono ?_; rintro e w' ⟨rfl, ⟨m4, rfl⟩⟩
  go_wp2_with fail
  go_ret
  exact ⟨rfl, by repeat (first | exact Drawn0.refl _ | apply Drawn0.step)⟩
theorem does_walk (a0 a1 a2 : Int) (W : World) (_ : (Lit.int .i64 a0).wf = true) (w1 : (Lit.int .u64 a1).wf = true) (w2 : (Lit.int .u64 a2).wf = true) :
    Calls Try.prog 12 #[.int .i64 a0, .int .u64 a1, .int .u64 a2] W fun e w' => e = .returned (.bool true) ∧ Below W.heap.size W w' := by
  obtain ⟨x, rfl⟩ := ex_U (Go.bounds_u64 w1).1 (Go.bounds_u64 w1).2
  obtain ⟨y, rfl⟩ := ex_U (Go.bounds_u64 w2).1 (Go.bounds_u64 w2).2
  exact (does_law a0 x y W).mono fun _ _ h => ⟨h.1, h.2.below⟩
end Go.Proofs.Ytdjgjedmbgnjbaa.Alu
