/- The law AluHalves, walked out of alu.Do at its operators. No further condition. -/
import Derived.Test.YtdjgjedmbgnjbaaAluL
namespace Go.Proofs.Ytdjgjedmbgnjbaa.Alu
open Go Go.RowKit Go.Proofs.YtdjgjedmbgnjbaaW.PrintWords Go.Proofs.YtdjgjedmbgnjbaaW.PrintLast Go.Proofs.YtdjgjedmbgnjbaaW.PrintMore
open Go.Proofs.Ytdjgjedmbgnjbaa.Bv
set_option linter.unusedVariables false
set_option linter.unusedSimpArgs false
theorem wlow {x y : BitVec 64} (h : low x = low y) : x.setWidth 32 = y.setWidth 32 := by rw [← low_width x, ← low_width y, h]
theorem idem (x : BitVec 64) : sx (sx x 32) 32 = sx x 32 := sx_sx x 32 32 (by decide) (by decide) (by decide) (by decide)
/-- The operators of 32 bits. -/
def hl : List Int := [45, 46, 47, 48, 49, 58, 59, 60, 61, 62, 41, 42, 43, 44]
theorem halves_core (k : Int) (hk : k ∈ hl) (a b c d : BitVec 64) (h1 : low c = low a) (h2 : low d = low b) : dv k c d = dv k a b ∧ sx (dv k a b) 32 = dv k a b := by
  have e1 : sx c 32 = sx a 32 := sx_congr (wlow h1)
  have e2 : sx d 32 = sx b 32 := sx_congr (wlow h2)
  have e3 : d.toNat % 32 = b.toNat % 32 := by
    have := congrArg BitVec.toNat h2
    unfold low at this
    rw [BitVec.toNat_ofNat, BitVec.toNat_ofNat] at this
    omega
  unfold hl at hk
  simp only [List.mem_cons, List.not_mem_nil, or_false] at hk
  rcases hk with rfl | rfl | rfl | rfl | rfl | rfl | rfl | rfl | rfl | rfl | rfl | rfl | rfl | rfl
  · rw [dv_45, dv_45]; exact ⟨by rw [← e_add, ← e_add a, h1, h2], idem _⟩
  · rw [dv_46, dv_46]; exact ⟨by rw [← e_sub, ← e_sub a, h1, h2], idem _⟩
  · rw [dv_47, dv_47]; exact ⟨by rw [← e_shl, ← e_shl a, h1, e3], idem _⟩
  · rw [dv_48, dv_48]; exact ⟨by change sx (low c >>> _) 32 = sx (low a >>> _) 32; rw [h1, e3], idem _⟩
  · rw [dv_49, dv_49]; exact ⟨by rw [e1, e3], idem _⟩
  · rw [dv_58, dv_58]; exact ⟨by rw [← e_mul, ← e_mul a, h1, h2], idem _⟩
  · rw [dv_59, dv_59]; exact ⟨by rw [e1, e2], idem _⟩
  · rw [dv_60, dv_60]; exact ⟨by change sx (qu (low c) (low d)) 32 = sx (qu (low a) (low b)) 32; rw [h1, h2], idem _⟩
  · rw [dv_61, dv_61]; exact ⟨by rw [e1, e2], idem _⟩
  · rw [dv_62, dv_62]; exact ⟨by change sx (ru (low c) (low d)) 32 = sx (ru (low a) (low b)) 32; rw [h1, h2], idem _⟩
  · rw [dv_41, dv_41]; exact ⟨by rw [← e_add, ← e_add a, h1, h2], idem _⟩
  · rw [dv_42, dv_42]; exact ⟨by rw [← e_shl, ← e_shl a, h1, e3], idem _⟩
  · rw [dv_43, dv_43]; exact ⟨by change sx (low c >>> _) 32 = sx (low a >>> _) 32; rw [h1, e3], idem _⟩
  · rw [dv_44, dv_44]; exact ⟨by rw [e1, e3], idem _⟩
theorem low_up (a u : BitVec 64) : low (low a + u <<< 32) = low a := by
  apply BitVec.eq_of_toNat_eq
  unfold low
  simp only [BitVec.toNat_ofNat, BitVec.toNat_add, BitVec.toNat_shiftLeft, Nat.shiftLeft_eq]
  have := a.isLt
  have := u.isLt
  omega
/-- What an operator number picks. -/
def hm (op : Int) : Int := if op < 0 then wrap64 (-wrap64 (op + 1)) else op
theorem hm_ok (op : Int) (h0 : -9223372036854775808 ≤ op) (h1 : op ≤ 9223372036854775807) : 0 ≤ hm op := by
  unfold hm wrap64; split <;> omega
set_option maxHeartbeats 2000000 in
theorem halves_pos0 (op m : Int) (hneg : decide (op < 0) = false) (he : op.tmod 14 = 0) (h0 : 0 ≤ op) (a b u v : BitVec 64) (w : World) : Calls Try.prog 7 #[.int .i64 op, .int .u64 (U a), .int .u64 (U b), .int .u64 (U u), .int .u64 (U v)] w fun e w' => e = .returned (.bool true) ∧ Below w.heap.size w w' := by
  have hla := U_lw a
  have hlb := U_lw b
  have hu : IntKind.u64.wrap (U u * 4294967296) = U (u <<< 32) := shl_U' u 32
  have hv : IntKind.u64.wrap (U v * 4294967296) = U (v <<< 32) := shl_U' v 32
  have h2 := wrap_add (low a) (u <<< 32)
  have h3 := wrap_add (low b) (v <<< 32)
  have hc := halves_core 45 (by decide) a b (low a + u <<< 32) (low b + v <<< 32) (low_up a u) (low_up b v)
  have k1 := do_any 45 a b
  have k2 := do_any 45 (low a + u <<< 32) (low b + v <<< 32)
  have k3 := rsext32 (dv 45 a b)
  rw [hc.1] at k2
  rw [hc.2] at k3
  generalize dv 45 a b = d at *
  generalize kn 45 = y at *
  generalize low a + u <<< 32 = aa at *
  generalize low b + v <<< 32 = bb at *
  have k1 := Lib.hid k1
  have k2 := Lib.hid k2
  have k3 := Lib.hid k3
  clear hc
  go_enter Try.func7, Try.ntmps7
  go_wp2_with fail
  refine (k1.out _).mono ?_; rintro e w' ⟨rfl, ⟨m1, rfl⟩⟩
  go_wp2_with fail
  refine (k2.out _).mono ?_; rintro e w' ⟨rfl, ⟨m2, rfl⟩⟩
  go_wp2_with fail
  refine (answers_any _).mono ?_; rintro e w' ⟨rfl, ⟨m3, rfl⟩⟩
  go_wp2_with fail
  refine (k3.out _).mono ?_; rintro e w' ⟨rfl, ⟨m4, rfl⟩⟩
  go_wp2_with fail
  go_ret
  exact ⟨rfl, by repeat (first | exact Below.refl _ _ | apply below_alloc | apply pw_below_drewN | apply below_drew1)⟩
set_option maxHeartbeats 2000000 in
theorem halves_pos1 (op m : Int) (hneg : decide (op < 0) = false) (he : op.tmod 14 = 1) (h0 : 0 ≤ op) (a b u v : BitVec 64) (w : World) : Calls Try.prog 7 #[.int .i64 op, .int .u64 (U a), .int .u64 (U b), .int .u64 (U u), .int .u64 (U v)] w fun e w' => e = .returned (.bool true) ∧ Below w.heap.size w w' := by
  have hla := U_lw a
  have hlb := U_lw b
  have hu : IntKind.u64.wrap (U u * 4294967296) = U (u <<< 32) := shl_U' u 32
  have hv : IntKind.u64.wrap (U v * 4294967296) = U (v <<< 32) := shl_U' v 32
  have h2 := wrap_add (low a) (u <<< 32)
  have h3 := wrap_add (low b) (v <<< 32)
  have hc := halves_core 46 (by decide) a b (low a + u <<< 32) (low b + v <<< 32) (low_up a u) (low_up b v)
  have k1 := do_any 46 a b
  have k2 := do_any 46 (low a + u <<< 32) (low b + v <<< 32)
  have k3 := rsext32 (dv 46 a b)
  rw [hc.1] at k2
  rw [hc.2] at k3
  generalize dv 46 a b = d at *
  generalize kn 46 = y at *
  generalize low a + u <<< 32 = aa at *
  generalize low b + v <<< 32 = bb at *
  have k1 := Lib.hid k1
  have k2 := Lib.hid k2
  have k3 := Lib.hid k3
  clear hc
  go_enter Try.func7, Try.ntmps7
  go_wp2_with fail
  refine (k1.out _).mono ?_; rintro e w' ⟨rfl, ⟨m1, rfl⟩⟩
  go_wp2_with fail
  refine (k2.out _).mono ?_; rintro e w' ⟨rfl, ⟨m2, rfl⟩⟩
  go_wp2_with fail
  refine (answers_any _).mono ?_; rintro e w' ⟨rfl, ⟨m3, rfl⟩⟩
  go_wp2_with fail
  refine (k3.out _).mono ?_; rintro e w' ⟨rfl, ⟨m4, rfl⟩⟩
  go_wp2_with fail
  go_ret
  exact ⟨rfl, by repeat (first | exact Below.refl _ _ | apply below_alloc | apply pw_below_drewN | apply below_drew1)⟩
set_option maxHeartbeats 2000000 in
theorem halves_pos2 (op m : Int) (hneg : decide (op < 0) = false) (he : op.tmod 14 = 2) (h0 : 0 ≤ op) (a b u v : BitVec 64) (w : World) : Calls Try.prog 7 #[.int .i64 op, .int .u64 (U a), .int .u64 (U b), .int .u64 (U u), .int .u64 (U v)] w fun e w' => e = .returned (.bool true) ∧ Below w.heap.size w w' := by
  have hla := U_lw a
  have hlb := U_lw b
  have hu : IntKind.u64.wrap (U u * 4294967296) = U (u <<< 32) := shl_U' u 32
  have hv : IntKind.u64.wrap (U v * 4294967296) = U (v <<< 32) := shl_U' v 32
  have h2 := wrap_add (low a) (u <<< 32)
  have h3 := wrap_add (low b) (v <<< 32)
  have hc := halves_core 47 (by decide) a b (low a + u <<< 32) (low b + v <<< 32) (low_up a u) (low_up b v)
  have k1 := do_any 47 a b
  have k2 := do_any 47 (low a + u <<< 32) (low b + v <<< 32)
  have k3 := rsext32 (dv 47 a b)
  rw [hc.1] at k2
  rw [hc.2] at k3
  generalize dv 47 a b = d at *
  generalize kn 47 = y at *
  generalize low a + u <<< 32 = aa at *
  generalize low b + v <<< 32 = bb at *
  have k1 := Lib.hid k1
  have k2 := Lib.hid k2
  have k3 := Lib.hid k3
  clear hc
  go_enter Try.func7, Try.ntmps7
  go_wp2_with fail
  refine (k1.out _).mono ?_; rintro e w' ⟨rfl, ⟨m1, rfl⟩⟩
  go_wp2_with fail
  refine (k2.out _).mono ?_; rintro e w' ⟨rfl, ⟨m2, rfl⟩⟩
  go_wp2_with fail
  refine (answers_any _).mono ?_; rintro e w' ⟨rfl, ⟨m3, rfl⟩⟩
  go_wp2_with fail
  refine (k3.out _).mono ?_; rintro e w' ⟨rfl, ⟨m4, rfl⟩⟩
  go_wp2_with fail
  go_ret
  exact ⟨rfl, by repeat (first | exact Below.refl _ _ | apply below_alloc | apply pw_below_drewN | apply below_drew1)⟩
set_option maxHeartbeats 2000000 in
theorem halves_pos3 (op m : Int) (hneg : decide (op < 0) = false) (he : op.tmod 14 = 3) (h0 : 0 ≤ op) (a b u v : BitVec 64) (w : World) : Calls Try.prog 7 #[.int .i64 op, .int .u64 (U a), .int .u64 (U b), .int .u64 (U u), .int .u64 (U v)] w fun e w' => e = .returned (.bool true) ∧ Below w.heap.size w w' := by
  have hla := U_lw a
  have hlb := U_lw b
  have hu : IntKind.u64.wrap (U u * 4294967296) = U (u <<< 32) := shl_U' u 32
  have hv : IntKind.u64.wrap (U v * 4294967296) = U (v <<< 32) := shl_U' v 32
  have h2 := wrap_add (low a) (u <<< 32)
  have h3 := wrap_add (low b) (v <<< 32)
  have hc := halves_core 48 (by decide) a b (low a + u <<< 32) (low b + v <<< 32) (low_up a u) (low_up b v)
  have k1 := do_any 48 a b
  have k2 := do_any 48 (low a + u <<< 32) (low b + v <<< 32)
  have k3 := rsext32 (dv 48 a b)
  rw [hc.1] at k2
  rw [hc.2] at k3
  generalize dv 48 a b = d at *
  generalize kn 48 = y at *
  generalize low a + u <<< 32 = aa at *
  generalize low b + v <<< 32 = bb at *
  have k1 := Lib.hid k1
  have k2 := Lib.hid k2
  have k3 := Lib.hid k3
  clear hc
  go_enter Try.func7, Try.ntmps7
  go_wp2_with fail
  refine (k1.out _).mono ?_; rintro e w' ⟨rfl, ⟨m1, rfl⟩⟩
  go_wp2_with fail
  refine (k2.out _).mono ?_; rintro e w' ⟨rfl, ⟨m2, rfl⟩⟩
  go_wp2_with fail
  refine (answers_any _).mono ?_; rintro e w' ⟨rfl, ⟨m3, rfl⟩⟩
  go_wp2_with fail
  refine (k3.out _).mono ?_; rintro e w' ⟨rfl, ⟨m4, rfl⟩⟩
  go_wp2_with fail
  go_ret
  exact ⟨rfl, by repeat (first | exact Below.refl _ _ | apply below_alloc | apply pw_below_drewN | apply below_drew1)⟩
set_option maxHeartbeats 2000000 in
theorem halves_pos4 (op m : Int) (hneg : decide (op < 0) = false) (he : op.tmod 14 = 4) (h0 : 0 ≤ op) (a b u v : BitVec 64) (w : World) : Calls Try.prog 7 #[.int .i64 op, .int .u64 (U a), .int .u64 (U b), .int .u64 (U u), .int .u64 (U v)] w fun e w' => e = .returned (.bool true) ∧ Below w.heap.size w w' := by
  have hla := U_lw a
  have hlb := U_lw b
  have hu : IntKind.u64.wrap (U u * 4294967296) = U (u <<< 32) := shl_U' u 32
  have hv : IntKind.u64.wrap (U v * 4294967296) = U (v <<< 32) := shl_U' v 32
  have h2 := wrap_add (low a) (u <<< 32)
  have h3 := wrap_add (low b) (v <<< 32)
  have hc := halves_core 49 (by decide) a b (low a + u <<< 32) (low b + v <<< 32) (low_up a u) (low_up b v)
  have k1 := do_any 49 a b
  have k2 := do_any 49 (low a + u <<< 32) (low b + v <<< 32)
  have k3 := rsext32 (dv 49 a b)
  rw [hc.1] at k2
  rw [hc.2] at k3
  generalize dv 49 a b = d at *
  generalize kn 49 = y at *
  generalize low a + u <<< 32 = aa at *
  generalize low b + v <<< 32 = bb at *
  have k1 := Lib.hid k1
  have k2 := Lib.hid k2
  have k3 := Lib.hid k3
  clear hc
  go_enter Try.func7, Try.ntmps7
  go_wp2_with fail
  refine (k1.out _).mono ?_; rintro e w' ⟨rfl, ⟨m1, rfl⟩⟩
  go_wp2_with fail
  refine (k2.out _).mono ?_; rintro e w' ⟨rfl, ⟨m2, rfl⟩⟩
  go_wp2_with fail
  refine (answers_any _).mono ?_; rintro e w' ⟨rfl, ⟨m3, rfl⟩⟩
  go_wp2_with fail
  refine (k3.out _).mono ?_; rintro e w' ⟨rfl, ⟨m4, rfl⟩⟩
  go_wp2_with fail
  go_ret
  exact ⟨rfl, by repeat (first | exact Below.refl _ _ | apply below_alloc | apply pw_below_drewN | apply below_drew1)⟩
set_option maxHeartbeats 2000000 in
theorem halves_pos5 (op m : Int) (hneg : decide (op < 0) = false) (he : op.tmod 14 = 5) (h0 : 0 ≤ op) (a b u v : BitVec 64) (w : World) : Calls Try.prog 7 #[.int .i64 op, .int .u64 (U a), .int .u64 (U b), .int .u64 (U u), .int .u64 (U v)] w fun e w' => e = .returned (.bool true) ∧ Below w.heap.size w w' := by
  have hla := U_lw a
  have hlb := U_lw b
  have hu : IntKind.u64.wrap (U u * 4294967296) = U (u <<< 32) := shl_U' u 32
  have hv : IntKind.u64.wrap (U v * 4294967296) = U (v <<< 32) := shl_U' v 32
  have h2 := wrap_add (low a) (u <<< 32)
  have h3 := wrap_add (low b) (v <<< 32)
  have hc := halves_core 58 (by decide) a b (low a + u <<< 32) (low b + v <<< 32) (low_up a u) (low_up b v)
  have k1 := do_any 58 a b
  have k2 := do_any 58 (low a + u <<< 32) (low b + v <<< 32)
  have k3 := rsext32 (dv 58 a b)
  rw [hc.1] at k2
  rw [hc.2] at k3
  generalize dv 58 a b = d at *
  generalize kn 58 = y at *
  generalize low a + u <<< 32 = aa at *
  generalize low b + v <<< 32 = bb at *
  have k1 := Lib.hid k1
  have k2 := Lib.hid k2
  have k3 := Lib.hid k3
  clear hc
  go_enter Try.func7, Try.ntmps7
  go_wp2_with fail
  refine (k1.out _).mono ?_; rintro e w' ⟨rfl, ⟨m1, rfl⟩⟩
  go_wp2_with fail
  refine (k2.out _).mono ?_; rintro e w' ⟨rfl, ⟨m2, rfl⟩⟩
  go_wp2_with fail
  refine (answers_any _).mono ?_; rintro e w' ⟨rfl, ⟨m3, rfl⟩⟩
  go_wp2_with fail
  refine (k3.out _).mono ?_; rintro e w' ⟨rfl, ⟨m4, rfl⟩⟩
  go_wp2_with fail
  go_ret
  exact ⟨rfl, by repeat (first | exact Below.refl _ _ | apply below_alloc | apply pw_below_drewN | apply below_drew1)⟩
set_option maxHeartbeats 2000000 in
theorem halves_pos6 (op m : Int) (hneg : decide (op < 0) = false) (he : op.tmod 14 = 6) (h0 : 0 ≤ op) (a b u v : BitVec 64) (w : World) : Calls Try.prog 7 #[.int .i64 op, .int .u64 (U a), .int .u64 (U b), .int .u64 (U u), .int .u64 (U v)] w fun e w' => e = .returned (.bool true) ∧ Below w.heap.size w w' := by
  have hla := U_lw a
  have hlb := U_lw b
  have hu : IntKind.u64.wrap (U u * 4294967296) = U (u <<< 32) := shl_U' u 32
  have hv : IntKind.u64.wrap (U v * 4294967296) = U (v <<< 32) := shl_U' v 32
  have h2 := wrap_add (low a) (u <<< 32)
  have h3 := wrap_add (low b) (v <<< 32)
  have hc := halves_core 59 (by decide) a b (low a + u <<< 32) (low b + v <<< 32) (low_up a u) (low_up b v)
  have k1 := do_any 59 a b
  have k2 := do_any 59 (low a + u <<< 32) (low b + v <<< 32)
  have k3 := rsext32 (dv 59 a b)
  rw [hc.1] at k2
  rw [hc.2] at k3
  generalize dv 59 a b = d at *
  generalize kn 59 = y at *
  generalize low a + u <<< 32 = aa at *
  generalize low b + v <<< 32 = bb at *
  have k1 := Lib.hid k1
  have k2 := Lib.hid k2
  have k3 := Lib.hid k3
  clear hc
  go_enter Try.func7, Try.ntmps7
  go_wp2_with fail
  refine (k1.out _).mono ?_; rintro e w' ⟨rfl, ⟨m1, rfl⟩⟩
  go_wp2_with fail
  refine (k2.out _).mono ?_; rintro e w' ⟨rfl, ⟨m2, rfl⟩⟩
  go_wp2_with fail
  refine (answers_any _).mono ?_; rintro e w' ⟨rfl, ⟨m3, rfl⟩⟩
  go_wp2_with fail
  refine (k3.out _).mono ?_; rintro e w' ⟨rfl, ⟨m4, rfl⟩⟩
  go_wp2_with fail
  go_ret
  exact ⟨rfl, by repeat (first | exact Below.refl _ _ | apply below_alloc | apply pw_below_drewN | apply below_drew1)⟩
set_option maxHeartbeats 2000000 in
theorem halves_pos7 (op m : Int) (hneg : decide (op < 0) = false) (he : op.tmod 14 = 7) (h0 : 0 ≤ op) (a b u v : BitVec 64) (w : World) : Calls Try.prog 7 #[.int .i64 op, .int .u64 (U a), .int .u64 (U b), .int .u64 (U u), .int .u64 (U v)] w fun e w' => e = .returned (.bool true) ∧ Below w.heap.size w w' := by
  have hla := U_lw a
  have hlb := U_lw b
  have hu : IntKind.u64.wrap (U u * 4294967296) = U (u <<< 32) := shl_U' u 32
  have hv : IntKind.u64.wrap (U v * 4294967296) = U (v <<< 32) := shl_U' v 32
  have h2 := wrap_add (low a) (u <<< 32)
  have h3 := wrap_add (low b) (v <<< 32)
  have hc := halves_core 60 (by decide) a b (low a + u <<< 32) (low b + v <<< 32) (low_up a u) (low_up b v)
  have k1 := do_any 60 a b
  have k2 := do_any 60 (low a + u <<< 32) (low b + v <<< 32)
  have k3 := rsext32 (dv 60 a b)
  rw [hc.1] at k2
  rw [hc.2] at k3
  generalize dv 60 a b = d at *
  generalize kn 60 = y at *
  generalize low a + u <<< 32 = aa at *
  generalize low b + v <<< 32 = bb at *
  have k1 := Lib.hid k1
  have k2 := Lib.hid k2
  have k3 := Lib.hid k3
  clear hc
  go_enter Try.func7, Try.ntmps7
  go_wp2_with fail
  refine (k1.out _).mono ?_; rintro e w' ⟨rfl, ⟨m1, rfl⟩⟩
  go_wp2_with fail
  refine (k2.out _).mono ?_; rintro e w' ⟨rfl, ⟨m2, rfl⟩⟩
  go_wp2_with fail
  refine (answers_any _).mono ?_; rintro e w' ⟨rfl, ⟨m3, rfl⟩⟩
  go_wp2_with fail
  refine (k3.out _).mono ?_; rintro e w' ⟨rfl, ⟨m4, rfl⟩⟩
  go_wp2_with fail
  go_ret
  exact ⟨rfl, by repeat (first | exact Below.refl _ _ | apply below_alloc | apply pw_below_drewN | apply below_drew1)⟩
set_option maxHeartbeats 2000000 in
theorem halves_pos8 (op m : Int) (hneg : decide (op < 0) = false) (he : op.tmod 14 = 8) (h0 : 0 ≤ op) (a b u v : BitVec 64) (w : World) : Calls Try.prog 7 #[.int .i64 op, .int .u64 (U a), .int .u64 (U b), .int .u64 (U u), .int .u64 (U v)] w fun e w' => e = .returned (.bool true) ∧ Below w.heap.size w w' := by
  have hla := U_lw a
  have hlb := U_lw b
  have hu : IntKind.u64.wrap (U u * 4294967296) = U (u <<< 32) := shl_U' u 32
  have hv : IntKind.u64.wrap (U v * 4294967296) = U (v <<< 32) := shl_U' v 32
  have h2 := wrap_add (low a) (u <<< 32)
  have h3 := wrap_add (low b) (v <<< 32)
  have hc := halves_core 61 (by decide) a b (low a + u <<< 32) (low b + v <<< 32) (low_up a u) (low_up b v)
  have k1 := do_any 61 a b
  have k2 := do_any 61 (low a + u <<< 32) (low b + v <<< 32)
  have k3 := rsext32 (dv 61 a b)
  rw [hc.1] at k2
  rw [hc.2] at k3
  generalize dv 61 a b = d at *
  generalize kn 61 = y at *
  generalize low a + u <<< 32 = aa at *
  generalize low b + v <<< 32 = bb at *
  have k1 := Lib.hid k1
  have k2 := Lib.hid k2
  have k3 := Lib.hid k3
  clear hc
  go_enter Try.func7, Try.ntmps7
  go_wp2_with fail
  refine (k1.out _).mono ?_; rintro e w' ⟨rfl, ⟨m1, rfl⟩⟩
  go_wp2_with fail
  refine (k2.out _).mono ?_; rintro e w' ⟨rfl, ⟨m2, rfl⟩⟩
  go_wp2_with fail
  refine (answers_any _).mono ?_; rintro e w' ⟨rfl, ⟨m3, rfl⟩⟩
  go_wp2_with fail
  refine (k3.out _).mono ?_; rintro e w' ⟨rfl, ⟨m4, rfl⟩⟩
  go_wp2_with fail
  go_ret
  exact ⟨rfl, by repeat (first | exact Below.refl _ _ | apply below_alloc | apply pw_below_drewN | apply below_drew1)⟩
set_option maxHeartbeats 2000000 in
theorem halves_pos9 (op m : Int) (hneg : decide (op < 0) = false) (he : op.tmod 14 = 9) (h0 : 0 ≤ op) (a b u v : BitVec 64) (w : World) : Calls Try.prog 7 #[.int .i64 op, .int .u64 (U a), .int .u64 (U b), .int .u64 (U u), .int .u64 (U v)] w fun e w' => e = .returned (.bool true) ∧ Below w.heap.size w w' := by
  have hla := U_lw a
  have hlb := U_lw b
  have hu : IntKind.u64.wrap (U u * 4294967296) = U (u <<< 32) := shl_U' u 32
  have hv : IntKind.u64.wrap (U v * 4294967296) = U (v <<< 32) := shl_U' v 32
  have h2 := wrap_add (low a) (u <<< 32)
  have h3 := wrap_add (low b) (v <<< 32)
  have hc := halves_core 62 (by decide) a b (low a + u <<< 32) (low b + v <<< 32) (low_up a u) (low_up b v)
  have k1 := do_any 62 a b
  have k2 := do_any 62 (low a + u <<< 32) (low b + v <<< 32)
  have k3 := rsext32 (dv 62 a b)
  rw [hc.1] at k2
  rw [hc.2] at k3
  generalize dv 62 a b = d at *
  generalize kn 62 = y at *
  generalize low a + u <<< 32 = aa at *
  generalize low b + v <<< 32 = bb at *
  have k1 := Lib.hid k1
  have k2 := Lib.hid k2
  have k3 := Lib.hid k3
  clear hc
  go_enter Try.func7, Try.ntmps7
  go_wp2_with fail
  refine (k1.out _).mono ?_; rintro e w' ⟨rfl, ⟨m1, rfl⟩⟩
  go_wp2_with fail
  refine (k2.out _).mono ?_; rintro e w' ⟨rfl, ⟨m2, rfl⟩⟩
  go_wp2_with fail
  refine (answers_any _).mono ?_; rintro e w' ⟨rfl, ⟨m3, rfl⟩⟩
  go_wp2_with fail
  refine (k3.out _).mono ?_; rintro e w' ⟨rfl, ⟨m4, rfl⟩⟩
  go_wp2_with fail
  go_ret
  exact ⟨rfl, by repeat (first | exact Below.refl _ _ | apply below_alloc | apply pw_below_drewN | apply below_drew1)⟩
set_option maxHeartbeats 2000000 in
theorem halves_pos10 (op m : Int) (hneg : decide (op < 0) = false) (he : op.tmod 14 = 10) (h0 : 0 ≤ op) (a b u v : BitVec 64) (w : World) : Calls Try.prog 7 #[.int .i64 op, .int .u64 (U a), .int .u64 (U b), .int .u64 (U u), .int .u64 (U v)] w fun e w' => e = .returned (.bool true) ∧ Below w.heap.size w w' := by
  have hla := U_lw a
  have hlb := U_lw b
  have hu : IntKind.u64.wrap (U u * 4294967296) = U (u <<< 32) := shl_U' u 32
  have hv : IntKind.u64.wrap (U v * 4294967296) = U (v <<< 32) := shl_U' v 32
  have h2 := wrap_add (low a) (u <<< 32)
  have h3 := wrap_add (low b) (v <<< 32)
  have hc := halves_core 41 (by decide) a b (low a + u <<< 32) (low b + v <<< 32) (low_up a u) (low_up b v)
  have k1 := do_any 41 a b
  have k2 := do_any 41 (low a + u <<< 32) (low b + v <<< 32)
  have k3 := rsext32 (dv 41 a b)
  rw [hc.1] at k2
  rw [hc.2] at k3
  generalize dv 41 a b = d at *
  generalize kn 41 = y at *
  generalize low a + u <<< 32 = aa at *
  generalize low b + v <<< 32 = bb at *
  have k1 := Lib.hid k1
  have k2 := Lib.hid k2
  have k3 := Lib.hid k3
  clear hc
  go_enter Try.func7, Try.ntmps7
  go_wp2_with fail
  refine (k1.out _).mono ?_; rintro e w' ⟨rfl, ⟨m1, rfl⟩⟩
  go_wp2_with fail
  refine (k2.out _).mono ?_; rintro e w' ⟨rfl, ⟨m2, rfl⟩⟩
  go_wp2_with fail
  refine (answers_any _).mono ?_; rintro e w' ⟨rfl, ⟨m3, rfl⟩⟩
  go_wp2_with fail
  refine (k3.out _).mono ?_; rintro e w' ⟨rfl, ⟨m4, rfl⟩⟩
  go_wp2_with fail
  go_ret
  exact ⟨rfl, by repeat (first | exact Below.refl _ _ | apply below_alloc | apply pw_below_drewN | apply below_drew1)⟩
set_option maxHeartbeats 2000000 in
theorem halves_pos11 (op m : Int) (hneg : decide (op < 0) = false) (he : op.tmod 14 = 11) (h0 : 0 ≤ op) (a b u v : BitVec 64) (w : World) : Calls Try.prog 7 #[.int .i64 op, .int .u64 (U a), .int .u64 (U b), .int .u64 (U u), .int .u64 (U v)] w fun e w' => e = .returned (.bool true) ∧ Below w.heap.size w w' := by
  have hla := U_lw a
  have hlb := U_lw b
  have hu : IntKind.u64.wrap (U u * 4294967296) = U (u <<< 32) := shl_U' u 32
  have hv : IntKind.u64.wrap (U v * 4294967296) = U (v <<< 32) := shl_U' v 32
  have h2 := wrap_add (low a) (u <<< 32)
  have h3 := wrap_add (low b) (v <<< 32)
  have hc := halves_core 42 (by decide) a b (low a + u <<< 32) (low b + v <<< 32) (low_up a u) (low_up b v)
  have k1 := do_any 42 a b
  have k2 := do_any 42 (low a + u <<< 32) (low b + v <<< 32)
  have k3 := rsext32 (dv 42 a b)
  rw [hc.1] at k2
  rw [hc.2] at k3
  generalize dv 42 a b = d at *
  generalize kn 42 = y at *
  generalize low a + u <<< 32 = aa at *
  generalize low b + v <<< 32 = bb at *
  have k1 := Lib.hid k1
  have k2 := Lib.hid k2
  have k3 := Lib.hid k3
  clear hc
  go_enter Try.func7, Try.ntmps7
  go_wp2_with fail
  refine (k1.out _).mono ?_; rintro e w' ⟨rfl, ⟨m1, rfl⟩⟩
  go_wp2_with fail
  refine (k2.out _).mono ?_; rintro e w' ⟨rfl, ⟨m2, rfl⟩⟩
  go_wp2_with fail
  refine (answers_any _).mono ?_; rintro e w' ⟨rfl, ⟨m3, rfl⟩⟩
  go_wp2_with fail
  refine (k3.out _).mono ?_; rintro e w' ⟨rfl, ⟨m4, rfl⟩⟩
  go_wp2_with fail
  go_ret
  exact ⟨rfl, by repeat (first | exact Below.refl _ _ | apply below_alloc | apply pw_below_drewN | apply below_drew1)⟩
set_option maxHeartbeats 2000000 in
theorem halves_pos12 (op m : Int) (hneg : decide (op < 0) = false) (he : op.tmod 14 = 12) (h0 : 0 ≤ op) (a b u v : BitVec 64) (w : World) : Calls Try.prog 7 #[.int .i64 op, .int .u64 (U a), .int .u64 (U b), .int .u64 (U u), .int .u64 (U v)] w fun e w' => e = .returned (.bool true) ∧ Below w.heap.size w w' := by
  have hla := U_lw a
  have hlb := U_lw b
  have hu : IntKind.u64.wrap (U u * 4294967296) = U (u <<< 32) := shl_U' u 32
  have hv : IntKind.u64.wrap (U v * 4294967296) = U (v <<< 32) := shl_U' v 32
  have h2 := wrap_add (low a) (u <<< 32)
  have h3 := wrap_add (low b) (v <<< 32)
  have hc := halves_core 43 (by decide) a b (low a + u <<< 32) (low b + v <<< 32) (low_up a u) (low_up b v)
  have k1 := do_any 43 a b
  have k2 := do_any 43 (low a + u <<< 32) (low b + v <<< 32)
  have k3 := rsext32 (dv 43 a b)
  rw [hc.1] at k2
  rw [hc.2] at k3
  generalize dv 43 a b = d at *
  generalize kn 43 = y at *
  generalize low a + u <<< 32 = aa at *
  generalize low b + v <<< 32 = bb at *
  have k1 := Lib.hid k1
  have k2 := Lib.hid k2
  have k3 := Lib.hid k3
  clear hc
  go_enter Try.func7, Try.ntmps7
  go_wp2_with fail
  refine (k1.out _).mono ?_; rintro e w' ⟨rfl, ⟨m1, rfl⟩⟩
  go_wp2_with fail
  refine (k2.out _).mono ?_; rintro e w' ⟨rfl, ⟨m2, rfl⟩⟩
  go_wp2_with fail
  refine (answers_any _).mono ?_; rintro e w' ⟨rfl, ⟨m3, rfl⟩⟩
  go_wp2_with fail
  refine (k3.out _).mono ?_; rintro e w' ⟨rfl, ⟨m4, rfl⟩⟩
  go_wp2_with fail
  go_ret
  exact ⟨rfl, by repeat (first | exact Below.refl _ _ | apply below_alloc | apply pw_below_drewN | apply below_drew1)⟩
set_option maxHeartbeats 2000000 in
theorem halves_pos13 (op m : Int) (hneg : decide (op < 0) = false) (he : op.tmod 14 = 13) (h0 : 0 ≤ op) (a b u v : BitVec 64) (w : World) : Calls Try.prog 7 #[.int .i64 op, .int .u64 (U a), .int .u64 (U b), .int .u64 (U u), .int .u64 (U v)] w fun e w' => e = .returned (.bool true) ∧ Below w.heap.size w w' := by
  have hla := U_lw a
  have hlb := U_lw b
  have hu : IntKind.u64.wrap (U u * 4294967296) = U (u <<< 32) := shl_U' u 32
  have hv : IntKind.u64.wrap (U v * 4294967296) = U (v <<< 32) := shl_U' v 32
  have h2 := wrap_add (low a) (u <<< 32)
  have h3 := wrap_add (low b) (v <<< 32)
  have hc := halves_core 44 (by decide) a b (low a + u <<< 32) (low b + v <<< 32) (low_up a u) (low_up b v)
  have k1 := do_any 44 a b
  have k2 := do_any 44 (low a + u <<< 32) (low b + v <<< 32)
  have k3 := rsext32 (dv 44 a b)
  rw [hc.1] at k2
  rw [hc.2] at k3
  generalize dv 44 a b = d at *
  generalize kn 44 = y at *
  generalize low a + u <<< 32 = aa at *
  generalize low b + v <<< 32 = bb at *
  have k1 := Lib.hid k1
  have k2 := Lib.hid k2
  have k3 := Lib.hid k3
  clear hc
  go_enter Try.func7, Try.ntmps7
  go_wp2_with fail
  refine (k1.out _).mono ?_; rintro e w' ⟨rfl, ⟨m1, rfl⟩⟩
  go_wp2_with fail
  refine (k2.out _).mono ?_; rintro e w' ⟨rfl, ⟨m2, rfl⟩⟩
  go_wp2_with fail
  refine (answers_any _).mono ?_; rintro e w' ⟨rfl, ⟨m3, rfl⟩⟩
  go_wp2_with fail
  refine (k3.out _).mono ?_; rintro e w' ⟨rfl, ⟨m4, rfl⟩⟩
  go_wp2_with fail
  go_ret
  exact ⟨rfl, by repeat (first | exact Below.refl _ _ | apply below_alloc | apply pw_below_drewN | apply below_drew1)⟩
set_option maxHeartbeats 2000000 in
theorem halves_neg0 (op m : Int) (hneg : decide (op < 0) = true) (hm : wrap64 (-wrap64 (op + 1)) = m) (he : m.tmod 14 = 0) (h0 : 0 ≤ m) (a b u v : BitVec 64) (w : World) : Calls Try.prog 7 #[.int .i64 op, .int .u64 (U a), .int .u64 (U b), .int .u64 (U u), .int .u64 (U v)] w fun e w' => e = .returned (.bool true) ∧ Below w.heap.size w w' := by
  have hla := U_lw a
  have hlb := U_lw b
  have hu : IntKind.u64.wrap (U u * 4294967296) = U (u <<< 32) := shl_U' u 32
  have hv : IntKind.u64.wrap (U v * 4294967296) = U (v <<< 32) := shl_U' v 32
  have h2 := wrap_add (low a) (u <<< 32)
  have h3 := wrap_add (low b) (v <<< 32)
  have hc := halves_core 45 (by decide) a b (low a + u <<< 32) (low b + v <<< 32) (low_up a u) (low_up b v)
  have k1 := do_any 45 a b
  have k2 := do_any 45 (low a + u <<< 32) (low b + v <<< 32)
  have k3 := rsext32 (dv 45 a b)
  rw [hc.1] at k2
  rw [hc.2] at k3
  generalize dv 45 a b = d at *
  generalize kn 45 = y at *
  generalize low a + u <<< 32 = aa at *
  generalize low b + v <<< 32 = bb at *
  have k1 := Lib.hid k1
  have k2 := Lib.hid k2
  have k3 := Lib.hid k3
  clear hc
  go_enter Try.func7, Try.ntmps7
  go_wp2_with fail
  refine (k1.out _).mono ?_; rintro e w' ⟨rfl, ⟨m1, rfl⟩⟩
  go_wp2_with fail
  refine (k2.out _).mono ?_; rintro e w' ⟨rfl, ⟨m2, rfl⟩⟩
  go_wp2_with fail
  refine (answers_any _).mono ?_; rintro e w' ⟨rfl, ⟨m3, rfl⟩⟩
  go_wp2_with fail
  refine (k3.out _).mono ?_; rintro e w' ⟨rfl, ⟨m4, rfl⟩⟩
  go_wp2_with fail
  go_ret
  exact ⟨rfl, by repeat (first | exact Below.refl _ _ | apply below_alloc | apply pw_below_drewN | apply below_drew1)⟩
set_option maxHeartbeats 2000000 in
theorem halves_neg1 (op m : Int) (hneg : decide (op < 0) = true) (hm : wrap64 (-wrap64 (op + 1)) = m) (he : m.tmod 14 = 1) (h0 : 0 ≤ m) (a b u v : BitVec 64) (w : World) : Calls Try.prog 7 #[.int .i64 op, .int .u64 (U a), .int .u64 (U b), .int .u64 (U u), .int .u64 (U v)] w fun e w' => e = .returned (.bool true) ∧ Below w.heap.size w w' := by
  have hla := U_lw a
  have hlb := U_lw b
  have hu : IntKind.u64.wrap (U u * 4294967296) = U (u <<< 32) := shl_U' u 32
  have hv : IntKind.u64.wrap (U v * 4294967296) = U (v <<< 32) := shl_U' v 32
  have h2 := wrap_add (low a) (u <<< 32)
  have h3 := wrap_add (low b) (v <<< 32)
  have hc := halves_core 46 (by decide) a b (low a + u <<< 32) (low b + v <<< 32) (low_up a u) (low_up b v)
  have k1 := do_any 46 a b
  have k2 := do_any 46 (low a + u <<< 32) (low b + v <<< 32)
  have k3 := rsext32 (dv 46 a b)
  rw [hc.1] at k2
  rw [hc.2] at k3
  generalize dv 46 a b = d at *
  generalize kn 46 = y at *
  generalize low a + u <<< 32 = aa at *
  generalize low b + v <<< 32 = bb at *
  have k1 := Lib.hid k1
  have k2 := Lib.hid k2
  have k3 := Lib.hid k3
  clear hc
  go_enter Try.func7, Try.ntmps7
  go_wp2_with fail
  refine (k1.out _).mono ?_; rintro e w' ⟨rfl, ⟨m1, rfl⟩⟩
  go_wp2_with fail
  refine (k2.out _).mono ?_; rintro e w' ⟨rfl, ⟨m2, rfl⟩⟩
  go_wp2_with fail
  refine (answers_any _).mono ?_; rintro e w' ⟨rfl, ⟨m3, rfl⟩⟩
  go_wp2_with fail
  refine (k3.out _).mono ?_; rintro e w' ⟨rfl, ⟨m4, rfl⟩⟩
  go_wp2_with fail
  go_ret
  exact ⟨rfl, by repeat (first | exact Below.refl _ _ | apply below_alloc | apply pw_below_drewN | apply below_drew1)⟩
set_option maxHeartbeats 2000000 in
theorem halves_neg2 (op m : Int) (hneg : decide (op < 0) = true) (hm : wrap64 (-wrap64 (op + 1)) = m) (he : m.tmod 14 = 2) (h0 : 0 ≤ m) (a b u v : BitVec 64) (w : World) : Calls Try.prog 7 #[.int .i64 op, .int .u64 (U a), .int .u64 (U b), .int .u64 (U u), .int .u64 (U v)] w fun e w' => e = .returned (.bool true) ∧ Below w.heap.size w w' := by
  have hla := U_lw a
  have hlb := U_lw b
  have hu : IntKind.u64.wrap (U u * 4294967296) = U (u <<< 32) := shl_U' u 32
  have hv : IntKind.u64.wrap (U v * 4294967296) = U (v <<< 32) := shl_U' v 32
  have h2 := wrap_add (low a) (u <<< 32)
  have h3 := wrap_add (low b) (v <<< 32)
  have hc := halves_core 47 (by decide) a b (low a + u <<< 32) (low b + v <<< 32) (low_up a u) (low_up b v)
  have k1 := do_any 47 a b
  have k2 := do_any 47 (low a + u <<< 32) (low b + v <<< 32)
  have k3 := rsext32 (dv 47 a b)
  rw [hc.1] at k2
  rw [hc.2] at k3
  generalize dv 47 a b = d at *
  generalize kn 47 = y at *
  generalize low a + u <<< 32 = aa at *
  generalize low b + v <<< 32 = bb at *
  have k1 := Lib.hid k1
  have k2 := Lib.hid k2
  have k3 := Lib.hid k3
  clear hc
  go_enter Try.func7, Try.ntmps7
  go_wp2_with fail
  refine (k1.out _).mono ?_; rintro e w' ⟨rfl, ⟨m1, rfl⟩⟩
  go_wp2_with fail
  refine (k2.out _).mono ?_; rintro e w' ⟨rfl, ⟨m2, rfl⟩⟩
  go_wp2_with fail
  refine (answers_any _).mono ?_; rintro e w' ⟨rfl, ⟨m3, rfl⟩⟩
  go_wp2_with fail
  refine (k3.out _).mono ?_; rintro e w' ⟨rfl, ⟨m4, rfl⟩⟩
  go_wp2_with fail
  go_ret
  exact ⟨rfl, by repeat (first | exact Below.refl _ _ | apply below_alloc | apply pw_below_drewN | apply below_drew1)⟩
set_option maxHeartbeats 2000000 in
theorem halves_neg3 (op m : Int) (hneg : decide (op < 0) = true) (hm : wrap64 (-wrap64 (op + 1)) = m) (he : m.tmod 14 = 3) (h0 : 0 ≤ m) (a b u v : BitVec 64) (w : World) : Calls Try.prog 7 #[.int .i64 op, .int .u64 (U a), .int .u64 (U b), .int .u64 (U u), .int .u64 (U v)] w fun e w' => e = .returned (.bool true) ∧ Below w.heap.size w w' := by
  have hla := U_lw a
  have hlb := U_lw b
  have hu : IntKind.u64.wrap (U u * 4294967296) = U (u <<< 32) := shl_U' u 32
  have hv : IntKind.u64.wrap (U v * 4294967296) = U (v <<< 32) := shl_U' v 32
  have h2 := wrap_add (low a) (u <<< 32)
  have h3 := wrap_add (low b) (v <<< 32)
  have hc := halves_core 48 (by decide) a b (low a + u <<< 32) (low b + v <<< 32) (low_up a u) (low_up b v)
  have k1 := do_any 48 a b
  have k2 := do_any 48 (low a + u <<< 32) (low b + v <<< 32)
  have k3 := rsext32 (dv 48 a b)
  rw [hc.1] at k2
  rw [hc.2] at k3
  generalize dv 48 a b = d at *
  generalize kn 48 = y at *
  generalize low a + u <<< 32 = aa at *
  generalize low b + v <<< 32 = bb at *
  have k1 := Lib.hid k1
  have k2 := Lib.hid k2
  have k3 := Lib.hid k3
  clear hc
  go_enter Try.func7, Try.ntmps7
  go_wp2_with fail
  refine (k1.out _).mono ?_; rintro e w' ⟨rfl, ⟨m1, rfl⟩⟩
  go_wp2_with fail
  refine (k2.out _).mono ?_; rintro e w' ⟨rfl, ⟨m2, rfl⟩⟩
  go_wp2_with fail
  refine (answers_any _).mono ?_; rintro e w' ⟨rfl, ⟨m3, rfl⟩⟩
  go_wp2_with fail
  refine (k3.out _).mono ?_; rintro e w' ⟨rfl, ⟨m4, rfl⟩⟩
  go_wp2_with fail
  go_ret
  exact ⟨rfl, by repeat (first | exact Below.refl _ _ | apply below_alloc | apply pw_below_drewN | apply below_drew1)⟩
set_option maxHeartbeats 2000000 in
theorem halves_neg4 (op m : Int) (hneg : decide (op < 0) = true) (hm : wrap64 (-wrap64 (op + 1)) = m) (he : m.tmod 14 = 4) (h0 : 0 ≤ m) (a b u v : BitVec 64) (w : World) : Calls Try.prog 7 #[.int .i64 op, .int .u64 (U a), .int .u64 (U b), .int .u64 (U u), .int .u64 (U v)] w fun e w' => e = .returned (.bool true) ∧ Below w.heap.size w w' := by
  have hla := U_lw a
  have hlb := U_lw b
  have hu : IntKind.u64.wrap (U u * 4294967296) = U (u <<< 32) := shl_U' u 32
  have hv : IntKind.u64.wrap (U v * 4294967296) = U (v <<< 32) := shl_U' v 32
  have h2 := wrap_add (low a) (u <<< 32)
  have h3 := wrap_add (low b) (v <<< 32)
  have hc := halves_core 49 (by decide) a b (low a + u <<< 32) (low b + v <<< 32) (low_up a u) (low_up b v)
  have k1 := do_any 49 a b
  have k2 := do_any 49 (low a + u <<< 32) (low b + v <<< 32)
  have k3 := rsext32 (dv 49 a b)
  rw [hc.1] at k2
  rw [hc.2] at k3
  generalize dv 49 a b = d at *
  generalize kn 49 = y at *
  generalize low a + u <<< 32 = aa at *
  generalize low b + v <<< 32 = bb at *
  have k1 := Lib.hid k1
  have k2 := Lib.hid k2
  have k3 := Lib.hid k3
  clear hc
  go_enter Try.func7, Try.ntmps7
  go_wp2_with fail
  refine (k1.out _).mono ?_; rintro e w' ⟨rfl, ⟨m1, rfl⟩⟩
  go_wp2_with fail
  refine (k2.out _).mono ?_; rintro e w' ⟨rfl, ⟨m2, rfl⟩⟩
  go_wp2_with fail
  refine (answers_any _).mono ?_; rintro e w' ⟨rfl, ⟨m3, rfl⟩⟩
  go_wp2_with fail
  refine (k3.out _).mono ?_; rintro e w' ⟨rfl, ⟨m4, rfl⟩⟩
  go_wp2_with fail
  go_ret
  exact ⟨rfl, by repeat (first | exact Below.refl _ _ | apply below_alloc | apply pw_below_drewN | apply below_drew1)⟩
set_option maxHeartbeats 2000000 in
theorem halves_neg5 (op m : Int) (hneg : decide (op < 0) = true) (hm : wrap64 (-wrap64 (op + 1)) = m) (he : m.tmod 14 = 5) (h0 : 0 ≤ m) (a b u v : BitVec 64) (w : World) : Calls Try.prog 7 #[.int .i64 op, .int .u64 (U a), .int .u64 (U b), .int .u64 (U u), .int .u64 (U v)] w fun e w' => e = .returned (.bool true) ∧ Below w.heap.size w w' := by
  have hla := U_lw a
  have hlb := U_lw b
  have hu : IntKind.u64.wrap (U u * 4294967296) = U (u <<< 32) := shl_U' u 32
  have hv : IntKind.u64.wrap (U v * 4294967296) = U (v <<< 32) := shl_U' v 32
  have h2 := wrap_add (low a) (u <<< 32)
  have h3 := wrap_add (low b) (v <<< 32)
  have hc := halves_core 58 (by decide) a b (low a + u <<< 32) (low b + v <<< 32) (low_up a u) (low_up b v)
  have k1 := do_any 58 a b
  have k2 := do_any 58 (low a + u <<< 32) (low b + v <<< 32)
  have k3 := rsext32 (dv 58 a b)
  rw [hc.1] at k2
  rw [hc.2] at k3
  generalize dv 58 a b = d at *
  generalize kn 58 = y at *
  generalize low a + u <<< 32 = aa at *
  generalize low b + v <<< 32 = bb at *
  have k1 := Lib.hid k1
  have k2 := Lib.hid k2
  have k3 := Lib.hid k3
  clear hc
  go_enter Try.func7, Try.ntmps7
  go_wp2_with fail
  refine (k1.out _).mono ?_; rintro e w' ⟨rfl, ⟨m1, rfl⟩⟩
  go_wp2_with fail
  refine (k2.out _).mono ?_; rintro e w' ⟨rfl, ⟨m2, rfl⟩⟩
  go_wp2_with fail
  refine (answers_any _).mono ?_; rintro e w' ⟨rfl, ⟨m3, rfl⟩⟩
  go_wp2_with fail
  refine (k3.out _).mono ?_; rintro e w' ⟨rfl, ⟨m4, rfl⟩⟩
  go_wp2_with fail
  go_ret
  exact ⟨rfl, by repeat (first | exact Below.refl _ _ | apply below_alloc | apply pw_below_drewN | apply below_drew1)⟩
set_option maxHeartbeats 2000000 in
theorem halves_neg6 (op m : Int) (hneg : decide (op < 0) = true) (hm : wrap64 (-wrap64 (op + 1)) = m) (he : m.tmod 14 = 6) (h0 : 0 ≤ m) (a b u v : BitVec 64) (w : World) : Calls Try.prog 7 #[.int .i64 op, .int .u64 (U a), .int .u64 (U b), .int .u64 (U u), .int .u64 (U v)] w fun e w' => e = .returned (.bool true) ∧ Below w.heap.size w w' := by
  have hla := U_lw a
  have hlb := U_lw b
  have hu : IntKind.u64.wrap (U u * 4294967296) = U (u <<< 32) := shl_U' u 32
  have hv : IntKind.u64.wrap (U v * 4294967296) = U (v <<< 32) := shl_U' v 32
  have h2 := wrap_add (low a) (u <<< 32)
  have h3 := wrap_add (low b) (v <<< 32)
  have hc := halves_core 59 (by decide) a b (low a + u <<< 32) (low b + v <<< 32) (low_up a u) (low_up b v)
  have k1 := do_any 59 a b
  have k2 := do_any 59 (low a + u <<< 32) (low b + v <<< 32)
  have k3 := rsext32 (dv 59 a b)
  rw [hc.1] at k2
  rw [hc.2] at k3
  generalize dv 59 a b = d at *
  generalize kn 59 = y at *
  generalize low a + u <<< 32 = aa at *
  generalize low b + v <<< 32 = bb at *
  have k1 := Lib.hid k1
  have k2 := Lib.hid k2
  have k3 := Lib.hid k3
  clear hc
  go_enter Try.func7, Try.ntmps7
  go_wp2_with fail
  refine (k1.out _).mono ?_; rintro e w' ⟨rfl, ⟨m1, rfl⟩⟩
  go_wp2_with fail
  refine (k2.out _).mono ?_; rintro e w' ⟨rfl, ⟨m2, rfl⟩⟩
  go_wp2_with fail
  refine (answers_any _).mono ?_; rintro e w' ⟨rfl, ⟨m3, rfl⟩⟩
  go_wp2_with fail
  refine (k3.out _).mono ?_; rintro e w' ⟨rfl, ⟨m4, rfl⟩⟩
  go_wp2_with fail
  go_ret
  exact ⟨rfl, by repeat (first | exact Below.refl _ _ | apply below_alloc | apply pw_below_drewN | apply below_drew1)⟩
set_option maxHeartbeats 2000000 in
theorem halves_neg7 (op m : Int) (hneg : decide (op < 0) = true) (hm : wrap64 (-wrap64 (op + 1)) = m) (he : m.tmod 14 = 7) (h0 : 0 ≤ m) (a b u v : BitVec 64) (w : World) : Calls Try.prog 7 #[.int .i64 op, .int .u64 (U a), .int .u64 (U b), .int .u64 (U u), .int .u64 (U v)] w fun e w' => e = .returned (.bool true) ∧ Below w.heap.size w w' := by
  have hla := U_lw a
  have hlb := U_lw b
  have hu : IntKind.u64.wrap (U u * 4294967296) = U (u <<< 32) := shl_U' u 32
  have hv : IntKind.u64.wrap (U v * 4294967296) = U (v <<< 32) := shl_U' v 32
  have h2 := wrap_add (low a) (u <<< 32)
  have h3 := wrap_add (low b) (v <<< 32)
  have hc := halves_core 60 (by decide) a b (low a + u <<< 32) (low b + v <<< 32) (low_up a u) (low_up b v)
  have k1 := do_any 60 a b
  have k2 := do_any 60 (low a + u <<< 32) (low b + v <<< 32)
  have k3 := rsext32 (dv 60 a b)
  rw [hc.1] at k2
  rw [hc.2] at k3
  generalize dv 60 a b = d at *
  generalize kn 60 = y at *
  generalize low a + u <<< 32 = aa at *
  generalize low b + v <<< 32 = bb at *
  have k1 := Lib.hid k1
  have k2 := Lib.hid k2
  have k3 := Lib.hid k3
  clear hc
  go_enter Try.func7, Try.ntmps7
  go_wp2_with fail
  refine (k1.out _).mono ?_; rintro e w' ⟨rfl, ⟨m1, rfl⟩⟩
  go_wp2_with fail
  refine (k2.out _).mono ?_; rintro e w' ⟨rfl, ⟨m2, rfl⟩⟩
  go_wp2_with fail
  refine (answers_any _).mono ?_; rintro e w' ⟨rfl, ⟨m3, rfl⟩⟩
  go_wp2_with fail
  refine (k3.out _).mono ?_; rintro e w' ⟨rfl, ⟨m4, rfl⟩⟩
  go_wp2_with fail
  go_ret
  exact ⟨rfl, by repeat (first | exact Below.refl _ _ | apply below_alloc | apply pw_below_drewN | apply below_drew1)⟩
set_option maxHeartbeats 2000000 in
theorem halves_neg8 (op m : Int) (hneg : decide (op < 0) = true) (hm : wrap64 (-wrap64 (op + 1)) = m) (he : m.tmod 14 = 8) (h0 : 0 ≤ m) (a b u v : BitVec 64) (w : World) : Calls Try.prog 7 #[.int .i64 op, .int .u64 (U a), .int .u64 (U b), .int .u64 (U u), .int .u64 (U v)] w fun e w' => e = .returned (.bool true) ∧ Below w.heap.size w w' := by
  have hla := U_lw a
  have hlb := U_lw b
  have hu : IntKind.u64.wrap (U u * 4294967296) = U (u <<< 32) := shl_U' u 32
  have hv : IntKind.u64.wrap (U v * 4294967296) = U (v <<< 32) := shl_U' v 32
  have h2 := wrap_add (low a) (u <<< 32)
  have h3 := wrap_add (low b) (v <<< 32)
  have hc := halves_core 61 (by decide) a b (low a + u <<< 32) (low b + v <<< 32) (low_up a u) (low_up b v)
  have k1 := do_any 61 a b
  have k2 := do_any 61 (low a + u <<< 32) (low b + v <<< 32)
  have k3 := rsext32 (dv 61 a b)
  rw [hc.1] at k2
  rw [hc.2] at k3
  generalize dv 61 a b = d at *
  generalize kn 61 = y at *
  generalize low a + u <<< 32 = aa at *
  generalize low b + v <<< 32 = bb at *
  have k1 := Lib.hid k1
  have k2 := Lib.hid k2
  have k3 := Lib.hid k3
  clear hc
  go_enter Try.func7, Try.ntmps7
  go_wp2_with fail
  refine (k1.out _).mono ?_; rintro e w' ⟨rfl, ⟨m1, rfl⟩⟩
  go_wp2_with fail
  refine (k2.out _).mono ?_; rintro e w' ⟨rfl, ⟨m2, rfl⟩⟩
  go_wp2_with fail
  refine (answers_any _).mono ?_; rintro e w' ⟨rfl, ⟨m3, rfl⟩⟩
  go_wp2_with fail
  refine (k3.out _).mono ?_; rintro e w' ⟨rfl, ⟨m4, rfl⟩⟩
  go_wp2_with fail
  go_ret
  exact ⟨rfl, by repeat (first | exact Below.refl _ _ | apply below_alloc | apply pw_below_drewN | apply below_drew1)⟩
set_option maxHeartbeats 2000000 in
theorem halves_neg9 (op m : Int) (hneg : decide (op < 0) = true) (hm : wrap64 (-wrap64 (op + 1)) = m) (he : m.tmod 14 = 9) (h0 : 0 ≤ m) (a b u v : BitVec 64) (w : World) : Calls Try.prog 7 #[.int .i64 op, .int .u64 (U a), .int .u64 (U b), .int .u64 (U u), .int .u64 (U v)] w fun e w' => e = .returned (.bool true) ∧ Below w.heap.size w w' := by
  have hla := U_lw a
  have hlb := U_lw b
  have hu : IntKind.u64.wrap (U u * 4294967296) = U (u <<< 32) := shl_U' u 32
  have hv : IntKind.u64.wrap (U v * 4294967296) = U (v <<< 32) := shl_U' v 32
  have h2 := wrap_add (low a) (u <<< 32)
  have h3 := wrap_add (low b) (v <<< 32)
  have hc := halves_core 62 (by decide) a b (low a + u <<< 32) (low b + v <<< 32) (low_up a u) (low_up b v)
  have k1 := do_any 62 a b
  have k2 := do_any 62 (low a + u <<< 32) (low b + v <<< 32)
  have k3 := rsext32 (dv 62 a b)
  rw [hc.1] at k2
  rw [hc.2] at k3
  generalize dv 62 a b = d at *
  generalize kn 62 = y at *
  generalize low a + u <<< 32 = aa at *
  generalize low b + v <<< 32 = bb at *
  have k1 := Lib.hid k1
  have k2 := Lib.hid k2
  have k3 := Lib.hid k3
  clear hc
  go_enter Try.func7, Try.ntmps7
  go_wp2_with fail
  refine (k1.out _).mono ?_; rintro e w' ⟨rfl, ⟨m1, rfl⟩⟩
  go_wp2_with fail
  refine (k2.out _).mono ?_; rintro e w' ⟨rfl, ⟨m2, rfl⟩⟩
  go_wp2_with fail
  refine (answers_any _).mono ?_; rintro e w' ⟨rfl, ⟨m3, rfl⟩⟩
  go_wp2_with fail
  refine (k3.out _).mono ?_; rintro e w' ⟨rfl, ⟨m4, rfl⟩⟩
  go_wp2_with fail
  go_ret
  exact ⟨rfl, by repeat (first | exact Below.refl _ _ | apply below_alloc | apply pw_below_drewN | apply below_drew1)⟩
set_option maxHeartbeats 2000000 in
theorem halves_neg10 (op m : Int) (hneg : decide (op < 0) = true) (hm : wrap64 (-wrap64 (op + 1)) = m) (he : m.tmod 14 = 10) (h0 : 0 ≤ m) (a b u v : BitVec 64) (w : World) : Calls Try.prog 7 #[.int .i64 op, .int .u64 (U a), .int .u64 (U b), .int .u64 (U u), .int .u64 (U v)] w fun e w' => e = .returned (.bool true) ∧ Below w.heap.size w w' := by
  have hla := U_lw a
  have hlb := U_lw b
  have hu : IntKind.u64.wrap (U u * 4294967296) = U (u <<< 32) := shl_U' u 32
  have hv : IntKind.u64.wrap (U v * 4294967296) = U (v <<< 32) := shl_U' v 32
  have h2 := wrap_add (low a) (u <<< 32)
  have h3 := wrap_add (low b) (v <<< 32)
  have hc := halves_core 41 (by decide) a b (low a + u <<< 32) (low b + v <<< 32) (low_up a u) (low_up b v)
  have k1 := do_any 41 a b
  have k2 := do_any 41 (low a + u <<< 32) (low b + v <<< 32)
  have k3 := rsext32 (dv 41 a b)
  rw [hc.1] at k2
  rw [hc.2] at k3
  generalize dv 41 a b = d at *
  generalize kn 41 = y at *
  generalize low a + u <<< 32 = aa at *
  generalize low b + v <<< 32 = bb at *
  have k1 := Lib.hid k1
  have k2 := Lib.hid k2
  have k3 := Lib.hid k3
  clear hc
  go_enter Try.func7, Try.ntmps7
  go_wp2_with fail
  refine (k1.out _).mono ?_; rintro e w' ⟨rfl, ⟨m1, rfl⟩⟩
  go_wp2_with fail
  refine (k2.out _).mono ?_; rintro e w' ⟨rfl, ⟨m2, rfl⟩⟩
  go_wp2_with fail
  refine (answers_any _).mono ?_; rintro e w' ⟨rfl, ⟨m3, rfl⟩⟩
  go_wp2_with fail
  refine (k3.out _).mono ?_; rintro e w' ⟨rfl, ⟨m4, rfl⟩⟩
  go_wp2_with fail
  go_ret
  exact ⟨rfl, by repeat (first | exact Below.refl _ _ | apply below_alloc | apply pw_below_drewN | apply below_drew1)⟩
set_option maxHeartbeats 2000000 in
theorem halves_neg11 (op m : Int) (hneg : decide (op < 0) = true) (hm : wrap64 (-wrap64 (op + 1)) = m) (he : m.tmod 14 = 11) (h0 : 0 ≤ m) (a b u v : BitVec 64) (w : World) : Calls Try.prog 7 #[.int .i64 op, .int .u64 (U a), .int .u64 (U b), .int .u64 (U u), .int .u64 (U v)] w fun e w' => e = .returned (.bool true) ∧ Below w.heap.size w w' := by
  have hla := U_lw a
  have hlb := U_lw b
  have hu : IntKind.u64.wrap (U u * 4294967296) = U (u <<< 32) := shl_U' u 32
  have hv : IntKind.u64.wrap (U v * 4294967296) = U (v <<< 32) := shl_U' v 32
  have h2 := wrap_add (low a) (u <<< 32)
  have h3 := wrap_add (low b) (v <<< 32)
  have hc := halves_core 42 (by decide) a b (low a + u <<< 32) (low b + v <<< 32) (low_up a u) (low_up b v)
  have k1 := do_any 42 a b
  have k2 := do_any 42 (low a + u <<< 32) (low b + v <<< 32)
  have k3 := rsext32 (dv 42 a b)
  rw [hc.1] at k2
  rw [hc.2] at k3
  generalize dv 42 a b = d at *
  generalize kn 42 = y at *
  generalize low a + u <<< 32 = aa at *
  generalize low b + v <<< 32 = bb at *
  have k1 := Lib.hid k1
  have k2 := Lib.hid k2
  have k3 := Lib.hid k3
  clear hc
  go_enter Try.func7, Try.ntmps7
  go_wp2_with fail
  refine (k1.out _).mono ?_; rintro e w' ⟨rfl, ⟨m1, rfl⟩⟩
  go_wp2_with fail
  refine (k2.out _).mono ?_; rintro e w' ⟨rfl, ⟨m2, rfl⟩⟩
  go_wp2_with fail
  refine (answers_any _).mono ?_; rintro e w' ⟨rfl, ⟨m3, rfl⟩⟩
  go_wp2_with fail
  refine (k3.out _).mono ?_; rintro e w' ⟨rfl, ⟨m4, rfl⟩⟩
  go_wp2_with fail
  go_ret
  exact ⟨rfl, by repeat (first | exact Below.refl _ _ | apply below_alloc | apply pw_below_drewN | apply below_drew1)⟩
set_option maxHeartbeats 2000000 in
theorem halves_neg12 (op m : Int) (hneg : decide (op < 0) = true) (hm : wrap64 (-wrap64 (op + 1)) = m) (he : m.tmod 14 = 12) (h0 : 0 ≤ m) (a b u v : BitVec 64) (w : World) : Calls Try.prog 7 #[.int .i64 op, .int .u64 (U a), .int .u64 (U b), .int .u64 (U u), .int .u64 (U v)] w fun e w' => e = .returned (.bool true) ∧ Below w.heap.size w w' := by
  have hla := U_lw a
  have hlb := U_lw b
  have hu : IntKind.u64.wrap (U u * 4294967296) = U (u <<< 32) := shl_U' u 32
  have hv : IntKind.u64.wrap (U v * 4294967296) = U (v <<< 32) := shl_U' v 32
  have h2 := wrap_add (low a) (u <<< 32)
  have h3 := wrap_add (low b) (v <<< 32)
  have hc := halves_core 43 (by decide) a b (low a + u <<< 32) (low b + v <<< 32) (low_up a u) (low_up b v)
  have k1 := do_any 43 a b
  have k2 := do_any 43 (low a + u <<< 32) (low b + v <<< 32)
  have k3 := rsext32 (dv 43 a b)
  rw [hc.1] at k2
  rw [hc.2] at k3
  generalize dv 43 a b = d at *
  generalize kn 43 = y at *
  generalize low a + u <<< 32 = aa at *
  generalize low b + v <<< 32 = bb at *
  have k1 := Lib.hid k1
  have k2 := Lib.hid k2
  have k3 := Lib.hid k3
  clear hc
  go_enter Try.func7, Try.ntmps7
  go_wp2_with fail
  refine (k1.out _).mono ?_; rintro e w' ⟨rfl, ⟨m1, rfl⟩⟩
  go_wp2_with fail
  refine (k2.out _).mono ?_; rintro e w' ⟨rfl, ⟨m2, rfl⟩⟩
  go_wp2_with fail
  refine (answers_any _).mono ?_; rintro e w' ⟨rfl, ⟨m3, rfl⟩⟩
  go_wp2_with fail
  refine (k3.out _).mono ?_; rintro e w' ⟨rfl, ⟨m4, rfl⟩⟩
  go_wp2_with fail
  go_ret
  exact ⟨rfl, by repeat (first | exact Below.refl _ _ | apply below_alloc | apply pw_below_drewN | apply below_drew1)⟩
set_option maxHeartbeats 2000000 in
theorem halves_neg13 (op m : Int) (hneg : decide (op < 0) = true) (hm : wrap64 (-wrap64 (op + 1)) = m) (he : m.tmod 14 = 13) (h0 : 0 ≤ m) (a b u v : BitVec 64) (w : World) : Calls Try.prog 7 #[.int .i64 op, .int .u64 (U a), .int .u64 (U b), .int .u64 (U u), .int .u64 (U v)] w fun e w' => e = .returned (.bool true) ∧ Below w.heap.size w w' := by
  have hla := U_lw a
  have hlb := U_lw b
  have hu : IntKind.u64.wrap (U u * 4294967296) = U (u <<< 32) := shl_U' u 32
  have hv : IntKind.u64.wrap (U v * 4294967296) = U (v <<< 32) := shl_U' v 32
  have h2 := wrap_add (low a) (u <<< 32)
  have h3 := wrap_add (low b) (v <<< 32)
  have hc := halves_core 44 (by decide) a b (low a + u <<< 32) (low b + v <<< 32) (low_up a u) (low_up b v)
  have k1 := do_any 44 a b
  have k2 := do_any 44 (low a + u <<< 32) (low b + v <<< 32)
  have k3 := rsext32 (dv 44 a b)
  rw [hc.1] at k2
  rw [hc.2] at k3
  generalize dv 44 a b = d at *
  generalize kn 44 = y at *
  generalize low a + u <<< 32 = aa at *
  generalize low b + v <<< 32 = bb at *
  have k1 := Lib.hid k1
  have k2 := Lib.hid k2
  have k3 := Lib.hid k3
  clear hc
  go_enter Try.func7, Try.ntmps7
  go_wp2_with fail
  refine (k1.out _).mono ?_; rintro e w' ⟨rfl, ⟨m1, rfl⟩⟩
  go_wp2_with fail
  refine (k2.out _).mono ?_; rintro e w' ⟨rfl, ⟨m2, rfl⟩⟩
  go_wp2_with fail
  refine (answers_any _).mono ?_; rintro e w' ⟨rfl, ⟨m3, rfl⟩⟩
  go_wp2_with fail
  refine (k3.out _).mono ?_; rintro e w' ⟨rfl, ⟨m4, rfl⟩⟩
  go_wp2_with fail
  go_ret
  exact ⟨rfl, by repeat (first | exact Below.refl _ _ | apply below_alloc | apply pw_below_drewN | apply below_drew1)⟩
theorem halves_law (op : Int) (o0 : -9223372036854775808 ≤ op) (o1 : op ≤ 9223372036854775807) (a b u v : BitVec 64) (w : World) : Calls Try.prog 7 #[.int .i64 op, .int .u64 (U a), .int .u64 (U b), .int .u64 (U u), .int .u64 (U v)] w fun e w' => e = .returned (.bool true) ∧ Below w.heap.size w w' := by
  by_cases hn : op < 0
  · obtain ⟨m, hm⟩ : ∃ m, wrap64 (-wrap64 (op + 1)) = m := ⟨_, rfl⟩
    have h0 : 0 ≤ m := by rw [← hm]; unfold wrap64; omega
    have hs := decide_eq_true hn
    have h14 : 0 ≤ m.tmod 14 ∧ m.tmod 14 < 14 := by rw [Int.tmod_eq_emod_of_nonneg h0]; omega
    have hx : m.tmod 14 = 0 ∨ m.tmod 14 = 1 ∨ m.tmod 14 = 2 ∨ m.tmod 14 = 3 ∨ m.tmod 14 = 4 ∨ m.tmod 14 = 5 ∨ m.tmod 14 = 6 ∨ m.tmod 14 = 7 ∨ m.tmod 14 = 8 ∨ m.tmod 14 = 9 ∨ m.tmod 14 = 10 ∨ m.tmod 14 = 11 ∨ m.tmod 14 = 12 ∨ m.tmod 14 = 13 := by omega
    rcases hx with e | e | e | e | e | e | e | e | e | e | e | e | e | e
    · exact halves_neg0 op m hs hm e h0 a b u v w
    · exact halves_neg1 op m hs hm e h0 a b u v w
    · exact halves_neg2 op m hs hm e h0 a b u v w
    · exact halves_neg3 op m hs hm e h0 a b u v w
    · exact halves_neg4 op m hs hm e h0 a b u v w
    · exact halves_neg5 op m hs hm e h0 a b u v w
    · exact halves_neg6 op m hs hm e h0 a b u v w
    · exact halves_neg7 op m hs hm e h0 a b u v w
    · exact halves_neg8 op m hs hm e h0 a b u v w
    · exact halves_neg9 op m hs hm e h0 a b u v w
    · exact halves_neg10 op m hs hm e h0 a b u v w
    · exact halves_neg11 op m hs hm e h0 a b u v w
    · exact halves_neg12 op m hs hm e h0 a b u v w
    · exact halves_neg13 op m hs hm e h0 a b u v w
  · have h0 : 0 ≤ op := by omega
    have hs := decide_eq_false hn
    have h14 : 0 ≤ op.tmod 14 ∧ op.tmod 14 < 14 := by rw [Int.tmod_eq_emod_of_nonneg h0]; omega
    have hx : op.tmod 14 = 0 ∨ op.tmod 14 = 1 ∨ op.tmod 14 = 2 ∨ op.tmod 14 = 3 ∨ op.tmod 14 = 4 ∨ op.tmod 14 = 5 ∨ op.tmod 14 = 6 ∨ op.tmod 14 = 7 ∨ op.tmod 14 = 8 ∨ op.tmod 14 = 9 ∨ op.tmod 14 = 10 ∨ op.tmod 14 = 11 ∨ op.tmod 14 = 12 ∨ op.tmod 14 = 13 := by omega
    rcases hx with e | e | e | e | e | e | e | e | e | e | e | e | e | e
    · exact halves_pos0 op 0 hs e h0 a b u v w
    · exact halves_pos1 op 0 hs e h0 a b u v w
    · exact halves_pos2 op 0 hs e h0 a b u v w
    · exact halves_pos3 op 0 hs e h0 a b u v w
    · exact halves_pos4 op 0 hs e h0 a b u v w
    · exact halves_pos5 op 0 hs e h0 a b u v w
    · exact halves_pos6 op 0 hs e h0 a b u v w
    · exact halves_pos7 op 0 hs e h0 a b u v w
    · exact halves_pos8 op 0 hs e h0 a b u v w
    · exact halves_pos9 op 0 hs e h0 a b u v w
    · exact halves_pos10 op 0 hs e h0 a b u v w
    · exact halves_pos11 op 0 hs e h0 a b u v w
    · exact halves_pos12 op 0 hs e h0 a b u v w
    · exact halves_pos13 op 0 hs e h0 a b u v w
theorem halves_walk (a0 a1 a2 a3 a4 : Int) (W : World) (w0 : (Lit.int .i64 a0).wf = true) (w1 : (Lit.int .u64 a1).wf = true) (w2 : (Lit.int .u64 a2).wf = true) (w3 : (Lit.int .u64 a3).wf = true) (w4 : (Lit.int .u64 a4).wf = true) :
    Calls Try.prog 7 #[.int .i64 a0, .int .u64 a1, .int .u64 a2, .int .u64 a3, .int .u64 a4] W fun e w' => e = .returned (.bool true) ∧ Below W.heap.size W w' := by
  obtain ⟨a, rfl⟩ := ex_U (Go.bounds_u64 w1).1 (Go.bounds_u64 w1).2
  obtain ⟨b, rfl⟩ := ex_U (Go.bounds_u64 w2).1 (Go.bounds_u64 w2).2
  obtain ⟨u, rfl⟩ := ex_U (Go.bounds_u64 w3).1 (Go.bounds_u64 w3).2
  obtain ⟨v, rfl⟩ := ex_U (Go.bounds_u64 w4).1 (Go.bounds_u64 w4).2
  exact halves_law a0 (Go.bounds_i64 w0).1 (Go.bounds_i64 w0).2 a b u v W
end Go.Proofs.Ytdjgjedmbgnjbaa.Alu
