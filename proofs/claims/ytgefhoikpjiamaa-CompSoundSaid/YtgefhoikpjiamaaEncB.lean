/- The pieces of inst.encode: lay, upper, amos in one form; shifted and regs, walked. -/
import Derived.Test.YtgefhoikpjiamaaEncA
import Derived.Deep.RegionHeld3
import Derived.WalkSpells
namespace Go.Proofs.Ytgefhoikpjiamaa.Ins
open Go Go.RowKit Go.Proofs.YtgefhoikpjiamaaW.PrintWords Go.Proofs.YtgefhoikpjiamaaW.PrintLast Go.Proofs.YtgefhoikpjiamaaW.PrintMore
open Go.Proofs.Ytgefhoikpjiamaa.Hp Go.Proofs.Ytgefhoikpjiamaa.Bv
attribute [local go_sem] max2_int min2_int max_two min_two max_three min_three max_four min_four
set_option linter.unusedVariables false
set_option linter.unusedSimpArgs false

/-- The word that lay makes of an opcode, two fields and three registers. -/
def layE (o f3 f7 d s t : Int) : Int := (Go.bits .or .i64 (Go.bits .or .i64 (Go.bits .or .i64 (Go.bits .or .i64 (Go.bits .or .i64 (wrap64 ((Go.bits .and .i64 f7 127) * 33554432)) (wrap64 ((Go.bits .and .i64 t 31) * 1048576))) (wrap64 ((Go.bits .and .i64 s 31) * 32768))) (wrap64 (f3 * 4096))) (wrap64 ((Go.bits .and .i64 d 31) * 128))) o) % 4294967296
theorem lay_any (o f3 f7 : Int) (x0 x1 x2 x3 x4 x5 x6 : Int) (w : World) :
    Calls Try.prog 42 #[.agg #[.int .i64 o, .int .i64 f3, .int .i64 f7], .agg #[.int .i64 x0, .int .i64 x1, .int .i64 x2, .int .i64 x3, .int .i64 x4, .int .i64 x5, .int .i64 x6]] w fun e w' => e = .returned (.int .u32 (layE o f3 f7 x1 x2 x3)) ∧ Fr (fun _ => False) w w' :=
  (InsG.inst_place_lay.calls o f3 f7 x0 x1 x2 x3 x4 x5 x6 (layE o f3 f7 x1 x2 x3) w rfl).mono fun _ _ h => ⟨h.1, Fr.of_below h.2⟩
def splitBE (n : Int) : Int := (InsG.inst_splitB.f n).getD 0
theorem splitB_any (n : Int) (w : World) : Calls Try.prog 61 #[.int .i64 n] w fun e w' => e = .returned (.int .u32 (splitBE n)) ∧ Fr (fun _ => False) w w' :=
  (InsG.inst_splitB.calls n _ w rfl).mono fun _ _ h => ⟨h.1, Fr.drawn h.2⟩
def upE (i : I7) : Int × Bool := (InsG.inst_upper.f i.1 i.2.1 i.2.2.1 i.2.2.2.1 i.2.2.2.2.1 i.2.2.2.2.2.1 i.2.2.2.2.2.2).getD (0, false)
theorem upper_some (x0 x1 x2 x3 x4 x5 x6 : Int) : InsG.inst_upper.f x0 x1 x2 x3 x4 x5 x6 = some (upE (x0, x1, x2, x3, x4, x5, x6)) := by
  unfold upE
  cases h : InsG.inst_upper.f x0 x1 x2 x3 x4 x5 x6 with
  | some r => simp [h]
  | none =>
    exfalso
    unfold InsG.inst_upper.f InsG.inst_splitJ.f at h
    simp only [Option.bind_some] at h
    repeat' split at h
    all_goals simp at h
theorem upper_any (x0 x1 x2 x3 x4 x5 x6 : Int) (w : World) :
    Calls Try.prog 38 #[.agg #[.int .i64 x0, .int .i64 x1, .int .i64 x2, .int .i64 x3, .int .i64 x4, .int .i64 x5, .int .i64 x6]] w fun e w' => e = .returned (.tuple #[.int .u32 (upE (x0, x1, x2, x3, x4, x5, x6)).1, .bool (upE (x0, x1, x2, x3, x4, x5, x6)).2]) ∧ Fr (fun _ => False) w w' :=
  (InsG.inst_upper.calls x0 x1 x2 x3 x4 x5 x6 _ _ w (upper_some x0 x1 x2 x3 x4 x5 x6)).mono fun _ _ h => ⟨h.1, Fr.of_below h.2⟩
def amE (i : I7) : Int × Int × Int × Bool := (InsG.inst_amos.f 40 i.1 i.2.1 i.2.2.1 i.2.2.2.1 i.2.2.2.2.1 i.2.2.2.2.2.1 i.2.2.2.2.2.2).getD (0, 0, 0, false)
theorem amo_some (x : Int) : ∃ r, InsA.inst_amoOp.f x = some r := by
  unfold InsA.inst_amoOp.f
  repeat' split
  all_goals exact ⟨_, rfl⟩
theorem amos_l (n : Nat) : ∀ (k : Nat) (x4 x5 x13 a0 a1 a2 a3 a4 a5 a6 : Int), n < k → 0 ≤ x13 → x13 ≤ 32 → 32 - x13 ≤ n → ∃ r, InsG.inst_amos.l0 k x4 x5 x13 a0 a1 a2 a3 a4 a5 a6 = some r := by
  induction n with
  | zero =>
    intro k x4 x5 x13 a0 a1 a2 a3 a4 a5 a6 hk h0 h1 h2
    obtain ⟨k, rfl⟩ : ∃ j, k = j + 1 := ⟨k - 1, by omega⟩
    unfold InsG.inst_amos.l0
    rw [if_neg (by omega)]
    exact ⟨_, rfl⟩
  | succ n ih =>
    intro k x4 x5 x13 a0 a1 a2 a3 a4 a5 a6 hk h0 h1 h2
    obtain ⟨k, rfl⟩ : ∃ j, k = j + 1 := ⟨k - 1, by omega⟩
    unfold InsG.inst_amos.l0
    by_cases h : x13 < 32
    · rw [if_pos h]
      obtain ⟨r, hr⟩ := amo_some x13
      rw [hr, Option.bind_some]
      by_cases e : r = x4
      · rw [if_pos e]
        exact ⟨_, rfl⟩
      · rw [if_neg e, wrap64_in (by omega) (by omega)]
        exact ih k x4 x5 (x13 + 1) a0 a1 a2 a3 a4 a5 a6 (by omega) (by omega) (by omega) (by omega)
    · rw [if_neg h]
      exact ⟨_, rfl⟩
theorem amos_some (x0 x1 x2 x3 x4 x5 x6 : Int) : InsG.inst_amos.f 40 x0 x1 x2 x3 x4 x5 x6 = some (amE (x0, x1, x2, x3, x4, x5, x6)) := by
  unfold amE
  have hj : ∀ y z, ∃ r, InsG.inst_amos.j0 40 y z x0 x1 x2 x3 x4 x5 x6 = some r := by
    intro y z
    unfold InsG.inst_amos.j0
    exact amos_l 32 39 y z 0 x0 x1 x2 x3 x4 x5 x6 (by omega) (by omega) (by omega) (by omega)
  obtain ⟨r, hr⟩ : ∃ r, InsG.inst_amos.f 40 x0 x1 x2 x3 x4 x5 x6 = some r := by
    unfold InsG.inst_amos.f
    split
    · exact hj _ _
    · exact hj _ _
  simp [hr]
theorem amos_any (x0 x1 x2 x3 x4 x5 x6 : Int) (w : World) :
    Calls Try.prog 43 #[.agg #[.int .i64 x0, .int .i64 x1, .int .i64 x2, .int .i64 x3, .int .i64 x4, .int .i64 x5, .int .i64 x6]] w (FindPost w (amE (x0, x1, x2, x3, x4, x5, x6)).1 (amE (x0, x1, x2, x3, x4, x5, x6)).2.1 (amE (x0, x1, x2, x3, x4, x5, x6)).2.2.1 (amE (x0, x1, x2, x3, x4, x5, x6)).2.2.2) :=
  (InsG.inst_amos.calls 40 x0 x1 x2 x3 x4 x5 x6 _ _ _ _ w (amos_some x0 x1 x2 x3 x4 x5 x6)).mono fun _ _ h => ⟨h.1, Fr.of_below h.2⟩
theorem size_alloc1 (w : World) (o : Obj) : (w.alloc o).heap.size = w.heap.size + 1 := by simp
theorem cells10 {w : World} {g h : Nat} {t u : TypeId} {c0 c1 c2 c3 c4 c5 c6 d0 d1 d2 : Value} (hb : Blk w g t #[c0, c1, c2, c3, c4, c5, c6]) (hc : Blk w h u #[d0, d1, d2]) : w.cell? ⟨g, 0, none⟩ = some c0 ∧ w.cell? ⟨g, 1, none⟩ = some c1 ∧ w.cell? ⟨g, 2, none⟩ = some c2 ∧ w.cell? ⟨g, 3, none⟩ = some c3 ∧ w.cell? ⟨g, 4, none⟩ = some c4 ∧ w.cell? ⟨g, 5, none⟩ = some c5 ∧ w.cell? ⟨g, 6, none⟩ = some c6 ∧ w.cell? ⟨h, 0, none⟩ = some d0 ∧ w.cell? ⟨h, 1, none⟩ = some d1 ∧ w.cell? ⟨h, 2, none⟩ = some d2 :=
  ⟨hb.cell 0, hb.cell 1, hb.cell 2, hb.cell 3, hb.cell 4, hb.cell 5, hb.cell 6, hc.cell 0, hc.cell 1, hc.cell 2⟩
/-- The word of a shift by an immediate. -/
def shW (o f3 f7 d s n m : Int) : Int := Go.bits .or .u32 (layE o f3 f7 d s 0) (IntKind.u32.wrap (IntKind.i64.wrap ((Go.bits .and .i64 n m) * 1048576)))
theorem shifted_28 (x1 x2 x3 x4 x5 x6 : Int) (w : World) : Calls Try.prog 39 #[.agg #[.int .i64 28, .int .i64 x1, .int .i64 x2, .int .i64 x3, .int .i64 x4, .int .i64 x5, .int .i64 x6]] w fun e w' => e = .returned (.tuple #[.int .u32 (shW 19 1 0 x1 x2 x4 63), .bool true]) ∧ Fr (fun _ => False) w w' := by
  unfold shW
  go_enter Try.func39, Try.ntmps39
  go_wp2_with fail
  have HB1 := Lib.hid ((Blk.new w 25 #[.int .i64 28, .int .i64 x1, .int .i64 x2, .int .i64 0, .int .i64 x4, .int .i64 x5, .int .i64 x6]).alloc (.cells #[.int .i64 19, .int .i64 1, .int .i64 0] 50))
  have HB2 := Lib.hid (Blk.new (w.alloc (.cells #[.int .i64 28, .int .i64 x1, .int .i64 x2, .int .i64 0, .int .i64 x4, .int .i64 x5, .int .i64 x6] 25)) 50 #[.int .i64 19, .int .i64 1, .int .i64 0])
  have HF := Lib.hid (((Fr.refl (fun _ => False) w).alloc (.cells #[.int .i64 28, .int .i64 x1, .int .i64 x2, .int .i64 0, .int .i64 x4, .int .i64 x5, .int .i64 x6] 25)).alloc (.cells #[.int .i64 19, .int .i64 1, .int .i64 0] 50))
  generalize hwz : (w.alloc (.cells #[.int .i64 28, .int .i64 x1, .int .i64 x2, .int .i64 0, .int .i64 x4, .int .i64 x5, .int .i64 x6] 25)).alloc (.cells #[.int .i64 19, .int .i64 1, .int .i64 0] 50) = wz at *
  simp only [size_alloc1] at HB2
  go_region_held3 (fun w' => w'.cell? ⟨w.heap.size, 0, none⟩ = some (.int .i64 (28)) ∧ w'.cell? ⟨w.heap.size, 1, none⟩ = some (.int .i64 (x1)) ∧ w'.cell? ⟨w.heap.size, 2, none⟩ = some (.int .i64 (x2)) ∧ w'.cell? ⟨w.heap.size, 3, none⟩ = some (.int .i64 (0)) ∧ w'.cell? ⟨w.heap.size, 4, none⟩ = some (.int .i64 (x4)) ∧ w'.cell? ⟨w.heap.size, 5, none⟩ = some (.int .i64 (x5)) ∧ w'.cell? ⟨w.heap.size, 6, none⟩ = some (.int .i64 (x6)) ∧ w'.cell? ⟨(w.heap.size + 1), 0, none⟩ = some (.int .i64 (19)) ∧ w'.cell? ⟨(w.heap.size + 1), 1, none⟩ = some (.int .i64 (1)) ∧ w'.cell? ⟨(w.heap.size + 1), 2, none⟩ = some (.int .i64 (0))) (first | exact cells10 HB1.out.drew HB2.out.drew | exact cells10 (HB1.out.drew.fr hf2 id) (HB2.out.drew.fr hf2 id))
    (first | (go_at_call 42; refine (lay_any _ _ _ _ _ _ _ _ _ _ _).mono ?_; rintro e w2 ⟨rfl, hf2⟩))
  have hm : IntKind.i64.wrap (IntKind.i64.wrap 64 - 1) = 63 := by decide
  go_wp2
  go_ret2
  exact ⟨by rw [hm]; rfl, HF.out.trans hf2.undrew (fun _ _ => id)⟩
theorem shifted_29 (x1 x2 x3 x4 x5 x6 : Int) (w : World) : Calls Try.prog 39 #[.agg #[.int .i64 29, .int .i64 x1, .int .i64 x2, .int .i64 x3, .int .i64 x4, .int .i64 x5, .int .i64 x6]] w fun e w' => e = .returned (.tuple #[.int .u32 (shW 19 5 0 x1 x2 x4 63), .bool true]) ∧ Fr (fun _ => False) w w' := by
  unfold shW
  go_enter Try.func39, Try.ntmps39
  go_wp2_with fail
  have HB1 := Lib.hid ((Blk.new w 25 #[.int .i64 29, .int .i64 x1, .int .i64 x2, .int .i64 0, .int .i64 x4, .int .i64 x5, .int .i64 x6]).alloc (.cells #[.int .i64 19, .int .i64 5, .int .i64 0] 50))
  have HB2 := Lib.hid (Blk.new (w.alloc (.cells #[.int .i64 29, .int .i64 x1, .int .i64 x2, .int .i64 0, .int .i64 x4, .int .i64 x5, .int .i64 x6] 25)) 50 #[.int .i64 19, .int .i64 5, .int .i64 0])
  have HF := Lib.hid (((Fr.refl (fun _ => False) w).alloc (.cells #[.int .i64 29, .int .i64 x1, .int .i64 x2, .int .i64 0, .int .i64 x4, .int .i64 x5, .int .i64 x6] 25)).alloc (.cells #[.int .i64 19, .int .i64 5, .int .i64 0] 50))
  generalize hwz : (w.alloc (.cells #[.int .i64 29, .int .i64 x1, .int .i64 x2, .int .i64 0, .int .i64 x4, .int .i64 x5, .int .i64 x6] 25)).alloc (.cells #[.int .i64 19, .int .i64 5, .int .i64 0] 50) = wz at *
  simp only [size_alloc1] at HB2
  go_region_held3 (fun w' => w'.cell? ⟨w.heap.size, 0, none⟩ = some (.int .i64 (29)) ∧ w'.cell? ⟨w.heap.size, 1, none⟩ = some (.int .i64 (x1)) ∧ w'.cell? ⟨w.heap.size, 2, none⟩ = some (.int .i64 (x2)) ∧ w'.cell? ⟨w.heap.size, 3, none⟩ = some (.int .i64 (0)) ∧ w'.cell? ⟨w.heap.size, 4, none⟩ = some (.int .i64 (x4)) ∧ w'.cell? ⟨w.heap.size, 5, none⟩ = some (.int .i64 (x5)) ∧ w'.cell? ⟨w.heap.size, 6, none⟩ = some (.int .i64 (x6)) ∧ w'.cell? ⟨(w.heap.size + 1), 0, none⟩ = some (.int .i64 (19)) ∧ w'.cell? ⟨(w.heap.size + 1), 1, none⟩ = some (.int .i64 (5)) ∧ w'.cell? ⟨(w.heap.size + 1), 2, none⟩ = some (.int .i64 (0))) (first | exact cells10 HB1.out.drew HB2.out.drew | exact cells10 (HB1.out.drew.fr hf2 id) (HB2.out.drew.fr hf2 id))
    (first | (go_at_call 42; refine (lay_any _ _ _ _ _ _ _ _ _ _ _).mono ?_; rintro e w2 ⟨rfl, hf2⟩))
  have hm : IntKind.i64.wrap (IntKind.i64.wrap 64 - 1) = 63 := by decide
  go_wp2
  go_ret2
  exact ⟨by rw [hm]; rfl, HF.out.trans hf2.undrew (fun _ _ => id)⟩
theorem shifted_30 (x1 x2 x3 x4 x5 x6 : Int) (w : World) : Calls Try.prog 39 #[.agg #[.int .i64 30, .int .i64 x1, .int .i64 x2, .int .i64 x3, .int .i64 x4, .int .i64 x5, .int .i64 x6]] w fun e w' => e = .returned (.tuple #[.int .u32 (shW 19 5 32 x1 x2 x4 63), .bool true]) ∧ Fr (fun _ => False) w w' := by
  unfold shW
  go_enter Try.func39, Try.ntmps39
  go_wp2_with fail
  have HB1 := Lib.hid ((Blk.new w 25 #[.int .i64 30, .int .i64 x1, .int .i64 x2, .int .i64 0, .int .i64 x4, .int .i64 x5, .int .i64 x6]).alloc (.cells #[.int .i64 19, .int .i64 5, .int .i64 32] 50))
  have HB2 := Lib.hid (Blk.new (w.alloc (.cells #[.int .i64 30, .int .i64 x1, .int .i64 x2, .int .i64 0, .int .i64 x4, .int .i64 x5, .int .i64 x6] 25)) 50 #[.int .i64 19, .int .i64 5, .int .i64 32])
  have HF := Lib.hid (((Fr.refl (fun _ => False) w).alloc (.cells #[.int .i64 30, .int .i64 x1, .int .i64 x2, .int .i64 0, .int .i64 x4, .int .i64 x5, .int .i64 x6] 25)).alloc (.cells #[.int .i64 19, .int .i64 5, .int .i64 32] 50))
  generalize hwz : (w.alloc (.cells #[.int .i64 30, .int .i64 x1, .int .i64 x2, .int .i64 0, .int .i64 x4, .int .i64 x5, .int .i64 x6] 25)).alloc (.cells #[.int .i64 19, .int .i64 5, .int .i64 32] 50) = wz at *
  simp only [size_alloc1] at HB2
  go_region_held3 (fun w' => w'.cell? ⟨w.heap.size, 0, none⟩ = some (.int .i64 (30)) ∧ w'.cell? ⟨w.heap.size, 1, none⟩ = some (.int .i64 (x1)) ∧ w'.cell? ⟨w.heap.size, 2, none⟩ = some (.int .i64 (x2)) ∧ w'.cell? ⟨w.heap.size, 3, none⟩ = some (.int .i64 (0)) ∧ w'.cell? ⟨w.heap.size, 4, none⟩ = some (.int .i64 (x4)) ∧ w'.cell? ⟨w.heap.size, 5, none⟩ = some (.int .i64 (x5)) ∧ w'.cell? ⟨w.heap.size, 6, none⟩ = some (.int .i64 (x6)) ∧ w'.cell? ⟨(w.heap.size + 1), 0, none⟩ = some (.int .i64 (19)) ∧ w'.cell? ⟨(w.heap.size + 1), 1, none⟩ = some (.int .i64 (5)) ∧ w'.cell? ⟨(w.heap.size + 1), 2, none⟩ = some (.int .i64 (32))) (first | exact cells10 HB1.out.drew HB2.out.drew | exact cells10 (HB1.out.drew.fr hf2 id) (HB2.out.drew.fr hf2 id))
    (first | (go_at_call 42; refine (lay_any _ _ _ _ _ _ _ _ _ _ _).mono ?_; rintro e w2 ⟨rfl, hf2⟩))
  have hm : IntKind.i64.wrap (IntKind.i64.wrap 64 - 1) = 63 := by decide
  go_wp2
  go_ret2
  exact ⟨by rw [hm]; rfl, HF.out.trans hf2.undrew (fun _ _ => id)⟩
theorem shifted_42 (x1 x2 x3 x4 x5 x6 : Int) (w : World) : Calls Try.prog 39 #[.agg #[.int .i64 42, .int .i64 x1, .int .i64 x2, .int .i64 x3, .int .i64 x4, .int .i64 x5, .int .i64 x6]] w fun e w' => e = .returned (.tuple #[.int .u32 (shW 27 1 0 x1 x2 x4 31), .bool true]) ∧ Fr (fun _ => False) w w' := by
  unfold shW
  go_enter Try.func39, Try.ntmps39
  go_wp2_with fail
  have HB1 := Lib.hid ((Blk.new w 25 #[.int .i64 42, .int .i64 x1, .int .i64 x2, .int .i64 0, .int .i64 x4, .int .i64 x5, .int .i64 x6]).alloc (.cells #[.int .i64 27, .int .i64 1, .int .i64 0] 50))
  have HB2 := Lib.hid (Blk.new (w.alloc (.cells #[.int .i64 42, .int .i64 x1, .int .i64 x2, .int .i64 0, .int .i64 x4, .int .i64 x5, .int .i64 x6] 25)) 50 #[.int .i64 27, .int .i64 1, .int .i64 0])
  have HF := Lib.hid (((Fr.refl (fun _ => False) w).alloc (.cells #[.int .i64 42, .int .i64 x1, .int .i64 x2, .int .i64 0, .int .i64 x4, .int .i64 x5, .int .i64 x6] 25)).alloc (.cells #[.int .i64 27, .int .i64 1, .int .i64 0] 50))
  generalize hwz : (w.alloc (.cells #[.int .i64 42, .int .i64 x1, .int .i64 x2, .int .i64 0, .int .i64 x4, .int .i64 x5, .int .i64 x6] 25)).alloc (.cells #[.int .i64 27, .int .i64 1, .int .i64 0] 50) = wz at *
  simp only [size_alloc1] at HB2
  go_region_held3 (fun w' => w'.cell? ⟨w.heap.size, 0, none⟩ = some (.int .i64 (42)) ∧ w'.cell? ⟨w.heap.size, 1, none⟩ = some (.int .i64 (x1)) ∧ w'.cell? ⟨w.heap.size, 2, none⟩ = some (.int .i64 (x2)) ∧ w'.cell? ⟨w.heap.size, 3, none⟩ = some (.int .i64 (0)) ∧ w'.cell? ⟨w.heap.size, 4, none⟩ = some (.int .i64 (x4)) ∧ w'.cell? ⟨w.heap.size, 5, none⟩ = some (.int .i64 (x5)) ∧ w'.cell? ⟨w.heap.size, 6, none⟩ = some (.int .i64 (x6)) ∧ w'.cell? ⟨(w.heap.size + 1), 0, none⟩ = some (.int .i64 (27)) ∧ w'.cell? ⟨(w.heap.size + 1), 1, none⟩ = some (.int .i64 (1)) ∧ w'.cell? ⟨(w.heap.size + 1), 2, none⟩ = some (.int .i64 (0))) (first | exact cells10 HB1.out.drew HB2.out.drew | exact cells10 (HB1.out.drew.fr hf2 id) (HB2.out.drew.fr hf2 id))
    (first | (go_at_call 42; refine (lay_any _ _ _ _ _ _ _ _ _ _ _).mono ?_; rintro e w2 ⟨rfl, hf2⟩))
  have hm : IntKind.i64.wrap (IntKind.i64.wrap 32 - 1) = 31 := by decide
  go_wp2
  go_ret2
  exact ⟨by rw [hm]; rfl, HF.out.trans hf2.undrew (fun _ _ => id)⟩
theorem shifted_43 (x1 x2 x3 x4 x5 x6 : Int) (w : World) : Calls Try.prog 39 #[.agg #[.int .i64 43, .int .i64 x1, .int .i64 x2, .int .i64 x3, .int .i64 x4, .int .i64 x5, .int .i64 x6]] w fun e w' => e = .returned (.tuple #[.int .u32 (shW 27 5 0 x1 x2 x4 31), .bool true]) ∧ Fr (fun _ => False) w w' := by
  unfold shW
  go_enter Try.func39, Try.ntmps39
  go_wp2_with fail
  have HB1 := Lib.hid ((Blk.new w 25 #[.int .i64 43, .int .i64 x1, .int .i64 x2, .int .i64 0, .int .i64 x4, .int .i64 x5, .int .i64 x6]).alloc (.cells #[.int .i64 27, .int .i64 5, .int .i64 0] 50))
  have HB2 := Lib.hid (Blk.new (w.alloc (.cells #[.int .i64 43, .int .i64 x1, .int .i64 x2, .int .i64 0, .int .i64 x4, .int .i64 x5, .int .i64 x6] 25)) 50 #[.int .i64 27, .int .i64 5, .int .i64 0])
  have HF := Lib.hid (((Fr.refl (fun _ => False) w).alloc (.cells #[.int .i64 43, .int .i64 x1, .int .i64 x2, .int .i64 0, .int .i64 x4, .int .i64 x5, .int .i64 x6] 25)).alloc (.cells #[.int .i64 27, .int .i64 5, .int .i64 0] 50))
  generalize hwz : (w.alloc (.cells #[.int .i64 43, .int .i64 x1, .int .i64 x2, .int .i64 0, .int .i64 x4, .int .i64 x5, .int .i64 x6] 25)).alloc (.cells #[.int .i64 27, .int .i64 5, .int .i64 0] 50) = wz at *
  simp only [size_alloc1] at HB2
  go_region_held3 (fun w' => w'.cell? ⟨w.heap.size, 0, none⟩ = some (.int .i64 (43)) ∧ w'.cell? ⟨w.heap.size, 1, none⟩ = some (.int .i64 (x1)) ∧ w'.cell? ⟨w.heap.size, 2, none⟩ = some (.int .i64 (x2)) ∧ w'.cell? ⟨w.heap.size, 3, none⟩ = some (.int .i64 (0)) ∧ w'.cell? ⟨w.heap.size, 4, none⟩ = some (.int .i64 (x4)) ∧ w'.cell? ⟨w.heap.size, 5, none⟩ = some (.int .i64 (x5)) ∧ w'.cell? ⟨w.heap.size, 6, none⟩ = some (.int .i64 (x6)) ∧ w'.cell? ⟨(w.heap.size + 1), 0, none⟩ = some (.int .i64 (27)) ∧ w'.cell? ⟨(w.heap.size + 1), 1, none⟩ = some (.int .i64 (5)) ∧ w'.cell? ⟨(w.heap.size + 1), 2, none⟩ = some (.int .i64 (0))) (first | exact cells10 HB1.out.drew HB2.out.drew | exact cells10 (HB1.out.drew.fr hf2 id) (HB2.out.drew.fr hf2 id))
    (first | (go_at_call 42; refine (lay_any _ _ _ _ _ _ _ _ _ _ _).mono ?_; rintro e w2 ⟨rfl, hf2⟩))
  have hm : IntKind.i64.wrap (IntKind.i64.wrap 32 - 1) = 31 := by decide
  go_wp2
  go_ret2
  exact ⟨by rw [hm]; rfl, HF.out.trans hf2.undrew (fun _ _ => id)⟩
theorem shifted_44 (x1 x2 x3 x4 x5 x6 : Int) (w : World) : Calls Try.prog 39 #[.agg #[.int .i64 44, .int .i64 x1, .int .i64 x2, .int .i64 x3, .int .i64 x4, .int .i64 x5, .int .i64 x6]] w fun e w' => e = .returned (.tuple #[.int .u32 (shW 27 5 32 x1 x2 x4 31), .bool true]) ∧ Fr (fun _ => False) w w' := by
  unfold shW
  go_enter Try.func39, Try.ntmps39
  go_wp2_with fail
  have HB1 := Lib.hid ((Blk.new w 25 #[.int .i64 44, .int .i64 x1, .int .i64 x2, .int .i64 0, .int .i64 x4, .int .i64 x5, .int .i64 x6]).alloc (.cells #[.int .i64 27, .int .i64 5, .int .i64 32] 50))
  have HB2 := Lib.hid (Blk.new (w.alloc (.cells #[.int .i64 44, .int .i64 x1, .int .i64 x2, .int .i64 0, .int .i64 x4, .int .i64 x5, .int .i64 x6] 25)) 50 #[.int .i64 27, .int .i64 5, .int .i64 32])
  have HF := Lib.hid (((Fr.refl (fun _ => False) w).alloc (.cells #[.int .i64 44, .int .i64 x1, .int .i64 x2, .int .i64 0, .int .i64 x4, .int .i64 x5, .int .i64 x6] 25)).alloc (.cells #[.int .i64 27, .int .i64 5, .int .i64 32] 50))
  generalize hwz : (w.alloc (.cells #[.int .i64 44, .int .i64 x1, .int .i64 x2, .int .i64 0, .int .i64 x4, .int .i64 x5, .int .i64 x6] 25)).alloc (.cells #[.int .i64 27, .int .i64 5, .int .i64 32] 50) = wz at *
  simp only [size_alloc1] at HB2
  go_region_held3 (fun w' => w'.cell? ⟨w.heap.size, 0, none⟩ = some (.int .i64 (44)) ∧ w'.cell? ⟨w.heap.size, 1, none⟩ = some (.int .i64 (x1)) ∧ w'.cell? ⟨w.heap.size, 2, none⟩ = some (.int .i64 (x2)) ∧ w'.cell? ⟨w.heap.size, 3, none⟩ = some (.int .i64 (0)) ∧ w'.cell? ⟨w.heap.size, 4, none⟩ = some (.int .i64 (x4)) ∧ w'.cell? ⟨w.heap.size, 5, none⟩ = some (.int .i64 (x5)) ∧ w'.cell? ⟨w.heap.size, 6, none⟩ = some (.int .i64 (x6)) ∧ w'.cell? ⟨(w.heap.size + 1), 0, none⟩ = some (.int .i64 (27)) ∧ w'.cell? ⟨(w.heap.size + 1), 1, none⟩ = some (.int .i64 (5)) ∧ w'.cell? ⟨(w.heap.size + 1), 2, none⟩ = some (.int .i64 (32))) (first | exact cells10 HB1.out.drew HB2.out.drew | exact cells10 (HB1.out.drew.fr hf2 id) (HB2.out.drew.fr hf2 id))
    (first | (go_at_call 42; refine (lay_any _ _ _ _ _ _ _ _ _ _ _).mono ?_; rintro e w2 ⟨rfl, hf2⟩))
  have hm : IntKind.i64.wrap (IntKind.i64.wrap 32 - 1) = 31 := by decide
  go_wp2
  go_ret2
  exact ⟨by rw [hm]; rfl, HF.out.trans hf2.undrew (fun _ _ => id)⟩
theorem shifted_no (x0 x1 x2 x3 x4 x5 x6 : Int) (w : World) (h28 : x0 ≠ 28) (h29 : x0 ≠ 29) (h30 : x0 ≠ 30) (h42 : x0 ≠ 42) (h43 : x0 ≠ 43) (h44 : x0 ≠ 44) : Calls Try.prog 39 #[.agg #[.int .i64 x0, .int .i64 x1, .int .i64 x2, .int .i64 x3, .int .i64 x4, .int .i64 x5, .int .i64 x6]] w fun e w' => e = .returned (.tuple #[.int .u32 0, .bool false]) ∧ Fr (fun _ => False) w w' := by
  have t28 : (x0 == 28) = false := beq_eq_false_iff_ne.2 h28
  have t29 : (x0 == 29) = false := beq_eq_false_iff_ne.2 h29
  have t30 : (x0 == 30) = false := beq_eq_false_iff_ne.2 h30
  have t42 : (x0 == 42) = false := beq_eq_false_iff_ne.2 h42
  have t43 : (x0 == 43) = false := beq_eq_false_iff_ne.2 h43
  have t44 : (x0 == 44) = false := beq_eq_false_iff_ne.2 h44
  clear h28 h29 h30 h42 h43 h44
  have HF := Lib.hid (((Fr.refl (fun _ => False) w).alloc (.cells #[.int .i64 x0, .int .i64 x1, .int .i64 x2, .int .i64 0, .int .i64 x4, .int .i64 x5, .int .i64 x6] 25)).alloc (.cells #[.int .i64 0, .int .i64 0, .int .i64 0] 50))
  go_enter Try.func39, Try.ntmps39
  go_wp2_with fail
  go_ret2
  exact ⟨rfl, HF.out⟩
/-- What shifted answers. -/
def shE (i : I7) : Int × Bool :=
  if i.1 = 28 then (shW 19 1 0 i.2.1 i.2.2.1 i.2.2.2.2.1 63, true) else if i.1 = 29 then (shW 19 5 0 i.2.1 i.2.2.1 i.2.2.2.2.1 63, true) else if i.1 = 30 then (shW 19 5 32 i.2.1 i.2.2.1 i.2.2.2.2.1 63, true) else if i.1 = 42 then (shW 27 1 0 i.2.1 i.2.2.1 i.2.2.2.2.1 31, true) else if i.1 = 43 then (shW 27 5 0 i.2.1 i.2.2.1 i.2.2.2.2.1 31, true) else if i.1 = 44 then (shW 27 5 32 i.2.1 i.2.2.1 i.2.2.2.2.1 31, true) else (0, false)
theorem shifted_any (x0 x1 x2 x3 x4 x5 x6 : Int) (w : World) : Calls Try.prog 39 #[.agg #[.int .i64 x0, .int .i64 x1, .int .i64 x2, .int .i64 x3, .int .i64 x4, .int .i64 x5, .int .i64 x6]] w fun e w' => e = .returned (.tuple #[.int .u32 (shE (x0, x1, x2, x3, x4, x5, x6)).1, .bool (shE (x0, x1, x2, x3, x4, x5, x6)).2]) ∧ Fr (fun _ => False) w w' := by
  unfold shE
  by_cases h28 : x0 = 28
  · subst h28
    exact shifted_28 x1 x2 x3 x4 x5 x6 w
  by_cases h29 : x0 = 29
  · subst h29
    exact shifted_29 x1 x2 x3 x4 x5 x6 w
  by_cases h30 : x0 = 30
  · subst h30
    exact shifted_30 x1 x2 x3 x4 x5 x6 w
  by_cases h42 : x0 = 42
  · subst h42
    exact shifted_42 x1 x2 x3 x4 x5 x6 w
  by_cases h43 : x0 = 43
  · subst h43
    exact shifted_43 x1 x2 x3 x4 x5 x6 w
  by_cases h44 : x0 = 44
  · subst h44
    exact shifted_44 x1 x2 x3 x4 x5 x6 w
  dsimp only
  rw [if_neg h28, if_neg h29, if_neg h30, if_neg h42, if_neg h43, if_neg h44]
  exact shifted_no x0 x1 x2 x3 x4 x5 x6 w h28 h29 h30 h42 h43 h44
/-- The place of an operator with two registers. -/
def regsL : List Nat → Int → Option (Int × Int × Int)
  | [], _ => none
  | b :: l, op => match findP (regT b) op with
    | some j => some (51, (j : Int), (b : Int))
    | none => match findP (r32T b) op with
      | some j => some (59, (j : Int), (b : Int))
      | none => regsL l op
def regsE (op : Int) : Option (Int × Int × Int) := regsL [0, 32, 1] op
def pv : Option (Int × Int × Int) → Int × Int × Int
  | some p => p
  | none => (0, 0, 0)
theorem idx60 (cs : Array Value) (i : Nat) (h : cs.size = 3) (hi : i < 3) (v : Value) (hv : cs[i]? = some v) (W : World) : (Instr.index 63 (.agg cs) (.int .i64 (i : Int))).run Try.prog W = .ok v W := by
  have hn : (0 : Int) ≤ (i : Int) ∧ (i : Int) < 3 := by omega
  have hs := cs.size
  simp [Instr.index, Try.underlying63, run_underlying Try.underlying63, asIntOf, hn, go_sem]
  first
    | (rw [if_pos hi, hv]; rfl)
    | (rw [hv]; rfl)
    | skip
def AtRegs (op : Int) (w : World) (g : Nat) (i : Value) (kq : Nat) (wr : World) : Prop :=
  ((i = .int .i64 0 ∧ regsE op = regsL [0, 32, 1] op ∧ 3 ≤ kq) ∨ (i = .int .i64 1 ∧ regsE op = regsL [32, 1] op ∧ 2 ≤ kq) ∨ (i = .int .i64 2 ∧ regsE op = regsL [1] op ∧ 1 ≤ kq) ∨ (i = .int .i64 3 ∧ regsE op = none)) ∧
  Fr (fun _ => False) w wr ∧ Blk wr g 50 #[.int .i64 0, .int .i64 0, .int .i64 0]
theorem regsL_1 {b : Nat} {l : List Nat} {op : Int} {j : Nat} (h : findP (regT b) op = some j) : regsL (b :: l) op = some (51, (j : Int), (b : Int)) := by unfold regsL; rw [h]
theorem regsL_2 {b : Nat} {l : List Nat} {op : Int} {j : Nat} (h : findP (regT b) op = none) (h2 : findP (r32T b) op = some j) : regsL (b :: l) op = some (59, (j : Int), (b : Int)) := by rw [regsL, h]; dsimp only; rw [h2]
theorem regsL_3 {b : Nat} {l : List Nat} {op : Int} (h : findP (regT b) op = none) (h2 : findP (r32T b) op = none) : regsL (b :: l) op = regsL l op := by rw [regsL, h]; dsimp only; rw [h2]
set_option maxHeartbeats 4000000 in
theorem regs_any (op : Int) (r : Option (Int × Int × Int)) (hr : regsE op = r) (w : World) :
    Calls Try.prog 41 #[.int .i64 op] w (FindPost w (pv r).1 (pv r).2.1 (pv r).2.2 r.isSome) := by
  have hmf : ∀ (fn : Fn) (first cap : Array Value) (w : World), (Instr.makeFunc fn first cap).run Try.prog w = .ok (.func fn first cap) w := fun _ _ _ _ => rfl
  have i0 : ∀ W : World, (Instr.index 63 (.agg #[.int .i64 0, .int .i64 32, .int .i64 1]) (.int .i64 0)).run Try.prog W = .ok (.int .i64 0) W := fun W => idx60 _ 0 rfl (by decide) _ rfl W
  have i1 : ∀ W : World, (Instr.index 63 (.agg #[.int .i64 0, .int .i64 32, .int .i64 1]) (.int .i64 1)).run Try.prog W = .ok (.int .i64 32) W := fun W => idx60 _ 1 rfl (by decide) _ rfl W
  have i2 : ∀ W : World, (Instr.index 63 (.agg #[.int .i64 0, .int .i64 32, .int .i64 1]) (.int .i64 2)).run Try.prog W = .ok (.int .i64 1) W := fun W => idx60 _ 2 rfl (by decide) _ rfl W
  have HR := Lib.hid hr
  clear hr
  go_enter Try.func41, Try.ntmps41
  go_wp2_with fail
  have HF0 := Lib.hid ((Fr.refl (fun _ => False) w).alloc (.cells #[.int .i64 0, .int .i64 0, .int .i64 0] 50))
  have HB0 := Lib.hid (Blk.new w 50 #[.int .i64 0, .int .i64 0, .int .i64 0])
  go_loopg [11] 3 (fun kq i wr => Hid (AtRegs op w w.heap.size i kq wr))
  case atStart => exact Lib.hid ⟨.inl ⟨rfl, rfl, by omega⟩, HF0.out, HB0.out⟩
  case round =>
    obtain ⟨hcs, hf, hb⟩ := hrel.out
    have HF := Lib.hid hf
    have HB := Lib.hid hb
    clear hrel hf hb HF0 HB0
    rcases hcs with ⟨rfl, hL, hkq⟩ | ⟨rfl, hL, hkq⟩ | ⟨rfl, hL, hkq⟩ | ⟨rfl, hL⟩
    · have HL := Lib.hid hL
      clear hL
      go_wp2_with fail
      have HG := Lib.hid (Blk.new wr 3 #[.int .i64 ((0 : Nat) : Int)])
      have HF1 := Lib.hid (HF.out.alloc (.cells #[.int .i64 0] 3))
      have HB1 := Lib.hid (HB.out.alloc (.cells #[.int .i64 0] 3))
      rcases hfp : findP (regT 0) op with _ | jj
      · have HP := Lib.hid hfp
        refine (find_regOp_no 0 wr.heap.size op 51 0 _ HG.out hfp).mono ?_
        clear hfp
        rintro e w2 ⟨rfl, hf2⟩
        have HG2 := Lib.hid ((HG.out.fr hf2 id).alloc (.cells #[.int .i64 0, .int .i64 0, .int .i64 0] 50))
        have HF2 := Lib.hid ((HF1.out.trans hf2 (fun _ _ => id)).alloc (.cells #[.int .i64 0, .int .i64 0, .int .i64 0] 50))
        have HB2 := Lib.hid ((HB1.out.fr hf2 id).alloc (.cells #[.int .i64 0, .int .i64 0, .int .i64 0] 50))
        have kg := (HG.out.fr hf2 id).cell 0
        simp at kg
        have kg2 := HG2.out.cell 0
        simp at kg2
        clear hf2 HF1 HB1 HG
        go_wp2_with fail
        rcases hfp : findP (r32T 0) op with _ | jj
        · refine (find_reg32Op_no 0 wr.heap.size op 59 0 _ HG2.out hfp).mono ?_
          have hL2 := Lib.hid (HL.out.trans (regsL_3 HP.out hfp))
          clear hfp
          rintro e w3 ⟨rfl, hf3⟩
          have HF3 := Lib.hid (HF2.out.trans hf3 (fun _ _ => id))
          have HB3 := Lib.hid (HB2.out.fr hf3 id)
          clear hf3 HF2 HB2 HG2 kg kg2
          go_wp2_with fail
          go_roundg (2 - 0)
          case measure => omega
          case rel => exact Lib.hid ⟨(.inr (.inl ⟨rfl, hL2.out, by omega⟩)), HF3.out.alloc _, HB3.out.alloc _⟩
        · refine (find_reg32Op_yes 0 wr.heap.size op 59 0 _ HG2.out jj hfp).mono ?_
          have HQ := Lib.hid hfp
          clear hfp
          rintro e w3 ⟨rfl, hf3⟩
          have HF3 := Lib.hid (HF2.out.trans hf3 (fun _ _ => id))
          have HB3 := Lib.hid (HB2.out.fr hf3 id)
          clear hf3 HF2 HB2 HG2 kg kg2
          obtain rfl : r = some (59, (jj : Int), 0) := HR.out.symm.trans (HL.out.trans (regsL_2 HP.out HQ.out))
          have HBx := Lib.hid (HB3.out.alloc (.cells #[.int .i64 59, .int .i64 ((jj : Int)), .int .i64 0] 50))
          obtain ⟨k0, k1, k2⟩ := (show _ ∧ _ ∧ _ from ⟨HBx.out.cell 0, HBx.out.cell 1, HBx.out.cell 2⟩)
          obtain ⟨q0, q1, q2⟩ := (show _ ∧ _ ∧ _ from ⟨HBx.out.frozen 0, HBx.out.frozen 1, HBx.out.frozen 2⟩)
          simp at k0 k1 k2 q0 q1 q2
          go_wp2_with fail
          refine bodyPost_ret (results_ct rfl _ _ w.heap.size 50 #[.int .i64 59, .int .i64 ((jj : Int)), .int .i64 0] (0, 0) _ rfl ?_ Try.underlying50 rfl (by kernel_rfl)) rfl ?_
          · exact blk3 HBx.out _ _ _
          · exact ⟨rfl, fr3 (HF3.out.alloc _) (Nat.le_refl _) _ _ _⟩

      · have HP := Lib.hid hfp
        refine (find_regOp_yes 0 wr.heap.size op 51 0 _ HG.out jj hfp).mono ?_
        clear hfp
        rintro e w2 ⟨rfl, hf2⟩
        have HF2 := Lib.hid (HF1.out.trans hf2 (fun _ _ => id))
        have HB2 := Lib.hid (HB1.out.fr hf2 id)
        clear hf2 HF1 HB1 HG
        obtain rfl : r = some (51, (jj : Int), 0) := HR.out.symm.trans (HL.out.trans (regsL_1 HP.out))
        have HBx := Lib.hid (HB2.out.alloc (.cells #[.int .i64 51, .int .i64 ((jj : Int)), .int .i64 0] 50))
        obtain ⟨k0, k1, k2⟩ := (show _ ∧ _ ∧ _ from ⟨HBx.out.cell 0, HBx.out.cell 1, HBx.out.cell 2⟩)
        obtain ⟨q0, q1, q2⟩ := (show _ ∧ _ ∧ _ from ⟨HBx.out.frozen 0, HBx.out.frozen 1, HBx.out.frozen 2⟩)
        simp at k0 k1 k2 q0 q1 q2
        go_wp2_with fail
        refine bodyPost_ret (results_ct rfl _ _ w.heap.size 50 #[.int .i64 51, .int .i64 ((jj : Int)), .int .i64 0] (0, 0) _ rfl ?_ Try.underlying50 rfl (by kernel_rfl)) rfl ?_
        · exact blk3 HBx.out _ _ _
        · exact ⟨rfl, fr3 (HF2.out.alloc _) (Nat.le_refl _) _ _ _⟩
    · have HL := Lib.hid hL
      clear hL
      go_wp2_with fail
      have HG := Lib.hid (Blk.new wr 3 #[.int .i64 ((32 : Nat) : Int)])
      have HF1 := Lib.hid (HF.out.alloc (.cells #[.int .i64 32] 3))
      have HB1 := Lib.hid (HB.out.alloc (.cells #[.int .i64 32] 3))
      rcases hfp : findP (regT 32) op with _ | jj
      · have HP := Lib.hid hfp
        refine (find_regOp_no 32 wr.heap.size op 51 32 _ HG.out hfp).mono ?_
        clear hfp
        rintro e w2 ⟨rfl, hf2⟩
        have HG2 := Lib.hid ((HG.out.fr hf2 id).alloc (.cells #[.int .i64 0, .int .i64 0, .int .i64 0] 50))
        have HF2 := Lib.hid ((HF1.out.trans hf2 (fun _ _ => id)).alloc (.cells #[.int .i64 0, .int .i64 0, .int .i64 0] 50))
        have HB2 := Lib.hid ((HB1.out.fr hf2 id).alloc (.cells #[.int .i64 0, .int .i64 0, .int .i64 0] 50))
        have kg := (HG.out.fr hf2 id).cell 0
        simp at kg
        have kg2 := HG2.out.cell 0
        simp at kg2
        clear hf2 HF1 HB1 HG
        go_wp2_with fail
        rcases hfp : findP (r32T 32) op with _ | jj
        · refine (find_reg32Op_no 32 wr.heap.size op 59 32 _ HG2.out hfp).mono ?_
          have hL2 := Lib.hid (HL.out.trans (regsL_3 HP.out hfp))
          clear hfp
          rintro e w3 ⟨rfl, hf3⟩
          have HF3 := Lib.hid (HF2.out.trans hf3 (fun _ _ => id))
          have HB3 := Lib.hid (HB2.out.fr hf3 id)
          clear hf3 HF2 HB2 HG2 kg kg2
          go_wp2_with fail
          go_roundg (2 - 1)
          case measure => omega
          case rel => exact Lib.hid ⟨(.inr (.inr (.inl ⟨rfl, hL2.out, by omega⟩))), HF3.out.alloc _, HB3.out.alloc _⟩
        · refine (find_reg32Op_yes 32 wr.heap.size op 59 32 _ HG2.out jj hfp).mono ?_
          have HQ := Lib.hid hfp
          clear hfp
          rintro e w3 ⟨rfl, hf3⟩
          have HF3 := Lib.hid (HF2.out.trans hf3 (fun _ _ => id))
          have HB3 := Lib.hid (HB2.out.fr hf3 id)
          clear hf3 HF2 HB2 HG2 kg kg2
          obtain rfl : r = some (59, (jj : Int), 32) := HR.out.symm.trans (HL.out.trans (regsL_2 HP.out HQ.out))
          have HBx := Lib.hid (HB3.out.alloc (.cells #[.int .i64 59, .int .i64 ((jj : Int)), .int .i64 32] 50))
          obtain ⟨k0, k1, k2⟩ := (show _ ∧ _ ∧ _ from ⟨HBx.out.cell 0, HBx.out.cell 1, HBx.out.cell 2⟩)
          obtain ⟨q0, q1, q2⟩ := (show _ ∧ _ ∧ _ from ⟨HBx.out.frozen 0, HBx.out.frozen 1, HBx.out.frozen 2⟩)
          simp at k0 k1 k2 q0 q1 q2
          go_wp2_with fail
          refine bodyPost_ret (results_ct rfl _ _ w.heap.size 50 #[.int .i64 59, .int .i64 ((jj : Int)), .int .i64 32] (0, 0) _ rfl ?_ Try.underlying50 rfl (by kernel_rfl)) rfl ?_
          · exact blk3 HBx.out _ _ _
          · exact ⟨rfl, fr3 (HF3.out.alloc _) (Nat.le_refl _) _ _ _⟩

      · have HP := Lib.hid hfp
        refine (find_regOp_yes 32 wr.heap.size op 51 32 _ HG.out jj hfp).mono ?_
        clear hfp
        rintro e w2 ⟨rfl, hf2⟩
        have HF2 := Lib.hid (HF1.out.trans hf2 (fun _ _ => id))
        have HB2 := Lib.hid (HB1.out.fr hf2 id)
        clear hf2 HF1 HB1 HG
        obtain rfl : r = some (51, (jj : Int), 32) := HR.out.symm.trans (HL.out.trans (regsL_1 HP.out))
        have HBx := Lib.hid (HB2.out.alloc (.cells #[.int .i64 51, .int .i64 ((jj : Int)), .int .i64 32] 50))
        obtain ⟨k0, k1, k2⟩ := (show _ ∧ _ ∧ _ from ⟨HBx.out.cell 0, HBx.out.cell 1, HBx.out.cell 2⟩)
        obtain ⟨q0, q1, q2⟩ := (show _ ∧ _ ∧ _ from ⟨HBx.out.frozen 0, HBx.out.frozen 1, HBx.out.frozen 2⟩)
        simp at k0 k1 k2 q0 q1 q2
        go_wp2_with fail
        refine bodyPost_ret (results_ct rfl _ _ w.heap.size 50 #[.int .i64 51, .int .i64 ((jj : Int)), .int .i64 32] (0, 0) _ rfl ?_ Try.underlying50 rfl (by kernel_rfl)) rfl ?_
        · exact blk3 HBx.out _ _ _
        · exact ⟨rfl, fr3 (HF2.out.alloc _) (Nat.le_refl _) _ _ _⟩
    · have HL := Lib.hid hL
      clear hL
      go_wp2_with fail
      have HG := Lib.hid (Blk.new wr 3 #[.int .i64 ((1 : Nat) : Int)])
      have HF1 := Lib.hid (HF.out.alloc (.cells #[.int .i64 1] 3))
      have HB1 := Lib.hid (HB.out.alloc (.cells #[.int .i64 1] 3))
      rcases hfp : findP (regT 1) op with _ | jj
      · have HP := Lib.hid hfp
        refine (find_regOp_no 1 wr.heap.size op 51 1 _ HG.out hfp).mono ?_
        clear hfp
        rintro e w2 ⟨rfl, hf2⟩
        have HG2 := Lib.hid ((HG.out.fr hf2 id).alloc (.cells #[.int .i64 0, .int .i64 0, .int .i64 0] 50))
        have HF2 := Lib.hid ((HF1.out.trans hf2 (fun _ _ => id)).alloc (.cells #[.int .i64 0, .int .i64 0, .int .i64 0] 50))
        have HB2 := Lib.hid ((HB1.out.fr hf2 id).alloc (.cells #[.int .i64 0, .int .i64 0, .int .i64 0] 50))
        have kg := (HG.out.fr hf2 id).cell 0
        simp at kg
        have kg2 := HG2.out.cell 0
        simp at kg2
        clear hf2 HF1 HB1 HG
        go_wp2_with fail
        rcases hfp : findP (r32T 1) op with _ | jj
        · refine (find_reg32Op_no 1 wr.heap.size op 59 1 _ HG2.out hfp).mono ?_
          have hL2 := Lib.hid (HL.out.trans (regsL_3 HP.out hfp))
          clear hfp
          rintro e w3 ⟨rfl, hf3⟩
          have HF3 := Lib.hid (HF2.out.trans hf3 (fun _ _ => id))
          have HB3 := Lib.hid (HB2.out.fr hf3 id)
          clear hf3 HF2 HB2 HG2 kg kg2
          go_wp2_with fail
          go_roundg (2 - 2)
          case measure => omega
          case rel => exact Lib.hid ⟨(.inr (.inr (.inr ⟨rfl, hL2.out⟩))), HF3.out.alloc _, HB3.out.alloc _⟩
        · refine (find_reg32Op_yes 1 wr.heap.size op 59 1 _ HG2.out jj hfp).mono ?_
          have HQ := Lib.hid hfp
          clear hfp
          rintro e w3 ⟨rfl, hf3⟩
          have HF3 := Lib.hid (HF2.out.trans hf3 (fun _ _ => id))
          have HB3 := Lib.hid (HB2.out.fr hf3 id)
          clear hf3 HF2 HB2 HG2 kg kg2
          obtain rfl : r = some (59, (jj : Int), 1) := HR.out.symm.trans (HL.out.trans (regsL_2 HP.out HQ.out))
          have HBx := Lib.hid (HB3.out.alloc (.cells #[.int .i64 59, .int .i64 ((jj : Int)), .int .i64 1] 50))
          obtain ⟨k0, k1, k2⟩ := (show _ ∧ _ ∧ _ from ⟨HBx.out.cell 0, HBx.out.cell 1, HBx.out.cell 2⟩)
          obtain ⟨q0, q1, q2⟩ := (show _ ∧ _ ∧ _ from ⟨HBx.out.frozen 0, HBx.out.frozen 1, HBx.out.frozen 2⟩)
          simp at k0 k1 k2 q0 q1 q2
          go_wp2_with fail
          refine bodyPost_ret (results_ct rfl _ _ w.heap.size 50 #[.int .i64 59, .int .i64 ((jj : Int)), .int .i64 1] (0, 0) _ rfl ?_ Try.underlying50 rfl (by kernel_rfl)) rfl ?_
          · exact blk3 HBx.out _ _ _
          · exact ⟨rfl, fr3 (HF3.out.alloc _) (Nat.le_refl _) _ _ _⟩

      · have HP := Lib.hid hfp
        refine (find_regOp_yes 1 wr.heap.size op 51 1 _ HG.out jj hfp).mono ?_
        clear hfp
        rintro e w2 ⟨rfl, hf2⟩
        have HF2 := Lib.hid (HF1.out.trans hf2 (fun _ _ => id))
        have HB2 := Lib.hid (HB1.out.fr hf2 id)
        clear hf2 HF1 HB1 HG
        obtain rfl : r = some (51, (jj : Int), 1) := HR.out.symm.trans (HL.out.trans (regsL_1 HP.out))
        have HBx := Lib.hid (HB2.out.alloc (.cells #[.int .i64 51, .int .i64 ((jj : Int)), .int .i64 1] 50))
        obtain ⟨k0, k1, k2⟩ := (show _ ∧ _ ∧ _ from ⟨HBx.out.cell 0, HBx.out.cell 1, HBx.out.cell 2⟩)
        obtain ⟨q0, q1, q2⟩ := (show _ ∧ _ ∧ _ from ⟨HBx.out.frozen 0, HBx.out.frozen 1, HBx.out.frozen 2⟩)
        simp at k0 k1 k2 q0 q1 q2
        go_wp2_with fail
        refine bodyPost_ret (results_ct rfl _ _ w.heap.size 50 #[.int .i64 51, .int .i64 ((jj : Int)), .int .i64 1] (0, 0) _ rfl ?_ Try.underlying50 rfl (by kernel_rfl)) rfl ?_
        · exact blk3 HBx.out _ _ _
        · exact ⟨rfl, fr3 (HF2.out.alloc _) (Nat.le_refl _) _ _ _⟩
    · obtain rfl : r = none := HR.out.symm.trans hL
      clear hL
      obtain ⟨k0, k1, k2⟩ := (show _ ∧ _ ∧ _ from ⟨HB.out.cell 0, HB.out.cell 1, HB.out.cell 2⟩)
      obtain ⟨q0, q1, q2⟩ := (show _ ∧ _ ∧ _ from ⟨HB.out.frozen 0, HB.out.frozen 1, HB.out.frozen 2⟩)
      simp at k0 k1 k2
      go_wp2_with fail
      refine bodyPost_ret (results_ct rfl _ _ w.heap.size 50 #[.int .i64 0, .int .i64 0, .int .i64 0] (0, 0) _ rfl ?_ Try.underlying50 rfl (by kernel_rfl)) rfl ?_
      · exact blk3 HB.out _ _ _
      · exact ⟨rfl, fr3 HF.out (Nat.le_refl _) _ _ _⟩
end Go.Proofs.Ytgefhoikpjiamaa.Ins
