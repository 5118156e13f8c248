/- The document's Expand, walked: names for its numbers. -/
import Derived.Test.YtgefhoikpjiamaaCmpI
import Derived.Deep.Cut
import Derived.Outline
namespace Go.Proofs.Ytgefhoikpjiamaa.Cmp
open Go Go.RowKit Go.Proofs.YtgefhoikpjiamaaW.PrintWords Go.Proofs.YtgefhoikpjiamaaW.PrintLast Go.Proofs.YtgefhoikpjiamaaW.PrintMore
open Go.Proofs.Ytgefhoikpjiamaa.Hp Go.Proofs.Ytgefhoikpjiamaa.Bv
attribute [local go_sem] max2_int min2_int max_two min_two max_three min_three max_four min_four
set_option linter.unusedVariables false
set_option linter.unusedSimpArgs false
def rbr (h : Nat) : Nat := pc h [(12, 12), (6, 5), (2, 2), (11, 10), (4, 3)] 0 * 2 ^ 1
theorem rbr_lt (h : Nat) : rbr h < 65536 := pc_lt16 h _ 1 (by decide)
def rspn (h : Nat) : Nat := pc h [(12, 12), (4, 3), (5, 5), (2, 2), (6, 6)] 0 * 2 ^ 4
theorem rspn_lt (h : Nat) : rspn h < 65536 := pc_lt16 h _ 4 (by decide)
def rjm (h : Nat) : Nat := pc h [(12, 12), (8, 8), (10, 9), (6, 6), (7, 7), (2, 2), (11, 11), (5, 3)] 0 * 2 ^ 1
theorem rjm_lt (h : Nat) : rjm h < 65536 := pc_lt16 h _ 1 (by decide)
theorem rbranch_eq (h : Nat) : rbranch h = sg (rbr h) 9 := rfl
theorem rsp_eq (h : Nat) : rsp h = sg (rspn h) 10 := rfl
theorem rjump_eq (h : Nat) : rjump h = sg (rjm h) 12 := rfl
theorem rshort_bd (h : Nat) : -65536 ≤ rshort h ∧ rshort h < 65536 := by
  have g := rsix_lt h
  unfold rshort sg
  split <;> constructor <;> simp at * <;> omega
theorem nat_pos {a : Nat} (h : 0 < a) : decide ((0 : Int) < (a : Int)) = true ∧ decide (0 < a) = true := ⟨decide_eq_true (by omega), decide_eq_true h⟩
theorem nat_npos {a : Nat} (h : ¬ 0 < a) : decide ((0 : Int) < (a : Int)) = false ∧ decide (0 < a) = false := ⟨decide_eq_false (by omega), decide_eq_false h⟩
theorem fN_s (h hi lo n : Nat) (hn : hi + 1 - lo = n) (hl : n ≤ 5) : fN h hi lo < 32 := by
  unfold fN
  rw [hn]
  exact Nat.lt_of_lt_of_le (Nat.mod_lt _ (Nat.two_pow_pos _)) (Nat.pow_le_pow_right (n := 2) (by decide) hl)
theorem blkat7 {w : World} {g : Nat} {t : TypeId} {c0 c1 c2 c3 c4 c5 c6 : Value} (h : Blk w g t #[c0, c1, c2, c3, c4, c5, c6]) : w.cell? ⟨g, 0, none⟩ = some c0 ∧ w.cell? ⟨g, 1, none⟩ = some c1 ∧ w.cell? ⟨g, 2, none⟩ = some c2 ∧ w.cell? ⟨g, 3, none⟩ = some c3 ∧ w.cell? ⟨g, 4, none⟩ = some c4 ∧ w.cell? ⟨g, 5, none⟩ = some c5 ∧ w.cell? ⟨g, 6, none⟩ = some c6 ∧ w.frozen? ⟨g, 0, none⟩ = false ∧ w.frozen? ⟨g, 1, none⟩ = false ∧ w.frozen? ⟨g, 2, none⟩ = false ∧ w.frozen? ⟨g, 3, none⟩ = false ∧ w.frozen? ⟨g, 4, none⟩ = false ∧ w.frozen? ⟨g, 5, none⟩ = false ∧ w.frozen? ⟨g, 6, none⟩ = false :=
  ⟨h.cell 0, h.cell 1, h.cell 2, h.cell 3, h.cell 4, h.cell 5, h.cell 6, h.frozen 0, h.frozen 1, h.frozen 2, h.frozen 3, h.frozen 4, h.frozen 5, h.frozen 6⟩
theorem cx0 (h : Nat) (hh : h < 65536) : ∀ W, Calls Try.prog 15 #[.int .u32 (h : Int), .int .i64 12, .int .i64 12] W fun e w' => e = .returned (.int .i64 (((fN h 12 12 : Nat) : Int))) ∧ Fr (fun _ => False) W w' :=
  F_fr h 12 12 hh (by decide) (by decide)
theorem cx1 (h : Nat) (hh : h < 65536) : ∀ W, Calls Try.prog 15 #[.int .u32 (h : Int), .int .i64 11, .int .i64 7] W fun e w' => e = .returned (.int .i64 (((fN h 11 7 : Nat) : Int))) ∧ Fr (fun _ => False) W w' :=
  F_fr h 11 7 hh (by decide) (by decide)
theorem cx2 (h : Nat) (hh : h < 65536) : ∀ W, Calls Try.prog 15 #[.int .u32 (h : Int), .int .i64 6, .int .i64 2] W fun e w' => e = .returned (.int .i64 (((fN h 6 2 : Nat) : Int))) ∧ Fr (fun _ => False) W w' :=
  F_fr h 6 2 hh (by decide) (by decide)
theorem cx3 (h : Nat) (hh : h < 65536) : ∀ W, Calls Try.prog 15 #[.int .u32 (h : Int), .int .i64 9, .int .i64 7] W fun e w' => e = .returned (.int .i64 (((fN h 9 7 : Nat) : Int))) ∧ Fr (fun _ => False) W w' :=
  F_fr h 9 7 hh (by decide) (by decide)
theorem cx4 (h : Nat) (hh : h < 65536) : ∀ W, Calls Try.prog 15 #[.int .u32 (h : Int), .int .i64 4, .int .i64 2] W fun e w' => e = .returned (.int .i64 (((fN h 4 2 : Nat) : Int))) ∧ Fr (fun _ => False) W w' :=
  F_fr h 4 2 hh (by decide) (by decide)
theorem cx5 (h : Nat) (hh : h < 65536) : ∀ g W, Blk W g 3 #[.int .i64 12, .int .i64 12, .int .i64 6, .int .i64 2] → Calls Try.prog 16 #[.int .u16 (h : Int), .slice (some ⟨g, 0, none⟩) 4 4, .int .i64 0] W fun e w' => e = .returned (.int .i64 (((rsix h : Nat) : Int))) ∧ Fr (fun _ => False) W w' :=
      fun g W hb => by
      have q := pieces_fr h hh [(12, 12), (6, 2)] (by decide) 0 (by decide) (by decide) g 4 3 W hb
      rw [Nat.pow_zero, Nat.mul_one] at q
      exact q
theorem cx6 (h : Nat) (hh : h < 65536) : ∀ W, Calls Try.prog 17 #[.int .i64 (((rsix h : Nat) : Int)), .int .i64 6] W fun e w' => e = .returned (.int .i64 (rshort h)) ∧ Fr (fun _ => False) W w' :=
  S_fr (rsix h) 6 (by decide) (by decide) (by have g := rsix_lt h; omega)
theorem cx7 (h : Nat) (hh : h < 65536) : ∀ g W, Blk W g 3 #[.int .i64 5, .int .i64 5, .int .i64 12, .int .i64 10, .int .i64 6, .int .i64 6] → Calls Try.prog 16 #[.int .u16 (h : Int), .slice (some ⟨g, 0, none⟩) 6 6, .int .i64 2] W fun e w' => e = .returned (.int .i64 (((rwords h : Nat) : Int))) ∧ Fr (fun _ => False) W w' :=
      fun g W hb => by
      have q := pieces_fr h hh [(5, 5), (12, 10), (6, 6)] (by decide) 2 (by decide) (by decide) g 6 3 W hb
      skip
      exact q
theorem cx8 (h : Nat) (hh : h < 65536) : ∀ g W, Blk W g 3 #[.int .i64 6, .int .i64 5, .int .i64 12, .int .i64 10] → Calls Try.prog 16 #[.int .u16 (h : Int), .slice (some ⟨g, 0, none⟩) 4 4, .int .i64 3] W fun e w' => e = .returned (.int .i64 (((rdoubles h : Nat) : Int))) ∧ Fr (fun _ => False) W w' :=
      fun g W hb => by
      have q := pieces_fr h hh [(6, 5), (12, 10)] (by decide) 3 (by decide) (by decide) g 4 3 W hb
      skip
      exact q
theorem cx9 (h : Nat) (hh : h < 65536) : ∀ g W, Blk W g 3 #[.int .i64 12, .int .i64 12, .int .i64 6, .int .i64 5, .int .i64 2, .int .i64 2, .int .i64 11, .int .i64 10, .int .i64 4, .int .i64 3] → Calls Try.prog 16 #[.int .u16 (h : Int), .slice (some ⟨g, 0, none⟩) 10 10, .int .i64 1] W fun e w' => e = .returned (.int .i64 (((rbr h : Nat) : Int))) ∧ Fr (fun _ => False) W w' :=
      fun g W hb => by
      have q := pieces_fr h hh [(12, 12), (6, 5), (2, 2), (11, 10), (4, 3)] (by decide) 1 (by decide) (by decide) g 10 3 W hb
      skip
      exact q
theorem cx10 (h : Nat) (hh : h < 65536) : ∀ W, Calls Try.prog 17 #[.int .i64 (((rbr h : Nat) : Int)), .int .i64 9] W fun e w' => e = .returned (.int .i64 (rbranch h)) ∧ Fr (fun _ => False) W w' :=
  S_fr (rbr h) 9 (by decide) (by decide) (by have g := rbr_lt h; omega)
theorem cx11 (h : Nat) (hh : h < 65536) : ∀ g W, Blk W g 3 #[.int .i64 10, .int .i64 7, .int .i64 12, .int .i64 11, .int .i64 5, .int .i64 5, .int .i64 6, .int .i64 6] → Calls Try.prog 16 #[.int .u16 (h : Int), .slice (some ⟨g, 0, none⟩) 8 8, .int .i64 2] W fun e w' => e = .returned (.int .i64 (((rwide h : Nat) : Int))) ∧ Fr (fun _ => False) W w' :=
      fun g W hb => by
      have q := pieces_fr h hh [(10, 7), (12, 11), (5, 5), (6, 6)] (by decide) 2 (by decide) (by decide) g 8 3 W hb
      skip
      exact q
theorem cx12 (h : Nat) (hh : h < 65536) : ∀ g W, Blk W g 3 #[.int .i64 12, .int .i64 12, .int .i64 4, .int .i64 3, .int .i64 5, .int .i64 5, .int .i64 2, .int .i64 2, .int .i64 6, .int .i64 6] → Calls Try.prog 16 #[.int .u16 (h : Int), .slice (some ⟨g, 0, none⟩) 10 10, .int .i64 4] W fun e w' => e = .returned (.int .i64 (((rspn h : Nat) : Int))) ∧ Fr (fun _ => False) W w' :=
      fun g W hb => by
      have q := pieces_fr h hh [(12, 12), (4, 3), (5, 5), (2, 2), (6, 6)] (by decide) 4 (by decide) (by decide) g 10 3 W hb
      skip
      exact q
theorem cx13 (h : Nat) (hh : h < 65536) : ∀ W, Calls Try.prog 17 #[.int .i64 (((rspn h : Nat) : Int)), .int .i64 10] W fun e w' => e = .returned (.int .i64 (rsp h)) ∧ Fr (fun _ => False) W w' :=
  S_fr (rspn h) 10 (by decide) (by decide) (by have g := rspn_lt h; omega)
theorem cx14 (h : Nat) (hh : h < 65536) : ∀ g W, Blk W g 3 #[.int .i64 12, .int .i64 12, .int .i64 8, .int .i64 8, .int .i64 10, .int .i64 9, .int .i64 6, .int .i64 6, .int .i64 7, .int .i64 7, .int .i64 2, .int .i64 2, .int .i64 11, .int .i64 11, .int .i64 5, .int .i64 3] → Calls Try.prog 16 #[.int .u16 (h : Int), .slice (some ⟨g, 0, none⟩) 16 16, .int .i64 1] W fun e w' => e = .returned (.int .i64 (((rjm h : Nat) : Int))) ∧ Fr (fun _ => False) W w' :=
      fun g W hb => by
      have q := pieces_fr h hh [(12, 12), (8, 8), (10, 9), (6, 6), (7, 7), (2, 2), (11, 11), (5, 3)] (by decide) 1 (by decide) (by decide) g 16 3 W hb
      skip
      exact q
theorem cx15 (h : Nat) (hh : h < 65536) : ∀ W, Calls Try.prog 17 #[.int .i64 (((rjm h : Nat) : Int)), .int .i64 12] W fun e w' => e = .returned (.int .i64 (rjump h)) ∧ Fr (fun _ => False) W w' :=
  S_fr (rjm h) 12 (by decide) (by decide) (by have g := rjm_lt h; omega)
theorem cx16 (h : Nat) (hh : h < 65536) : ∀ g W, Blk W g 3 #[.int .i64 3, .int .i64 2, .int .i64 12, .int .i64 12, .int .i64 6, .int .i64 4] → Calls Try.prog 16 #[.int .u16 (h : Int), .slice (some ⟨g, 0, none⟩) 6 6, .int .i64 2] W fun e w' => e = .returned (.int .i64 (((pc h [(3, 2), (12, 12), (6, 4)] 0 * 4 : Nat) : Int))) ∧ Fr (fun _ => False) W w' :=
      fun g W hb => by
      have q := pieces_fr h hh [(3, 2), (12, 12), (6, 4)] (by decide) 2 (by decide) (by decide) g 6 3 W hb
      skip
      exact q
theorem cx17 (h : Nat) (hh : h < 65536) : ∀ g W, Blk W g 3 #[.int .i64 4, .int .i64 2, .int .i64 12, .int .i64 12, .int .i64 6, .int .i64 5] → Calls Try.prog 16 #[.int .u16 (h : Int), .slice (some ⟨g, 0, none⟩) 6 6, .int .i64 3] W fun e w' => e = .returned (.int .i64 (((pc h [(4, 2), (12, 12), (6, 5)] 0 * 8 : Nat) : Int))) ∧ Fr (fun _ => False) W w' :=
      fun g W hb => by
      have q := pieces_fr h hh [(4, 2), (12, 12), (6, 5)] (by decide) 3 (by decide) (by decide) g 6 3 W hb
      skip
      exact q
theorem cx18 (h : Nat) (hh : h < 65536) : ∀ g W, Blk W g 3 #[.int .i64 8, .int .i64 7, .int .i64 12, .int .i64 9] → Calls Try.prog 16 #[.int .u16 (h : Int), .slice (some ⟨g, 0, none⟩) 4 4, .int .i64 2] W fun e w' => e = .returned (.int .i64 (((pc h [(8, 7), (12, 9)] 0 * 4 : Nat) : Int))) ∧ Fr (fun _ => False) W w' :=
      fun g W hb => by
      have q := pieces_fr h hh [(8, 7), (12, 9)] (by decide) 2 (by decide) (by decide) g 4 3 W hb
      skip
      exact q
theorem cx19 (h : Nat) (hh : h < 65536) : ∀ g W, Blk W g 3 #[.int .i64 9, .int .i64 7, .int .i64 12, .int .i64 10] → Calls Try.prog 16 #[.int .u16 (h : Int), .slice (some ⟨g, 0, none⟩) 4 4, .int .i64 3] W fun e w' => e = .returned (.int .i64 (((pc h [(9, 7), (12, 10)] 0 * 8 : Nat) : Int))) ∧ Fr (fun _ => False) W w' :=
      fun g W hb => by
      have q := pieces_fr h hh [(9, 7), (12, 10)] (by decide) 3 (by decide) (by decide) g 4 3 W hb
      skip
      exact q
theorem h10_0 (h : Nat) (hh : h < 65536) (e : fN h 1 0 = 0) : ∀ W, Calls Try.prog 15 #[.int .u32 (h : Int), .int .i64 1, .int .i64 0] W fun e w' => e = .returned (.int .i64 0) ∧ Fr (fun _ => False) W w' := fun W => by have g := F_fr h 1 0 hh (by decide) (by decide) W; rw [e] at g; exact g
theorem h10_1 (h : Nat) (hh : h < 65536) (e : fN h 1 0 = 1) : ∀ W, Calls Try.prog 15 #[.int .u32 (h : Int), .int .i64 1, .int .i64 0] W fun e w' => e = .returned (.int .i64 1) ∧ Fr (fun _ => False) W w' := fun W => by have g := F_fr h 1 0 hh (by decide) (by decide) W; rw [e] at g; exact g
theorem h10_2 (h : Nat) (hh : h < 65536) (e : fN h 1 0 = 2) : ∀ W, Calls Try.prog 15 #[.int .u32 (h : Int), .int .i64 1, .int .i64 0] W fun e w' => e = .returned (.int .i64 2) ∧ Fr (fun _ => False) W w' := fun W => by have g := F_fr h 1 0 hh (by decide) (by decide) W; rw [e] at g; exact g
theorem h10_3 (h : Nat) (hh : h < 65536) (e : fN h 1 0 = 3) : ∀ W, Calls Try.prog 15 #[.int .u32 (h : Int), .int .i64 1, .int .i64 0] W fun e w' => e = .returned (.int .i64 3) ∧ Fr (fun _ => False) W w' := fun W => by have g := F_fr h 1 0 hh (by decide) (by decide) W; rw [e] at g; exact g
theorem h153_0 (h : Nat) (hh : h < 65536) (e : fN h 15 13 = 0) : ∀ W, Calls Try.prog 15 #[.int .u32 (h : Int), .int .i64 15, .int .i64 13] W fun e w' => e = .returned (.int .i64 0) ∧ Fr (fun _ => False) W w' := fun W => by have g := F_fr h 15 13 hh (by decide) (by decide) W; rw [e] at g; exact g
theorem h153_1 (h : Nat) (hh : h < 65536) (e : fN h 15 13 = 1) : ∀ W, Calls Try.prog 15 #[.int .u32 (h : Int), .int .i64 15, .int .i64 13] W fun e w' => e = .returned (.int .i64 1) ∧ Fr (fun _ => False) W w' := fun W => by have g := F_fr h 15 13 hh (by decide) (by decide) W; rw [e] at g; exact g
theorem h153_2 (h : Nat) (hh : h < 65536) (e : fN h 15 13 = 2) : ∀ W, Calls Try.prog 15 #[.int .u32 (h : Int), .int .i64 15, .int .i64 13] W fun e w' => e = .returned (.int .i64 2) ∧ Fr (fun _ => False) W w' := fun W => by have g := F_fr h 15 13 hh (by decide) (by decide) W; rw [e] at g; exact g
theorem h153_3 (h : Nat) (hh : h < 65536) (e : fN h 15 13 = 3) : ∀ W, Calls Try.prog 15 #[.int .u32 (h : Int), .int .i64 15, .int .i64 13] W fun e w' => e = .returned (.int .i64 3) ∧ Fr (fun _ => False) W w' := fun W => by have g := F_fr h 15 13 hh (by decide) (by decide) W; rw [e] at g; exact g
theorem h153_4 (h : Nat) (hh : h < 65536) (e : fN h 15 13 = 4) : ∀ W, Calls Try.prog 15 #[.int .u32 (h : Int), .int .i64 15, .int .i64 13] W fun e w' => e = .returned (.int .i64 4) ∧ Fr (fun _ => False) W w' := fun W => by have g := F_fr h 15 13 hh (by decide) (by decide) W; rw [e] at g; exact g
theorem h153_5 (h : Nat) (hh : h < 65536) (e : fN h 15 13 = 5) : ∀ W, Calls Try.prog 15 #[.int .u32 (h : Int), .int .i64 15, .int .i64 13] W fun e w' => e = .returned (.int .i64 5) ∧ Fr (fun _ => False) W w' := fun W => by have g := F_fr h 15 13 hh (by decide) (by decide) W; rw [e] at g; exact g
theorem h153_6 (h : Nat) (hh : h < 65536) (e : fN h 15 13 = 6) : ∀ W, Calls Try.prog 15 #[.int .u32 (h : Int), .int .i64 15, .int .i64 13] W fun e w' => e = .returned (.int .i64 6) ∧ Fr (fun _ => False) W w' := fun W => by have g := F_fr h 15 13 hh (by decide) (by decide) W; rw [e] at g; exact g
theorem h153_7 (h : Nat) (hh : h < 65536) (e : fN h 15 13 = 7) : ∀ W, Calls Try.prog 15 #[.int .u32 (h : Int), .int .i64 15, .int .i64 13] W fun e w' => e = .returned (.int .i64 7) ∧ Fr (fun _ => False) W w' := fun W => by have g := F_fr h 15 13 hh (by decide) (by decide) W; rw [e] at g; exact g
structure RS (w v : World) : Prop where
  b2 : Blk v w.heap.size 25 #[.int .i64 0, .int .i64 0, .int .i64 0, .int .i64 0, .int .i64 0, .int .i64 0, .int .i64 0]
  b5 : Blk v (w.heap.size + 1) 25 #[.int .i64 0, .int .i64 0, .int .i64 0, .int .i64 0, .int .i64 0, .int .i64 0, .int .i64 2]
  f : Fr (fun _ => False) w v
theorem RS.fr {w v v' : World} (t : RS w v) (k : Fr (fun _ => False) v v') : RS w v' := ⟨t.b2.fr k id, t.b5.fr k id, t.f.trans k (fun _ _ h => h)⟩
theorem RS.al {w v v' : World} {o : Obj} (t : RS w v) (k : Fr (fun _ => False) (v.alloc o) v') : RS w v' := RS.fr ⟨t.b2.alloc o, t.b5.alloc o, t.f.alloc o⟩ k
theorem RS.start (w : World) : RS w ((w.alloc (.cells #[.int .i64 0, .int .i64 0, .int .i64 0, .int .i64 0, .int .i64 0, .int .i64 0, .int .i64 0] 25)).alloc (.cells #[.int .i64 0, .int .i64 0, .int .i64 0, .int .i64 0, .int .i64 0, .int .i64 0, .int .i64 2] 25)) := by
  refine ⟨(Blk.new w _ _).alloc _, ?_, ((Fr.refl _ w).alloc _).alloc _⟩
  have g := Blk.new (w.alloc (.cells #[.int .i64 0, .int .i64 0, .int .i64 0, .int .i64 0, .int .i64 0, .int .i64 0, .int .i64 0] 25)) 25 #[.int .i64 0, .int .i64 0, .int .i64 0, .int .i64 0, .int .i64 0, .int .i64 0, .int .i64 2]
  simpa [Blk] using g
end Go.Proofs.Ytgefhoikpjiamaa.Cmp
