/- The contracts of the pipe's Close and Ends, and of all methods at a pipe that is none, walked; then the law PipeEnds. -/
import Derived.Test.YtonaigbacnfpiaaPipeW
import Derived.Test.YtonaigbacnfpiaaBySame
namespace Go.Proofs.Ytonaigbacnfpiaa.Pi
open Go Go.RowKit Go.Proofs.YtonaigbacnfpiaaW.PrintWords Go.Proofs.YtonaigbacnfpiaaW.PrintLast Go.Proofs.YtonaigbacnfpiaaW.PrintMore
open Go.Proofs.Ytonaigbacnfpiaa.Hp
attribute [local go_sem] max2_int min2_int max_two min_two max_three min_three max_four min_four
set_option linter.unusedVariables false
set_option linter.unusedSimpArgs false
section
variable (w : World) (g : Nat) (v : Value) (l : List Int) (r q : Int)
theorem close_any (b : Bool) (h : Pipe w g v l r q) (h0 : 0 ≤ r) (h1 : r ≤ 1000000) (h2 : 0 ≤ q) (h3 : q ≤ 1000000) :
    Calls Try.prog 16 #[.pointer (some ⟨g, 0, none⟩), .bool b] w fun e w' => e = .returned (.tuple #[]) ∧ Pipe w' g v l (if b then r else max (r - 1) 0) (if b then max (q - 1) 0 else q) ∧ Fr (fun k => k = g) w w' := by
  have hb := h.blk
  have hrow := h.row
  have c1 := hb.cell 1
  have f1 := hb.frozen 1
  have c2 := hb.cell 2
  have f2 := hb.frozen 2
  simp at c1 c2
  have HF := Lib.hid (show ∀ (i : Nat) (u : Value), Fr (fun k => k = g) w (w.setCell ⟨g, i, none⟩ u) from fun i u => (Fr.refl (fun k => k = g) w).setCell (p := ⟨g, i, none⟩) (.inl rfl) u)
  have HRo := Lib.hid (show ∀ i u, Row (w.setCell ⟨g, i, none⟩ u) 5 .u8 v l from fun i u => hrow.fr (HF.out i u) (fun b' hb' => hrow.ne_blk hb (by decide) b' hb'))
  have HB := Lib.hid hb
  clear hb hrow h
  cases b
  · by_cases hr : r = 0
    · subst hr
      go_enter Try.func16, Try.ntmps16
      go_wp2
      go_end0
      exact ⟨rfl, ⟨by have := HB.out.set 1 (.int .i64 0); simpa [show max (-1 : Int) 0 = 0 from by decide] using this, HRo.out _ _⟩, HF.out _ _⟩
    · have e : max (r - 1) 0 = r - 1 := by omega
      have hr1 : 1 ≤ r := by omega
      clear hr
      go_enter Try.func16, Try.ntmps16
      go_wp2
      go_end0
      exact ⟨rfl, ⟨by have := HB.out.set 1 (.int .i64 (r - 1)); simpa [e] using this, HRo.out _ _⟩, HF.out _ _⟩
  · by_cases hr : q = 0
    · subst hr
      go_enter Try.func16, Try.ntmps16
      go_wp2
      go_end0
      exact ⟨rfl, ⟨by have := HB.out.set 2 (.int .i64 0); simpa [show max (-1 : Int) 0 = 0 from by decide] using this, HRo.out _ _⟩, HF.out _ _⟩
    · have e : max (q - 1) 0 = q - 1 := by omega
      have hr1 : 1 ≤ q := by omega
      clear hr
      go_enter Try.func16, Try.ntmps16
      go_wp2
      go_end0
      exact ⟨rfl, ⟨by have := HB.out.set 2 (.int .i64 (q - 1)); simpa [e] using this, HRo.out _ _⟩, HF.out _ _⟩
theorem ends_any (h : Pipe w g v l r q) :
    Calls Try.prog 17 #[.pointer (some ⟨g, 0, none⟩)] w fun e w' => e = .returned (.tuple #[.int .i64 r, .int .i64 q]) ∧ Drawn0 w w' := by
  have c1 := h.blk.cell 1
  have c2 := h.blk.cell 2
  simp at c1 c2
  clear h
  go_enter Try.func17, Try.ntmps17
  go_wp2
  go_quiet (fail)
  go_wp2
  go_ret2
  exact ⟨rfl, by repeat (first | exact Drawn0.refl _ | apply Drawn0.step)⟩
end
section
variable (w : World)
theorem open_nil (b : Bool) : Calls Try.prog 8 #[.pointer none, .bool b] w fun e w' => e = .returned (.tuple #[]) ∧ w = w' := by
  go_enter Try.func8, Try.ntmps8
  go_wp2
  go_end0
  exact ⟨rfl, rfl⟩
theorem close_nil (b : Bool) : Calls Try.prog 16 #[.pointer none, .bool b] w fun e w' => e = .returned (.tuple #[]) ∧ w = w' := by
  go_enter Try.func16, Try.ntmps16
  go_wp2
  go_end0
  exact ⟨rfl, rfl⟩
theorem ends_nil : Calls Try.prog 17 #[.pointer none] w fun e w' => e = .returned (.tuple #[.int .i64 0, .int .i64 0]) ∧ w = w' := by
  go_enter Try.func17, Try.ntmps17
  go_wp2
  go_ret2
  exact ⟨rfl, rfl⟩
theorem len_nil : Calls Try.prog 9 #[.pointer none] w fun e w' => e = .returned (.int .i64 0) ∧ w = w' := by
  go_enter Try.func9, Try.ntmps9
  go_wp2
  go_ret
  exact ⟨rfl, rfl⟩
theorem read_nil (n : Int) : Calls Try.prog 11 #[.pointer none, .int .i64 n] w fun e w' => e = .returned (.tuple #[.slice none 0 0, .int .i64 9]) ∧ w = w' := by
  go_enter Try.func11, Try.ntmps11
  go_wp2
  go_ret2
  exact ⟨rfl, rfl⟩
theorem write_nil (A : Option Addr) (n c : Nat) : Calls Try.prog 10 #[.pointer none, .slice A n c] w fun e w' => e = .returned (.tuple #[.int .i64 0, .int .i64 9]) ∧ w = w' := by
  go_enter Try.func10, Try.ntmps10
  go_wp2
  go_ret2
  exact ⟨rfl, rfl⟩
end
theorem reads_below {w w' : World} {A : Option Addr} {n : Nat} {xs : List Int} (h : ReadsInt w .u8 A n xs) (hb : Below w.heap.size w w') : ReadsInt w' .u8 A n xs := reads_fr (S := fun _ => False) h (Fr.of_below hb) (fun _ _ _ => id)
set_option maxHeartbeats 2000000 in
theorem ends_law (A : Option Addr) (c : Nat) (b : List Int) (n : Int) (w : World) (hb : ReadsInt w .u8 A b.length b) (hc : b.length ≤ c) (h0 : 0 < b.length) (h5 : b.length ≤ 500) :
    Calls Try.prog 5 #[.slice A b.length c, .int .i64 n] w fun e w' => e = .returned (.bool true) ∧ Below w.heap.size w w' := by
  have t0 : decide (500 < (b.length : Int)) = false := decide_eq_false (by omega)
  have t1 : decide (500 < b.length) = false := decide_eq_false (by omega)
  have t2 : ((b.length : Int) == 0) = false := beq_eq_false_iff_ne.2 (by omega)
  have t3 : (b.length == 0) = false := beq_eq_false_iff_ne.2 (by omega)
  have HA := Lib.hid hb
  clear hb
  go_enter Try.func5, Try.ntmps5
  go_wp2_with fail
  refine (new_any _).mono ?_
  rintro e w1 ⟨rfl, hp1, hf1⟩
  have HI1 := Lib.hid (show Inv w w1 w.heap.size (.slice none 0 0) [] 0 0 from ⟨hp1, by decide, Nat.le_refl _, fun k hk => by simp [Value.ownBlock] at hk, Fr.below (Below.refl _ _) hf1 (fun _ _ => id)⟩)
  clear hp1 hf1
  go_wp2_with fail
  refine (answers_any _).mono ?_
  rintro e w2 ⟨rfl, hf2⟩
  have HI2 := Lib.hid (HI1.out.same hf2)
  clear hf2
  go_wp2_with fail
  have hw := write_any _ _ _ _ _ _ A c b HI2.out.pipe (reads_below HA.out HI2.out.below) hc HI2.out.len
  rw [show wN ([] : List Int).length 0 b.length = 0 from by unfold wN; rw [if_pos rfl], show wE ([] : List Int).length 0 b.length = 32 from by unfold wE; rw [if_pos rfl]] at hw
  refine hw.mono ?_
  clear hw
  rintro e w3 ⟨v3, rfl, hp3, hf3, ho3⟩
  rw [List.take_zero, List.append_nil] at hp3
  have HI3 := Lib.hid (HI2.out.step hp3 (by decide) hf3 ho3)
  clear hp3 hf3 ho3
  go_wp2_with fail
  refine (open_any _ _ _ _ _ _ true HI3.out.pipe (by omega) (by omega) (by omega) (by omega)).mono ?_
  rintro e w4 ⟨rfl, hp4, hf4⟩
  have HI4 := Lib.hid (HI3.out.step (r' := 0) (q' := 1) (by simpa using hp4) (by decide) (hf4.mono (fun k _ e => .inl e)) (.inl rfl))
  clear hp4 hf4
  go_wp2_with fail
  refine (open_any _ _ _ _ _ _ false HI4.out.pipe (by omega) (by omega) (by omega) (by omega)).mono ?_
  rintro e w5 ⟨rfl, hp5, hf5⟩
  have HI5 := Lib.hid (HI4.out.step (r' := 1) (q' := 1) (by simpa using hp5) (by decide) (hf5.mono (fun k _ e => .inl e)) (.inl rfl))
  clear hp5 hf5
  go_wp2_with fail
  have hw := write_any _ _ _ _ _ _ A c b HI5.out.pipe (reads_below HA.out HI5.out.below) hc HI5.out.len
  have hs := wr_small 0 b.length h0 (by omega) (by omega)
  rw [show ([] : List Int).length = 0 from rfl, hs.1, hs.2, List.take_length, List.nil_append] at hw
  refine hw.mono ?_
  clear hw hs
  rintro e w6 ⟨v6, rfl, hp6, hf6, ho6⟩
  have HI6 := Lib.hid (HI5.out.step hp6 (by omega) hf6 ho6)
  clear hp6 hf6 ho6
  go_wp2_with fail
  refine (close_any _ _ _ _ _ _ true HI6.out.pipe (by omega) (by omega) (by omega) (by omega)).mono ?_
  rintro e w7 ⟨rfl, hp7, hf7⟩
  have HI7 := Lib.hid (HI6.out.step (r' := 1) (q' := 0) (by simpa using hp7) (by omega) (hf7.mono (fun k _ e => .inl e)) (.inl rfl))
  clear hp7 hf7
  go_wp2_with fail
  refine (read_some _ _ _ _ _ _ 1000 b.length HI7.out.pipe (by omega) h0 (by omega) (Nat.le_refl _) (by rw [if_pos (by omega)])).mono ?_
  rintro e w8 ⟨u8, v8, rfl, hu8, hp8, hf8, hv8, hn8⟩
  rw [List.take_length] at hu8
  rw [List.drop_length] at hp8
  have HI8 := Lib.hid (show Inv w w8 w.heap.size v8 [] 1 0 from ⟨hp8, by decide, Nat.le_refl _, fun k hk => Nat.le_trans HI7.out.below.size (hv8 k hk), Fr.below HI7.out.below hf8 (fun k hk e => by omega)⟩)
  obtain ⟨A8, c8, rfl, hc8, _⟩ := hu8.slice
  have HU8 := Lib.hid hu8
  clear hu8 hp8 hf8 hv8 hn8
  go_wp2_with fail
  have hr := read_none _ _ _ _ _ _ 1000 HI8.out.pipe (.inr rfl)
  rw [show rE 1000 ([] : List Int).length 0 = 0 from by decide] at hr
  refine hr.mono ?_
  clear hr
  rintro e w9 ⟨rfl, rfl⟩
  go_wp2_with fail
  refine (read_nil _ n).mono ?_
  rintro e w9 ⟨rfl, rfl⟩
  go_wp2_with fail
  refine (write_nil _ A _ c).mono ?_
  rintro e w9 ⟨rfl, rfl⟩
  go_wp2_with fail
  refine (open_nil _ true).mono ?_
  rintro e w9 ⟨rfl, rfl⟩
  go_wp2_with fail
  refine (close_nil _ true).mono ?_
  rintro e w9 ⟨rfl, rfl⟩
  go_wp2_with fail
  refine (ends_nil _).mono ?_
  rintro e w9 ⟨rfl, rfl⟩
  have t9 : ((b.length : Int) == (b.length : Int)) = true := beq_self_eq_true _
  go_wp2_with fail
  refine (By.same_any A8 A c8 c b b w8 (Kd.C_of_reads (d := (0 : Int)) (h1 := fun _ => rfl) HU8.out.reads) (Kd.C_of_reads (d := (0 : Int)) (h1 := fun _ => rfl) (reads_below HA.out HI8.out.below))).mono ?_
  have td : decide (b = b) = true := decide_eq_true rfl
  rw [td]
  clear td
  rintro e w9 ⟨rfl, ⟨m9, rfl⟩⟩
  go_wp2_with fail
  refine (len_nil _).mono ?_
  rintro e w9 ⟨rfl, rfl⟩
  go_wp2_with fail
  go_ret
  exact ⟨rfl, pw_below_drewN HI8.out.below _⟩
set_option maxHeartbeats 1000000 in
theorem ends_else (A : Option Addr) (c m : Nat) (n : Int) (w : World) (hm : m ≤ maxLen) (h0 : m = 0 ∨ 500 < m) :
    Calls Try.prog 5 #[.slice A m c, .int .i64 n] w fun e w' => e = .returned (.bool true) ∧ Below w.heap.size w w' := by
  unfold maxLen at hm
  rcases h0 with h0 | h0
  · subst h0
    go_enter Try.func5, Try.ntmps5
    go_wp2_with fail
    refine (new_any _).mono ?_
    rintro e w1 ⟨rfl, hp1, hf1⟩
    have HF1 := Lib.hid hf1
    clear hp1 hf1
    go_wp2_with fail
    refine (answers_any _).mono ?_
    rintro e w2 ⟨rfl, hf2⟩
    have HF2 := Lib.hid hf2
    clear hf2
    go_wp2_with fail
    refine (answers_any _).mono ?_
    rintro e w3 ⟨rfl, hf3⟩
    have HF3 := Lib.hid hf3
    clear hf3
    go_wp2_with fail
    go_ret
    exact ⟨rfl, Fr.below (Fr.below (Fr.below (Below.refl _ _) HF1.out (fun _ _ => id)) HF2.out (fun _ _ => id)) HF3.out (fun _ _ => id)⟩
  · have t0 : decide (500 < (m : Int)) = true := decide_eq_true (by omega)
    have t1 : decide (500 < m) = true := decide_eq_true (by omega)
    go_enter Try.func5, Try.ntmps5
    go_wp2_with fail
    refine (new_any _).mono ?_
    rintro e w1 ⟨rfl, hp1, hf1⟩
    have HF1 := Lib.hid hf1
    clear hp1 hf1
    go_wp2_with fail
    refine (answers_any _).mono ?_
    rintro e w2 ⟨rfl, hf2⟩
    have HF2 := Lib.hid hf2
    clear hf2
    go_wp2_with fail
    refine (answers_any _).mono ?_
    rintro e w3 ⟨rfl, hf3⟩
    have HF3 := Lib.hid hf3
    clear hf3
    go_wp2_with fail
    go_ret
    exact ⟨rfl, Fr.below (Fr.below (Fr.below (Below.refl _ _) HF1.out (fun _ _ => id)) HF2.out (fun _ _ => id)) HF3.out (fun _ _ => id)⟩
/-- The same, as the row opens its arguments. -/
theorem ends_walk (a0 : Option Addr) (len0 cap0 : Nat) (z0 : List Int) (a1 : Int) (w : World) (w0 : (a0 = none ∧ len0 = 0 ∧ cap0 = 0 ∧ z0 = []) ∨ ∃ x, a0 = some x ∧ len0 ≤ cap0 ∧ cap0 ≤ maxLen ∧ z0.length = cap0 ∧ (∀ i, i < z0.length → w.cell? (x.add i) = some (.int .u8 (z0.getD i 0))) ∧ ∀ n ∈ z0, (Lit.int .u8 n).wf = true)
    (_ : len0 * 1 ≤ 140737488351232) (_ : (Lit.int .i64 a1).wf = true) :
    Calls Try.prog 5 #[.slice a0 len0 cap0, .int .i64 a1] w fun e w' => e = .returned (.bool true) ∧ Below w.heap.size w w' := by
  obtain ⟨l0, rfl, hr0, hm0, hw0, hc0⟩ := ReadsInt.ofRowC w0
  by_cases h : 0 < l0.length ∧ l0.length ≤ 500
  · exact ends_law a0 cap0 l0 a1 w hr0 hc0 h.1 h.2
  · exact ends_else a0 cap0 _ a1 w hm0 (by omega)
end Go.Proofs.Ytonaigbacnfpiaa.Pi
