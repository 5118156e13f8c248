/- The law PipeWhole, walked out of its callees' contracts. -/
import Derived.Test.YtonaigbacnfpiaaPipeR
import Derived.Lib.SlBytesConst

import Derived.OpenShut
namespace Go.Proofs.Ytonaigbacnfpiaa.Pi
open Go Go.RowKit Go.Proofs.YtonaigbacnfpiaaW.PrintWords Go.Proofs.YtonaigbacnfpiaaW.PrintLast Go.Proofs.YtonaigbacnfpiaaW.PrintMore
open Go.Proofs.Ytonaigbacnfpiaa.Hp
attribute [local go_sem] max2_int min2_int max_two min_two max_three min_three max_four min_four
set_option linter.unusedVariables false
set_option linter.unusedSimpArgs false
theorem answers_any (w : World) : Calls Try.prog 7 #[] w fun e w' => e = .returned (.bool true) ∧ Fr (fun _ => False) w w' := by
  have kc := fun (w : World) (C : Array Value) (n c : Nat) => Lib.run_convert_bytes_const (P := Try.prog) w 31 5 C n c Try.underlying31 Try.underlying5
  go_enter Try.func7, Try.ntmps7
  go_wp2_with fail
  refine (new_any _).mono ?_
  rintro e w1 ⟨rfl, hp1, hf1⟩
  have HP1 := Lib.hid hp1
  have HF1 := Lib.hid hf1
  clear hp1 hf1
  go_wp2_with fail
  refine (open_any _ _ _ _ _ _ false HP1.out (by omega) (by omega) (by omega) (by omega)).mono ?_
  rintro e w2 ⟨rfl, hp2, hf2⟩
  have HP2 := Lib.hid hp2
  have HF2 := Lib.hid hf2
  clear hp2 hf2
  go_wp2_with fail
  have hp2 : Pipe w2 w.heap.size (.slice none 0 0) [] 1 0 := by simpa using HP2.out
  have hw := write_any _ _ _ _ _ _ (some ⟨w2.heap.size, 0, none⟩) 2 [97, 98] (hp2.fr (S := fun _ => False) ((Fr.refl _ w2).alloc (.cells (nums .u8 [97, 98]).toArray 5 (2, 3))) id (fun _ _ => id)) (reads_new w2 .u8 5 (2, 3) [97, 98] (by decide)) (by decide) (by decide)
  rw [show wN ([] : List Int).length 1 ([97, 98] : List Int).length = 2 from by decide, show wE ([] : List Int).length 1 ([97, 98] : List Int).length = 0 from by decide] at hw
  refine hw.mono ?_
  clear hw hp2
  rintro e w3 ⟨v3, rfl, hp3, hf3, ho3⟩
  have HP3 := Lib.hid hp3
  have HF3 := Lib.hid hf3
  clear hp3 hf3 ho3
  go_wp2_with fail
  refine (len_any _ _ _ _ _ _ HP3.out).mono ?_
  rintro e w4 ⟨rfl, rfl⟩
  go_wp2_with fail
  go_ret
  refine ⟨rfl, ((HF1.out.trans HF2.out (fun i hi e => ?_)).alloc _).trans HF3.out (fun i hi e => ?_)⟩
  · omega
  · rcases e with e | e
    · omega
    · simp [Value.ownBlock] at e
def zeros (m : Nat) : List Int := List.replicate m 0
theorem zeros_length (m : Nat) : (zeros m).length = m := List.length_replicate
theorem write_n (w : World) (g : Nat) (v : Value) (l : List Int) (r q : Int) (A : Option Addr) (c n : Nat) (b : List Int) (h : Pipe w g v l r q) (hb : ReadsInt w .u8 A n b) (hc : n ≤ c) (hl : l.length ≤ 4096) :
    Calls Try.prog 10 #[.pointer (some ⟨g, 0, none⟩), .slice A n c] w fun e w' => ∃ v', e = .returned (.tuple #[.int .i64 (wN l.length r n), .int .i64 (wE l.length r n)]) ∧
      Pipe w' g v' (l ++ b.take (wN l.length r n)) r q ∧ Fr (fun k => k = g ∨ v.ownBlock = some k) w w' ∧ (v'.ownBlock = v.ownBlock ∨ ∃ k, v'.ownBlock = some k ∧ w.heap.size ≤ k) := by
  have h1 := hb.1
  subst h1
  exact write_any w g v l r q A c b h hb hc hl
theorem reads_made (w : World) (m : Nat) (hm : m ≤ 9223372036854775807) : ReadsInt (w.alloc (.cells (madeCells #[.int .u8 0] m) 5)) .u8 (some ⟨w.heap.size, 0, none⟩) m (zeros m) := by
  obtain ⟨A, c, e, hr⟩ := own_reads (own_made w 0 5 .u8 m (Nat.zero_le _) hm)
  injection e with e1 e2 e3
  subst e1
  exact hr
/-- What the law holds of the pipe at every time. -/
structure Inv (w0 w : World) (g : Nat) (v : Value) (l : List Int) (r q : Int) : Prop where
  pipe : Pipe w g v l r q
  len : l.length ≤ 4096
  low : w0.heap.size ≤ g
  row : ∀ k, v.ownBlock = some k → w0.heap.size ≤ k
  below : Below w0.heap.size w0 w
theorem Inv.step {w0 w w' : World} {g : Nat} {v v' : Value} {l l' : List Int} {r q r' q' : Int} (h : Inv w0 w g v l r q) (hp : Pipe w' g v' l' r' q') (hl : l'.length ≤ 4096) (hf : Fr (fun k => k = g ∨ v.ownBlock = some k) w w')
    (hv : v'.ownBlock = v.ownBlock ∨ ∃ k, v'.ownBlock = some k ∧ w.heap.size ≤ k) : Inv w0 w' g v' l' r' q' := by
  refine ⟨hp, hl, h.low, fun k hk => ?_, Fr.below h.below hf (fun k hk e => ?_)⟩
  · rcases hv with e | ⟨b, e, hb⟩
    · exact h.row k (e ▸ hk)
    · rw [hk] at e; injection e with e; subst e; exact Nat.le_trans h.below.size hb
  · rcases e with e | e
    · have := h.low; omega
    · have := h.row k e; omega
theorem Inv.same {w0 w w' : World} {g : Nat} {v : Value} {l : List Int} {r q : Int} (h : Inv w0 w g v l r q) (hf : Fr (fun _ => False) w w') : Inv w0 w' g v l r q :=
  ⟨h.pipe.fr hf id (fun _ _ => id), h.len, h.low, h.row, Fr.below h.below hf (fun _ _ => id)⟩
theorem wr_small (n m : Nat) (h0 : 0 < m) (h1 : m ≤ 512) (h2 : n + m ≤ 4096) : wN n 1 m = m ∧ wE n 1 m = 0 := by
  unfold wN wE
  rw [if_neg (by decide), if_neg (by omega), if_neg (by omega), if_neg (by decide), if_neg (by omega), if_neg (by omega)]
  omega
set_option maxHeartbeats 2000000 in
theorem whole_law (full size : Nat) (hfull : full ≤ 65535) (hsize : size ≤ 65535) (w : World) :
    Calls Try.prog 3 #[.int .u16 (full : Int), .int .u16 (size : Int)] w fun e w' => e = .returned (.bool true) ∧ Below w.heap.size w w' := by
  have hmk := fun (m : Nat) (hm : m * 1 ≤ 281474976710656) => print_make 31 5 .u8 1 Try.underlying31 info5 (by decide) m hm
  have HMK := Lib.hid hmk
  clear hmk
  go_enter Try.func3, Try.ntmps3
  go_wp2_with fail
  refine (new_any _).mono ?_
  rintro e w1 ⟨rfl, hp1, hf1⟩
  have HI1 := Lib.hid (show Inv w w1 w.heap.size (.slice none 0 0) [] 0 0 from ⟨hp1, by decide, Nat.le_refl _, fun k hk => by simp [Value.ownBlock] at hk, Fr.below (Below.refl _ _) hf1 (fun _ _ => id)⟩)
  clear hp1 hf1
  go_wp2_with fail
  refine (answers_any _).mono ?_
  rintro e w2 ⟨rfl, hf2⟩
  have HI2 := Lib.hid (HI1.out.same hf2)
  clear hf2
  go_wp2_with fail
  refine (open_any _ _ _ _ _ _ false HI2.out.pipe (by omega) (by omega) (by omega) (by omega)).mono ?_
  rintro e w3 ⟨rfl, hp3, hf3⟩
  have HI3 := Lib.hid (HI2.out.step (r' := 1) (q' := 0) (by simpa using hp3) (by decide) (hf3.mono (fun k _ e => .inl e)) (.inl rfl))
  clear hp3 hf3
  obtain ⟨H, hH, hH4⟩ : ∃ H : Nat, ((full : Int)) % 4097 = (H : Int) ∧ H ≤ 4096 := ⟨full % 4097, by omega, by omega⟩
  have HH := Lib.hid hH
  go_wp2_with fail
  clear hH
  go_loopg [7] H (fun kq _ wr => ∃ v l, Hid (Inv w wr w.heap.size v l 1 0) ∧ l.length ≤ H ∧ H - l.length ≤ kq)
  case atStart => exact ⟨_, _, HI3, by simp, by simp⟩
  case round =>
    obtain ⟨v, l, HI, hlH, hk⟩ := hrel
    go_wp2_with fail
    refine (len_any _ _ _ _ _ _ HI.out.pipe).mono ?_
    rintro e w4 ⟨rfl, rfl⟩
    by_cases hlt : l.length < H
    · have t1 : decide ((l.length : Int) < (H : Int)) = true := decide_eq_true (by omega)
      go_wp2_with fail
      refine (len_any _ _ _ _ _ _ HI.out.pipe).mono ?_
      rintro e w4 ⟨rfl, rfl⟩
      obtain ⟨d, hd, hd0⟩ : ∃ d : Nat, (H : Int) - (l.length : Int) = (d : Int) ∧ 0 < d := ⟨H - l.length, by omega, by omega⟩
      have HD := Lib.hid hd
      by_cases h5 : 500 < d
      · have t2 : decide (500 < (d : Int)) = true := decide_eq_true (by omega)
        have hmk : ∀ W : World, (Instr.makeSlice 31 (.int .i64 500) (.int .i64 500)).run Try.prog W = .ok (.slice (some ⟨W.heap.size, 0, none⟩) 500 500) (W.alloc (.cells (madeCells #[.int .u8 0] 500) 5)) := HMK.out 500 (by omega)
        have hn := Lib.hid (wr_small l.length 500 (by omega) (by omega) (by have := HD.out; omega))
        go_wp2_with fail
        refine (write_n _ _ _ _ _ _ _ _ _ _ (HI.out.pipe.fr (S := fun _ => False) ((Fr.refl _ _).alloc _) id (fun _ _ => id)) (reads_made _ 500 (by omega)) (Nat.le_refl _) HI.out.len).mono ?_
        rw [hn.out.1, hn.out.2]
        rintro e w5 ⟨v', rfl, hp5, hf5, ho5⟩
        have HI5 := Lib.hid ((HI.out.same ((Fr.refl _ _).alloc _)).step hp5 (by rw [List.length_append, List.length_take, zeros_length]; have := HD.out; omega) hf5 ho5)
        have hlen : (l ++ (zeros 500).take 500).length = l.length + 500 := by rw [List.length_append, List.length_take, zeros_length]; omega
        generalize l ++ (zeros 500).take 500 = l2 at *
        have hl2 : l2.length ≤ H := by have := HD.out; omega
        clear hp5 hf5 ho5 hmk hd
        go_wp2_with fail
        go_roundg (H - l2.length)
        case measure => omega
        case rel => exact ⟨_, _, HI5, by omega, by omega⟩
      · have t2 : decide (500 < (d : Int)) = false := decide_eq_false (by omega)
        have hmk := HMK.out d (by omega)
        have hn := Lib.hid (wr_small l.length d (by omega) (by omega) (by have := HD.out; omega))
        go_wp2_with fail
        refine (write_n _ _ _ _ _ _ _ _ _ _ (HI.out.pipe.fr (S := fun _ => False) ((Fr.refl _ _).alloc _) id (fun _ _ => id)) (reads_made _ d (by omega)) (Nat.le_refl _) HI.out.len).mono ?_
        rw [hn.out.1, hn.out.2]
        rintro e w5 ⟨v', rfl, hp5, hf5, ho5⟩
        have HI5 := Lib.hid ((HI.out.same ((Fr.refl _ _).alloc _)).step hp5 (by rw [List.length_append, List.length_take, zeros_length]; have := HD.out; omega) hf5 ho5)
        have hlen : (l ++ (zeros d).take d).length = l.length + d := by rw [List.length_append, List.length_take, zeros_length]; omega
        generalize l ++ (zeros d).take d = l2 at *
        have hl2 : l2.length ≤ H := by have := HD.out; omega
        clear hp5 hf5 ho5 hmk hd
        go_wp2_with fail
        go_roundg (H - l2.length)
        case measure => omega
        case rel => exact ⟨_, _, HI5, by omega, by omega⟩
    · have hlen := Lib.hid (show l.length = H by omega)
      have t1 : decide ((l.length : Int) < (H : Int)) = false := decide_eq_false (by omega)
      have t7 : ((l.length : Int) == (H : Int)) = true := beq_iff_eq.2 (by omega)
      have t8 : (l.length == H) = true := beq_iff_eq.2 (by omega)
      obtain ⟨N, hN, hN1, hN2⟩ : ∃ N : Nat, (size : Int) % 2000 + 1 = (N : Int) ∧ 1 ≤ N ∧ N ≤ 2000 := ⟨size % 2000 + 1, by omega, by omega, by omega⟩
      obtain ⟨R, hR, hR1⟩ : ∃ R : Nat, 4096 - (H : Int) = (R : Int) ∧ R + H = 4096 := ⟨4096 - H, by omega, by omega⟩
      have HR := Lib.hid hR1
      have hmk := HMK.out N (by omega)
      clear hR1
      go_wp2_with fail
      refine (write_n _ _ _ _ _ _ _ _ _ _ (HI.out.pipe.fr (S := fun _ => False) ((Fr.refl _ _).alloc _) id (fun _ _ => id)) (reads_made _ N (by omega)) (Nat.le_refl _) HI.out.len).mono ?_
      rw [hlen.out]
      clear hmk
      by_cases hb : H = 4096 ∨ (N ≤ 512 ∧ 4096 - H < N)
      · have e1 : wN H 1 N = 0 := by unfold wN; rw [if_neg (by decide), if_neg (by omega), if_pos hb]
        have e2 : wE H 1 N = 11 := by unfold wE; rw [if_neg (by decide), if_neg (by omega), if_pos hb]
        rw [e1, e2]
        clear e1 e2
        rintro e w5 ⟨v', rfl, hp5, hf5, ho5⟩
        rw [List.take_zero, List.append_nil] at hp5
        have HI5 := Lib.hid ((HI.out.same ((Fr.refl _ _).alloc _)).step hp5 HI.out.len hf5 ho5)
        clear hp5 hf5 ho5
        by_cases h512 : N ≤ 512 ∧ R < N
        · have t5 : decide ((N : Int) ≤ 512) = true := decide_eq_true (by omega)
          have t6 : decide ((R : Int) < (N : Int)) = true := decide_eq_true (by omega)
          clear hb
          go_wp2_with fail
          refine (len_any _ _ _ _ _ _ HI5.out.pipe).mono ?_
          rintro e w6 ⟨rfl, rfl⟩
          go_wp2_with fail
          go_ret
          exact ⟨rfl, HI5.out.below⟩
        · have hH : H = 4096 := by omega
          have t6 : ((R : Int) == 0) = true := beq_iff_eq.2 (by omega)
          have t9 : (R == 0) = true := beq_iff_eq.2 (by omega)
          clear hb hH
          by_cases h5 : N ≤ 512
          · have t5 : decide ((N : Int) ≤ 512) = true := decide_eq_true (by omega)
            have t10 : decide ((R : Int) < (N : Int)) = false := decide_eq_false (by omega)
            go_wp2_with fail
            refine (len_any _ _ _ _ _ _ HI5.out.pipe).mono ?_
            rintro e w6 ⟨rfl, rfl⟩
            go_wp2_with fail
            go_ret
            exact ⟨rfl, HI5.out.below⟩
          · have t5 : decide ((N : Int) ≤ 512) = false := decide_eq_false (by omega)
            go_wp2_with fail
            refine (len_any _ _ _ _ _ _ HI5.out.pipe).mono ?_
            rintro e w6 ⟨rfl, rfl⟩
            go_wp2_with fail
            go_ret
            exact ⟨rfl, HI5.out.below⟩
      · have e1 : wN H 1 N = min N R := by unfold wN; rw [if_neg (by decide), if_neg (by omega), if_neg hb]; have := HR.out; omega
        have e2 : wE H 1 N = 0 := by unfold wE; rw [if_neg (by decide), if_neg (by omega), if_neg hb]
        rw [e1, e2]
        clear e1 e2
        rintro e w5 ⟨v', rfl, hp5, hf5, ho5⟩
        have HI5 := Lib.hid ((HI.out.same ((Fr.refl _ _).alloc _)).step hp5 (by rw [List.length_append, List.length_take, zeros_length]; have := HR.out; have := hlen.out; omega) hf5 ho5)
        have hlen2 : (l ++ (zeros N).take (min N R)).length = H + min N R := by rw [List.length_append, List.length_take, zeros_length]; have := hlen.out; omega
        generalize l ++ (zeros N).take (min N R) = l2 at *
        clear hp5 hf5 ho5
        have t6 : ((R : Int) == 0) = false := beq_eq_false_iff_ne.2 (by have := HR.out; omega)
        have t9 : (R == 0) = false := beq_eq_false_iff_ne.2 (by have := HR.out; omega)
        by_cases hRN : R < N
        · have t5 : decide ((N : Int) ≤ 512) = false := decide_eq_false (by have := HR.out; omega)
          have t10 : decide ((R : Int) < (N : Int)) = true := decide_eq_true (by omega)
          have em : min N R = R := by omega
          rw [em] at hlen2 ⊢
          have t11 : ((l2.length : Int) == (H : Int) + (R : Int)) = true := beq_iff_eq.2 (by omega)
          clear hlen2 hb em
          go_wp2_with fail
          refine (len_any _ _ _ _ _ _ HI5.out.pipe).mono ?_
          rintro e w6 ⟨rfl, rfl⟩
          go_wp2_with fail
          go_ret
          exact ⟨rfl, HI5.out.below⟩
        · have t10 : decide ((R : Int) < (N : Int)) = false := decide_eq_false (by omega)
          have em : min N R = N := by omega
          rw [em] at hlen2 ⊢
          have t11 : ((l2.length : Int) == (H : Int) + (N : Int)) = true := beq_iff_eq.2 (by omega)
          clear hlen2 hb em
          go_wp2_with fail
          all_goals
            refine (len_any _ _ _ _ _ _ HI5.out.pipe).mono ?_
            rintro e w6 ⟨rfl, rfl⟩
            go_wp2_with fail
            go_ret
            exact ⟨rfl, HI5.out.below⟩
theorem walk (a0 a1 : Int) (W : World) (w0 : (Lit.int .u16 a0).wf = true) (w1 : (Lit.int .u16 a1).wf = true) :
    Calls Try.prog 3 #[.int .u16 a0, .int .u16 a1] W fun e w' => e = .returned (.bool true) ∧ Below W.heap.size W w' := by
  have b0 := Go.bounds_u16 w0
  have b1 := Go.bounds_u16 w1
  obtain ⟨x, rfl⟩ := Int.eq_ofNat_of_zero_le b0.1
  obtain ⟨y, rfl⟩ := Int.eq_ofNat_of_zero_le b1.1
  exact whole_law x y (by omega) (by omega) W
end Go.Proofs.Ytonaigbacnfpiaa.Pi
