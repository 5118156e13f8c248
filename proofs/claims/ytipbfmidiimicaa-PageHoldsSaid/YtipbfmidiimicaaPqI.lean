/- PageFar: walked. -/
import Derived.Test.YtipbfmidiimicaaPqH
namespace Go.Proofs.Ytipbfmidiimicaa.Pq
open Go Go.RowKit Go.Proofs.YtipbfmidiimicaaW.PrintWords Go.Proofs.YtipbfmidiimicaaW.PrintLast Go.Proofs.YtipbfmidiimicaaW.PrintMore
open Go.Proofs.Ytipbfmidiimicaa.Hp Go.Proofs.Ytipbfmidiimicaa.Pm
attribute [local go_sem] max2_m min2_m max_two min_two max_three min_three max_four min_four
set_option linter.unusedVariables false
set_option linter.unusedSimpArgs false
theorem cut_far (addr : Int) (l : List Int) (h : 274877906944 ≤ addr) : cut addr l = [] := by
  unfold cut
  rw [show (274877906944 - addr).toNat = 0 from by omega]
  rfl
theorem rowC_far (C : Int → Int) (addr : Int) (n : Nat) (h : 274877906944 ≤ addr) (i : Nat) : (rowC C addr n).getD i 0 = 0 := by
  rw [List.getD_eq_getElem?_getD]
  rcases Nat.lt_or_ge i n with hi | hi
  · rw [rowC_get _ _ _ _ hi, if_neg (by omega)]
    rfl
  · rw [List.getElem?_eq_none (by rw [rowC_len]; exact hi)]
    rfl
theorem row_end (T : Int) (hT : T + 3 = 274877906944) (l : List Int) (i : Nat) (hi : i < l.length) : (rowC (wrC (fun _ => 0) T (cut T l)) T l.length).getD i 0 = if i < 3 then l.getD i 0 else 0 := by
  have hcut : cut T l = l.take 3 := by
    unfold cut
    rw [show (274877906944 - T).toNat = 3 from by omega]
  rw [hcut, List.getD_eq_getElem?_getD, rowC_get _ _ _ _ hi]
  simp only [Option.getD_some]
  by_cases h : i < 3
  · rw [if_pos (by omega), if_pos h]
    unfold wrC
    rw [List.length_take, if_pos (by constructor <;> omega), show (T + (i : Int) - T).toNat = i from by omega, List.getD_eq_getElem?_getD, List.getElem?_take_of_lt (by omega), List.getD_eq_getElem?_getD]
  · rw [if_neg (by omega), if_neg h]
theorem Grew.none_far {w0 : World} {f' : Int → Option Nat} {lo hi : Int} (h : Grew w0 (fun _ => none) f' lo hi) (hd : ∀ no b, f' no = some b → 0 ≤ no ∧ no < 67108864) (hl : 67108864 ≤ lo) : f' = fun _ => none := funext fun k => by
  cases e : f' k with
  | none => rfl
  | some b =>
    have h2 := hd k b e
    rcases h.new k b e with h3 | h3
    · cases h3
    · omega
def AtY (m : Nat) (w7 : World) (v9 : Value) (kq : Nat) (wr : World) : Prop := ∃ j : Nat, v9 = .int .i64 j ∧ j ≤ m ∧ m - j ≤ kq ∧ wr = w7
set_option maxHeartbeats 8000000 in
set_option maxRecDepth 100000 in
theorem far_any (A : Option Addr) (c : Nat) (l : List Int) (at_ : Int) (ha : 0 ≤ at_ ∧ at_ < 18446744073709551616) (w : World) (hl : l.length ≤ 140737488351232) (hc : l.length ≤ c) (hr : ReadsInt w .u8 A l.length l) : Calls Try.prog 4 #[.int .u64 at_, .slice A l.length c] w fun e w' => e = .returned (.bool true) ∧ Fr (fun _ => False) w w' := by
  obtain ⟨m, hm⟩ : ∃ m, l.length = m := ⟨_, rfl⟩
  have HR := Lib.hid hr
  have HM := Lib.hid hm
  have HC := Lib.hid hc
  have HOLD := Lib.hid (show ∀ ad, A = some ad → 0 < l.length → ad.block < w.heap.size from fun ad e hp => by
    obtain ⟨ad2, e2, hx⟩ := hr.2.2 hp
    rw [e] at e2
    injection e2 with e2
    have h3 := World.block_lt_of_cell? w _ (hx 0 hp)
    rw [← e2] at h3
    have h4 : (ad.add 0).block = ad.block := by unfold Addr.add; split <;> rfl
    rw [h4] at h3
    exact h3)
  rw [hm] at hl hc ⊢
  clear hr hm hc
  go_enter Try.func4, Try.ntmps4
  go_wp2_with fail
  refine (new_any w).mono ?_
  rintro x w1 ⟨g, BL, BS, rfl, hs1, hf1⟩
  have HS1 := Lib.hid hs1
  have HF1 := Lib.hid hf1
  clear hs1 hf1
  go_wp2_with fail
  refine (answers_any w1).mono ?_
  rintro x w2 ⟨rfl, hf2⟩
  have HS2 := Lib.hid (HS1.out.fr hf2)
  have HF2 := Lib.hid (HF1.out.trans hf2 (fun _ _ e => e))
  clear hf2
  by_cases h5 : 500 < m
  · have u1 : decide ((500 : Int) < (m : Int)) = true := decide_eq_true (by omega)
    go_wp2_with fail
    refine (answers_any w2).mono ?_
    rintro x w3 ⟨rfl, hf3⟩
    have HF3 := Lib.hid (HF2.out.trans hf3 (fun _ _ e => e))
    clear hf3
    go_wp2_with fail
    go_ret
    exact ⟨rfl, HF3.out⟩
  · have u1 : decide ((500 : Int) < (m : Int)) = false := decide_eq_false (by omega)
    by_cases hat : at_ < 274877906944
    · have u2 : decide (at_ < 274877906944) = true := decide_eq_true hat
      obtain ⟨far, hfar⟩ : ∃ far, at_ + 274877906944 = far := ⟨_, rfl⟩
      have hwf : IntKind.u64.wrap far = far := IntWalk.u64_in _ (by omega)
      have HFAR := Lib.hid (show 274877906944 ≤ far ∧ far < 18446744073709551616 from by omega)
      obtain ⟨te, hte⟩ : ∃ te, IntKind.u64.wrap (far + 5) = te := ⟨_, rfl⟩
      go_wp2_with fail
      have hwr := write_any A c l far (by have := HFAR.out; omega) w2 HS2.out (by have := HF2.out.size; omega) (by omega) (by rw [HM.out]; omega) HC.out (reads_fr HR.out HF2.out (fun _ _ _ => id)) (fun ad e hp e2 => by
        have h1 := HOLD.out ad e hp
        rcases e2 with h | h | h | ⟨no, h⟩
        · have := HS2.out.gb; omega
        · have := HS2.out.lb; omega
        · have := HS2.out.sb; omega
        · cases h)
      rw [HM.out, cut_far far l HFAR.out.1, wrC_nil] at hwr
      refine hwr.mono ?_
      rintro x w3 ⟨rfl, n3, sz3, f3, clk3, hs3, hn3, hz3, hg3, hf3⟩
      obtain rfl := hg3.none_far hs3.dom (by have := HFAR.out; omega)
      have HS3 := Lib.hid hs3
      have HN3 := Lib.hid hn3
      have HF3 := Lib.hid (HF2.out.trans hf3 (fun i hi e => by
        rcases e with rfl | rfl | rfl | ⟨no, e⟩
        · have := HS1.out.gb; omega
        · have := HS1.out.lb; omega
        · have := HS1.out.sb; omega
        · cases e))
      clear hwr hs3 hn3 hz3 hg3 hf3
      go_wp2_with fail
      refine (clear_far (.pointer (some ⟨g, 0, none⟩)) (.inr ⟨g, rfl⟩) far te (by have := HFAR.out; omega) w3).mono ?_
      rintro x w4 ⟨rfl, hf4⟩
      have HS4 := Lib.hid (HS3.out.fr hf4)
      have HF4 := Lib.hid (HF3.out.trans hf4 (fun _ _ e => e))
      clear hf4
      go_wp2_with fail
      refine (read_reads 9 far (by have := HFAR.out; omega) w4 HS4.out (by have := HF4.out.size; omega) (by omega)).mono ?_
      rintro x w5 ⟨Ax, cx, rfl, hcx, hbx, hrx, hs5, hf5⟩
      have HAX := Lib.hid hbx
      have HS5 := Lib.hid hs5
      have HX5 := Lib.hid hrx
      have HF5 := Lib.hid (HF4.out.trans hf5 (fun _ _ e => e))
      clear hs5 hrx hf5 hbx
      go_wp2_with fail
      have hwr := write_any A c l 274877906941 (by omega) w5 HS5.out (by have := HF5.out.size; omega) (by have := HN3.out; omega) (by rw [HM.out]; omega) HC.out (reads_fr HR.out HF5.out (fun _ _ _ => id)) (fun ad e hp e2 => by
        have h1 := HOLD.out ad e hp
        rcases e2 with h | h | h | ⟨no, h⟩
        · have := HS2.out.gb; omega
        · have := HS2.out.lb; omega
        · have := HS2.out.sb; omega
        · cases h)
      rw [HM.out] at hwr
      refine hwr.mono ?_
      rintro x w6 ⟨rfl, n6, sz6, f6, clk6, hs6, hn6, hz6, hg6, hf6⟩
      have HZ6 := Lib.hid (show sz6 ≤ 1 from by
        have h1 := PM.few hs6.lm lawK Try.underlying27 [67108863] (fun k _ hk => by
          cases e : f6 k with
          | none => exact absurd e hk
          | some b =>
            have h2 := hs6.dom k b e
            rcases hg6.new k b e with h | h
            · cases h
            · have : k = 67108863 := by omega
              simp [this])
        simpa using h1)
      have HS6 := Lib.hid hs6
      have HF6 := Lib.hid (HF5.out.trans hf6 (fun i hi e => by
        rcases e with rfl | rfl | rfl | ⟨no, e⟩
        · have := HS1.out.gb; omega
        · have := HS1.out.lb; omega
        · have := HS1.out.sb; omega
        · cases e))
      have HX6 := Lib.hid (reads_fr HX5.out hf6 (fun ad e hp e2 => by
        have h1 := HAX.out ad e hp
        rcases e2 with h | h | h | ⟨no, h⟩
        · have := HS4.out.blk.lt; omega
        · have := HS4.out.lm.lt; omega
        · have := HS4.out.sm.lt; omega
        · cases h))
      clear hwr hs6 hn6 hz6 hg6 hf6
      go_wp2_with fail
      have hrd := read_reads m 274877906941 (by omega) w6 HS6.out (by have := HF6.out.size; omega) (by omega)
      refine hrd.mono ?_
      rintro x w7 ⟨Ay, cy, rfl, hcy, _, hry, hs7, hf7⟩
      have HS7 := Lib.hid hs7
      have HY7 := Lib.hid hry
      have HX7 := Lib.hid (reads_fr HX6.out hf7 (fun _ _ _ => id))
      have HF7 := Lib.hid (HF6.out.trans hf7 (fun _ _ e => e))
      have HR7 := Lib.hid (reads_fr HR.out HF7.out (fun _ _ _ => id))
      clear hrd hs7 hry hf7 hcx hcy
      go_wp2_with fail
      go_loopg [9] m (fun kq v9 wr => Hid (AtY m w7 v9 kq wr))
      case atStart => exact Lib.hid ⟨0, rfl, by omega, by omega, rfl⟩
      case round =>
        obtain ⟨j, rfl, hj, hjk, rfl⟩ := hrel.out
        clear hrel
        by_cases hgo : j < m
        · have v1 : decide ((j : Int) < (m : Int)) = true := decide_eq_true (by omega)
          have v1' : decide (j < m) = true := decide_eq_true hgo
          have j0 : (0 : Int) ≤ (j : Int) := by omega
          have j1 : (j : Int) < (m : Int) := by omega
          have j2 : IntKind.i64.wrap ((j : Int) + 1) = (j : Int) + 1 := IntWalk.i64_in _ (by omega)
          obtain ⟨ady, rfl, hyc⟩ := HY7.out.2.2 (by omega)
          have qy := hyc j hgo
          have hre := row_end 274877906941 (by omega) l j (by rw [HM.out]; exact hgo)
          rw [HM.out] at hre
          rw [hre] at qy
          obtain ⟨ad, rfl, hbc⟩ := HR7.out.2.2 (by rw [HM.out]; omega)
          have qb := hbc j (by rw [HM.out]; exact hgo)
          obtain ⟨X, hX⟩ : ∃ X, l.getD j 0 = X := ⟨_, rfl⟩
          rw [hX] at qb qy
          clear hyc hbc hX hre
          by_cases h3 : j < 3
          · have v3 : decide ((j : Int) < 3) = true := decide_eq_true (by omega)
            rw [if_pos h3] at qy
            have vb : (X != X) = false := by simp
            go_wp2_with fail
            go_roundg (m - (j + 1))
            case measure => omega
            case rel => exact Lib.hid ⟨j + 1, by go_num, by omega, by omega, rfl⟩
          · have v3 : decide ((j : Int) < 3) = false := decide_eq_false (by omega)
            rw [if_neg h3] at qy
            go_wp2_with fail
            go_roundg (m - (j + 1))
            case measure => omega
            case rel => exact Lib.hid ⟨j + 1, by go_num, by omega, by omega, rfl⟩
        · have v1 : decide ((j : Int) < (m : Int)) = false := decide_eq_false (by omega)
          have v1' : decide (j < m) = false := decide_eq_false hgo
          clear hj hjk
          go_wp2_with fail
          go_loopg [11] 9 (fun kq v11 wr => Hid (AtY 9 _ v11 kq wr))
          case atStart => exact Lib.hid ⟨0, rfl, by omega, by omega, rfl⟩
          case round =>
            obtain ⟨j, rfl, hj, hjk, rfl⟩ := hrel.out
            clear hrel
            by_cases hgo : j < 9
            · have v1 : decide ((j : Int) < 9) = true := decide_eq_true (by omega)
              have j0 : (0 : Int) ≤ (j : Int) := by omega
              have j1 : (j : Int) < 9 := by omega
              have j2 : IntKind.i64.wrap ((j : Int) + 1) = (j : Int) + 1 := IntWalk.i64_in _ (by omega)
              obtain ⟨adx, rfl, hxc⟩ := HX7.out.2.2 (by omega)
              have qx := hxc j hgo
              rw [rowC_far _ _ _ HFAR.out.1] at qx
              clear hxc
              go_wp2_with fail
              go_roundg (9 - (j + 1))
              case measure => omega
              case rel => exact Lib.hid ⟨j + 1, by go_num, by omega, by omega, rfl⟩
            · have v1 : decide ((j : Int) < 9) = false := decide_eq_false (by omega)
              have vm : ((m : Int) == (m : Int)) = true := by simp
              have vz : decide ((sz6 : Int) ≤ 1) = true := decide_eq_true (by have := HZ6.out; omega)
              clear hj hjk
              go_wp2_with fail
              refine (held_any _ HS7.out).mono ?_
              rintro x w8 ⟨rfl, hf8⟩
              have HF8 := Lib.hid (HF7.out.trans hf8 (fun _ _ e => e))
              clear hf8
              go_wp2_with fail
              go_ret
              exact ⟨rfl, HF8.out⟩
    · have u2 : decide (at_ < 274877906944) = false := decide_eq_false hat
      obtain ⟨far, hfar⟩ : ∃ far, at_ = far := ⟨_, rfl⟩
      subst hfar
      have HFAR := Lib.hid (show 274877906944 ≤ at_ ∧ at_ < 18446744073709551616 from by omega)
      obtain ⟨te, hte⟩ : ∃ te, IntKind.u64.wrap (at_ + 5) = te := ⟨_, rfl⟩
      go_wp2_with fail
      have hwr := write_any A c l at_ (by have := HFAR.out; omega) w2 HS2.out (by have := HF2.out.size; omega) (by omega) (by rw [HM.out]; omega) HC.out (reads_fr HR.out HF2.out (fun _ _ _ => id)) (fun ad e hp e2 => by
        have h1 := HOLD.out ad e hp
        rcases e2 with h | h | h | ⟨no, h⟩
        · have := HS2.out.gb; omega
        · have := HS2.out.lb; omega
        · have := HS2.out.sb; omega
        · cases h)
      rw [HM.out, cut_far at_ l HFAR.out.1, wrC_nil] at hwr
      refine hwr.mono ?_
      rintro x w3 ⟨rfl, n3, sz3, f3, clk3, hs3, hn3, hz3, hg3, hf3⟩
      obtain rfl := hg3.none_far hs3.dom (by have := HFAR.out; omega)
      have HS3 := Lib.hid hs3
      have HN3 := Lib.hid hn3
      have HF3 := Lib.hid (HF2.out.trans hf3 (fun i hi e => by
        rcases e with rfl | rfl | rfl | ⟨no, e⟩
        · have := HS1.out.gb; omega
        · have := HS1.out.lb; omega
        · have := HS1.out.sb; omega
        · cases e))
      clear hwr hs3 hn3 hz3 hg3 hf3
      go_wp2_with fail
      refine (clear_far (.pointer (some ⟨g, 0, none⟩)) (.inr ⟨g, rfl⟩) at_ te (by have := HFAR.out; omega) w3).mono ?_
      rintro x w4 ⟨rfl, hf4⟩
      have HS4 := Lib.hid (HS3.out.fr hf4)
      have HF4 := Lib.hid (HF3.out.trans hf4 (fun _ _ e => e))
      clear hf4
      go_wp2_with fail
      refine (read_reads 9 at_ (by have := HFAR.out; omega) w4 HS4.out (by have := HF4.out.size; omega) (by omega)).mono ?_
      rintro x w5 ⟨Ax, cx, rfl, hcx, hbx, hrx, hs5, hf5⟩
      have HAX := Lib.hid hbx
      have HS5 := Lib.hid hs5
      have HX5 := Lib.hid hrx
      have HF5 := Lib.hid (HF4.out.trans hf5 (fun _ _ e => e))
      clear hs5 hrx hf5 hbx
      go_wp2_with fail
      have hwr := write_any A c l 274877906941 (by omega) w5 HS5.out (by have := HF5.out.size; omega) (by have := HN3.out; omega) (by rw [HM.out]; omega) HC.out (reads_fr HR.out HF5.out (fun _ _ _ => id)) (fun ad e hp e2 => by
        have h1 := HOLD.out ad e hp
        rcases e2 with h | h | h | ⟨no, h⟩
        · have := HS2.out.gb; omega
        · have := HS2.out.lb; omega
        · have := HS2.out.sb; omega
        · cases h)
      rw [HM.out] at hwr
      refine hwr.mono ?_
      rintro x w6 ⟨rfl, n6, sz6, f6, clk6, hs6, hn6, hz6, hg6, hf6⟩
      have HZ6 := Lib.hid (show sz6 ≤ 1 from by
        have h1 := PM.few hs6.lm lawK Try.underlying27 [67108863] (fun k _ hk => by
          cases e : f6 k with
          | none => exact absurd e hk
          | some b =>
            have h2 := hs6.dom k b e
            rcases hg6.new k b e with h | h
            · cases h
            · have : k = 67108863 := by omega
              simp [this])
        simpa using h1)
      have HS6 := Lib.hid hs6
      have HF6 := Lib.hid (HF5.out.trans hf6 (fun i hi e => by
        rcases e with rfl | rfl | rfl | ⟨no, e⟩
        · have := HS1.out.gb; omega
        · have := HS1.out.lb; omega
        · have := HS1.out.sb; omega
        · cases e))
      have HX6 := Lib.hid (reads_fr HX5.out hf6 (fun ad e hp e2 => by
        have h1 := HAX.out ad e hp
        rcases e2 with h | h | h | ⟨no, h⟩
        · have := HS4.out.blk.lt; omega
        · have := HS4.out.lm.lt; omega
        · have := HS4.out.sm.lt; omega
        · cases h))
      clear hwr hs6 hn6 hz6 hg6 hf6
      go_wp2_with fail
      have hrd := read_reads m 274877906941 (by omega) w6 HS6.out (by have := HF6.out.size; omega) (by omega)
      refine hrd.mono ?_
      rintro x w7 ⟨Ay, cy, rfl, hcy, _, hry, hs7, hf7⟩
      have HS7 := Lib.hid hs7
      have HY7 := Lib.hid hry
      have HX7 := Lib.hid (reads_fr HX6.out hf7 (fun _ _ _ => id))
      have HF7 := Lib.hid (HF6.out.trans hf7 (fun _ _ e => e))
      have HR7 := Lib.hid (reads_fr HR.out HF7.out (fun _ _ _ => id))
      clear hrd hs7 hry hf7 hcx hcy
      go_wp2_with fail
      go_loopg [9] m (fun kq v9 wr => Hid (AtY m w7 v9 kq wr))
      case atStart => exact Lib.hid ⟨0, rfl, by omega, by omega, rfl⟩
      case round =>
        obtain ⟨j, rfl, hj, hjk, rfl⟩ := hrel.out
        clear hrel
        by_cases hgo : j < m
        · have v1 : decide ((j : Int) < (m : Int)) = true := decide_eq_true (by omega)
          have v1' : decide (j < m) = true := decide_eq_true hgo
          have j0 : (0 : Int) ≤ (j : Int) := by omega
          have j1 : (j : Int) < (m : Int) := by omega
          have j2 : IntKind.i64.wrap ((j : Int) + 1) = (j : Int) + 1 := IntWalk.i64_in _ (by omega)
          obtain ⟨ady, rfl, hyc⟩ := HY7.out.2.2 (by omega)
          have qy := hyc j hgo
          have hre := row_end 274877906941 (by omega) l j (by rw [HM.out]; exact hgo)
          rw [HM.out] at hre
          rw [hre] at qy
          obtain ⟨ad, rfl, hbc⟩ := HR7.out.2.2 (by rw [HM.out]; omega)
          have qb := hbc j (by rw [HM.out]; exact hgo)
          obtain ⟨X, hX⟩ : ∃ X, l.getD j 0 = X := ⟨_, rfl⟩
          rw [hX] at qb qy
          clear hyc hbc hX hre
          by_cases h3 : j < 3
          · have v3 : decide ((j : Int) < 3) = true := decide_eq_true (by omega)
            rw [if_pos h3] at qy
            have vb : (X != X) = false := by simp
            go_wp2_with fail
            go_roundg (m - (j + 1))
            case measure => omega
            case rel => exact Lib.hid ⟨j + 1, by go_num, by omega, by omega, rfl⟩
          · have v3 : decide ((j : Int) < 3) = false := decide_eq_false (by omega)
            rw [if_neg h3] at qy
            go_wp2_with fail
            go_roundg (m - (j + 1))
            case measure => omega
            case rel => exact Lib.hid ⟨j + 1, by go_num, by omega, by omega, rfl⟩
        · have v1 : decide ((j : Int) < (m : Int)) = false := decide_eq_false (by omega)
          have v1' : decide (j < m) = false := decide_eq_false hgo
          clear hj hjk
          go_wp2_with fail
          go_loopg [11] 9 (fun kq v11 wr => Hid (AtY 9 _ v11 kq wr))
          case atStart => exact Lib.hid ⟨0, rfl, by omega, by omega, rfl⟩
          case round =>
            obtain ⟨j, rfl, hj, hjk, rfl⟩ := hrel.out
            clear hrel
            by_cases hgo : j < 9
            · have v1 : decide ((j : Int) < 9) = true := decide_eq_true (by omega)
              have j0 : (0 : Int) ≤ (j : Int) := by omega
              have j1 : (j : Int) < 9 := by omega
              have j2 : IntKind.i64.wrap ((j : Int) + 1) = (j : Int) + 1 := IntWalk.i64_in _ (by omega)
              obtain ⟨adx, rfl, hxc⟩ := HX7.out.2.2 (by omega)
              have qx := hxc j hgo
              rw [rowC_far _ _ _ HFAR.out.1] at qx
              clear hxc
              go_wp2_with fail
              go_roundg (9 - (j + 1))
              case measure => omega
              case rel => exact Lib.hid ⟨j + 1, by go_num, by omega, by omega, rfl⟩
            · have v1 : decide ((j : Int) < 9) = false := decide_eq_false (by omega)
              have vm : ((m : Int) == (m : Int)) = true := by simp
              have vz : decide ((sz6 : Int) ≤ 1) = true := decide_eq_true (by have := HZ6.out; omega)
              clear hj hjk
              go_wp2_with fail
              refine (held_any _ HS7.out).mono ?_
              rintro x w8 ⟨rfl, hf8⟩
              have HF8 := Lib.hid (HF7.out.trans hf8 (fun _ _ e => e))
              clear hf8
              go_wp2_with fail
              go_ret
              exact ⟨rfl, HF8.out⟩
theorem far_walk (a0 : Int) (a1 : Option Addr) (len1 cap1 : Nat) (z1 : List Int) (W : World) (w0 : (Lit.int .u64 a0).wf = true) (w1 : (a1 = none ∧ len1 = 0 ∧ cap1 = 0 ∧ z1 = []) ∨ ∃ x, a1 = some x ∧ len1 ≤ cap1 ∧ cap1 ≤ maxLen ∧ z1.length = cap1 ∧ (∀ i, i < z1.length → W.cell? (x.add i) = some (.int .u8 (z1.getD i 0))) ∧ ∀ n ∈ z1, (Lit.int .u8 n).wf = true)
    (hz : len1 * 1 ≤ 140737488351232) : Calls Try.prog 4 #[.int .u64 a0, .slice a1 len1 cap1] W fun e W' => e = .returned (.bool true) ∧ Below W.heap.size W W' := by
  obtain ⟨l1, rfl, hr1, hm1, hw1, hc1⟩ := ReadsInt.ofRowC w1
  have h0 := Go.bounds_u64 w0
  exact (far_any a1 cap1 l1 a0 (by omega) W (by omega) hc1 hr1).mono fun _ _ g => ⟨g.1, Fr.below (Below.refl _ _) g.2 (fun _ _ => id)⟩
end Go.Proofs.Ytipbfmidiimicaa.Pq
