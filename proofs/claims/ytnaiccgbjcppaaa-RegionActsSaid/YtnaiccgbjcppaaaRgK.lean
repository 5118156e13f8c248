/- answers and RegionMany: walked. -/
import Derived.Test.YtnaiccgbjcppaaaRgJ
namespace Go.Proofs.Ytnaiccgbjcppaaa.Rg
open Go Go.RowKit Go.Proofs.YtnaiccgbjcppaaaW.PrintWords Go.Proofs.YtnaiccgbjcppaaaW.PrintLast Go.Proofs.YtnaiccgbjcppaaaW.PrintMore
open Go.Proofs.Ytnaiccgbjcppaaa.Hp
attribute [local go_sem] max2_int min2_int max_two min_two max_three min_three max_four min_four
set_option linter.unusedVariables false
set_option linter.unusedSimpArgs false
theorem map_to {l m : List Rg} {s e p : Int} (h : Cl l) (hb : mapB s e p = true) (hs : 0 ≤ s) (hm : Cl m) (he : ∀ y, lk m y = if s ≤ y ∧ y < e then some p else lk l y) (hn : m.length ≤ 256) : mapE l s e p = 0 ∧ mapL l s e p = m := by
  have hsp : spanB s e = true := by
    unfold mapB at hb
    simp only [Bool.and_eq_true] at hb
    exact hb.1
  unfold mapE mapL
  rw [if_pos hb, if_pos hb]
  exact take_uniq (with_ok l h.ok ⟨s, e, p⟩ hsp hs) hm (fun y => by rw [lk_with l h.ok ⟨s, e, p⟩ hsp, he]) hn l
theorem map_over {l m : List Rg} {s e p : Int} (h : Cl l) (hb : mapB s e p = true) (hs : 0 ≤ s) (hm : Cl m) (he : ∀ y, lk m y = if s ≤ y ∧ y < e then some p else lk l y) (hn : 256 < m.length) : mapE l s e p = 12 ∧ mapL l s e p = l := by
  have hsp : spanB s e = true := by
    unfold mapB at hb
    simp only [Bool.and_eq_true] at hb
    exact hb.1
  unfold mapE mapL
  rw [if_pos hb, if_pos hb]
  exact take_over (with_ok l h.ok ⟨s, e, p⟩ hsp hs) hm (fun y => by rw [lk_with l h.ok ⟨s, e, p⟩ hsp, he]) hn l
def rk (i : Nat) : Rg := ⟨((i : Int) + 1) * 4096, ((i : Int) + 2) * 4096, 1 + (i : Int) % 2⟩
def mkL (k : Nat) : List Rg := (List.range k).map rk
theorem mkL_succ (k : Nat) : mkL (k + 1) = mkL k ++ [rk k] := by
  unfold mkL
  rw [List.range_succ, List.map_append]
  rfl
theorem mkL_len (k : Nat) : (mkL k).length = k := by unfold mkL; simp
theorem mkL_mem {k : Nat} {x : Rg} (h : x ∈ mkL k) : ∃ i, i < k ∧ x = rk i := by
  unfold mkL at h
  obtain ⟨i, hi, e⟩ := List.mem_map.1 h
  exact ⟨i, List.mem_range.1 hi, e.symm⟩
theorem mkL_cl (k : Nat) (hk : k ≤ 1000) : Cl (mkL k) := by
  induction k with
  | zero => exact ⟨Okl.nil, Can.nil⟩
  | succ k ih =>
    have h := ih (by omega)
    rw [mkL_succ]
    refine ⟨⟨fun x hx => ?_, ?_⟩, ?_⟩
    · rcases List.mem_append.1 hx with hx | hx
      · exact h.ok.val x hx
      · obtain rfl := List.mem_singleton.1 hx
        unfold gd rk
        simp only
        omega
    · refine List.pairwise_append.2 ⟨h.ok.srt, List.pairwise_singleton _ _, fun x hx z hz => ?_⟩
      obtain rfl := List.mem_singleton.1 hz
      obtain ⟨i, hi, rfl⟩ := mkL_mem hx
      unfold rk
      simp only
      omega
    · refine List.pairwise_append.2 ⟨h.can, List.pairwise_singleton _ _, fun x hx z hz => ?_⟩
      obtain rfl := List.mem_singleton.1 hz
      obtain ⟨i, hi, rfl⟩ := mkL_mem hx
      unfold rk
      simp only
      omega
theorem mkL_lk (k : Nat) (y : Int) : lk (mkL (k + 1)) y = if (rk k).s ≤ y ∧ y < (rk k).e then some (rk k).p else lk (mkL k) y := by
  rw [mkL_succ, lk_app, lk_cons, lk_nil]
  by_cases h : inR y (rk k)
  · rw [if_pos h, if_pos h, lk_none]
    · rfl
    · intro x hx
      obtain ⟨i, hi, rfl⟩ := mkL_mem hx
      unfold inR rk at *
      simp only at *
      omega
  · rw [if_neg h, if_neg h, Option.or_none]
theorem many_step (k : Nat) (hk : k < 256) : mapE (mkL k) (((k : Int) + 1) * 4096) (((k : Int) + 2) * 4096) (1 + (k : Int) % 2) = 0 ∧ mapL (mkL k) (((k : Int) + 1) * 4096) (((k : Int) + 2) * 4096) (1 + (k : Int) % 2) = mkL (k + 1) := by
  refine map_to (mkL_cl k (by omega)) ?_ (by omega) (mkL_cl (k + 1) (by omega)) (mkL_lk k) (by rw [mkL_len]; omega)
  unfold mapB spanB protsB
  simp only [Bool.and_eq_true, decide_eq_true_eq]
  omega
theorem lk_far (k : Nat) (y : Int) (h : 4096 * ((k : Int) + 1) ≤ y) : lk (mkL k) y = none := lk_none _ _ (fun x hx => by
  obtain ⟨i, hi, rfl⟩ := mkL_mem hx
  unfold inR rk
  simp only
  omega)
theorem many_full (k : Nat) (hk : 256 ≤ k) (hk2 : k < 1000) : mapE (mkL 256) (((k : Int) + 1) * 4096) (((k : Int) + 2) * 4096) (1 + (k : Int) % 2) = 12 ∧ mapL (mkL 256) (((k : Int) + 1) * 4096) (((k : Int) + 2) * 4096) (1 + (k : Int) % 2) = mkL 256 := by
  have hc := mkL_cl 256 (by omega)
  refine map_over (m := mkL 256 ++ [rk k]) hc ?_ (by omega) ⟨⟨fun x hx => ?_, ?_⟩, ?_⟩ (fun y => ?_) (by rw [List.length_append, mkL_len]; simp)
  · unfold mapB spanB protsB
    simp only [Bool.and_eq_true, decide_eq_true_eq]
    omega
  · rcases List.mem_append.1 hx with hx | hx
    · exact hc.ok.val x hx
    · obtain rfl := List.mem_singleton.1 hx
      unfold gd rk
      simp only
      omega
  · refine List.pairwise_append.2 ⟨hc.ok.srt, List.pairwise_singleton _ _, fun x hx z hz => ?_⟩
    obtain rfl := List.mem_singleton.1 hz
    obtain ⟨i, hi, rfl⟩ := mkL_mem hx
    unfold rk
    simp only
    omega
  · refine List.pairwise_append.2 ⟨hc.can, List.pairwise_singleton _ _, fun x hx z hz => ?_⟩
    obtain rfl := List.mem_singleton.1 hz
    obtain ⟨i, hi, rfl⟩ := mkL_mem hx
    unfold rk
    simp only
    omega
  · rw [lk_app, lk_cons, lk_nil]
    by_cases h : inR y (rk k)
    · rw [if_pos h, lk_far 256 y (by unfold inR rk at h; simp only at h; omega)]
      unfold inR rk at h
      rw [if_pos h]
      rfl
    · rw [if_neg h, Option.or_none]
      unfold inR rk at h
      rw [if_neg h]
theorem ans0a : mapE [] 4096 8192 1 = 0 := by kernel_rfl
theorem ans0b : mapL [] 4096 8192 1 = [⟨4096, 8192, 1⟩] := by kernel_rfl
theorem ans1 : pagesI [⟨4096, 8192, 1⟩] = 1 := by kernel_rfl
set_option maxHeartbeats 2000000 in
theorem answers_any (w : World) : Calls Try.prog 10 #[] w fun e w' => e = .returned (.bool true) ∧ Fr (fun _ => False) w w' := by
  go_enter Try.func10, Try.ntmps10
  go_wp2_with fail
  refine (new_any _).mono ?_
  rintro x w1 ⟨rfl, hl1, hf1⟩
  have HL1 := Lib.hid hl1
  have HF1 := Lib.hid hf1
  clear hl1 hf1
  go_wp2_with fail
  refine (map_any _ _ [] 4096 8192 1 (by omega) (by omega) _ HL1.out (by simp)).mono ?_
  rintro x w2 ⟨rfl, hl2, hf2⟩
  rw [ans0b] at hl2
  rw [ans0a]
  have HL2 := Lib.hid hl2
  have HF2 := Lib.hid (HF1.out.trans hf2 (fun i hi e => by omega))
  clear hl2 hf2
  go_wp2_with fail
  refine (pages_any _ _ _ _ HL2.out (by simp) (fun r hr => by obtain rfl := List.mem_singleton.1 hr; simp only; omega)).mono ?_
  rintro x w3 ⟨rfl, hf3⟩
  rw [ans1]
  have HF3 := Lib.hid (HF2.out.trans hf3 (fun _ _ => id))
  have HL3 := Lib.hid (HL2.out.fr hf3)
  clear hf3
  go_wp2_with fail
  refine (all_any _ _ _ _ HL3.out (by simp)).mono ?_
  rintro x w4 ⟨v4, rfl, ho4, hf4⟩
  obtain ⟨A, c, rfl, _, _⟩ := ho4.form
  have HF4 := Lib.hid (HF3.out.trans hf4 (fun _ _ => id))
  clear hf4 ho4
  go_wp2_with fail
  go_ret
  exact ⟨rfl, HF4.out⟩
def L1 : List Rg := mapL (mkL 256) 4096 12288 4
def L2 : List Rg := mapL L1 4096 8192 5
theorem l0e : mapE (mkL 256) 4096 12288 4 = 0 := by kernel_rfl
theorem l1n : L1.length = 255 := by kernel_rfl
theorem l1e : mapE L1 4096 8192 5 = 0 := by kernel_rfl
theorem l2n : L2.length = 256 := by kernel_rfl
theorem l2k : atK L2 8192 = true := by kernel_rfl
theorem l2g : (atG L2 8192).e = 12288 := by kernel_rfl
theorem l2b : (andI (atG L2 8192).p 0 != 0) = false := by kernel_rfl
theorem l2m : mapB 8192 12288 5 = true := by kernel_rfl
theorem l3e : takeE (withL L2 ⟨8192, 12288, 5⟩) = 0 := by kernel_rfl
theorem l3n : (takeL L2 (withL L2 ⟨8192, 12288, 5⟩)).length = 255 := by kernel_rfl
theorem l2p (x : Int) (l' : List Rg) (h : protR L2 8192 12288 5 x l') : x = 0 ∧ l'.length = 255 := by
  rcases h with ⟨h, _⟩ | ⟨_, ⟨y, h⟩, _⟩ | ⟨_, _, h1, h2⟩
  · rw [l2m] at h
    cases h
  · cases h with
    | hole _ h2 => rw [l2k] at h2; cases h2
    | bad _ _ h3 => rw [l2b] at h3; cases h3
    | step _ _ _ h4 =>
      rw [l2g] at h4
      cases h4 <;> omega
  · rw [h1, h2]
    exact ⟨l3e, l3n⟩
def mc (k : Nat) : Nat := min k 256
def AtMn (w : World) (g n : Nat) (v7 : Value) (kq : Nat) (wr : World) : Prop := ∃ k : Nat, v7 = .int .i64 k ∧ k ≤ n ∧ n - k ≤ kq ∧ Lst wr w.heap.size g (mkL (mc k)) ∧ Fr (fun _ => False) w wr
set_option maxHeartbeats 4000000 in
theorem many_any (m : Nat) (hm : m < 65536) (odd : Bool) (w : World) : Calls Try.prog 5 #[.int .u16 (m : Int), .bool odd] w fun e w' => e = .returned (.bool true) ∧ Fr (fun _ => False) w w' := by
  obtain ⟨n, hn⟩ : ∃ n, m % 300 = n := ⟨_, rfl⟩
  have hn3 : n < 300 := by omega
  have hm1 : ((m : Int).tmod 300) = (n : Int) := by rw [Int.tmod_eq_emod_of_nonneg (by omega)]; omega
  have hm2 : ((m : Int) % 300) = (n : Int) := by omega
  have hw0 : IntKind.i64.wrap (n : Int) = n := IntWalk.i64_in _ (by omega)
  go_enter Try.func5, Try.ntmps5
  go_wp2_with fail
  refine (new_any _).mono ?_
  rintro x w1 ⟨rfl, hl1, hf1⟩
  have HL1 := Lib.hid hl1
  have HF1 := Lib.hid hf1
  clear hl1 hf1
  go_wp2_with fail
  refine (answers_any _).mono ?_
  rintro x w2 ⟨rfl, hf2⟩
  have HF2 := Lib.hid (HF1.out.trans hf2 (fun _ _ => id))
  have HL2 := Lib.hid (HL1.out.fr hf2)
  clear hf2
  go_wp2_with fail
  go_loopg [7] n (fun kq v7 wr => Hid (AtMn w w.heap.size n v7 kq wr))
  case atStart => exact Lib.hid ⟨0, rfl, by omega, by omega, HL2.out, HF2.out⟩
  case round =>
    obtain ⟨k, rfl, hk1, hk2, hl, hf⟩ := hrel.out
    have HL := Lib.hid hl
    have HF := Lib.hid hf
    clear hrel hl hf
    by_cases hk : k < n
    · have u1 : decide ((k : Int) < (n : Int)) = true := decide_eq_true (by omega)
      have u1' : decide (k < n) = true := decide_eq_true hk
      have t1 : ((k : Int).tmod 2) = (k : Int) % 2 := Int.tmod_eq_emod_of_nonneg (by omega)
      go_wp2_with fail
      by_cases h256 : k < 256
      · have h256' : k < 256 := h256
        have HM := Lib.hid (show mapE (mkL (mc k)) (((k : Int) + 1) * 4096) (((k : Int) + 2) * 4096) (1 + (k : Int) % 2) = 0 ∧ mapL (mkL (mc k)) (((k : Int) + 1) * 4096) (((k : Int) + 2) * 4096) (1 + (k : Int) % 2) = mkL (mc (k + 1)) from by
          rw [show mc k = k from by unfold mc; omega, show mc (k + 1) = k + 1 from by unfold mc; omega]
          exact many_step k h256)
        have c1 : decide ((256 : Int) < (k : Int) + 1) = false := decide_eq_false (by omega)
        have c2 : decide ((k : Int) < 256) = true := decide_eq_true (by omega)
        refine (map_any _ _ (mkL (mc k)) (((k : Int) + 1) * 4096) (((k : Int) + 2) * 4096) (1 + (k : Int) % 2) (by omega) (by omega) _ HL.out (by rw [mkL_len]; unfold mc; omega)).mono ?_
        rintro x w3 ⟨rfl, hl3, hf3⟩
        rw [HM.out.2] at hl3
        rw [HM.out.1]
        have HL3 := Lib.hid hl3
        have HF3 := Lib.hid (HF.out.trans hf3 (fun i hi e => by omega))
        clear hl3 hf3
        go_wp2_with fail
        refine (all_any _ _ _ _ HL3.out (by rw [mkL_len]; unfold mc; omega)).mono ?_
        rintro x w4 ⟨v4, rfl, ho4, hf4⟩
        obtain ⟨A, c, rfl, _, _⟩ := ho4.form
        rw [mkL_len, show mc (k + 1) = k + 1 from by unfold mc; omega]
        have HL4 := Lib.hid (HL3.out.fr hf4)
        have HF4 := Lib.hid (HF3.out.trans hf4 (fun _ _ => id))
        clear hf4 ho4
        go_wp2_with fail
        go_roundg (n - (k + 1))
        case measure => omega
        case rel => exact Lib.hid ⟨k + 1, by go_num, by omega, by omega, HL4.out, HF4.out⟩
      · have h256' : 256 ≤ k := by omega
        have HM := Lib.hid (show mapE (mkL (mc k)) (((k : Int) + 1) * 4096) (((k : Int) + 2) * 4096) (1 + (k : Int) % 2) = 12 ∧ mapL (mkL (mc k)) (((k : Int) + 1) * 4096) (((k : Int) + 2) * 4096) (1 + (k : Int) % 2) = mkL (mc (k + 1)) from by
          rw [show mc k = 256 from by unfold mc; omega, show mc (k + 1) = 256 from by unfold mc; omega]
          exact many_full k h256' (by omega))
        have c1 : decide ((256 : Int) < (k : Int) + 1) = true := decide_eq_true (by omega)
        have c2 : decide ((k : Int) < 256) = false := decide_eq_false (by omega)
        refine (map_any _ _ (mkL (mc k)) (((k : Int) + 1) * 4096) (((k : Int) + 2) * 4096) (1 + (k : Int) % 2) (by omega) (by omega) _ HL.out (by rw [mkL_len]; unfold mc; omega)).mono ?_
        rintro x w3 ⟨rfl, hl3, hf3⟩
        rw [HM.out.2] at hl3
        rw [HM.out.1]
        have HL3 := Lib.hid hl3
        have HF3 := Lib.hid (HF.out.trans hf3 (fun i hi e => by omega))
        clear hl3 hf3
        go_wp2_with fail
        refine (all_any _ _ _ _ HL3.out (by rw [mkL_len]; unfold mc; omega)).mono ?_
        rintro x w4 ⟨v4, rfl, ho4, hf4⟩
        obtain ⟨A, c, rfl, _, _⟩ := ho4.form
        rw [mkL_len, show mc (k + 1) = 256 from by unfold mc; omega]
        have HL4 := Lib.hid (HL3.out.fr hf4)
        have HF4 := Lib.hid (HF3.out.trans hf4 (fun _ _ => id))
        clear hf4 ho4
        go_wp2_with fail
        go_roundg (n - (k + 1))
        case measure => omega
        case rel => exact Lib.hid ⟨k + 1, by go_num, by omega, by omega, HL4.out, HF4.out⟩
    · obtain rfl : k = n := by omega
      have u1 : decide ((k : Int) < (k : Int)) = false := decide_eq_false (by omega)
      by_cases h256 : k < 256
      · have c2 : decide ((k : Int) < 256) = true := decide_eq_true (by omega)
        go_wp2_with fail
        go_ret
        exact ⟨rfl, HF.out⟩
      · have c2 : decide ((k : Int) < 256) = false := decide_eq_false (by omega)
        cases odd with
        | false =>
          go_wp2_with fail
          go_ret
          exact ⟨rfl, HF.out⟩
        | true =>
          have HL0 := Lib.hid (show Lst wr w.heap.size w.heap.size (mkL 256) from by have h := HL.out; rw [show mc k = 256 from by unfold mc; omega] at h; exact h)
          go_wp2_with fail
          refine (all_any _ _ _ _ HL0.out (by rw [mkL_len]; omega)).mono ?_
          rintro x w3 ⟨v3, rfl, ho3, hf3⟩
          obtain ⟨A3, c3, rfl, _, _⟩ := ho3.form
          rw [mkL_len]
          have HL3 := Lib.hid (HL0.out.fr hf3)
          have HF3 := Lib.hid (HF.out.trans hf3 (fun _ _ => id))
          clear hf3 ho3
          go_wp2_with fail
          refine (map_any _ _ (mkL 256) 4096 12288 4 (by omega) (by omega) _ HL3.out (by rw [mkL_len]; omega)).mono ?_
          rintro x w4 ⟨rfl, hl4, hf4⟩
          rw [l0e]
          have HL4 := Lib.hid (show Lst w4 w.heap.size w.heap.size L1 from hl4)
          have HF4 := Lib.hid (HF3.out.trans hf4 (fun i hi e => by omega))
          clear hl4 hf4
          go_wp2_with fail
          refine (all_any _ _ _ _ HL4.out (by rw [l1n]; omega)).mono ?_
          rintro x w5 ⟨v5, rfl, ho5, hf5⟩
          obtain ⟨A5, c5, rfl, _, _⟩ := ho5.form
          rw [l1n]
          have HL5 := Lib.hid (HL4.out.fr hf5)
          have HF5 := Lib.hid (HF4.out.trans hf5 (fun _ _ => id))
          clear hf5 ho5
          go_wp2_with fail
          refine (map_any _ _ L1 4096 8192 5 (by omega) (by omega) _ HL5.out (by rw [l1n]; omega)).mono ?_
          rintro x w6 ⟨rfl, hl6, hf6⟩
          rw [l1e]
          have HL6 := Lib.hid (show Lst w6 w.heap.size w.heap.size L2 from hl6)
          have HF6 := Lib.hid (HF5.out.trans hf6 (fun i hi e => by omega))
          clear hl6 hf6
          go_wp2_with fail
          refine (all_any _ _ _ _ HL6.out (by rw [l2n]; omega)).mono ?_
          rintro x w7 ⟨v7, rfl, ho7, hf7⟩
          obtain ⟨A7, c7, rfl, _, _⟩ := ho7.form
          rw [l2n]
          have HL7 := Lib.hid (HL6.out.fr hf7)
          have HF7 := Lib.hid (HF6.out.trans hf7 (fun _ _ => id))
          clear hf7 ho7
          go_wp2_with fail
          refine (protect_any _ _ L2 8192 12288 5 (by omega) (by omega) _ HL7.out (by rw [l2n]; omega)).mono ?_
          rintro x w8 ⟨y8, l8, rfl, hp8, hl8, hf8⟩
          obtain ⟨rfl, hn8⟩ := l2p _ _ hp8
          have HL8 := Lib.hid hl8
          have HN8 := Lib.hid hn8
          have HF8 := Lib.hid (HF7.out.trans hf8 (fun i hi e => by omega))
          clear hl8 hf8 hp8 hn8
          go_wp2_with fail
          refine (all_any _ _ _ _ HL8.out (by rw [HN8.out]; omega)).mono ?_
          rintro x w9 ⟨v9, rfl, ho9, hf9⟩
          obtain ⟨A9, c9, rfl, _, _⟩ := ho9.form
          rw [HN8.out]
          have HF9 := Lib.hid (HF8.out.trans hf9 (fun _ _ => id))
          clear hf9 ho9
          go_wp2_with fail
          go_ret
          exact ⟨rfl, HF9.out⟩
theorem many_walk (a0 : Int) (a1 : Bool) (W : World) (w0 : (Lit.int .u16 a0).wf = true) : Calls Try.prog 5 #[.int .u16 a0, .bool a1] W fun e W' => e = .returned (.bool true) ∧ Below W.heap.size W W' := by
  have b0 := Go.bounds_u16 w0
  obtain ⟨m, rfl⟩ : ∃ m : Nat, a0 = m := ⟨a0.toNat, by omega⟩
  exact (many_any m (by omega) a1 W).mono fun _ _ g => ⟨g.1, Fr.below (Below.refl _ _) g.2 (fun _ _ => id)⟩
end Go.Proofs.Ytnaiccgbjcppaaa.Rg
