/- The contract of the document's pieces, walked: for every list of pieces of at most 16 bits in all, and of its S. -/
import Derived.Test.YtgefhoikpjiamaaCmpG
import Derived.Outline
namespace Go.Proofs.Ytgefhoikpjiamaa.Cmp
open Go Go.RowKit Go.Proofs.YtgefhoikpjiamaaW.PrintWords Go.Proofs.YtgefhoikpjiamaaW.PrintLast Go.Proofs.YtgefhoikpjiamaaW.PrintMore
open Go.Proofs.Ytgefhoikpjiamaa.Hp Go.Proofs.Ytgefhoikpjiamaa.Bv
attribute [local go_sem] max2_int min2_int max_two min_two max_three min_three max_four min_four
set_option linter.unusedVariables false
set_option linter.unusedSimpArgs false
theorem read_at {w : World} {l : List Int} {g : Nat} (hr : ReadsInt w .i64 (some ⟨g, 0, none⟩) l.length l) (n j : Nat) (hj : j < l.length) : (w.drewN n).cell? ⟨g, j, none⟩ = some (.int .i64 (l.getD j 0)) := by
  obtain ⟨ad', e, hc⟩ := hr.2.2 (by omega)
  injection e with e
  subst e
  have h := hc j hj
  rw [add_plain] at h
  exact h
theorem ret_i64 {a b : Int} (h : a = b) : Ending.returned (.int .i64 a) = .returned (.int .i64 b) := by rw [h]
/-- The number so far: N of the pieces ahead, and this piece's bits down to bit lo + t. -/
def vv (N h hi lo t : Nat) : Nat := N * 2 ^ (hi + 1 - (lo + t)) + fN h hi (lo + t)
theorem vv_top (N h hi lo : Nat) (hl : lo ≤ hi + 1) : vv N h hi lo (hi + 1 - lo) = N := by
  unfold vv
  have e : lo + (hi + 1 - lo) = hi + 1 := by omega
  rw [e, fN_top, Nat.sub_self, Nat.pow_zero]
  omega
theorem vv_step (N h hi lo s : Nat) (hs : s + 1 ≤ hi + 1 - lo) : vv N h hi lo (s + 1) * 2 + fN h (lo + s) (lo + s) = vv N h hi lo s := by
  unfold vv
  have e : hi + 1 - (lo + s) = (hi + 1 - (lo + (s + 1))) + 1 := by omega
  have e1 : fN h (lo + s) (lo + s) = h / 2 ^ (lo + s) % 2 := by
    unfold fN
    rw [show lo + s + 1 - (lo + s) = 1 by omega]
  have e2 := fN_step h hi (lo + s) (by omega)
  have e2 : fN h hi (lo + (s + 1)) * 2 + h / 2 ^ (lo + s) % 2 = fN h hi (lo + s) := e2
  rw [e, Nat.pow_succ, e1, ← e2, Nat.add_mul, Nat.mul_assoc]
  omega
theorem vv_lt (N h hi lo t m : Nat) (hN : N < 2 ^ m) (hm : m + (hi + 1 - lo) ≤ 16) : vv N h hi lo t < 65536 := by
  unfold vv
  have hf : fN h hi (lo + t) < 2 ^ (hi + 1 - (lo + t)) := Nat.mod_lt _ (Nat.two_pow_pos _)
  have h1 : (N + 1) * 2 ^ (hi + 1 - (lo + t)) ≤ 2 ^ m * 2 ^ (hi + 1 - (lo + t)) := Nat.mul_le_mul_right _ hN
  rw [Nat.add_mul, Nat.one_mul, ← Nat.pow_add] at h1
  have h2 : 2 ^ (m + (hi + 1 - (lo + t))) ≤ 2 ^ 16 := Nat.pow_le_pow_right (by decide) (by omega)
  omega
theorem Fbit_any (h b : Nat) (hh : h < 65536) (hb : b ≤ 15) (w : World) : Calls Try.prog 15 #[.int .u32 (h : Int), .int .i64 (b : Int), .int .i64 (b : Int)] w fun e w' => e = .returned (.int .i64 ((fN h b b : Nat) : Int)) ∧ Drawn0 w w' := F_any h b b hh hb (by omega) w
set_option maxHeartbeats 1000000 in
theorem pieces_any (h : Nat) (hh : h < 65536) (L : List (Nat × Nat)) (hL : ∀ p ∈ L, p.2 ≤ p.1 ∧ p.1 ≤ 15) (z : Nat) (hz : pcLen L + z ≤ 16) (hm : L.length ≤ 16) (g c : Nat) (w : World) (hr : ReadsInt w .i64 (some ⟨g, 0, none⟩) (flat L).length (flat L)) :
    Calls Try.prog 16 #[.int .u16 (h : Int), .slice (some ⟨g, 0, none⟩) (flat L).length c, .int .i64 (z : Int)] w fun e w' => e = .returned (.int .i64 ((pc h L 0 * 2 ^ z : Nat) : Int)) ∧ Drawn0 w w' := by
  have HR := Lib.hid (fun n j hj => read_at hr n j hj)
  have hfl := flat_length L
  have HAT := Lib.hid (flat_at L)
  obtain ⟨FL, hFL⟩ : ∃ n, n = (flat L).length := ⟨_, rfl⟩
  rw [← hFL] at hfl HR ⊢
  have HL := Lib.hid hL
  have HFL := Lib.hid hfl
  have hFLm : FL ≤ 32 := by omega
  have e34 : ((h : Int) % 4294967296) = (h : Int) := by omega
  have HB := Lib.hid (show ∀ b : Nat, b ≤ 15 → ∀ w, Calls Try.prog 15 #[.int .u32 (h : Int), .int .i64 (b : Int), .int .i64 (b : Int)] w fun e w' => e = .returned (.int .i64 ((fN h b b : Nat) : Int)) ∧ Drawn0 w w' from fun b hb w => Fbit_any h b hh hb w)
  clear hr hFL hL hfl
  go_enter Try.func16, Try.ntmps16
  go_wp2
  go_loopw [7, 8] (fun n k wr => ∃ j kk : Nat, j ≤ L.length ∧ Hid (kk = 2 * j) ∧ k = .int .i64 kk ∧ n = .int .i64 ((pc h (L.take j) 0 : Nat) : Int) ∧ Drawn0 w wr) (fun _ k _ => FL - (intOf k).toNat)
  case atStart => exact ⟨0, 0, by omega, Lib.hid rfl, rfl, rfl, Drawn0.refl _⟩
  case round =>
    obtain ⟨j, kk, hj, HK, rfl, rfl, nd, rfl⟩ := hrel
    by_cases hlt : j < L.length
    · have hp : L[j]? = some L[j] := List.getElem?_eq_getElem hlt
      obtain ⟨p1, p2⟩ := HAT.out j _ hp
      have hb := HL.out _ (List.getElem_mem hlt)
      have hsn : pc h (L.take (j + 1)) 0 = pc h (L.take j) 0 * 2 ^ (L[j].1 + 1 - L[j].2) + fN h L[j].1 L[j].2 := by rw [List.take_succ_eq_append_getElem hlt, pc_snoc]
      have hlen : pcLen (L.take (j + 1)) = pcLen (L.take j) + (L[j].1 + 1 - L[j].2) := by rw [List.take_succ_eq_append_getElem hlt, pcLen_snoc]
      have hl2 := pcLen_take L (j + 1)
      have hpc := pc_lt h (L.take j) 0 0 (by decide)
      rw [Nat.zero_add] at hpc
      have c0 := fun n => HR.out n kk (by have := HK.out; have := HFL.out; omega)
      have c1 := fun n => HR.out n (kk + 1) (by have := HK.out; have := HFL.out; omega)
      rw [HK.out, p1] at c0
      rw [HK.out, p2] at c1
      rw [← HK.out] at c0 c1
      obtain ⟨hi, hhi⟩ : ∃ x, x = L[j].1 := ⟨_, rfl⟩
      obtain ⟨lo, hlo⟩ : ∃ x, x = L[j].2 := ⟨_, rfl⟩
      rw [← hhi] at c0 hb hsn hlen
      rw [← hlo] at c1 hb hsn hlen
      obtain ⟨N, hN⟩ : ∃ x, x = pc h (L.take j) 0 := ⟨_, rfl⟩
      rw [← hN] at hsn hpc ⊢
      have HV := Lib.hid (fun t => vv_lt N h hi lo t _ hpc (by omega))
      have HSN := Lib.hid hsn
      have hlo1 : lo ≤ hi := hb.1
      have hhi1 : hi ≤ 15 := hb.2
      have hkk : (kk : Int) + 1 < FL := by have := HK.out; have := HFL.out; omega
      have C1 := Lib.hid c1
      have c0 := c0 nd
      have hV0 := HV.out (hi + 1 - lo)
      rw [vv_top N h hi lo (by omega)] at hV0
      clear hp p1 p2 hb hsn hlen hl2 hpc c1 hhi hlo hN
      go_wp2
      obtain ⟨wo, hwo⟩ : ∃ wo : World, wo = w.drewN nd := ⟨_, rfl⟩
      have HWO := Lib.hid hwo
      rw [← hwo]
      clear hwo c0
      go_loopw [7, 9] (fun n b wr => ∃ t : Nat, t ≤ hi + 1 - lo ∧ b = .int .i64 ((lo : Int) + t - 1) ∧ n = .int .i64 ((vv N h hi lo t : Nat) : Int) ∧ Drawn0 wo wr) (fun _ b _ => (intOf b - lo + 1).toNat)
      case atStart => exact ⟨hi + 1 - lo, Nat.le_refl _, by congr 1; omega, by rw [vv_top N h hi lo (by omega)], Drawn0.refl _⟩
      case round =>
        obtain ⟨t, ht, rfl, rfl, nd2, rfl⟩ := hrel
        have hw2 : wo.drewN nd2 = w.drewN (nd + nd2) := by rw [HWO.out, World.drewN_drewN]
        have c1 := C1.out (nd + nd2)
        rw [← hw2] at c1
        clear hw2
        have hv := HV.out t
        cases t with
        | zero =>
          have t1 : decide ((lo : Int) ≤ (lo : Int) + ((0 : Nat) : Int) - 1) = false := decide_eq_false (by omega)
          go_wp2
          go_roundw
          case rel => exact ⟨j + 1, kk + 2, by omega, Lib.hid (by have := HK.out; omega), by go_num, by rw [HSN.out]; rfl, by rw [HWO.out]; exact ⟨nd + nd2, by rw [World.drewN_drewN]⟩⟩
          case measure => simp [intOf]; omega
        | succ s =>
          have hbe : (lo : Int) + ((s + 1 : Nat) : Int) - 1 = ((lo + s : Nat) : Int) := by omega
          rw [hbe]
          have hst := Lib.hid (vv_step N h hi lo s (by omega))
          have hv2 := HV.out s
          have HC := Lib.hid (HB.out (lo + s) (by omega))
          have hbb : lo ≤ lo + s := by omega
          obtain ⟨b, hb⟩ : ∃ b, b = lo + s := ⟨_, rfl⟩
          rw [← hb] at hst HC hbb ⊢
          have HBB := Lib.hid hb
          have hfb : fN h b b < 65536 := fN_lt h b b (by omega)
          obtain ⟨f, hf⟩ : ∃ f, f = fN h b b := ⟨_, rfl⟩
          rw [← hf] at hst HC hfb
          obtain ⟨v1, hv1⟩ : ∃ v, v = vv N h hi lo (s + 1) := ⟨_, rfl⟩
          rw [← hv1] at hst hv ⊢
          obtain ⟨v0, hv0⟩ : ∃ v, v = vv N h hi lo s := ⟨_, rfl⟩
          have HV0 := Lib.hid hv0
          rw [← hv0] at hst hv2
          have hsum : (v1 : Int) * 2 + f = v0 := by have := hst.out; omega
          have hbm : b ≤ 15 := by omega
          clear hbe hb hf hv1 hv0
          go_wp2_with (go_at_call 15; refine (HC.out _).mono ?_; rintro e w' ⟨rfl, ⟨m, rfl⟩⟩)
          go_roundw
          case rel => exact ⟨s, by omega, by congr 1; have := HBB.out; omega, by rw [← HV0.out], by repeat (first | exact Drawn0.refl _ | apply Drawn0.step)⟩
          case measure => simp [intOf]; have := HBB.out; omega
    · have hkk : ¬ (kk : Int) + 1 < FL := by have := HK.out; have := HFL.out; omega
      have hkm : kk ≤ 32 := by have := HK.out; omega
      have hjl : j = L.length := by omega
      have hpc := pc_lt h L 0 0 (by decide)
      rw [Nat.zero_add] at hpc
      rw [hjl, List.take_length]
      have hP2 : ∀ t, t ≤ z → pc h L 0 * 2 ^ (z - t) < 65536 := by
        intro t ht
        have h1 : (pc h L 0 + 1) * 2 ^ (z - t) ≤ 2 ^ pcLen L * 2 ^ (z - t) := Nat.mul_le_mul_right _ hpc
        rw [Nat.add_mul, Nat.one_mul, ← Nat.pow_add] at h1
        have h2 : 2 ^ (pcLen L + (z - t)) ≤ 2 ^ 16 := Nat.pow_le_pow_right (by decide) (by omega)
        have h3 := Nat.two_pow_pos (z - t)
        omega
      have HP2 := Lib.hid hP2
      obtain ⟨P, hP⟩ : ∃ P, P = pc h L 0 := ⟨_, rfl⟩
      have HP := Lib.hid hP
      rw [← hP] at HP2 ⊢
      clear hjl hpc hP hP2 hlt
      go_wp2
      go_loopw [2, 7] (fun q n wr => ∃ t : Nat, t ≤ z ∧ q = .int .i64 t ∧ n = .int .i64 ((P * 2 ^ (z - t) : Nat) : Int) ∧ Drawn0 w wr) (fun q _ _ => (intOf q).toNat)
      case atStart => exact ⟨z, Nat.le_refl _, rfl, by rw [Nat.sub_self, Nat.pow_zero, Nat.mul_one], ⟨nd, rfl⟩⟩
      case round =>
        obtain ⟨t, ht, rfl, rfl, nd3, rfl⟩ := hrel
        cases t with
        | zero =>
          go_wp2
          go_ret
          exact ⟨ret_i64 (by rw [Nat.sub_zero, HP.out]), ⟨nd3, rfl⟩⟩
        | succ s =>
          have e := Lib.hid (show P * 2 ^ (z - (s + 1)) * 2 = P * 2 ^ (z - s) by rw [Nat.mul_assoc, ← Nat.pow_succ]; congr 2; omega)
          have b1 := HP2.out (s + 1) ht
          have b2 := HP2.out s (by omega)
          obtain ⟨v1, hv1⟩ : ∃ v, v = P * 2 ^ (z - (s + 1)) := ⟨_, rfl⟩
          obtain ⟨v0, hv0⟩ : ∃ v, v = P * 2 ^ (z - s) := ⟨_, rfl⟩
          have HV0 := Lib.hid hv0
          rw [← hv1] at e b1 ⊢
          rw [← hv0] at e b2
          have hsum : (v1 : Int) * 2 = v0 := by have := e.out; omega
          clear hv1 hv0
          go_wp2
          go_roundw
          case rel => exact ⟨s, by omega, by go_num, by rw [← HV0.out], by repeat (first | exact Drawn0.refl _ | apply Drawn0.step)⟩
          case measure => simp [intOf]
end Go.Proofs.Ytgefhoikpjiamaa.Cmp
