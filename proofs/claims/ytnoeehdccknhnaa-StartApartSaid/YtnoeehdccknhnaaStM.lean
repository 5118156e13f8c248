/- The document's text and SameTexts, walked. -/
import Derived.Test.YtnoeehdccknhnaaStH
import Derived.Laws.BytesArg
namespace Go.Proofs.Ytnoeehdccknhnaa.St
open Go Go.RowKit Go.Proofs.YtnoeehdccknhnaaW.PrintWords Go.Proofs.YtnoeehdccknhnaaW.PrintLast Go.Proofs.YtnoeehdccknhnaaW.PrintMore
open Go.Proofs.Ytnoeehdccknhnaa.Hp
attribute [local go_sem] max2_int min2_int max_two min_two max_three min_three max_four min_four
set_option linter.unusedVariables false
set_option linter.unusedSimpArgs false
theorem nz_of_good {s : ByteArray} (h : bad s = false) (j : Nat) (hj : j < s.size) : bt s j ≠ 0 := fun e => by
  rw [bad_of_zero hj e] at h
  cases h
/-- A text, at a place of bytes. -/
structure TextAt (O : List Int) (p : Nat) (s : ByteArray) : Prop where
  by_ : ∀ j : Nat, j < s.size → O.getD (p + j) 0 = bt s j
  end_ : O.getD (p + s.size) 0 = 0
  lt : p + s.size < O.length
theorem str_of_bytes (s : ByteArray) : strOfNums (bytesOf s) = s := by
  unfold strOfNums bytesOf
  apply ByteArray.ext
  apply Array.ext'
  show List.map _ _ = _
  rw [List.map_map]
  conv => rhs; rw [← List.map_id s.data.toList]
  apply List.map_congr_left
  intro x _
  simp
theorem bytesOf_at (s : ByteArray) (j : Nat) (hj : j < s.size) : (bytesOf s).getD j 0 = bt s j := by
  unfold bytesOf
  rw [List.getD_eq_getElem?_getD, List.getElem?_map]
  have hj' : j < s.data.toList.length := by rw [Array.length_toList]; exact hj
  rw [List.getElem?_eq_getElem hj']
  have e := bt_at s (j : Int) (by rw [Int.toNat_natCast]; exact hj)
  rw [← e]
  rfl
theorem cut_mid (g n c p q : Nat) (h0 : p < n) (h1 : p + q ≤ n) (h2 : n ≤ c) : ∀ W : World, (Instr.slice 29 (.slice (some ⟨g, 0, none⟩) n c) (some (.int .u64 (p : Int))) (some (.int .u64 ((p + q : Nat) : Int))) none).run Try.prog W = .ok (.slice (some ⟨g, p, none⟩) q (c - p)) W := fun W => by
  obtain ⟨i0, hi, _, hsz, _⟩ := info_parts info8
  have hel : Try.prog.elem 29 = 5 := by simp [Program.elem, Try.underlying29]
  have hu : Try.prog.underlying 29 = some (.slice (Try.prog.elem 29)) := by rw [hel]; exact Try.underlying29
  rw [run_slice_lh W 29 (some ⟨g, 0, none⟩) n c hu .u64 .u64 (p : Int) ((p + q : Nat) : Int) (by omega) (by omega) (by omega), hel]
  have hcp : ¬ (c = p) := by omega
  simp [sizeOf, typeInfo, hi, hsz, sliced, Result.andThen, hcp, Addr.add]
  by_cases h3 : p = 0
  · simp [h3]
  · simp [h3]
    omega
def AtTe (s : ByteArray) (p : Nat) (w : World) (v9 : Value) (kq : Nat) (wr : World) : Prop := ∃ j : Nat, v9 = .int .u64 (p + j : Nat) ∧ j ≤ s.size ∧ s.size - j ≤ kq ∧ w = wr
set_option maxHeartbeats 2000000 in
theorem text_any (g n c : Nat) (O : List Int) (s : ByteArray) (p : Nat) (sp : Int) (w : World) (hr : ReadsInt w .u8 (some ⟨g, 0, none⟩) n O) (hn : n ≤ 1000000) (hc : n ≤ c) (hs : bad s = false) (ht : TextAt O p s) (h0 : 0 ≤ sp) (h1 : sp ≤ 4611686018427387904) :
    Calls Try.prog 23 #[.slice (some ⟨g, 0, none⟩) n c, .int .u64 sp, .int .u64 (sp + (p : Int))] w fun e w' => e = .returned (.tuple #[.string s, .bool true]) ∧ w' = w := by
  have HR := Lib.hid hr
  have HNZ := Lib.hid (nz_of_good hs)
  have HT := Lib.hid ht
  have hlt := ht.lt
  rw [hr.1] at hlt
  obtain ⟨z, hz⟩ : ∃ z, s.size = z := ⟨_, rfl⟩
  have HZ := Lib.hid hz
  rw [hz] at hlt
  have d0 : decide (sp + (p : Int) < sp) = false := decide_eq_false (by omega)
  have e0 : IntKind.u64.wrap (sp + (p : Int) - sp) = ((p : Nat) : Int) := by rw [show sp + (p : Int) - sp = (p : Int) by omega]; exact IntWalk.u64_in _ (by omega)
  have e1 : IntKind.u64.wrap (n : Int) = (n : Int) := IntWalk.u64_in _ (by omega)
  clear hr hs ht hz
  go_enter Try.func23, Try.ntmps23
  go_wp2_with fail
  go_loopg [9] z (fun kq v9 wr => Hid (AtTe s p w v9 kq wr))
  case atStart => exact Lib.hid ⟨0, rfl, by omega, by rw [HZ.out]; omega, rfl⟩
  case round =>
    obtain ⟨j, rfl, hj1, hj2, rfl⟩ := hrel.out
    rw [HZ.out] at hj1 hj2
    clear hrel
    have y := reads_head HR.out (p + j) (by omega)
    obtain ⟨b, hb⟩ : ∃ b, O.getD (p + j) 0 = b := ⟨_, rfl⟩
    have HB := Lib.hid hb
    rw [hb] at y
    obtain ⟨k, hk⟩ : ∃ k, p + j = k := ⟨_, rfl⟩
    have HK := Lib.hid hk
    rw [hk] at y ⊢
    have hkn : k < n := by omega
    have d1 : decide ((k : Int) < (n : Int)) = true := decide_eq_true (by omega)
    have d1' : decide (k < n) = true := decide_eq_true hkn
    have i0 : (0 : Int) ≤ (k : Int) := by omega
    have i1 : (k : Int) < (n : Int) := by omega
    by_cases hj : j < z
    · have b0 : (b == 0) = false := by
        rw [beq_eq_false_iff_ne, ← HB.out, HT.out.by_ j (by rw [HZ.out]; exact hj)]
        exact HNZ.out j (by rw [HZ.out]; exact hj)
      have e2 : IntKind.u64.wrap ((k : Int) + 1) = ((k + 1 : Nat) : Int) := by rw [show (k : Int) + 1 = ((k + 1 : Nat) : Int) by omega]; exact IntWalk.u64_in _ (by omega)
      clear hb hk
      go_wp2_with fail
      go_roundg (z - (j + 1))
      case measure => omega
      case rel => exact Lib.hid ⟨j + 1, by rw [← Nat.add_assoc, HK.out]; go_num, by rw [HZ.out]; omega, by rw [HZ.out]; omega, rfl⟩
    · obtain rfl : j = z := by omega
      have b0 : (b == 0) = true := by
        rw [beq_iff_eq, ← HB.out]
        have e := HT.out.end_
        rw [HZ.out] at e
        exact e
      have q1 := cut_mid g n c p j (by omega) (by omega) hc
      rw [hk] at q1
      have q2 : (convert 29 9 (.slice (some ⟨g, p, none⟩) j (c - p))).run Try.prog w = .ok (.string s) w := by
        have e := run_convert_bytes_arg w 29 5 Try.underlying29 Try.underlying5 g p j (c - p) (bytesOf s) (by rw [bytesOf_length, HZ.out]) (fun i hi => by
          rw [bytesOf_at s i (by rw [HZ.out]; exact hi), ← HT.out.by_ i (by rw [HZ.out]; exact hi)]
          exact reads_head HR.out (p + i) (by omega)) 9 Try.underlying9
        rw [str_of_bytes] at e
        exact e
      clear hb hk
      go_wp2_with fail
      go_ret2
      exact ⟨rfl, rfl⟩
def AtST (l : List ByteArray) (w : World) (v5 : Value) (kq : Nat) (wr : World) : Prop := ∃ j : Nat, v5 = .int .i64 j ∧ j ≤ l.length ∧ l.length - j ≤ kq ∧ Fr (fun _ => False) w wr
set_option maxHeartbeats 2000000 in
theorem same_texts (A1 A2 : Option Addr) (c1 c2 : Nat) (l : List ByteArray) (w : World) (h1 : Kd.string.C w A1 l.length l) (h2 : Kd.string.C w A2 l.length l) :
    Calls Try.prog 13 #[.slice A1 l.length c1, .slice A2 l.length c2] w fun e w' => e = .returned (.bool true) ∧ Fr (fun _ => False) w w' := by
  have H1 := Lib.hid h1
  have H2 := Lib.hid h2
  have hm := h1.2.1
  obtain ⟨n, hn⟩ : ∃ n, l.length = n := ⟨_, rfl⟩
  have HN := Lib.hid hn
  rw [hn] at H1 H2 hm ⊢
  clear h1 h2 hn
  have b0 : ((n : Int) != (n : Int)) = false := by simp
  have b0' : (n != n) = false := by simp
  go_enter Try.func13, Try.ntmps13
  go_wp2_with fail
  go_loopg [5] n (fun kq v5 wr => Hid (AtST l w v5 kq wr))
  case atStart => exact Lib.hid ⟨0, rfl, by omega, by rw [HN.out]; omega, Fr.refl _ _⟩
  case round =>
    obtain ⟨j, rfl, hj1, hj2, hf⟩ := hrel.out
    rw [HN.out] at hj1 hj2
    have HF := Lib.hid hf
    clear hrel hf
    by_cases hj : j < n
    · have u1 : decide ((j : Int) < (n : Int)) = true := decide_eq_true (by omega)
      have u1' : decide (j < n) = true := decide_eq_true hj
      have j0 : (0 : Int) ≤ (j : Int) := by omega
      have j1 : (j : Int) < (n : Int) := by omega
      have HB := Lib.hid (Fr.below (Below.refl w.heap.size w) HF.out (fun _ _ => id))
      obtain ⟨ad1, e1, hx1⟩ := at_S (show Kd.string.C wr A1 n l from Kd.C_below H1.out HB.out) j hj
      obtain ⟨ad2, e2, hx2⟩ := at_S (show Kd.string.C wr A2 n l from Kd.C_below H2.out HB.out) j hj
      subst e1
      subst e2
      obtain ⟨s, hs⟩ : ∃ s, rdS l j = s := ⟨_, rfl⟩
      rw [hs] at hx1 hx2
      clear hs
      go_wp2_with fail
      go_quiet (fail)
      all_goals
        go_wp2_with fail
        go_roundg (n - (j + 1))
        case measure => omega
        case rel => exact Lib.hid ⟨j + 1, by go_num, by rw [HN.out]; omega, by rw [HN.out]; omega, HF.out.drewN _⟩
    · obtain rfl : j = n := by omega
      have u1 : decide ((j : Int) < (j : Int)) = false := decide_eq_false (by omega)
      go_wp2_with fail
      go_ret
      exact ⟨rfl, HF.out⟩
end Go.Proofs.Ytnoeehdccknhnaa.St
