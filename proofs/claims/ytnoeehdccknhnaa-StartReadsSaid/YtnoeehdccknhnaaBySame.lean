/- The contract of the document's Same, walked: for every slice of bytes. -/
import Derived.Test.YtnoeehdccknhnaaBy
namespace Go.Proofs.Ytnoeehdccknhnaa.By
open Go Go.RowKit Go.Proofs.YtnoeehdccknhnaaW.PrintWords Go.Proofs.YtnoeehdccknhnaaW.PrintLast Go.Proofs.YtnoeehdccknhnaaW.PrintMore
open Go.Proofs.Ytnoeehdccknhnaa.Bv
attribute [local go_sem] max2_int min2_int max_two min_two max_three min_three max_four min_four
set_option linter.unusedVariables false
set_option linter.unusedSimpArgs false
theorem take_ne {a b : List Int} {k : Nat} (ha : k < a.length) (hb : k < b.length) (h : ¬ rd a k = rd b k) : false = decide (a = b) := by
  rw [eq_comm, decide_eq_false_iff_not]
  intro e; subst e; exact h rfl
theorem take_eq {a b : List Int} (hl : a.length = b.length) (h : ∀ j, j < a.length → rd a j = rd b j) : true = decide (a = b) := by
  rw [eq_comm, decide_eq_true_eq]
  apply List.ext_getElem hl
  intro j h1 h2
  have := h j h1
  rwa [rd_at a j h1, rd_at b j h2] at this
theorem same_succ {a b : List Int} {k : Nat} (h : ∀ j, j < k → rd a j = rd b j) (hk : rd a k = rd b k) : ∀ j, j < k + 1 → rd a j = rd b j := by
  intro j hj
  rcases Nat.lt_or_ge j k with h1 | h1
  · exact h j h1
  · obtain rfl : j = k := by omega
    exact hk
set_option maxHeartbeats 1000000 in
theorem same_any (A B : Option Addr) (c d : Nat) (a b : List Int) (w : World) (ha : Kd.C (Kd.int .u8) w A a.length a) (hb : Kd.C (Kd.int .u8) w B b.length b) :
    Calls Try.prog 11 #[.slice A a.length c, .slice B b.length d] w fun e w' => e = .returned (.bool (decide (a = b))) ∧ Drawn0 w w' := by
  have HA := Lib.hid ha
  have HB := Lib.hid hb
  have hlen := Kd.C_max ha
  have hlen2 := Kd.C_max hb
  clear ha hb
  by_cases hl : a.length = b.length
  · have HL := Lib.hid hl
    have t0 : ((a.length : Int) == (b.length : Int)) = true := by rw [beq_iff_eq]; omega
    have t00 : (a.length == b.length) = true := by rw [beq_iff_eq]; omega
    have t01 : (a.length != b.length) = false := by rw [bne_eq_false_iff_eq]; omega
    have t02 : ((a.length : Int) != (b.length : Int)) = false := by rw [bne_eq_false_iff_eq]; omega
    clear hl
    go_enter Try.func11, Try.ntmps11
    go_wp2
    go_loopw [5] (fun i wr => ∃ k : Nat, k ≤ a.length ∧ i = .int .i64 k ∧ Hid (∀ j, j < k → rd a j = rd b j) ∧ Drawn0 w wr) (fun i _ => a.length - (intOf i).toNat)
    case atStart => exact ⟨0, by omega, rfl, Lib.hid (fun j hj => by omega), Drawn0.refl _⟩
    case round =>
      obtain ⟨k, hk, rfl, HE, nd, rfl⟩ := hrel
      by_cases hka : k < a.length
      · have hkb : k < b.length := by have := HL.out; omega
        obtain ⟨ad, e1, hx⟩ := Kd.at_int HA.out (k : Int) (by omega) (by omega)
        cases e1
        obtain ⟨bd, e2, hy⟩ := Kd.at_int HB.out (k : Int) (by omega) (by omega)
        cases e2
        rw [Int.toNat_natCast] at hx hy
        by_cases hne : rd a k = rd b k
        · have HN := Lib.hid hne
          have t1 : (rd a k != rd b k) = false := by rw [bne_eq_false_iff_eq]; exact hne
          have t2 : (rd a k == rd b k) = true := by rw [beq_iff_eq]; exact hne
          clear hne
          go_wp2
          go_quiet (fail)
          go_wp2
          go_roundw
          case rel => exact ⟨k + 1, by omega, by go_num, Lib.hid (same_succ HE.out HN.out), by repeat (first | exact Drawn0.refl _ | apply Drawn0.step)⟩
          case measure => simp [intOf]; omega
        · have t1 : (rd a k != rd b k) = true := by rw [bne_iff_ne]; exact hne
          have t2 : (rd a k == rd b k) = false := by rw [beq_eq_false_iff_ne]; exact hne
          have HN := Lib.hid (take_ne hka hkb hne)
          clear hne
          go_wp2
          go_quiet (fail)
          go_wp2
          go_ret
          exact ⟨ret_bool HN.out, by repeat (first | exact Drawn0.refl _ | apply Drawn0.step)⟩
      · obtain rfl : k = a.length := by omega
        go_wp2
        go_ret
        exact ⟨ret_bool (take_eq HL.out HE.out), by repeat (first | exact Drawn0.refl _ | apply Drawn0.step)⟩
  · have HN : Hid (false = decide (a = b)) := Lib.hid (by rw [eq_comm, decide_eq_false_iff_not]; intro e; subst e; exact hl rfl)
    have t0 : ((a.length : Int) == (b.length : Int)) = false := by rw [beq_eq_false_iff_ne]; omega
    have t00 : (a.length == b.length) = false := by rw [beq_eq_false_iff_ne]; omega
    have t01 : (a.length != b.length) = true := by rw [bne_iff_ne]; omega
    have t02 : ((a.length : Int) != (b.length : Int)) = true := by rw [bne_iff_ne]; omega
    clear hl
    go_enter Try.func11, Try.ntmps11
    go_wp2
    go_ret
    exact ⟨ret_bool HN.out, Drawn0.refl _⟩

end Go.Proofs.Ytnoeehdccknhnaa.By
