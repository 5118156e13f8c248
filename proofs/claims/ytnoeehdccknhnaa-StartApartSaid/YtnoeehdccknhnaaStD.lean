/- start.down, start.total: walked. -/
import Derived.Test.YtnoeehdccknhnaaStB
namespace Go.Proofs.Ytnoeehdccknhnaa.St
open Go Go.RowKit Go.Proofs.YtnoeehdccknhnaaW.PrintWords Go.Proofs.YtnoeehdccknhnaaW.PrintLast Go.Proofs.YtnoeehdccknhnaaW.PrintMore
open Go.Proofs.Ytnoeehdccknhnaa.Hp
attribute [local go_sem] max2_int min2_int max_two min_two max_three min_three max_four min_four
set_option linter.unusedVariables false
set_option linter.unusedSimpArgs false
theorem down_any (n : Int) (h0 : 0 ≤ n) (h1 : n ≤ 4611686018427387904) (w : World) : Calls Try.prog 17 #[.int .u64 n] w fun e w' => e = .returned (.int .u64 (n / 16 * 16)) ∧ w' = w := by
  have e1 : n.tdiv 16 = n / 16 := Int.tdiv_eq_ediv_of_nonneg h0
  have e2 : IntKind.u64.wrap (n / 16) = n / 16 := IntWalk.u64_in _ (by omega)
  have e3 : IntKind.u64.wrap (n / 16 * 16) = n / 16 * 16 := IntWalk.u64_in _ (by omega)
  go_enter Try.func17, Try.ntmps17
  go_wp2_with fail
  go_ret
  exact ⟨rfl, rfl⟩
def AtTo (ll : List (List ByteArray)) (w : World) (s i : Value) (kq : Nat) (wr : World) : Prop := ∃ k : Nat, i = .int .i64 k ∧ k ≤ ll.length ∧ ll.length - k ≤ kq ∧ s = .int .i64 (szLL (ll.take k)) ∧ wr = w
def AtTi (l : List ByteArray) (S : Nat) (w : World) (s i : Value) (kq : Nat) (wr : World) : Prop := ∃ k : Nat, i = .int .i64 k ∧ k ≤ l.length ∧ l.length - k ≤ kq ∧ s = .int .i64 (S + szOf (l.take k) : Nat) ∧ wr = w
theorem szLL_take (ll : List (List ByteArray)) : ∀ i, szLL (ll.take i) ≤ szLL ll := by
  induction ll with
  | nil => intro i; simp
  | cons a r ih => intro i; cases i with
    | zero => simp [szLL]
    | succ i => simp only [List.take_succ_cons, szLL]; have := ih i; omega
set_option maxHeartbeats 2000000 in
theorem total_any (A : Option Addr) (c : Nat) (ll : List (List ByteArray)) (w : World) (hC : Kd.C (Kd.slice 9 Kd.string) w A ll.length ll) (hc : ll.length ≤ c) (hl : ll.length ≤ 4) (hn : cntLL ll ≤ 1000000) (hsz : szLL ll ≤ 1000000) :
    Calls Try.prog 18 #[.slice A ll.length c] w fun e w' => e = .returned (.int .i64 (szLL ll)) ∧ w' = w := by
  have HR := Lib.hid hC
  have HN := Lib.hid hn
  have HZ := Lib.hid hsz
  have hl' := hl
  clear hC hc hn hsz
  obtain ⟨n, hnn⟩ : ∃ n, ll.length = n := ⟨_, rfl⟩
  have HL := Lib.hid hnn
  rw [hnn] at hl hl' HR ⊢
  clear hnn
  go_enter Try.func18, Try.ntmps18
  go_wp2_with fail
  go_loopg [3, 10] n (fun kq v3 v10 wr => Hid (AtTo ll w v3 v10 kq wr))
  case atStart => exact Lib.hid ⟨0, rfl, by omega, by rw [HL.out]; omega, by simp [szLL], rfl⟩
  case round =>
    obtain ⟨k, rfl, hk1, hk2, rfl, rfl⟩ := hrel.out
    rw [HL.out] at hk1 hk2
    clear hrel
    obtain ⟨S, hS⟩ : ∃ S, szLL (ll.take k) = S := ⟨_, rfl⟩
    have HS := Lib.hid hS
    rw [hS]
    clear hS
    by_cases hk : k < n
    · have t1 : decide ((k : Int) < (n : Int)) = true := decide_eq_true (by omega)
      have t1' : decide (k < n) = true := decide_eq_true hk
      have i0 : (0 : Int) ≤ (k : Int) := by omega
      have i1 : (k : Int) < (n : Int) := by omega
      obtain ⟨ad, A0, c0, e, hx, hl0, hC0⟩ := at_LL HR.out k hk
      subst e
      have HC0 := Lib.hid hC0
      have hlk : k < ll.length := by rw [HL.out]; exact hk
      have HLKK := Lib.hid hlk
      have hm := szLL_mem (l := ll) (i := k) hlk
      have hst := szLL_take ll (k + 1)
      rw [take_snoc ([] : List ByteArray) ll k hlk, szLL_snoc, HS.out] at hst
      obtain ⟨l, hl1⟩ : ∃ l, rdL ll k = l := ⟨_, rfl⟩
      rw [show ll.getD k [] = l from hl1] at hst
      have HLK := Lib.hid hl1
      rw [hl1] at hx hl0 HC0 hm
      obtain ⟨m, hm1⟩ : ∃ m, l.length = m := ⟨_, rfl⟩
      have HLM := Lib.hid hm1
      rw [hm1] at hx hl0 HC0 hm
      have hm6 : m ≤ 1000000 := by have := HN.out; omega
      have HST := Lib.hid (show S + szOf l ≤ 1000000 from by have := HZ.out; omega)
      clear hC0 hl1 hm1 hm hst hlk
      go_wp2_with fail
      go_loopg [3, 16] m (fun kq v3 v16 wr2 => Hid (AtTi l S wr v3 v16 kq wr2))
      case atStart => exact Lib.hid ⟨0, rfl, by omega, by rw [HLM.out]; omega, by simp [szOf], rfl⟩
      case round =>
        obtain ⟨i, rfl, hi1, hi2, rfl, rfl⟩ := hrel.out
        rw [HLM.out] at hi1 hi2
        clear hrel
        obtain ⟨T, hT⟩ : ∃ T, S + szOf (l.take i) = T := ⟨_, rfl⟩
        have HT := Lib.hid hT
        rw [hT]
        clear hT
        by_cases hi : i < m
        · have u1 : decide ((i : Int) < (m : Int)) = true := decide_eq_true (by omega)
          have u1' : decide (i < m) = true := decide_eq_true hi
          have j0 : (0 : Int) ≤ (i : Int) := by omega
          have j1 : (i : Int) < (m : Int) := by omega
          obtain ⟨ad2, e2, hx2⟩ := at_S HC0.out i hi
          subst e2
          have hlen2 : i < l.length := by rw [HLM.out]; exact hi
          have hst2 := szOf_take l (i + 1)
          rw [take_snoc ByteArray.empty l i hlen2, szOf_snoc] at hst2
          obtain ⟨s, hs1⟩ : ∃ s, rdS l i = s := ⟨_, rfl⟩
          rw [show l.getD i ByteArray.empty = s from hs1] at hst2
          have HNX := Lib.hid (show S + szOf (l.take (i + 1)) = T + (s.size + 1) from by rw [take_snoc ByteArray.empty l i hlen2, szOf_snoc, show l.getD i ByteArray.empty = s from hs1, ← HT.out]; omega)
          have hb : T + s.size + 1 ≤ 1000000 := by have := HST.out; have := HT.out; omega
          rw [hs1] at hx2
          clear hs1 hst2 hlen2
          have hw0 : IntKind.i64.wrap ((s.size : Int) + 1) = (s.size : Int) + 1 := IntWalk.i64_in _ (by omega)
          have hw1 : IntKind.i64.wrap ((T : Int) + ((s.size : Int) + 1)) = (T : Int) + ((s.size : Int) + 1) := IntWalk.i64_in _ (by omega)
          go_wp2_with fail
          go_roundg (m - (i + 1))
          case measure => omega
          case rel => exact Lib.hid ⟨i + 1, by go_num, by rw [HLM.out]; omega, by rw [HLM.out]; omega, by rw [HNX.out]; simp, rfl⟩
        · obtain rfl : i = m := by omega
          have HNX := Lib.hid (show szLL (ll.take (k + 1)) = T from by rw [take_snoc ([] : List ByteArray) ll k HLKK.out, szLL_snoc, HS.out, show ll.getD k [] = l from HLK.out, ← HT.out, List.take_of_length_le (by rw [HLM.out]; exact Nat.le_refl _)])
          go_wp2_with fail
          go_roundg (n - (k + 1))
          case measure => omega
          case rel => exact Lib.hid ⟨k + 1, by go_num, by rw [HL.out]; omega, by rw [HL.out]; omega, by rw [HNX.out], rfl⟩
    · obtain rfl : k = n := by omega
      have e2 : szLL ll = S := by rw [← HS.out, List.take_of_length_le (by rw [HL.out]; exact Nat.le_refl _)]
      have E2 := Lib.hid e2
      clear e2
      go_wp2_with fail
      go_ret
      exact ⟨by rw [E2.out]; rfl, rfl⟩
end Go.Proofs.Ytnoeehdccknhnaa.St
