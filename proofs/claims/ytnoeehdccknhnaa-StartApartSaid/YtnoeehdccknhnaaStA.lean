/- Texts and what may be handed over: start.check, walked. -/
import Derived.Test.YtnoeehdccknhnaaProg
import Derived.Below
import Derived.Deep.Draws
import Derived.Deep.AppendLies
import Derived.Maps.AppendAt
import Derived.OwnWalk
import Derived.Laws.BytesArg
import Derived.Laws.MakeOwn
import Derived.Laws.OwnMore
import Derived.Deep.OwnRows
import Derived.Tactics
import Derived.Lib.ConvBytes
import Derived.Laws.Slices
import Derived.WalkKit
import Derived.KernelRfl
import Derived.RowKit3
import Derived.Deep.LoopGhost
import Derived.Deep.QuietTactic
import Derived.BigQuiet
import Derived.WideLaws
import Derived.Deep.DeepCutAuto
import Derived.Deep.CutBlock
import Derived.Deep.RegionHeld3
import Derived.Laws.Rows
import Derived.Lib.AppendStr
import Derived.ArgAppend
import Derived.Laws.IdiomCopy
import Derived.OrdersHeld
import Derived.Laws.BitsLemmas
import Derived.RowKit
import Derived.Test.YtnoeehdccknhnaaWWords
import Derived.Test.YtnoeehdccknhnaaWLast
import Derived.Test.YtnoeehdccknhnaaSlim
import Derived.Test.YtnoeehdccknhnaaBv
import Derived.Test.YtnoeehdccknhnaaHp
import Derived.Test.YtnoeehdccknhnaaShelf
import Derived.Lib.Hide
import Derived.IntWalk
namespace Go.Proofs.Ytnoeehdccknhnaa.St
open Go Go.RowKit Go.Proofs.YtnoeehdccknhnaaW.PrintWords Go.Proofs.YtnoeehdccknhnaaW.PrintLast Go.Proofs.YtnoeehdccknhnaaW.PrintMore
open Go.Proofs.Ytnoeehdccknhnaa.Hp
attribute [local go_sem] max2_int min2_int max_two min_two max_three min_three max_four min_four
set_option linter.unusedVariables false
set_option linter.unusedSimpArgs false
/-- Has a text a 0? -/
def bad (s : ByteArray) : Bool := decide (0 ≤ Lib.indexByte s.data.toList (Int.toNat 0).toUInt8)
def badL (l : List ByteArray) : Bool := l.any bad
/-- The bytes of texts, with a 0 behind each. -/
def szOf : List ByteArray → Nat
  | [] => 0
  | s :: r => s.size + 1 + szOf r
def cntLL : List (List ByteArray) → Nat
  | [] => 0
  | l :: r => l.length + cntLL r
def szLL : List (List ByteArray) → Nat
  | [] => 0
  | l :: r => szOf l + szLL r
theorem szOf_snoc (l : List ByteArray) (s : ByteArray) : szOf (l ++ [s]) = szOf l + (s.size + 1) := by
  induction l with
  | nil => simp [szOf]
  | cons a r ih => simp only [List.cons_append, szOf, ih]; omega
theorem szOf_append (l r : List ByteArray) : szOf (l ++ r) = szOf l + szOf r := by
  induction l with
  | nil => simp [szOf]
  | cons a t ih => simp only [List.cons_append, szOf, ih]; omega
theorem cntLL_snoc (l : List (List ByteArray)) (s : List ByteArray) : cntLL (l ++ [s]) = cntLL l + s.length := by
  induction l with
  | nil => simp [cntLL]
  | cons a r ih => simp only [List.cons_append, cntLL, ih]; omega
theorem szLL_snoc (l : List (List ByteArray)) (s : List ByteArray) : szLL (l ++ [s]) = szLL l + szOf s := by
  induction l with
  | nil => simp [szLL]
  | cons a r ih => simp only [List.cons_append, szLL, ih]; omega
theorem take_snoc {α : Type} (z : α) (l : List α) (i : Nat) (h : i < l.length) : l.take (i + 1) = l.take i ++ [l.getD i z] := by
  rw [List.take_add_one, List.getElem?_eq_getElem h, List.getD_eq_getElem?_getD, List.getElem?_eq_getElem h]; rfl
/-- What start.check answers. -/
def chk (ll : List (List ByteArray)) : Int := if ll.any badL then 22 else if 256 < cntLL ll ∨ 32768 < szLL ll then 7 else 0
def rdL (xs : List (List ByteArray)) (i : Nat) : List ByteArray := xs.getD i []
def rdS (xs : List ByteArray) (i : Nat) : ByteArray := xs.getD i ByteArray.empty
theorem at_LL {w : World} {A : Option Addr} {n : Nat} {xs : List (List ByteArray)} (h : Kd.C (Kd.slice 9 Kd.string) w A n xs) (i : Nat) (h1 : i < n) : ∃ ad A0 c0, A = some ad ∧ w.cell? (ad.add i) = some (.slice A0 (rdL xs i).length c0) ∧ (rdL xs i).length ≤ c0 ∧ Kd.string.C w A0 (rdL xs i).length (rdL xs i) := by
  obtain ⟨ad, c, e, _, hK, hc0⟩ := Kd.C_get h ([] : List ByteArray) (i : Int) (by omega) (by omega)
  have hc : ∀ j u, c[j]? = some u → w.cell? (ad.add ((i : Int).toNat * 1 + j)) = some u := hc0
  obtain ⟨A0, c0, rfl, l0, g0⟩ := hK
  exact ⟨ad, A0, c0, e, by have hq := hc 0 _ rfl; rwa [Nat.mul_one, Nat.add_zero] at hq, l0, g0⟩
theorem at_S {w : World} {A : Option Addr} {n : Nat} {xs : List ByteArray} (h : Kd.string.C w A n xs) (i : Nat) (h1 : i < n) : ∃ ad, A = some ad ∧ w.cell? (ad.add i) = some (.string (rdS xs i)) := by
  obtain ⟨ad, e, hc⟩ := Kd.at_string h (i : Int) (by omega) (by omega)
  exact ⟨ad, e, hc⟩
theorem szOf_mem {l : List ByteArray} {i : Nat} (h : i < l.length) : (rdS l i).size < szOf l := by
  induction l generalizing i with
  | nil => simp at h
  | cons a r ih =>
    cases i with
    | zero => show a.size < a.size + 1 + szOf r; omega
    | succ i => have e := ih (i := i) (by simpa using h); show (rdS r i).size < a.size + 1 + szOf r; omega
theorem szLL_mem {l : List (List ByteArray)} {i : Nat} (h : i < l.length) : szOf (rdL l i) ≤ szLL l ∧ (rdL l i).length ≤ cntLL l := by
  induction l generalizing i with
  | nil => simp at h
  | cons a r ih =>
    cases i with
    | zero => show szOf a ≤ szOf a + szLL r ∧ a.length ≤ a.length + cntLL r; omega
    | succ i => have e := ih (i := i) (by simpa using h); show szOf (rdL r i) ≤ szOf a + szLL r ∧ (rdL r i).length ≤ a.length + cntLL r; omega
theorem any_take {α : Type} {p : α → Bool} {l : List α} (i : Nat) (h : l.any p = false) : (l.take i).any p = false := by
  rw [List.any_eq_false] at h ⊢
  exact fun x hx => h x (List.mem_of_mem_take hx)
theorem any_get {α : Type} {p : α → Bool} (z : α) {l : List α} (i : Nat) (hi : i < l.length) (h : p (l.getD i z) = true) : l.any p = true := by
  rw [List.any_eq_true]
  refine ⟨_, ?_, h⟩
  rw [List.getD_eq_getElem?_getD, List.getElem?_eq_getElem hi]
  exact List.getElem_mem hi
theorem cntLL_take (ll : List (List ByteArray)) : ∀ i, cntLL (ll.take i) ≤ cntLL ll := by
  induction ll with
  | nil => intro i; simp
  | cons a r ih => intro i; cases i with
    | zero => simp [cntLL]
    | succ i => simp only [List.take_succ_cons, cntLL]; have := ih i; omega
theorem min_step (S a b K : Nat) : min (S + (a + b)) K = min (min (S + a) K + b) K := by omega
theorem min_hi (T s : Nat) (h : (65536 : Int) < (T : Int) + (s : Int) + 1) : (65536 : Int) = ((min (T + (s + 1)) 65536 : Nat) : Int) := by
  rw [Nat.min_eq_right (by omega)]
  simp
theorem min_lo (T s : Nat) (h : ¬ (65536 : Int) < (T : Int) + (s : Int) + 1) : (T : Int) + (s : Int) + 1 = ((min (T + (s + 1)) 65536 : Nat) : Int) := by
  rw [Nat.min_eq_left (by omega)]
  omega
def AtOut (ll : List (List ByteArray)) (w : World) (c s i : Value) (kq : Nat) (wr : World) : Prop := ∃ k : Nat, i = .int .i64 k ∧ k ≤ ll.length ∧ ll.length - k ≤ kq ∧ c = .int .i64 (cntLL (ll.take k)) ∧ s = .int .i64 (min (szLL (ll.take k)) 65536 : Nat) ∧ (ll.take k).any badL = false ∧ wr = w
def AtIn (l : List ByteArray) (S : Nat) (w : World) (s i : Value) (kq : Nat) (wr : World) : Prop := ∃ k : Nat, i = .int .i64 k ∧ k ≤ l.length ∧ l.length - k ≤ kq ∧ s = .int .i64 (min (S + szOf (l.take k)) 65536 : Nat) ∧ badL (l.take k) = false ∧ wr = w
set_option maxHeartbeats 2000000 in
theorem check_any (A : Option Addr) (c : Nat) (ll : List (List ByteArray)) (w : World) (hC : Kd.C (Kd.slice 9 Kd.string) w A ll.length ll) (hc : ll.length ≤ c) (hl : ll.length ≤ 4) (hn : cntLL ll ≤ 2305843009213693952) (hsz : szLL ll ≤ 2305843009213693952) : Calls Try.prog 16 #[.slice A ll.length c] w fun e w' => e = .returned (.int .i64 (chk ll)) ∧ w' = w := by
  have HR := Lib.hid hC
  have HN := Lib.hid hn
  have HZ := Lib.hid hsz
  have hl' := hl
  clear hC hc hn hsz
  obtain ⟨n, hnn⟩ : ∃ n, ll.length = n := ⟨_, rfl⟩
  have HL := Lib.hid hnn
  rw [hnn] at hl hl' HR ⊢
  clear hnn
  go_enter Try.func16, Try.ntmps16
  go_wp2_with fail
  go_loopg [3, 4, 11] n (fun kq v3 v4 v11 wr => Hid (AtOut ll w v3 v4 v11 kq wr))
  case atStart => exact Lib.hid ⟨0, rfl, by omega, by rw [HL.out]; omega, by simp [cntLL], by simp [szLL], by simp, rfl⟩
  case round =>
    obtain ⟨k, rfl, hk1, hk2, rfl, rfl, hb, rfl⟩ := hrel.out
    have HB := Lib.hid hb
    have hct := cntLL_take ll k
    have hcn := HN.out
    rw [HL.out] at hk1 hk2
    clear hrel hb
    obtain ⟨cn, hcn1⟩ : ∃ cn, cntLL (ll.take k) = cn := ⟨_, rfl⟩
    obtain ⟨S, hS⟩ : ∃ S, szLL (ll.take k) = S := ⟨_, rfl⟩
    have HS := Lib.hid hS
    have HCN := Lib.hid hcn1
    rw [hcn1] at hct ⊢
    rw [hS]
    obtain ⟨T0, hT0⟩ : ∃ T0, min S 65536 = T0 := ⟨_, rfl⟩
    have HT0 := Lib.hid hT0
    rw [hT0]
    clear hcn1 hS hT0
    by_cases hk : k < n
    · have t1 : decide ((k : Int) < (n : Int)) = true := decide_eq_true (by omega)
      have t1' : decide (k < n) = true := decide_eq_true hk
      have i0 : (0 : Int) ≤ (k : Int) := by omega
      have i1 : (k : Int) < (n : Int) := by omega
      obtain ⟨ad, A0, c0, e, hx, hl0, hC0⟩ := at_LL HR.out k hk
      subst e
      have HC0 := Lib.hid hC0
      have hm := szLL_mem (l := ll) (i := k) (by rw [HL.out]; exact hk)
      have HM := Lib.hid hm
      obtain ⟨l, hl1⟩ : ∃ l, rdL ll k = l := ⟨_, rfl⟩
      have HLK := Lib.hid hl1
      rw [hl1] at hx hl0 HC0 HM hm
      obtain ⟨m, hm1⟩ : ∃ m, l.length = m := ⟨_, rfl⟩
      have HLM := Lib.hid hm1
      rw [hm1] at hx hl0 HC0 hm
      have hz2 := HZ.out
      have hsum : IntKind.i64.wrap ((cn : Int) + (m : Int)) = (cn : Int) + (m : Int) := IntWalk.i64_in _ (by omega)
      clear hC0 hl1 hm1 HM
      go_wp2_with fail
      go_loopg [4, 21] m (fun kq v4 v21 wr2 => Hid (AtIn l S wr v4 v21 kq wr2))
      case atStart => exact Lib.hid ⟨0, rfl, by omega, by rw [HLM.out]; omega, by rw [← HT0.out]; simp [szOf], by simp [badL], rfl⟩
      case round =>
        obtain ⟨i, rfl, hi1, hi2, rfl, hb2, rfl⟩ := hrel.out
        have HB2 := Lib.hid hb2
        rw [HLM.out] at hi1 hi2
        clear hrel hb2
        obtain ⟨T, hT⟩ : ∃ T, min (S + szOf (l.take i)) 65536 = T := ⟨_, rfl⟩
        have hT1 : T ≤ 65536 := by omega
        have HT := Lib.hid hT
        rw [hT]
        clear hT
        by_cases hi : i < m
        · have u1 : decide ((i : Int) < (m : Int)) = true := decide_eq_true (by omega)
          have u1' : decide (i < m) = true := decide_eq_true hi
          have j0 : (0 : Int) ≤ (i : Int) := by omega
          have j1 : (i : Int) < (m : Int) := by omega
          obtain ⟨ad2, e2, hx2⟩ := at_S HC0.out i hi
          subst e2
          have hsz2 := szOf_mem (l := l) (i := i) (by rw [HLM.out]; exact hi)
          obtain ⟨s, hs1⟩ : ∃ s, rdS l i = s := ⟨_, rfl⟩
          have HSI := Lib.hid hs1
          rw [hs1] at hx2 hsz2
          clear hs1
          have hw1 : IntKind.i64.wrap ((T : Int) + (s.size : Int)) = (T : Int) + (s.size : Int) := IntWalk.i64_in _ (by omega)
          have hw2 : IntKind.i64.wrap ((T : Int) + (s.size : Int) + 1) = (T : Int) + (s.size : Int) + 1 := IntWalk.i64_in _ (by omega)
          go_wp2_with fail
          refine (Try.strings_IndexByte s 0 _).mono ?_
          rintro e w' ⟨rfl, rfl⟩
          obtain ⟨b, hb⟩ : ∃ b, bad s = b := ⟨_, rfl⟩
          have hbb : decide (0 ≤ Lib.indexByte s.data.toList (Int.toNat 0).toUInt8) = b := hb
          have HBS := Lib.hid hb
          clear hb
          generalize Lib.indexByte s.data.toList (Int.toNat 0).toUInt8 = q at hbb ⊢
          have hlen2 : i < l.length := by rw [HLM.out]; exact hi
          have HLEN2 := Lib.hid hlen2
          clear hlen2
          cases b
          · have hnew : min (S + szOf (l.take (i + 1))) 65536 = min (T + (s.size + 1)) 65536 := by
              rw [take_snoc ByteArray.empty l i HLEN2.out, szOf_snoc, show l.getD i ByteArray.empty = s from HSI.out, min_step, HT.out]
            have HNEW := Lib.hid hnew
            have hb3 : badL (l.take (i + 1)) = false := by
              rw [take_snoc ByteArray.empty l i HLEN2.out, badL, List.any_append, show l.getD i ByteArray.empty = s from HSI.out]
              simp [show (l.take i).any bad = false from HB2.out, HBS.out]
            have HB3 := Lib.hid hb3
            clear hnew hb3
            by_cases hg : (65536 : Int) < (T : Int) + (s.size : Int) + 1
            · go_wp2_with fail
              go_roundg (m - (i + 1))
              case measure => omega
              case rel => exact Lib.hid ⟨i + 1, by go_num, by rw [HLM.out]; omega, by rw [HLM.out]; omega, by rw [HNEW.out, ← min_hi _ _ hg], HB3.out, rfl⟩
            · go_wp2_with fail
              go_roundg (m - (i + 1))
              case measure => omega
              case rel => exact Lib.hid ⟨i + 1, by go_num, by rw [HLM.out]; omega, by rw [HLM.out]; omega, by rw [HNEW.out, ← min_lo _ _ (by omega)], HB3.out, rfl⟩
          · have hbad : ll.any badL = true := any_get ([] : List ByteArray) k (by rw [HL.out]; exact hk) (by
              rw [show ll.getD k [] = l from HLK.out]
              exact any_get ByteArray.empty i HLEN2.out (by rw [show l.getD i ByteArray.empty = s from HSI.out]; exact HBS.out))
            have HBAD := Lib.hid hbad
            clear hbad
            go_wp2_with fail
            go_ret
            exact ⟨by rw [show chk ll = 22 from if_pos HBAD.out]; rfl, rfl⟩
        · obtain rfl : i = m := by omega
          have hlk : k < ll.length := by rw [HL.out]; exact hk
          have hcnt : cntLL (ll.take (k + 1)) = cn + i := by rw [take_snoc ([] : List ByteArray) ll k hlk, cntLL_snoc, HCN.out, show ll.getD k [] = l from HLK.out, HLM.out]
          have hsz3 : min (szLL (ll.take (k + 1))) 65536 = T := by
            have e1 := HT.out
            rw [List.take_of_length_le (by rw [HLM.out]; exact Nat.le_refl _)] at e1
            rw [take_snoc ([] : List ByteArray) ll k hlk, szLL_snoc, HS.out, show ll.getD k [] = l from HLK.out, e1]
          have hb4 : (ll.take (k + 1)).any badL = false := by
            have e1 := HB2.out
            rw [List.take_of_length_le (by rw [HLM.out]; exact Nat.le_refl _)] at e1
            rw [take_snoc ([] : List ByteArray) ll k hlk, List.any_append, show ll.getD k [] = l from HLK.out]
            simp [HB.out, e1]
          have HCNT := Lib.hid hcnt
          have HSZ3 := Lib.hid hsz3
          have HB4 := Lib.hid hb4
          clear hcnt hsz3 hb4 hlk
          go_wp2_with fail
          go_roundg (n - (k + 1))
          case measure => omega
          case rel => exact Lib.hid ⟨k + 1, by go_num, by rw [HL.out]; omega, by rw [HL.out]; omega, by rw [HCNT.out]; simp, by rw [HSZ3.out], HB4.out, rfl⟩
    · obtain rfl : k = n := by omega
      have e0 : ll.take k = ll := List.take_of_length_le (by rw [HL.out]; exact Nat.le_refl _)
      have e1 : cntLL ll = cn := by rw [← HCN.out, e0]
      have e2 : min (szLL ll) 65536 = T0 := by rw [← HT0.out, ← HS.out, e0]
      have e3 : ll.any badL = false := by rw [← e0]; exact HB.out
      have E1 := Lib.hid e1
      have E2 := Lib.hid e2
      have E3 := Lib.hid e3
      clear e0 e1 e2 e3
      by_cases g1 : 256 < cn
      · have d1 : decide ((256 : Int) < (cn : Int)) = true := decide_eq_true (by omega)
        have d1' : decide (256 < cn) = true := decide_eq_true g1
        go_wp2_with fail
        go_ret
        exact ⟨by rw [show chk ll = 7 from by rw [chk, E3.out, E1.out, if_neg (by decide), if_pos (.inl g1)]]; rfl, rfl⟩
      · have d1 : decide ((256 : Int) < (cn : Int)) = false := decide_eq_false (by omega)
        have d1' : decide (256 < cn) = false := decide_eq_false g1
        by_cases g2 : 32768 < T0
        · have d2 : decide ((32768 : Int) < (T0 : Int)) = true := decide_eq_true (by omega)
          have d2' : decide (32768 < T0) = true := decide_eq_true g2
          go_wp2_with fail
          go_ret
          exact ⟨by rw [show chk ll = 7 from by rw [chk, E3.out, E1.out, if_neg (by decide), if_pos (.inr (by have := E2.out; omega))]]; rfl, rfl⟩
        · have d2 : decide ((32768 : Int) < (T0 : Int)) = false := decide_eq_false (by omega)
          have d2' : decide (32768 < T0) = false := decide_eq_false g2
          go_wp2_with fail
          go_ret
          exact ⟨by rw [show chk ll = 0 from by rw [chk, E3.out, E1.out, if_neg (by decide), if_neg (by have := E2.out; omega)]]; rfl, rfl⟩
end Go.Proofs.Ytnoeehdccknhnaa.St
