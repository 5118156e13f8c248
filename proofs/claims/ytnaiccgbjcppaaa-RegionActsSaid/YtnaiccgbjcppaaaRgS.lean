/- Room: plain; the list's Room: walked. -/
import Derived.Test.YtnaiccgbjcppaaaRgR
namespace Go.Proofs.Ytnaiccgbjcppaaa.Rg
open Go Go.RowKit Go.Proofs.YtnaiccgbjcppaaaW.PrintWords Go.Proofs.YtnaiccgbjcppaaaW.PrintLast Go.Proofs.YtnaiccgbjcppaaaW.PrintMore
open Go.Proofs.Ytnaiccgbjcppaaa.Hp
theorem max2_m (k k' : IntKind) (x y : Int) : Builtin.max2 (.int k x) (.int k' y) = pure (.int k (max x y)) := by
  rw [max2_int]
  congr 2
  split <;> omega
theorem min2_m (k k' : IntKind) (x y : Int) : Builtin.min2 (.int k x) (.int k' y) = pure (.int k (min x y)) := by
  rw [min2_int]
  congr 2
  split <;> omega
attribute [local go_sem] max2_m min2_m max_two min_two max_three min_three max_four min_four
set_option linter.unusedVariables false
set_option linter.unusedSimpArgs false
/-- The greatest place for so much room, ahead of e, over the first k regions. -/
def roomF (l : List Rg) (sz : Int) : Nat → Int → Option Int
  | 0, e => if 4096 ≤ e ∧ sz ≤ e - 4096 then some (e - sz) else none
  | k + 1, e => if max 4096 (rgAt l k).e ≤ e ∧ sz ≤ e - max 4096 (rgAt l k).e then some (e - sz) else roomF l sz k (min e (rgAt l k).s)
def Fits (l : List Rg) (sz e a : Int) : Prop := 4096 ≤ a ∧ a + sz ≤ e ∧ ∀ y, a ≤ y → y < a + sz → lk l y = none
theorem lk_take (l : List Rg) (k : Nat) (hk : k < l.length) (y : Int) : lk (l.take (k + 1)) y = (lk (l.take k) y).or (if inR y (rgAt l k) then some (rgAt l k).p else none) := by
  rw [take_rg l k hk, lk_app, lk_cons, lk_nil]
theorem room_spec (l : List Rg) (hl : Okl l) (sz : Int) (hsz : 0 < sz) : ∀ k, k ≤ l.length → ∀ e, (∀ a, roomF l sz k e = some a → Fits (l.take k) sz e a ∧ ∀ b, Fits (l.take k) sz e b → b ≤ a) ∧ (roomF l sz k e = none → ∀ b, ¬ Fits (l.take k) sz e b) := by
  intro k
  induction k with
  | zero =>
    intro _ e
    unfold roomF
    by_cases h : 4096 ≤ e ∧ sz ≤ e - 4096
    · rw [if_pos h]
      refine ⟨fun a ha => ?_, fun h => by cases h⟩
      injection ha with ha
      subst ha
      exact ⟨⟨by omega, by omega, fun y _ _ => rfl⟩, fun b hb => by have := hb.2.1; omega⟩
    · rw [if_neg h]
      exact ⟨fun a ha => (by cases ha), fun _ b hb => h (by have := hb.1; have := hb.2.1; omega)⟩
  | succ k ih =>
    intro hk e
    have hr := hl.val _ (rgAt_mem l k (by omega))
    have hbelow : ∀ x ∈ l.take (k + 1), x.e ≤ (rgAt l k).e := fun x hx => by
      rw [take_rg l k (by omega)] at hx
      rcases List.mem_append.1 hx with hx | hx
      · have h1 := hl.srt
        rw [show l = l.take (k + 1) ++ l.drop (k + 1) from (List.take_append_drop _ _).symm] at h1
        have h2 := (List.pairwise_append.1 h1).1
        rw [take_rg l k (by omega)] at h2
        have h3 := (List.pairwise_append.1 h2).2.2 x hx (rgAt l k) (by simp)
        unfold gd at hr
        omega
      · obtain rfl := List.mem_singleton.1 hx
        exact Int.le_refl _
    unfold gd at hr
    unfold roomF
    by_cases h : max 4096 (rgAt l k).e ≤ e ∧ sz ≤ e - max 4096 (rgAt l k).e
    · rw [if_pos h]
      refine ⟨fun a ha => ?_, fun h => by cases h⟩
      injection ha with ha
      subst ha
      refine ⟨⟨by omega, by omega, fun y hy _ => lk_none _ _ fun x hx hin => ?_⟩, fun b hb => by have := hb.2.1; omega⟩
      have := hbelow x hx
      unfold inR at hin
      omega
    · rw [if_neg h]
      have hiff : ∀ b, Fits (l.take (k + 1)) sz e b ↔ Fits (l.take k) sz (min e (rgAt l k).s) b := fun b => by
        constructor
        · rintro ⟨h1, h2, h3⟩
          have h4 : b + sz ≤ (rgAt l k).s := by
            rcases Int.lt_or_le (rgAt l k).s (b + sz) with h5 | h5
            · exfalso
              rcases Int.lt_or_le b (rgAt l k).e with h6 | h6
              · have h7 := h3 (max b (rgAt l k).s) (by omega) (by omega)
                rw [lk_take l k (by omega), if_pos (by unfold inR; omega)] at h7
                cases hh : lk (l.take k) (max b (rgAt l k).s) <;> rw [hh] at h7 <;> simp at h7
              · omega
            · exact h5
          refine ⟨h1, by omega, fun y hy1 hy2 => ?_⟩
          have h7 := h3 y hy1 hy2
          rw [lk_take l k (by omega)] at h7
          cases hh : lk (l.take k) y with
          | none => rfl
          | some p => rw [hh] at h7; cases h7
        · rintro ⟨h1, h2, h3⟩
          refine ⟨h1, by omega, fun y hy1 hy2 => ?_⟩
          rw [lk_take l k (by omega), h3 y hy1 hy2, if_neg (by unfold inR; omega)]
          rfl
      obtain ⟨i1, i2⟩ := ih (by omega) (min e (rgAt l k).s)
      exact ⟨fun a ha => ⟨(hiff a).2 (i1 a ha).1, fun b hb => (i1 a ha).2 b ((hiff b).1 hb)⟩, fun hn b hb => i2 hn b ((hiff b).1 hb)⟩
theorem room_same {l m : List Rg} (hl : Okl l) (hm : Okl m) (h : ∀ y, lk l y = lk m y) (sz e : Int) (hsz : 0 < sz) : roomF l sz l.length e = roomF m sz m.length e := by
  obtain ⟨a1, a2⟩ := room_spec l hl sz hsz l.length (Nat.le_refl _) e
  obtain ⟨b1, b2⟩ := room_spec m hm sz hsz m.length (Nat.le_refl _) e
  rw [List.take_length] at a1 a2 b1 b2
  have hiff : ∀ b, Fits l sz e b ↔ Fits m sz e b := fun b => by
    unfold Fits
    constructor
    · rintro ⟨h1, h2, h3⟩
      exact ⟨h1, h2, fun y hy1 hy2 => (by rw [← h]; exact h3 y hy1 hy2)⟩
    · rintro ⟨h1, h2, h3⟩
      exact ⟨h1, h2, fun y hy1 hy2 => by rw [h]; exact h3 y hy1 hy2⟩
  cases hL : roomF l sz l.length e with
  | none =>
    cases hM : roomF m sz m.length e with
    | none => rfl
    | some b => exact absurd ((hiff b).2 (b1 b hM).1) (a2 hL b)
  | some a =>
    cases hM : roomF m sz m.length e with
    | none => exact absurd ((hiff a).1 (a1 a hL).1) (b2 hM a)
    | some b =>
      have h1 := (b1 b hM).2 a ((hiff a).1 (a1 a hL).1)
      have h2 := (a1 a hL).2 b ((hiff b).2 (b1 b hM).1)
      rw [show a = b from by omega]
theorem room_al (l : List Rg) (hl : Okl l) (sz : Int) (hsz : sz % 4096 = 0) : ∀ k, k ≤ l.length → ∀ e a, e % 4096 = 0 → roomF l sz k e = some a → a % 4096 = 0 := by
  intro k
  induction k with
  | zero =>
    intro _ e a he h
    unfold roomF at h
    split at h
    · injection h with h
      omega
    · cases h
  | succ k ih =>
    intro hk e a he h
    unfold roomF at h
    have hr := hl.val _ (rgAt_mem l k (by omega))
    unfold gd at hr
    split at h
    · injection h with h
      omega
    · refine ih (by omega) _ a ?_ h
      rcases Int.le_total e (rgAt l k).s with h1 | h1
      · rw [Int.min_eq_left h1]; exact he
      · rw [Int.min_eq_right h1]; omega
def roomT (l : List Rg) (size below : Int) : Option Int := if 274877906944 < size then none else roomF l (max ((size + 4095) / 4096) 1 * 4096) l.length (min below 274877906944 / 4096 * 4096)
def AtRo (l : List Rg) (sz e0 : Int) (w : World) (n : Nat) (v8 v9 : Value) (kq : Nat) (wr : World) : Prop := ∃ z e : Int, v9 = .int .i64 z ∧ v8 = .int .u64 e ∧ 0 ≤ e ∧ e ≤ 274877906944 ∧ ((z = -1 ∧ roomF l sz n e0 = none) ∨ ∃ k : Nat, z = k ∧ k ≤ n ∧ k < kq ∧ roomF l sz n e0 = roomF l sz k e) ∧ Fr (fun _ => False) w wr
set_option maxHeartbeats 4000000 in
set_option maxRecDepth 100000 in
theorem room_any (B g : Nat) (l : List Rg) (size below : Int) (hs : 0 ≤ size ∧ size < 18446744073709551616) (hb : 0 ≤ below ∧ below < 18446744073709551616) (w : World) (h : Lst w B g l) (hl : Okl l) (hn : l.length ≤ 5000) : Calls Try.prog 11 #[.pointer (some ⟨g, 0, none⟩), .int .u64 size, .int .u64 below] w fun x w' => x = .returned (.tuple #[.int .u64 ((roomT l size below).getD 0), .bool (roomT l size below).isSome]) ∧ Fr (fun _ => False) w w' := by
  have HL := Lib.hid h
  have HOK := Lib.hid hl
  have HN := Lib.hid hn
  clear h hl hn
  by_cases hbig : 274877906944 < size
  · have u1 : decide ((274877906944 : Int) < size) = true := decide_eq_true hbig
    have HE := Lib.hid (show roomT l size below = none from if_pos hbig)
    clear hbig
    go_enter Try.func11, Try.ntmps11
    go_wp2_with fail
    go_ret2
    rw [HE.out]
    exact ⟨rfl, Fr.refl _ _⟩
  · have u1 : decide ((274877906944 : Int) < size) = false := decide_eq_false hbig
    obtain ⟨sz, hsz⟩ : ∃ sz, max ((size + 4095) / 4096) 1 * 4096 = sz := ⟨_, rfl⟩
    obtain ⟨e0, he0⟩ : ∃ e0, min below 274877906944 / 4096 * 4096 = e0 := ⟨_, rfl⟩
    have HE := Lib.hid (show roomT l size below = roomF l sz l.length e0 from by unfold roomT; rw [if_neg hbig, hsz, he0])
    have t1 : (size + 4096 - 1).tdiv 4096 = (size + 4095) / 4096 := by rw [Int.tdiv_eq_ediv_of_nonneg (by omega)]; congr 1; omega
    have t2 : (min below 274877906944).tdiv 4096 = min below 274877906944 / 4096 := Int.tdiv_eq_ediv_of_nonneg (by omega)
    have w1 : IntKind.u64.wrap (size + 4096) = size + 4096 := IntWalk.u64_in _ (by omega)
    have w2 : IntKind.u64.wrap (size + 4096 - 1) = size + 4096 - 1 := IntWalk.u64_in _ (by omega)
    have w3 : IntKind.u64.wrap sz = sz := IntWalk.u64_in _ (by omega)
    have w4 : IntKind.u64.wrap e0 = e0 := IntWalk.u64_in _ (by omega)
    have hsz1 : 4096 ≤ sz := by omega
    have hsz2 : sz ≤ 274877906944 := by omega
    have he1 : 0 ≤ e0 := by omega
    have he2 : e0 ≤ 274877906944 := by omega
    obtain ⟨v0, hb0, hr0⟩ := HL.out.row
    obtain ⟨A, c, rfl, _, hA⟩ := hr0.form
    have HA := Lib.hid hA
    have k0 := hb0.cell 0
    simp at k0
    obtain ⟨n, hnn⟩ : ∃ n, l.length = n := ⟨_, rfl⟩
    have HNN := Lib.hid hnn
    have hn5 : n ≤ 5000 := by rw [← hnn]; exact HN.out
    rw [hnn] at HA k0
    have HE2 := Lib.hid (show roomT l size below = roomF l sz n e0 from by rw [HE.out, hnn])
    clear hb0 hr0 hA hnn
    go_enter Try.func11, Try.ntmps11
    go_wp2_with fail
    go_loopg [8, 9] (n + 1) (fun kq v8 v9 wr => Hid (AtRo l sz e0 w n v8 v9 kq wr))
    case atStart => exact Lib.hid ⟨n, e0, rfl, rfl, he1, he2, .inr ⟨n, rfl, Nat.le_refl _, by omega, rfl⟩, Fr.refl _ _⟩
    case round =>
      obtain ⟨z, e, rfl, rfl, h0, h1, hz, hf⟩ := hrel.out
      have HF := Lib.hid hf
      have HSZ := Lib.hid (And.intro hsz he0)
      clear hrel hf k0 t1 t2 w1 w2 hsz he0 he1 he2 w4
      rcases hz with ⟨rfl, hz⟩ | ⟨k, rfl, hkn, hkq, hz⟩
      · have HZ := Lib.hid hz
        clear hz
        go_wp2_with fail
        go_ret2
        rw [HE2.out, HZ.out]
        exact ⟨rfl, HF.out⟩
      · have HZ := Lib.hid hz
        clear hz
        have c0 : decide ((0 : Int) ≤ (k : Int)) = true := decide_eq_true (by omega)
        cases k with
        | zero =>
          by_cases hfit : 4096 ≤ e ∧ sz ≤ e - 4096
          · have HR := Lib.hid (show roomF l sz n e0 = some (e - sz) from by rw [HZ.out]; exact if_pos hfit)
            have d1 : decide ((4096 : Int) ≤ e) = true := decide_eq_true hfit.1
            have d2 : decide (sz ≤ e - 4096) = true := decide_eq_true hfit.2
            have w5 : IntKind.u64.wrap (e - 4096) = e - 4096 := IntWalk.u64_in _ (by omega)
            have w6 : IntKind.u64.wrap (e - sz) = e - sz := IntWalk.u64_in _ (by omega)
            go_wp2_with fail
            go_ret2
            rw [HE2.out, HR.out]
            exact ⟨rfl, HF.out⟩
          · have HR := Lib.hid (show roomF l sz n e0 = none from by rw [HZ.out]; exact if_neg hfit)
            by_cases d : 4096 ≤ e
            · have d1 : decide ((4096 : Int) ≤ e) = true := decide_eq_true d
              have d2 : decide (sz ≤ e - 4096) = false := decide_eq_false (fun h => hfit ⟨d, h⟩)
              have w5 : IntKind.u64.wrap (e - 4096) = e - 4096 := IntWalk.u64_in _ (by omega)
              clear hfit
              go_wp2_with fail
              go_roundg 0
              case measure => omega
              case rel => exact Lib.hid ⟨-1, e, rfl, rfl, h0, h1, .inl ⟨rfl, HR.out⟩, HF.out⟩
            · have d1 : decide ((4096 : Int) ≤ e) = false := decide_eq_false d
              clear hfit
              go_wp2_with fail
              go_roundg 0
              case measure => omega
              case rel => exact Lib.hid ⟨-1, e, rfl, rfl, h0, h1, .inl ⟨rfl, HR.out⟩, HF.out⟩
        | succ k =>
          obtain ⟨kk, hkk⟩ : ∃ kk, k + 1 = kk := ⟨_, rfl⟩
          have HKL := Lib.hid (show k < l.length from by rw [HNN.out]; omega)
          have HZR := Lib.hid (show roomF l sz n e0 = if max 4096 (rgAt l k).e ≤ e ∧ sz ≤ e - max 4096 (rgAt l k).e then some (e - sz) else roomF l sz k (min e (rgAt l k).s) from HZ.out)
          have hgd := HOK.out.val _ (rgAt_mem l k HKL.out)
          unfold gd at hgd
          rw [hkk] at hkn hkq ⊢
          rw [hkk] at c0
          have kw : IntKind.i64.wrap ((kk : Int) - 1) = (k : Int) := by rw [show (kk : Int) - 1 = (k : Int) from by omega]; exact IntWalk.i64_in _ (by omega)
          have kw2 : (kk : Int) - 1 = (k : Int) := by omega
          have c1 : decide ((0 : Int) < (kk : Int)) = true := decide_eq_true (by omega)
          have c1' : decide (0 < kk) = true := decide_eq_true (by omega)
          have i0 : (0 : Int) ≤ (k : Int) := by omega
          have i1 : (k : Int) < (n : Int) := by omega
          obtain ⟨g0, rfl⟩ := HA.out (by omega)
          obtain ⟨vq, hbq, hrq⟩ := (HL.out.fr HF.out).row
          obtain ⟨A2, c2, rfl, _, hA2⟩ := hrq.form
          obtain ⟨g2, rfl⟩ := hA2 (by have := HKL.out; omega)
          have q0 := hbq.cell 0
          simp at q0
          rw [HNN.out] at q0 hrq
          obtain ⟨y0, y1, y2⟩ := hrq.at_ k HKL.out
          obtain ⟨r, hr⟩ : ∃ r, rgAt l k = r := ⟨_, rfl⟩
          rw [hr] at y0 y1 y2 HZR hgd
          obtain ⟨s, q, p⟩ := r
          obtain ⟨g1, g2', g3, _, _⟩ := hgd
          simp only at g1 g2' g3 HZR
          obtain ⟨low, hlow⟩ : ∃ low, max 4096 q = low := ⟨_, rfl⟩
          obtain ⟨e2, he2⟩ : ∃ e2, min e s = e2 := ⟨_, rfl⟩
          have hlo : 4096 ≤ low := by omega
          have he20 : 0 ≤ e2 := by omega
          have he21 : e2 ≤ 274877906944 := by omega
          rw [hlow, he2] at HZR
          have HKK := Lib.hid hkk
          clear hbq hrq hA2 hr g1 g2' g3 hkk
          by_cases hfit : low ≤ e ∧ sz ≤ e - low
          · have HR := Lib.hid (show roomF l sz n e0 = some (e - sz) from by rw [HZR.out]; exact if_pos hfit)
            have d1 : decide (low ≤ e) = true := decide_eq_true hfit.1
            have d2 : decide (sz ≤ e - low) = true := decide_eq_true hfit.2
            have w5 : IntKind.u64.wrap (e - low) = e - low := IntWalk.u64_in _ (by omega)
            have w6 : IntKind.u64.wrap (e - sz) = e - sz := IntWalk.u64_in _ (by omega)
            go_wp2_with fail
            go_ret2
            rw [HE2.out, HR.out]
            exact ⟨rfl, HF.out⟩
          · have HR := Lib.hid (show roomF l sz n e0 = roomF l sz k e2 from by rw [HZR.out]; exact if_neg hfit)
            by_cases d : low ≤ e
            · have d1 : decide (low ≤ e) = true := decide_eq_true d
              have d2 : decide (sz ≤ e - low) = false := decide_eq_false (fun h => hfit ⟨d, h⟩)
              have w5 : IntKind.u64.wrap (e - low) = e - low := IntWalk.u64_in _ (by omega)
              clear hfit
              go_wp2_with fail
              go_roundg kk
              case measure => omega
              case rel => exact Lib.hid ⟨k, e2, rfl, rfl, he20, he21, .inr ⟨k, rfl, by omega, by have := HKK.out; omega, HR.out⟩, HF.out⟩
            · have d1 : decide (low ≤ e) = false := decide_eq_false d
              clear hfit
              go_wp2_with fail
              go_roundg kk
              case measure => omega
              case rel => exact Lib.hid ⟨k, e2, rfl, rfl, he20, he21, .inr ⟨k, rfl, by omega, by have := HKK.out; omega, HR.out⟩, HF.out⟩
end Go.Proofs.Ytnaiccgbjcppaaa.Rg
