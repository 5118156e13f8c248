/- The contracts of package marsh's get, GetTime, GetMicro and of the document's Read, walked. -/
import Derived.Test.YtbblamabipabeaaByGet
import Derived.Test.YtbblamabipabeaaByRGet
import Derived.Deep.QuietTactic
import Derived.BigQuiet
namespace Go.Proofs.Ytbblamabipabeaa.Mar
open Go Go.RowKit Go.Proofs.YtbblamabipabeaaW.PrintWords Go.Proofs.YtbblamabipabeaaW.PrintLast Go.Proofs.YtbblamabipabeaaW.PrintMore
open Go.Proofs.Ytbblamabipabeaa.By Go.Proofs.Ytbblamabipabeaa.Bv
attribute [local go_sem] max2_int min2_int max_two min_two max_three min_three max_four min_four
set_option linter.unusedVariables false
set_option linter.unusedSimpArgs false
/-- Seconds and parts of them that sixteen bytes hold; all: the parts in a second, c: the nanoseconds in a part. -/
def tmS (l : List Int) : Int := le (l.take 8)
def tmN (l : List Int) : Int := le ((l.drop 8).take 8)
def tmOk (l : List Int) (all : Int) : Bool := decide ((l.length : Int) = 16) && !decide (1073741824 < tmS l) && !decide (all ≤ tmN l)
def tmV (l : List Int) (all c : Int) : Int := if tmOk l all then tmS l * 1000000000 + tmN l * c else 0
theorem cut_8 (A : Option Addr) (c : Nat) (xs : List Int) (hj : xs.length = 16) (hc : xs.length ≤ c) :
    ∃ A' c', (∀ W : World, (Instr.slice 23 (.slice A 16 c) (some (.int .i64 8)) none none).run Try.prog W = .ok (.slice A' 8 c') W) ∧
      (∀ w : World, Kd.C (Kd.int .u8) w A xs.length xs → Kd.C (Kd.int .u8) w A' 8 (xs.drop 8)) ∧ 8 ≤ c' := by
  obtain ⟨i0, hi, _, hsz, _⟩ := info_parts info5
  obtain ⟨A', h1, h2, h3⟩ := print_drop_of (P := Try.prog) (Value.int .u8) 0 23 5 .i64 Try.underlying23 hi hsz A c xs 8 (by omega) (by omega) hc
  have hd : (xs.drop (8 : Int).toNat).length = 8 := by rw [List.length_drop, hj]; rfl
  rw [hd] at h1 h2 h3
  rw [hj] at h1
  exact ⟨A', _, h1, fun w h => Kd.C_of_reads (h1 := fun _ => rfl) (h2 w (Kd.reads_of_C h)), h3⟩
theorem drop_bytes {l : List Int} (h : By.bytes l) (k : Nat) : By.bytes (l.drop k) := fun x hx => h x (List.mem_of_mem_drop hx)
theorem get_tm (A : Option Addr) (c : Nat) (l : List Int) (w : World) (hr : Kd.C (Kd.int .u8) w A l.length l) (hc : l.length ≤ c) (hb : By.bytes l) (hl : l.length = 16) :
    ∀ m : Nat, Calls Try.prog 30 #[.slice A 16 c, .int .i64 8] (w.drewN m) fun e w' => e = .returned (.int .u64 (tmS l)) ∧ ∃ m', w' = (w.drewN m).drewN m' := by
  intro m
  have h := get_in A c l 8 (w.drewN m) (Kd.C_drewN hr m) hc hb (by decide) (by decide)
  rw [hl] at h
  exact h.mono fun e w' hh => ⟨hh.1, hh.2.out⟩
theorem get_tn (A : Option Addr) (c : Nat) (l : List Int) (w : World) (hr : Kd.C (Kd.int .u8) w A 8 (l.drop 8)) (hc : 8 ≤ c) (hb : By.bytes l) (hl : l.length = 16) :
    ∀ m : Nat, Calls Try.prog 30 #[.slice A 8 c, .int .i64 8] (w.drewN m) fun e w' => e = .returned (.int .u64 (tmN l)) ∧ ∃ m', w' = (w.drewN m).drewN m' := by
  intro m
  have hd : (l.drop 8).length = 8 := by rw [List.length_drop, hl]
  have h := get_in A c (l.drop 8) 8 (w.drewN m) (by rw [hd]; exact Kd.C_drewN hr m) (by rw [hd]; exact hc) (drop_bytes hb 8) (by decide) (by decide)
  rw [hd] at h
  exact h.mono fun e w' hh => ⟨hh.1, hh.2.out⟩
theorem ret2 {a b : Int} {p q : Bool} (h : a = b) (hp : p = q) : Ending.returned (.tuple #[.int .i64 a, .bool p]) = .returned (.tuple #[.int .i64 b, .bool q]) := by rw [h, hp]
set_option maxHeartbeats 1000000 in
theorem getv_any (all cc : Int) (hall : (all = 1000000000 ∧ cc = 1) ∨ (all = 1000000 ∧ cc = 1000)) (A : Option Addr) (c : Nat) (l : List Int) (w : World) (hr : Kd.C (Kd.int .u8) w A l.length l) (hc : l.length ≤ c) (hb : By.bytes l) (hm : l.length ≤ 9223372036854775807) :
    Calls Try.prog 24 #[.slice A l.length c, .int .i64 all] w fun e w' => e = .returned (.tuple #[.int .i64 (tmV l all cc), .bool (tmOk l all)]) ∧ Drawn0 w w' := by
  by_cases hl : l.length = 16
  · have hs0 : 0 ≤ tmS l := (le_bd _ (fun x hx => hb x (List.mem_of_mem_take hx))).1
    have hn0 : 0 ≤ tmN l := (le_bd _ (fun x hx => drop_bytes hb 8 x (List.mem_of_mem_take hx))).1
    obtain ⟨A', c', hcut, hrd, hcd⟩ := cut_8 A c l hl hc
    have h1 := Lib.hid (get_tm A c l w hr hc hb hl)
    have h2 := Lib.hid (get_tn A' c' l w (hrd w hr) hcd hb hl)
    have hokv : tmOk l all = (!decide (1073741824 < tmS l) && !decide (all ≤ tmN l)) := by
      unfold tmOk; rw [decide_eq_true (show (l.length : Int) = 16 by omega), Bool.true_and]
    unfold tmV
    rw [hokv, hl]
    clear hrd hr hokv
    generalize tmS l = s at *
    generalize tmN l = n at *
    clear hb hc hl hm
    by_cases c1 : 1073741824 < s
    · have t1 : decide (1073741824 < s) = true := decide_eq_true c1
      rw [t1]
      rcases hall with ⟨rfl, rfl⟩ | ⟨rfl, rfl⟩
      · clear c1
        go_enter Try.func24, Try.ntmps24
        go_wp2_with fail
        go_quiet (first | (go_at_call 30; with_reducible refine Calls.quiet_of (h1.out _)) | (go_at_call 30; with_reducible refine Calls.quiet_of (h2.out _)))
        go_wp2_with fail
        go_ret2
        exact ⟨rfl, ⟨_, rfl⟩⟩
      · clear c1
        go_enter Try.func24, Try.ntmps24
        go_wp2_with fail
        go_quiet (first | (go_at_call 30; with_reducible refine Calls.quiet_of (h1.out _)) | (go_at_call 30; with_reducible refine Calls.quiet_of (h2.out _)))
        go_wp2_with fail
        go_ret2
        exact ⟨rfl, ⟨_, rfl⟩⟩
    · have t1 : decide (1073741824 < s) = false := decide_eq_false c1
      rw [t1]
      by_cases c2 : all ≤ n
      · have t2 : decide (all ≤ n) = true := decide_eq_true c2
        rw [t2]
        rcases hall with ⟨rfl, rfl⟩ | ⟨rfl, rfl⟩
        · clear c1 c2
          go_enter Try.func24, Try.ntmps24
          go_wp2_with fail
          go_quiet (first | (go_at_call 30; with_reducible refine Calls.quiet_of (h1.out _)) | (go_at_call 30; with_reducible refine Calls.quiet_of (h2.out _)))
          go_wp2_with fail
          go_ret2
          exact ⟨rfl, ⟨_, rfl⟩⟩
        · clear c1 c2
          go_enter Try.func24, Try.ntmps24
          go_wp2_with fail
          go_quiet (first | (go_at_call 30; with_reducible refine Calls.quiet_of (h1.out _)) | (go_at_call 30; with_reducible refine Calls.quiet_of (h2.out _)))
          go_wp2_with fail
          go_ret2
          exact ⟨rfl, ⟨_, rfl⟩⟩
      · have t2 : decide (all ≤ n) = false := decide_eq_false c2
        rw [t2]
        have e1 : wrap64 s = s := wrap64_in (by omega) (by omega)
        have e2 : wrap64 (s * 1000000000) = s * 1000000000 := wrap64_in (by omega) (by omega)
        rcases hall with ⟨rfl, rfl⟩ | ⟨rfl, rfl⟩
        · have e3 : wrap64 n = n := wrap64_in (by omega) (by omega)
          have e4 : wrap64 (s * 1000000000 + n) = s * 1000000000 + n := wrap64_in (by omega) (by omega)
          clear c1 c2
          go_enter Try.func24, Try.ntmps24
          go_wp2_with fail
          go_quiet (first | (go_at_call 30; with_reducible refine Calls.quiet_of (h1.out _)) | (go_at_call 30; with_reducible refine Calls.quiet_of (h2.out _)))
          go_wp2_with fail
          go_ret2
          exact ⟨rfl, ⟨_, rfl⟩⟩
        · have e3 : wrap64 n = n := wrap64_in (by omega) (by omega)
          have e5 : wrap64 (n * 1000) = n * 1000 := wrap64_in (by omega) (by omega)
          have e4 : wrap64 (s * 1000000000 + n * 1000) = s * 1000000000 + n * 1000 := wrap64_in (by omega) (by omega)
          clear c1 c2
          go_enter Try.func24, Try.ntmps24
          go_wp2_with fail
          go_quiet (first | (go_at_call 30; with_reducible refine Calls.quiet_of (h1.out _)) | (go_at_call 30; with_reducible refine Calls.quiet_of (h2.out _)))
          go_wp2_with fail
          go_ret2
          exact ⟨rfl, ⟨_, rfl⟩⟩
  · have t : ((l.length : Int) == 16) = false := beq_eq_false_iff_ne.2 (by omega)
    have t2 : ((l.length : Int) != 16) = true := by rw [bne, t]; rfl
    have hokv : tmOk l all = false := by
      unfold tmOk; rw [decide_eq_false (show ¬ (l.length : Int) = 16 by omega), Bool.false_and, Bool.false_and]
    unfold tmV
    rw [hokv]
    clear hokv hl hb hr
    go_enter Try.func24, Try.ntmps24
    go_wp2_with fail
    go_ret2
    exact ⟨rfl, Drawn0.refl _⟩
theorem gettime_any (A : Option Addr) (c : Nat) (l : List Int) (w : World) (hr : Kd.C (Kd.int .u8) w A l.length l) (hc : l.length ≤ c) (hb : By.bytes l) (hm : l.length ≤ 9223372036854775807) :
    Calls Try.prog 5 #[.slice A l.length c] w fun e w' => e = .returned (.tuple #[.int .i64 (tmV l 1000000000 1), .bool (tmOk l 1000000000)]) ∧ Drawn0 w w' := by
  have h := Lib.hid (getv_any 1000000000 1 (.inl ⟨rfl, rfl⟩) A c l w hr hc hb hm)
  go_enter Try.func5, Try.ntmps5
  go_wp2_with fail
  refine h.out.mono ?_; rintro e w' ⟨rfl, ⟨m1, rfl⟩⟩
  go_wp2_with fail
  go_ret2
  exact ⟨rfl, ⟨m1, rfl⟩⟩
theorem getmicro_any (A : Option Addr) (c : Nat) (l : List Int) (w : World) (hr : Kd.C (Kd.int .u8) w A l.length l) (hc : l.length ≤ c) (hb : By.bytes l) (hm : l.length ≤ 9223372036854775807) :
    Calls Try.prog 7 #[.slice A l.length c] w fun e w' => e = .returned (.tuple #[.int .i64 (tmV l 1000000 1000), .bool (tmOk l 1000000)]) ∧ Drawn0 w w' := by
  have h := Lib.hid (getv_any 1000000 1000 (.inr ⟨rfl, rfl⟩) A c l w hr hc hb hm)
  go_enter Try.func7, Try.ntmps7
  go_wp2_with fail
  refine h.out.mono ?_; rintro e w' ⟨rfl, ⟨m1, rfl⟩⟩
  go_wp2_with fail
  go_ret2
  exact ⟨rfl, ⟨m1, rfl⟩⟩
theorem rget_tm (A : Option Addr) (c : Nat) (l : List Int) (w : World) (hr : Kd.C (Kd.int .u8) w A l.length l) (hb : By.bytes l) (hl : l.length = 16) :
    Calls Try.prog 23 #[.slice A 16 c, .int .i64 8] w fun e w' => e = .returned (.int .u64 (tmS l)) ∧ Drawn0 w w' := by
  have h := rget_any A c l 8 w hr hb
  rw [hl] at h
  exact h
theorem rget_tn (A : Option Addr) (c : Nat) (l : List Int) (w : World) (hr : Kd.C (Kd.int .u8) w A 8 (l.drop 8)) (hb : By.bytes l) (hl : l.length = 16) :
    ∀ m : Nat, Calls Try.prog 23 #[.slice A 8 c, .int .i64 8] (w.drewN m) fun e w' => e = .returned (.int .u64 (tmN l)) ∧ Drawn0 (w.drewN m) w' := by
  intro m
  have hd : (l.drop 8).length = 8 := by rw [List.length_drop, hl]
  have h := rget_any A c (l.drop 8) 8 (w.drewN m) (by rw [hd]; exact Kd.C_drewN hr m) (drop_bytes hb 8)
  rw [hd] at h
  exact h
set_option maxHeartbeats 1000000 in
theorem read_any (all cc : Int) (hall : (all = 1000000000 ∧ cc = 1) ∨ (all = 1000000 ∧ cc = 1000)) (A : Option Addr) (c : Nat) (l : List Int) (w : World) (hr : Kd.C (Kd.int .u8) w A l.length l) (hc : l.length ≤ c) (hb : By.bytes l) (hm : l.length ≤ 9223372036854775807) :
    Calls Try.prog 13 #[.slice A l.length c, .int .i64 all] w fun e w' => e = .returned (.tuple #[.int .i64 (tmV l all cc), .bool (tmOk l all)]) ∧ Drawn0 w w' := by
  by_cases hl : l.length = 16
  · have hs0 : 0 ≤ tmS l := (le_bd _ (fun x hx => hb x (List.mem_of_mem_take hx))).1
    have hn0 : 0 ≤ tmN l := (le_bd _ (fun x hx => drop_bytes hb 8 x (List.mem_of_mem_take hx))).1
    obtain ⟨A', c', hcut, hrd, hcd⟩ := cut_8 A c l hl hc
    have h1 := Lib.hid (rget_tm A c l w hr hb hl)
    have h2 := Lib.hid (rget_tn A' c' l w (hrd w hr) hb hl)
    have hokv : tmOk l all = (!decide (1073741824 < tmS l) && !decide (all ≤ tmN l)) := by
      unfold tmOk; rw [decide_eq_true (show (l.length : Int) = 16 by omega), Bool.true_and]
    unfold tmV
    rw [hokv, hl]
    clear hrd hr hokv
    generalize tmS l = s at *
    generalize tmN l = n at *
    clear hb hc hl hm
    by_cases c1 : 1073741824 < s
    · have t1 : decide (1073741824 < s) = true := decide_eq_true c1
      rw [t1]
      rcases hall with ⟨rfl, rfl⟩ | ⟨rfl, rfl⟩
      · clear c1
        go_enter Try.func13, Try.ntmps13
        go_wp2_with fail
        refine h1.out.mono ?_; rintro e w' ⟨rfl, ⟨m1, rfl⟩⟩
        go_wp2_with fail
        refine (h2.out _).mono ?_; rintro e w' ⟨rfl, ⟨m2, rfl⟩⟩
        go_wp2_with fail
        go_ret2
        exact ⟨rfl, by repeat (first | exact Drawn0.refl _ | apply Drawn0.step)⟩
      · clear c1
        go_enter Try.func13, Try.ntmps13
        go_wp2_with fail
        refine h1.out.mono ?_; rintro e w' ⟨rfl, ⟨m1, rfl⟩⟩
        go_wp2_with fail
        refine (h2.out _).mono ?_; rintro e w' ⟨rfl, ⟨m2, rfl⟩⟩
        go_wp2_with fail
        go_ret2
        exact ⟨rfl, by repeat (first | exact Drawn0.refl _ | apply Drawn0.step)⟩
    · have t1 : decide (1073741824 < s) = false := decide_eq_false c1
      rw [t1]
      by_cases c2 : all ≤ n
      · have t2 : decide (all ≤ n) = true := decide_eq_true c2
        rw [t2]
        rcases hall with ⟨rfl, rfl⟩ | ⟨rfl, rfl⟩
        · clear c1 c2
          go_enter Try.func13, Try.ntmps13
          go_wp2_with fail
          refine h1.out.mono ?_; rintro e w' ⟨rfl, ⟨m1, rfl⟩⟩
          go_wp2_with fail
          refine (h2.out _).mono ?_; rintro e w' ⟨rfl, ⟨m2, rfl⟩⟩
          go_wp2_with fail
          go_ret2
          exact ⟨rfl, by repeat (first | exact Drawn0.refl _ | apply Drawn0.step)⟩
        · clear c1 c2
          go_enter Try.func13, Try.ntmps13
          go_wp2_with fail
          refine h1.out.mono ?_; rintro e w' ⟨rfl, ⟨m1, rfl⟩⟩
          go_wp2_with fail
          refine (h2.out _).mono ?_; rintro e w' ⟨rfl, ⟨m2, rfl⟩⟩
          go_wp2_with fail
          go_ret2
          exact ⟨rfl, by repeat (first | exact Drawn0.refl _ | apply Drawn0.step)⟩
      · have t2 : decide (all ≤ n) = false := decide_eq_false c2
        rw [t2]
        have e1 : wrap64 s = s := wrap64_in (by omega) (by omega)
        have e2 : wrap64 (s * 1000000000) = s * 1000000000 := wrap64_in (by omega) (by omega)
        rcases hall with ⟨rfl, rfl⟩ | ⟨rfl, rfl⟩
        · have e3 : wrap64 n = n := wrap64_in (by omega) (by omega)
          have e4 : wrap64 (s * 1000000000 + n) = s * 1000000000 + n := wrap64_in (by omega) (by omega)
          clear c1 c2
          go_enter Try.func13, Try.ntmps13
          go_wp2_with fail
          refine h1.out.mono ?_; rintro e w' ⟨rfl, ⟨m1, rfl⟩⟩
          go_wp2_with fail
          refine (h2.out _).mono ?_; rintro e w' ⟨rfl, ⟨m2, rfl⟩⟩
          go_wp2_with fail
          go_ret2
          exact ⟨rfl, by repeat (first | exact Drawn0.refl _ | apply Drawn0.step)⟩
        · have e3 : wrap64 n = n := wrap64_in (by omega) (by omega)
          have e5 : wrap64 (n * 1000) = n * 1000 := wrap64_in (by omega) (by omega)
          have e4 : wrap64 (s * 1000000000 + n * 1000) = s * 1000000000 + n * 1000 := wrap64_in (by omega) (by omega)
          clear c1 c2
          go_enter Try.func13, Try.ntmps13
          go_wp2_with fail
          refine h1.out.mono ?_; rintro e w' ⟨rfl, ⟨m1, rfl⟩⟩
          go_wp2_with fail
          refine (h2.out _).mono ?_; rintro e w' ⟨rfl, ⟨m2, rfl⟩⟩
          go_wp2_with fail
          go_ret2
          exact ⟨rfl, by repeat (first | exact Drawn0.refl _ | apply Drawn0.step)⟩
  · have t : ((l.length : Int) == 16) = false := beq_eq_false_iff_ne.2 (by omega)
    have t2 : ((l.length : Int) != 16) = true := by rw [bne, t]; rfl
    have hokv : tmOk l all = false := by
      unfold tmOk; rw [decide_eq_false (show ¬ (l.length : Int) = 16 by omega), Bool.false_and, Bool.false_and]
    unfold tmV
    rw [hokv]
    clear hokv hl hb hr
    go_enter Try.func13, Try.ntmps13
    go_wp2_with fail
    go_ret2
    exact ⟨rfl, Drawn0.refl _⟩
end Go.Proofs.Ytbblamabipabeaa.Mar
