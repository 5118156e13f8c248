/- The contracts of package marsh's at, GetAction, Action, GetStack, Stack and Limit, and of the document's Action, Stack and GetStack. -/
import Derived.Test.YtbblamabipabeaaMarL
import Derived.Test.YtbblamabipabeaaMarRef
import Derived.Test.YtbblamabipabeaaPMarshSignalsx3
namespace Go.Proofs.Ytbblamabipabeaa.Mar
open Go Go.RowKit Go.Proofs.YtbblamabipabeaaW.PrintWords Go.Proofs.YtbblamabipabeaaW.PrintLast Go.Proofs.YtbblamabipabeaaW.PrintMore
open Go.Proofs.Ytbblamabipabeaa.Hp Go.Proofs.Ytbblamabipabeaa.By Go.Proofs.Ytbblamabipabeaa.Bv
attribute [local go_sem] max2_int min2_int max_two min_two max_three min_three max_four min_four
set_option linter.unusedVariables false
set_option linter.unusedSimpArgs false
/-! ### Plain: what the printed functions come to. -/
theorem put_step (l : List Int) (x : Int) (m j : Nat) (hj : j < 8) (hl : l.length ≤ 1000) : MarRef.marionetteref01_Put.l0 (m + 1) x 8 (l ++ enc x j) j = MarRef.marionetteref01_Put.l0 m x 8 (l ++ enc x (j + 1)) ((j + 1 : Nat) : Int) := by
  have e1 : wrap64 (8 * (j : Int)) = ((8 * j : Nat) : Int) := by rw [wrap64_in (by omega) (by omega)]; omega
  have e2 : IntKind.u64.wrap ((8 * j : Nat) : Int) = ((8 * j : Nat) : Int) := wrap_in (by omega) (by omega)
  have e3 : wrap64 ((j : Int) + 1) = ((j + 1 : Nat) : Int) := by rw [wrap64_in (by omega) (by omega)]; omega
  simp only [MarRef.marionetteref01_Put.l0]
  rw [if_pos (by omega), e1, e2, if_pos (by omega), if_pos (by rw [List.length_append, enc_length]; omega), e3]
  have e4 : shr .u64 x ((8 * j : Nat) : Int) = x / 256 ^ j := by
    show x / 2 ^ min (8 * j) 64 = _
    rw [Nat.min_eq_left (by omega), Int.pow_mul]
    rfl
  rw [e4, enc_snoc, List.append_assoc]
theorem put8 (l : List Int) (x : Int) (hl : l.length ≤ 1000) : MarRef.marionetteref01_Put.f 10 l x 8 = some (l ++ enc x 8) := by
  unfold MarRef.marionetteref01_Put.f
  simp only [Option.bind_some, List.nil_append, List.length_nil]
  rw [if_pos (by omega), if_neg (by decide)]
  simp only [MarRef.marionetteref01_Put.j0]
  rw [if_neg (by decide)]
  have h := put_step l x 8 0 (by omega) hl
  have e0 : l ++ enc x 0 = l := by simp [enc]
  rw [e0] at h
  refine h.trans ?_
  rw [put_step l x 7 1 (by omega) hl, put_step l x 6 2 (by omega) hl, put_step l x 5 3 (by omega) hl, put_step l x 4 4 (by omega) hl, put_step l x 3 5 (by omega) hl, put_step l x 2 6 (by omega) hl, put_step l x 1 7 (by omega) hl]
  simp only [MarRef.marionetteref01_Put.l0]
  rw [if_neg (by omega)]
theorem two_f (x y : Int) : MarRef.marionetteref21_Two.f 10 x y = some (enc x 8 ++ enc y 8) := by
  unfold MarRef.marionetteref21_Two.f
  rw [put8 [] x (by decide)]
  simp only [Option.bind_some, List.nil_append]
  rw [put8 _ y (by rw [enc_length]; omega)]
  rfl
theorem action_f (x y z : Int) : MarRef.marionetteref21_Action.f 10 x y z = some (encs [x, y, z]) := by
  unfold MarRef.marionetteref21_Action.f
  rw [two_f]
  simp only [Option.bind_some]
  rw [put8 _ z (by rw [List.length_append, enc_length, enc_length]; omega)]
  simp [encs]
/-- The bytes of a stack. -/
def kB (a s : Int) : List Int := encs [a, if s = 0 then 2 else 0, s]
theorem stack_f (a s : Int) : MarRef.marionetteref21_Stack.f 10 a s = some (kB a s) := by
  unfold MarRef.marionetteref21_Stack.f kB
  by_cases h : s = 0
  · rw [if_pos h, if_pos h, two_f]
    simp only [Option.bind_some]
    rw [put8 _ s (by rw [List.length_append, enc_length, enc_length]; omega)]
    simp [encs]
  · rw [if_neg h, if_neg h, two_f]
    simp only [Option.bind_some]
    rw [put8 _ s (by rw [List.length_append, enc_length, enc_length]; omega)]
    simp [encs]
theorem get_step (l : List Int) (m j : Nat) (hj : j < 8) (hl : 8 ≤ l.length) (hb : By.bytes l) : PMarshSignals.marionetteref01_Get.l0 (m + 1) l 8 (le (l.take j)) j = PMarshSignals.marionetteref01_Get.l0 m l 8 (le (l.take (j + 1))) ((j + 1 : Nat) : Int) := by
  have e1 : wrap64 (8 * (j : Int)) = ((8 * j : Nat) : Int) := by rw [wrap64_in (by omega) (by omega)]; omega
  have e2 : IntKind.u64.wrap ((8 * j : Nat) : Int) = ((8 * j : Nat) : Int) := wrap_in (by omega) (by omega)
  have e3 : wrap64 ((j : Int) + 1) = ((j + 1 : Nat) : Int) := by rw [wrap64_in (by omega) (by omega)]; omega
  have hby := rd_byte l j (by omega) hb
  simp only [PMarshSignals.marionetteref01_Get.l0]
  rw [if_pos (by omega), if_pos (by omega), if_pos (by omega), e1, e2, if_pos (by omega), e3, wrap_in (n := rd l j) (by omega) (by omega)]
  congr 1
  rw [← (le_step l j (by omega) (by omega) hb).2]
  congr 2
  show IntKind.u64.wrap (rd l j * 2 ^ min (8 * j) 64) = _
  rw [Nat.min_eq_left (by omega)]
theorem get8 (l : List Int) (hl : 8 ≤ l.length) (hb : By.bytes l) : PMarshSignals.marionetteref01_Get.f 10 l 8 = some (le (l.take 8)) := by
  unfold PMarshSignals.marionetteref01_Get.f
  rw [if_neg (by decide)]
  simp only [PMarshSignals.marionetteref01_Get.j0]
  rw [if_neg (by decide)]
  have h := get_step l 8 0 (by omega) hl hb
  refine h.trans ?_
  rw [get_step l 7 1 (by omega) hl hb, get_step l 6 2 (by omega) hl hb, get_step l 5 3 (by omega) hl hb, get_step l 4 4 (by omega) hl hb, get_step l 3 5 (by omega) hl hb, get_step l 2 6 (by omega) hl hb, get_step l 1 7 (by omega) hl hb]
  simp only [PMarshSignals.marionetteref01_Get.l0]
  rw [if_neg (by omega)]
/-! ### The document's. -/
theorem raction_any (w : World) (x y z : Int) :
    Calls Try.prog 19 #[.agg #[.int .u64 x, .int .u64 y, .int .u64 z]] w fun e w' => ∃ v, e = .returned v ∧ Own w.heap.size w' v (encs [x, y, z]) ∧ Fr (fun _ => False) w w' :=
  (MarRef.marionetteref21_Action.calls 10 x y z _ w (action_f x y z)).mono fun _ _ ⟨v, h1, h2, h3⟩ => ⟨v, h1, Kd.own_of_R h2, Fr.of_below h3⟩
theorem rstack_any (w : World) (a s : Int) :
    Calls Try.prog 20 #[.agg #[.int .u64 a, .int .u64 s]] w fun e w' => ∃ v, e = .returned v ∧ Own w.heap.size w' v (kB a s) ∧ Fr (fun _ => False) w w' :=
  (MarRef.marionetteref21_Stack.calls 10 a s _ w (stack_f a s)).mono fun _ _ ⟨v, h1, h2, h3⟩ => ⟨v, h1, Kd.own_of_R h2, Fr.of_below h3⟩
/-- What bytes say of a stack: the place, the size, and whether they are one's. -/
def w0 (l : List Int) : Int := le (l.take 8)
def w1 (l : List Int) : Int := le ((l.drop 8).take 8)
def w2 (l : List Int) : Int := le ((l.drop 16).take 8)
def sk (l : List Int) : Int × Int × Bool := if l.length = 24 then (if w1 l = 2 then (0, 0, true) else if w1 l = 0 then (if w2 l < 2048 then (0, 0, false) else (w0 l, w2 l, true)) else (0, 0, false)) else (0, 0, false)
theorem rgetstack_f (l : List Int) (hb : By.bytes l) : PMarshSignals.marionetteref21_GetStack.f 10 l = some (sk l) := by
  unfold PMarshSignals.marionetteref21_GetStack.f sk
  by_cases h : l.length = 24
  · rw [if_pos (by omega), if_pos h, if_pos (by omega), get8 (l.drop 8) (by rw [List.length_drop]; omega) (drop_bytes hb 8), get8 l (by omega) hb]
    simp only [Option.bind_some]
    rw [if_pos (by omega), get8 (l.drop 16) (by rw [List.length_drop]; omega) (drop_bytes hb 16)]
    simp only [Option.bind_some]
    show (if w1 l = 2 then some (0, 0, true) else if w1 l = 0 then if w2 l < 2048 then some (0, 0, false) else some (w0 l, w2 l, true) else some (0, 0, false)) = _
    by_cases h2 : w1 l = 2
    · rw [if_pos h2, if_pos h2]
    · rw [if_neg h2, if_neg h2]
      by_cases h0 : w1 l = 0
      · rw [if_pos h0, if_pos h0]
        by_cases h3 : w2 l < 2048
        · rw [if_pos h3, if_pos h3]
        · rw [if_neg h3, if_neg h3]
      · rw [if_neg h0, if_neg h0]
  · rw [if_neg (by omega), if_neg h]
theorem rgetstack_any (A : Option Addr) (c : Nat) (l : List Int) (w : World) (hr : Kd.C (Kd.int .u8) w A l.length l) (hc : l.length ≤ c) (hb : By.bytes l) :
    Calls Try.prog 16 #[.slice A l.length c] w fun e w' => e = .returned (.tuple #[.agg #[.int .u64 (sk l).1, .int .u64 (sk l).2.1], .bool (sk l).2.2]) ∧ Fr (fun _ => False) w w' :=
  (PMarshSignals.marionetteref21_GetStack.calls 10 A c l _ _ _ w hr hc (rgetstack_f l hb)).mono fun _ _ h => ⟨h.1, Fr.of_below h.2⟩
/-! ### The program's. -/
/-- The i-th word of bytes; 0 where they lack. -/
def atv (l : List Int) (i : Nat) : Int := if 8 * i < l.length then le ((l.drop (8 * i)).take 8) else 0
theorem at_any (i : Nat) (hi : i ≤ 2) (A : Option Addr) (c : Nat) (l : List Int) (w : World) (hr : Kd.C (Kd.int .u8) w A l.length l) (hc : l.length ≤ c) (hb : By.bytes l) (hm : l.length ≤ 9223372036854775807) :
    Calls Try.prog 27 #[.slice A l.length c, .int .i64 i] w fun e w' => e = .returned (.int .u64 (atv l i)) ∧ Drawn0 w w' := by
  have e1 : wrap64 (8 * (i : Int)) = ((8 * i : Nat) : Int) := by rw [wrap64_in (by omega) (by omega)]; omega
  have e1b : (8 * (i : Int)) = ((8 * i : Nat) : Int) := by omega
  unfold atv
  by_cases h : 8 * i < l.length
  · rw [if_pos h]
    obtain ⟨j, hj⟩ : ∃ j, j = 8 * i := ⟨_, rfl⟩
    rw [← hj] at e1 e1b h ⊢
    have t1 : decide ((l.length : Int) ≤ (j : Int)) = false := decide_eq_false (by omega)
    obtain ⟨i0, hi0, _, hsz, _⟩ := info_parts info5
    obtain ⟨A', h1, h2, h3⟩ := print_drop_of (P := Try.prog) (Value.int .u8) 0 23 5 .i64 Try.underlying23 hi0 hsz A c l (j : Int) (by omega) (by omega) hc
    rw [Int.toNat_natCast] at h1 h2 h3
    have hg := Lib.hid (get_in A' _ (l.drop j) 8 w (Kd.C_of_reads (h1 := fun _ => rfl) (h2 w (Kd.reads_of_C hr))) h3 (drop_bytes hb j) (by decide) (by decide))
    obtain ⟨d, hd⟩ : ∃ d, d = l.drop j := ⟨_, rfl⟩
    rw [← hd] at h1 hg ⊢
    have hj16 : j ≤ 16 := by omega
    clear hr hb h2 h3 hd hsz hi0 hj
    go_enter Try.func27, Try.ntmps27
    go_wp2_with fail
    refine hg.out.mono ?_; rintro e w' ⟨rfl, ⟨m1, rfl⟩⟩
    go_wp2_with fail
    go_ret
    exact ⟨rfl, ⟨m1, rfl⟩⟩
  · rw [if_neg h]
    have t1 : decide ((l.length : Int) ≤ ((8 * i : Nat) : Int)) = true := decide_eq_true (by omega)
    obtain ⟨j, hj⟩ : ∃ j, j = 8 * i := ⟨_, rfl⟩
    rw [← hj] at e1 e1b h t1
    clear hr hb hj
    go_enter Try.func27, Try.ntmps27
    go_wp2_with fail
    go_ret
    exact ⟨rfl, Drawn0.refl _⟩
theorem limit_any (w : World) (n : Int) (h0 : 0 ≤ n) (h1 : n < 9223372036854775808) :
    Calls Try.prog 21 #[.int .i64 n] w fun e w' => ∃ v, e = .returned v ∧ Own w.heap.size w' v (encs [n, n]) ∧ Fr (fun _ => False) w w' := by
  have hp := Lib.hid (parts_any w n n h0 h1 h0 h1)
  obtain ⟨l, hl⟩ : ∃ l, l = encs [n, n] := ⟨_, rfl⟩
  rw [← hl] at hp ⊢
  clear hl
  go_enter Try.func21, Try.ntmps21
  go_wp2_with fail
  refine hp.out.mono ?_
  rintro e w2 ⟨v, rfl, ho, hf⟩
  have HF := Lib.hid hf
  have HO := Lib.hid ho
  clear ho hf
  go_wp2_with fail
  go_ret
  exact ⟨_, rfl, HO.out, HF.out⟩
theorem at_fr (i : Nat) (hi : i ≤ 2) (A : Option Addr) (c : Nat) (l : List Int) (w : World) (hr : ReadsInt w .u8 A l.length l) (hc : l.length ≤ c) (hb : By.bytes l) (w1 : World) (f : Fr (fun _ => False) w w1) :
    Calls Try.prog 27 #[.slice A l.length c, .int .i64 (i : Int)] w1 fun e w' => e = .returned (.int .u64 (atv l i)) ∧ Drawn0 w1 w' :=
  at_any i hi A c l w1 (C_of (reads_fr hr f (fun _ _ _ => id))) hc hb hr.2.1
set_option maxHeartbeats 1000000 in
theorem getaction_any (A : Option Addr) (c : Nat) (l : List Int) (w : World) (hr : ReadsInt w .u8 A l.length l) (hc : l.length ≤ c) (hb : By.bytes l) :
    Calls Try.prog 17 #[.slice A l.length c] w fun e w' => e = .returned (.agg #[.int .u64 (atv l 0), .int .u64 (atv l 1), .int .u64 (atv l 2)]) ∧ Fr (fun _ => False) w w' := by
  have h0 := Lib.hid (at_fr 0 (by decide) A c l w hr hc hb)
  have h1 := Lib.hid (at_fr 1 (by decide) A c l w hr hc hb)
  have h2 := Lib.hid (at_fr 2 (by decide) A c l w hr hc hb)
  have hm := hr.2.1
  clear hr hb hc
  go_enter Try.func17, Try.ntmps17
  go_wp2_with fail
  refine (h0.out _ (by (repeat (first | exact Fr.refl _ _ | apply Fr.drewN | apply Fr.alloc | apply Fr.drew | refine Fr.setCell ?_ (Or.inr (by simp)) _)))).mono ?_; rintro e wa ⟨rfl, ⟨ma, rfl⟩⟩
  go_wp2_with fail
  refine (h1.out _ (by (repeat (first | exact Fr.refl _ _ | apply Fr.drewN | apply Fr.alloc | apply Fr.drew | refine Fr.setCell ?_ (Or.inr (by simp)) _)))).mono ?_; rintro e wa ⟨rfl, ⟨mb, rfl⟩⟩
  go_wp2_with fail
  refine (h2.out _ (by (repeat (first | exact Fr.refl _ _ | apply Fr.drewN | apply Fr.alloc | apply Fr.drew | refine Fr.setCell ?_ (Or.inr (by simp)) _)))).mono ?_; rintro e wa ⟨rfl, ⟨mc, rfl⟩⟩
  go_wp2_with fail
  refine bodyPost_ret (results_cell_row rfl _ _ w.heap.size 33 #[.int .u64 (atv l 0), .int .u64 (atv l 1), .int .u64 (atv l 2)] (0, 0) _ rfl ?_ Try.underlying33 rfl (by kernel_rfl)) rfl ?_
  · have hB : Blk (((w.alloc (.cells #[.int .u64 0, .int .u64 0, .int .u64 0] 33)).drewN (ma + mb + mc))) w.heap.size 33 #[.int .u64 0, .int .u64 0, .int .u64 0] := (Blk.new w _ _).drewN _
    have h := ((hB.set 0 (.int .u64 (atv l 0))).set 1 (.int .u64 (atv l 1))).set 2 (.int .u64 (atv l 2))
    simpa [Blk] using h
  · exact ⟨rfl, by (repeat (first | exact Fr.refl _ _ | apply Fr.drewN | apply Fr.alloc | apply Fr.drew | refine Fr.setCell ?_ (Or.inr (by simp)) _))⟩
end Go.Proofs.Ytbblamabipabeaa.Mar