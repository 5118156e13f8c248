/- The contracts of package marsh's Time and Micro, of the document's Two, Time and Micro, and answers, walked. -/
import Derived.Test.YtbblamabipabeaaMarU
import Derived.Test.YtbblamabipabeaaByRPut
namespace Go.Proofs.Ytbblamabipabeaa.Mar
open Go Go.RowKit Go.Proofs.YtbblamabipabeaaW.PrintWords Go.Proofs.YtbblamabipabeaaW.PrintLast Go.Proofs.YtbblamabipabeaaW.PrintMore
open Go.Proofs.Ytbblamabipabeaa.Hp Go.Proofs.Ytbblamabipabeaa.By Go.Proofs.Ytbblamabipabeaa.Bv
attribute [local go_sem] max2_int min2_int max_two min_two max_three min_three max_four min_four
set_option linter.unusedVariables false
set_option linter.unusedSimpArgs false
/-- The bytes of a time, and of one in microseconds. -/
def tB (t : Int) : List Int := encs [t / 1000000000, t % 1000000000]
def mB (t : Int) : List Int := encs [t / 1000000000, t % 1000000000 / 1000]
set_option maxHeartbeats 1000000 in
theorem time_any (w : World) (t : Int) (h0 : 0 ≤ t) (h1 : t < 9223372036854775808) :
    Calls Try.prog 6 #[.int .i64 t] w fun e w' => ∃ v, e = .returned v ∧ Own w.heap.size w' v (tB t) ∧ Fr (fun _ => False) w w' := by
  have hp := Lib.hid (parts_any w (t / 1000000000) (t % 1000000000) (by omega) (by omega) (by omega) (by omega))
  have e1 : t.tdiv 1000000000 = t / 1000000000 := Int.tdiv_eq_ediv_of_nonneg h0
  have e2 : t.tmod 1000000000 = t % 1000000000 := Int.tmod_eq_emod_of_nonneg h0
  have e3 : wrap64 (t / 1000000000) = t / 1000000000 := wrap64_in (by omega) (by omega)
  have q0 := Int.ediv_nonneg h0 (show (0 : Int) ≤ 1000000000 by decide)
  unfold tB
  generalize t / 1000000000 = q at *
  generalize t % 1000000000 = r at *
  go_enter Try.func6, Try.ntmps6
  go_wp2_with fail
  refine hp.out.mono ?_
  rintro e w2 ⟨v, rfl, ho, hf⟩
  have HF := Lib.hid hf
  have HO := Lib.hid ho
  clear ho hf
  go_wp2_with fail
  go_ret
  exact ⟨_, rfl, HO.out, HF.out⟩
set_option maxHeartbeats 1000000 in
theorem micro_any (w : World) (t : Int) (h0 : 0 ≤ t) (h1 : t < 9223372036854775808) :
    Calls Try.prog 8 #[.int .i64 t] w fun e w' => ∃ v, e = .returned v ∧ Own w.heap.size w' v (mB t) ∧ Fr (fun _ => False) w w' := by
  have hp := Lib.hid (parts_any w (t / 1000000000) (t % 1000000000 / 1000) (by omega) (by omega) (by omega) (by omega))
  have e1 : t.tdiv 1000000000 = t / 1000000000 := Int.tdiv_eq_ediv_of_nonneg h0
  have e2 : t.tmod 1000000000 = t % 1000000000 := Int.tmod_eq_emod_of_nonneg h0
  have e3 : wrap64 (t / 1000000000) = t / 1000000000 := wrap64_in (by omega) (by omega)
  have e4 : (t % 1000000000).tdiv 1000 = t % 1000000000 / 1000 := Int.tdiv_eq_ediv_of_nonneg (by omega)
  have e5 : wrap64 (t % 1000000000 / 1000) = t % 1000000000 / 1000 := wrap64_in (by omega) (by omega)
  unfold mB
  generalize t / 1000000000 = q at *
  generalize t % 1000000000 = r at *
  generalize r / 1000 = r2 at *
  go_enter Try.func8, Try.ntmps8
  go_wp2_with fail
  refine hp.out.mono ?_
  rintro e w2 ⟨v, rfl, ho, hf⟩
  have HF := Lib.hid hf
  have HO := Lib.hid ho
  clear ho hf
  go_wp2_with fail
  go_ret
  exact ⟨_, rfl, HO.out, HF.out⟩
set_option maxHeartbeats 1000000 in
theorem two_any (w : World) (x y : Int) (x0 : 0 ≤ x) (x1 : x < 18446744073709551616) (y0 : 0 ≤ y) (y1 : y < 18446744073709551616) :
    Calls Try.prog 22 #[.int .u64 x, .int .u64 y] w fun e w' => ∃ v, e = .returned v ∧ Own w.heap.size w' v (encs [x, y]) ∧ Fr (fun _ => False) w w' := by
  have hn : Kd.C (Kd.int .u8) w none ([] : List Int).length [] := Kd.C_of_reads (d := (0 : Int)) (h1 := fun _ => rfl) ⟨rfl, by simp, fun h => absurd h (by simp)⟩
  have h1 := rput_any none 0 [] x 8 w hn (Nat.le_refl _) (by decide) x0 x1
  have h1 := Lib.hid h1
  clear hn
  go_enter Try.func22, Try.ntmps22
  go_wp2_with fail
  refine h1.out.mono ?_
  rintro e w2 ⟨v, rfl, hr2, hb2⟩
  have hp : putv [] x 8 = enc x 8 := by unfold putv; rw [if_pos (by decide)]; rfl
  rw [hp] at hr2
  obtain ⟨l, hl⟩ : ∃ l, l = enc x 8 := ⟨_, rfl⟩
  have hlen : l.length = 8 := by rw [hl, enc_length]
  rw [← hl] at hr2
  obtain ⟨A2, c2, rfl, hc2, hrd⟩ := (own_row (Kd.own_of_R hr2)).slice
  have h2 := Lib.hid (rput_any A2 c2 l y 8 w2 (Kd.C_of_reads (d := (0 : Int)) (h1 := fun _ => rfl) hrd) hc2 (by omega) y0 y1)
  have HB := Lib.hid hb2
  have HL := Lib.hid hl
  clear hr2 hb2 hp hrd hl hlen
  go_wp2_with fail
  refine h2.out.mono ?_
  rintro e w3 ⟨v3, rfl, hr3, hb3⟩
  have he : putv l y 8 = encs [x, y] := by
    unfold putv; rw [if_pos (by decide), HL.out]; simp [encs]
  rw [he] at hr3
  have HO := Lib.hid (show Own w.heap.size w3 v3 (encs [x, y]) from own_low (Kd.own_of_R hr3) HB.out.size)
  have HF := Lib.hid (show Fr (fun _ => False) w w3 from (Fr.of_below HB.out).trans (Fr.of_below hb3) (fun _ _ h => h))
  clear hr3 hb3 he
  go_wp2_with fail
  go_ret
  exact ⟨_, rfl, HO.out, HF.out⟩
set_option maxHeartbeats 1000000 in
theorem rtime_any (w : World) (t : Int) (h0 : 0 ≤ t) (h1 : t < 9223372036854775808) :
    Calls Try.prog 11 #[.int .i64 t] w fun e w' => ∃ v, e = .returned v ∧ Own w.heap.size w' v (tB t) ∧ Fr (fun _ => False) w w' := by
  have hp := Lib.hid (two_any w (t / 1000000000) (t % 1000000000) (by omega) (by omega) (by omega) (by omega))
  have e1 : t.tdiv 1000000000 = t / 1000000000 := Int.tdiv_eq_ediv_of_nonneg h0
  have e2 : t.tmod 1000000000 = t % 1000000000 := Int.tmod_eq_emod_of_nonneg h0
  have e3 : wrap64 (t / 1000000000) = t / 1000000000 := wrap64_in (by omega) (by omega)
  have e4 : IntKind.u64.wrap (t / 1000000000) = t / 1000000000 := wrap_in (by omega) (by omega)
  have e5 : IntKind.u64.wrap (t % 1000000000) = t % 1000000000 := wrap_in (by omega) (by omega)
  unfold tB
  generalize t / 1000000000 = q at *
  generalize t % 1000000000 = r at *
  go_enter Try.func11, Try.ntmps11
  go_wp2_with fail
  refine hp.out.mono ?_
  rintro e w2 ⟨v, rfl, ho, hf⟩
  have HF := Lib.hid hf
  have HO := Lib.hid ho
  clear ho hf
  go_wp2_with fail
  go_ret
  exact ⟨_, rfl, HO.out, HF.out⟩
set_option maxHeartbeats 1000000 in
theorem rmicro_any (w : World) (t : Int) (h0 : 0 ≤ t) (h1 : t < 9223372036854775808) :
    Calls Try.prog 12 #[.int .i64 t] w fun e w' => ∃ v, e = .returned v ∧ Own w.heap.size w' v (mB t) ∧ Fr (fun _ => False) w w' := by
  have hp := Lib.hid (two_any w (t / 1000000000) (t % 1000000000 / 1000) (by omega) (by omega) (by omega) (by omega))
  have e1 : t.tdiv 1000000000 = t / 1000000000 := Int.tdiv_eq_ediv_of_nonneg h0
  have e2 : t.tmod 1000000000 = t % 1000000000 := Int.tmod_eq_emod_of_nonneg h0
  have e3 : wrap64 (t / 1000000000) = t / 1000000000 := wrap64_in (by omega) (by omega)
  have e4 : IntKind.u64.wrap (t / 1000000000) = t / 1000000000 := wrap_in (by omega) (by omega)
  have e6 : (t % 1000000000).tdiv 1000 = t % 1000000000 / 1000 := Int.tdiv_eq_ediv_of_nonneg (by omega)
  have e7 : wrap64 (t % 1000000000 / 1000) = t % 1000000000 / 1000 := wrap64_in (by omega) (by omega)
  have e5 : IntKind.u64.wrap (t % 1000000000 / 1000) = t % 1000000000 / 1000 := wrap_in (by omega) (by omega)
  unfold mB
  generalize t / 1000000000 = q at *
  generalize t % 1000000000 = r at *
  generalize r / 1000 = r2 at *
  go_enter Try.func12, Try.ntmps12
  go_wp2_with fail
  refine hp.out.mono ?_
  rintro e w2 ⟨v, rfl, ho, hf⟩
  have HF := Lib.hid hf
  have HO := Lib.hid ho
  clear ho hf
  go_wp2_with fail
  go_ret
  exact ⟨_, rfl, HO.out, HF.out⟩
set_option maxHeartbeats 1000000 in
theorem answers_any (w : World) : Calls Try.prog 9 #[] w fun e w' => e = .returned (.bool true) ∧ Fr (fun _ => False) w w' := by
  go_enter Try.func9, Try.ntmps9
  go_wp2_with fail
  refine (uname_any w).mono ?_
  rintro e w2 ⟨v, l, rfl, hl, ho, hb⟩
  obtain ⟨A, c, rfl, _, _⟩ := ho.slice
  have HB := Lib.hid hb
  have ht : ((l.length : Int) == 390) = true := by rw [hl]; rfl
  clear ho hb hl
  go_wp2_with fail
  refine (time_any w2 5 (by decide) (by decide)).mono ?_
  rintro e w3 ⟨v3, rfl, ho3, hf3⟩
  obtain ⟨l3, hl3⟩ : ∃ l3, l3 = tB 5 := ⟨_, rfl⟩
  rw [← hl3] at ho3
  obtain ⟨A3, c3, rfl, _, _⟩ := ho3.slice
  have HF := Lib.hid (show Fr (fun _ => False) w w3 from (Fr.of_below HB.out).trans hf3 (fun _ _ h => h))
  have ht3 : ((l3.length : Int) == 16) = true := by rw [hl3]; unfold tB; rw [encs_length]; rfl
  clear ho3 hf3 hl3
  go_wp2_with fail
  go_ret
  exact ⟨rfl, HF.out⟩
end Go.Proofs.Ytbblamabipabeaa.Mar
