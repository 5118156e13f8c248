/- The law's answers(), walked. -/
import Derived.Test.YtnoeehdccknhnaaStF
namespace Go.Proofs.Ytnoeehdccknhnaa.St
open Go Go.RowKit Go.Proofs.YtnoeehdccknhnaaW.PrintWords Go.Proofs.YtnoeehdccknhnaaW.PrintLast Go.Proofs.YtnoeehdccknhnaaW.PrintMore
open Go.Proofs.Ytnoeehdccknhnaa.Hp
attribute [local go_sem] max2_int min2_int max_two min_two max_three min_three max_four min_four
set_option linter.unusedVariables false
set_option linter.unusedSimpArgs false
theorem str_new (w : World) (t : TypeId) (xs : List ByteArray) (hx : xs.length ≤ 9223372036854775807) : Kd.string.C (w.alloc (.cells (xs.map Value.string).toArray t (0, 0))) (some ⟨w.heap.size, 0, none⟩) xs.length xs := by
  refine Kd.C_of_reads (d := ByteArray.empty) (h1 := fun _ => rfl) ⟨rfl, hx, fun _ => ⟨_, rfl, fun j hj => ?_⟩⟩
  rw [add_plain]
  have e := (Blk.new w t (xs.map Value.string).toArray).cell j
  rw [e]
  simp [List.getD_eq_getElem?_getD, hj]
theorem str_nil (w : World) : Kd.string.C w none ([] : List ByteArray).length [] := Kd.C_of_reads (d := ByteArray.empty) (h1 := fun _ => rfl) ⟨rfl, by decide, fun h => absurd h (by decide)⟩
theorem aux_len (entry phdr phnum phsize random : Int) : 22 ≤ (auxL entry phdr phnum phsize random).length ∧ (auxL entry phdr phnum phsize random).length ≤ 24 := by
  unfold auxL
  split
  · exact ⟨by simp, by simp⟩
  · exact ⟨by simp, by simp⟩
theorem words_len (bs : Int) (l1 l2 : List ByteArray) (entry phdr phnum phsize : Int) : l1.length + l2.length + 25 ≤ (wordsOf bs l1 l2 entry phdr phnum phsize).length ∧ (wordsOf bs l1 l2 entry phdr phnum phsize).length ≤ l1.length + l2.length + 27 := by
  have h := aux_len entry phdr phnum phsize (bs + ((szOf l1 + szOf l2 : Nat) : Int))
  unfold wordsOf
  simp only [List.length_append, plOf_length, List.length_cons, List.length_nil]
  omega
theorem sp_ge {K L s b n sp : Int} (hL : L = K - 65536) (hb : (K - (s + 16)) / 16 * 16 = b) (hs : (b - 8 * n) / 16 * 16 = sp) (h1 : 0 ≤ s) (h2 : s ≤ 32768) (h3 : 0 ≤ n) (h4 : n ≤ 300) : L ≤ sp ∧ sp ≤ K := by omega
theorem sp_two (l1 l2 : List ByteArray) (entry phdr phnum phsize : Int) (h : l1.length + l2.length ≤ 256 ∧ szOf l1 + szOf l2 ≤ 32768) :
    274877837312 ≤ spOf (baseOf l1 l2) (wordsOf (baseOf l1 l2) l1 l2 entry phdr phnum phsize).length ∧ spOf (baseOf l1 l2) (wordsOf (baseOf l1 l2) l1 l2 entry phdr phnum phsize).length ≤ 274877902848 := by
  have hw := words_len (baseOf l1 l2) l1 l2 entry phdr phnum phsize
  exact sp_ge (K := 274877902848) (L := 274877837312) (s := ((szOf l1 + szOf l2 : Nat) : Int)) (b := baseOf l1 l2) (n := ((wordsOf (baseOf l1 l2) l1 l2 entry phdr phnum phsize).length : Int)) (by decide) rfl rfl (by omega) (by omega) (by omega) (by omega)
theorem out_head (l1 l2 : List ByteArray) (entry phdr phnum phsize : Int) (T : List Int) : ∃ r, outOf (baseOf l1 l2) (wordsOf (baseOf l1 l2) l1 l2 entry phdr phnum phsize) T = ((l1.length : Int) % 256) :: r := ⟨_, rfl⟩
set_option maxHeartbeats 2000000 in
theorem answers_any (w : World) : Calls Try.prog 7 #[] w fun e w' => e = .returned (.bool true) ∧ Fr (fun _ => False) w w' := by
  have HC := Lib.hid (show chk [[⟨#[97]⟩], []] = 0 by decide +kernel)
  go_enter Try.func7, Try.ntmps7
  go_wp2_with fail
  refine (build_yes (some ⟨w.heap.size, 0, none⟩) none 1 0 [⟨#[97]⟩] [] 0 0 0 0 (.slice none 0 0) rfl 0 0 0 0 0 0 0 0 0 0 0 0 0 0 0 0 _ (str_new w 9 [⟨#[97]⟩] (by decide)) (str_nil _) (Nat.le_refl _) (Nat.le_refl _) HC.out (by decide) (by decide)).mono ?_
  rintro e w1 ⟨v, rfl, ho, hf⟩
  obtain ⟨r, hr⟩ := out_head [⟨#[97]⟩] [] 0 0 0 0 (txOf [⟨#[97]⟩] ++ txOf [] ++ [0, 0, 0, 0, 0, 0, 0, 0, 0, 0, 0, 0, 0, 0, 0, 0])
  rw [hr] at ho
  have hs := sp_two [⟨#[97]⟩] [] 0 0 0 0 ⟨by decide, by decide⟩
  obtain ⟨sp, hsp⟩ : ∃ s, spOf (baseOf [⟨#[97]⟩] []) (wordsOf (baseOf [⟨#[97]⟩] []) [⟨#[97]⟩] [] 0 0 0 0).length = s := ⟨_, rfl⟩
  rw [hsp] at hs ⊢
  obtain ⟨g, c, rfl, hc⟩ := Row.head ho.row (by simp)
  have y := reads_head (Row.reads ho.row) 0 (by simp)
  have hp : decide ((0 : Int) < sp) = true := decide_eq_true (by omega)
  obtain ⟨n, hn⟩ : ∃ n, r.length = n := ⟨_, rfl⟩
  simp only [List.length_cons] at hc ⊢
  rw [hn] at hc ⊢
  have y' : w1.cell? ⟨g, 0, none⟩ = some (.int .u8 1) := by simpa using y
  have q1 : decide ((0 : Int) < ((n + 1 : Nat) : Int)) = true := decide_eq_true (by omega)
  have q2 : decide ((0 : Int) < (n : Int) + 1) = true := decide_eq_true (by omega)
  have HF := Lib.hid hf
  clear y ho hr hsp hn hf HC
  go_wp2_with fail
  go_ret
  exact ⟨rfl, (((Fr.refl (fun _ => False) w).alloc _).trans HF.out (fun _ _ => id))⟩
end Go.Proofs.Ytnoeehdccknhnaa.St
