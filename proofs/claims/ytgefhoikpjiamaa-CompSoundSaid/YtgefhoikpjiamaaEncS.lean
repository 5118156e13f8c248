/- The word of an instruction that a word has is that word, but of fences: all kinds. Plain Lean. -/
import Derived.Test.YtgefhoikpjiamaaEncR
namespace Go.Proofs.Ytgefhoikpjiamaa.Ins
open Go Go.RowKit
open Go.Proofs.Ytgefhoikpjiamaa.Bv
set_option linter.unusedVariables false
theorem back_k {w : Nat} {i k : I7} (hk : kindP w = k) (hd : decP w = (i, true)) : k.1 ≠ 0 ∧ i = (k.1, k.2.1, k.2.2.1, k.2.2.2.1, k.2.2.2.2.1, k.2.2.2.2.2.1, 4) := by
  unfold decP size4 at hd
  rw [hk] at hd
  split at hd
  · injection hd with _ h
    cases h
  · rename_i c
    injection hd with h _
    exact ⟨c, h.symm⟩
theorem tab_lt : ∀ f : Nat, f < 8 → brT f < 85 ∧ ldT f < 85 ∧ stT f < 85 ∧ piT f < 85 ∧ prT f < 85 ∧ mrT f < 85 := by decide
theorem reg_lt (g f : Nat) (hf : f < 8) : regT g f < 85 := by
  have h := tab_lt f hf
  unfold regT
  repeat' split
  all_goals omega
theorem r32_lt (g f : Nat) (hf : f < 8) : r32T g f < 85 := by
  have h : ∀ f : Nat, f < 8 → ([45, 47, 0, 0, 0, 48, 0, 0] : List Int).getD f 0 < 85 ∧ ([46, 0, 0, 0, 0, 49, 0, 0] : List Int).getD f 0 < 85 ∧ ([58, 0, 0, 0, 59, 60, 61, 62] : List Int).getD f 0 < 85 := by decide
  have := h f hf
  unfold r32T
  repeat' split
  all_goals omega
theorem amo_lt (f5 : Nat) : amoT f5 < 74 := by
  unfold amoT
  repeat' split
  all_goals omega
theorem back (w : Nat) (hw : w < 4294967296) (i : I7) (hd : decP w = (i, true)) : encE i = (backW i w, true) := by
  have hf3 := fb3 w 12
  have ht := tab_lt _ hf3
  by_cases c : fld w 0 7 = 55
  · obtain ⟨_, rfl⟩ := back_k (k := (1, (fld w 7 5 : Nat), 0, 0, uP w, 0, 0)) (by unfold kindP; rw [if_pos c]) hd
    exact back_of (by show (1 : Int) ≠ 85; decide) (by show (1 : Int) ≠ 86; decide) (enc_lui _ _ _ _ _ _) (up_val w 55 hw c)
  by_cases c1 : fld w 0 7 = 23
  · obtain ⟨_, rfl⟩ := back_k (k := (2, (fld w 7 5 : Nat), 0, 0, uP w, 0, 0)) (by unfold kindP; rw [if_neg c, if_pos c1]) hd
    exact back_of (by show (2 : Int) ≠ 85; decide) (by show (2 : Int) ≠ 86; decide) (enc_auipc _ _ _ _ _ _) (up_val w 23 hw c1)
  by_cases c2 : fld w 0 7 = 111
  · obtain ⟨_, rfl⟩ := back_k (k := (3, (fld w 7 5 : Nat), 0, 0, jP w, 0, 0)) (by unfold kindP; rw [if_neg c, if_neg c1, if_pos c2]) hd
    exact back_of (by show (3 : Int) ≠ 85; decide) (by show (3 : Int) ≠ 86; decide) (enc_jal _ _ _ _ _ _) (jal_val w hw c2)
  by_cases c3 : fld w 0 7 = 99
  · obtain ⟨h0, rfl⟩ := back_k (k := (brT (fld w 12 3), 0, (fld w 15 5 : Nat), (fld w 20 5 : Nat), bP w, 0, 0)) (by unfold kindP; rw [if_neg c, if_neg c1, if_neg c2, if_pos c3]) hd
    exact back_of (by dsimp only; omega) (by dsimp only; omega) (enc_branch _ hf3 h0 _ _ _ _ _ _) (br_val w hw c3)
  by_cases c4 : fld w 0 7 = 35
  · obtain ⟨h0, rfl⟩ := back_k (k := (stT (fld w 12 3), 0, (fld w 15 5 : Nat), (fld w 20 5 : Nat), sP w, 0, 0)) (by unfold kindP; rw [if_neg c, if_neg c1, if_neg c2, if_neg c3, if_pos c4]) hd
    have e := store_val w hw
    rw [c4] at e
    exact back_of (by dsimp only; omega) (by dsimp only; omega) (enc_store _ hf3 h0 _ _ _ _ _ _) e
  by_cases c5 : fld w 0 7 = 51
  · obtain ⟨h0, rfl⟩ := back_k (k := (regT (fld w 25 7) (fld w 12 3), (fld w 7 5 : Nat), (fld w 15 5 : Nat), (fld w 20 5 : Nat), 0, 0, 0)) (by unfold kindP; rw [if_neg c, if_neg c1, if_neg c2, if_neg c3, if_neg c4, if_pos c5]) hd
    have e := lay_val w hw
    rw [c5] at e
    have hr := reg_lt (fld w 25 7) _ hf3
    exact back_of (by dsimp only; omega) (by dsimp only; omega) (enc_reg _ _ hf3 h0 _ _ _ _ _ _) e
  by_cases c6 : fld w 0 7 = 59
  · obtain ⟨h0, rfl⟩ := back_k (k := (r32T (fld w 25 7) (fld w 12 3), (fld w 7 5 : Nat), (fld w 15 5 : Nat), (fld w 20 5 : Nat), 0, 0, 0)) (by unfold kindP; rw [if_neg c, if_neg c1, if_neg c2, if_neg c3, if_neg c4, if_neg c5, if_pos c6]) hd
    have e := lay_val w hw
    rw [c6] at e
    have hr := r32_lt (fld w 25 7) _ hf3
    exact back_of (by dsimp only; omega) (by dsimp only; omega) (enc_r32 _ _ hf3 h0 _ _ _ _ _ _) e
  by_cases c7 : fld w 0 7 = 47
  · have hk : kindP w = regsP w (atomicP w) := by unfold kindP; rw [if_neg c, if_neg c1, if_neg c2, if_neg c3, if_neg c4, if_neg c5, if_neg c6, if_pos c7]
    by_cases a : amoT (fld w 27 5) = 0 ∨ (fld w 12 3 ≠ 2 ∧ fld w 12 3 ≠ 3) ∨ (amoT (fld w 27 5) = 63 ∧ fld w 20 5 ≠ 0)
    · have h0 := (back_k hk hd).1
      exact absurd (show (regsP w (atomicP w)).1 = 0 by unfold regsP atomicP; rw [if_pos a]; rfl) h0
    · have ha : atomicP w = (amoT (fld w 27 5) + (if fld w 12 3 = 3 then 11 else 0), 0, 0, ((fld w 20 5 : Nat) : Int), 0, ((fld w 25 2 : Nat) : Int), 0) := by unfold atomicP; rw [if_neg a]
      rw [ha] at hk
      obtain ⟨_, rfl⟩ := back_k hk hd
      have e := lay_val w hw
      rw [c7, ← amo_f7] at e
      have hl := amo_lt (fld w 27 5)
      have h3 : fld w 12 3 = 2 ∨ fld w 12 3 = 3 := by
        by_cases g : fld w 12 3 = 2
        · exact .inl g
        · by_cases g' : fld w 12 3 = 3
          · exact .inr g'
          · exact absurd (.inr (.inl ⟨g, g'⟩)) a
      have hlt : amoT (fld w 27 5) + (if fld w 12 3 = 3 then (11 : Int) else 0) < 85 := by split <;> omega
      exact back_of (by show amoT (fld w 27 5) + (if fld w 12 3 = 3 then (11 : Int) else 0) ≠ 85; omega) (by show amoT (fld w 27 5) + (if fld w 12 3 = 3 then (11 : Int) else 0) ≠ 86; omega) (enc_amo _ _ (fun g => a (.inl g)) h3 _ _ _ _ _ _) e
  by_cases c8 : fld w 0 7 = 15 ∨ fld w 0 7 = 115
  · have hk : kindP w = otherP w := by unfold kindP; rw [if_neg c, if_neg c1, if_neg c2, if_neg c3, if_neg c4, if_neg c5, if_neg c6, if_neg c7, if_pos c8]
    unfold otherP at hk
    by_cases d1 : w = 115
    · rw [if_pos d1] at hk
      obtain ⟨_, rfl⟩ := back_k hk hd
      exact back_of (by decide) (by decide) (enc_fence _ _ _ _ _ _).2.2.1 (by omega)
    · rw [if_neg d1] at hk
      by_cases d2 : w = 1048691
      · rw [if_pos d2] at hk
        obtain ⟨_, rfl⟩ := back_k hk hd
        exact back_of (by decide) (by decide) (enc_fence _ _ _ _ _ _).2.2.2 (by omega)
      · rw [if_neg d2] at hk
        by_cases d3 : fld w 0 7 = 15 ∧ fld w 12 3 = 0
        · rw [if_pos d3] at hk
          obtain ⟨_, rfl⟩ := back_k hk hd
          exact (enc_fence _ _ _ _ _ _).1
        · rw [if_neg d3] at hk
          by_cases d4 : fld w 0 7 = 15 ∧ fld w 12 3 = 1
          · rw [if_pos d4] at hk
            obtain ⟨_, rfl⟩ := back_k hk hd
            exact (enc_fence _ _ _ _ _ _).2.1
          · rw [if_neg d4] at hk
            exact absurd rfl (back_k hk hd).1
  · have hk : kindP w = regsP w (withImmP w) := by unfold kindP; rw [if_neg c, if_neg c1, if_neg c2, if_neg c3, if_neg c4, if_neg c5, if_neg c6, if_neg c7, if_neg c8]
    unfold withImmP at hk
    by_cases d1 : fld w 0 7 = 103
    · rw [if_pos d1] at hk
      by_cases g : fld w 12 3 = 0
      · rw [if_pos g] at hk
        obtain ⟨_, rfl⟩ := back_k hk hd
        exact back_of (by show (4 : Int) ≠ 85; decide) (by show (4 : Int) ≠ 86; decide) (enc_jalr _ _ _ _ _ _) (imm_val w 103 0 hw d1 g)
      · rw [if_neg g] at hk
        exact absurd rfl (back_k hk hd).1
    rw [if_neg d1] at hk
    by_cases d2 : fld w 0 7 = 3
    · rw [if_pos d2] at hk
      obtain ⟨h0, rfl⟩ := back_k hk hd
      exact back_of (by show ldT (fld w 12 3) ≠ 85; omega) (by show ldT (fld w 12 3) ≠ 86; omega) (enc_load _ hf3 h0 _ _ _ _ _ _) (imm_val w 3 _ hw d2 rfl)
    rw [if_neg d2] at hk
    by_cases d3 : fld w 0 7 = 19
    · rw [if_pos d3] at hk
      by_cases g : fld w 12 3 = 1 ∨ fld w 12 3 = 5
      · rw [if_pos g] at hk
        unfold shiftP at hk
        by_cases s1 : fld w 12 3 = 1 ∧ fld w (20 + 6) (12 - 6) = 0
        · rw [if_pos s1] at hk
          obtain ⟨_, rfl⟩ := back_k hk hd
          exact back_of (by show (28 : Int) ≠ 85; decide) (by show (28 : Int) ≠ 86; decide) (enc_28 _ _ _ _ _ _) (sh_val w 19 1 0 6 63 hw d3 s1.1 (.inl ⟨rfl, rfl, rfl, by decide, s1.2⟩))
        rw [if_neg s1] at hk
        by_cases s2 : fld w 12 3 = 5 ∧ fld w (20 + 6) (12 - 6) = 0
        · rw [if_pos s2] at hk
          obtain ⟨_, rfl⟩ := back_k hk hd
          exact back_of (by show (29 : Int) ≠ 85; decide) (by show (29 : Int) ≠ 86; decide) (enc_29 _ _ _ _ _ _) (sh_val w 19 5 0 6 63 hw d3 s2.1 (.inl ⟨rfl, rfl, rfl, by decide, s2.2⟩))
        rw [if_neg s2] at hk
        by_cases s3 : fld w 12 3 = 5 ∧ fld w (20 + 6) (12 - 6) = 2 ^ (10 - 6)
        · rw [if_pos s3] at hk
          obtain ⟨_, rfl⟩ := back_k hk hd
          exact back_of (by show (30 : Int) ≠ 85; decide) (by show (30 : Int) ≠ 86; decide) (enc_30 _ _ _ _ _ _) (sh_val w 19 5 32 6 63 hw d3 s3.1 (.inl ⟨rfl, rfl, rfl, by decide, s3.2⟩))
        rw [if_neg s3] at hk
        exact absurd rfl (back_k hk hd).1
      · rw [if_neg g] at hk
        obtain ⟨h0, rfl⟩ := back_k hk hd
        exact back_of (by show piT (fld w 12 3) ≠ 85; omega) (by show piT (fld w 12 3) ≠ 86; omega) (enc_plain _ hf3 h0 _ _ _ _ _ _) (imm_val w 19 _ hw d3 rfl)
    rw [if_neg d3] at hk
    by_cases d4 : fld w 0 7 = 27
    · rw [if_pos d4] at hk
      by_cases g : fld w 12 3 = 0
      · rw [if_pos g] at hk
        obtain ⟨_, rfl⟩ := back_k hk hd
        exact back_of (by show (41 : Int) ≠ 85; decide) (by show (41 : Int) ≠ 86; decide) (enc_addiw _ _ _ _ _ _) (imm_val w 27 0 hw d4 g)
      · rw [if_neg g] at hk
        unfold shiftP at hk
        by_cases s1 : fld w 12 3 = 1 ∧ fld w (20 + 5) (12 - 5) = 0
        · rw [if_pos s1] at hk
          obtain ⟨_, rfl⟩ := back_k hk hd
          exact back_of (by show (42 : Int) ≠ 85; decide) (by show (42 : Int) ≠ 86; decide) (enc_42 _ _ _ _ _ _) (sh_val w 27 1 0 5 31 hw d4 s1.1 (.inr ⟨rfl, rfl, by decide, s1.2⟩))
        rw [if_neg s1] at hk
        by_cases s2 : fld w 12 3 = 5 ∧ fld w (20 + 5) (12 - 5) = 0
        · rw [if_pos s2] at hk
          obtain ⟨_, rfl⟩ := back_k hk hd
          exact back_of (by show (43 : Int) ≠ 85; decide) (by show (43 : Int) ≠ 86; decide) (enc_43 _ _ _ _ _ _) (sh_val w 27 5 0 5 31 hw d4 s2.1 (.inr ⟨rfl, rfl, by decide, s2.2⟩))
        rw [if_neg s2] at hk
        by_cases s3 : fld w 12 3 = 5 ∧ fld w (20 + 5) (12 - 5) = 2 ^ (10 - 5)
        · rw [if_pos s3] at hk
          obtain ⟨_, rfl⟩ := back_k hk hd
          exact back_of (by show (44 : Int) ≠ 85; decide) (by show (44 : Int) ≠ 86; decide) (enc_44 _ _ _ _ _ _) (sh_val w 27 5 32 5 31 hw d4 s3.1 (.inr ⟨rfl, rfl, by decide, s3.2⟩))
        rw [if_neg s3] at hk
        exact absurd rfl (back_k hk hd).1
    rw [if_neg d4] at hk
    exact absurd rfl (back_k hk hd).1
theorem dec_fences : decP 267386895 = ((85, 0, 0, 0, 0, 0, 4), true) ∧ decP 4111 = ((86, 0, 0, 0, 0, 0, 4), true) := ⟨by kernel_rfl, by kernel_rfl⟩
/-- The word that Encode answers for an instruction that the word w has. -/
def backN (i : I7) (w : Nat) : Nat := if i.1 = 85 then 267386895 else if i.1 = 86 then 4111 else w
theorem backN_eq (i : I7) (w : Nat) : backW i w = (backN i w : Int) := by
  unfold backW backN
  repeat' split
  all_goals rfl
theorem fence_form {w : Nat} {i : I7} (hd : decP w = (i, true)) (h : i.1 = 85 ∨ i.1 = 86) : i = (i.1, 0, 0, 0, 0, 0, 4) := by
  have hf3 := fb3 w 12
  have ht := tab_lt _ hf3
  have hr := reg_lt (fld w 25 7) _ hf3
  have hq := r32_lt (fld w 25 7) _ hf3
  have hl := amo_lt (fld w 27 5)
  obtain ⟨h0, rfl⟩ := back_k rfl hd
  have h' : (kindP w).1 = 85 ∨ (kindP w).1 = 86 := h
  clear h h0 hd
  revert h'
  unfold kindP
  repeat' split
  · intro h; exact absurd h (by dsimp only; omega)
  · intro h; exact absurd h (by dsimp only; omega)
  · intro h; exact absurd h (by dsimp only; omega)
  · intro h; exact absurd h (by dsimp only; omega)
  · intro h; exact absurd h (by dsimp only; omega)
  · intro h; exact absurd h (by dsimp only; omega)
  · intro h; exact absurd h (by dsimp only; omega)
  · intro h
    exact absurd h (by
      unfold regsP atomicP
      split
      · unfold i0; dsimp only; omega
      · dsimp only; split <;> omega)
  · unfold otherP
    repeat' split
    all_goals first | (intro _; rfl) | (intro h; exact absurd h (by unfold i0; dsimp only; omega)) | (intro h; exact absurd h (by dsimp only; omega))
  · intro h
    exact absurd h (by
      unfold regsP withImmP shiftP i0
      repeat' split
      all_goals (dsimp only; omega))
theorem backN_dec {w : Nat} (hw : w < 4294967296) {i : I7} (hd : decP w = (i, true)) : decP (backN i w) = (i, true) := by
  unfold backN
  by_cases h1 : i.1 = 85
  · rw [if_pos h1, dec_fences.1, fence_form hd (.inl h1), h1]
  · rw [if_neg h1]
    by_cases h2 : i.1 = 86
    · rw [if_pos h2, dec_fences.2, fence_form hd (.inr h2), h2]
    · rw [if_neg h2, hd]
/-- An instruction that a word has is encoded, and to this word. -/
theorem Enc_back {w : Nat} (hw : w < 4294967296) {i : I7} (hd : decP w = (i, true)) : EncE i = (backN i w, true) := by
  have he := back w hw i hd
  have hn : encN i = backN i w := by
    unfold encN
    rw [he, backN_eq]
    exact Int.toNat_natCast _
  unfold EncE
  rw [hn, if_pos ⟨by rw [he], backN_dec hw hd⟩]
end Go.Proofs.Ytgefhoikpjiamaa.Ins
