/- Which instruction a word is: the program's answer and the document's, in plain Lean, are the same for every word. -/
import Derived.Test.YtgefhoikpjiamaaInsP
namespace Go.Proofs.Ytgefhoikpjiamaa.Ins
theorem sg_u (n : Nat) : sg (n * 4096) 32 = sg n 20 * 4096 := by
  unfold sg
  simp only [Nat.reducePow, Nat.reduceSub]
  by_cases h : n < 524288
  · rw [if_pos (by omega), if_pos h]; omega
  · rw [if_neg (by omega), if_neg h]; omega
theorem sg_j (n : Nat) : sg (n * 2) 21 = sg n 20 * 2 := by
  unfold sg
  simp only [Nat.reducePow, Nat.reduceSub]
  by_cases h : n < 524288
  · rw [if_pos (by omega), if_pos h]; omega
  · rw [if_neg (by omega), if_neg h]; omega
theorem sg_b (n : Nat) : sg (n * 2) 13 = sg n 12 * 2 := by
  unfold sg
  simp only [Nat.reducePow, Nat.reduceSub]
  by_cases h : n < 2048
  · rw [if_pos (by omega), if_pos h]; omega
  · rw [if_neg (by omega), if_neg h]; omega
theorem uP_eq (w : Nat) : uP w = sg (fld w 12 20) 20 * 4096 := sg_u _
theorem jP_eq (w : Nat) : jP w = sg (((fld w 31 1 * 256 + fld w 12 8) * 2 + fld w 20 1) * 1024 + fld w 21 10) 20 * 2 := by
  unfold jP
  rw [← sg_j]
  congr 1
  omega
theorem bP_eq (w : Nat) : bP w = sg (((fld w 31 1 * 2 + fld w 7 1) * 64 + fld w 25 6) * 16 + fld w 8 4) 12 * 2 := by
  unfold bP
  rw [← sg_b]
  congr 1
  omega
theorem f3_cases (f3 : Nat) (h : f3 < 8) : f3 = 0 ∨ f3 = 1 ∨ f3 = 2 ∨ f3 = 3 ∨ f3 = 4 ∨ f3 = 5 ∨ f3 = 6 ∨ f3 = 7 := by omega
def fin4 (y : I7) : I7 × Bool := if y.1 = 0 then (i0, false) else (y, true)
theorem rdec_fin (w : Nat) : rdecP w = fin4 (rkindP w) := rfl
/-- The same fields but for the size, or both none. -/
theorem fin_same {x y : I7} (h0 : x.1 = y.1) (h : x.1 ≠ 0 → y = (x.1, x.2.1, x.2.2.1, x.2.2.2.1, x.2.2.2.2.1, x.2.2.2.2.2.1, 4)) : size4 x = fin4 y := by
  unfold size4 fin4
  by_cases c : x.1 = 0
  · rw [if_pos c, if_pos (h0 ▸ c)]
  · rw [if_neg c, if_neg (h0 ▸ c), h c]
theorem two_of (w : Nat) (x y : I7) (hx : kindP w = x) (hy : rkindP w = y) (h0 : x.1 = y.1) (h : x.1 ≠ 0 → y = (x.1, x.2.1, x.2.2.1, x.2.2.2.1, x.2.2.2.2.1, x.2.2.2.2.2.1, 4)) : decP w = rdecP w := by
  rw [rdec_fin, hy]
  unfold decP
  rw [hx]
  exact fin_same h0 h
theorem amo63 : ∀ f5 : Nat, f5 < 32 → (amoT f5 = 63 ↔ f5 = 2) := by decide
theorem atomic_op (w : Nat) : (atomicP w).1 = amoR (fld w 27 5) (fld w 20 5) (fld w 12 3) := by
  have h5 : fld w 27 5 < 32 := Nat.mod_lt _ (by decide)
  have ha := amo63 _ h5
  unfold atomicP amoR
  generalize fld w 27 5 = f5 at *
  generalize fld w 20 5 = rs2
  generalize fld w 12 3 = f3
  by_cases g : f3 = 2 ∨ f3 = 3
  · rw [if_pos g]
    by_cases a : amoT f5 = 0
    · rw [if_pos (.inl a), if_pos a]
      by_cases b : f5 = 2 ∧ rs2 ≠ 0
      · rw [if_pos b]; rfl
      · rw [if_neg b]; rfl
    · rw [if_neg a]
      by_cases b : f5 = 2 ∧ rs2 ≠ 0
      · rw [if_pos b, if_pos (.inr (.inr ⟨ha.2 b.1, b.2⟩))]; rfl
      · rw [if_neg b, if_neg]
        rintro (h | h | h)
        · exact a h
        · rcases g with g | g
          · exact h.1 g
          · exact h.2 g
        · exact b ⟨ha.1 h.1, h.2⟩
  · rw [if_neg g, if_pos (.inr (.inl ⟨fun h => g (.inl h), fun h => g (.inr h)⟩))]
    rfl
theorem atomic_some (w : Nat) (h : (atomicP w).1 ≠ 0) : atomicP w = ((atomicP w).1, 0, 0, ((fld w 20 5 : Nat) : Int), 0, ((fld w 25 2 : Nat) : Int), 0) := by
  unfold atomicP at h ⊢
  split
  · rename_i c
    rw [if_pos c] at h
    exact absurd rfl h
  · rfl
theorem dec_same (w : Nat) : decP w = rdecP w := by
  have hf3 : fld w 12 3 < 8 := Nat.mod_lt _ (by decide)
  by_cases c : fld w 0 7 = 55
  · refine two_of w ((1, (fld w 7 5 : Nat), 0, 0, uP w, 0, 0)) ((1, (fld w 7 5 : Nat), 0, 0, sg (fld w 12 20) 20 * 4096, 0, 4)) (by unfold kindP; rw [c]; rfl) (by unfold rkindP; rw [c]; rfl) rfl (fun _ => ?_)
    rw [← uP_eq]
  by_cases c : fld w 0 7 = 23
  · refine two_of w ((2, (fld w 7 5 : Nat), 0, 0, uP w, 0, 0)) ((2, (fld w 7 5 : Nat), 0, 0, sg (fld w 12 20) 20 * 4096, 0, 4)) (by unfold kindP; rw [c]; rfl) (by unfold rkindP; rw [c]; rfl) rfl (fun _ => ?_)
    rw [← uP_eq]
  by_cases c : fld w 0 7 = 111
  · refine two_of w ((3, (fld w 7 5 : Nat), 0, 0, jP w, 0, 0)) ((3, (fld w 7 5 : Nat), 0, 0, sg (((fld w 31 1 * 256 + fld w 12 8) * 2 + fld w 20 1) * 1024 + fld w 21 10) 20 * 2, 0, 4)) (by unfold kindP; rw [c]; rfl) (by unfold rkindP; rw [c]; rfl) rfl (fun _ => ?_)
    rw [← jP_eq]
  by_cases c : fld w 0 7 = 99
  · refine two_of w ((brT (fld w 12 3), 0, (fld w 15 5 : Nat), (fld w 20 5 : Nat), bP w, 0, 0)) ((oneP [5, 6, 0, 0, 7, 8, 9, 10] (fld w 12 3), 0, (fld w 15 5 : Nat), (fld w 20 5 : Nat), sg (((fld w 31 1 * 2 + fld w 7 1) * 64 + fld w 25 6) * 16 + fld w 8 4) 12 * 2, 0, 4)) (by unfold kindP; rw [c]; rfl) (by unfold rkindP; rw [c]; rfl) rfl (fun _ => ?_)
    rw [← bP_eq]
    rfl
  by_cases c : fld w 0 7 = 35
  · have e : stT (fld w 12 3) = oneP [18, 19, 20, 21] (fld w 12 3) := by
      rcases f3_cases _ hf3 with e | e | e | e | e | e | e | e <;> rw [e] <;> rfl
    refine two_of w ((stT (fld w 12 3), 0, (fld w 15 5 : Nat), (fld w 20 5 : Nat), sP w, 0, 0)) ((oneP [18, 19, 20, 21] (fld w 12 3), 0, (fld w 15 5 : Nat), (fld w 20 5 : Nat), sg (fld w 25 7 * 32 + fld w 7 5) 12, 0, 4)) (by unfold kindP; rw [c]; rfl) (by unfold rkindP; rw [c]; rfl) e (fun _ => ?_)
    show (oneP [18, 19, 20, 21] (fld w 12 3), _) = (stT (fld w 12 3), _)
    rw [e]
    rfl
  by_cases c : fld w 0 7 = 3
  · have e : ldT (fld w 12 3) = oneP [11, 12, 13, 14, 15, 16, 17] (fld w 12 3) := by
      rcases f3_cases _ hf3 with e | e | e | e | e | e | e | e <;> rw [e] <;> rfl
    refine two_of w (regsP w (ldT (fld w 12 3), 0, 0, 0, iP w, 0, 0)) ((oneP [11, 12, 13, 14, 15, 16, 17] (fld w 12 3), (fld w 7 5 : Nat), (fld w 15 5 : Nat), 0, iP w, 0, 4)) (by unfold kindP withImmP; rw [c]; rfl) (by unfold rkindP; rw [c]; rfl) e (fun _ => ?_)
    show (oneP [11, 12, 13, 14, 15, 16, 17] (fld w 12 3), _) = (ldT (fld w 12 3), _)
    rw [e]
    rfl
  by_cases c : fld w 0 7 = 103
  · by_cases g : fld w 12 3 = 0
    · refine two_of w (regsP w (4, 0, 0, 0, iP w, 0, 0)) (4, (fld w 7 5 : Nat), (fld w 15 5 : Nat), 0, iP w, 0, 4) (by unfold kindP withImmP; rw [c, g]; rfl) (by unfold rkindP; rw [c, g]; rfl) rfl (fun _ => rfl)
    · have e : oneP [4] (fld w 12 3) = 0 := by
        rcases f3_cases _ hf3 with e | e | e | e | e | e | e | e
        · exact absurd e g
        all_goals (rw [e]; rfl)
      refine two_of w (regsP w i0) (oneP [4] (fld w 12 3), (fld w 7 5 : Nat), (fld w 15 5 : Nat), 0, iP w, 0, 4) (by unfold kindP withImmP; rw [c]; show regsP w (if fld w 12 3 = 0 then _ else i0) = _; rw [if_neg g]) (by unfold rkindP; rw [c]; rfl) (by show (0 : Int) = oneP [4] (fld w 12 3); rw [e]) (fun h => absurd rfl h)
  by_cases c : fld w 0 7 = 51
  · have e : regT (fld w 25 7) (fld w 12 3) = (if fld w 25 7 = 0 then oneP [31, 33, 34, 35, 36, 37, 39, 40] (fld w 12 3) else if fld w 25 7 = 32 then oneP [32, 0, 0, 0, 0, 38] (fld w 12 3) else if fld w 25 7 = 1 then oneP [50, 51, 52, 53, 54, 55, 56, 57] (fld w 12 3) else 0) := by
      unfold regT
      by_cases a : fld w 25 7 = 0
      · rw [if_pos a, if_pos a]; rfl
      rw [if_neg a, if_neg a]
      by_cases b : fld w 25 7 = 1
      · rw [if_pos b, if_neg (by omega), if_pos b]; rfl
      rw [if_neg b]
      by_cases d : fld w 25 7 = 32
      · rw [d]
        rcases f3_cases _ hf3 with e | e | e | e | e | e | e | e <;> rw [e] <;> rfl
      · rw [if_neg (by omega), if_neg (by omega), if_neg d, if_neg b]
    refine two_of w ((regT (fld w 25 7) (fld w 12 3), (fld w 7 5 : Nat), (fld w 15 5 : Nat), (fld w 20 5 : Nat), 0, 0, 0)) ((if fld w 25 7 = 0 then oneP [31, 33, 34, 35, 36, 37, 39, 40] (fld w 12 3) else if fld w 25 7 = 32 then oneP [32, 0, 0, 0, 0, 38] (fld w 12 3) else if fld w 25 7 = 1 then oneP [50, 51, 52, 53, 54, 55, 56, 57] (fld w 12 3) else 0, (fld w 7 5 : Nat), (fld w 15 5 : Nat), (fld w 20 5 : Nat), 0, 0, 4)) (by unfold kindP; rw [c]; rfl) (by unfold rkindP; rw [c]; rfl) e (fun _ => ?_)
    rw [← e]
  by_cases c : fld w 0 7 = 59
  · have e : r32T (fld w 25 7) (fld w 12 3) = (if fld w 25 7 = 0 then oneP [45, 47, 0, 0, 0, 48] (fld w 12 3) else if fld w 25 7 = 32 then oneP [46, 0, 0, 0, 0, 49] (fld w 12 3) else if fld w 25 7 = 1 then oneP [58, 0, 0, 0, 59, 60, 61, 62] (fld w 12 3) else 0) := by
      unfold r32T
      rcases f3_cases _ hf3 with e | e | e | e | e | e | e | e <;> rw [e] <;> rfl
    refine two_of w ((r32T (fld w 25 7) (fld w 12 3), (fld w 7 5 : Nat), (fld w 15 5 : Nat), (fld w 20 5 : Nat), 0, 0, 0)) ((if fld w 25 7 = 0 then oneP [45, 47, 0, 0, 0, 48] (fld w 12 3) else if fld w 25 7 = 32 then oneP [46, 0, 0, 0, 0, 49] (fld w 12 3) else if fld w 25 7 = 1 then oneP [58, 0, 0, 0, 59, 60, 61, 62] (fld w 12 3) else 0, (fld w 7 5 : Nat), (fld w 15 5 : Nat), (fld w 20 5 : Nat), 0, 0, 4)) (by unfold kindP; rw [c]; rfl) (by unfold rkindP; rw [c]; rfl) e (fun _ => ?_)
    rw [← e]
  by_cases c : fld w 0 7 = 15
  · have n1 : w ≠ 115 := by intro e; rw [e] at c; exact absurd c (by decide)
    have n2 : w ≠ 1048691 := by intro e; rw [e] at c; exact absurd c (by decide)
    have hx : kindP w = (if fld w 12 3 = 0 then (85, 0, 0, 0, 0, 0, 0) else if fld w 12 3 = 1 then (86, 0, 0, 0, 0, 0, 0) else i0) := by
      unfold kindP otherP
      rw [c, if_neg n1, if_neg n2]
      rcases f3_cases _ hf3 with e | e | e | e | e | e | e | e <;> rw [e] <;> rfl
    refine two_of w _ (oneP [85, 86] (fld w 12 3), 0, 0, 0, 0, 0, 4) hx (by unfold rkindP; rw [c]; rfl) ?_ ?_
    · rcases f3_cases _ hf3 with e | e | e | e | e | e | e | e <;> rw [e] <;> rfl
    · rcases f3_cases _ hf3 with e | e | e | e | e | e | e | e <;> rw [e] <;> intro h <;> first | rfl | exact absurd rfl h
  by_cases c : fld w 0 7 = 115
  · have hx : kindP w = (if w = 115 then (87, 0, 0, 0, 0, 0, 0) else if w = 1048691 then (88, 0, 0, 0, 0, 0, 0) else i0) := by
      unfold kindP otherP
      rw [c]
      rfl
    refine two_of w _ (if w = 1048691 then 88 else if w = 115 then 87 else 0, 0, 0, 0, 0, 0, 4) hx (by unfold rkindP; rw [c]; rfl) ?_ ?_
    · by_cases a : w = 115
      · rw [if_pos a, if_neg (by omega), if_pos a]
      · rw [if_neg a]
        by_cases b : w = 1048691
        · rw [if_pos b, if_pos b]
        · rw [if_neg b, if_neg b, if_neg a]; rfl
    · by_cases a : w = 115
      · intro _; rw [if_pos a, if_neg (by omega), if_pos a]
      · rw [if_neg a]
        by_cases b : w = 1048691
        · intro _; rw [if_pos b, if_pos b]
        · intro h; rw [if_neg b] at h; exact absurd rfl h
  by_cases c : fld w 0 7 = 47
  · refine two_of w (regsP w (atomicP w)) (amoR (fld w 27 5) (fld w 20 5) (fld w 12 3), (fld w 7 5 : Nat), (fld w 15 5 : Nat), (fld w 20 5 : Nat), 0, (fld w 25 2 : Nat), 4) (by unfold kindP; rw [c]; rfl) (by unfold rkindP; rw [c]; rfl) ?_ ?_
    · show (atomicP w).1 = amoR (fld w 27 5) (fld w 20 5) (fld w 12 3)
      exact atomic_op w
    · intro h
      have h : (atomicP w).1 ≠ 0 := h
      rw [← atomic_op w]
      have g := atomic_some w h
      rw [g]
      rfl
  by_cases c : fld w 0 7 = 19
  · have hx : kindP w = regsP w (if fld w 12 3 = 1 ∨ fld w 12 3 = 5 then shiftP w 28 29 30 6 else (piT (fld w 12 3), 0, 0, 0, iP w, 0, 0)) := by unfold kindP withImmP; rw [c]; rfl
    have hy : rkindP w = rimmP w := by unfold rkindP; rw [c]; rfl
    have sh : shiftP w 28 29 30 6 = (if fld w 12 3 = 1 ∧ fld w 26 6 = 0 then ((28, 0, 0, 0, ((fld w 20 6 : Nat) : Int), 0, 0) : I7) else if fld w 12 3 = 5 ∧ fld w 26 6 = 0 then ((29, 0, 0, 0, ((fld w 20 6 : Nat) : Int), 0, 0) : I7) else if fld w 12 3 = 5 ∧ fld w 26 6 = 16 then ((30, 0, 0, 0, ((fld w 20 6 : Nat) : Int), 0, 0) : I7) else i0) := rfl
    unfold rimmP at hy
    rw [c, if_pos rfl] at hy
    rw [sh] at hx
    generalize fld w 26 6 = u at *
    by_cases g : fld w 12 3 = 1 ∨ fld w 12 3 = 5
    · rw [if_pos g] at hx hy
      rcases g with g | g
      · rw [g] at hx hy
        by_cases z : u = 0
        · (rw [if_pos ⟨rfl, z⟩] at hx; rw [if_pos ⟨rfl, z⟩] at hy; exact two_of w _ _ hx hy rfl (fun _ => rfl))
        · (rw [if_neg (fun h => z h.2), if_neg (fun h => absurd h.1 (by decide)), if_neg (fun h => absurd h.1 (by decide))] at hx; rw [if_neg (fun h => z h.2), if_neg (fun h => absurd h.1 (by decide)), if_neg (fun h => absurd h.1 (by decide))] at hy; exact two_of w _ _ hx hy rfl (fun h => absurd rfl h))
      · rw [g] at hx hy
        by_cases z : u = 0
        · (rw [if_neg (fun h => absurd h.1 (by decide)), if_pos ⟨rfl, z⟩] at hx; rw [if_neg (fun h => absurd h.1 (by decide)), if_pos ⟨rfl, z⟩] at hy; exact two_of w _ _ hx hy rfl (fun _ => rfl))
        · by_cases y : u = 16
          · (rw [if_neg (fun h => absurd h.1 (by decide)), if_neg (fun h => z h.2), if_pos ⟨rfl, y⟩] at hx; rw [if_neg (fun h => absurd h.1 (by decide)), if_neg (fun h => z h.2), if_pos ⟨rfl, y⟩] at hy; exact two_of w _ _ hx hy rfl (fun _ => rfl))
          · (rw [if_neg (fun h => absurd h.1 (by decide)), if_neg (fun h => z h.2), if_neg (fun h => y h.2)] at hx; rw [if_neg (fun h => absurd h.1 (by decide)), if_neg (fun h => z h.2), if_neg (fun h => y h.2)] at hy; exact two_of w _ _ hx hy rfl (fun h => absurd rfl h))
    · rw [if_neg g] at hx hy
      exact two_of w _ _ hx hy rfl (fun _ => rfl)
  by_cases c : fld w 0 7 = 27
  · have hx : kindP w = regsP w (if fld w 12 3 = 0 then (41, 0, 0, 0, iP w, 0, 0) else shiftP w 42 43 44 5) := by unfold kindP withImmP; rw [c]; rfl
    have hy : rkindP w = rimmP w := by unfold rkindP; rw [c]; rfl
    have sh : shiftP w 42 43 44 5 = (if fld w 12 3 = 1 ∧ fld w 25 7 = 0 then ((42, 0, 0, 0, ((fld w 20 5 : Nat) : Int), 0, 0) : I7) else if fld w 12 3 = 5 ∧ fld w 25 7 = 0 then ((43, 0, 0, 0, ((fld w 20 5 : Nat) : Int), 0, 0) : I7) else if fld w 12 3 = 5 ∧ fld w 25 7 = 32 then ((44, 0, 0, 0, ((fld w 20 5 : Nat) : Int), 0, 0) : I7) else i0) := rfl
    unfold rimmP at hy
    rw [c, if_neg (by decide)] at hy
    rw [sh] at hx
    generalize fld w 25 7 = u at *
    rcases f3_cases _ hf3 with g | g | g | g | g | g | g | g
    · rw [g] at hx hy
      exact two_of w _ _ hx hy rfl (fun _ => rfl)
    · rw [g] at hx hy
      by_cases z : u = 0
      · (rw [if_neg (by decide), if_pos ⟨rfl, z⟩] at hx; rw [if_pos (.inl rfl), if_pos ⟨rfl, z⟩] at hy; exact two_of w _ _ hx hy rfl (fun _ => rfl))
      · (rw [if_neg (by decide), if_neg (fun h => z h.2), if_neg (fun h => absurd h.1 (by decide)), if_neg (fun h => absurd h.1 (by decide))] at hx; rw [if_pos (.inl rfl), if_neg (fun h => z h.2), if_neg (fun h => absurd h.1 (by decide)), if_neg (fun h => absurd h.1 (by decide))] at hy; exact two_of w _ _ hx hy rfl (fun h => absurd rfl h))
    · rw [g] at hx hy
      rw [if_neg (by decide), if_neg (fun h => absurd h.1 (by decide)), if_neg (fun h => absurd h.1 (by decide)), if_neg (fun h => absurd h.1 (by decide))] at hx
      exact two_of w _ _ hx hy rfl (fun h => absurd rfl h)
    · rw [g] at hx hy
      rw [if_neg (by decide), if_neg (fun h => absurd h.1 (by decide)), if_neg (fun h => absurd h.1 (by decide)), if_neg (fun h => absurd h.1 (by decide))] at hx
      exact two_of w _ _ hx hy rfl (fun h => absurd rfl h)
    · rw [g] at hx hy
      rw [if_neg (by decide), if_neg (fun h => absurd h.1 (by decide)), if_neg (fun h => absurd h.1 (by decide)), if_neg (fun h => absurd h.1 (by decide))] at hx
      exact two_of w _ _ hx hy rfl (fun h => absurd rfl h)
    · rw [g] at hx hy
      by_cases z : u = 0
      · (rw [if_neg (by decide), if_neg (fun h => absurd h.1 (by decide)), if_pos ⟨rfl, z⟩] at hx; rw [if_pos (.inr rfl), if_neg (fun h => absurd h.1 (by decide)), if_pos ⟨rfl, z⟩] at hy; exact two_of w _ _ hx hy rfl (fun _ => rfl))
      · by_cases y : u = 32
        · (rw [if_neg (by decide), if_neg (fun h => absurd h.1 (by decide)), if_neg (fun h => z h.2), if_pos ⟨rfl, y⟩] at hx; rw [if_pos (.inr rfl), if_neg (fun h => absurd h.1 (by decide)), if_neg (fun h => z h.2), if_pos ⟨rfl, y⟩] at hy; exact two_of w _ _ hx hy rfl (fun _ => rfl))
        · (rw [if_neg (by decide), if_neg (fun h => absurd h.1 (by decide)), if_neg (fun h => z h.2), if_neg (fun h => y h.2)] at hx; rw [if_pos (.inr rfl), if_neg (fun h => absurd h.1 (by decide)), if_neg (fun h => z h.2), if_neg (fun h => y h.2)] at hy; exact two_of w _ _ hx hy rfl (fun h => absurd rfl h))
    · rw [g] at hx hy
      rw [if_neg (by decide), if_neg (fun h => absurd h.1 (by decide)), if_neg (fun h => absurd h.1 (by decide)), if_neg (fun h => absurd h.1 (by decide))] at hx
      exact two_of w _ _ hx hy rfl (fun h => absurd rfl h)
    · rw [g] at hx hy
      rw [if_neg (by decide), if_neg (fun h => absurd h.1 (by decide)), if_neg (fun h => absurd h.1 (by decide)), if_neg (fun h => absurd h.1 (by decide))] at hx
      exact two_of w _ _ hx hy rfl (fun h => absurd rfl h)
  · have hx : kindP w = regsP w i0 := by
      unfold kindP withImmP
      rw [if_neg (by assumption), if_neg (by assumption), if_neg (by assumption), if_neg (by assumption), if_neg (by assumption), if_neg (by assumption), if_neg (by assumption), if_neg (by assumption), if_neg (fun h => by rcases h with h | h <;> contradiction), if_neg (by assumption), if_neg (by assumption), if_neg (by assumption), if_neg (by assumption)]
    have hy : rkindP w = (0, 0, 0, 0, 0, 0, 4) := by
      unfold rkindP
      rw [if_neg (by assumption), if_neg (by assumption), if_neg (by assumption), if_neg (by assumption), if_neg (by assumption), if_neg (by assumption), if_neg (by assumption), if_neg (fun h => by rcases h with h | h <;> contradiction), if_neg (by assumption), if_neg (by assumption), if_neg (by assumption), if_neg (by assumption), if_neg (by assumption)]
    exact two_of w _ _ hx hy rfl (fun h => absurd rfl h)
end Go.Proofs.Ytgefhoikpjiamaa.Ins
