/- Short instructions in plain Lean: what the program answers and what the document answers are the same for each of the 65536 words. -/
import Derived.KernelRfl
namespace Go.Proofs.Ytgefhoikpjiamaa.Cmp
abbrev I7 := Int × Int × Int × Int × Int × Int × Int
def i0 : I7 := (0, 0, 0, 0, 0, 0, 0)
/-- Bits of a word: n of them from a on, laid at t. -/
def bv (h a n t : Nat) : Nat := h / 2 ^ a % 2 ^ n * 2 ^ t
/-- A number of w bits with a sign. -/
def sg (n w : Nat) : Int := if n < 2 ^ (w - 1) then (n : Int) else (n : Int) - (2 ^ w : Nat)
def regP (h f : Nat) : Nat := bv h f 3 0 ||| 8
def wordsP (h : Nat) : Nat := bv h 5 1 6 ||| bv h 10 3 3 ||| bv h 6 1 2
def doublesP (h : Nat) : Nat := bv h 5 2 6 ||| bv h 10 3 3
def sixP (h : Nat) : Nat := bv h 12 1 5 ||| bv h 2 5 0
def shortP (h : Nat) : Int := sg (sixP h) 6
def jumpP (h : Nat) : Int := sg (bv h 12 1 11 ||| bv h 8 1 10 ||| bv h 9 2 8 ||| bv h 6 1 7 ||| bv h 7 1 6 ||| bv h 2 1 5 ||| bv h 11 1 4 ||| bv h 3 3 1) 12
def branchP (h : Nat) : Int := sg (bv h 12 1 8 ||| bv h 5 2 6 ||| bv h 2 1 5 ||| bv h 10 2 3 ||| bv h 3 2 1) 9
def wideP (h : Nat) : Nat := bv h 7 4 6 ||| bv h 11 2 4 ||| bv h 5 1 3 ||| bv h 6 1 2
def firstP (h : Nat) : I7 :=
  if bv h 13 3 0 = 0 then (if 0 < wideP h then (22, (regP h 2 : Nat), 2, 0, (wideP h : Nat), 0, 0) else i0)
  else if bv h 13 3 0 = 2 then (13, (regP h 2 : Nat), (regP h 7 : Nat), 0, (wordsP h : Nat), 0, 0)
  else if bv h 13 3 0 = 3 then (14, (regP h 2 : Nat), (regP h 7 : Nat), 0, (doublesP h : Nat), 0, 0)
  else if bv h 13 3 0 = 6 then (20, 0, (regP h 7 : Nat), (regP h 2 : Nat), (wordsP h : Nat), 0, 0)
  else if bv h 13 3 0 = 7 then (21, 0, (regP h 7 : Nat), (regP h 2 : Nat), (doublesP h : Nat), 0, 0)
  else i0
def spP (h : Nat) : Int := sg (bv h 12 1 9 ||| bv h 3 2 7 ||| bv h 5 1 6 ||| bv h 2 1 5 ||| bv h 6 1 4) 10
def luiP (h : Nat) : I7 :=
  if bv h 7 5 0 = 2 then (if spP h = 0 then i0 else (22, 2, 2, 0, spP h, 0, 0))
  else (if shortP h * 4096 = 0 then i0 else (1, (bv h 7 5 0 : Nat), 0, 0, shortP h * 4096, 0, 0))
def opT (k : Nat) : Int := [32, 36, 39, 40, 46, 45, 0, 0].getD k 0
def reckonP (h : Nat) : I7 :=
  if bv h 10 2 0 = 0 then (29, (regP h 7 : Nat), (regP h 7 : Nat), 0, (sixP h : Nat), 0, 0)
  else if bv h 10 2 0 = 1 then (30, (regP h 7 : Nat), (regP h 7 : Nat), 0, (sixP h : Nat), 0, 0)
  else if bv h 10 2 0 = 2 then (27, (regP h 7 : Nat), (regP h 7 : Nat), 0, shortP h, 0, 0)
  else if opT (bv h 12 1 2 ||| bv h 5 2 0) = 0 then i0
  else (opT (bv h 12 1 2 ||| bv h 5 2 0), (regP h 7 : Nat), (regP h 7 : Nat), (regP h 2 : Nat), 0, 0, 0)
def secondP (h : Nat) : I7 :=
  if bv h 13 3 0 = 0 then (22, (bv h 7 5 0 : Nat), (bv h 7 5 0 : Nat), 0, shortP h, 0, 0)
  else if bv h 13 3 0 = 1 then (if 0 < bv h 7 5 0 then (41, (bv h 7 5 0 : Nat), (bv h 7 5 0 : Nat), 0, shortP h, 0, 0) else i0)
  else if bv h 13 3 0 = 2 then (22, (bv h 7 5 0 : Nat), 0, 0, shortP h, 0, 0)
  else if bv h 13 3 0 = 3 then luiP h
  else if bv h 13 3 0 = 4 then reckonP h
  else if bv h 13 3 0 = 5 then (3, 0, 0, 0, jumpP h, 0, 0)
  else if bv h 13 3 0 = 6 then (5, 0, (regP h 7 : Nat), 0, branchP h, 0, 0)
  else (6, 0, (regP h 7 : Nat), 0, branchP h, 0, 0)
def movesP (h : Nat) : I7 :=
  if 0 < bv h 2 5 0 then (31, (bv h 7 5 0 : Nat), (bv h 7 5 0 * bv h 12 1 0 : Nat), (bv h 2 5 0 : Nat), 0, 0, 0)
  else if 0 < bv h 7 5 0 then (4, (bv h 12 1 0 : Nat), (bv h 7 5 0 : Nat), 0, 0, 0, 0)
  else if 0 < bv h 12 1 0 then (88, 0, 0, 0, 0, 0, 0)
  else i0
def lwspP (h : Nat) : Nat := bv h 2 2 6 ||| bv h 12 1 5 ||| bv h 4 3 2
def ldspP (h : Nat) : Nat := bv h 2 3 6 ||| bv h 12 1 5 ||| bv h 5 2 3
def swspP (h : Nat) : Nat := bv h 7 2 6 ||| bv h 9 4 2
def sdspP (h : Nat) : Nat := bv h 7 3 6 ||| bv h 10 3 3
def thirdP (h : Nat) : I7 :=
  if bv h 13 3 0 = 0 then (28, (bv h 7 5 0 : Nat), (bv h 7 5 0 : Nat), 0, (sixP h : Nat), 0, 0)
  else if bv h 13 3 0 = 2 then (if 0 < bv h 7 5 0 then (13, (bv h 7 5 0 : Nat), 2, 0, (lwspP h : Nat), 0, 0) else i0)
  else if bv h 13 3 0 = 3 then (if 0 < bv h 7 5 0 then (14, (bv h 7 5 0 : Nat), 2, 0, (ldspP h : Nat), 0, 0) else i0)
  else if bv h 13 3 0 = 4 then movesP h
  else if bv h 13 3 0 = 6 then (20, 0, 2, (bv h 2 5 0 : Nat), (swspP h : Nat), 0, 0)
  else if bv h 13 3 0 = 7 then (21, 0, 2, (bv h 2 5 0 : Nat), (sdspP h : Nat), 0, 0)
  else i0
def size2 (i : I7) : I7 × Bool := if i.1 = 0 then (i0, false) else ((i.1, i.2.1, i.2.2.1, i.2.2.2.1, i.2.2.2.2.1, i.2.2.2.2.2.1, 2), true)
def quarterP (h : Nat) : I7 := if h % 4 = 0 then firstP h else if h % 4 = 1 then secondP h else if h % 4 = 2 then thirdP h else i0
def expandP (h : Nat) : I7 × Bool := size2 (quarterP h)
/-! The document's. -/
def fN (h hi lo : Nat) : Nat := h / 2 ^ lo % 2 ^ (hi + 1 - lo)
def pc (h : Nat) : List (Nat × Nat) → Nat → Nat
  | [], n => n
  | p :: r, n => pc h r (n * 2 ^ (p.1 + 1 - p.2) + fN h p.1 p.2)
def rsix (h : Nat) : Nat := pc h [(12, 12), (6, 2)] 0
def rshort (h : Nat) : Int := sg (rsix h) 6
def rwords (h : Nat) : Nat := pc h [(5, 5), (12, 10), (6, 6)] 0 * 4
def rdoubles (h : Nat) : Nat := pc h [(6, 5), (12, 10)] 0 * 8
def rbranch (h : Nat) : Int := sg (pc h [(12, 12), (6, 5), (2, 2), (11, 10), (4, 3)] 0 * 2) 9
def rwide (h : Nat) : Nat := pc h [(10, 7), (12, 11), (5, 5), (6, 6)] 0 * 4
def rsp (h : Nat) : Int := sg (pc h [(12, 12), (4, 3), (5, 5), (2, 2), (6, 6)] 0 * 16) 10
def rjump (h : Nat) : Int := sg (pc h [(12, 12), (8, 8), (10, 9), (6, 6), (7, 7), (2, 2), (11, 11), (5, 3)] 0 * 2) 12
def opR (k : Nat) : Int := [32, 36, 39, 40, 46, 45].getD k 0
def reight (h : Nat) : I7 :=
  if fN h 11 10 = 0 then (29, (fN h 9 7 + 8 : Nat), (fN h 9 7 + 8 : Nat), 0, (rsix h : Nat), 0, 0)
  else if fN h 11 10 = 1 then (30, (fN h 9 7 + 8 : Nat), (fN h 9 7 + 8 : Nat), 0, (rsix h : Nat), 0, 0)
  else if fN h 11 10 = 2 then (27, (fN h 9 7 + 8 : Nat), (fN h 9 7 + 8 : Nat), 0, rshort h, 0, 0)
  else if opR (fN h 12 12 * 4 + fN h 6 5) = 0 then i0
  else (opR (fN h 12 12 * 4 + fN h 6 5), (fN h 9 7 + 8 : Nat), (fN h 9 7 + 8 : Nat), (fN h 4 2 + 8 : Nat), 0, 0, 0)
def rmoves (up rd rs2 : Nat) : I7 :=
  if up = 0 then (if rs2 = 0 then (if rd = 0 then i0 else (4, 0, (rd : Nat), 0, 0, 0, 0)) else (31, (rd : Nat), 0, (rs2 : Nat), 0, 0, 0))
  else (if rs2 = 0 then (if rd = 0 then (88, 0, 0, 0, 0, 0, 0) else (4, 1, (rd : Nat), 0, 0, 0, 0)) else (31, (rd : Nat), (rd : Nat), (rs2 : Nat), 0, 0, 0))
/-- What the switch of the document's Expand leaves in i, but for a size that is none's. -/
def rcase (h : Nat) (k : Nat) : I7 :=
  match k with
  | 0 => if 0 < rwide h then (22, (fN h 4 2 + 8 : Nat), 2, 0, (rwide h : Nat), 0, 0) else i0
  | 2 => (13, (fN h 4 2 + 8 : Nat), (fN h 9 7 + 8 : Nat), 0, (rwords h : Nat), 0, 0)
  | 3 => (14, (fN h 4 2 + 8 : Nat), (fN h 9 7 + 8 : Nat), 0, (rdoubles h : Nat), 0, 0)
  | 6 => (20, 0, (fN h 9 7 + 8 : Nat), (fN h 4 2 + 8 : Nat), (rwords h : Nat), 0, 0)
  | 7 => (21, 0, (fN h 9 7 + 8 : Nat), (fN h 4 2 + 8 : Nat), (rdoubles h : Nat), 0, 0)
  | 8 => (22, (fN h 11 7 : Nat), (fN h 11 7 : Nat), 0, rshort h, 0, 0)
  | 9 => if 0 < fN h 11 7 then (41, (fN h 11 7 : Nat), (fN h 11 7 : Nat), 0, rshort h, 0, 0) else i0
  | 10 => (22, (fN h 11 7 : Nat), 0, 0, rshort h, 0, 0)
  | 11 => if fN h 11 7 = 2 then (if rsp h = 0 then i0 else (22, 2, 2, 0, rsp h, 0, 0)) else (if rshort h = 0 then i0 else (1, (fN h 11 7 : Nat), 0, 0, rshort h * 4096, 0, 0))
  | 12 => reight h
  | 13 => (3, 0, 0, 0, rjump h, 0, 0)
  | 14 => (5, 0, (fN h 9 7 + 8 : Nat), 0, rbranch h, 0, 0)
  | 15 => (6, 0, (fN h 9 7 + 8 : Nat), 0, rbranch h, 0, 0)
  | 16 => (28, (fN h 11 7 : Nat), (fN h 11 7 : Nat), 0, (rsix h : Nat), 0, 0)
  | 18 => if 0 < fN h 11 7 then (13, (fN h 11 7 : Nat), 2, 0, (pc h [(3, 2), (12, 12), (6, 4)] 0 * 4 : Nat), 0, 0) else i0
  | 19 => if 0 < fN h 11 7 then (14, (fN h 11 7 : Nat), 2, 0, (pc h [(4, 2), (12, 12), (6, 5)] 0 * 8 : Nat), 0, 0) else i0
  | 20 => rmoves (fN h 12 12) (fN h 11 7) (fN h 6 2)
  | 22 => (20, 0, 2, (fN h 6 2 : Nat), (pc h [(8, 7), (12, 9)] 0 * 4 : Nat), 0, 0)
  | 23 => (21, 0, 2, (fN h 6 2 : Nat), (pc h [(9, 7), (12, 10)] 0 * 8 : Nat), 0, 0)
  | _ => i0
def rexpandP (h : Nat) : I7 × Bool := size2 (rcase h (fN h 1 0 * 8 + fN h 15 13))
/-! All of them. -/
def allB (f : Nat → Bool) : Nat → Nat → Bool
  | 0, s => f s
  | d + 1, s => allB f d s && allB f d (s + 2 ^ d)
theorem allB_at (f : Nat → Bool) (d : Nat) : ∀ s k, allB f d s = true → s ≤ k → k < s + 2 ^ d → f k = true := by
  induction d with
  | zero =>
    intro s k h h1 h2
    have : k = s := by simp at h2; omega
    rw [this]
    exact h
  | succ d ih =>
    intro s k h h1 h2
    have h : (allB f d s && allB f d (s + 2 ^ d)) = true := h
    rw [Bool.and_eq_true] at h
    have e : 2 ^ (d + 1) = 2 ^ d + 2 ^ d := by rw [Nat.pow_succ]; omega
    by_cases hk : k < s + 2 ^ d
    · exact ih s k h.1 h1 hk
    · exact ih (s + 2 ^ d) k h.2 (by omega) (by omega)
def eqI (a b : I7) : Bool := decide (a.1 = b.1) && (decide (a.2.1 = b.2.1) && (decide (a.2.2.1 = b.2.2.1) && (decide (a.2.2.2.1 = b.2.2.2.1) && (decide (a.2.2.2.2.1 = b.2.2.2.2.1) && (decide (a.2.2.2.2.2.1 = b.2.2.2.2.2.1) && decide (a.2.2.2.2.2.2 = b.2.2.2.2.2.2))))))
theorem eqI_eq {a b : I7} (h : eqI a b = true) : a = b := by
  obtain ⟨a1, a2, a3, a4, a5, a6, a7⟩ := a
  obtain ⟨b1, b2, b3, b4, b5, b6, b7⟩ := b
  simp only [eqI, Bool.and_eq_true, decide_eq_true_eq] at h
  obtain ⟨rfl, rfl, rfl, rfl, rfl, rfl, rfl⟩ := h
  rfl
theorem eqI_self (a : I7) : eqI a a = true := by simp [eqI]
def sameB (h : Nat) : Bool := eqI (expandP h).1 (rexpandP h).1 && ((expandP h).2 == (rexpandP h).2)
end Go.Proofs.Ytgefhoikpjiamaa.Cmp
