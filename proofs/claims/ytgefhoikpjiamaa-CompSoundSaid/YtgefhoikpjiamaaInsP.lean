/- Instructions of 32 bits in plain Lean: which instruction a word is, by the program and by the document; the two are the same for every word. -/
import Derived.KernelRfl
namespace Go.Proofs.Ytgefhoikpjiamaa.Ins
abbrev I7 := Int × Int × Int × Int × Int × Int × Int
def i0 : I7 := (0, 0, 0, 0, 0, 0, 0)
/-- Bits of a word: n of them from a on. -/
def fld (w a n : Nat) : Nat := w / 2 ^ a % 2 ^ n
/-- A number of w bits with a sign. -/
def sg (n w : Nat) : Int := if n < 2 ^ (w - 1) then (n : Int) else (n : Int) - (2 ^ w : Nat)
def iP (w : Nat) : Int := sg (fld w 20 12) 12
def sP (w : Nat) : Int := sg (fld w 25 7 * 32 + fld w 7 5) 12
def bP (w : Nat) : Int := sg (fld w 31 1 * 4096 + fld w 7 1 * 2048 + fld w 25 6 * 32 + fld w 8 4 * 2) 13
def uP (w : Nat) : Int := sg (fld w 12 20 * 4096) 32
def jP (w : Nat) : Int := sg (fld w 31 1 * 1048576 + fld w 12 8 * 4096 + fld w 20 1 * 2048 + fld w 21 10 * 2) 21
def brT (f3 : Nat) : Int := [5, 6, 0, 0, 7, 8, 9, 10].getD f3 0
def ldT (f3 : Nat) : Int := [11, 12, 13, 14, 15, 16, 17, 0].getD f3 0
def stT (f3 : Nat) : Int := [18, 19, 20, 21, 0, 0, 0, 0].getD f3 0
def piT (f3 : Nat) : Int := [22, 0, 23, 24, 25, 0, 26, 27].getD f3 0
def prT (f3 : Nat) : Int := [31, 33, 34, 35, 36, 37, 39, 40].getD f3 0
def mrT (f3 : Nat) : Int := [50, 51, 52, 53, 54, 55, 56, 57].getD f3 0
def regT (f7 f3 : Nat) : Int := if f7 = 0 then prT f3 else if f7 = 1 then mrT f3 else if f7 = 32 ∧ f3 = 0 then 32 else if f7 = 32 ∧ f3 = 5 then 38 else 0
def r32T (f7 f3 : Nat) : Int := if f7 = 0 then [45, 47, 0, 0, 0, 48, 0, 0].getD f3 0 else if f7 = 32 then [46, 0, 0, 0, 0, 49, 0, 0].getD f3 0 else if f7 = 1 then [58, 0, 0, 0, 59, 60, 61, 62].getD f3 0 else 0
def amoT (f5 : Nat) : Int := if f5 = 2 then 63 else if f5 = 3 then 64 else if f5 = 1 then 65 else if f5 = 0 then 66 else if f5 = 4 then 67 else if f5 = 12 then 68 else if f5 = 8 then 69 else if f5 = 16 then 70 else if f5 = 20 then 71 else if f5 = 24 then 72 else if f5 = 28 then 73 else 0
def atomicP (w : Nat) : I7 :=
  if amoT (fld w 27 5) = 0 ∨ (fld w 12 3 ≠ 2 ∧ fld w 12 3 ≠ 3) ∨ (amoT (fld w 27 5) = 63 ∧ fld w 20 5 ≠ 0) then i0
  else (amoT (fld w 27 5) + (if fld w 12 3 = 3 then 11 else 0), 0, 0, (fld w 20 5 : Nat), 0, (fld w 25 2 : Nat), 0)
def shiftP (w : Nat) (l r s : Int) (k : Nat) : I7 :=
  if fld w 12 3 = 1 ∧ fld w (20 + k) (12 - k) = 0 then (l, 0, 0, 0, (fld w 20 k : Nat), 0, 0)
  else if fld w 12 3 = 5 ∧ fld w (20 + k) (12 - k) = 0 then (r, 0, 0, 0, (fld w 20 k : Nat), 0, 0)
  else if fld w 12 3 = 5 ∧ fld w (20 + k) (12 - k) = 2 ^ (10 - k) then (s, 0, 0, 0, (fld w 20 k : Nat), 0, 0)
  else i0
def withImmP (w : Nat) : I7 :=
  if fld w 0 7 = 103 then (if fld w 12 3 = 0 then (4, 0, 0, 0, iP w, 0, 0) else i0)
  else if fld w 0 7 = 3 then (ldT (fld w 12 3), 0, 0, 0, iP w, 0, 0)
  else if fld w 0 7 = 19 then (if fld w 12 3 = 1 ∨ fld w 12 3 = 5 then shiftP w 28 29 30 6 else (piT (fld w 12 3), 0, 0, 0, iP w, 0, 0))
  else if fld w 0 7 = 27 then (if fld w 12 3 = 0 then (41, 0, 0, 0, iP w, 0, 0) else shiftP w 42 43 44 5)
  else i0
def otherP (w : Nat) : I7 :=
  if w = 115 then (87, 0, 0, 0, 0, 0, 0) else if w = 1048691 then (88, 0, 0, 0, 0, 0, 0)
  else if fld w 0 7 = 15 ∧ fld w 12 3 = 0 then (85, 0, 0, 0, 0, 0, 0) else if fld w 0 7 = 15 ∧ fld w 12 3 = 1 then (86, 0, 0, 0, 0, 0, 0) else i0
/-- The registers rd and rs1 laid into an instruction. -/
def regsP (w : Nat) (i : I7) : I7 := (i.1, (fld w 7 5 : Nat), (fld w 15 5 : Nat), i.2.2.2.1, i.2.2.2.2.1, i.2.2.2.2.2.1, i.2.2.2.2.2.2)
def size4 (i : I7) : I7 × Bool := if i.1 = 0 then (i0, false) else ((i.1, i.2.1, i.2.2.1, i.2.2.2.1, i.2.2.2.2.1, i.2.2.2.2.2.1, 4), true)
def kindP (w : Nat) : I7 :=
  if fld w 0 7 = 55 then (1, (fld w 7 5 : Nat), 0, 0, uP w, 0, 0)
  else if fld w 0 7 = 23 then (2, (fld w 7 5 : Nat), 0, 0, uP w, 0, 0)
  else if fld w 0 7 = 111 then (3, (fld w 7 5 : Nat), 0, 0, jP w, 0, 0)
  else if fld w 0 7 = 99 then (brT (fld w 12 3), 0, (fld w 15 5 : Nat), (fld w 20 5 : Nat), bP w, 0, 0)
  else if fld w 0 7 = 35 then (stT (fld w 12 3), 0, (fld w 15 5 : Nat), (fld w 20 5 : Nat), sP w, 0, 0)
  else if fld w 0 7 = 51 then (regT (fld w 25 7) (fld w 12 3), (fld w 7 5 : Nat), (fld w 15 5 : Nat), (fld w 20 5 : Nat), 0, 0, 0)
  else if fld w 0 7 = 59 then (r32T (fld w 25 7) (fld w 12 3), (fld w 7 5 : Nat), (fld w 15 5 : Nat), (fld w 20 5 : Nat), 0, 0, 0)
  else if fld w 0 7 = 47 then regsP w (atomicP w)
  else if fld w 0 7 = 15 ∨ fld w 0 7 = 115 then otherP w
  else regsP w (withImmP w)
def decP (w : Nat) : I7 × Bool := size4 (kindP w)
/-! The document's. -/
def oneP (l : List Int) (k : Nat) : Int := l.getD k 0
def rimmP (w : Nat) : I7 :=
  if fld w 0 7 = 19 then
    (if fld w 12 3 = 1 ∨ fld w 12 3 = 5 then
      (if fld w 12 3 = 1 ∧ fld w 26 6 = 0 then 28 else if fld w 12 3 = 5 ∧ fld w 26 6 = 0 then 29 else if fld w 12 3 = 5 ∧ fld w 26 6 = 16 then 30 else oneP [22, 0, 23, 24, 25, 0, 26, 27] (fld w 12 3), (fld w 7 5 : Nat), (fld w 15 5 : Nat), 0, (fld w 20 6 : Nat), 0, 4)
    else (oneP [22, 0, 23, 24, 25, 0, 26, 27] (fld w 12 3), (fld w 7 5 : Nat), (fld w 15 5 : Nat), 0, iP w, 0, 4))
  else
    (if fld w 12 3 = 1 ∨ fld w 12 3 = 5 then
      (if fld w 12 3 = 1 ∧ fld w 25 7 = 0 then 42 else if fld w 12 3 = 5 ∧ fld w 25 7 = 0 then 43 else if fld w 12 3 = 5 ∧ fld w 25 7 = 32 then 44 else oneP [41] (fld w 12 3), (fld w 7 5 : Nat), (fld w 15 5 : Nat), 0, (fld w 20 5 : Nat), 0, 4)
    else (oneP [41] (fld w 12 3), (fld w 7 5 : Nat), (fld w 15 5 : Nat), 0, iP w, 0, 4))
/-- The place of an operator among the atomic ones. -/
def amoR (f5 rs2 f3 : Nat) : Int :=
  if f3 = 2 ∨ f3 = 3 then (if f5 = 2 ∧ rs2 ≠ 0 then 0 else if amoT f5 = 0 then 0 else amoT f5 + (if f3 = 3 then 11 else 0)) else 0
def rkindP (w : Nat) : I7 :=
  if fld w 0 7 = 55 then (1, (fld w 7 5 : Nat), 0, 0, sg (fld w 12 20) 20 * 4096, 0, 4)
  else if fld w 0 7 = 23 then (2, (fld w 7 5 : Nat), 0, 0, sg (fld w 12 20) 20 * 4096, 0, 4)
  else if fld w 0 7 = 111 then (3, (fld w 7 5 : Nat), 0, 0, sg (((fld w 31 1 * 256 + fld w 12 8) * 2 + fld w 20 1) * 1024 + fld w 21 10) 20 * 2, 0, 4)
  else if fld w 0 7 = 103 then (oneP [4] (fld w 12 3), (fld w 7 5 : Nat), (fld w 15 5 : Nat), 0, iP w, 0, 4)
  else if fld w 0 7 = 3 then (oneP [11, 12, 13, 14, 15, 16, 17] (fld w 12 3), (fld w 7 5 : Nat), (fld w 15 5 : Nat), 0, iP w, 0, 4)
  else if fld w 0 7 = 99 then (oneP [5, 6, 0, 0, 7, 8, 9, 10] (fld w 12 3), 0, (fld w 15 5 : Nat), (fld w 20 5 : Nat), sg (((fld w 31 1 * 2 + fld w 7 1) * 64 + fld w 25 6) * 16 + fld w 8 4) 12 * 2, 0, 4)
  else if fld w 0 7 = 35 then (oneP [18, 19, 20, 21] (fld w 12 3), 0, (fld w 15 5 : Nat), (fld w 20 5 : Nat), sg (fld w 25 7 * 32 + fld w 7 5) 12, 0, 4)
  else if fld w 0 7 = 19 ∨ fld w 0 7 = 27 then rimmP w
  else if fld w 0 7 = 51 then
    (if fld w 25 7 = 0 then oneP [31, 33, 34, 35, 36, 37, 39, 40] (fld w 12 3) else if fld w 25 7 = 32 then oneP [32, 0, 0, 0, 0, 38] (fld w 12 3) else if fld w 25 7 = 1 then oneP [50, 51, 52, 53, 54, 55, 56, 57] (fld w 12 3) else 0, (fld w 7 5 : Nat), (fld w 15 5 : Nat), (fld w 20 5 : Nat), 0, 0, 4)
  else if fld w 0 7 = 59 then
    (if fld w 25 7 = 0 then oneP [45, 47, 0, 0, 0, 48] (fld w 12 3) else if fld w 25 7 = 32 then oneP [46, 0, 0, 0, 0, 49] (fld w 12 3) else if fld w 25 7 = 1 then oneP [58, 0, 0, 0, 59, 60, 61, 62] (fld w 12 3) else 0, (fld w 7 5 : Nat), (fld w 15 5 : Nat), (fld w 20 5 : Nat), 0, 0, 4)
  else if fld w 0 7 = 47 then (amoR (fld w 27 5) (fld w 20 5) (fld w 12 3), (fld w 7 5 : Nat), (fld w 15 5 : Nat), (fld w 20 5 : Nat), 0, (fld w 25 2 : Nat), 4)
  else if fld w 0 7 = 15 then (oneP [85, 86] (fld w 12 3), 0, 0, 0, 0, 0, 4)
  else if fld w 0 7 = 115 then (if w = 1048691 then 88 else if w = 115 then 87 else 0, 0, 0, 0, 0, 0, 4)
  else (0, 0, 0, 0, 0, 0, 4)
def rdecP (w : Nat) : I7 × Bool := if (rkindP w).1 = 0 then (i0, false) else (rkindP w, true)
end Go.Proofs.Ytgefhoikpjiamaa.Ins
