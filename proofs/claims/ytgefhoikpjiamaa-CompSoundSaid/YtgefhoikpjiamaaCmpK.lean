/- Every word of 16 bits: the instruction it stands for, made four bytes long, is one that some word of 32 bits has. In plain Lean, by computing. -/
import Derived.Test.YtgefhoikpjiamaaCmpP
import Derived.Test.YtgefhoikpjiamaaInsP
namespace Go.Proofs.Ytgefhoikpjiamaa.Cmp
/-- The word of 32 bits of an instruction that a short word can stand for. -/
def wd (i : I7) : Nat :=
  match i with
  | (op, d, s, t, n, _, _) =>
    let D := d.toNat * 128
    let S := s.toNat * 32768
    let T := t.toNat * 1048576
    let U := (n % 4096).toNat * 1048576
    match op.toNat with
    | 1 => (n % 4294967296).toNat + D + 55
    | 3 => Ins.fld (n % 2097152).toNat 20 1 * 2147483648 + Ins.fld (n % 2097152).toNat 1 10 * 2097152 + Ins.fld (n % 2097152).toNat 11 1 * 1048576 + Ins.fld (n % 2097152).toNat 12 8 * 4096 + D + 111
    | 4 => U + S + D + 103
    | 5 => Ins.fld (n % 8192).toNat 12 1 * 2147483648 + Ins.fld (n % 8192).toNat 5 6 * 33554432 + T + S + Ins.fld (n % 8192).toNat 1 4 * 256 + Ins.fld (n % 8192).toNat 11 1 * 128 + 99
    | 6 => Ins.fld (n % 8192).toNat 12 1 * 2147483648 + Ins.fld (n % 8192).toNat 5 6 * 33554432 + T + S + 4096 + Ins.fld (n % 8192).toNat 1 4 * 256 + Ins.fld (n % 8192).toNat 11 1 * 128 + 99
    | 13 => U + S + 8192 + D + 3
    | 14 => U + S + 12288 + D + 3
    | 20 => Ins.fld (n % 4096).toNat 5 7 * 33554432 + T + S + 8192 + Ins.fld (n % 4096).toNat 0 5 * 128 + 35
    | 21 => Ins.fld (n % 4096).toNat 5 7 * 33554432 + T + S + 12288 + Ins.fld (n % 4096).toNat 0 5 * 128 + 35
    | 22 => U + S + D + 19
    | 27 => U + S + 28672 + D + 19
    | 41 => U + S + D + 27
    | 28 => U + S + 4096 + D + 19
    | 29 => U + S + 20480 + D + 19
    | 30 => 1073741824 + U + S + 20480 + D + 19
    | 31 => T + S + D + 51
    | 32 => 1073741824 + T + S + D + 51
    | 36 => T + S + 16384 + D + 51
    | 39 => T + S + 24576 + D + 51
    | 40 => T + S + 28672 + D + 51
    | 45 => T + S + D + 59
    | 46 => 1073741824 + T + S + D + 59
    | _ => 1048691
def set4 (i : I7) : I7 := (i.1, i.2.1, i.2.2.1, i.2.2.2.1, i.2.2.2.2.1, i.2.2.2.2.2.1, 4)
def okW (i : I7) : Bool := decide (wd i < 4294967296) && ((Ins.decP (wd i)).2 && eqI (Ins.decP (wd i)).1 i)
def okB (h : Nat) : Bool := !(expandP h).2 || okW (set4 (expandP h).1)
end Go.Proofs.Ytgefhoikpjiamaa.Cmp
