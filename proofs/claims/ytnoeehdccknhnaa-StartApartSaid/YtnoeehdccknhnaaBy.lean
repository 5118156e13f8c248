/- The contracts of word.Get, word.Put and of the document's Get, Put and Same, walked: for every slice of bytes (of fewer than 2^46 bytes), word and count. -/
import Derived.Test.YtnoeehdccknhnaaProg
import Derived.Test.YtnoeehdccknhnaaSlim
import Derived.Test.YtnoeehdccknhnaaWLast
import Derived.Test.YtnoeehdccknhnaaBv
import Derived.Lib.Hide
namespace Go.Proofs.Ytnoeehdccknhnaa.By
open Go Go.RowKit Go.Proofs.YtnoeehdccknhnaaW.PrintWords Go.Proofs.YtnoeehdccknhnaaW.PrintLast Go.Proofs.YtnoeehdccknhnaaW.PrintMore
open Go.Proofs.Ytnoeehdccknhnaa.Bv
attribute [local go_sem] max2_int min2_int max_two min_two max_three min_three max_four min_four
set_option linter.unusedVariables false
set_option linter.unusedSimpArgs false
theorem info5 : (Try.prog.info? 5).map (fun i => (i.zero, i.size, i.bytes)) = some (some (.int .u8 0), 1, 1) := by kernel_rfl

/-! ### Plain: bytes of a word. -/
/-- A list of bytes as a number, the least first. -/
def le : List Int → Int
  | [] => 0
  | c :: r => c + 256 * le r
def bytes (l : List Int) : Prop := ∀ x ∈ l, 0 ≤ x ∧ x ≤ 255
/-- The lowest bytes of a word, the least first. -/
def enc (x : Int) : Nat → List Int
  | 0 => []
  | n + 1 => x % 256 :: enc (x / 256) n
theorem enc_length (n : Nat) : ∀ x, (enc x n).length = n := by
  induction n with
  | zero => intro x; rfl
  | succ n ih => intro x; simp [enc, ih]
theorem enc_snoc (n : Nat) : ∀ x : Int, enc x (n + 1) = enc x n ++ [x / 256 ^ n % 256] := by
  induction n with
  | zero => intro x; simp [enc]
  | succ n ih =>
    intro x
    have e : x / 256 / 256 ^ n = x / 256 ^ (n + 1) := by
      rw [Int.ediv_ediv_of_nonneg (by decide), Int.pow_succ, Int.mul_comm]
    show x % 256 :: enc (x / 256) (n + 1) = (x % 256 :: enc (x / 256) n) ++ _
    rw [ih, e]; rfl
theorem enc_bytes (n : Nat) : ∀ x : Int, bytes (enc x n) := by
  induction n with
  | zero => intro x y hy; simp [enc] at hy
  | succ n ih =>
    intro x y hy
    rcases List.mem_cons.1 hy with h | h
    · subst h; omega
    · exact ih _ y h
theorem le_enc (n : Nat) : ∀ x : Int, 0 ≤ x → le (enc x n) = x % 256 ^ n := by
  induction n with
  | zero => intro x _; simp [enc, le]
  | succ n ih =>
    intro x hx
    have e := ih (x / 256) (by omega)
    simp only [enc, le, e]
    have hp : (0 : Int) < 256 ^ n := Int.pow_pos (by decide)
    rw [Int.pow_succ, Int.mul_comm (256 ^ n) 256]
    generalize (256 : Int) ^ n = p at *
    have h1 := Int.mul_ediv_add_emod x 256
    have h2 := Int.mul_ediv_add_emod (x / 256) p
    have h3 := Int.emod_nonneg (x / 256) (show p ≠ 0 by omega)
    have h4 := Int.emod_lt_of_pos (x / 256) hp
    have h5 : 0 ≤ x % 256 ∧ x % 256 ≤ 255 := by omega
    clear ih e
    generalize x % 256 = r at *
    generalize x / 256 = q at *
    generalize q % p = s at *
    generalize q / p = u at *
    subst h2 h1
    have e3 : 256 * (p * u + s) + r = (r + 256 * s) + 256 * p * u := by rw [Int.mul_add, Int.mul_assoc]; omega
    rw [e3, Int.add_mul_emod_self_left, Int.emod_eq_of_lt (by omega) (by omega)]
theorem le_bd (l : List Int) (h : bytes l) : 0 ≤ le l ∧ le l < 256 ^ l.length := by
  induction l with
  | nil => simp [le]
  | cons c r ih =>
    have a := ih (fun x hx => h x (List.mem_cons_of_mem _ hx))
    have b := h c List.mem_cons_self
    simp only [le, List.length_cons, Int.pow_succ]
    omega
theorem le_snoc (l : List Int) (c : Int) : le (l ++ [c]) = le l + c * 256 ^ l.length := by
  induction l with
  | nil => simp [le]
  | cons d r ih =>
    simp only [List.cons_append, le, ih, List.length_cons, Int.pow_succ, Int.mul_add]
    rw [Int.mul_left_comm 256 c, Int.mul_comm 256 (256 ^ r.length)]
    omega
/-- What Put and Get answer. -/
def putv (l : List Int) (x n : Int) : List Int := if 1 ≤ n ∧ n ≤ 8 then l ++ enc x n.toNat else l
def getv (l : List Int) (n : Int) : Int := if 1 ≤ n ∧ n ≤ 8 then le (l.take n.toNat) else 0
theorem or_hi (x y : Int) (k : Nat) (hk : k ≤ 7) (h0 : 0 ≤ x) (h1 : x < 256 ^ k) (h2 : 0 ≤ y) (h3 : y ≤ 255) : bits .or .u64 x (IntKind.u64.wrap (y * 2 ^ (8 * k))) = x + y * 256 ^ k ∧ IntKind.u64.wrap (x + IntKind.u64.wrap (y * 2 ^ (8 * k))) = x + y * 256 ^ k := by
  have hp : ((2 : Int) ^ (8 * k)) = 256 ^ k := by rw [Int.pow_mul]; rfl
  rw [hp]
  obtain ⟨X, rfl⟩ := Int.eq_ofNat_of_zero_le h0
  obtain ⟨Y, rfl⟩ := Int.eq_ofNat_of_zero_le h2
  have e256 : ((256 ^ k : Nat) : Int) = (256 : Int) ^ k := Int.natCast_pow 256 k
  rw [← e256] at h1 ⊢
  have hb : (256 ^ k : Nat) ≤ 72057594037927936 := Nat.pow_le_pow_right (n := 256) (by omega) hk
  have h5 := Nat.two_pow_add_eq_or_of_lt (i := 8 * k) (b := X) (by rw [Nat.pow_mul]; show X < 256 ^ k; omega) Y
  rw [Nat.pow_mul, show (2 ^ 8 : Nat) = 256 from rfl] at h5
  generalize (256 ^ k : Nat) = p at *
  have hm : (Y * p : Nat) ≤ 255 * 72057594037927936 := Nat.mul_le_mul (by omega) hb
  have e : (Y : Int) * (p : Int) = ((Y * p : Nat) : Int) := (Int.natCast_mul Y p).symm
  rw [e, wrap_in (n := ((Y * p : Nat) : Int)) (by omega) (by omega)]
  constructor
  · rw [u64_or_nat X (Y * p) (by omega) (by omega), Nat.or_comm]
    rw [Nat.mul_comm] at h5
    rw [← h5]
    omega
  · rw [wrap_in (by omega) (by omega)]
theorem rd_at (l : List Int) (k : Nat) (hk : k < l.length) : rd l k = l[k] := by unfold rd; rw [Int.toNat_natCast, List.getD_eq_getElem?_getD, List.getElem?_eq_getElem hk]; rfl
theorem rd_byte (l : List Int) (k : Nat) (hk : k < l.length) (hb : bytes l) : 0 ≤ rd l k ∧ rd l k ≤ 255 := by
  rw [rd_at l k hk]; exact hb l[k] (List.getElem_mem hk)
theorem le_step (l : List Int) (k : Nat) (hk : k < l.length) (hk7 : k ≤ 7) (hb : bytes l) : bits .or .u64 (le (l.take k)) (IntKind.u64.wrap (rd l k * 2 ^ (8 * k))) = le (l.take (k + 1)) ∧ IntKind.u64.wrap (le (l.take k) + IntKind.u64.wrap (rd l k * 2 ^ (8 * k))) = le (l.take (k + 1)) := by
  have h1 := le_bd (l.take k) (fun x hx => hb x (List.mem_of_mem_take hx))
  have hl : (l.take k).length = k := by rw [List.length_take]; omega
  rw [hl] at h1
  have h2 := hb l[k] (List.getElem_mem hk)
  rw [rd_at l k hk, (or_hi _ _ k hk7 h1.1 h1.2 h2.1 h2.2).1, (or_hi _ _ k hk7 h1.1 h1.2 h2.1 h2.2).2, List.take_succ_eq_append_getElem hk, le_snoc, hl]
  exact ⟨rfl, rfl⟩
theorem ret_u64 {a b : Int} (h : a = b) : Ending.returned (.int .u64 a) = .returned (.int .u64 b) := by rw [h]
theorem ret_bool {a b : Bool} (h : a = b) : Ending.returned (.bool a) = .returned (.bool b) := by rw [h]

/-! ### Get. -/
theorem cut_to (A : Option Addr) (c : Nat) (n m : Nat) (hm : m ≤ n) (hc : n ≤ c) (W : World) :
    (Instr.slice 29 (.slice A n c) none (some (.int .i64 (m : Int))) none).run Try.prog W = .ok (.slice A m c) W := by
  obtain ⟨i0, hi, _, hsz, _⟩ := info_parts info5
  have hl : (List.replicate n (0 : Int)).length = n := List.length_replicate
  have h := (print_take_of (P := Try.prog) (Value.int .u8) 0 29 5 .i64 Try.underlying29 hi hsz A c (List.replicate n (0 : Int)) (m : Int) (by omega) (by omega) (by omega)).1 W
  rw [hl] at h
  rw [h]
  simp [Nat.min_eq_left hm]
end Go.Proofs.Ytnoeehdccknhnaa.By
