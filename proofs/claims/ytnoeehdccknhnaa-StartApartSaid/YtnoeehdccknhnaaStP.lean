/- Rows of bytes, append of zeros; a stack's words as bytes. -/
import Derived.Test.YtnoeehdccknhnaaStE
import Derived.Test.YtnoeehdccknhnaaByPut
import Derived.Test.YtnoeehdccknhnaaWZeros
namespace Go.Proofs.Ytnoeehdccknhnaa.St
open Go Go.RowKit Go.Proofs.YtnoeehdccknhnaaW.PrintWords Go.Proofs.YtnoeehdccknhnaaW.PrintLast Go.Proofs.YtnoeehdccknhnaaW.PrintMore
open Go.Proofs.Ytnoeehdccknhnaa.Hp
attribute [local go_sem] max2_int min2_int max_two min_two max_three min_three max_four min_four
set_option linter.unusedVariables false
set_option linter.unusedSimpArgs false
/-- A row of bytes, in a block from B on. -/
structure Own8 (w : World) (B : Nat) (v : Value) (l : List Int) : Prop where
  row : Row w 5 .u8 v l
  hi : ∀ b, v.ownBlock = some b → B ≤ b
theorem own8_of {w : World} {B n : Nat} {v : Value} {l : List Int} (h : w.ownsRow B 5 1 v n (nums .u8 l)) : Own8 w B v l := by
  obtain ⟨h1, h2⟩ := h
  have hn : n = l.length := by simpa [nums] using h1.symm
  subst hn
  refine ⟨⟨h1, ?_⟩, fun b hb1 => ?_⟩
  · rcases h2 with k2 | ⟨g, cap, cur, rfl, _, hh, h3⟩
    · exact .inl k2
    · exact .inr ⟨g, cap, cur, rfl, Nat.zero_le _, hh, h3⟩
  · rcases h2 with ⟨rfl, _⟩ | ⟨g, cap, cur, rfl, hbb, _⟩
    · simp [Value.ownBlock] at hb1
    · have : g = b := by simpa [Value.ownBlock] using hb1
      omega
theorem Own8.low {w : World} {B C : Nat} {v : Value} {l : List Int} (h : Own8 w B v l) (hc : C ≤ B) : Own8 w C v l := ⟨h.row, fun b e => Nat.le_trans hc (h.hi b e)⟩
theorem Own8.form {w : World} {B : Nat} {v : Value} {l : List Int} (h : Own8 w B v l) : ∃ A c, v = .slice A l.length c ∧ l.length ≤ c ∧ Kd.C (Kd.int .u8) w A l.length l := by
  obtain ⟨A, c, e, hc, hr⟩ := h.row.slice
  exact ⟨A, c, e, hc, Kd.C_of_reads (d := (0 : Int)) (h1 := fun _ => rfl) hr⟩
/-- A row that is not empty lies at a block's head. -/
theorem Row.head {w : World} {e : TypeId} {k : IntKind} {v : Value} {l : List Int} (h : Row w e k v l) (hl : 0 < l.length) : ∃ g c, v = .slice (some ⟨g, 0, none⟩) l.length c ∧ l.length ≤ c := by
  rcases h.2 with ⟨_, h0⟩ | ⟨g, cap, cur, rfl, _, _, hc, _⟩
  · omega
  · exact ⟨g, cap, rfl, hc⟩
theorem reads_head {w : World} {k : IntKind} {g n : Nat} {l : List Int} (h : ReadsInt w k (some ⟨g, 0, none⟩) n l) (j : Nat) (hj : j < n) : w.cell? ⟨g, j, none⟩ = some (.int k (l.getD j 0)) := by
  obtain ⟨ad, e, hc⟩ := h.2.2 (by omega)
  injection e with e
  have h1 := hc j hj
  rw [← e, add_plain] at h1
  exact h1
section
variable {P : Program} {ops : Array Oper} {rest : List Oper} {o : Oper} {a : Act} {Q : Exit → Act → World → Prop}
theorem row_zeros {W : World} (hgd : o.guard = none) (s x : Operand) (t ti e : TypeId) (k : IntKind) (bytes : Nat)
    (ho : o.op = .call { callee := .builtin .append, args := #[s, x], argTypes := #[t, ti] })
    (ht : P.underlying t = some (.slice e)) {kk : IntKind} (hti : P.underlying ti = some (.int kk)) (hinfo : (P.info? e).map (fun i => (i.zero, i.size, i.bytes)) = some (some (.int k 0), 1, bytes)) (hb0 : 0 < bytes)
    (v : Value) (xs : List Int) {kx : IntKind} (n : Nat) (hs : a.eval s = v) (hx : a.eval x = .int kx (n : Int))
    (HO : Row W e k v xs) (hl : (xs.length + n) * bytes ≤ 140737488355328)
    (h : ∀ v1 w1, Row w1 e k v1 (xs ++ List.replicate n 0) → Fr (fun b => v.ownBlock = some b) W w1 → (v1.ownBlock = v.ownBlock ∨ ∃ b, v1.ownBlock = some b ∧ W.heap.size ≤ b) → wpList P ops Q rest (a.put o.dst v1) w1) :
    wpList P ops Q (o :: rest) a W := by
  refine Kd.R_append_zeros (Kd.int k) (w0 := W) 0 hgd s x t ti e (.int k 0) bytes ho ht hti hinfo rfl Nat.one_pos hb0 v xs 0 (n : Int) (fun _ => True) hs hx (show (Kd.int k).M W 0 (fun _ => False) 0 [Value.int k 0] from rfl) (fun _ _ => trivial)
    (Kd.R_of_own (h1 := fun _ => rfl) HO (fun _ _ => trivial)) (by omega) (Below.refl _ _) (Nat.zero_le _) (by rw [Int.toNat_natCast]; exact hl) ?_
  intro v1 w1 ho1 _ hg hat
  rw [Int.toNat_natCast] at ho1
  exact h v1 w1 (Kd.own_of_R ho1) ((Fr.refl _ _).grown hg (fun b hb => .inl hb)) hat
end
theorem Own8.app {w w1 : World} {B : Nat} {v v1 : Value} {l l1 : List Int} {ww : World} (h : Own8 w B v l) (hb : Below B ww w) (hB : B ≤ w.heap.size) (hr : Row w1 5 .u8 v1 l1) (hf : Fr (fun b => v.ownBlock = some b) w w1) (hat : v1.ownBlock = v.ownBlock ∨ ∃ b, v1.ownBlock = some b ∧ w.heap.size ≤ b) (hw : B = ww.heap.size) : Own8 w1 B v1 l1 ∧ Below B ww w1 := by
  subst hw
  refine ⟨⟨hr, own_hat h.hi hB hat⟩, Fr.below hb (hf.mono (fun k _ e => h.hi k e)) (fun k hk e => by have e : ww.heap.size ≤ k := e; omega)⟩
/-- Words as bytes. -/
def wby : List Int → List Int
  | [] => []
  | x :: r => By.enc x 8 ++ wby r
theorem wby_length (l : List Int) : (wby l).length = 8 * l.length := by
  induction l with
  | nil => rfl
  | cons x r ih => simp only [wby, List.length_append, List.length_cons, By.enc_length, ih]; omega
theorem wby_append (l r : List Int) : wby (l ++ r) = wby l ++ wby r := by
  induction l with
  | nil => rfl
  | cons x s ih => simp only [List.cons_append, wby, ih, List.append_assoc]
def wok (l : List Int) : Prop := ∀ x ∈ l, 0 ≤ x ∧ x < 18446744073709551616
theorem wok_app {l r : List Int} (h : wok l) (k : wok r) : wok (l ++ r) := fun x hx => (List.mem_append.1 hx).elim (h x) (k x)
theorem wok_cons {x : Int} {r : List Int} (h : 0 ≤ x ∧ x < 18446744073709551616) (k : wok r) : wok (x :: r) := fun y hy => (List.mem_cons.1 hy).elim (fun e => e ▸ h) (k y)
theorem wok_nil : wok [] := fun x hx => absurd hx (by simp)
theorem wok_pl (bs : Int) (hb : 0 ≤ bs) (hb2 : bs ≤ 274877902848) (l : List ByteArray) : ∀ n, n + szOf l ≤ 1000000 → wok (plOf bs n l) := by
  induction l with
  | nil => intro n _; exact wok_nil
  | cons s r ih =>
    intro n h
    simp only [szOf] at h
    exact wok_cons (by omega) (ih _ (by omega))
theorem wok_aux (entry phdr phnum phsize random : Int) (he : 0 ≤ entry ∧ entry < 18446744073709551616) (hp : 0 ≤ phdr ∧ phdr < 18446744073709551616) (hr : 0 ≤ random ∧ random < 18446744073709551616) : wok (auxL entry phdr phnum phsize random) := by
  unfold auxL
  refine wok_app ?_ ?_
  · split
    · exact wok_nil
    · exact wok_cons (by decide) (wok_cons hp wok_nil)
  · have hw : ∀ x, 0 ≤ IntKind.u64.wrap x ∧ IntKind.u64.wrap x < 18446744073709551616 := fun x => by rw [IntKind.wrap_u64]; omega

    repeat (first | exact wok_nil | refine wok_cons (by first | decide | exact he | exact hr | exact hw _) ?_)
theorem take_wby (l : List Int) (k : Nat) (hk : k < l.length) : wby (l.take (k + 1)) = wby (l.take k) ++ By.enc (l.getD k 0) 8 := by
  rw [take_snoc 0 l k hk, wby_append]
  simp [wby]
theorem nat_of (x : Int) (h : 0 ≤ x) : ∃ n : Nat, x = (n : Int) := ⟨x.toNat, by omega⟩
theorem gap {K s b : Int} (h : (K - s) / 16 * 16 = b) : 0 ≤ K - b - s ∧ K - b - s ≤ 15 := by omega
theorem gap2 {K s b sp d room : Int} (h : b - sp = d) (hr : K - sp = room) : K - b - s = room - (d + s) := by omega
theorem gap3 {bs sp : Int} {k m8 z1 d : Nat} (a2 : bs - sp = (d : Int)) (a3 : (d : Int) - (m8 : Int) = (z1 : Int)) (a4 : 8 * k = m8) : (bs - 8 * (k : Int) - sp).toNat = z1 := by omega
/-- The words of a stack. -/
def wordsOf (bs : Int) (l1 l2 : List ByteArray) (entry phdr phnum phsize : Int) : List Int := [(l1.length : Int)] ++ plOf bs 0 l1 ++ [0] ++ plOf bs (szOf l1) l2 ++ [0] ++ auxL entry phdr phnum phsize (bs + ((szOf l1 + szOf l2 : Nat) : Int))
/-- The pointer to a stack of so many words below a base. -/
def spOf (bs : Int) (nw : Nat) : Int := (bs - 8 * (nw : Int)) / 16 * 16
/-- A stack's bytes: words, zeros, texts, zeros. -/
def outOf (bs : Int) (W T : List Int) : List Int := wby W ++ List.replicate (bs - 8 * W.length - spOf bs W.length).toNat 0 ++ T ++ List.replicate (274877902848 - bs - T.length).toNat 0
end Go.Proofs.Ytnoeehdccknhnaa.St
