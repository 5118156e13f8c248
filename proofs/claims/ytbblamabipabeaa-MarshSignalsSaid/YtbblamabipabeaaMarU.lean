/- The contracts of package marsh's fill, Uname, Time and Micro, walked; answers. -/
import Derived.Test.YtbblamabipabeaaMar
import Derived.Test.YtbblamabipabeaaWZeros
namespace Go.Proofs.Ytbblamabipabeaa.Mar
open Go Go.RowKit Go.Proofs.YtbblamabipabeaaW.PrintWords Go.Proofs.YtbblamabipabeaaW.PrintLast Go.Proofs.YtbblamabipabeaaW.PrintMore
open Go.Proofs.Ytbblamabipabeaa.Hp Go.Proofs.Ytbblamabipabeaa.By Go.Proofs.Ytbblamabipabeaa.Bv
attribute [local go_sem] max2_int min2_int max_two min_two max_three min_three max_four min_four
set_option linter.unusedVariables false
set_option linter.unusedSimpArgs false
theorem Wr.grow {base : Nat} {w w1 : World} {g : Nat} {v v1 : Value} {l l1 : List Int} (h : Wr base w g v l) (hr : w1.ownsRow base 5 1 v1 l1.length (nums .u8 l1)) (hf : Fr (fun b => v.ownBlock = some b) w w1) :
    Blk w1 g 47 #[v] ∧ Wr base (w1.setCell ⟨g, 0, none⟩ v1) g v1 l1 ∧ Fr (fun k => k = g ∨ v.ownBlock = some k) w (w1.setCell ⟨g, 0, none⟩ v1) := by
  have hB := h.blk.fr hf (fun e => (own_row h.row).ne_blk h.blk (by decide) g e rfl)
  have hfr : Fr (fun k => k = g) w1 (w1.setCell ⟨g, 0, none⟩ v1) := (Fr.refl (fun k => k = g) w1).setCell (p := ⟨g, 0, none⟩) (.inl rfl) v1
  refine ⟨hB, ⟨by simpa using hB.set 0 v1, own_fr hr hfr (fun b e => (own_row hr).ne_blk hB (by decide) b e), h.low⟩, ?_⟩
  exact (hf.mono (fun k _ hk => Or.inr hk)).trans hfr (fun k _ hk => Or.inl hk)
section
variable {P : Program} {ops : Array Oper} {rest : List Oper} {o : Oper} {a : Act} {Q : Exit → Act → World → Prop} {Kc : Act → World → Prop}
theorem own_zeros_step {W : World} {base : Nat} (hw : Region.wanted o (yielded ops a.tmps) = true) (s x : Operand) (t ti e : TypeId)
    (ho : o.op = .call { callee := .builtin .append, args := #[s, x], argTypes := #[t, ti] })
    (ht : P.underlying t = some (.slice e)) {k : IntKind} (hti : P.underlying ti = some (.int k)) (hinfo : (P.info? e).map (fun i => (i.zero, i.size, i.bytes)) = some (some (.int .u8 0), 1, 1))
    (v : Value) (xs : List Int) {kx : IntKind} (n : Int) (hs : a.eval s = v) (hx : a.eval x = .int kx n)
    (HO : W.ownsRow base e 1 v xs.length (nums .u8 xs)) (h0 : 0 ≤ n) (hbase : base ≤ W.heap.size) (hl : (xs.length + n.toNat) ≤ 140737488355328)
    (h : ∀ v1 w1, w1.ownsRow base e 1 v1 (xs ++ List.replicate n.toNat 0).length (nums .u8 (xs ++ List.replicate n.toNat 0)) → Fr (fun b => v.ownBlock = some b) W w1 → Kc (a.put o.dst v1) w1) :
    if Region.wanted o (yielded ops a.tmps) = true then Oper.wp P o a W Kc Q else Kc (a.put o.dst undef) W := by
  refine Kd.R_append_zeros_step (Kd.int .u8) (w0 := W) base hw s x t ti e (.int .u8 0) 1 ho ht hti hinfo rfl Nat.one_pos Nat.one_pos v xs 0 n (fun _ => True) hs hx rfl (fun _ _ => trivial)
    (Kd.R_of_own (h1 := fun _ => rfl) HO (fun _ _ => trivial)) h0 (Below.refl _ _) hbase (by omega) ?_
  intro v1 w1 ho1 _ hg _
  exact h v1 w1 (Kd.own_of_R ho1) ((Fr.refl _ _).grown hg (fun b hb => .inl hb))
end
set_option maxHeartbeats 1000000 in
theorem fill_any (base : Nat) (w : World) (g : Nat) (v : Value) (l : List Int) (n : Int) (d : Nat) (hw : Wr base w g v l) (hb : base ≤ w.heap.size) (hd : n - (l.length : Int) = d) (hn : n ≤ 100000) :
    Calls Try.prog 31 #[.pointer (some ⟨g, 0, none⟩), .int .i64 n] w fun e w' => e = .returned (.tuple #[]) ∧ ∃ v', Wr base w' g v' (l ++ List.replicate d 0) ∧ Fr (fun k => k = g ∨ v.ownBlock = some k) w w' := by
  obtain ⟨A1, c1, rfl, hc1, hr1⟩ := (own_row hw.row).slice
  have HW := Lib.hid hw
  have k0 := hw.blk.cell 0
  have f0 := hw.blk.frozen 0
  simp at k0
  have hll : l.length ≤ 100000 := by omega
  have hd5 : d ≤ 100000 := by omega
  have hwd : IntKind.i64.wrap (d : Int) = d := by rw [← wrap64_eq]; exact wrap64_in (by omega) (by omega)
  have hd0 : ¬ (d : Int) < 0 := by omega
  obtain ⟨l1, hl1⟩ : ∃ l1, l1 = l ++ List.replicate d 0 := ⟨_, rfl⟩
  have HL := Lib.hid hl1
  clear hl1 hr1 hw
  rw [← HL.out]
  go_enter Try.func31, Try.ntmps31
  go_wp2
  go_region_law (refine own_zeros_step rfl (.tmp 8) (.tmp 16) 23 3 5 rfl Try.underlying23 Try.underlying3 info5 (.slice A1 l.length c1) l (d : Int) rfl rfl HW.out.row (by omega) hb (by omega) ?_; intro v1 w1 ho1 hf1; rw [Int.toNat_natCast, ← HL.out] at ho1; have HA := Lib.hid (HW.out.grow ho1 hf1.undrew); obtain ⟨A2, c2, rfl, _, _⟩ := (own_row ho1).slice; have k0' := HA.out.1.cell 0; have f0' := HA.out.1.frozen 0; simp at k0'; clear hf1 ho1)
  all_goals
    go_wp2
    go_end0
    exact ⟨rfl, ⟨_, HA.out.2.1⟩, HA.out.2.2⟩
theorem idx51 (cs : Array Value) (i : Nat) (h : cs.size = 6) (hi : i < 6) (v : Value) (hv : cs[i]? = some v) (W : World) : (Instr.index 51 (.agg cs) (.int .i64 (i : Int))).run Try.prog W = .ok v W := by
  have hn : (0 : Int) ≤ (i : Int) ∧ (i : Int) < 6 := by omega
  simp [Instr.index, Try.underlying51, run_underlying Try.underlying51, asIntOf, hn, go_sem]
  rw [if_pos hi, hv]
  rfl
/-- Which blocks of an elder world a round leaves alone. -/
theorem Wr.keep {w wr w2 : World} {v : Value} {l : List Int} (h : Wr w.heap.size wr w.heap.size v l) (hb : Below w.heap.size w wr) (hf : Fr (fun k => k = w.heap.size ∨ v.ownBlock = some k) wr w2) : Below w.heap.size w w2 :=
  Fr.below hb hf (fun k hk e => by
    rcases e with e | e
    · omega
    · have := own_base h.row k e; omega)
set_option maxHeartbeats 8000000 in
theorem uname_any (w : World) : Calls Try.prog 26 #[] w fun e w' => ∃ v l, e = .returned v ∧ l.length = 390 ∧ Own w.heap.size w' v l ∧ Below w.heap.size w w' := by
  have x0 : ∀ W : World, (Instr.index 51 (.agg #[.string ⟨#[76, 105, 110, 117, 120]⟩, .string ⟨#[109, 97, 114, 105, 111, 110, 101, 116, 116, 101]⟩, .string ⟨#[54, 46, 49, 46, 48]⟩, .string ⟨#[35, 49]⟩, .string ⟨#[114, 105, 115, 99, 118, 54, 52]⟩, .string ⟨#[40, 110, 111, 110, 101, 41]⟩]) (.int .i64 0)).run Try.prog W = .ok (.string ⟨#[76, 105, 110, 117, 120]⟩) W := fun W => idx51 _ 0 rfl (by decide) _ rfl W
  have x1 : ∀ W : World, (Instr.index 51 (.agg #[.string ⟨#[76, 105, 110, 117, 120]⟩, .string ⟨#[109, 97, 114, 105, 111, 110, 101, 116, 116, 101]⟩, .string ⟨#[54, 46, 49, 46, 48]⟩, .string ⟨#[35, 49]⟩, .string ⟨#[114, 105, 115, 99, 118, 54, 52]⟩, .string ⟨#[40, 110, 111, 110, 101, 41]⟩]) (.int .i64 1)).run Try.prog W = .ok (.string ⟨#[109, 97, 114, 105, 111, 110, 101, 116, 116, 101]⟩) W := fun W => idx51 _ 1 rfl (by decide) _ rfl W
  have x2 : ∀ W : World, (Instr.index 51 (.agg #[.string ⟨#[76, 105, 110, 117, 120]⟩, .string ⟨#[109, 97, 114, 105, 111, 110, 101, 116, 116, 101]⟩, .string ⟨#[54, 46, 49, 46, 48]⟩, .string ⟨#[35, 49]⟩, .string ⟨#[114, 105, 115, 99, 118, 54, 52]⟩, .string ⟨#[40, 110, 111, 110, 101, 41]⟩]) (.int .i64 2)).run Try.prog W = .ok (.string ⟨#[54, 46, 49, 46, 48]⟩) W := fun W => idx51 _ 2 rfl (by decide) _ rfl W
  have x3 : ∀ W : World, (Instr.index 51 (.agg #[.string ⟨#[76, 105, 110, 117, 120]⟩, .string ⟨#[109, 97, 114, 105, 111, 110, 101, 116, 116, 101]⟩, .string ⟨#[54, 46, 49, 46, 48]⟩, .string ⟨#[35, 49]⟩, .string ⟨#[114, 105, 115, 99, 118, 54, 52]⟩, .string ⟨#[40, 110, 111, 110, 101, 41]⟩]) (.int .i64 3)).run Try.prog W = .ok (.string ⟨#[35, 49]⟩) W := fun W => idx51 _ 3 rfl (by decide) _ rfl W
  have x4 : ∀ W : World, (Instr.index 51 (.agg #[.string ⟨#[76, 105, 110, 117, 120]⟩, .string ⟨#[109, 97, 114, 105, 111, 110, 101, 116, 116, 101]⟩, .string ⟨#[54, 46, 49, 46, 48]⟩, .string ⟨#[35, 49]⟩, .string ⟨#[114, 105, 115, 99, 118, 54, 52]⟩, .string ⟨#[40, 110, 111, 110, 101, 41]⟩]) (.int .i64 4)).run Try.prog W = .ok (.string ⟨#[114, 105, 115, 99, 118, 54, 52]⟩) W := fun W => idx51 _ 4 rfl (by decide) _ rfl W
  have x5 : ∀ W : World, (Instr.index 51 (.agg #[.string ⟨#[76, 105, 110, 117, 120]⟩, .string ⟨#[109, 97, 114, 105, 111, 110, 101, 116, 116, 101]⟩, .string ⟨#[54, 46, 49, 46, 48]⟩, .string ⟨#[35, 49]⟩, .string ⟨#[114, 105, 115, 99, 118, 54, 52]⟩, .string ⟨#[40, 110, 111, 110, 101, 41]⟩]) (.int .i64 5)).run Try.prog W = .ok (.string ⟨#[40, 110, 111, 110, 101, 41]⟩) W := fun W => idx51 _ 5 rfl (by decide) _ rfl W
  go_enter Try.func26, Try.ntmps26
  go_wp2_with fail
  have hst : Hid (Wr w.heap.size (w.alloc (.cells #[.slice none 0 0] 47)) w.heap.size (.slice none 0 0) [] ∧ Below w.heap.size w (w.alloc (.cells #[.slice none 0 0] 47))) :=
    Lib.hid ⟨⟨Blk.new w _ _, own_nil _ _ _ _, Nat.le_refl _⟩, (Below.refl _ _).alloc (Nat.le_refl _) _⟩
  go_loopw [6] (fun i wr => ∃ k : Nat, k ≤ 6 ∧ i = .int .i64 k ∧ ∃ v l, Hid (Wr w.heap.size wr w.heap.size v l ∧ l.length = 65 * k ∧ Below w.heap.size w wr)) (fun i _ => 6 - (intOf i).toNat)
  case atStart => exact ⟨0, by omega, rfl, _, [], Lib.hid ⟨hst.out.1, rfl, hst.out.2⟩⟩
  case round =>
    obtain ⟨k, hk, rfl, v, l, HI⟩ := hrel
    clear hst
    obtain ⟨A1, c1, rfl, _, _⟩ := (own_row HI.out.1.row).slice
    have k0 := HI.out.1.blk.cell 0
    have f0 := HI.out.1.blk.frozen 0
    simp at k0
    have hll : l.length ≤ 1000 := by have := HI.out.2.1; omega
    rcases k with _|_|_|_|_|_|_|k
    · clear x1 x2 x3 x4 x5
      go_wp2_with ((with_reducible refine gate_builtin (b := .append) (xs := #[.tmp 13, .tmp 14]) rfl ?_); (try (refine gate_guard (by rfl) ?_; dsimp only)); at_builtin; refine print_append_str (w0 := wr) w.heap.size rfl (.tmp 13) (.tmp 14) 23 9 5 rfl Try.underlying23 Try.underlying9 info5 (.slice A1 l.length c1) l ⟨#[76, 105, 110, 117, 120]⟩ rfl rfl HI.out.1.row (Below.refl _ _) HI.out.2.2.size (by show l.length + 5 ≤ _; omega) ?_; intro v1 w1 ho1 _ hg1; obtain ⟨l1, hl1⟩ : ∃ l1, l1 = l ++ bytesOf ⟨#[76, 105, 110, 117, 120]⟩ := ⟨_, rfl⟩; rw [← hl1] at ho1; have HL1 := Lib.hid hl1; have HA := Lib.hid (HI.out.1.grow ho1 ((Fr.refl _ _).grown hg1 (fun b hb => .inl hb))); obtain ⟨A2, c2, rfl, _, _⟩ := (own_row ho1).slice; have k0' := HA.out.1.cell 0; have f0' := HA.out.1.frozen 0; simp at k0'; clear ho1 hg1 hl1)
      have hlen : l1.length = l.length + 5 := by rw [HL1.out, List.length_append, bytesOf_length]; rfl
      refine (fill_any w.heap.size _ w.heap.size _ l1 ((l.length : Int) + 65) 60 HA.out.2.1 (HI.out.1.keep HI.out.2.2 HA.out.2.2).size (by omega) (by omega)).mono ?_
      rintro e w3 ⟨rfl, v3, hW3, hF3⟩
      obtain ⟨l3, hl3⟩ : ∃ l3, l3 = l1 ++ List.replicate 60 0 := ⟨_, rfl⟩
      have hlen3 : l3.length = 65 * 1 := by rw [hl3, List.length_append, List.length_replicate, hlen, HI.out.2.1]
      have HN := Lib.hid (show Wr w.heap.size w3 w.heap.size v3 l3 ∧ l3.length = 65 * 1 ∧ Below w.heap.size w w3 from ⟨hl3 ▸ hW3, hlen3, HA.out.2.1.keep (HI.out.1.keep HI.out.2.2 HA.out.2.2) hF3⟩)
      clear hW3 hF3 hl3 hlen3 hlen
      go_wp2_with fail
      go_roundw
      case rel => exact ⟨1, by omega, by rfl, v3, l3, HN⟩
      case measure => simp [intOf]
    · clear x0 x2 x3 x4 x5
      go_wp2_with ((with_reducible refine gate_builtin (b := .append) (xs := #[.tmp 13, .tmp 14]) rfl ?_); (try (refine gate_guard (by rfl) ?_; dsimp only)); at_builtin; refine print_append_str (w0 := wr) w.heap.size rfl (.tmp 13) (.tmp 14) 23 9 5 rfl Try.underlying23 Try.underlying9 info5 (.slice A1 l.length c1) l ⟨#[109, 97, 114, 105, 111, 110, 101, 116, 116, 101]⟩ rfl rfl HI.out.1.row (Below.refl _ _) HI.out.2.2.size (by show l.length + 10 ≤ _; omega) ?_; intro v1 w1 ho1 _ hg1; obtain ⟨l1, hl1⟩ : ∃ l1, l1 = l ++ bytesOf ⟨#[109, 97, 114, 105, 111, 110, 101, 116, 116, 101]⟩ := ⟨_, rfl⟩; rw [← hl1] at ho1; have HL1 := Lib.hid hl1; have HA := Lib.hid (HI.out.1.grow ho1 ((Fr.refl _ _).grown hg1 (fun b hb => .inl hb))); obtain ⟨A2, c2, rfl, _, _⟩ := (own_row ho1).slice; have k0' := HA.out.1.cell 0; have f0' := HA.out.1.frozen 0; simp at k0'; clear ho1 hg1 hl1)
      have hlen : l1.length = l.length + 10 := by rw [HL1.out, List.length_append, bytesOf_length]; rfl
      refine (fill_any w.heap.size _ w.heap.size _ l1 ((l.length : Int) + 65) 55 HA.out.2.1 (HI.out.1.keep HI.out.2.2 HA.out.2.2).size (by omega) (by omega)).mono ?_
      rintro e w3 ⟨rfl, v3, hW3, hF3⟩
      obtain ⟨l3, hl3⟩ : ∃ l3, l3 = l1 ++ List.replicate 55 0 := ⟨_, rfl⟩
      have hlen3 : l3.length = 65 * 2 := by rw [hl3, List.length_append, List.length_replicate, hlen, HI.out.2.1]
      have HN := Lib.hid (show Wr w.heap.size w3 w.heap.size v3 l3 ∧ l3.length = 65 * 2 ∧ Below w.heap.size w w3 from ⟨hl3 ▸ hW3, hlen3, HA.out.2.1.keep (HI.out.1.keep HI.out.2.2 HA.out.2.2) hF3⟩)
      clear hW3 hF3 hl3 hlen3 hlen
      go_wp2_with fail
      go_roundw
      case rel => exact ⟨2, by omega, by rfl, v3, l3, HN⟩
      case measure => simp [intOf]
    · clear x0 x1 x3 x4 x5
      go_wp2_with ((with_reducible refine gate_builtin (b := .append) (xs := #[.tmp 13, .tmp 14]) rfl ?_); (try (refine gate_guard (by rfl) ?_; dsimp only)); at_builtin; refine print_append_str (w0 := wr) w.heap.size rfl (.tmp 13) (.tmp 14) 23 9 5 rfl Try.underlying23 Try.underlying9 info5 (.slice A1 l.length c1) l ⟨#[54, 46, 49, 46, 48]⟩ rfl rfl HI.out.1.row (Below.refl _ _) HI.out.2.2.size (by show l.length + 5 ≤ _; omega) ?_; intro v1 w1 ho1 _ hg1; obtain ⟨l1, hl1⟩ : ∃ l1, l1 = l ++ bytesOf ⟨#[54, 46, 49, 46, 48]⟩ := ⟨_, rfl⟩; rw [← hl1] at ho1; have HL1 := Lib.hid hl1; have HA := Lib.hid (HI.out.1.grow ho1 ((Fr.refl _ _).grown hg1 (fun b hb => .inl hb))); obtain ⟨A2, c2, rfl, _, _⟩ := (own_row ho1).slice; have k0' := HA.out.1.cell 0; have f0' := HA.out.1.frozen 0; simp at k0'; clear ho1 hg1 hl1)
      have hlen : l1.length = l.length + 5 := by rw [HL1.out, List.length_append, bytesOf_length]; rfl
      refine (fill_any w.heap.size _ w.heap.size _ l1 ((l.length : Int) + 65) 60 HA.out.2.1 (HI.out.1.keep HI.out.2.2 HA.out.2.2).size (by omega) (by omega)).mono ?_
      rintro e w3 ⟨rfl, v3, hW3, hF3⟩
      obtain ⟨l3, hl3⟩ : ∃ l3, l3 = l1 ++ List.replicate 60 0 := ⟨_, rfl⟩
      have hlen3 : l3.length = 65 * 3 := by rw [hl3, List.length_append, List.length_replicate, hlen, HI.out.2.1]
      have HN := Lib.hid (show Wr w.heap.size w3 w.heap.size v3 l3 ∧ l3.length = 65 * 3 ∧ Below w.heap.size w w3 from ⟨hl3 ▸ hW3, hlen3, HA.out.2.1.keep (HI.out.1.keep HI.out.2.2 HA.out.2.2) hF3⟩)
      clear hW3 hF3 hl3 hlen3 hlen
      go_wp2_with fail
      go_roundw
      case rel => exact ⟨3, by omega, by rfl, v3, l3, HN⟩
      case measure => simp [intOf]
    · clear x0 x1 x2 x4 x5
      go_wp2_with ((with_reducible refine gate_builtin (b := .append) (xs := #[.tmp 13, .tmp 14]) rfl ?_); (try (refine gate_guard (by rfl) ?_; dsimp only)); at_builtin; refine print_append_str (w0 := wr) w.heap.size rfl (.tmp 13) (.tmp 14) 23 9 5 rfl Try.underlying23 Try.underlying9 info5 (.slice A1 l.length c1) l ⟨#[35, 49]⟩ rfl rfl HI.out.1.row (Below.refl _ _) HI.out.2.2.size (by show l.length + 2 ≤ _; omega) ?_; intro v1 w1 ho1 _ hg1; obtain ⟨l1, hl1⟩ : ∃ l1, l1 = l ++ bytesOf ⟨#[35, 49]⟩ := ⟨_, rfl⟩; rw [← hl1] at ho1; have HL1 := Lib.hid hl1; have HA := Lib.hid (HI.out.1.grow ho1 ((Fr.refl _ _).grown hg1 (fun b hb => .inl hb))); obtain ⟨A2, c2, rfl, _, _⟩ := (own_row ho1).slice; have k0' := HA.out.1.cell 0; have f0' := HA.out.1.frozen 0; simp at k0'; clear ho1 hg1 hl1)
      have hlen : l1.length = l.length + 2 := by rw [HL1.out, List.length_append, bytesOf_length]; rfl
      refine (fill_any w.heap.size _ w.heap.size _ l1 ((l.length : Int) + 65) 63 HA.out.2.1 (HI.out.1.keep HI.out.2.2 HA.out.2.2).size (by omega) (by omega)).mono ?_
      rintro e w3 ⟨rfl, v3, hW3, hF3⟩
      obtain ⟨l3, hl3⟩ : ∃ l3, l3 = l1 ++ List.replicate 63 0 := ⟨_, rfl⟩
      have hlen3 : l3.length = 65 * 4 := by rw [hl3, List.length_append, List.length_replicate, hlen, HI.out.2.1]
      have HN := Lib.hid (show Wr w.heap.size w3 w.heap.size v3 l3 ∧ l3.length = 65 * 4 ∧ Below w.heap.size w w3 from ⟨hl3 ▸ hW3, hlen3, HA.out.2.1.keep (HI.out.1.keep HI.out.2.2 HA.out.2.2) hF3⟩)
      clear hW3 hF3 hl3 hlen3 hlen
      go_wp2_with fail
      go_roundw
      case rel => exact ⟨4, by omega, by rfl, v3, l3, HN⟩
      case measure => simp [intOf]
    · clear x0 x1 x2 x3 x5
      go_wp2_with ((with_reducible refine gate_builtin (b := .append) (xs := #[.tmp 13, .tmp 14]) rfl ?_); (try (refine gate_guard (by rfl) ?_; dsimp only)); at_builtin; refine print_append_str (w0 := wr) w.heap.size rfl (.tmp 13) (.tmp 14) 23 9 5 rfl Try.underlying23 Try.underlying9 info5 (.slice A1 l.length c1) l ⟨#[114, 105, 115, 99, 118, 54, 52]⟩ rfl rfl HI.out.1.row (Below.refl _ _) HI.out.2.2.size (by show l.length + 7 ≤ _; omega) ?_; intro v1 w1 ho1 _ hg1; obtain ⟨l1, hl1⟩ : ∃ l1, l1 = l ++ bytesOf ⟨#[114, 105, 115, 99, 118, 54, 52]⟩ := ⟨_, rfl⟩; rw [← hl1] at ho1; have HL1 := Lib.hid hl1; have HA := Lib.hid (HI.out.1.grow ho1 ((Fr.refl _ _).grown hg1 (fun b hb => .inl hb))); obtain ⟨A2, c2, rfl, _, _⟩ := (own_row ho1).slice; have k0' := HA.out.1.cell 0; have f0' := HA.out.1.frozen 0; simp at k0'; clear ho1 hg1 hl1)
      have hlen : l1.length = l.length + 7 := by rw [HL1.out, List.length_append, bytesOf_length]; rfl
      refine (fill_any w.heap.size _ w.heap.size _ l1 ((l.length : Int) + 65) 58 HA.out.2.1 (HI.out.1.keep HI.out.2.2 HA.out.2.2).size (by omega) (by omega)).mono ?_
      rintro e w3 ⟨rfl, v3, hW3, hF3⟩
      obtain ⟨l3, hl3⟩ : ∃ l3, l3 = l1 ++ List.replicate 58 0 := ⟨_, rfl⟩
      have hlen3 : l3.length = 65 * 5 := by rw [hl3, List.length_append, List.length_replicate, hlen, HI.out.2.1]
      have HN := Lib.hid (show Wr w.heap.size w3 w.heap.size v3 l3 ∧ l3.length = 65 * 5 ∧ Below w.heap.size w w3 from ⟨hl3 ▸ hW3, hlen3, HA.out.2.1.keep (HI.out.1.keep HI.out.2.2 HA.out.2.2) hF3⟩)
      clear hW3 hF3 hl3 hlen3 hlen
      go_wp2_with fail
      go_roundw
      case rel => exact ⟨5, by omega, by rfl, v3, l3, HN⟩
      case measure => simp [intOf]
    · clear x0 x1 x2 x3 x4
      go_wp2_with ((with_reducible refine gate_builtin (b := .append) (xs := #[.tmp 13, .tmp 14]) rfl ?_); (try (refine gate_guard (by rfl) ?_; dsimp only)); at_builtin; refine print_append_str (w0 := wr) w.heap.size rfl (.tmp 13) (.tmp 14) 23 9 5 rfl Try.underlying23 Try.underlying9 info5 (.slice A1 l.length c1) l ⟨#[40, 110, 111, 110, 101, 41]⟩ rfl rfl HI.out.1.row (Below.refl _ _) HI.out.2.2.size (by show l.length + 6 ≤ _; omega) ?_; intro v1 w1 ho1 _ hg1; obtain ⟨l1, hl1⟩ : ∃ l1, l1 = l ++ bytesOf ⟨#[40, 110, 111, 110, 101, 41]⟩ := ⟨_, rfl⟩; rw [← hl1] at ho1; have HL1 := Lib.hid hl1; have HA := Lib.hid (HI.out.1.grow ho1 ((Fr.refl _ _).grown hg1 (fun b hb => .inl hb))); obtain ⟨A2, c2, rfl, _, _⟩ := (own_row ho1).slice; have k0' := HA.out.1.cell 0; have f0' := HA.out.1.frozen 0; simp at k0'; clear ho1 hg1 hl1)
      have hlen : l1.length = l.length + 6 := by rw [HL1.out, List.length_append, bytesOf_length]; rfl
      refine (fill_any w.heap.size _ w.heap.size _ l1 ((l.length : Int) + 65) 59 HA.out.2.1 (HI.out.1.keep HI.out.2.2 HA.out.2.2).size (by omega) (by omega)).mono ?_
      rintro e w3 ⟨rfl, v3, hW3, hF3⟩
      obtain ⟨l3, hl3⟩ : ∃ l3, l3 = l1 ++ List.replicate 59 0 := ⟨_, rfl⟩
      have hlen3 : l3.length = 65 * 6 := by rw [hl3, List.length_append, List.length_replicate, hlen, HI.out.2.1]
      have HN := Lib.hid (show Wr w.heap.size w3 w.heap.size v3 l3 ∧ l3.length = 65 * 6 ∧ Below w.heap.size w w3 from ⟨hl3 ▸ hW3, hlen3, HA.out.2.1.keep (HI.out.1.keep HI.out.2.2 HA.out.2.2) hF3⟩)
      clear hW3 hF3 hl3 hlen3 hlen
      go_wp2_with fail
      go_roundw
      case rel => exact ⟨6, by omega, by rfl, v3, l3, HN⟩
      case measure => simp [intOf]
    · go_wp2_with fail
      go_ret
      exact ⟨_, l, rfl, by rw [HI.out.2.1], HI.out.1.row, HI.out.2.2⟩
    · omega
end Go.Proofs.Ytbblamabipabeaa.Mar
