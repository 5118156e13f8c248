/- The builder of a stack: add, walked. -/
import Derived.Test.YtnoeehdccknhnaaStA
namespace Go.Proofs.Ytnoeehdccknhnaa.St
open Go Go.RowKit Go.Proofs.YtnoeehdccknhnaaW.PrintWords Go.Proofs.YtnoeehdccknhnaaW.PrintLast Go.Proofs.YtnoeehdccknhnaaW.PrintMore
open Go.Proofs.Ytnoeehdccknhnaa.Hp
attribute [local go_sem] max2_int min2_int max_two min_two max_three min_three max_four min_four
set_option linter.unusedVariables false
set_option linter.unusedSimpArgs false
theorem info8 : (Try.prog.info? 5 ).map (fun i => (i.zero, i.size, i.bytes)) = some (some (.int .u8 0), 1, 1) := by kernel_rfl
theorem info64 : (Try.prog.info? 23 ).map (fun i => (i.zero, i.size, i.bytes)) = some (some (.int .u64 0), 1, 8) := by kernel_rfl
theorem Row.typed {w : World} {e : TypeId} {k : IntKind} {v : Value} {l : List Int} (h : Row w e k v l) : ∀ b, v.ownBlock = some b → ∃ cs, Blk w b e cs := fun b hb => own_typed h b hb
theorem Row.ne {w : World} {e e' : TypeId} {k k' : IntKind} {v v' : Value} {l l' : List Int} (h : Row w e k v l) (h' : Row w e' k' v' l') (he : e ≠ e') : ∀ b, v.ownBlock = some b → v'.ownBlock = some b → False := fun b h1 h2 => by
  obtain ⟨cs, hb⟩ := Row.typed h' b h2
  exact h.ne_blk hb he b h1 rfl
/-- Append a text's bytes. -/
theorem row_app_str {P : Program} {ops : Array Oper} {rest : List Oper} {o : Oper} {a : Act} {Q : Exit → Act → World → Prop} {W : World} (B : Nat) (hgd : o.guard = none) (s x : Operand) (t u e : TypeId)
    (ho : o.op = .call { callee := .builtin .append, args := #[s, x], argTypes := #[t, u] })
    (ht : P.underlying t = some (.slice e)) (hu : P.underlying u = some .string) (hinfo : (P.info? e).map (fun i => (i.zero, i.size, i.bytes)) = some (some (.int .u8 0), 1, 1))
    (v : Value) (xs : List Int) (y : ByteArray) (hs : a.eval s = v) (hx : a.eval x = .string y)
    (HO : Row W e .u8 v xs) (hB : ∀ b, v.ownBlock = some b → B ≤ b) (hb : B ≤ W.heap.size) (hl : xs.length + y.size ≤ 140737488355328)
    (h : ∀ v1 w1, Row w1 e .u8 v1 (xs ++ bytesOf y) → Fr (fun b => v.ownBlock = some b) W w1 → (∀ b, v1.ownBlock = some b → B ≤ b) → wpList P ops Q rest (a.put o.dst v1) w1) :
    wpList P ops Q (o :: rest) a W := by
  have HO' : W.ownsRow B e 1 v xs.length (nums .u8 xs) := by
    obtain ⟨h1, h2⟩ := HO
    refine ⟨h1, ?_⟩
    rcases h2 with h2 | ⟨g, cap, cur, rfl, _, hh, h3⟩
    · exact .inl h2
    · exact .inr ⟨g, cap, cur, rfl, hB g rfl, hh, h3⟩
  refine print_append_str (w0 := W) B hgd s x t u e ho ht hu hinfo v xs y hs hx HO' (Below.refl _ _) hb hl ?_
  intro v1 w1 h1 _ hg
  refine h v1 w1 ?_ ((Fr.refl _ _).grown hg (fun b hb => .inl hb)) ?_
  · obtain ⟨k1, k2⟩ := h1
    refine ⟨k1, ?_⟩
    rcases k2 with k2 | ⟨g, cap, cur, rfl, _, hh, h3⟩
    · exact .inl k2
    · exact .inr ⟨g, cap, cur, rfl, Nat.zero_le _, hh, h3⟩
  · intro b hb1
    rcases h1.2 with ⟨rfl, _⟩ | ⟨g, cap, cur, rfl, hbb, _⟩
    · simp [Value.ownBlock] at hb1
    · have : g = b := by simpa [Value.ownBlock] using hb1
      omega
/-- A builder: texts and words, in blocks from B on. -/
structure Bld (w : World) (B g : Nat) (T W : List Int) (tv wv : Value) : Prop where
  blk : Blk w g 55 #[tv, wv]
  tx : Row w 5 .u8 tv T
  wd : Row w 23 .u64 wv W
  tb : ∀ b, tv.ownBlock = some b → B ≤ b
  wb : ∀ b, wv.ownBlock = some b → B ≤ b
  gb : B ≤ g
theorem Bld.fr {w w' : World} {B g : Nat} {T W : List Int} {tv wv : Value} (h : Bld w B g T W tv wv) (hf : Fr (fun _ => False) w w') : Bld w' B g T W tv wv :=
  ⟨h.blk.fr hf id, h.tx.fr hf (fun _ _ => id), h.wd.fr hf (fun _ _ => id), h.tb, h.wb, h.gb⟩
/-- Behind an append to the words, and its store. -/
theorem Bld.words {w w1 : World} {B g : Nat} {T W W1 : List Int} {tv wv wv1 : Value} (h : Bld w B g T W tv wv) (hB : B ≤ w.heap.size) (hr : Row w1 23 .u64 wv1 W1) (hf : Fr (fun b => wv.ownBlock = some b) w w1) (hat : wv1.ownBlock = wv.ownBlock ∨ ∃ b, wv1.ownBlock = some b ∧ w.heap.size ≤ b) :
    Blk w1 g 55 #[tv, wv] ∧ Bld (w1.setCell ⟨g, 1, none⟩ wv1) B g T W1 tv wv1 ∧ Fr (fun k => B ≤ k) w (w1.setCell ⟨g, 1, none⟩ wv1) := by
  have hb := h.blk.fr hf (fun e => h.wd.ne_blk h.blk (by decide) g e rfl)
  have hs := hb.set 1 wv1
  have ht := h.tx.fr hf (fun b e1 e2 => Row.ne h.tx h.wd (by decide) b e1 e2)
  have hfr : Fr (fun k => k = g) w1 (w1.setCell ⟨g, 1, none⟩ wv1) := (Fr.refl (fun k => k = g) w1).setCell (p := ⟨g, 1, none⟩) (.inl rfl) wv1
  refine ⟨hb, ⟨by simpa using hs, ht.fr hfr (fun b e => ht.ne_blk hb (by decide) b e), hr.fr hfr (fun b e => hr.ne_blk hb (by decide) b e), h.tb, fun b e => ?_, h.gb⟩, ?_⟩
  · rcases hat with hat | ⟨b', e', hle⟩
    · exact h.wb b (hat ▸ e)
    · rw [e] at e'
      cases e'
      omega
  · exact (hf.mono (fun k _ hk => h.wb k hk)).trans hfr (fun k _ hk => by subst hk; exact h.gb)
/-- Behind an append to the texts, and its store. -/
theorem Bld.texts {w w1 : World} {B g : Nat} {T W T1 : List Int} {tv wv tv1 : Value} (h : Bld w B g T W tv wv) (hr : Row w1 5 .u8 tv1 T1) (hf : Fr (fun b => B ≤ b ∧ (∀ cs, w.heap[b]? ≠ some (Obj.cells cs 55 (0, 0))) ∧ (∀ cs, w.heap[b]? ≠ some (Obj.cells cs 23 (0, 0)))) w w1) (hat : ∀ b, tv1.ownBlock = some b → B ≤ b) :
    Blk w1 g 55 #[tv, wv] ∧ Bld (w1.setCell ⟨g, 0, none⟩ tv1) B g T1 W tv1 wv ∧ Fr (fun k => B ≤ k) w (w1.setCell ⟨g, 0, none⟩ tv1) := by
  have hb := h.blk.fr hf (fun e => e.2.1 _ h.blk)
  have hs := hb.set 0 tv1
  have hw := h.wd.fr hf (fun b e1 e2 => by
    obtain ⟨cs, hc⟩ := Row.typed h.wd b e1
    exact e2.2.2 cs hc)
  have hfr : Fr (fun k => k = g) w1 (w1.setCell ⟨g, 0, none⟩ tv1) := (Fr.refl (fun k => k = g) w1).setCell (p := ⟨g, 0, none⟩) (.inl rfl) tv1
  refine ⟨hb, ⟨by simpa using hs, hr.fr hfr (fun b e => hr.ne_blk hb (by decide) b e), hw.fr hfr (fun b e => hw.ne_blk hb (by decide) b e), hat, h.wb, h.gb⟩, ?_⟩
  exact (hf.mono (fun k _ hk => hk.1)).trans hfr (fun k _ hk => by subst hk; exact h.gb)
/-- A text, with a 0 behind it; texts one after the other. -/
def txOf : List ByteArray → List Int
  | [] => []
  | s :: r => bytesOf s ++ [0] ++ txOf r
/-- Where texts lie, the first one n behind the base. -/
def plOf (base : Int) (n : Nat) : List ByteArray → List Int
  | [] => []
  | s :: r => (base + n) :: plOf base (n + (s.size + 1)) r
theorem txOf_length (l : List ByteArray) : (txOf l).length = szOf l := by
  induction l with
  | nil => rfl
  | cons s r ih => simp only [txOf, szOf, List.length_append, List.length_cons, List.length_nil, bytesOf_length, ih]
theorem plOf_length (base : Int) (l : List ByteArray) : ∀ n, (plOf base n l).length = l.length := by
  induction l with
  | nil => intro n; rfl
  | cons s r ih => intro n; simp only [plOf, List.length_cons, ih]
theorem txOf_snoc (l : List ByteArray) (s : ByteArray) : txOf (l ++ [s]) = txOf l ++ bytesOf s ++ [0] := by
  induction l with
  | nil => simp [txOf]
  | cons a r ih => simp only [List.cons_append, txOf, ih, List.append_assoc]
theorem plOf_snoc (base : Int) (l : List ByteArray) (s : ByteArray) : ∀ n, plOf base n (l ++ [s]) = plOf base n l ++ [base + ((n + szOf l : Nat) : Int)] := by
  induction l with
  | nil => intro n; simp [plOf, szOf]
  | cons a r ih => intro n; simp only [List.cons_append, plOf, ih, szOf, Nat.add_assoc]
theorem below_fr {o a b : World} (h : Below o.heap.size o a) (hf : Fr (fun k => o.heap.size ≤ k) a b) : Below o.heap.size o b := Fr.below h hf (fun k hk hn => by omega)
theorem szOf_take (l : List ByteArray) (i : Nat) : szOf (l.take i) ≤ szOf l := by
  conv => rhs; rw [← List.take_append_drop i l, szOf_append]
  omega
theorem fr_two {w2 w3 w4 : World} {B g : Nat} {T W l3 : List Int} {tv wv v3 : Value} {o : Obj} (HD : Bld w2 B g T W tv wv) (h3 : Row w3 5 .u8 v3 l3) (f3 : Fr (fun b => tv.ownBlock = some b) w2 w3) (b3 : ∀ b, v3.ownBlock = some b → B ≤ b) (f4 : Fr (fun b => v3.ownBlock = some b) (w3.alloc o) w4) :
    Fr (fun b => B ≤ b ∧ (∀ cs, w2.heap[b]? ≠ some (Obj.cells cs 55 (0, 0))) ∧ (∀ cs, w2.heap[b]? ≠ some (Obj.cells cs 23 (0, 0)))) w2 w4 := by
  have typ : ∀ b : Nat, (∃ cs : Array Value, w2.heap[b]? = some (Obj.cells cs 5 (0, 0))) → (∀ cs, w2.heap[b]? ≠ some (Obj.cells cs 55 (0, 0))) ∧ (∀ cs, w2.heap[b]? ≠ some (Obj.cells cs 23 (0, 0))) := by
    rintro b ⟨cs, e⟩
    refine ⟨fun cs' e' => ?_, fun cs' e' => ?_⟩
    all_goals
      rw [e] at e'
      injection e' with e'
      injection e' with _ e2
      exact absurd e2 (by decide)
  have s3 : ∀ k, k < w2.heap.size → tv.ownBlock = some k → B ≤ k ∧ (∀ cs, w2.heap[k]? ≠ some (Obj.cells cs 55 (0, 0))) ∧ (∀ cs, w2.heap[k]? ≠ some (Obj.cells cs 23 (0, 0))) := fun k _ e => ⟨HD.tb k e, typ k (Row.typed HD.tx k e)⟩
  refine ((f3.mono s3).alloc o).trans f4 (fun i hi e => ?_)
  by_cases ht : tv.ownBlock = some i
  · exact s3 i hi ht
  · obtain ⟨cs, hc⟩ := Row.typed h3 i e
    exact ⟨b3 i e, typ i ⟨cs, by rw [← f3.block i hi ht]; exact hc⟩⟩
theorem own_hat {B n : Nat} {v v' : Value} (hb : ∀ b, v.ownBlock = some b → B ≤ b) (hn : B ≤ n) (hat : v'.ownBlock = v.ownBlock ∨ ∃ b, v'.ownBlock = some b ∧ n ≤ b) : ∀ b, v'.ownBlock = some b → B ≤ b := by
  intro b e
  rcases hat with hat | ⟨b', e', hle⟩
  · exact hb b (hat ▸ e)
  · rw [e] at e'
    cases e'
    omega
def AtAdd (w0 : World) (g : Nat) (T W : List Int) (base : Int) (l : List ByteArray) (i : Value) (kq : Nat) (wr : World) : Prop := ∃ (k : Nat) (tv wv : Value), i = .int .i64 k ∧ k ≤ l.length ∧ l.length - k ≤ kq ∧
  Bld wr w0.heap.size g (T ++ txOf (l.take k)) (W ++ plOf base T.length (l.take k)) tv wv ∧ Below w0.heap.size w0 wr
set_option maxHeartbeats 4000000 in
theorem add_any (w0 : World) (g : Nat) (T W : List Int) (tv wv : Value) (base : Int) (A : Option Addr) (c : Nat) (l : List ByteArray) (w : World) (h : Bld w w0.heap.size g T W tv wv) (hb : Below w0.heap.size w0 w)
    (hC : Kd.string.C w0 A l.length l) (hc : l.length ≤ c) (hT : T.length + szOf l ≤ 1000000) (hW : W.length + l.length ≤ 1000000) (hb0 : 0 ≤ base) (hb1 : base ≤ 4611686018427387904) :
    Calls Try.prog 19 #[.pointer (some ⟨g, 0, none⟩), .int .u64 base, .slice A l.length c] w fun e w' => ∃ tv' wv', e = .returned (.tuple #[]) ∧ Bld w' w0.heap.size g (T ++ txOf l) (W ++ plOf base T.length l ++ [0]) tv' wv' ∧ Below w0.heap.size w0 w' := by
  have HR := Lib.hid hC
  have HD := Lib.hid h
  have HB := Lib.hid hb
  have HT := Lib.hid hT
  have HW := Lib.hid hW
  clear h hb hC hc hT hW
  obtain ⟨n, hnn⟩ : ∃ n, l.length = n := ⟨_, rfl⟩
  have HL := Lib.hid hnn
  rw [hnn] at HR HW ⊢
  clear hnn
  have hn6 : n ≤ 1000000 := by have := HW.out; omega
  go_enter Try.func19, Try.ntmps19
  go_wp2_with fail
  go_loopg [10] n (fun kq v10 wr => Hid (AtAdd w0 g T W base l v10 kq wr))
  case atStart => exact Lib.hid ⟨0, tv, wv, rfl, by omega, by rw [HL.out]; omega, by simpa [txOf, plOf] using HD.out, HB.out⟩
  case round =>
    obtain ⟨k, tv1, wv1, rfl, hk1, hk2, hd1, hbl1⟩ := hrel.out
    rw [HL.out] at hk1 hk2
    have HD1 := Lib.hid hd1
    have HB1 := Lib.hid hbl1
    clear hrel hd1 hbl1 HD HB
    by_cases hk : k < n
    · have u1 : decide ((k : Int) < (n : Int)) = true := decide_eq_true (by omega)
      have u1' : decide (k < n) = true := decide_eq_true hk
      have j0 : (0 : Int) ≤ (k : Int) := by omega
      have j1 : (k : Int) < (n : Int) := by omega
      obtain ⟨ad, e2, hx0⟩ := at_S HR.out k hk
      subst e2
      have hx : wr.cell? (ad.add k) = some (.string (rdS l k)) := by
        have q := World.block_lt_of_cell? w0 _ hx0
        rw [World.cell?_of_block (w := w0) (HB1.out.block _ q)]
        exact hx0
      obtain ⟨s, hs⟩ : ∃ s, rdS l k = s := ⟨_, rfl⟩
      have hsz := szOf_mem (l := l) (i := k) (by rw [HL.out]; exact hk)
      have hst := szOf_take l (k + 1)
      rw [take_snoc ByteArray.empty l k (by rw [HL.out]; exact hk), szOf_snoc, show l.getD k ByteArray.empty = s from hs] at hst
      have HSI := Lib.hid hs
      rw [hs] at hx hsz
      clear hs hx0
      obtain ⟨T1, hT1⟩ : ∃ T1, T ++ txOf (l.take k) = T1 := ⟨_, rfl⟩
      obtain ⟨W1, hW1⟩ : ∃ W1, W ++ plOf base T.length (l.take k) = W1 := ⟨_, rfl⟩
      have HT1 := Lib.hid hT1
      have HW1 := Lib.hid hW1
      have hTl : T1.length = T.length + szOf (l.take k) := by rw [← hT1, List.length_append, txOf_length]
      have hWl : W1.length = W.length + k := by rw [← hW1, List.length_append, plOf_length, List.length_take]; have := HL.out; omega
      rw [hT1, hW1] at HD1
      have h1 := HT.out
      have h2 := HW.out
      obtain ⟨tl, htl⟩ : ∃ tl, T1.length = tl := ⟨_, rfl⟩
      obtain ⟨wl, hwl⟩ : ∃ wl, W1.length = wl := ⟨_, rfl⟩
      have HTL := Lib.hid htl
      have HWL := Lib.hid hwl
      rw [htl] at hTl
      rw [hwl] at hWl
      have HTE := Lib.hid hTl
      have b1 : tl + s.size + 1 ≤ 1000000 := by omega
      have b2 : wl + 1 ≤ 1000000 := by omega
      obtain ⟨A1, c1, rfl, hc1, hr1⟩ := HD1.out.tx.slice
      obtain ⟨A2, c2, rfl, hc2, hr2⟩ := HD1.out.wd.slice
      obtain ⟨p0, p1⟩ := (show _ ∧ _ from ⟨HD1.out.blk.cell 0, HD1.out.blk.cell 1⟩)
      obtain ⟨f0, f1⟩ := (show _ ∧ _ from ⟨HD1.out.blk.frozen 0, HD1.out.blk.frozen 1⟩)
      simp at p0 p1
      rw [htl] at p0 hc1
      rw [hwl] at p1 hc2
      have hlen : IntKind.u64.wrap (tl : Int) = (tl : Int) := IntWalk.u64_in _ (by omega)
      have hsum : IntKind.u64.wrap (base + (tl : Int)) = base + (tl : Int) := IntWalk.u64_in _ (by omega)
      rw [htl, hwl] at HD1
      clear hT1 hW1 hr1 hr2 hTl hWl htl hwl h1 h2 hst hsz
      have hlk : k < l.length := by rw [HL.out]; exact hk
      have htn : T ++ txOf (l.take (k + 1)) = T1 ++ bytesOf s ++ [0] := by rw [take_snoc ByteArray.empty l k hlk, txOf_snoc, show l.getD k ByteArray.empty = s from HSI.out, ← HT1.out]; simp only [List.append_assoc]
      have hwn : W ++ plOf base T.length (l.take (k + 1)) = W1 ++ [base + (tl : Int)] := by rw [take_snoc ByteArray.empty l k hlk, plOf_snoc, ← List.append_assoc, HW1.out, HTE.out]
      have HTN := Lib.hid htn
      have HWN := Lib.hid hwn
      clear htn hwn hlk
      have HDA := Lib.hid (HD1.out.fr ((Fr.refl (fun _ => False) wr).alloc (.cells #[.int .u64 (base + (tl : Int))] 23)))
      have HBA := Lib.hid (below_fr HB1.out ((Fr.refl _ _).alloc (.cells #[.int .u64 (base + (tl : Int))] 23)))
      have HRE := Lib.hid (reads_new wr .u64 23 (0, 0) [base + (tl : Int)] (by show 1 ≤ _; decide))
      have hszB := HBA.out.size
      obtain ⟨p0', p1'⟩ := (show _ ∧ _ from ⟨HDA.out.blk.cell 0, HDA.out.blk.cell 1⟩)
      obtain ⟨f0', f1'⟩ := (show _ ∧ _ from ⟨HDA.out.blk.frozen 0, HDA.out.blk.frozen 1⟩)
      simp at p0' p1'
      clear HD1 HB1
      go_wp2_with fail
      go_region_law (refine row_app_step rfl (.tmp 18) (.tmp 27) 53 23 .u64 8 rfl Try.underlying53 info64 (by decide) (.slice A2 wl c2) W1 [base + (tl : Int)] (some ⟨wr.heap.size, 0, none⟩) 1 1 rfl rfl HDA.out.wd HRE.out (by have e := HWL.out; omega) ?_; intro v1 w1 ho1 hf1 hat1; have HA := Lib.hid (Bld.words HDA.out hszB ho1 hf1.undrew hat1); obtain ⟨A3, c3, e3, _, _⟩ := ho1.slice; rw [show (W1 ++ [base + (tl : Int)]).length = wl + 1 from by rw [List.length_append, HWL.out]; rfl] at e3; subst e3; have k1' := HA.out.1.cell 1; have f1'' := HA.out.1.frozen 1; simp at k1'; clear hf1 ho1 hat1)
      all_goals
        have HD2 := Lib.hid HA.out.2.1
        have HB2 := Lib.hid (below_fr HBA.out HA.out.2.2)
        clear HA p0 p1 f0 f1 p0' p1' f0' f1' k1' f1'' HDA HBA HRE
        generalize w1.setCell ⟨g, 1, none⟩ (.slice A3 (wl + 1) c3) = w2 at HD2 HB2 ⊢
        obtain ⟨p0, p1⟩ := (show _ ∧ _ from ⟨HD2.out.blk.cell 0, HD2.out.blk.cell 1⟩)
        obtain ⟨f0, f1⟩ := (show _ ∧ _ from ⟨HD2.out.blk.frozen 0, HD2.out.blk.frozen 1⟩)
        simp at p0 p1
        go_wp2_with (first | (at_builtin; refine row_app_str w0.heap.size rfl (.tmp 35) (.tmp 36) 29 9 5 rfl Try.underlying29 Try.underlying9 info8 (.slice A1 tl c1) T1 s rfl rfl HD2.out.tx HD2.out.tb HB2.out.size (by have e := HTL.out; omega) ?_; intro v3 w3 h3 f3 b3; have H3 := Lib.hid h3; have F3 := Lib.hid f3; have B3 := Lib.hid b3; clear h3 f3 b3; obtain ⟨A4, c4, e4, _, _⟩ := H3.out.slice; rw [show (T1 ++ bytesOf s).length = tl + s.size from by rw [List.length_append, HTL.out, bytesOf_length]] at e4; subst e4) | (at_builtin; refine row_app rfl (.tmp 37) (.tmp 38) 29 5 .u8 1 rfl Try.underlying29 info8 (by decide) (.slice A4 (tl + s.size) c4) (T1 ++ bytesOf s) [0] (some ⟨w3.heap.size, 0, none⟩) 1 1 rfl rfl (H3.out.fr ((Fr.refl (fun _ => False) _).alloc _) (fun _ _ => id)) (reads_new w3 .u8 5 (0, 0) [0] (by decide)) (by have e := HTL.out; rw [List.length_append, bytesOf_length]; omega) ?_; intro v4 w4 h4 f4 hat4; have HA := Lib.hid (Bld.texts HD2.out h4 (fr_two HD2.out H3.out F3.out B3.out f4) (own_hat B3.out (by have e := F3.out.size; have e2 := HB2.out.size; simp; omega) hat4)); obtain ⟨A5, c5, e5, _, _⟩ := h4.slice; rw [show (T1 ++ bytesOf s ++ ([0] : List Int)).length = tl + s.size + 1 from by rw [List.length_append, List.length_append, HTL.out, bytesOf_length]; rfl] at e5; subst e5; have q0 := HA.out.1.cell 0; have g0 := HA.out.1.frozen 0; simp at q0; clear h4 f4 hat4))
        have HB3 := Lib.hid (below_fr HB2.out HA.out.2.2)
        go_roundg (n - (k + 1))
        case measure => omega
        case rel => exact Lib.hid ⟨k + 1, _, _, by go_num, by rw [HL.out]; omega, by rw [HL.out]; omega, by rw [HTN.out, HWN.out]; exact HA.out.2.1, HB3.out⟩
    · obtain rfl : k = n := by omega
      have e0 : l.take k = l := List.take_of_length_le (by rw [HL.out]; exact Nat.le_refl _)
      rw [e0] at HD1
      clear e0
      have u1 : decide ((k : Int) < (k : Int)) = false := decide_eq_false (by omega)
      obtain ⟨T1, hT1⟩ : ∃ T1, T ++ txOf l = T1 := ⟨_, rfl⟩
      obtain ⟨W1, hW1⟩ : ∃ W1, W ++ plOf base T.length l = W1 := ⟨_, rfl⟩
      have hWl : W1.length = W.length + k := by rw [← hW1, List.length_append, plOf_length]; have := HL.out; omega
      rw [hT1, hW1] at HD1
      have HT1 := Lib.hid hT1
      have HW1 := Lib.hid hW1
      clear hT1 hW1
      obtain ⟨wl, hwl⟩ : ∃ wl, W1.length = wl := ⟨_, rfl⟩
      have HWL := Lib.hid hwl
      have b2 : wl ≤ 1000000 := by have := HW.out; omega
      obtain ⟨A2, c2, rfl, hc2, hr2⟩ := HD1.out.wd.slice
      rw [hwl] at HD1 hc2
      clear hWl hwl hr2
      have HDA := Lib.hid (HD1.out.fr ((Fr.refl (fun _ => False) wr).alloc (.cells #[.int .u64 0] 23)))
      have HBA := Lib.hid (below_fr HB1.out ((Fr.refl _ _).alloc (.cells #[.int .u64 0] 23)))
      have HRE := Lib.hid (reads_new wr .u64 23 (0, 0) [0] (by decide))
      have hszB := HBA.out.size
      obtain ⟨p1, f1⟩ := (show _ ∧ _ from ⟨HD1.out.blk.cell 1, HD1.out.blk.frozen 1⟩)
      simp at p1
      clear HD1 HB1
      go_wp2_with (at_builtin; refine row_app rfl (.tmp 47) (.tmp 48) 53 23 .u64 8 rfl Try.underlying53 info64 (by decide) (.slice A2 wl c2) W1 [0] (some ⟨wr.heap.size, 0, none⟩) 1 1 rfl rfl HDA.out.wd HRE.out (by have e := HWL.out; omega) ?_; intro v1 w1 ho1 hf1 hat1; have HA := Lib.hid (Bld.words HDA.out hszB ho1 hf1 hat1); obtain ⟨A3, c3, e3, _, _⟩ := ho1.slice; rw [show (W1 ++ ([0] : List Int)).length = wl + 1 from by rw [List.length_append, HWL.out]; rfl] at e3; subst e3; have k1' := HA.out.1.cell 1; have f1' := HA.out.1.frozen 1; simp at k1'; clear hf1 ho1 hat1)
      go_end0
      exact ⟨_, _, rfl, by rw [HT1.out, HW1.out]; exact HA.out.2.1, below_fr HBA.out HA.out.2.2⟩
end Go.Proofs.Ytnoeehdccknhnaa.St
