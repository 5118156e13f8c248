/- The law StartApart, walked. -/
import Derived.Test.YtnoeehdccknhnaaStO
import Derived.Deep.RegionHeld
import Derived.Deep.CutBlock
import Derived.Deep.DeepCutAuto
import Derived.ChangeMaps5
import Derived.Test.YtnoeehdccknhnaaWGuard
namespace Go.Proofs.Ytnoeehdccknhnaa.St
open Go Go.ChangeShapes Go.WideShapes Go.RowKit Go.Proofs.YtnoeehdccknhnaaW.PrintWords Go.Proofs.YtnoeehdccknhnaaW.PrintLast Go.Proofs.YtnoeehdccknhnaaW.PrintMore
open Go.Proofs.Ytnoeehdccknhnaa.Hp
attribute [local go_sem] max2_int min2_int max_two min_two max_three min_three max_four min_four
set_option linter.unusedVariables false
set_option linter.unusedSimpArgs false
/-- In how many places two lists differ. -/
def diffs : List Int → List Int → Nat
  | a :: r, b :: t => (if a = b then 0 else 1) + diffs r t
  | _, _ => 0
theorem diffs_self (l : List Int) : diffs l l = 0 := by
  induction l with
  | nil => rfl
  | cons a r ih => simp [diffs, ih]
theorem diffs_append (a b c d : List Int) (h : a.length = b.length) : diffs (a ++ c) (b ++ d) = diffs a b + diffs c d := by
  induction a generalizing b with
  | nil =>
    cases b with
    | nil => simp [diffs]
    | cons x y => simp at h
  | cons x y ih =>
    cases b with
    | nil => simp at h
    | cons z t =>
      simp only [List.cons_append, diffs, ih t (by simpa using h), Nat.add_assoc]
theorem int_take' (l : List Int) (i : Nat) (h : i < l.length) : l.take (i + 1) = l.take i ++ [l.getD i 0] := take_snoc 0 l i h
theorem diffs_step (A B : List Int) (i : Nat) (hA : i < A.length) (hB : i < B.length) : diffs (A.take (i + 1)) (B.take (i + 1)) = diffs (A.take i) (B.take i) + (if A.getD i 0 = B.getD i 0 then 0 else 1) := by
  rw [int_take' A i hA, int_take' B i hB, diffs_append _ _ _ _ (by rw [List.length_take, List.length_take]; omega)]
  simp [diffs]
theorem diffs_le (A B : List Int) : diffs A B ≤ A.length := by
  induction A generalizing B with
  | nil => simp [diffs]
  | cons a r ih =>
    cases B with
    | nil => simp [diffs]
    | cons b t =>
      have := ih t
      simp only [diffs, List.length_cons]
      split <;> omega
theorem diffs_out (bs : Int) (W X ra rb : List Int) (h : ra.length = rb.length) : diffs (outOf bs W (X ++ ra)) (outOf bs W (X ++ rb)) = diffs ra rb := by
  unfold outOf
  rw [show (X ++ ra).length = (X ++ rb).length by rw [List.length_append, List.length_append, h]]
  rw [diffs_append _ _ _ _ (by simp only [List.length_append, h]), diffs_self, Nat.add_zero, diffs_append _ _ _ _ rfl, diffs_self, Nat.zero_add, diffs_append _ _ _ _ rfl, diffs_self, Nat.zero_add]
theorem chk_prefix {l : List ByteArray} {m : ByteArray} (h : chk [l ++ [m], []] = 0) : chk [l, []] = 0 := by
  rw [chk_two] at h ⊢
  have e1 : badL (l ++ [m]) = (badL l || bad m) := by simp [badL]
  rw [e1, szOf_append] at h
  have e3 : badL ([] : List ByteArray) = false := rfl
  rw [e3] at h ⊢
  cases hb : badL l
  · rw [hb] at h
    cases hm : bad m
    · rw [hm] at h
      simp only [Bool.or_false, Bool.false_eq_true, if_false, List.length_append, List.length_cons, List.length_nil] at h ⊢
      split at h
      · cases h
      · rw [if_neg (by omega)]
    · rw [hm] at h
      simp at h
  · rw [hb] at h
    simp at h
theorem chk_good1 {l : List ByteArray} (h : chk [l, []] = 0) : badL l = false := by
  rw [chk_two] at h
  cases hb : badL l
  · rfl
  · rw [hb] at h
    simp at h
/-- A text that came in. -/
def Text1 (v : Value) : Prop := ∃ s : ByteArray, v = .string s ∧ s.size ≤ 140737488351232
theorem open_text1 {H : Type} {enc : TypeId × Value → H} {W : World} {base : Nat} {v : Value} {d : DataW H} {p : List MemPlace} {ts : List TypeId} {ds : List (DataW H)} {j : Nat} (hsz : (DataW.weightsEach Try.prog ts ds).all (· ≤ reachBytes) = true) (ht : ts[j]? = some 9) (hd : ds[j]? = some d) (hv : Value.okWide Try.prog W .any base 9 v) (h : DataW.Trod enc Try.prog W 0 (fun _ => true) true 9 v d p) : Text1 v := by
  obtain ⟨s, rfl, rfl, rfl, _⟩ := Go.ChangeMaps.open_string Try.underlying9 hv h
  have e := sized_string hsz ht hd
  have e2 : reachBytes = 140737488351232 := rfl
  rw [e2, Array.length_toList] at e
  exact ⟨s, rfl, e⟩
def AtDf (A B : List Int) (w0 : World) (n : Nat) (v17 v18 : Value) (kq : Nat) (wr : World) : Prop := ∃ i : Nat, v18 = .int .i64 i ∧ i ≤ n ∧ n - i ≤ kq ∧ v17 = .int .i64 (diffs (A.take i) (B.take i) : Nat) ∧ Fr (fun _ => False) w0 wr
theorem last_cell {w : World} {ad : Addr} {l1 la : List ByteArray} {m : ByteArray} (hla : l1 ++ [m] = la) (h : Kd.string.C w (some ad) la.length la) : w.cell? (ad.add l1.length) = some (.string m) := by
  subst hla
  obtain ⟨ad', e, hx⟩ := at_S h l1.length (by simp)
  injection e with e
  subst e
  rw [hx]
  unfold rdS
  simp
theorem cut_take (A : Option Addr) (n c k : Nat) (hk : k ≤ n) (hc : n ≤ c) : ∀ W : World, (Instr.slice 22 (.slice A n c) none (some (.int .i64 (k : Int))) none).run Try.prog W = .ok (.slice A k c) W := fun W => by
  obtain ⟨i0, hi, _, hsz, _⟩ := info_parts infoST
  have hl : (List.replicate n ByteArray.empty).length = n := List.length_replicate
  have h := (print_take_of (P := Try.prog) Value.string ByteArray.empty 22 9 .i64 Try.underlying22 hi hsz A c (List.replicate n ByteArray.empty) (k : Int) (by omega) (by omega) (by omega)).1 W
  rw [hl] at h
  rw [h]
  simp [Nat.min_eq_left hk]
theorem nums_at {w : World} {g : Nat} {t : TypeId} {k : IntKind} {l : List Int} (h : Blk w g t (nums k l).toArray) (j : Nat) (hj : j < l.length) : w.cell? ⟨g, j, none⟩ = some (.int k (l.getD j 0)) := by
  rw [h.cell j]
  simp [nums, hj]
theorem TwoR.litY {w2 w : World} {x y : Value} {lx ly : List ByteArray} {n : Nat} (h : TwoR w2 w x y lx ly) (m : ByteArray) (hn : w.heap.size = n) : TwoR w2 (w.alloc (.cells #[.string m] 9)) x (.slice (some ⟨n, 0, none⟩) 1 1) lx [m] := by
  subst hn
  refine ⟨Fr.below h.bel ((Fr.refl (fun _ => False) w).alloc _) (fun _ _ => id), Kd.R_alloc h.rx _, Kd.R_of_own (h1 := fun _ => rfl) ⟨rfl, .inr ⟨w.heap.size, 1, #[.string m], rfl, h.bel.size, ?_, Nat.le_refl _, by decide, rfl, rfl⟩⟩ (fun _ _ => trivial), fun k e1 e2 => ?_⟩
  · show (w.heap.push _)[w.heap.size]? = _
    simp
  · have e : w.heap.size = k := by simpa [Value.ownBlock] using e2
    have e3 := own_lt (Kd.own_of_R h.rx) k e1
    omega
theorem C_cut {w : World} {A : Option Addr} {l1 la : List ByteArray} {m : ByteArray} (h : Kd.string.C w A la.length la) (hla : l1 ++ [m] = la) : Kd.string.C w A l1.length l1 := by
  subst hla
  have h2 := Kd.C_take h (m := l1.length) (by rw [List.length_append]; omega)
  rw [List.take_left] at h2
  exact h2
def AtB3 (wS : World) (O3 : List Int) (sp3 : Int) (v21 v22 v23 : Value) (wx : World) : Prop := ∃ v : Value, v21 = v ∧ v22 = .int .u64 sp3 ∧ v23 = .int .i64 0 ∧ Below wS.heap.size wS wx ∧ Own8 wx wS.heap.size v O3
theorem blk_new2g (w : World) (t : TypeId) (cs : Array Value) (o : Obj) : Blk ((w.alloc (.cells cs t (0, 0))).alloc o) w.heap.size t cs := Blk.alloc (Blk.new w t cs) o
theorem blk_new22g (w : World) (o : Obj) (t : TypeId) (cs : Array Value) : Blk ((w.alloc o).alloc (.cells cs t (0, 0))) (w.heap.size + 1) t cs := by
  have h := Blk.new (w.alloc o) t cs
  rwa [show (w.alloc o).heap.size = w.heap.size + 1 by simp] at h
set_option maxHeartbeats 16000000 in
set_option maxRecDepth 100000 in
theorem apart_in (A1 : Option Addr) (c1 : Nat) (l1 : List ByteArray) (a0 a1 a2 a3 a4 a5 a6 a7 a8 a9 a10 a11 a12 a13 a14 a15 b0 b1 b2 b3 b4 b5 b6 b7 b8 b9 b10 b11 b12 b13 b14 b15 : Int) (m : ByteArray) (w : World) (h1 : Kd.string.C w A1 l1.length l1) (hc1 : l1.length ≤ c1) (hlen : l1.length ≤ 140737488351232) (hl1 : ∀ s ∈ l1, s.size ≤ 140737488351232) (hm : m.size ≤ 140737488351232) (hba : By.bytes [a0, a1, a2, a3, a4, a5, a6, a7, a8, a9, a10, a11, a12, a13, a14, a15]) (hbb : By.bytes [b0, b1, b2, b3, b4, b5, b6, b7, b8, b9, b10, b11, b12, b13, b14, b15]) :
    Calls Try.prog 6 #[.slice A1 l1.length c1, .agg #[.int .u8 a0, .int .u8 a1, .int .u8 a2, .int .u8 a3, .int .u8 a4, .int .u8 a5, .int .u8 a6, .int .u8 a7, .int .u8 a8, .int .u8 a9, .int .u8 a10, .int .u8 a11, .int .u8 a12, .int .u8 a13, .int .u8 a14, .int .u8 a15], .agg #[.int .u8 b0, .int .u8 b1, .int .u8 b2, .int .u8 b3, .int .u8 b4, .int .u8 b5, .int .u8 b6, .int .u8 b7, .int .u8 b8, .int .u8 b9, .int .u8 b10, .int .u8 b11, .int .u8 b12, .int .u8 b13, .int .u8 b14, .int .u8 b15], .string m] w fun e w' => e = .returned (.bool true) ∧ Fr (fun _ => False) w w' := by
  have H1 := Lib.hid h1
  have HBA := Lib.hid hba
  have HBBB := Lib.hid hbb
  have HA0 := Lib.hid (blk_new2g w 27 #[.int .u8 a0, .int .u8 a1, .int .u8 a2, .int .u8 a3, .int .u8 a4, .int .u8 a5, .int .u8 a6, .int .u8 a7, .int .u8 a8, .int .u8 a9, .int .u8 a10, .int .u8 a11, .int .u8 a12, .int .u8 a13, .int .u8 a14, .int .u8 a15] (.cells #[.int .u8 b0, .int .u8 b1, .int .u8 b2, .int .u8 b3, .int .u8 b4, .int .u8 b5, .int .u8 b6, .int .u8 b7, .int .u8 b8, .int .u8 b9, .int .u8 b10, .int .u8 b11, .int .u8 b12, .int .u8 b13, .int .u8 b14, .int .u8 b15] 27))
  have HB0 := Lib.hid (blk_new22g w (.cells #[.int .u8 a0, .int .u8 a1, .int .u8 a2, .int .u8 a3, .int .u8 a4, .int .u8 a5, .int .u8 a6, .int .u8 a7, .int .u8 a8, .int .u8 a9, .int .u8 a10, .int .u8 a11, .int .u8 a12, .int .u8 a13, .int .u8 a14, .int .u8 a15] 27) 27 #[.int .u8 b0, .int .u8 b1, .int .u8 b2, .int .u8 b3, .int .u8 b4, .int .u8 b5, .int .u8 b6, .int .u8 b7, .int .u8 b8, .int .u8 b9, .int .u8 b10, .int .u8 b11, .int .u8 b12, .int .u8 b13, .int .u8 b14, .int .u8 b15])
  have HF2 := Lib.hid (((Fr.refl (fun _ => False) w).alloc (.cells #[.int .u8 a0, .int .u8 a1, .int .u8 a2, .int .u8 a3, .int .u8 a4, .int .u8 a5, .int .u8 a6, .int .u8 a7, .int .u8 a8, .int .u8 a9, .int .u8 a10, .int .u8 a11, .int .u8 a12, .int .u8 a13, .int .u8 a14, .int .u8 a15] 27)).alloc (.cells #[.int .u8 b0, .int .u8 b1, .int .u8 b2, .int .u8 b3, .int .u8 b4, .int .u8 b5, .int .u8 b6, .int .u8 b7, .int .u8 b8, .int .u8 b9, .int .u8 b10, .int .u8 b11, .int .u8 b12, .int .u8 b13, .int .u8 b14, .int .u8 b15] 27))
  clear h1 hba hbb
  by_cases hbig : 100 < l1.length
  · have d1 : decide ((100 : Int) < (l1.length : Int)) = true := decide_eq_true (by omega)
    have d0 : decide (100 < l1.length) = true := decide_eq_true hbig
    go_enter Try.func6, Try.ntmps6
    go_wp2_with fail
    refine (answers_any _).mono ?_
    rintro e wd ⟨rfl, hfd⟩
    have HFD := Lib.hid (HF2.out.trans hfd (fun _ _ => id))
    clear hfd
    go_wp2_with fail
    go_ret
    exact ⟨rfl, HFD.out⟩
  · have d1 : decide ((100 : Int) < (l1.length : Int)) = false := decide_eq_false (by omega)
    have d0 : decide (100 < l1.length) = false := decide_eq_false hbig
    obtain ⟨la, hla⟩ : ∃ l, l1 ++ [m] = l := ⟨_, rfl⟩
    have HLA := Lib.hid hla
    have HLN := Lib.hid (show la.length = l1.length + 1 from by rw [← hla]; simp)
    have HFI := Lib.hid (show fitsAll la [] from fits_texts (by rw [← hla]; intro s hs; rcases List.mem_append.1 hs with h | h; exact hl1 s h; rw [List.mem_singleton.1 h]; exact hm) (fun s hs => by cases hs) (by rw [← hla]; simp; omega))
    clear hl1 hm hla
    go_enter Try.func6, Try.ntmps6
    go_wp2_with ((with_reducible refine gate_builtin (b := .append) (xs := #[.tmp 30, .tmp 31]) rfl ?_); refine Classical.byContradiction fun hgoal => ?_)
    apply hgoal
    clear hgoal
    (try (refine gate_guard (by rfl) ?_; dsimp only))
    obtain ⟨w2, hw2⟩ : ∃ w2, (w.alloc (.cells #[.int .u8 a0, .int .u8 a1, .int .u8 a2, .int .u8 a3, .int .u8 a4, .int .u8 a5, .int .u8 a6, .int .u8 a7, .int .u8 a8, .int .u8 a9, .int .u8 a10, .int .u8 a11, .int .u8 a12, .int .u8 a13, .int .u8 a14, .int .u8 a15] 27)).alloc (.cells #[.int .u8 b0, .int .u8 b1, .int .u8 b2, .int .u8 b3, .int .u8 b4, .int .u8 b5, .int .u8 b6, .int .u8 b7, .int .u8 b8, .int .u8 b9, .int .u8 b10, .int .u8 b11, .int .u8 b12, .int .u8 b13, .int .u8 b14, .int .u8 b15] 27) = w2 := ⟨_, rfl⟩
    have hs2 : w2.heap.size = w.heap.size + 1 + 1 := by rw [← hw2]; simp
    rw [hw2] at HA0 HB0 HF2 ⊢
    clear hw2
    have HCl := Lib.hid (Kd.C_below H1.out (Fr.below (Below.refl _ _) (HF2.out.alloc (.cells #[] 9)) (fun _ _ => id)))
    refine rowS_app (w0 := w2) w2.heap.size rfl (.tmp 30) (.tmp 31) 22 9 rfl Try.underlying22 infoST (.slice (some ⟨w2.heap.size, 0, none⟩) 0 0) [] l1 A1 l1.length c1 (by rw [hs2]; rfl) rfl (rowS_empty w2) HCl.out (Fr.below (Below.refl _ _) ((Fr.refl (fun _ => False) w2).alloc _) (fun _ _ => id)) (by simp) (by simp; omega) ?_
    intro v1 w3 ho1 hb1 _ _
    have HO1 := Lib.hid (Kd.R_alloc ho1 (.cells #[.string m] 9))
    have HBl := Lib.hid (Fr.below hb1 ((Fr.refl (fun _ => False) w3).alloc (.cells #[.string m] 9)) (fun _ _ => id))
    have HS2 := Lib.hid hs2
    clear ho1 hb1 HCl hs2
    go_wp2_with ((with_reducible refine gate_builtin (b := .append) (xs := #[.tmp 32, .tmp 34]) rfl ?_); refine Classical.byContradiction fun hgoal => ?_)
    apply hgoal
    clear hgoal
    (try (refine gate_guard (by rfl) ?_; dsimp only))
    refine rowS_app (w0 := w2) w2.heap.size rfl (.tmp 32) (.tmp 34) 22 9 rfl Try.underlying22 infoST v1 ([] ++ l1) [m] (some ⟨w3.heap.size, 0, none⟩) 1 1 rfl rfl HO1.out (str_new w3 9 [m] (by show 1 ≤ _; decide)) HBl.out HBl.out.size (by rw [List.nil_append]; omega) ?_
    intro v2 w4 ho2 hb2 _ _
    rw [List.nil_append, HLA.out] at ho2
    obtain ⟨A13, c13, rfl, hc13, hC13⟩ := Kd.R_reads ho2
    have HC13 := Lib.hid hC13
    have HF4 := Lib.hid (HF2.out.trans (Fr.of_below (S := fun _ => False) hb2) (fun _ _ => id))
    have HA4 := Lib.hid (show Blk w4 w.heap.size 27 #[.int .u8 a0, .int .u8 a1, .int .u8 a2, .int .u8 a3, .int .u8 a4, .int .u8 a5, .int .u8 a6, .int .u8 a7, .int .u8 a8, .int .u8 a9, .int .u8 a10, .int .u8 a11, .int .u8 a12, .int .u8 a13, .int .u8 a14, .int .u8 a15] from (hb2.block _ HA0.out.lt).trans HA0.out)
    have HB4 := Lib.hid (show Blk w4 (w.heap.size + 1) 27 #[.int .u8 b0, .int .u8 b1, .int .u8 b2, .int .u8 b3, .int .u8 b4, .int .u8 b5, .int .u8 b6, .int .u8 b7, .int .u8 b8, .int .u8 b9, .int .u8 b10, .int .u8 b11, .int .u8 b12, .int .u8 b13, .int .u8 b14, .int .u8 b15] from (hb2.block _ HB0.out.lt).trans HB0.out)
    clear ho2 hb2 hC13 HO1 HBl HA0 HB0 HF2
    go_wp2_with fail
    refine (refused_any A13 none c13 0 la [] _ HC13.out (str_nil _) HFI.out).mono ?_
    rintro e w5 ⟨rfl, rfl⟩
    by_cases hck : chk [la, []] = 0
    · rw [hck]
      have HCK := Lib.hid hck
      have HCK1 := Lib.hid (chk_prefix (l := l1) (m := m) (by rw [HLA.out]; exact hck))
      obtain ⟨room, nw, hoka⟩ := out_ok l1 [] 0 0 0 0 [a0, a1, a2, a3, a4, a5, a6, a7, a8, a9, a10, a11, a12, a13, a14, a15] rfl HBA.out (chk_fits HCK1.out) (by decide) (by decide)
      obtain ⟨roomb, nwb, hokb⟩ := out_ok l1 [] 0 0 0 0 [b0, b1, b2, b3, b4, b5, b6, b7, b8, b9, b10, b11, b12, b13, b14, b15] rfl HBBB.out (chk_fits HCK1.out) (by decide) (by decide)
      obtain ⟨OA, hOA⟩ : ∃ l, outOf (baseOf l1 []) (wordsOf (baseOf l1 []) l1 [] 0 0 0 0) (txOf l1 ++ txOf [] ++ [a0, a1, a2, a3, a4, a5, a6, a7, a8, a9, a10, a11, a12, a13, a14, a15]) = l := ⟨_, rfl⟩
      obtain ⟨OB, hOB⟩ : ∃ l, outOf (baseOf l1 []) (wordsOf (baseOf l1 []) l1 [] 0 0 0 0) (txOf l1 ++ txOf [] ++ [b0, b1, b2, b3, b4, b5, b6, b7, b8, b9, b10, b11, b12, b13, b14, b15]) = l := ⟨_, rfl⟩
      have hdf : diffs OA OB = diffs [a0, a1, a2, a3, a4, a5, a6, a7, a8, a9, a10, a11, a12, a13, a14, a15] [b0, b1, b2, b3, b4, b5, b6, b7, b8, b9, b10, b11, b12, b13, b14, b15] := by rw [← hOA, ← hOB]; exact diffs_out _ _ _ _ _ rfl
      obtain ⟨sp, hsp⟩ : ∃ s, spOf (baseOf l1 []) (wordsOf (baseOf l1 []) l1 [] 0 0 0 0).length = s := ⟨_, rfl⟩
      obtain ⟨at_, hat⟩ : ∃ a, baseOf l1 [] + ((szOf l1 + szOf [] : Nat) : Int) = a := ⟨_, rfl⟩
      have hkey := aux_keys 0 0 0 0 at_
      obtain ⟨AX, hAX⟩ : ∃ l, auxL 0 0 0 0 at_ = l := ⟨_, rfl⟩
      obtain ⟨WL, hWL⟩ : ∃ l, wordsOf (baseOf l1 []) l1 [] 0 0 0 0 = l := ⟨_, rfl⟩
      obtain ⟨na, hna⟩ : ∃ n, auxN 0 = n := ⟨_, rfl⟩
      have hna2 : 2 ≤ na ∧ na ≤ 12 := by rw [← hna]; decide
      rw [hOA, hsp, hat, hAX, hna, hWL] at hoka
      rw [hOB, hsp, hat, hAX, hna, hWL] at hokb
      rw [hAX, hna] at hkey
      have hrb : roomb = room := by have e1 := hoka.spr; have e2 := hokb.spr; omega
      have hla1 := hoka.len
      have hlb1 := hokb.len
      rw [hrb] at hlb1
      have hroom := hoka.rb
      have hrpos : 0 < room := by have e1 := hoka.nwr; have e2 := hoka.nwv; omega
      obtain ⟨p0, hp1, hp2, _⟩ := hoka.rnd
      have HOKA := Lib.hid hoka
      have HKEY := Lib.hid hkey
      have HDF := Lib.hid hdf
      have HP1 := Lib.hid (show at_ = sp + (p0 : Int) ∧ p0 + 16 ≤ room from ⟨hp1, hp2⟩)
      have HOA := Lib.hid hOA
      have HOB := Lib.hid hOB
      have HSP := Lib.hid hsp
      have HLA1 := Lib.hid hla1
      have HLB1 := Lib.hid hlb1
      clear hoka hokb hkey hdf hp1 hp2 hOA hOB hsp hat hAX hWL hna hrb hla1 hlb1
      have HCw := Lib.hid (Kd.C_below H1.out (Fr.below (Below.refl _ _) HF4.out (fun _ _ => id)))
      obtain ⟨rq0, rq1, rq2, rq3, rq4, rq5, rq6, rq7, rq8, rq9, rq10, rq11, rq12, rq13, rq14, rq15⟩ := rnd_cells HA4.out
      go_wp2_with fail
      refine (build_yes A1 none c1 0 l1 [] 0 0 0 0 (.slice none 0 0) rfl a0 a1 a2 a3 a4 a5 a6 a7 a8 a9 a10 a11 a12 a13 a14 a15 _ HCw.out (str_nil _) hc1 (Nat.le_refl _) HCK1.out (by decide) (by decide)).mono ?_
      rintro e w6 ⟨vx, rfl, hox, hfx⟩
      rw [HOA.out] at hox
      rw [HSP.out]
      have HF6 := Lib.hid (HF4.out.trans hfx (fun _ _ => id))
      have HA6 := Lib.hid (HA4.out.fr hfx id)
      have HB6 := Lib.hid (HB4.out.fr hfx id)
      obtain ⟨gx, cx0, e0, hcx0⟩ := Row.head hox.row (by rw [HLA1.out]; exact hrpos)
      have hrx := Row.reads (show Row _ _ _ (.slice (some ⟨gx, 0, none⟩) OA.length cx0) OA from e0 ▸ hox.row)
      rw [HLA1.out] at e0 hcx0 hrx
      subst e0
      have HRX := Lib.hid hrx
      have HCw6 := Lib.hid (Kd.C_below H1.out (Fr.below (Below.refl _ _) HF6.out (fun _ _ => id)))
      clear hox hfx hrx rq0 rq1 rq2 rq3 rq4 rq5 rq6 rq7 rq8 rq9 rq10 rq11 rq12 rq13 rq14 rq15
      obtain ⟨rx0, rx1, rx2, rx3, rx4, rx5, rx6, rx7, rx8, rx9, rx10, rx11, rx12, rx13, rx14, rx15⟩ := rnd_cells HB6.out
      go_wp2_with fail
      refine (build_yes A1 none c1 0 l1 [] 0 0 0 0 (.slice none 0 0) rfl b0 b1 b2 b3 b4 b5 b6 b7 b8 b9 b10 b11 b12 b13 b14 b15 _ HCw6.out (str_nil _) hc1 (Nat.le_refl _) HCK1.out (by decide) (by decide)).mono ?_
      rintro e w7 ⟨vy, rfl, hoy, hfy⟩
      rw [HOB.out] at hoy
      rw [HSP.out]
      have HFY := Lib.hid hfy
      obtain ⟨gy, cy0, e0, hcy0⟩ := Row.head hoy.row (by rw [HLB1.out]; exact hrpos)
      have hry := Row.reads (show Row _ _ _ (.slice (some ⟨gy, 0, none⟩) OB.length cy0) OB from e0 ▸ hoy.row)
      rw [HLB1.out] at e0 hcy0 hry
      subst e0
      have HRY := Lib.hid hry
      have s1 : (sp != sp) = false := by simp
      have s2 : ((room : Int) != (room : Int)) = false := by simp
      have s2' : (room != room) = false := by simp
      clear hoy hfy hry rx0 rx1 rx2 rx3 rx4 rx5 rx6 rx7 rx8 rx9 rx10 rx11 rx12 rx13 rx14 rx15
      go_wp2_with fail
      refine (answers_any _).mono ?_
      rintro e w8 ⟨rfl, hfa⟩
      have HFA := Lib.hid hfa
      have HF68 := Lib.hid (HFY.out.trans hfa (fun _ _ => id))
      clear hfa
      go_wp2_with fail
      refine (read_ok gx cx0 OA WL l1 [] AX [a0, a1, a2, a3, a4, a5, a6, a7, a8, a9, a10, a11, a12, a13, a14, a15] sp at_ room nw na _ (reads_fr (S := fun _ => False) HRX.out HF68.out (fun _ _ _ => id)) hcx0 HOKA.out HKEY.out hna2 (chk_good1 HCK1.out) rfl p0 HP1.out).mono ?_
      rintro e w9 ⟨xp, yp, vp, rfl, hf9, htwo, hpr⟩
      obtain ⟨Ap, cp, rfl, hcp, hCp⟩ := Kd.R_reads htwo.rx
      obtain ⟨Ay0, cy1, ey, _, _⟩ := Kd.R_reads htwo.ry
      obtain ⟨gv0, cv0, ev, _, _⟩ := hpr.own.form (by omega)
      rw [ey, ev]
      have HCP9 := Lib.hid hCp
      have HF69 := Lib.hid (HF68.out.trans hf9 (fun _ _ => id))
      have HFA9 := Lib.hid (HFA.out.trans hf9 (fun _ _ => id))
      clear hf9 htwo hpr hCp ey ev
      go_wp2_with fail
      obtain ⟨gP, hgP⟩ : ∃ g, w9.heap.size = g := ⟨_, rfl⟩
      have HTP := Lib.hid (Blk.new w9 40 #[.slice Ap l1.length cp, .slice Ay0 0 cy1, .slice (some ⟨gv0, 0, none⟩) na cv0, .slice (some ⟨gx, p0, none⟩) 16 (cx0 - p0)])
      have HFXP := Lib.hid (HF69.out.alloc (.cells #[.slice Ap l1.length cp, .slice Ay0 0 cy1, .slice (some ⟨gv0, 0, none⟩) na cv0, .slice (some ⟨gx, p0, none⟩) 16 (cx0 - p0)] 40))
      have HFYP := Lib.hid (HFA9.out.alloc (.cells #[.slice Ap l1.length cp, .slice Ay0 0 cy1, .slice (some ⟨gv0, 0, none⟩) na cv0, .slice (some ⟨gx, p0, none⟩) 16 (cx0 - p0)] 40))
      have HCP := Lib.hid (Kd.C_alloc HCP9.out (.cells #[.slice Ap l1.length cp, .slice Ay0 0 cy1, .slice (some ⟨gv0, 0, none⟩) na cv0, .slice (some ⟨gx, p0, none⟩) 16 (cx0 - p0)] 40))
      rw [hgP] at HTP ⊢
      generalize w9.alloc (.cells #[.slice Ap l1.length cp, .slice Ay0 0 cy1, .slice (some ⟨gv0, 0, none⟩) na cv0, .slice (some ⟨gx, p0, none⟩) 16 (cx0 - p0)] 40) = wP at HTP HFXP HFYP HCP ⊢
      have HRXP := Lib.hid (reads_fr (S := fun _ => False) HRX.out HFXP.out (fun _ _ _ => id))
      have HRYP := Lib.hid (reads_fr (S := fun _ => False) HRY.out HFYP.out (fun _ _ _ => id))
      have HAP := Lib.hid (HA6.out.fr HFXP.out id)
      have HBP := Lib.hid (HB6.out.fr HFXP.out id)
      have HFP := Lib.hid (HF6.out.trans HFXP.out (fun _ _ => id))
      clear hgP HCP9 HF69 HFA9 HFXP HFYP HRX HRY HA6 HB6 HF6 HFA HF68 HFY HA4 HB4 HF4 HCw HCw6 HKEY HOKA HP1
      go_loopg [17, 18] room (fun kq v17 v18 wr => Hid (AtDf OA OB wP room v17 v18 kq wr))
      case atStart => exact Lib.hid ⟨0, rfl, by omega, by omega, by simp [diffs], Fr.refl _ _⟩
      case round =>
        obtain ⟨i, rfl, hi1, hi2, rfl, hfr⟩ := hrel.out
        have HFR := Lib.hid hfr
        clear hrel hfr
        by_cases hi : i < room
        · have u1 : decide ((i : Int) < (room : Int)) = true := decide_eq_true (by omega)
          have u1' : decide (i < room) = true := decide_eq_true hi
          have j0 : (0 : Int) ≤ (i : Int) := by omega
          have j1 : (i : Int) < (room : Int) := by omega
          have HST := Lib.hid (diffs_step OA OB i (by rw [HLA1.out]; exact hi) (by rw [HLB1.out]; exact hi))
          have hle := diffs_le (OA.take i) (OB.take i)
          rw [List.length_take] at hle
          have y0 := reads_head (reads_fr (S := fun _ => False) HRXP.out HFR.out (fun _ _ _ => id)) i hi
          have y1 := reads_head (reads_fr (S := fun _ => False) HRYP.out HFR.out (fun _ _ _ => id)) i hi
          obtain ⟨xa, hxa⟩ : ∃ z, OA.getD i 0 = z := ⟨_, rfl⟩
          obtain ⟨xb, hxb⟩ : ∃ z, OB.getD i 0 = z := ⟨_, rfl⟩
          rw [hxa] at y0 HST
          rw [hxb] at y1 HST
          obtain ⟨q, hq⟩ : ∃ z, diffs (OA.take i) (OB.take i) = z := ⟨_, rfl⟩
          rw [hq] at HST hle ⊢
          clear hxa hxb hq
          by_cases hab : xa = xb
          · as_aux_lemma =>
              have v1 : (xa != xb) = false := by rw [hab]; simp
              have v2 : (xa == xb) = true := by rw [hab]; simp
              have HST2 := Lib.hid (show diffs (OA.take (i + 1)) (OB.take (i + 1)) = q from by rw [HST.out, if_pos hab, Nat.add_zero])
              clear hab
              go_wp2_with fail
              go_quiet (fail)
              all_goals
                go_wp2_with fail
                go_roundg (room - (i + 1))
                case measure => omega
                case rel => exact Lib.hid ⟨i + 1, by go_num, by omega, by omega, by rw [HST2.out], HFR.out.drewN _⟩
          · as_aux_lemma =>
              have v1 : (xa != xb) = true := by simpa using hab
              have v2 : (xa == xb) = false := by simpa using hab
              have HST2 := Lib.hid (show diffs (OA.take (i + 1)) (OB.take (i + 1)) = q + 1 from by rw [HST.out, if_neg hab])
              go_wp2_with fail
              go_quiet (fail)
              all_goals
                go_wp2_with fail
                go_roundg (room - (i + 1))
                case measure => omega
                case rel => exact Lib.hid ⟨i + 1, by go_num, by omega, by omega, by rw [HST2.out]; go_num, HFR.out.drewN _⟩
        · obtain rfl : i = room := by omega
          have u1 : decide ((i : Int) < (i : Int)) = false := decide_eq_false (by omega)
          rw [show OA.take i = OA from List.take_of_length_le (by rw [HLA1.out]; exact Nat.le_refl _), show OB.take i = OB from List.take_of_length_le (by rw [HLB1.out]; exact Nat.le_refl _), HDF.out]
          obtain ⟨dd, hdd⟩ : ∃ z, diffs [a0, a1, a2, a3, a4, a5, a6, a7, a8, a9, a10, a11, a12, a13, a14, a15] [b0, b1, b2, b3, b4, b5, b6, b7, b8, b9, b10, b11, b12, b13, b14, b15] = z := ⟨_, rfl⟩
          have HDD := Lib.hid hdd
          have hdb := diffs_le [a0, a1, a2, a3, a4, a5, a6, a7, a8, a9, a10, a11, a12, a13, a14, a15] [b0, b1, b2, b3, b4, b5, b6, b7, b8, b9, b10, b11, b12, b13, b14, b15]
          rw [hdd] at hdb ⊢
          have hdb2 : dd ≤ 16 := hdb
          have HTPL := Lib.hid (HTP.out.fr HFR.out id)
          have HAL2 := Lib.hid (HAP.out.fr HFR.out id)
          have HBL2 := Lib.hid (HBP.out.fr HFR.out id)
          have HFL := Lib.hid (HFP.out.trans HFR.out (fun _ _ => id))
          have HCPL := Lib.hid (Kd.C_below HCP.out (Fr.below (Below.refl _ _) HFR.out (fun _ _ => id)))
          clear hdd hdb HTP HAP HBP HFP HCP HRXP HRYP HFR HDF
          generalize wr = wL at HTPL HAL2 HBL2 HFL HCPL ⊢
          go_wp2_with fail
          go_loopg [19, 20] 16 (fun kq v19 v20 wr => Hid (AtDf [a0, a1, a2, a3, a4, a5, a6, a7, a8, a9, a10, a11, a12, a13, a14, a15] [b0, b1, b2, b3, b4, b5, b6, b7, b8, b9, b10, b11, b12, b13, b14, b15] wL 16 v19 v20 kq wr))
          case atStart => exact Lib.hid ⟨0, rfl, by omega, by omega, by simp [diffs], Fr.refl _ _⟩
          case round =>
            obtain ⟨j, rfl, hj1, hj2, rfl, hfr⟩ := hrel.out
            have HFR := Lib.hid hfr
            clear hrel hfr
            by_cases hj : j < 16
            · have u3 : decide ((j : Int) < 16) = true := decide_eq_true (by omega)
              have u3' : decide (j < 16) = true := decide_eq_true hj
              have j2 : (0 : Int) ≤ (j : Int) := by omega
              have j3 : (j : Int) < 16 := by omega
              have HST := Lib.hid (diffs_step [a0, a1, a2, a3, a4, a5, a6, a7, a8, a9, a10, a11, a12, a13, a14, a15] [b0, b1, b2, b3, b4, b5, b6, b7, b8, b9, b10, b11, b12, b13, b14, b15] j hj hj)
              have hle := diffs_le ([a0, a1, a2, a3, a4, a5, a6, a7, a8, a9, a10, a11, a12, a13, a14, a15].take j) ([b0, b1, b2, b3, b4, b5, b6, b7, b8, b9, b10, b11, b12, b13, b14, b15].take j)
              rw [List.length_take] at hle
              have y0 := nums_at (show Blk wr w.heap.size 27 (nums .u8 [a0, a1, a2, a3, a4, a5, a6, a7, a8, a9, a10, a11, a12, a13, a14, a15]).toArray from HAL2.out.fr HFR.out id) j hj
              have y1 := nums_at (show Blk wr (w.heap.size + 1) 27 (nums .u8 [b0, b1, b2, b3, b4, b5, b6, b7, b8, b9, b10, b11, b12, b13, b14, b15]).toArray from HBL2.out.fr HFR.out id) j hj
              obtain ⟨xa, hxa⟩ : ∃ z, [a0, a1, a2, a3, a4, a5, a6, a7, a8, a9, a10, a11, a12, a13, a14, a15].getD j 0 = z := ⟨_, rfl⟩
              obtain ⟨xb, hxb⟩ : ∃ z, [b0, b1, b2, b3, b4, b5, b6, b7, b8, b9, b10, b11, b12, b13, b14, b15].getD j 0 = z := ⟨_, rfl⟩
              rw [hxa] at y0 HST
              rw [hxb] at y1 HST
              obtain ⟨q, hq⟩ : ∃ z, diffs ([a0, a1, a2, a3, a4, a5, a6, a7, a8, a9, a10, a11, a12, a13, a14, a15].take j) ([b0, b1, b2, b3, b4, b5, b6, b7, b8, b9, b10, b11, b12, b13, b14, b15].take j) = z := ⟨_, rfl⟩
              rw [hq] at HST hle ⊢
              clear hxa hxb hq
              by_cases hab : xa = xb
              · as_aux_lemma =>
                  have v1 : (xa != xb) = false := by rw [hab]; simp
                  have v2 : (xa == xb) = true := by rw [hab]; simp
                  have HST2 := Lib.hid (show diffs ([a0, a1, a2, a3, a4, a5, a6, a7, a8, a9, a10, a11, a12, a13, a14, a15].take (j + 1)) ([b0, b1, b2, b3, b4, b5, b6, b7, b8, b9, b10, b11, b12, b13, b14, b15].take (j + 1)) = q from by rw [HST.out, if_pos hab, Nat.add_zero])
                  clear hab
                  go_wp2_with fail
                  go_quiet (fail)
                  all_goals
                    go_wp2_with fail
                    go_roundg (16 - (j + 1))
                    case measure => omega
                    case rel => exact Lib.hid ⟨j + 1, by go_num, by omega, by omega, by rw [HST2.out], HFR.out.drewN _⟩
              · as_aux_lemma =>
                  have v1 : (xa != xb) = true := by simpa using hab
                  have v2 : (xa == xb) = false := by simpa using hab
                  have HST2 := Lib.hid (show diffs ([a0, a1, a2, a3, a4, a5, a6, a7, a8, a9, a10, a11, a12, a13, a14, a15].take (j + 1)) ([b0, b1, b2, b3, b4, b5, b6, b7, b8, b9, b10, b11, b12, b13, b14, b15].take (j + 1)) = q + 1 from by rw [HST.out, if_neg hab])
                  go_wp2_with fail
                  go_quiet (fail)
                  all_goals
                    go_wp2_with fail
                    go_roundg (16 - (j + 1))
                    case measure => omega
                    case rel => exact Lib.hid ⟨j + 1, by go_num, by omega, by omega, by rw [HST2.out]; go_num, HFR.out.drewN _⟩
            · obtain rfl : j = 16 := by omega
              have u3 : decide (((16 : Nat) : Int) < 16) = false := rfl
              rw [show [a0, a1, a2, a3, a4, a5, a6, a7, a8, a9, a10, a11, a12, a13, a14, a15].take 16 = [a0, a1, a2, a3, a4, a5, a6, a7, a8, a9, a10, a11, a12, a13, a14, a15] from rfl, show [b0, b1, b2, b3, b4, b5, b6, b7, b8, b9, b10, b11, b12, b13, b14, b15].take 16 = [b0, b1, b2, b3, b4, b5, b6, b7, b8, b9, b10, b11, b12, b13, b14, b15] from rfl, HDD.out]
              have HTS := Lib.hid (HTPL.out.fr HFR.out id)
              have HAS := Lib.hid (HAL2.out.fr HFR.out id)
              have HFS := Lib.hid (HFL.out.trans HFR.out (fun _ _ => id))
              have HCPS := Lib.hid (Kd.C_below HCPL.out (Fr.below (Below.refl _ _) HFR.out (fun _ _ => id)))
              clear HTPL HAL2 HBL2 HFL HCPL HFR
              generalize wr = wS at HTS HAS HFS HCPS ⊢
              have HCS := Lib.hid (Kd.C_below H1.out (Fr.below (Below.refl _ _) HFS.out (fun _ _ => id)))
              go_wp2_with fail
              obtain ⟨O3, hO3⟩ : ∃ l, outOf (baseOf la []) (wordsOf (baseOf la []) la [] 0 0 0 0) (txOf la ++ txOf [] ++ [a0, a1, a2, a3, a4, a5, a6, a7, a8, a9, a10, a11, a12, a13, a14, a15]) = l := ⟨_, rfl⟩
              obtain ⟨sp3, hsp3⟩ : ∃ s, spOf (baseOf la []) (wordsOf (baseOf la []) la [] 0 0 0 0).length = s := ⟨_, rfl⟩
              have HO3 := Lib.hid hO3
              have HSP3 := Lib.hid hsp3
              clear hO3 hsp3
              clear u1 u3 hi hj hi1 hi2 hj1 hj2 s1 s2 s2' d1 d0
              go_cut [21, 22, 23] (fun v21 v22 v23 wx => Hid (AtB3 wS O3 sp3 v21 v22 v23 wx))
              case first =>
                as_aux_lemma =>
                  have HT := Lib.hid (TwoR.start wS)
                  refine wp_region_noPanic ?_
                  refine wp_region_held_drew (S := fun w => Below wS.heap.size wS w) (by kernel_rfl) ?_ (fun hHeld => ?_)
                  · exact HT.out.bel
                  refine wpAnyH_take (i := 1) (v := ?_) rfl (by kernel_rfl) (by kernel_rfl) (by kernel_rfl) (fun _ _ _ h => h) (Or.inl ⟨by rfl, ?_⟩) (by assumption) ?_
                  rotate_left
                  · (intro w hSw; (try dsimp only at hSw); go_simp; first | done | (with_reducible rfl))
                  try simp only [List.getElem_toArray, List.getElem_cons_succ, List.getElem_cons_zero, Act.put, List.setIfInBounds_toArray, List.set_cons_zero, List.set_cons_succ]
                  refine wpAnyH_take (i := 3) (v := ?_) rfl (by kernel_rfl) (by kernel_rfl) (by kernel_rfl) (fun _ _ _ h => h) (Or.inl ⟨by rfl, ?_⟩) (by assumption) ?_
                  rotate_left
                  · (intro w hSw; (try dsimp only at hSw); go_simp; first | done | (with_reducible rfl))
                  try simp only [List.getElem_toArray, List.getElem_cons_succ, List.getElem_cons_zero, Act.put, List.setIfInBounds_toArray, List.set_cons_zero, List.set_cons_succ]
                  refine wpAnyH_take (i := 6) (v := ?_) rfl (by kernel_rfl) (by kernel_rfl) (by kernel_rfl) (fun _ _ _ h => h) (Or.inl ⟨by rfl, ?_⟩) (by assumption) ?_
                  rotate_left
                  · (intro w hSw; (try dsimp only at hSw); go_simp; first | done | (with_reducible rfl))
                  try simp only [List.getElem_toArray, List.getElem_cons_succ, List.getElem_cons_zero, Act.put, List.setIfInBounds_toArray, List.set_cons_zero, List.set_cons_succ]
                  refine wpAnyH_take (i := 7) (v := .agg #[.int .u8 a0, .int .u8 a1, .int .u8 a2, .int .u8 a3, .int .u8 a4, .int .u8 a5, .int .u8 a6, .int .u8 a7, .int .u8 a8, .int .u8 a9, .int .u8 a10, .int .u8 a11, .int .u8 a12, .int .u8 a13, .int .u8 a14, .int .u8 a15]) rfl (by kernel_rfl) (by kernel_rfl) (by kernel_rfl) (fun _ _ _ h => h) (Or.inl ⟨by rfl, fun w h => by obtain ⟨rq0, rq1, rq2, rq3, rq4, rq5, rq6, rq7, rq8, rq9, rq10, rq11, rq12, rq13, rq14, rq15⟩ := rnd_cells ((h.block _ HAS.out.lt).trans HAS.out); go_simp⟩) (by assumption) ?_
                  try simp only [List.getElem_toArray, List.getElem_cons_succ, List.getElem_cons_zero, Act.put, List.setIfInBounds_toArray, List.set_cons_zero, List.set_cons_succ]
                  refine wpAnyH_ready (rs := [0, 4]) (by kernel_rfl) (by simp) ?_
                  refine AllReadyH.cons rfl (fun K' hK' => ?_) ?_
                  · go_simp
                    have HT1 := Lib.hid (TwoR.bldX (n := wS.heap.size) HT.out (by first | rfl | simp))
                    clear HT
                    have HT := HT1
                    clear HT1
                    have hS1 := HT.out.bel
                    clear hHeld
                    refine hK'.out _ _ hS1 (fun hHeld => ?_)
                    clear hK' K' hS1
                    try simp only [List.getElem_toArray, List.getElem_cons_succ, List.getElem_cons_zero, Act.put, List.setIfInBounds_toArray, List.set_cons_zero, List.set_cons_succ]
                    refine wpAnyH_ready (rs := [2, 4]) (by kernel_rfl) (by simp) ?_
                    refine AllReadyH.cons rfl (fun K' hK' => ?_) ?_
                    · refine rowS_app_step (w0 := wS) wS.heap.size (by rfl) (.tmp 115) (.tmp 116) 22 9 rfl Try.underlying22 infoST _ [] l1 A1 l1.length c1 (by rfl) (by rfl) HT.out.rx (Kd.C_below HCS.out HT.out.bel) HT.out.bel HT.out.bel.size (by rw [List.length_nil]; omega) ?_
                      intro vx wx ho hb hat hf
                      have HT1 := Lib.hid (TwoR.appX HT.out ho hf hb hat)
                      clear ho hb hat hf HT
                      rw [List.nil_append] at HT1
                      have HT := HT1
                      clear HT1
                      have hS1 := HT.out.bel
                      clear hHeld
                      refine hK'.out _ _ hS1 (fun hHeld => ?_)
                      clear hK' K' hS1
                      try simp only [List.getElem_toArray, List.getElem_cons_succ, List.getElem_cons_zero, Act.put, List.setIfInBounds_toArray, List.set_cons_zero, List.set_cons_succ]
                      refine wpAnyH_ready (rs := [4]) (by kernel_rfl) (by simp) ?_
                      refine AllReadyH.cons rfl (fun K' hK' => ?_) ?_
                      · go_simp
                        have HT1 := Lib.hid (TwoR.litY (n := wx.heap.size) HT.out m (by first | rfl | simp))
                        clear HT
                        have HT := HT1
                        clear HT1
                        have hS1 := HT.out.bel
                        clear hHeld
                        refine hK'.out _ _ hS1 (fun hHeld => ?_)
                        clear hK' K' hS1
                        try simp only [List.getElem_toArray, List.getElem_cons_succ, List.getElem_cons_zero, Act.put, List.setIfInBounds_toArray, List.set_cons_zero, List.set_cons_succ]
                        refine wpAnyH_ready (rs := [5]) (by kernel_rfl) (by simp) ?_
                        refine AllReadyH.cons rfl (fun K' hK' => ?_) ?_
                        · obtain ⟨-, -, hCy⟩ := Kd.R_reads' HT.out.ry
                          refine rowS_app_step (w0 := wS) wS.heap.size (by rfl) (.tmp 117) (.tmp 119) 22 9 rfl Try.underlying22 infoST _ l1 [m] _ 1 1 (by rfl) (by rfl) HT.out.rx hCy HT.out.bel HT.out.bel.size (by omega) ?_
                          intro vz wz ho hb hat hf
                          have HT1 := Lib.hid (TwoR.appX HT.out ho hf hb hat)
                          clear ho hb hat hf HT hCy
                          rw [HLA.out] at HT1
                          obtain ⟨Ax, cx, rfl, hcx, _⟩ := Kd.R_reads HT1.out.rx
                          have HT := HT1
                          clear HT1
                          have hS1 := HT.out.bel
                          clear hHeld
                          refine hK'.out _ _ hS1 (fun hHeld => ?_)
                          clear hK' K' hS1
                          try simp only [List.getElem_toArray, List.getElem_cons_succ, List.getElem_cons_zero, Act.put, List.setIfInBounds_toArray, List.set_cons_zero, List.set_cons_succ]
                          obtain ⟨-, -, hCx⟩ := Kd.R_reads' HT.out.rx
                          have HCx := Lib.hid hCx
                          clear hCx
                          refine wpAnyH_ready (rs := [8]) (by kernel_rfl) (by simp) ?_
                          refine AllReadyH.cons rfl (fun K' hK' => ?_) AllReadyH.nil
                          go_simp
                          go_at_call 8
                          refine (build_yes Ax none cx 0 la [] 0 0 0 0 (.slice none 0 0) rfl a0 a1 a2 a3 a4 a5 a6 a7 a8 a9 a10 a11 a12 a13 a14 a15 _ HCx.out (str_nil _) hcx (Nat.le_refl _) HCK.out (by decide) (by decide)).mono ?_
                          rintro e wb ⟨vb, rfl, hob, hfb⟩
                          have HBb := Lib.hid (Fr.below HT.out.bel hfb (fun _ _ => id))
                          rw [HO3.out] at hob
                          rw [HSP3.out]
                          have HOb := Lib.hid (hob.low HT.out.bel.size)
                          have hS1 := HBb.out
                          clear hHeld hob hfb HCx
                          refine hK'.out _ _ hS1 (fun hHeld => ?_)
                          clear hK' K' hS1
                          try simp only [List.getElem_toArray, List.getElem_cons_succ, List.getElem_cons_zero, Act.put, List.setIfInBounds_toArray, List.set_cons_zero, List.set_cons_succ]
                          refine wpAnyH_take (i := 9) (v := ?_) rfl (by kernel_rfl) (by kernel_rfl) (by kernel_rfl) (fun _ _ _ h => h) (Or.inl ⟨by rfl, ?_⟩) (by assumption) ?_
                          rotate_left
                          · (intro w hSw; (try dsimp only at hSw); go_simp; first | done | (with_reducible rfl))
                          try simp only [List.getElem_toArray, List.getElem_cons_succ, List.getElem_cons_zero, Act.put, List.setIfInBounds_toArray, List.set_cons_zero, List.set_cons_succ]
                          refine wpAnyH_take (i := 10) (v := ?_) rfl (by kernel_rfl) (by kernel_rfl) (by kernel_rfl) (fun _ _ _ h => h) (Or.inl ⟨by rfl, ?_⟩) (by assumption) ?_
                          rotate_left
                          · (intro w hSw; (try dsimp only at hSw); go_simp; first | done | (with_reducible rfl))
                          try simp only [List.getElem_toArray, List.getElem_cons_succ, List.getElem_cons_zero, Act.put, List.setIfInBounds_toArray, List.set_cons_zero, List.set_cons_succ]
                          refine wpAnyH_take (i := 11) (v := ?_) rfl (by kernel_rfl) (by kernel_rfl) (by kernel_rfl) (fun _ _ _ h => h) (Or.inl ⟨by rfl, ?_⟩) (by assumption) ?_
                          rotate_left
                          · (intro w hSw; (try dsimp only at hSw); go_simp; first | done | (with_reducible rfl))
                          try simp only [List.getElem_toArray, List.getElem_cons_succ, List.getElem_cons_zero, Act.put, List.setIfInBounds_toArray, List.set_cons_zero, List.set_cons_succ]
                          refine wpAnyH_take (i := 12) (v := ?_) rfl (by kernel_rfl) (by kernel_rfl) (by kernel_rfl) (fun _ _ _ h => h) (Or.inl ⟨by rfl, ?_⟩) (by assumption) ?_
                          rotate_left
                          · (intro w hSw; (try dsimp only at hSw); go_simp; first | done | (with_reducible rfl))
                          try simp only [List.getElem_toArray, List.getElem_cons_succ, List.getElem_cons_zero, Act.put, List.setIfInBounds_toArray, List.set_cons_zero, List.set_cons_succ]
                          refine wpAnyH_take (i := 13) (v := ?_) rfl (by kernel_rfl) (by kernel_rfl) (by kernel_rfl) (fun _ _ _ h => h) (Or.inl ⟨by rfl, ?_⟩) (by assumption) ?_
                          rotate_left
                          · (intro w hSw; (try dsimp only at hSw); go_simp; first | done | (with_reducible rfl))
                          try simp only [List.getElem_toArray, List.getElem_cons_succ, List.getElem_cons_zero, Act.put, List.setIfInBounds_toArray, List.set_cons_zero, List.set_cons_succ]
                          refine wpAnyH_take (i := 14) (v := ?_) rfl (by kernel_rfl) (by kernel_rfl) (by kernel_rfl) (fun _ _ _ h => h) (Or.inl ⟨by rfl, ?_⟩) (by assumption) ?_
                          rotate_left
                          · (intro w hSw; (try dsimp only at hSw); go_simp; first | done | (with_reducible rfl))
                          try simp only [List.getElem_toArray, List.getElem_cons_succ, List.getElem_cons_zero, Act.put, List.setIfInBounds_toArray, List.set_cons_zero, List.set_cons_succ]
                          refine wpAnyH_take (i := 15) (v := ?_) rfl (by kernel_rfl) (by kernel_rfl) (by kernel_rfl) (fun _ _ _ h => h) (Or.inl ⟨by rfl, ?_⟩) (by assumption) ?_
                          rotate_left
                          · (intro w hSw; (try dsimp only at hSw); go_simp; first | done | (with_reducible rfl))
                          try simp only [List.getElem_toArray, List.getElem_cons_succ, List.getElem_cons_zero, Act.put, List.setIfInBounds_toArray, List.set_cons_zero, List.set_cons_succ]
                          refine wpAnyH_done (by kernel_rfl) ?_ _
                          refine NoPanic.normal ?_
                          go_wp2_with fail
                          go_meet
                          case rel => exact Lib.hid ⟨vb, rfl, rfl, rfl, HBb.out, HOb.out⟩
                        exact AllReadyH.nil
                      exact AllReadyH.nil
                    refine AllReadyH.cons rfl (fun K' hK' => ?_) ?_
                    · go_simp
                      have HT1 := Lib.hid (TwoR.litY (n := wS.heap.size + 1) HT.out m (by first | rfl | simp))
                      clear HT
                      have HT := HT1
                      clear HT1
                      have hS1 := HT.out.bel
                      clear hHeld
                      refine hK'.out _ _ hS1 (fun hHeld => ?_)
                      clear hK' K' hS1
                      try simp only [List.getElem_toArray, List.getElem_cons_succ, List.getElem_cons_zero, Act.put, List.setIfInBounds_toArray, List.set_cons_zero, List.set_cons_succ]
                      refine wpAnyH_ready (rs := [2]) (by kernel_rfl) (by simp) ?_
                      refine AllReadyH.cons rfl (fun K' hK' => ?_) ?_
                      · refine rowS_app_step (w0 := wS) wS.heap.size (by rfl) (.tmp 115) (.tmp 116) 22 9 rfl Try.underlying22 infoST _ [] l1 A1 l1.length c1 (by rfl) (by rfl) HT.out.rx (Kd.C_below HCS.out HT.out.bel) HT.out.bel HT.out.bel.size (by rw [List.length_nil]; omega) ?_
                        intro vx wx ho hb hat hf
                        have HT1 := Lib.hid (TwoR.appX HT.out ho hf hb hat)
                        clear ho hb hat hf HT
                        rw [List.nil_append] at HT1
                        have HT := HT1
                        clear HT1
                        have hS1 := HT.out.bel
                        clear hHeld
                        refine hK'.out _ _ hS1 (fun hHeld => ?_)
                        clear hK' K' hS1
                        try simp only [List.getElem_toArray, List.getElem_cons_succ, List.getElem_cons_zero, Act.put, List.setIfInBounds_toArray, List.set_cons_zero, List.set_cons_succ]
                        refine wpAnyH_ready (rs := [5]) (by kernel_rfl) (by simp) ?_
                        refine AllReadyH.cons rfl (fun K' hK' => ?_) ?_
                        · obtain ⟨-, -, hCy⟩ := Kd.R_reads' HT.out.ry
                          refine rowS_app_step (w0 := wS) wS.heap.size (by rfl) (.tmp 117) (.tmp 119) 22 9 rfl Try.underlying22 infoST _ l1 [m] _ 1 1 (by rfl) (by rfl) HT.out.rx hCy HT.out.bel HT.out.bel.size (by omega) ?_
                          intro vz wz ho hb hat hf
                          have HT1 := Lib.hid (TwoR.appX HT.out ho hf hb hat)
                          clear ho hb hat hf HT hCy
                          rw [HLA.out] at HT1
                          obtain ⟨Ax, cx, rfl, hcx, _⟩ := Kd.R_reads HT1.out.rx
                          have HT := HT1
                          clear HT1
                          have hS1 := HT.out.bel
                          clear hHeld
                          refine hK'.out _ _ hS1 (fun hHeld => ?_)
                          clear hK' K' hS1
                          try simp only [List.getElem_toArray, List.getElem_cons_succ, List.getElem_cons_zero, Act.put, List.setIfInBounds_toArray, List.set_cons_zero, List.set_cons_succ]
                          obtain ⟨-, -, hCx⟩ := Kd.R_reads' HT.out.rx
                          have HCx := Lib.hid hCx
                          clear hCx
                          refine wpAnyH_ready (rs := [8]) (by kernel_rfl) (by simp) ?_
                          refine AllReadyH.cons rfl (fun K' hK' => ?_) AllReadyH.nil
                          go_simp
                          go_at_call 8
                          refine (build_yes Ax none cx 0 la [] 0 0 0 0 (.slice none 0 0) rfl a0 a1 a2 a3 a4 a5 a6 a7 a8 a9 a10 a11 a12 a13 a14 a15 _ HCx.out (str_nil _) hcx (Nat.le_refl _) HCK.out (by decide) (by decide)).mono ?_
                          rintro e wb ⟨vb, rfl, hob, hfb⟩
                          have HBb := Lib.hid (Fr.below HT.out.bel hfb (fun _ _ => id))
                          rw [HO3.out] at hob
                          rw [HSP3.out]
                          have HOb := Lib.hid (hob.low HT.out.bel.size)
                          have hS1 := HBb.out
                          clear hHeld hob hfb HCx
                          refine hK'.out _ _ hS1 (fun hHeld => ?_)
                          clear hK' K' hS1
                          try simp only [List.getElem_toArray, List.getElem_cons_succ, List.getElem_cons_zero, Act.put, List.setIfInBounds_toArray, List.set_cons_zero, List.set_cons_succ]
                          refine wpAnyH_take (i := 9) (v := ?_) rfl (by kernel_rfl) (by kernel_rfl) (by kernel_rfl) (fun _ _ _ h => h) (Or.inl ⟨by rfl, ?_⟩) (by assumption) ?_
                          rotate_left
                          · (intro w hSw; (try dsimp only at hSw); go_simp; first | done | (with_reducible rfl))
                          try simp only [List.getElem_toArray, List.getElem_cons_succ, List.getElem_cons_zero, Act.put, List.setIfInBounds_toArray, List.set_cons_zero, List.set_cons_succ]
                          refine wpAnyH_take (i := 10) (v := ?_) rfl (by kernel_rfl) (by kernel_rfl) (by kernel_rfl) (fun _ _ _ h => h) (Or.inl ⟨by rfl, ?_⟩) (by assumption) ?_
                          rotate_left
                          · (intro w hSw; (try dsimp only at hSw); go_simp; first | done | (with_reducible rfl))
                          try simp only [List.getElem_toArray, List.getElem_cons_succ, List.getElem_cons_zero, Act.put, List.setIfInBounds_toArray, List.set_cons_zero, List.set_cons_succ]
                          refine wpAnyH_take (i := 11) (v := ?_) rfl (by kernel_rfl) (by kernel_rfl) (by kernel_rfl) (fun _ _ _ h => h) (Or.inl ⟨by rfl, ?_⟩) (by assumption) ?_
                          rotate_left
                          · (intro w hSw; (try dsimp only at hSw); go_simp; first | done | (with_reducible rfl))
                          try simp only [List.getElem_toArray, List.getElem_cons_succ, List.getElem_cons_zero, Act.put, List.setIfInBounds_toArray, List.set_cons_zero, List.set_cons_succ]
                          refine wpAnyH_take (i := 12) (v := ?_) rfl (by kernel_rfl) (by kernel_rfl) (by kernel_rfl) (fun _ _ _ h => h) (Or.inl ⟨by rfl, ?_⟩) (by assumption) ?_
                          rotate_left
                          · (intro w hSw; (try dsimp only at hSw); go_simp; first | done | (with_reducible rfl))
                          try simp only [List.getElem_toArray, List.getElem_cons_succ, List.getElem_cons_zero, Act.put, List.setIfInBounds_toArray, List.set_cons_zero, List.set_cons_succ]
                          refine wpAnyH_take (i := 13) (v := ?_) rfl (by kernel_rfl) (by kernel_rfl) (by kernel_rfl) (fun _ _ _ h => h) (Or.inl ⟨by rfl, ?_⟩) (by assumption) ?_
                          rotate_left
                          · (intro w hSw; (try dsimp only at hSw); go_simp; first | done | (with_reducible rfl))
                          try simp only [List.getElem_toArray, List.getElem_cons_succ, List.getElem_cons_zero, Act.put, List.setIfInBounds_toArray, List.set_cons_zero, List.set_cons_succ]
                          refine wpAnyH_take (i := 14) (v := ?_) rfl (by kernel_rfl) (by kernel_rfl) (by kernel_rfl) (fun _ _ _ h => h) (Or.inl ⟨by rfl, ?_⟩) (by assumption) ?_
                          rotate_left
                          · (intro w hSw; (try dsimp only at hSw); go_simp; first | done | (with_reducible rfl))
                          try simp only [List.getElem_toArray, List.getElem_cons_succ, List.getElem_cons_zero, Act.put, List.setIfInBounds_toArray, List.set_cons_zero, List.set_cons_succ]
                          refine wpAnyH_take (i := 15) (v := ?_) rfl (by kernel_rfl) (by kernel_rfl) (by kernel_rfl) (fun _ _ _ h => h) (Or.inl ⟨by rfl, ?_⟩) (by assumption) ?_
                          rotate_left
                          · (intro w hSw; (try dsimp only at hSw); go_simp; first | done | (with_reducible rfl))
                          try simp only [List.getElem_toArray, List.getElem_cons_succ, List.getElem_cons_zero, Act.put, List.setIfInBounds_toArray, List.set_cons_zero, List.set_cons_succ]
                          refine wpAnyH_done (by kernel_rfl) ?_ _
                          refine NoPanic.normal ?_
                          go_wp2_with fail
                          go_meet
                          case rel => exact Lib.hid ⟨vb, rfl, rfl, rfl, HBb.out, HOb.out⟩
                        exact AllReadyH.nil
                      exact AllReadyH.nil
                    exact AllReadyH.nil
                  refine AllReadyH.cons rfl (fun K' hK' => ?_) ?_
                  · go_simp
                    have HT1 := Lib.hid (TwoR.litY (n := wS.heap.size) HT.out m (by first | rfl | simp))
                    clear HT
                    have HT := HT1
                    clear HT1
                    have hS1 := HT.out.bel
                    clear hHeld
                    refine hK'.out _ _ hS1 (fun hHeld => ?_)
                    clear hK' K' hS1
                    try simp only [List.getElem_toArray, List.getElem_cons_succ, List.getElem_cons_zero, Act.put, List.setIfInBounds_toArray, List.set_cons_zero, List.set_cons_succ]
                    refine wpAnyH_ready (rs := [0]) (by kernel_rfl) (by simp) ?_
                    refine AllReadyH.cons rfl (fun K' hK' => ?_) ?_
                    · go_simp
                      have HT1 := Lib.hid (TwoR.bldX (n := wS.heap.size + 1) HT.out (by first | rfl | simp))
                      clear HT
                      have HT := HT1
                      clear HT1
                      have hS1 := HT.out.bel
                      clear hHeld
                      refine hK'.out _ _ hS1 (fun hHeld => ?_)
                      clear hK' K' hS1
                      try simp only [List.getElem_toArray, List.getElem_cons_succ, List.getElem_cons_zero, Act.put, List.setIfInBounds_toArray, List.set_cons_zero, List.set_cons_succ]
                      refine wpAnyH_ready (rs := [2]) (by kernel_rfl) (by simp) ?_
                      refine AllReadyH.cons rfl (fun K' hK' => ?_) ?_
                      · refine rowS_app_step (w0 := wS) wS.heap.size (by rfl) (.tmp 115) (.tmp 116) 22 9 rfl Try.underlying22 infoST _ [] l1 A1 l1.length c1 (by rfl) (by rfl) HT.out.rx (Kd.C_below HCS.out HT.out.bel) HT.out.bel HT.out.bel.size (by rw [List.length_nil]; omega) ?_
                        intro vx wx ho hb hat hf
                        have HT1 := Lib.hid (TwoR.appX HT.out ho hf hb hat)
                        clear ho hb hat hf HT
                        rw [List.nil_append] at HT1
                        have HT := HT1
                        clear HT1
                        have hS1 := HT.out.bel
                        clear hHeld
                        refine hK'.out _ _ hS1 (fun hHeld => ?_)
                        clear hK' K' hS1
                        try simp only [List.getElem_toArray, List.getElem_cons_succ, List.getElem_cons_zero, Act.put, List.setIfInBounds_toArray, List.set_cons_zero, List.set_cons_succ]
                        refine wpAnyH_ready (rs := [5]) (by kernel_rfl) (by simp) ?_
                        refine AllReadyH.cons rfl (fun K' hK' => ?_) ?_
                        · obtain ⟨-, -, hCy⟩ := Kd.R_reads' HT.out.ry
                          refine rowS_app_step (w0 := wS) wS.heap.size (by rfl) (.tmp 117) (.tmp 119) 22 9 rfl Try.underlying22 infoST _ l1 [m] _ 1 1 (by rfl) (by rfl) HT.out.rx hCy HT.out.bel HT.out.bel.size (by omega) ?_
                          intro vz wz ho hb hat hf
                          have HT1 := Lib.hid (TwoR.appX HT.out ho hf hb hat)
                          clear ho hb hat hf HT hCy
                          rw [HLA.out] at HT1
                          obtain ⟨Ax, cx, rfl, hcx, _⟩ := Kd.R_reads HT1.out.rx
                          have HT := HT1
                          clear HT1
                          have hS1 := HT.out.bel
                          clear hHeld
                          refine hK'.out _ _ hS1 (fun hHeld => ?_)
                          clear hK' K' hS1
                          try simp only [List.getElem_toArray, List.getElem_cons_succ, List.getElem_cons_zero, Act.put, List.setIfInBounds_toArray, List.set_cons_zero, List.set_cons_succ]
                          obtain ⟨-, -, hCx⟩ := Kd.R_reads' HT.out.rx
                          have HCx := Lib.hid hCx
                          clear hCx
                          refine wpAnyH_ready (rs := [8]) (by kernel_rfl) (by simp) ?_
                          refine AllReadyH.cons rfl (fun K' hK' => ?_) AllReadyH.nil
                          go_simp
                          go_at_call 8
                          refine (build_yes Ax none cx 0 la [] 0 0 0 0 (.slice none 0 0) rfl a0 a1 a2 a3 a4 a5 a6 a7 a8 a9 a10 a11 a12 a13 a14 a15 _ HCx.out (str_nil _) hcx (Nat.le_refl _) HCK.out (by decide) (by decide)).mono ?_
                          rintro e wb ⟨vb, rfl, hob, hfb⟩
                          have HBb := Lib.hid (Fr.below HT.out.bel hfb (fun _ _ => id))
                          rw [HO3.out] at hob
                          rw [HSP3.out]
                          have HOb := Lib.hid (hob.low HT.out.bel.size)
                          have hS1 := HBb.out
                          clear hHeld hob hfb HCx
                          refine hK'.out _ _ hS1 (fun hHeld => ?_)
                          clear hK' K' hS1
                          try simp only [List.getElem_toArray, List.getElem_cons_succ, List.getElem_cons_zero, Act.put, List.setIfInBounds_toArray, List.set_cons_zero, List.set_cons_succ]
                          refine wpAnyH_take (i := 9) (v := ?_) rfl (by kernel_rfl) (by kernel_rfl) (by kernel_rfl) (fun _ _ _ h => h) (Or.inl ⟨by rfl, ?_⟩) (by assumption) ?_
                          rotate_left
                          · (intro w hSw; (try dsimp only at hSw); go_simp; first | done | (with_reducible rfl))
                          try simp only [List.getElem_toArray, List.getElem_cons_succ, List.getElem_cons_zero, Act.put, List.setIfInBounds_toArray, List.set_cons_zero, List.set_cons_succ]
                          refine wpAnyH_take (i := 10) (v := ?_) rfl (by kernel_rfl) (by kernel_rfl) (by kernel_rfl) (fun _ _ _ h => h) (Or.inl ⟨by rfl, ?_⟩) (by assumption) ?_
                          rotate_left
                          · (intro w hSw; (try dsimp only at hSw); go_simp; first | done | (with_reducible rfl))
                          try simp only [List.getElem_toArray, List.getElem_cons_succ, List.getElem_cons_zero, Act.put, List.setIfInBounds_toArray, List.set_cons_zero, List.set_cons_succ]
                          refine wpAnyH_take (i := 11) (v := ?_) rfl (by kernel_rfl) (by kernel_rfl) (by kernel_rfl) (fun _ _ _ h => h) (Or.inl ⟨by rfl, ?_⟩) (by assumption) ?_
                          rotate_left
                          · (intro w hSw; (try dsimp only at hSw); go_simp; first | done | (with_reducible rfl))
                          try simp only [List.getElem_toArray, List.getElem_cons_succ, List.getElem_cons_zero, Act.put, List.setIfInBounds_toArray, List.set_cons_zero, List.set_cons_succ]
                          refine wpAnyH_take (i := 12) (v := ?_) rfl (by kernel_rfl) (by kernel_rfl) (by kernel_rfl) (fun _ _ _ h => h) (Or.inl ⟨by rfl, ?_⟩) (by assumption) ?_
                          rotate_left
                          · (intro w hSw; (try dsimp only at hSw); go_simp; first | done | (with_reducible rfl))
                          try simp only [List.getElem_toArray, List.getElem_cons_succ, List.getElem_cons_zero, Act.put, List.setIfInBounds_toArray, List.set_cons_zero, List.set_cons_succ]
                          refine wpAnyH_take (i := 13) (v := ?_) rfl (by kernel_rfl) (by kernel_rfl) (by kernel_rfl) (fun _ _ _ h => h) (Or.inl ⟨by rfl, ?_⟩) (by assumption) ?_
                          rotate_left
                          · (intro w hSw; (try dsimp only at hSw); go_simp; first | done | (with_reducible rfl))
                          try simp only [List.getElem_toArray, List.getElem_cons_succ, List.getElem_cons_zero, Act.put, List.setIfInBounds_toArray, List.set_cons_zero, List.set_cons_succ]
                          refine wpAnyH_take (i := 14) (v := ?_) rfl (by kernel_rfl) (by kernel_rfl) (by kernel_rfl) (fun _ _ _ h => h) (Or.inl ⟨by rfl, ?_⟩) (by assumption) ?_
                          rotate_left
                          · (intro w hSw; (try dsimp only at hSw); go_simp; first | done | (with_reducible rfl))
                          try simp only [List.getElem_toArray, List.getElem_cons_succ, List.getElem_cons_zero, Act.put, List.setIfInBounds_toArray, List.set_cons_zero, List.set_cons_succ]
                          refine wpAnyH_take (i := 15) (v := ?_) rfl (by kernel_rfl) (by kernel_rfl) (by kernel_rfl) (fun _ _ _ h => h) (Or.inl ⟨by rfl, ?_⟩) (by assumption) ?_
                          rotate_left
                          · (intro w hSw; (try dsimp only at hSw); go_simp; first | done | (with_reducible rfl))
                          try simp only [List.getElem_toArray, List.getElem_cons_succ, List.getElem_cons_zero, Act.put, List.setIfInBounds_toArray, List.set_cons_zero, List.set_cons_succ]
                          refine wpAnyH_done (by kernel_rfl) ?_ _
                          refine NoPanic.normal ?_
                          go_wp2_with fail
                          go_meet
                          case rel => exact Lib.hid ⟨vb, rfl, rfl, rfl, HBb.out, HOb.out⟩
                        exact AllReadyH.nil
                      exact AllReadyH.nil
                    exact AllReadyH.nil
                  exact AllReadyH.nil
              case rest =>
                as_aux_lemma =>
                  obtain ⟨vb, rfl, rfl, rfl, hbel, hob⟩ := hcut.out
                  have HBC := Lib.hid hbel
                  obtain ⟨room3, nw3, hok3⟩ := out_ok la [] 0 0 0 0 [a0, a1, a2, a3, a4, a5, a6, a7, a8, a9, a10, a11, a12, a13, a14, a15] rfl HBA.out (chk_fits HCK.out) (by decide) (by decide)
                  obtain ⟨at3, hat3⟩ : ∃ a, baseOf la [] + ((szOf la + szOf [] : Nat) : Int) = a := ⟨_, rfl⟩
                  have hkey3 := aux_keys 0 0 0 0 at3
                  obtain ⟨AX3, hAX3⟩ : ∃ l, auxL 0 0 0 0 at3 = l := ⟨_, rfl⟩
                  obtain ⟨WL3, hWL3⟩ : ∃ l, wordsOf (baseOf la []) la [] 0 0 0 0 = l := ⟨_, rfl⟩
                  obtain ⟨na3, hna3⟩ : ∃ n, auxN 0 = n := ⟨_, rfl⟩
                  have hna4 : 2 ≤ na3 ∧ na3 ≤ 12 := by rw [← hna3]; decide
                  rw [HO3.out, HSP3.out, hat3, hAX3, hna3, hWL3] at hok3
                  rw [hAX3, hna3] at hkey3
                  have hrp3 : 0 < room3 := by have e1 := hok3.nwr; have e2 := hok3.nwv; omega
                  obtain ⟨p3, hp31, hp32, _⟩ := hok3.rnd
                  have hl3 := hok3.len
                  obtain ⟨g3, c3, e0, hc3⟩ := Row.head hob.row (by rw [hl3]; exact hrp3)
                  have hr3 := Row.reads (show Row _ _ _ (.slice (some ⟨g3, 0, none⟩) O3.length c3) O3 from e0 ▸ hob.row)
                  rw [hl3] at e0 hc3 hr3
                  subst e0
                  have HR3 := Lib.hid hr3
                  have HOK3 := Lib.hid hok3
                  have HKEY3 := Lib.hid hkey3
                  have HP3 := Lib.hid (show at3 = sp3 + (p3 : Int) ∧ p3 + 16 ≤ room3 from ⟨hp31, hp32⟩)
                  clear hcut hbel hob hok3 hkey3 hat3 hAX3 hWL3 hna3 hp31 hp32 hl3 hr3 hrp3
                  go_wp2_with fail
                  refine (read_ok g3 c3 O3 WL3 la [] AX3 [a0, a1, a2, a3, a4, a5, a6, a7, a8, a9, a10, a11, a12, a13, a14, a15] sp3 at3 room3 nw3 na3 _ HR3.out hc3 HOK3.out HKEY3.out hna4 (chk_good1 HCK.out) rfl p3 HP3.out).mono ?_
                  rintro e w12 ⟨xq, yq, vq, rfl, hf12, htwo, hpr⟩
                  obtain ⟨Aq, cq, rfl, hcq, hCq⟩ := Kd.R_reads htwo.rx
                  obtain ⟨Aq0, cq1, ey, _, _⟩ := Kd.R_reads htwo.ry
                  obtain ⟨gq0, cq0, ev, _, _⟩ := hpr.own.form (by omega)
                  rw [ey, ev]
                  have hll : l1.length < la.length := by rw [HLN.out]; omega
                  obtain ⟨adq, eA, _⟩ := at_S hCq l1.length hll
                  subst eA
                  have HCQ12 := Lib.hid hCq
                  have HFSV := Lib.hid ((Fr.of_below (S := fun _ => False) HBC.out).trans hf12 (fun _ _ => id))
                  clear hf12 htwo hpr hCq ey ev HR3 HOK3 HKEY3 HP3 HBC
                  go_wp2_with fail
                  obtain ⟨gQ, hgQ⟩ : ∃ g, w12.heap.size = g := ⟨_, rfl⟩
                  have HTQ := Lib.hid (Blk.new w12 40 #[.slice (some adq) la.length cq, .slice Aq0 0 cq1, .slice (some ⟨gq0, 0, none⟩) na3 cq0, .slice (some ⟨g3, p3, none⟩) 16 (c3 - p3)])
                  have HFV := Lib.hid (HFSV.out.alloc (.cells #[.slice (some adq) la.length cq, .slice Aq0 0 cq1, .slice (some ⟨gq0, 0, none⟩) na3 cq0, .slice (some ⟨g3, p3, none⟩) 16 (c3 - p3)] 40))
                  have HCQ := Lib.hid (Kd.C_alloc HCQ12.out (.cells #[.slice (some adq) la.length cq, .slice Aq0 0 cq1, .slice (some ⟨gq0, 0, none⟩) na3 cq0, .slice (some ⟨g3, p3, none⟩) 16 (c3 - p3)] 40))
                  rw [hgQ] at HTQ ⊢
                  generalize w12.alloc (.cells #[.slice (some adq) la.length cq, .slice Aq0 0 cq1, .slice (some ⟨gq0, 0, none⟩) na3 cq0, .slice (some ⟨g3, p3, none⟩) 16 (c3 - p3)] 40) = wV at HTQ HFV HCQ ⊢
                  have HTP := Lib.hid (HTS.out.fr HFV.out id)
                  have HCP := Lib.hid (Kd.C_below HCPS.out (Fr.below (Below.refl _ _) HFV.out (fun _ _ => id)))
                  have HFW := Lib.hid (HFS.out.trans HFV.out (fun _ _ => id))
                  clear hgQ HFSV HCQ12 HTS HCPS HFS HAS HCS HFV
                  have qs := cut_take (some adq) la.length cq l1.length (by omega) hcq
                  have i0 : (0 : Int) ≤ (l1.length : Int) := by omega
                  have i1 : (l1.length : Int) < (la.length : Int) := by omega
                  have e5 : ((dd : Int) == (dd : Int)) = true := beq_self_eq_true _
                  have e5' : (dd == dd) = true := beq_self_eq_true _
                  refine wp_region_noPanic ?_
                  refine wp_region_held_drew (S := (fun w => Below wV.heap.size wV w)) (by kernel_rfl) ?_ (fun hHeld => ?_)
                  · exact below_drew (Below.refl _ _)
                  refine wpAnyH_take (i := 0) (v := ?_) rfl (by kernel_rfl) (by kernel_rfl) (by kernel_rfl) (fun _ _ _ h => h) (Or.inl ⟨by rfl, ?_⟩) (by assumption) ?_
                  rotate_left
                  · (intro w hSw; (try dsimp only at hSw); go_simp; first | done | (with_reducible rfl))
                  try simp only [List.getElem_toArray, List.getElem_cons_succ, List.getElem_cons_zero, Act.put, List.setIfInBounds_toArray, List.set_cons_zero, List.set_cons_succ]
                  refine wpAnyH_take (i := 1) (v := ?_) rfl (by kernel_rfl) (by kernel_rfl) (by kernel_rfl) (fun _ _ _ h => h) (Or.inl ⟨by rfl, ?_⟩) (by assumption) ?_
                  rotate_left
                  · (intro w hSw; (try dsimp only at hSw); go_simp; first | done | (with_reducible rfl))
                  try simp only [List.getElem_toArray, List.getElem_cons_succ, List.getElem_cons_zero, Act.put, List.setIfInBounds_toArray, List.set_cons_zero, List.set_cons_succ]
                  refine wpAnyH_take (i := 2) (v := ?_) rfl (by kernel_rfl) (by kernel_rfl) (by kernel_rfl) (fun _ _ _ h => h) (Or.inl ⟨by rfl, ?_⟩) (by assumption) ?_
                  rotate_left
                  · (intro w hSw; (try dsimp only at hSw); go_simp; first | done | (with_reducible rfl))
                  try simp only [List.getElem_toArray, List.getElem_cons_succ, List.getElem_cons_zero, Act.put, List.setIfInBounds_toArray, List.set_cons_zero, List.set_cons_succ]
                  refine wpAnyH_take (i := 3) (v := ?_) rfl (by kernel_rfl) (by kernel_rfl) (by kernel_rfl) (fun _ _ _ h => h) (Or.inl ⟨by rfl, ?_⟩) (by assumption) ?_
                  rotate_left
                  · (intro w hSw; (try dsimp only at hSw); go_simp; first | done | (with_reducible rfl))
                  try simp only [List.getElem_toArray, List.getElem_cons_succ, List.getElem_cons_zero, Act.put, List.setIfInBounds_toArray, List.set_cons_zero, List.set_cons_succ]
                  refine wpAnyH_take (i := 4) (v := ?_) rfl (by kernel_rfl) (by kernel_rfl) (by kernel_rfl) (fun _ _ _ h => h) (Or.inl ⟨by rfl, ?_⟩) (by assumption) ?_
                  rotate_left
                  · (intro w hSw; (try dsimp only at hSw); go_simp; first | done | (with_reducible rfl))
                  try simp only [List.getElem_toArray, List.getElem_cons_succ, List.getElem_cons_zero, Act.put, List.setIfInBounds_toArray, List.set_cons_zero, List.set_cons_succ]
                  refine wpAnyH_take (i := 5) (v := ?_) rfl (by kernel_rfl) (by kernel_rfl) (by kernel_rfl) (fun _ _ _ h => h) (Or.inl ⟨by rfl, ?_⟩) (by assumption) ?_
                  rotate_left
                  · (intro w hSw; (try dsimp only at hSw); go_simp; first | done | (with_reducible rfl))
                  try simp only [List.getElem_toArray, List.getElem_cons_succ, List.getElem_cons_zero, Act.put, List.setIfInBounds_toArray, List.set_cons_zero, List.set_cons_succ]
                  refine wpAnyH_take (i := 6) (v := ?_) rfl (by kernel_rfl) (by kernel_rfl) (by kernel_rfl) (fun _ _ _ h => h) (Or.inl ⟨by rfl, ?_⟩) (by assumption) ?_
                  rotate_left
                  · (intro w hSw; (try dsimp only at hSw); go_simp; first | done | (with_reducible rfl))
                  try simp only [List.getElem_toArray, List.getElem_cons_succ, List.getElem_cons_zero, Act.put, List.setIfInBounds_toArray, List.set_cons_zero, List.set_cons_succ]
                  refine wpAnyH_take (i := 7) (v := ?_) rfl (by kernel_rfl) (by kernel_rfl) (by kernel_rfl) (fun _ _ _ h => h) (Or.inl ⟨by rfl, ?_⟩) (by assumption) ?_
                  rotate_left
                  · (intro w hSw; (try dsimp only at hSw); go_simp; first | done | (with_reducible rfl))
                  try simp only [List.getElem_toArray, List.getElem_cons_succ, List.getElem_cons_zero, Act.put, List.setIfInBounds_toArray, List.set_cons_zero, List.set_cons_succ]
                  refine wpAnyH_take (i := 8) (v := ?_) rfl (by kernel_rfl) (by kernel_rfl) (by kernel_rfl) (fun _ _ _ h => h) (Or.inl ⟨by rfl, ?_⟩) (by assumption) ?_
                  rotate_left
                  · (intro w hSw; (try dsimp only at hSw); go_simp; first | done | (with_reducible rfl))
                  try simp only [List.getElem_toArray, List.getElem_cons_succ, List.getElem_cons_zero, Act.put, List.setIfInBounds_toArray, List.set_cons_zero, List.set_cons_succ]
                  refine wpAnyH_take (i := 9) (v := ?_) rfl (by kernel_rfl) (by kernel_rfl) (by kernel_rfl) (fun _ _ _ h => h) (Or.inl ⟨by rfl, ?_⟩) (by assumption) ?_
                  rotate_left
                  · (intro w hSw; (try dsimp only at hSw); go_simp; first | done | (with_reducible rfl))
                  try simp only [List.getElem_toArray, List.getElem_cons_succ, List.getElem_cons_zero, Act.put, List.setIfInBounds_toArray, List.set_cons_zero, List.set_cons_succ]
                  refine wpAnyH_take (i := 10) (v := ?_) rfl (by kernel_rfl) (by kernel_rfl) (by kernel_rfl) (fun _ _ _ h => h) (Or.inl ⟨by rfl, ?_⟩) (by assumption) ?_
                  rotate_left
                  · (intro w hSw; (try dsimp only at hSw); go_simp; first | done | (with_reducible rfl))
                  try simp only [List.getElem_toArray, List.getElem_cons_succ, List.getElem_cons_zero, Act.put, List.setIfInBounds_toArray, List.set_cons_zero, List.set_cons_succ]
                  refine wpAnyH_take (i := 11) (v := ?_) rfl (by kernel_rfl) (by kernel_rfl) (by kernel_rfl) (fun _ _ _ h => h) (Or.inl ⟨by rfl, ?_⟩) (by assumption) ?_
                  rotate_left
                  · (intro w hSw; (try dsimp only at hSw); go_simp; first | done | (with_reducible rfl))
                  try simp only [List.getElem_toArray, List.getElem_cons_succ, List.getElem_cons_zero, Act.put, List.setIfInBounds_toArray, List.set_cons_zero, List.set_cons_succ]
                  refine wpAnyH_take (i := 12) (v := ?_) rfl (by kernel_rfl) (by kernel_rfl) (by kernel_rfl) (fun _ _ _ h => h) (Or.inl ⟨by rfl, ?_⟩) (by assumption) ?_
                  rotate_left
                  · (intro w hSw; (try dsimp only at hSw); go_simp; first | done | (with_reducible rfl))
                  try simp only [List.getElem_toArray, List.getElem_cons_succ, List.getElem_cons_zero, Act.put, List.setIfInBounds_toArray, List.set_cons_zero, List.set_cons_succ]
                  refine wpAnyH_take (i := 13) (v := ?_) rfl (by kernel_rfl) (by kernel_rfl) (by kernel_rfl) (fun _ _ _ h => h) (Or.inl ⟨by rfl, ?_⟩) (by assumption) ?_
                  rotate_left
                  · (intro w hSw; (try dsimp only at hSw); go_simp; first | done | (with_reducible rfl))
                  try simp only [List.getElem_toArray, List.getElem_cons_succ, List.getElem_cons_zero, Act.put, List.setIfInBounds_toArray, List.set_cons_zero, List.set_cons_succ]
                  refine wpAnyH_take (i := 14) (v := ?_) rfl (by kernel_rfl) (by kernel_rfl) (by kernel_rfl) (fun _ _ _ h => h) (Or.inl ⟨by rfl, ?_⟩) (by assumption) ?_
                  rotate_left
                  · (intro w hSw; (try dsimp only at hSw); go_simp; first | done | (with_reducible rfl))
                  try simp only [List.getElem_toArray, List.getElem_cons_succ, List.getElem_cons_zero, Act.put, List.setIfInBounds_toArray, List.set_cons_zero, List.set_cons_succ]
                  refine wpAnyH_take (i := 15) (v := .slice (some adq) la.length cq) rfl (by kernel_rfl) (by kernel_rfl) (by kernel_rfl) (fun _ _ _ h => h) (Or.inl ⟨by rfl, fun w h => by have k0 := Blk.cell (show Blk w gQ 40 #[.slice (some adq) la.length cq, .slice Aq0 0 cq1, .slice (some ⟨gq0, 0, none⟩) na3 cq0, .slice (some ⟨g3, p3, none⟩) 16 (c3 - p3)] from (h.block _ HTQ.out.lt).trans HTQ.out) 0; simp at k0; go_simp⟩) (by assumption) ?_
                  try simp only [List.getElem_toArray, List.getElem_cons_succ, List.getElem_cons_zero, Act.put, List.setIfInBounds_toArray, List.set_cons_zero, List.set_cons_succ]
                  refine wpAnyH_take (i := 16) (v := ?_) rfl (by kernel_rfl) (by kernel_rfl) (by kernel_rfl) (fun _ _ _ h => h) (Or.inl ⟨by rfl, ?_⟩) (by assumption) ?_
                  rotate_left
                  · (intro w hSw; (try dsimp only at hSw); go_simp; first | done | (with_reducible rfl))
                  try simp only [List.getElem_toArray, List.getElem_cons_succ, List.getElem_cons_zero, Act.put, List.setIfInBounds_toArray, List.set_cons_zero, List.set_cons_succ]
                  refine wpAnyH_take (i := 17) (v := ?_) rfl (by kernel_rfl) (by kernel_rfl) (by kernel_rfl) (fun _ _ _ h => h) (Or.inl ⟨by rfl, ?_⟩) (by assumption) ?_
                  rotate_left
                  · (intro w hSw; (try dsimp only at hSw); go_simp; first | done | (with_reducible rfl))
                  try simp only [List.getElem_toArray, List.getElem_cons_succ, List.getElem_cons_zero, Act.put, List.setIfInBounds_toArray, List.set_cons_zero, List.set_cons_succ]
                  refine wpAnyH_take (i := 18) (v := ?_) rfl (by kernel_rfl) (by kernel_rfl) (by kernel_rfl) (fun _ _ _ h => h) (Or.inl ⟨by rfl, ?_⟩) (by assumption) ?_
                  rotate_left
                  · (intro w hSw; (try dsimp only at hSw); go_simp; first | done | (with_reducible rfl))
                  try simp only [List.getElem_toArray, List.getElem_cons_succ, List.getElem_cons_zero, Act.put, List.setIfInBounds_toArray, List.set_cons_zero, List.set_cons_succ]
                  refine wpAnyH_take (i := 19) (v := ?_) rfl (by kernel_rfl) (by kernel_rfl) (by kernel_rfl) (fun _ _ _ h => h) (Or.inl ⟨by rfl, ?_⟩) (by assumption) ?_
                  rotate_left
                  · (intro w hSw; (try dsimp only at hSw); go_simp; first | done | (with_reducible rfl))
                  try simp only [List.getElem_toArray, List.getElem_cons_succ, List.getElem_cons_zero, Act.put, List.setIfInBounds_toArray, List.set_cons_zero, List.set_cons_succ]
                  refine wpAnyH_take (i := 20) (v := .slice Ap l1.length cp) rfl (by kernel_rfl) (by kernel_rfl) (by kernel_rfl) (fun _ _ _ h => h) (Or.inl ⟨by rfl, fun w h => by have k0 := Blk.cell (show Blk w gP 40 #[.slice Ap l1.length cp, .slice Ay0 0 cy1, .slice (some ⟨gv0, 0, none⟩) na cv0, .slice (some ⟨gx, p0, none⟩) 16 (cx0 - p0)] from (h.block _ HTP.out.lt).trans HTP.out) 0; simp at k0; go_simp⟩) (by assumption) ?_
                  try simp only [List.getElem_toArray, List.getElem_cons_succ, List.getElem_cons_zero, Act.put, List.setIfInBounds_toArray, List.set_cons_zero, List.set_cons_succ]
                  refine wpAnyH_ready (rs := [21]) (by kernel_rfl) (by simp) ?_
                  refine AllReadyH.cons rfl (fun K' hK' => ?_) AllReadyH.nil
                  go_simp
                  go_at_call 13; refine (same_texts (some adq) Ap cq cp l1 _ (C_cut (Kd.C_below HCQ.out hHeld) HLA.out) (Kd.C_below HCP.out hHeld)).mono ?_; rintro e wd ⟨rfl, hfd⟩
                  have hS1 := Fr.below hHeld hfd (fun _ _ => id); clear hfd
                  clear hHeld
                  refine hK'.out _ _ hS1 (fun hHeld => ?_)
                  clear hK' K' hS1
                  try simp only [List.getElem_toArray, List.getElem_cons_succ, List.getElem_cons_zero, Act.put, List.setIfInBounds_toArray, List.set_cons_zero, List.set_cons_succ]
                  refine wpAnyH_take (i := 22) (v := ?_) rfl (by kernel_rfl) (by kernel_rfl) (by kernel_rfl) (fun _ _ _ h => h) (Or.inl ⟨by rfl, ?_⟩) (by assumption) ?_
                  rotate_left
                  · (intro w hSw; (try dsimp only at hSw); go_simp; first | done | (with_reducible rfl))
                  try simp only [List.getElem_toArray, List.getElem_cons_succ, List.getElem_cons_zero, Act.put, List.setIfInBounds_toArray, List.set_cons_zero, List.set_cons_succ]
                  refine wpAnyH_take (i := 23) (v := ?_) rfl (by kernel_rfl) (by kernel_rfl) (by kernel_rfl) (fun _ _ _ h => h) (Or.inl ⟨by rfl, ?_⟩) (by assumption) ?_
                  rotate_left
                  · (intro w hSw; (try dsimp only at hSw); go_simp; first | done | (with_reducible rfl))
                  try simp only [List.getElem_toArray, List.getElem_cons_succ, List.getElem_cons_zero, Act.put, List.setIfInBounds_toArray, List.set_cons_zero, List.set_cons_succ]
                  refine wpAnyH_take (i := 24) (v := ?_) rfl (by kernel_rfl) (by kernel_rfl) (by kernel_rfl) (fun _ _ _ h => h) (Or.inl ⟨by rfl, ?_⟩) (by assumption) ?_
                  rotate_left
                  · (intro w hSw; (try dsimp only at hSw); go_simp; first | done | (with_reducible rfl))
                  try simp only [List.getElem_toArray, List.getElem_cons_succ, List.getElem_cons_zero, Act.put, List.setIfInBounds_toArray, List.set_cons_zero, List.set_cons_succ]
                  refine wpAnyH_take (i := 25) (v := .slice (some adq) la.length cq) rfl (by kernel_rfl) (by kernel_rfl) (by kernel_rfl) (fun _ _ _ h => h) (Or.inl ⟨by rfl, fun w h => by have k0 := Blk.cell (show Blk w gQ 40 #[.slice (some adq) la.length cq, .slice Aq0 0 cq1, .slice (some ⟨gq0, 0, none⟩) na3 cq0, .slice (some ⟨g3, p3, none⟩) 16 (c3 - p3)] from (h.block _ HTQ.out.lt).trans HTQ.out) 0; simp at k0; go_simp⟩) (by assumption) ?_
                  try simp only [List.getElem_toArray, List.getElem_cons_succ, List.getElem_cons_zero, Act.put, List.setIfInBounds_toArray, List.set_cons_zero, List.set_cons_succ]
                  refine wpAnyH_take (i := 26) (v := ?_) rfl (by kernel_rfl) (by kernel_rfl) (by kernel_rfl) (fun _ _ _ h => h) (Or.inl ⟨by rfl, ?_⟩) (by assumption) ?_
                  rotate_left
                  · (intro w hSw; (try dsimp only at hSw); go_simp; first | done | (with_reducible rfl))
                  try simp only [List.getElem_toArray, List.getElem_cons_succ, List.getElem_cons_zero, Act.put, List.setIfInBounds_toArray, List.set_cons_zero, List.set_cons_succ]
                  refine wpAnyH_take (i := 27) (v := ?_) rfl (by kernel_rfl) (by kernel_rfl) (by kernel_rfl) (fun _ _ _ h => h) (Or.inl ⟨by rfl, ?_⟩) (by assumption) ?_
                  rotate_left
                  · (intro w hSw; (try dsimp only at hSw); go_simp; first | done | (with_reducible rfl))
                  try simp only [List.getElem_toArray, List.getElem_cons_succ, List.getElem_cons_zero, Act.put, List.setIfInBounds_toArray, List.set_cons_zero, List.set_cons_succ]
                  refine wpAnyH_take (i := 28) (v := ?_) rfl (by kernel_rfl) (by kernel_rfl) (by kernel_rfl) (fun _ _ _ h => h) (Or.inl ⟨by rfl, ?_⟩) (by assumption) ?_
                  rotate_left
                  · (intro w hSw; (try dsimp only at hSw); go_simp; first | done | (with_reducible rfl))
                  try simp only [List.getElem_toArray, List.getElem_cons_succ, List.getElem_cons_zero, Act.put, List.setIfInBounds_toArray, List.set_cons_zero, List.set_cons_succ]
                  refine wpAnyH_take (i := 29) (v := .string m) rfl (by kernel_rfl) (by kernel_rfl) (by kernel_rfl) (fun _ _ _ h => h) (Or.inl ⟨by rfl, fun w h => by have k0 := last_cell HLA.out (Kd.C_below HCQ.out h); go_simp⟩) (by assumption) ?_
                  try simp only [List.getElem_toArray, List.getElem_cons_succ, List.getElem_cons_zero, Act.put, List.setIfInBounds_toArray, List.set_cons_zero, List.set_cons_succ]
                  refine wpAnyH_take (i := 30) (v := ?_) rfl (by kernel_rfl) (by kernel_rfl) (by kernel_rfl) (fun _ _ _ h => h) (Or.inl ⟨by rfl, ?_⟩) (by assumption) ?_
                  rotate_left
                  · (intro w hSw; (try dsimp only at hSw); go_simp; first | done | (with_reducible rfl))
                  try simp only [List.getElem_toArray, List.getElem_cons_succ, List.getElem_cons_zero, Act.put, List.setIfInBounds_toArray, List.set_cons_zero, List.set_cons_succ]
                  refine wpAnyH_take (i := 31) (v := ?_) rfl (by kernel_rfl) (by kernel_rfl) (by kernel_rfl) (fun _ _ _ h => h) (Or.inl ⟨by rfl, ?_⟩) (by assumption) ?_
                  rotate_left
                  · (intro w hSw; (try dsimp only at hSw); go_simp; first | done | (with_reducible rfl))
                  try simp only [List.getElem_toArray, List.getElem_cons_succ, List.getElem_cons_zero, Act.put, List.setIfInBounds_toArray, List.set_cons_zero, List.set_cons_succ]
                  refine wpAnyH_take (i := 32) (v := ?_) rfl (by kernel_rfl) (by kernel_rfl) (by kernel_rfl) (fun _ _ _ h => h) (Or.inl ⟨by rfl, ?_⟩) (by assumption) ?_
                  rotate_left
                  · (intro w hSw; (try dsimp only at hSw); go_simp; first | done | (with_reducible rfl))
                  try simp only [List.getElem_toArray, List.getElem_cons_succ, List.getElem_cons_zero, Act.put, List.setIfInBounds_toArray, List.set_cons_zero, List.set_cons_succ]
                  refine wpAnyH_take (i := 33) (v := ?_) rfl (by kernel_rfl) (by kernel_rfl) (by kernel_rfl) (fun _ _ _ h => h) (Or.inl ⟨by rfl, ?_⟩) (by assumption) ?_
                  rotate_left
                  · (intro w hSw; (try dsimp only at hSw); go_simp; first | done | (with_reducible rfl))
                  try simp only [List.getElem_toArray, List.getElem_cons_succ, List.getElem_cons_zero, Act.put, List.setIfInBounds_toArray, List.set_cons_zero, List.set_cons_succ]
                  refine wpAnyH_done (by kernel_rfl) ?_ _
                  refine NoPanic.normal ?_
                  have HBW := Lib.hid (show Below wV.heap.size wV wd from hHeld)
                  clear hHeld
                  go_wp2_with fail
                  go_ret
                  exact ⟨rfl, HFW.out.trans (Fr.of_below (S := fun _ => False) HBW.out) (fun _ _ => id)⟩
    · obtain ⟨ck, hckk⟩ : ∃ c, chk [la, []] = c := ⟨_, rfl⟩
      rw [hckk] at hck ⊢
      have b1 : (ck != 0) = true := by simpa using hck
      clear hckk
      go_wp2_with fail
      refine (answers_any _).mono ?_
      rintro e wd ⟨rfl, hfd⟩
      have HFD := Lib.hid (HF4.out.trans hfd (fun _ _ => id))
      clear hfd
      go_wp2_with fail
      go_ret
      exact ⟨rfl, HFD.out⟩
end Go.Proofs.Ytnoeehdccknhnaa.St
