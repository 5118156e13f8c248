/- How many pages are held; answers: walked. -/
import Derived.Test.YtipbfmidiimicaaPqG
namespace Go.Proofs.Ytipbfmidiimicaa.Pq
open Go Go.RowKit Go.Proofs.YtipbfmidiimicaaW.PrintWords Go.Proofs.YtipbfmidiimicaaW.PrintLast Go.Proofs.YtipbfmidiimicaaW.PrintMore
open Go.Proofs.Ytipbfmidiimicaa.Hp Go.Proofs.Ytipbfmidiimicaa.Pm
attribute [local go_sem] max2_m min2_m max_two min_two max_three min_three max_four min_four
set_option linter.unusedVariables false
set_option linter.unusedSimpArgs false
theorem nodup_len : ∀ (l ks : List Int), l.Nodup → (∀ x ∈ l, x ∈ ks) → l.length ≤ ks.length
  | [], _, _, _ => Nat.zero_le _
  | x :: r, ks, hn, hs => by
    obtain ⟨h1, h2⟩ := List.nodup_cons.1 hn
    have h3 := nodup_len r (ks.erase x) h2 (fun y hy => (List.mem_erase_of_ne (fun (e : y = x) => h1 (by rw [← e]; exact hy))).2 (hs y (List.mem_cons_of_mem _ hy)))
    have hx := hs x List.mem_cons_self
    rw [List.length_erase_of_mem hx] at h3
    have : 0 < ks.length := List.length_pos_of_mem hx
    rw [List.length_cons]
    omega
section
open Go.ChangeMaps Go.MapKept Go.WideShapes
open Go.WideElems (Fit rd rg pl rd_key rd_val rg_of other_key)
open Go.Maps (Keyed keyOf_int_mk)
variable {P : Program} {K T E : TypeId} {q : IntKind} {w W : World} {B n sz : Nat} {f : Int → Option Nat}
def keyInt : Lit → Int | .int _ x => x | _ => 0
/-- A map holds no more than the keys at which it may hold something. -/
theorem PM.few (h : PM P K q w B n f sz) (hK : Keyed P K) (hu : P.underlying K = some (.int q)) (ks : List Int) (hf : ∀ k, (Lit.int q k).wf = true → f k ≠ none → k ∈ ks) : sz ≤ ks.length := by
  obtain ⟨D, ⟨es, clock, hb, F, hs, rfl⟩, rfl, h3⟩ := h
  have hk : ∀ x ∈ es.toList, ∃ k, (rg P K ptrR x).1 = .int q k ∧ (Lit.int q k).wf = true ∧ f k ≠ none := fun x hx => by
    obtain ⟨y, hy⟩ := F.reads x hx
    obtain ⟨k, _, hk, hwk⟩ := Maps.keyOf_int_inv hu (rd_key hy)
    have h1 : Maps.has (DataW.map ((es.toList.map (rg P K ptrR)).foldr DataW.insert [])) (rg P K ptrR x).1 = true :=
      List.any_eq_true.2 ⟨rg P K ptrR x, mem_sorted.2 (List.mem_map.2 ⟨x, hx, rfl⟩), WideAt.sameKey_self (by rw [rg_of hy]; exact hK.key (rd_key hy))⟩
    rw [rg_of hy, hk, (h3 k hwk).2] at h1
    exact ⟨k, by rw [rg_of hy]; exact hk, hwk, fun e => by rw [e] at h1; cases h1⟩
  have hn : (es.toList.map (fun x => keyInt (rg P K ptrR x).1)).Nodup := by
    have h4 := List.pairwise_map.1 (Maps.fit_apart hK F)
    refine List.pairwise_map.2 (List.Pairwise.imp_of_mem ?_ h4)
    intro x y hx hy hne e
    obtain ⟨k, e1, _⟩ := hk x hx
    obtain ⟨k', e2, _⟩ := hk y hy
    rw [e1, e2] at e hne
    exact hne (by rw [show k = k' from e])
  have h5 := nodup_len _ ks hn (fun z hz => by
    obtain ⟨x, hx, rfl⟩ := List.mem_map.1 hz
    obtain ⟨k, e1, h6, h7⟩ := hk x hx
    rw [e1]
    exact hf k h6 h7)
  rw [List.length_map] at h5
  simpa [Maps.size, length_sorted] using h5
theorem PM.pos (h : PM P K q w B n f sz) (k : Int) (hk : (Lit.int q k).wf = true) (hf : f k ≠ none) : 1 ≤ sz := by
  obtain ⟨D, h1, rfl, h3⟩ := h
  have h4 := (h3 k hk).2
  rw [show (f k).isSome = true from by cases e : f k with | none => exact absurd e hf | some _ => rfl] at h4
  obtain ⟨es, clock, hb, F, hs, rfl⟩ := h1
  obtain ⟨p, hp, _⟩ := List.any_eq_true.1 h4
  exact List.length_pos_of_mem hp
end
theorem read_reads {B g BL BS n sz : Nat} {f : Int → Option Nat} {C : Int → Int} {clk al : Int} (m : Nat) (addr : Int) (ha : 0 ≤ addr ∧ addr < 18446744073709551616) (w : World) (h : Sto w B g BL BS n f sz C clk al) (hB : B ≤ w.heap.size) (hm : m ≤ 4194304) :
    Calls Try.prog 11 #[.pointer (some ⟨g, 0, none⟩), .int .u64 addr, .int .i64 (m : Int)] w fun e w' => ∃ A c, e = .returned (.slice A m c) ∧ m ≤ c ∧ (∀ ad, A = some ad → 0 < m → w.heap.size ≤ ad.block) ∧ ReadsInt w' .u8 A m (rowC C addr m) ∧ Sto w' B g BL BS n f sz C clk al ∧ Fr (fun _ => False) w w' := by
  by_cases h0 : m = 0
  · subst h0
    go_enter Try.func11, Try.ntmps11
    go_wp2_with fail
    refine bodyPost_ret (results_tmp rfl _ _ _) rfl ?_
    exact ⟨none, 0, rfl, by omega, fun _ _ h => by omega, ⟨by simp [rowC], by omega, fun h => by omega⟩, h, Fr.refl _ _⟩
  · refine (read_any m addr ha w h hB (by omega)).mono ?_
    rintro e w' ⟨b, rfl, hb, hB', hs, hf⟩
    refine ⟨_, _, rfl, Nat.le_refl _, fun ad e _ => by injection e with e; subst e; exact hb, ⟨rowC_len _ _ _, by omega, fun _ => ⟨_, rfl, fun i hi => ?_⟩⟩, hs, hf⟩
    rw [add_plain, hB'.cell]
    simp [nums, List.getD_eq_getElem?_getD, rowC_get C addr m i hi]
set_option maxHeartbeats 2000000 in
theorem answers_any (w : World) : Calls Try.prog 7 #[] w fun e w' => e = .returned (.bool true) ∧ Fr (fun _ => False) w w' := by
  go_enter Try.func7, Try.ntmps7
  go_wp2_with fail
  refine (new_any w).mono ?_
  rintro x w1 ⟨g, BL, BS, rfl, hs1, hf1⟩
  have HS1 := Lib.hid hs1
  have HF1 := Lib.hid hf1
  clear hs1 hf1
  go_wp2_with fail
  have HF2 := Lib.hid (HF1.out.alloc (.cells #[.int .u8 7] 5))
  have HFA := Lib.hid ((Fr.refl (fun _ => False) w1).alloc (.cells #[.int .u8 7] 5))
  have HX := Lib.hid (reads_new w1 .u8 5 (0, 0) [7] (by simp))
  refine (write_any (some ⟨w1.heap.size, 0, none⟩) 1 [7] 5 (by omega) _ (HS1.out.fr HFA.out) (by have := HF2.out.size; omega) (by omega) (by simp) (by simp) HX.out (fun ad e _ h => by
    injection e with e
    subst e
    have h2 := HS1.out.own_lt _ h
    exact Nat.lt_irrefl _ h2)).mono ?_
  rintro x w3 ⟨rfl, n3, sz3, f3, clk3, hs3, hn3, hz3, hg3, hf3⟩
  have HS3 := Lib.hid hs3
  have HG3 := Lib.hid hg3
  have HF3 := Lib.hid (HF2.out.trans hf3 (fun i hi e => by
    rcases e with rfl | rfl | rfl | ⟨no, e⟩
    · have := HS1.out.gb; omega
    · have := HS1.out.lb; omega
    · have := HS1.out.sb; omega
    · cases e))
  clear hs3 hg3 hf3 hn3 hz3
  go_wp2_with fail
  refine (read_any 3 4 (by omega) _ HS3.out (by have := HF3.out.size; omega) (by omega)).mono ?_
  rintro x w4 ⟨b, rfl, hb4, hB4, hs4, hf4⟩
  rw [show rowC (wrC (fun _ => 0) 5 (cut 5 [7])) 4 3 = [0, 7, 0] from by decide] at hB4
  have q1 := hB4.cell 1
  simp [nums] at q1
  have HS4 := Lib.hid hs4
  have HF4 := Lib.hid (HF3.out.trans hf4 (fun _ _ e => e))
  have hsz : sz3 = 1 := by
    have h1 := PM.few HS4.out.lm lawK Try.underlying27 [0] (fun k _ hk => by
      cases e : f3 k with
      | none => exact absurd e hk
      | some b =>
        rcases HG3.out.new k b e with h | h
        · cases h
        · simp at h ⊢; omega)
    have h2 : f3 0 ≠ none := fun e => by
      have := HS4.out.zero 0 e 5 (by omega)
      revert this
      decide
    have h3 := PM.pos HS4.out.lm 0 (by decide) h2
    simp at h1
    omega
  subst hsz
  clear hb4 hB4 hs4 hf4
  go_wp2_with fail
  refine (held_any w4 HS4.out).mono ?_
  rintro x w5 ⟨rfl, hf5⟩
  have HF5 := Lib.hid (HF4.out.trans hf5 (fun _ _ e => e))
  clear hf5
  go_wp2_with fail
  go_ret
  exact ⟨rfl, HF5.out⟩
end Go.Proofs.Ytipbfmidiimicaa.Pq
