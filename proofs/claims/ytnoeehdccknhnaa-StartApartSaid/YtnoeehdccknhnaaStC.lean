/- What the machine tells: start.Aux, walked. -/
import Derived.Test.YtnoeehdccknhnaaStB
import Derived.Deep.DeepAppendWide
import Derived.Deep.AppendLies
namespace Go.Proofs.Ytnoeehdccknhnaa.St
open Go Go.RowKit Go.Proofs.YtnoeehdccknhnaaW.PrintWords Go.Proofs.YtnoeehdccknhnaaW.PrintLast Go.Proofs.YtnoeehdccknhnaaW.PrintMore
open Go.Proofs.Ytnoeehdccknhnaa.Hp
attribute [local go_sem] max2_int min2_int max_two min_two max_three min_three max_four min_four
set_option linter.unusedVariables false
set_option linter.unusedSimpArgs false
theorem infoPR : (Try.prog.info? 44 ).map (fun i => (i.zero, i.size, i.bytes)) = some (some (.agg #[.int .u64 0, .int .u64 0]), 2, 16) := by kernel_rfl
/-- What the machine tells, flat. -/
def auxL (entry phdr phnum phsize random : Int) : List Int := (if phdr = 0 then [] else [3, phdr]) ++ [4, IntKind.u64.wrap phsize, 5, IntKind.u64.wrap phnum, 6, 4096, 9, entry, 11, 1000, 12, 1000, 13, 1000, 14, 1000, 23, 0, 25, random, 0, 0]
def auxN (phdr : Int) : Nat := if phdr = 0 then 11 else 12
theorem one_nums (k : IntKind) (l : List Int) : ∀ u ∈ nums k l, u.oneCell' = true := fun u hu => by
  obtain ⟨x, _, rfl⟩ := List.mem_map.1 hu
  rfl
theorem news_new (w : World) (cs : List Value) (t : TypeId) : ∀ j u, cs[j]? = some u → (w.alloc (.cells cs.toArray t)).cell? ((⟨w.heap.size, 0, none⟩ : Addr).add j) = some u := by
  have h := World.news_of_block (w := w.alloc (.cells cs.toArray t)) (B := w.heap.size) (cs := cs.toArray) (t := t) (fr := (0, 0)) (Blk.new w t cs.toArray)
  simpa using h
theorem own_ge {w : World} {base : Nat} {e : TypeId} {size n : Nat} {v : Value} {xs : List Value} (h : w.ownsRow base e size v n xs) : ∀ k, v.ownBlock = some k → base ≤ k := fun k hk => by
  rcases h.2 with ⟨rfl, _⟩ | ⟨g, cap, cur, rfl, hbb, _⟩
  · simp [Value.ownBlock] at hk
  · have : g = k := by simpa [Value.ownBlock] using hk
    omega
theorem news_new2 (w : World) (o : Obj) (cs : List Value) (t : TypeId) : ∀ j u, cs[j]? = some u → ((w.alloc o).alloc (.cells cs.toArray t)).cell? ((⟨w.heap.size + 1, 0, none⟩ : Addr).add j) = some u := by
  have h := news_new (w.alloc o) cs t
  simpa using h
set_option maxHeartbeats 2000000 in
theorem aux_any (entry phdr phnum phsize random : Int) (seg : Value) (hseg : seg.oneCell' = true) (w : World) : Calls Try.prog 15 #[.agg #[.int .u64 entry, seg, .int .u64 phdr, .int .i64 phnum, .int .i64 phsize], .int .u64 random] w fun e w' => ∃ v, e = .returned v ∧ w'.ownsRow w.heap.size 44 2 v (auxN phdr) (nums .u64 (auxL entry phdr phnum phsize random)) ∧ Below w.heap.size w w' := by
  obtain ⟨i0, hi, hz0, hz1, hz2⟩ := info_parts infoPR
  obtain ⟨o, ho⟩ : ∃ o, o = auxL entry phdr phnum phsize random := ⟨_, rfl⟩
  rw [← ho]
  obtain ⟨p1, hp1⟩ : ∃ p, IntKind.u64.wrap phsize = p := ⟨_, rfl⟩
  obtain ⟨p2, hp2⟩ : ∃ p, IntKind.u64.wrap phnum = p := ⟨_, rfl⟩
  unfold auxL at ho
  rw [hp1, hp2] at ho
  by_cases hp : phdr = 0
  · rw [if_pos hp] at ho
    have t1 : (phdr == 0) = true := beq_iff_eq.2 hp
    have t2 : (phdr != 0) = false := by rw [bne, t1]; rfl
    rw [auxN, if_pos hp]
    have HO := Lib.hid ho
    clear ho hp
    go_enter Try.func15, Try.ntmps15
    have HSZ := Lib.hid (Nat.le_refl w.heap.size)
    go_wp2_with (at_builtin; refine wpList_append_own_wide _ rfl (.tmp 15) (.tmp 36) 38 rfl w.heap.size 44 i0 (.agg #[.int .u64 0, .int .u64 0]) 2 16 Try.underlying38 hi hz0 hz1 hz2 rfl (by decide) (.slice none 0 0) 0 [] rfl (World.ownsRow_nil _ _ _ _) ⟨w.heap.size + 1, 0, none⟩ 11 11 (nums .u64 [4, p1, 5, p2, 6, 4096, 9, entry, 11, 1000, 12, 1000, 13, 1000, 14, 1000, 23, 0, 25, random, 0, 0]) rfl rfl (news_new2 _ _ (nums .u64 [4, p1, 5, p2, 6, 4096, 9, entry, 11, 1000, 12, 1000, 13, 1000, 14, 1000, 23, 0, 25, random, 0, 0]) 44) (one_nums _ _) (by decide) (by decide) (by have e := HSZ.out; simp; omega) ?_; intro v1 w1 h1 g1 _; have H1 := Lib.hid h1; have G1 := Lib.hid g1; clear h1 g1)
    go_ret
    refine ⟨v1, rfl, ?_, ?_⟩
    · rw [HO.out]
      exact H1.out
    · exact Fr.below (Below.refl _ _) ((((Fr.refl (fun _ => False) w).alloc _).alloc _).grown G1.out (fun k e => by simp [Value.ownBlock] at e)) (fun _ _ => id)
  · rw [if_neg hp] at ho
    have t1 : (phdr == 0) = false := beq_eq_false_iff_ne.2 hp
    have t2 : (phdr != 0) = true := by rw [bne, t1]; rfl
    rw [auxN, if_neg hp]
    have HO := Lib.hid ho
    clear ho hp
    have HSZ := Lib.hid (Nat.le_refl w.heap.size)
    go_enter Try.func15, Try.ntmps15
    go_wp2_with (first | ((at_builtin; refine wpList_append_own_wide _ rfl (.tmp 9) (.tmp 13) 38 rfl w.heap.size 44 i0 (.agg #[.int .u64 0, .int .u64 0]) 2 16 Try.underlying38 hi hz0 hz1 hz2 rfl (by decide) (.slice none 0 0) 0 [] rfl (World.ownsRow_nil _ _ _ _) ⟨w.heap.size + 1, 0, none⟩ 1 1 (nums .u64 [3, phdr]) rfl rfl (news_new2 _ _ (nums .u64 [3, phdr]) 44) (one_nums _ _) (by decide) (by decide) (by have e := HSZ.out; simp; omega) ?_; intro v1 w1 h1 g1 _; have H1 := Lib.hid h1; have G1 := Lib.hid g1; clear h1 g1); have HF := Lib.hid ((((Fr.refl (fun _ => False) w).alloc (.cells #[.int .u64 entry, seg, .int .u64 phdr, .int .i64 phnum, .int .i64 phsize] 26)).alloc (.cells #[.int .u64 3, .int .u64 phdr] 44)).grown G1.out (fun k e => by simp [Value.ownBlock] at e)); have HX := Lib.hid ((Blk.alloc (Blk.new w 26 #[.int .u64 entry, seg, .int .u64 phdr, .int .i64 phnum, .int .i64 phsize]) (.cells #[.int .u64 3, .int .u64 phdr] 44)).fr ((Fr.refl (fun _ => False) _).grown G1.out (fun k e => by simp [Value.ownBlock] at e)) id); obtain ⟨k0, k3, k4⟩ := (show _ ∧ _ ∧ _ from ⟨HX.out.cell 0, HX.out.cell 3, HX.out.cell 4⟩); simp at k0 k3 k4; clear HSZ; have HSZ := Lib.hid HF.out.size) | (at_builtin; refine wpList_append_own_wide _ rfl (.tmp 15) (.tmp 36) 38 rfl w.heap.size 44 i0 (.agg #[.int .u64 0, .int .u64 0]) 2 16 Try.underlying38 hi hz0 hz1 hz2 rfl (by decide) v1 1 (nums .u64 [3, phdr]) rfl (H1.out.alloc _) ⟨w1.heap.size, 0, none⟩ 11 11 (nums .u64 [4, p1, 5, p2, 6, 4096, 9, entry, 11, 1000, 12, 1000, 13, 1000, 14, 1000, 23, 0, 25, random, 0, 0]) rfl rfl (news_new w1 (nums .u64 [4, p1, 5, p2, 6, 4096, 9, entry, 11, 1000, 12, 1000, 13, 1000, 14, 1000, 23, 0, 25, random, 0, 0]) 44) (one_nums _ _) (by decide) (by decide) (by have e := HSZ.out; simp; omega) ?_; intro v2 w2 h2 g2 _; have H2 := Lib.hid h2; have G2 := Lib.hid g2; clear h2 g2))
    go_ret
    refine ⟨v2, rfl, ?_, ?_⟩
    · rw [HO.out]
      exact H2.out
    · exact Fr.below (Below.refl _ _) ((HF.out.alloc _).grown G2.out (fun k e => .inr (own_ge H1.out k e))) (fun _ _ => id)
end Go.Proofs.Ytnoeehdccknhnaa.St
