/- The top of a stack: start.Build, walked. -/
import Derived.Test.YtnoeehdccknhnaaStC
import Derived.Test.YtnoeehdccknhnaaStD
import Derived.Test.YtnoeehdccknhnaaByPut
namespace Go.Proofs.Ytnoeehdccknhnaa.St
open Go Go.RowKit Go.Proofs.YtnoeehdccknhnaaW.PrintWords Go.Proofs.YtnoeehdccknhnaaW.PrintLast Go.Proofs.YtnoeehdccknhnaaW.PrintMore
open Go.Proofs.Ytnoeehdccknhnaa.Hp
attribute [local go_sem] max2_int min2_int max_two min_two max_three min_three max_four min_four
set_option linter.unusedVariables false
set_option linter.unusedSimpArgs false
theorem two_C {w : World} {b : Nat} {A1 A2 : Option Addr} {c1 c2 : Nat} {l1 l2 : List ByteArray} (h : Blk w b 22 #[.slice A1 l1.length c1, .slice A2 l2.length c2]) (h1 : Kd.string.C w A1 l1.length l1) (h2 : Kd.string.C w A2 l2.length l2) (hc1 : l1.length ≤ c1) (hc2 : l2.length ≤ c2) :
    Kd.C (Kd.slice 9 Kd.string) w (some ⟨b, 0, none⟩) 2 [l1, l2] := by
  refine ⟨rfl, by decide, fun _ => ⟨_, rfl, fun j p hp => ?_⟩⟩
  match j, hp with
  | 0, hp =>
    cases hp
    refine ⟨[.slice A1 l1.length c1], rfl, ⟨A1, c1, rfl, hc1, h1⟩, fun i u hu => ?_⟩
    match i, hu with
    | 0, hu => cases hu; exact h.cell 0
  | 1, hp =>
    cases hp
    refine ⟨[.slice A2 l2.length c2], rfl, ⟨A2, c2, rfl, hc2, h2⟩, fun i u hu => ?_⟩
    match i, hu with
    | 0, hu => cases hu; exact h.cell 1
theorem cntLL_two (a b : List ByteArray) : cntLL [a, b] = a.length + b.length := rfl
theorem szLL_two (a b : List ByteArray) : szLL [a, b] = szOf a + szOf b := rfl
theorem chk_fits {a b : List ByteArray} (h : chk [a, b] = 0) : a.length + b.length ≤ 256 ∧ szOf a + szOf b ≤ 32768 := by
  unfold chk at h
  rw [cntLL_two, szLL_two] at h
  split at h
  · cases h
  · split at h
    · cases h
    · omega
theorem C_fr {w w' : World} {A : Option Addr} {l : List ByteArray} (h : Kd.string.C w A l.length l) (hb : Below w.heap.size w w') : Kd.string.C w' A l.length l := Kd.C_below h hb
theorem blk_new3 (w : World) (o1 o2 : Obj) (t : TypeId) (cs : Array Value) : Blk (((w.alloc o1).alloc o2).alloc (.cells cs t (0, 0))) (w.heap.size + 1 + 1) t cs := by
  have h := Blk.new ((w.alloc o1).alloc o2) t cs
  rwa [show ((w.alloc o1).alloc o2).heap.size = w.heap.size + 1 + 1 by simp] at h
def fitsAll (a b : List ByteArray) : Prop := a.length + b.length ≤ 1152921504606846976 ∧ szOf a + szOf b ≤ 1152921504606846976
theorem check_two {w : World} {b : Nat} {A1 A2 : Option Addr} {c1 c2 : Nat} {l1 l2 : List ByteArray} (h : Blk w b 22 #[.slice A1 l1.length c1, .slice A2 l2.length c2]) (h1 : Kd.string.C w A1 l1.length l1) (h2 : Kd.string.C w A2 l2.length l2) (hc1 : l1.length ≤ c1) (hc2 : l2.length ≤ c2) (hf : fitsAll l1 l2) :
    Calls Try.prog 16 #[.slice (some ⟨b, 0, none⟩) 2 2] w fun e w' => e = .returned (.int .i64 (chk [l1, l2])) ∧ w' = w :=
  check_any (some ⟨b, 0, none⟩) 2 [l1, l2] w (two_C h h1 h2 hc1 hc2) (Nat.le_refl _) (show 2 ≤ 4 by decide) (by rw [cntLL_two]; have := hf.1; omega) (by rw [szLL_two]; have := hf.2; omega)
theorem total_two {w : World} {b : Nat} {A1 A2 : Option Addr} {c1 c2 : Nat} {l1 l2 : List ByteArray} (h : Blk w b 22 #[.slice A1 l1.length c1, .slice A2 l2.length c2]) (h1 : Kd.string.C w A1 l1.length l1) (h2 : Kd.string.C w A2 l2.length l2) (hc1 : l1.length ≤ c1) (hc2 : l2.length ≤ c2) (hf : l1.length + l2.length ≤ 256 ∧ szOf l1 + szOf l2 ≤ 32768) :
    Calls Try.prog 18 #[.slice (some ⟨b, 0, none⟩) 2 2] w fun e w' => e = .returned (.int .i64 (szOf l1 + szOf l2 : Nat)) ∧ w' = w :=
  total_any (some ⟨b, 0, none⟩) 2 [l1, l2] w (two_C h h1 h2 hc1 hc2) (Nat.le_refl _) (show 2 ≤ 4 by decide) (by rw [cntLL_two]; have := hf.1; omega) (by rw [szLL_two]; have := hf.2; omega)
set_option maxHeartbeats 4000000 in
theorem build_no (A1 A2 : Option Addr) (c1 c2 : Nat) (l1 l2 : List ByteArray) (entry phdr phnum phsize : Int) (seg : Value) (hseg : seg.oneCell' = true) (r0 r1 r2 r3 r4 r5 r6 r7 r8 r9 r10 r11 r12 r13 r14 r15 : Int) (w : World) (h1 : Kd.string.C w A1 l1.length l1) (h2 : Kd.string.C w A2 l2.length l2) (hc1 : l1.length ≤ c1) (hc2 : l2.length ≤ c2) (hf : fitsAll l1 l2) (hn : chk [l1, l2] ≠ 0) :
    Calls Try.prog 8 #[.slice A1 l1.length c1, .slice A2 l2.length c2, .agg #[.int .u64 entry, seg, .int .u64 phdr, .int .i64 phnum, .int .i64 phsize], .agg #[.int .u8 r0, .int .u8 r1, .int .u8 r2, .int .u8 r3, .int .u8 r4, .int .u8 r5, .int .u8 r6, .int .u8 r7, .int .u8 r8, .int .u8 r9, .int .u8 r10, .int .u8 r11, .int .u8 r12, .int .u8 r13, .int .u8 r14, .int .u8 r15]] w fun e w' => e = .returned (.tuple #[.slice none 0 0, .int .u64 0, .int .i64 (chk [l1, l2])]) ∧ Fr (fun _ => False) w w' := by
  obtain ⟨k, hk⟩ : ∃ k, chk [l1, l2] = k := ⟨_, rfl⟩
  rw [hk] at hn ⊢
  have t1 : (k == 0) = false := beq_eq_false_iff_ne.2 hn
  have t2 : (k != 0) = true := by rw [bne, t1]; rfl
  have HK := Lib.hid hk
  have H1 := Lib.hid h1
  have H2 := Lib.hid h2
  have HF := Lib.hid hf
  have HC1 := Lib.hid hc1
  have HC2 := Lib.hid hc2
  obtain ⟨n1, hn1⟩ : ∃ n, l1.length = n := ⟨_, rfl⟩
  obtain ⟨n2, hn2⟩ : ∃ n, l2.length = n := ⟨_, rfl⟩
  have HN1 := Lib.hid hn1
  have HN2 := Lib.hid hn2
  rw [hn1, hn2]
  clear hk hn h1 h2 hc1 hc2 hf hn1 hn2
  go_enter Try.func8, Try.ntmps8
  go_wp2_with fail
  rw [← HN1.out, ← HN2.out]
  have HB := Lib.hid ((((Fr.refl (fun _ => False) w).alloc (.cells #[.int .u64 entry, seg, .int .u64 phdr, .int .i64 phnum, .int .i64 phsize] 26)).alloc (.cells #[.int .u8 r0, .int .u8 r1, .int .u8 r2, .int .u8 r3, .int .u8 r4, .int .u8 r5, .int .u8 r6, .int .u8 r7, .int .u8 r8, .int .u8 r9, .int .u8 r10, .int .u8 r11, .int .u8 r12, .int .u8 r13, .int .u8 r14, .int .u8 r15] 27)).alloc (.cells #[.slice A1 l1.length c1, .slice A2 l2.length c2] 22))
  refine (check_two (blk_new3 _ _ _ _ _) (C_fr H1.out (Fr.below (Below.refl _ _) HB.out (fun _ _ => id))) (C_fr H2.out (Fr.below (Below.refl _ _) HB.out (fun _ _ => id))) HC1.out HC2.out HF.out).mono ?_
  rintro e w1 ⟨rfl, rfl⟩
  rw [HK.out]
  go_wp2_with fail
  go_ret3
  exact ⟨rfl, HB.out⟩
end Go.Proofs.Ytnoeehdccknhnaa.St
