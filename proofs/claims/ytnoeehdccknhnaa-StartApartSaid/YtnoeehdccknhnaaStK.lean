/- The document's Build of what is not refused, walked. -/
import Derived.Test.YtnoeehdccknhnaaStJ
import Derived.Test.YtnoeehdccknhnaaByRPut
namespace Go.Proofs.Ytnoeehdccknhnaa.St
open Go Go.RowKit Go.Proofs.YtnoeehdccknhnaaW.PrintWords Go.Proofs.YtnoeehdccknhnaaW.PrintLast Go.Proofs.YtnoeehdccknhnaaW.PrintMore
open Go.Proofs.Ytnoeehdccknhnaa.Hp
attribute [local go_sem] max2_int min2_int max_two min_two max_three min_three max_four min_four
set_option linter.unusedVariables false
set_option linter.unusedSimpArgs false
def AtSz (la : List ByteArray) (w4 : World) (v12 v14 : Value) (kq : Nat) (wr : World) : Prop := ∃ k : Nat, v14 = .int .i64 k ∧ k ≤ la.length ∧ la.length - k ≤ kq ∧ v12 = .int .i64 (16 + szOf (la.take k) : Nat) ∧ w4 = wr
def AtTW (l1 l2 : List ByteArray) (bs : Int) (n : Nat) (w4 : World) (v10 v11 v16 : Value) (kq : Nat) (wr : World) : Prop := ∃ k : Nat, v16 = .int .i64 k ∧ k ≤ n ∧ n - k ≤ kq ∧ TW w4 wr (txOf ((l1 ++ l2).take k)) (midW bs l1 l2 k) v10 v11
def AtAxR (w4 : World) (T W AL : List Int) (tv : Value) (B5 n : Nat) (v5 : Value) (v11 v18 : Value) (kq : Nat) (wr : World) : Prop := ∃ k : Nat, v18 = .int .i64 k ∧ k ≤ n ∧ n - k ≤ kq ∧ TW w4 wr T (W ++ AL.take (2 * k)) tv v11 ∧ wr.ownsRow B5 44 2 v5 n (nums .u64 AL)
/-- A slice of bytes that is filled from the front: its block, and the older ones. -/
structure Out8 (w6 : World) (g room : Nat) (pre : List Int) (w : World) : Prop where
  blk : Blk w g 5 (nums .u8 (pre ++ List.replicate (room - pre.length) 0)).toArray
  bel : Below w6.heap.size w6 w
  gg : w6.heap.size = g
theorem Out8.fr {w6 w w1 : World} {g room : Nat} {pre : List Int} (h : Out8 w6 g room pre w) (hf : Fr (fun _ => False) w w1) : Out8 w6 g room pre w1 := ⟨h.blk.fr hf id, Fr.below h.bel hf (fun _ _ => id), h.gg⟩
theorem Out8.set {w6 w : World} {g room : Nat} {pre : List Int} (h : Out8 w6 g room pre w) {p : Nat} (hp : pre.length = p) (hl : p < room) (x : Int) : Out8 w6 g room (pre ++ [x]) (w.setCell ⟨g, p, none⟩ (.int .u8 x)) := by
  subst hp
  refine ⟨?_, Fr.below h.bel ((Fr.refl (fun k => k = g) w).setCell (p := ⟨g, pre.length, none⟩) (.inl rfl) _) (fun k hk e => by have := h.gg; omega), h.gg⟩
  rw [← set_next pre x room hl]
  exact h.blk.set _ _
theorem Out8.cell {w6 w : World} {g room : Nat} {pre : List Int} (h : Out8 w6 g room pre w) {p : Nat} (hl : p < room) : (∃ x, w.cell? ⟨g, p, none⟩ = some (.int .u8 x)) ∧ w.frozen? ⟨g, p, none⟩ = false :=
  ⟨nums_cell h.blk p (by rw [List.length_append, List.length_replicate]; omega), h.blk.frozen p⟩
theorem own8_blk {w : World} {g n B : Nat} {l : List Int} (h : Blk w g 5 (nums .u8 l).toArray) (hl : l.length = n) (hn : n ≤ 1000000) (hB : B ≤ g) : Own8 w B (.slice (some ⟨g, 0, none⟩) n n) l := by
  subst hl
  refine ⟨⟨by simp [nums], .inr ⟨g, l.length, (nums .u8 l).toArray, rfl, Nat.zero_le _, h, Nat.le_refl _, by unfold maxLen; omega, by simp [nums], by rw [Nat.mul_one]; exact List.take_of_length_le (by simp [nums])⟩⟩, fun b e => ?_⟩
  have : g = b := by simpa [Value.ownBlock] using e
  omega
def AtO4 (w6 : World) (g room nw : Nat) (W2 : List Int) (v21 : Value) (kq : Nat) (wr : World) : Prop := ∃ i : Nat, v21 = .int .i64 i ∧ i ≤ nw ∧ nw - i ≤ kq ∧ Out8 w6 g room (wby (W2.take i)) wr
def AtO5 (w6 : World) (g room : Nat) (pre E : List Int) (v22 v23 : Value) (kq : Nat) (wr : World) : Prop := ∃ j : Nat, v23 = .int .i64 j ∧ j ≤ 8 ∧ 8 - j ≤ kq ∧ Out8 w6 g room (pre ++ E.take j) wr ∧ Row wr 5 .u8 v22 E
def AtO6 (w6 : World) (g room nt : Nat) (pre T2 : List Int) (v24 : Value) (kq : Nat) (wr : World) : Prop := ∃ i : Nat, v24 = .int .i64 i ∧ i ≤ nt ∧ nt - i ≤ kq ∧ Out8 w6 g room (pre ++ T2.take i) wr
theorem gap6 {bs sp d : Int} {nw : Nat} {z1 : Nat} (h : bs - sp = d) (hz : d - 8 * (nw : Int) = (z1 : Int)) : (bs - 8 * (nw : Int) - sp).toNat = z1 := by omega
theorem gap7 {K bs sp : Int} {d room nt : Nat} (h : bs - sp = (d : Int)) (hr : K - sp = (room : Int)) (hn : d + nt ≤ room) : (K - bs - (nt : Int)).toNat = room - (d + nt) := by omega
theorem int_take (l : List Int) (i : Nat) (h : i < l.length) : l.take (i + 1) = l.take i ++ [l.getD i 0] := take_snoc 0 l i h
theorem gap4 {K b sp : Int} {z d nt room : Nat} (h : (K - (z : Int)) / 16 * 16 = b) (hd : b - sp = (d : Int)) (hr : K - sp = (room : Int)) (hz : nt ≤ z) : d + nt ≤ room := by omega
theorem gap5 {K b sp : Int} {z nw room : Nat} (h : (K - (z : Int)) / 16 * 16 = b) (hs : (b - 8 * (nw : Int)) / 16 * 16 = sp) (hr : K - sp = (room : Int)) (hz : z ≤ 40000) (hn : nw ≤ 300) : room ≤ 100000 := by omega
theorem base_in {K b : Int} {z : Nat} (h : (K - (z : Int)) / 16 * 16 = b) (hz : z ≤ 40000) : b ≤ K ∧ K - 40016 ≤ b := by omega
set_option maxHeartbeats 8000000 in
set_option maxRecDepth 100000 in
theorem rbuild_yes (A1 A2 : Option Addr) (c1 c2 : Nat) (l1 l2 : List ByteArray) (entry phdr phnum phsize : Int) (seg : Value) (hseg : seg.oneCell' = true) (r0 r1 r2 r3 r4 r5 r6 r7 r8 r9 r10 r11 r12 r13 r14 r15 : Int) (w : World) (h1 : Kd.string.C w A1 l1.length l1) (h2 : Kd.string.C w A2 l2.length l2) (hfit : l1.length + l2.length ≤ 256 ∧ szOf l1 + szOf l2 ≤ 32768) (hen : 0 ≤ entry ∧ entry < 18446744073709551616) (hph : 0 ≤ phdr ∧ phdr < 18446744073709551616) :
    Calls Try.prog 10 #[.slice A1 l1.length c1, .slice A2 l2.length c2, .agg #[.int .u64 entry, seg, .int .u64 phdr, .int .i64 phnum, .int .i64 phsize], .agg #[.int .u8 r0, .int .u8 r1, .int .u8 r2, .int .u8 r3, .int .u8 r4, .int .u8 r5, .int .u8 r6, .int .u8 r7, .int .u8 r8, .int .u8 r9, .int .u8 r10, .int .u8 r11, .int .u8 r12, .int .u8 r13, .int .u8 r14, .int .u8 r15]] w fun e w' => ∃ v, e = .returned (.tuple #[v, .int .u64 (spOf (baseOf l1 l2) (wordsOf (baseOf l1 l2) l1 l2 entry phdr phnum phsize).length)]) ∧ Own8 w' w.heap.size v (outOf (baseOf l1 l2) (wordsOf (baseOf l1 l2) l1 l2 entry phdr phnum phsize) (txOf l1 ++ txOf l2 ++ [r0, r1, r2, r3, r4, r5, r6, r7, r8, r9, r10, r11, r12, r13, r14, r15])) ∧ Fr (fun _ => False) w w' := by
  have HFT := Lib.hid hfit
  have H1 := Lib.hid h1
  have H2 := Lib.hid h2
  have HEN := Lib.hid hen
  have HPH := Lib.hid hph
  obtain ⟨n1, hn1⟩ : ∃ n, l1.length = n := ⟨_, rfl⟩
  obtain ⟨n2, hn2⟩ : ∃ n, l2.length = n := ⟨_, rfl⟩
  obtain ⟨sz, hsz⟩ : ∃ z, szOf l1 + szOf l2 = z := ⟨_, rfl⟩
  obtain ⟨n, hn⟩ : ∃ n, n1 + n2 = n := ⟨_, rfl⟩
  obtain ⟨la, hla⟩ : ∃ l, l1 ++ l2 = l := ⟨_, rfl⟩
  have HN1 := Lib.hid hn1
  have HN2 := Lib.hid hn2
  have HSZ := Lib.hid hsz
  have HN := Lib.hid hn
  have HLA := Lib.hid hla
  have HLN := Lib.hid (show la.length = n from by rw [← hla, List.length_append, hn1, hn2, hn])
  have HLS := Lib.hid (show szOf la = sz from by rw [← hla, szOf_append, hsz])
  rw [hn1] at H1 ⊢
  rw [hn2] at H2 ⊢
  rw [hn1, hn2, hsz] at hfit
  have hnn : n1 ≤ n ∧ n2 ≤ n ∧ n ≤ 256 := by omega
  clear h1 h2 hn1 hn2 hsz hla hen hph
  go_enter Try.func10, Try.ntmps10
  go_wp2_with ((with_reducible refine gate_builtin (b := .append) (xs := #[.tmp 25, .tmp 26]) rfl ?_); refine Classical.byContradiction fun hgoal => ?_)
  apply hgoal
  clear hgoal
  (try (refine gate_guard (by rfl) ?_; dsimp only))
  have HP := Lib.hid (blk_new2 w (.cells #[.int .u8 r0, .int .u8 r1, .int .u8 r2, .int .u8 r3, .int .u8 r4, .int .u8 r5, .int .u8 r6, .int .u8 r7, .int .u8 r8, .int .u8 r9, .int .u8 r10, .int .u8 r11, .int .u8 r12, .int .u8 r13, .int .u8 r14, .int .u8 r15] 27) 26 #[.int .u64 entry, seg, .int .u64 phdr, .int .i64 phnum, .int .i64 phsize])
  have HR16 := Lib.hid (blk_new22 w (.cells #[.int .u64 entry, seg, .int .u64 phdr, .int .i64 phnum, .int .i64 phsize] 26) 27 #[.int .u8 r0, .int .u8 r1, .int .u8 r2, .int .u8 r3, .int .u8 r4, .int .u8 r5, .int .u8 r6, .int .u8 r7, .int .u8 r8, .int .u8 r9, .int .u8 r10, .int .u8 r11, .int .u8 r12, .int .u8 r13, .int .u8 r14, .int .u8 r15])
  have HF2 := Lib.hid (((Fr.refl (fun _ => False) w).alloc (.cells #[.int .u64 entry, seg, .int .u64 phdr, .int .i64 phnum, .int .i64 phsize] 26)).alloc (.cells #[.int .u8 r0, .int .u8 r1, .int .u8 r2, .int .u8 r3, .int .u8 r4, .int .u8 r5, .int .u8 r6, .int .u8 r7, .int .u8 r8, .int .u8 r9, .int .u8 r10, .int .u8 r11, .int .u8 r12, .int .u8 r13, .int .u8 r14, .int .u8 r15] 27))
  obtain ⟨w2, hw2⟩ : ∃ w2, (w.alloc (.cells #[.int .u64 entry, seg, .int .u64 phdr, .int .i64 phnum, .int .i64 phsize] 26)).alloc (.cells #[.int .u8 r0, .int .u8 r1, .int .u8 r2, .int .u8 r3, .int .u8 r4, .int .u8 r5, .int .u8 r6, .int .u8 r7, .int .u8 r8, .int .u8 r9, .int .u8 r10, .int .u8 r11, .int .u8 r12, .int .u8 r13, .int .u8 r14, .int .u8 r15] 27) = w2 := ⟨_, rfl⟩
  have hs2 : w2.heap.size = w.heap.size + 1 + 1 := by rw [← hw2]; simp
  rw [hw2] at HP HR16 HF2 ⊢
  clear hw2
  have HC1 := Lib.hid (Kd.C_below H1.out (Fr.below (Below.refl _ _) (HF2.out.alloc (.cells #[] 9)) (fun _ _ => id)))
  have HC2 := Lib.hid (Kd.C_below H2.out (Fr.below (Below.refl _ _) HF2.out (fun _ _ => id)))
  refine rowS_app (w0 := w2) w2.heap.size rfl (.tmp 25) (.tmp 26) 22 9 rfl Try.underlying22 infoST (.slice (some ⟨w2.heap.size, 0, none⟩) 0 0) [] l1 A1 n1 c1 (by rw [hs2]; rfl) rfl (rowS_empty w2) HC1.out (Fr.below (Below.refl _ _) ((Fr.refl (fun _ => False) w2).alloc _) (fun _ _ => id)) (by simp) (by simp; omega) ?_
  intro v1 w3 ho1 hb1 _ _
  have HO1 := Lib.hid ho1
  have HB1 := Lib.hid hb1
  clear ho1 hb1 HC1
  go_wp2_with ((with_reducible refine gate_builtin (b := .append) (xs := #[.tmp 27, .tmp 28]) rfl ?_); refine Classical.byContradiction fun hgoal => ?_)
  apply hgoal
  clear hgoal
  (try (refine gate_guard (by rfl) ?_; dsimp only))
  have HC2a := Lib.hid (Kd.C_below HC2.out HB1.out)
  refine rowS_app (w0 := w2) w2.heap.size rfl (.tmp 27) (.tmp 28) 22 9 rfl Try.underlying22 infoST v1 ([] ++ l1) l2 A2 n2 c2 rfl rfl HO1.out HC2a.out HB1.out HB1.out.size (by rw [List.nil_append, HN1.out]; omega) ?_
  intro v2 w4 ho2 hb2 _ _
  obtain ⟨A13, c13, rfl, hc13, hC13⟩ := Kd.R_reads ho2
  rw [List.nil_append, HLA.out, HLN.out] at hc13 hC13 ⊢
  have HC13 := Lib.hid hC13
  have HB4 := Lib.hid hb2
  have HP4 := Lib.hid (show Blk w4 w.heap.size 26 #[.int .u64 entry, seg, .int .u64 phdr, .int .i64 phnum, .int .i64 phsize] from (hb2.block _ (by omega)).trans HP.out)
  have HR4 := Lib.hid (show Blk w4 (w.heap.size + 1) 27 #[.int .u8 r0, .int .u8 r1, .int .u8 r2, .int .u8 r3, .int .u8 r4, .int .u8 r5, .int .u8 r6, .int .u8 r7, .int .u8 r8, .int .u8 r9, .int .u8 r10, .int .u8 r11, .int .u8 r12, .int .u8 r13, .int .u8 r14, .int .u8 r15] from (hb2.block _ (by omega)).trans HR16.out)
  have HF4 := Lib.hid (HF2.out.trans (Fr.of_below (S := fun _ => False) hb2) (fun _ _ => id))
  have hs4 := hb2.size
  clear ho2 hb2 hC13 HC2a HO1 HB1 HC2 HP HR16 HF2 HB4
  go_wp2_with fail
  go_loopg [12, 14] n (fun kq v12 v14 wr => Hid (AtSz la w4 v12 v14 kq wr))
  case atStart => exact Lib.hid ⟨0, rfl, by omega, by rw [HLN.out]; omega, by simp [szOf], rfl⟩
  case round =>
    obtain ⟨k, rfl, hk1, hk2, rfl, rfl⟩ := hrel.out
    rw [HLN.out] at hk1 hk2
    clear hrel
    by_cases hk : k < n
    · have u1 : decide ((k : Int) < (n : Int)) = true := decide_eq_true (by omega)
      have u1' : decide (k < n) = true := decide_eq_true hk
      have j0 : (0 : Int) ≤ (k : Int) := by omega
      have j1 : (k : Int) < (n : Int) := by omega
      have HKL := Lib.hid (show k < la.length from by rw [HLN.out]; exact hk)
      obtain ⟨ad, e2, hx⟩ := at_S HC13.out k hk
      subst e2
      have HST := Lib.hid (show szOf (la.take (k + 1)) = szOf (la.take k) + ((rdS la k).size + 1) from by rw [take_snoc ByteArray.empty la k HKL.out, szOf_snoc]; rfl)
      have hle := szOf_take la (k + 1)
      rw [HST.out, HLS.out] at hle
      obtain ⟨s, hs⟩ : ∃ s, rdS la k = s := ⟨_, rfl⟩
      rw [hs] at hx hle HST
      clear hs
      obtain ⟨t, ht⟩ : ∃ t, 16 + szOf (la.take k) = t := ⟨_, rfl⟩
      have HTT := Lib.hid ht
      rw [ht]
      have hle2 : t + (s.size + 1) ≤ 16 + sz := by omega
      clear ht hle
      have hw1 : IntKind.i64.wrap ((t : Int) + (s.size : Int)) = (t : Int) + (s.size : Int) := IntWalk.i64_in _ (by omega)
      have hw2 : IntKind.i64.wrap ((t : Int) + (s.size : Int) + 1) = (t : Int) + (s.size : Int) + 1 := IntWalk.i64_in _ (by omega)
      go_wp2_with fail
      go_roundg (n - (k + 1))
      case measure => omega
      case rel => exact Lib.hid ⟨k + 1, by go_num, by rw [HLN.out]; omega, by rw [HLN.out]; omega, by rw [HST.out, ← Nat.add_assoc, HTT.out]; go_num, rfl⟩
    · obtain rfl : k = n := by omega
      have u1 : decide ((k : Int) < (k : Int)) = false := decide_eq_false (by omega)
      rw [show la.take k = la from List.take_of_length_le (by rw [HLN.out]; exact Nat.le_refl _), HLS.out]
      obtain ⟨z16, hz16⟩ : ∃ z, 16 + sz = z := ⟨_, rfl⟩
      have HZ16 := Lib.hid hz16
      rw [hz16]
      obtain ⟨bs, hbs⟩ : ∃ b, (274877902848 - (z16 : Int)) / 16 * 16 = b := ⟨_, rfl⟩
      have HBS := Lib.hid hbs
      have hzb : z16 ≤ 40000 := by omega
      obtain ⟨hb1, hb2⟩ := base_in (K := 274877902848) (z := z16) hbs hzb
      have e1 : IntKind.u64.wrap (z16 : Int) = (z16 : Int) := IntWalk.u64_in _ (by omega)
      have e2 : IntKind.u64.wrap (274877902848 - (z16 : Int)) = 274877902848 - (z16 : Int) := IntWalk.u64_in _ (by omega)
      have e3 : (274877902848 - (z16 : Int)).tdiv 16 = (274877902848 - (z16 : Int)) / 16 := Int.tdiv_eq_ediv_of_nonneg (by omega)
      have e4 : IntKind.u64.wrap ((274877902848 - (z16 : Int)) / 16) = (274877902848 - (z16 : Int)) / 16 := IntWalk.u64_in _ (by omega)
      have e5 : IntKind.u64.wrap ((274877902848 - (z16 : Int)) / 16 * 16) = bs := by rw [hbs]; exact IntWalk.u64_in _ (by omega)
      have e6 : IntKind.u64.wrap (n1 : Int) = (n1 : Int) := IntWalk.u64_in _ (by omega)
      clear hbs hz16
      go_wp2_with ((with_reducible refine gate_builtin (b := .append) (xs := #[.tmp 49, .tmp 53]) rfl ?_); refine Classical.byContradiction fun hgoal => ?_)
      apply hgoal
      clear hgoal
      (try (refine gate_guard (by rfl) ?_; dsimp only))
      refine row_app rfl (.tmp 49) (.tmp 53) 53 23 .u64 8 rfl Try.underlying53 info64 (by decide) (.slice none 0 0) [] [(n1 : Int)] (some ⟨w4.heap.size, 0, none⟩) 1 1 rfl rfl (Row.nil _ _ _) (reads_new w4 .u64 23 (0, 0) [(n1 : Int)] (by show 1 ≤ _; decide)) (by simp) ?_
      intro v11 w5 ho hf hat
      have HTW := Lib.hid (TW.words ((TW.start w4).alloc (.cells #[.int .u64 (n1 : Int)] 23)) ho hf (hat.imp id (fun ⟨b, q1, q2⟩ => ⟨b, q1, q2⟩)))
      rw [List.nil_append] at HTW
      clear ho hf hat e1 e2 e3 e4 e5 e6
      go_wp2_with fail
      go_loopg [10, 11, 16] k (fun kq v10 v11 v16 wq => Hid (AtTW l1 l2 bs k w4 v10 v11 v16 kq wq))
      case atStart => exact Lib.hid ⟨0, rfl, by omega, by omega, by rw [midW_zero, HN1.out]; exact HTW.out⟩
      case round =>
        obtain ⟨i, rfl, hi1, hi2, htw⟩ := hrel.out
        clear HTW
        have HTW := Lib.hid htw
        clear hrel htw
        by_cases hi : i < k
        · have v1 : decide ((i : Int) < (k : Int)) = true := decide_eq_true (by omega)
          have v1' : decide (i < k) = true := decide_eq_true hi
          have j0 : (0 : Int) ≤ (i : Int) := by omega
          have j1 : (i : Int) < (k : Int) := by omega
          have HKL := Lib.hid (show i < la.length from by rw [HLN.out]; exact hi)
          obtain ⟨ad, e2, hx4⟩ := at_S HC13.out i hi
          subst e2
          rw [HLA.out] at HTW
          have HST := Lib.hid (show txOf (la.take (i + 1)) = txOf (la.take i) ++ bytesOf (rdS la i) ++ [0] from by rw [take_snoc ByteArray.empty la i HKL.out, txOf_snoc]; rfl)
          have hle := szOf_take la (i + 1)
          rw [take_snoc ByteArray.empty la i HKL.out, szOf_snoc, show la.getD i ByteArray.empty = rdS la i from rfl, HLS.out] at hle
          obtain ⟨s, hs⟩ : ∃ s, rdS la i = s := ⟨_, rfl⟩
          rw [hs] at hx4 HST hle
          obtain ⟨tl, htl⟩ : ∃ t, szOf (la.take i) = t := ⟨_, rfl⟩
          have HTL := Lib.hid htl
          rw [htl] at hle
          have HX4 := Lib.hid hx4
          have hml := midW_len bs l1 l2 i (by rw [HN1.out, HN2.out]; omega)
          rw [HN1.out, HN2.out] at hml
          have htxl : (txOf (la.take i)).length = tl := by rw [txOf_length, htl]
          obtain ⟨T1, hT1⟩ : ∃ l, txOf (la.take i) = l := ⟨_, rfl⟩
          rw [hT1] at HTW HST htxl
          have HTXL := Lib.hid htxl
          have MLT := Lib.hid (fun h => midW_lt bs l1 l2 i h)
          have MEQ := Lib.hid (fun h => midW_eq bs l1 l2 h)
          have MGT := Lib.hid (fun h h' => midW_gt bs l1 l2 i h h')
          rw [HLA.out, HTL.out] at MLT MGT
          rw [HLA.out] at MEQ
          rw [HN1.out] at MLT MGT MEQ
          rw [HN2.out] at MGT MEQ
          clear hs htl hT1 htxl
          have e7 : IntKind.u64.wrap (tl : Int) = (tl : Int) := IntWalk.u64_in _ (by omega)
          have e8 : IntKind.u64.wrap (bs + (tl : Int)) = bs + (tl : Int) := IntWalk.u64_in _ (by omega)
          by_cases hin : i = n1
          · subst hin
            have b1 : ((i : Int) == (i : Int)) = true := beq_self_eq_true _
            have b1' : (i == i) = true := beq_self_eq_true _
            have HMW := Lib.hid (MEQ.out (by omega))
            rw [HTL.out] at HMW
            obtain ⟨W1, hW1⟩ : ∃ l, midW bs l1 l2 i = l := ⟨_, rfl⟩
            rw [hW1] at HTW HMW hml
            clear hW1 MLT MEQ MGT
            go_wp2_with ((with_reducible refine gate_builtin (b := .append) (xs := #[.tmp 65, .tmp 66]) rfl ?_); refine Classical.byContradiction fun hgoal => ?_)
            apply hgoal
            clear hgoal
            (try (refine gate_guard (by rfl) ?_; dsimp only))
            refine row_app rfl (.tmp 65) (.tmp 66) 53 23 .u64 8 rfl Try.underlying53 info64 (by decide) _ W1 [0] (some ⟨wr.heap.size, 0, none⟩) 1 1 rfl rfl (HTW.out.alloc (.cells #[.int .u64 0] 23)).wd (reads_new wr .u64 23 (0, 0) [0] (by decide)) (by omega) ?_
            intro v12 wp ho hf hat
            have HTWa := Lib.hid (TW.words (HTW.out.alloc (.cells #[.int .u64 0] 23)) ho hf hat)
            have hml2 : (W1 ++ [0]).length ≤ 300 := by rw [List.length_append]; simp; omega
            obtain ⟨W0, hW0⟩ : ∃ l, W1 ++ [0] = l := ⟨_, rfl⟩
            rw [hW0] at HTWa HMW hml2
            clear ho hf hat HTW hW0 hml b1 b1'
            obtain ⟨A10, c10, e10, hc10, _⟩ := HTWa.out.tx.slice
            rw [HTXL.out] at e10 hc10
            subst e10
            have hxp := HTWa.out.cell HX4.out
            have p10 := True.intro
            go_wp2_with ((with_reducible refine gate_builtin (b := .append) (xs := #[.tmp 68, .tmp 74]) rfl ?_); refine Classical.byContradiction fun hgoal => ?_)
            apply hgoal
            clear hgoal
            (try (refine gate_guard (by rfl) ?_; dsimp only))
            have HTWl := Lib.hid (HTWa.out.alloc (.cells #[.int .u64 (bs + (tl : Int))] 23))
            refine row_app rfl (.tmp 68) (.tmp 74) 53 23 .u64 8 rfl Try.underlying53 info64 (by decide) _ W0 [bs + (tl : Int)] (some ⟨wp.heap.size, 0, none⟩) 1 1 rfl rfl HTWl.out.wd (reads_new wp .u64 23 (0, 0) [bs + (tl : Int)] (by show 1 ≤ _; decide)) (by omega) ?_
            intro v13 wx ho hf hat
            have HTX := Lib.hid (TW.words HTWl.out ho hf hat)
            have hx5 := HTX.out.cell HX4.out
            clear ho hf hat HTWa HTWl hxp p10
            go_wp2_with ((with_reducible refine gate_builtin (b := .append) (xs := #[.tmp 76, .tmp 80]) rfl ?_); refine Classical.byContradiction fun hgoal => ?_)
            apply hgoal
            clear hgoal
            (try (refine gate_guard (by rfl) ?_; dsimp only))
            refine row_app_str w4.heap.size rfl (.tmp 76) (.tmp 80) 29 9 5 rfl Try.underlying29 Try.underlying9 info8 _ T1 s rfl rfl HTX.out.tx HTX.out.tb HTX.out.bel.size (by rw [HTXL.out]; omega) ?_
            intro v14 wy ho hf hb
            have HTY := Lib.hid (TW.texts HTX.out ho hf hb)
            clear ho hf hb HTX hx5
            go_wp2_with ((with_reducible refine gate_builtin (b := .append) (xs := #[.tmp 81, .tmp 82]) rfl ?_); refine Classical.byContradiction fun hgoal => ?_)
            apply hgoal
            clear hgoal
            (try (refine gate_guard (by rfl) ?_; dsimp only))
            have HTYl := Lib.hid (HTY.out.alloc (.cells #[.int .u8 0] 5))
            refine row_app rfl (.tmp 81) (.tmp 82) 29 5 .u8 1 rfl Try.underlying29 info8 (by decide) _ (T1 ++ bytesOf s) [0] (some ⟨wy.heap.size, 0, none⟩) 1 1 rfl rfl HTYl.out.tx (reads_new wy .u8 5 (0, 0) [0] (by decide)) (by rw [List.length_append, bytesOf_length, HTXL.out]; omega) ?_
            intro v15 wz ho hf hat
            have HTZ := Lib.hid (TW.texts HTYl.out ho hf (own_hat HTYl.out.tb HTYl.out.bel.size hat))
            clear ho hf hat HTY HTYl
            go_wp2_with fail
            go_roundg (k - (i + 1))
            case measure => omega
            case rel => exact Lib.hid ⟨i + 1, by go_num, by omega, by omega, by rw [HLA.out, HST.out, HMW.out]; exact HTZ.out⟩
          · have b1 : ((i : Int) == (n1 : Int)) = false := beq_eq_false_iff_ne.2 (by omega)
            have b1' : (i == n1) = false := beq_eq_false_iff_ne.2 hin
            have HMW := Lib.hid (show midW bs l1 l2 (i + 1) = midW bs l1 l2 i ++ [bs + (tl : Int)] from by
              rcases Nat.lt_or_gt_of_ne hin with h | h
              · exact MLT.out h
              · exact MGT.out h (by have := HN.out; omega))
            have hml2 : (midW bs l1 l2 i).length ≤ 300 := by omega
            obtain ⟨W0, hW0⟩ : ∃ l, midW bs l1 l2 i = l := ⟨_, rfl⟩
            rw [hW0] at HTW HMW hml2
            have HTWa := HTW
            clear hW0 MLT MEQ MGT hml HTW
            obtain ⟨A10, c10, e10, hc10, _⟩ := HTWa.out.tx.slice
            rw [HTXL.out] at e10 hc10
            subst e10
            have hxp := HTWa.out.cell HX4.out
            have p10 := True.intro
            go_wp2_with ((with_reducible refine gate_builtin (b := .append) (xs := #[.tmp 68, .tmp 74]) rfl ?_); refine Classical.byContradiction fun hgoal => ?_)
            apply hgoal
            clear hgoal
            (try (refine gate_guard (by rfl) ?_; dsimp only))
            have HTWl := Lib.hid (HTWa.out.alloc (.cells #[.int .u64 (bs + (tl : Int))] 23))
            refine row_app rfl (.tmp 68) (.tmp 74) 53 23 .u64 8 rfl Try.underlying53 info64 (by decide) _ W0 [bs + (tl : Int)] (some ⟨wr.heap.size, 0, none⟩) 1 1 rfl rfl HTWl.out.wd (reads_new wr .u64 23 (0, 0) [bs + (tl : Int)] (by show 1 ≤ _; decide)) (by omega) ?_
            intro v13 wx ho hf hat
            have HTX := Lib.hid (TW.words HTWl.out ho hf hat)
            have hx5 := HTX.out.cell HX4.out
            clear ho hf hat HTWa HTWl hxp p10
            go_wp2_with ((with_reducible refine gate_builtin (b := .append) (xs := #[.tmp 76, .tmp 80]) rfl ?_); refine Classical.byContradiction fun hgoal => ?_)
            apply hgoal
            clear hgoal
            (try (refine gate_guard (by rfl) ?_; dsimp only))
            refine row_app_str w4.heap.size rfl (.tmp 76) (.tmp 80) 29 9 5 rfl Try.underlying29 Try.underlying9 info8 _ T1 s rfl rfl HTX.out.tx HTX.out.tb HTX.out.bel.size (by rw [HTXL.out]; omega) ?_
            intro v14 wy ho hf hb
            have HTY := Lib.hid (TW.texts HTX.out ho hf hb)
            clear ho hf hb HTX hx5
            go_wp2_with ((with_reducible refine gate_builtin (b := .append) (xs := #[.tmp 81, .tmp 82]) rfl ?_); refine Classical.byContradiction fun hgoal => ?_)
            apply hgoal
            clear hgoal
            (try (refine gate_guard (by rfl) ?_; dsimp only))
            have HTYl := Lib.hid (HTY.out.alloc (.cells #[.int .u8 0] 5))
            refine row_app rfl (.tmp 81) (.tmp 82) 29 5 .u8 1 rfl Try.underlying29 info8 (by decide) _ (T1 ++ bytesOf s) [0] (some ⟨wy.heap.size, 0, none⟩) 1 1 rfl rfl HTYl.out.tx (reads_new wy .u8 5 (0, 0) [0] (by decide)) (by rw [List.length_append, bytesOf_length, HTXL.out]; omega) ?_
            intro v15 wz ho hf hat
            have HTZ := Lib.hid (TW.texts HTYl.out ho hf (own_hat HTYl.out.tb HTYl.out.bel.size hat))
            clear ho hf hat HTY HTYl
            go_wp2_with fail
            go_roundg (k - (i + 1))
            case measure => omega
            case rel => exact Lib.hid ⟨i + 1, by go_num, by omega, by omega, by rw [HLA.out, HST.out, HMW.out]; exact HTZ.out⟩
        · obtain rfl : i = k := by omega
          have v1 : decide ((i : Int) < (i : Int)) = false := decide_eq_false (by omega)
          rw [HLA.out, show la.take i = la from List.take_of_length_le (by rw [HLN.out]; exact Nat.le_refl _)] at HTW
          obtain ⟨T, hT⟩ : ∃ l, txOf la = l := ⟨_, rfl⟩
          have HT := Lib.hid hT
          have HTLEN := Lib.hid (show T.length = sz from by rw [← hT, txOf_length, HLS.out])
          rw [hT] at HTW
          obtain ⟨W, hW⟩ : ∃ W, [(l1.length : Int)] ++ plOf bs 0 l1 ++ [0] ++ plOf bs (szOf l1) l2 ++ [0] = W := ⟨_, rfl⟩
          have HW := Lib.hid hW
          have HWLEN := Lib.hid (show W.length = i + 3 from by rw [← hW]; simp only [List.length_append, plOf_length, List.length_cons, List.length_nil, HN1.out, HN2.out]; have := HN.out; omega)
          have ME0 := Lib.hid (fun h => midW_end0 bs l1 l2 h)
          have ME1 := Lib.hid (fun h => midW_end bs l1 l2 h)
          rw [hW, HN1.out, HN2.out, HN.out] at ME0 ME1
          have hml := midW_len bs l1 l2 i (by rw [HN1.out, HN2.out, HN.out]; exact Nat.le_refl _)
          rw [HN1.out, HN2.out, HN.out] at hml
          obtain ⟨Wm, hWm⟩ : ∃ l, midW bs l1 l2 i = l := ⟨_, rfl⟩
          rw [hWm] at HTW ME0 ME1 hml
          clear hT hW hWm
          obtain ⟨A10, c10, e10, hc10, _⟩ := HTW.out.tx.slice
          rw [HTLEN.out] at e10 hc10
          subst e10
          by_cases hz : n2 = 0
          · have b1 : ((n2 : Int) == 0) = true := beq_iff_eq.2 (by omega)
            have b1' : (n2 == 0) = true := beq_iff_eq.2 hz
            have HE := Lib.hid (ME0.out hz)
            clear ME0 ME1
            go_wp2_with ((with_reducible refine gate_builtin (b := .append) (xs := #[.tmp 87, .tmp 88]) rfl ?_); refine Classical.byContradiction fun hgoal => ?_)
            apply hgoal
            clear hgoal
            (try (refine gate_guard (by rfl) ?_; dsimp only))
            refine row_app rfl (.tmp 87) (.tmp 88) 53 23 .u64 8 rfl Try.underlying53 info64 (by decide) _ Wm [0] (some ⟨wr.heap.size, 0, none⟩) 1 1 rfl rfl (HTW.out.alloc (.cells #[.int .u64 0] 23)).wd (reads_new wr .u64 23 (0, 0) [0] (by decide)) (by omega) ?_
            intro v12 wp ho hf hat
            have HTWa := Lib.hid (TW.words (HTW.out.alloc (.cells #[.int .u64 0] 23)) ho hf hat)
            clear ho hf hat HTW b1 b1'
            go_wp2_with ((with_reducible refine gate_builtin (b := .append) (xs := #[.tmp 90, .tmp 91]) rfl ?_); refine Classical.byContradiction fun hgoal => ?_)
            apply hgoal
            clear hgoal
            (try (refine gate_guard (by rfl) ?_; dsimp only))
            refine row_app rfl (.tmp 90) (.tmp 91) 53 23 .u64 8 rfl Try.underlying53 info64 (by decide) _ (Wm ++ [0]) [0] (some ⟨wp.heap.size, 0, none⟩) 1 1 rfl rfl (HTWa.out.alloc (.cells #[.int .u64 0] 23)).wd (reads_new wp .u64 23 (0, 0) [0] (by decide)) (by rw [List.length_append]; simp; omega) ?_
            intro v13 wA ho hf hat
            have HTWe := Lib.hid (TW.words (HTWa.out.alloc (.cells #[.int .u64 0] 23)) ho hf hat)
            rw [HE.out] at HTWe
            clear ho hf hat HTWa
            have hszA := HTWe.out.bel.size
            have HXA := Lib.hid (show Blk wA w.heap.size 26 #[.int .u64 entry, seg, .int .u64 phdr, .int .i64 phnum, .int .i64 phsize] from (HTWe.out.bel.block _ (by omega)).trans HP4.out)
            obtain ⟨q0, q1, q2, q3, q4⟩ := (show _ ∧ _ ∧ _ ∧ _ ∧ _ from ⟨HXA.out.cell 0, HXA.out.cell 1, HXA.out.cell 2, HXA.out.cell 3, HXA.out.cell 4⟩)
            simp at q0 q1 q2 q3 q4
            have e7 : IntKind.u64.wrap (sz : Int) = (sz : Int) := IntWalk.u64_in _ (by omega)
            have e8 : IntKind.u64.wrap (bs + (sz : Int)) = bs + (sz : Int) := IntWalk.u64_in _ (by omega)
            go_wp2_with fail
            refine (raux_any entry phdr phnum phsize (bs + (sz : Int)) seg hseg _).mono ?_
            rintro e w5 ⟨v5, rfl, h5, hb5⟩
            obtain ⟨AL, hAL⟩ : ∃ l, auxL entry phdr phnum phsize (bs + (sz : Int)) = l := ⟨_, rfl⟩
            obtain ⟨na, hna⟩ : ∃ n, auxN phdr = n := ⟨_, rfl⟩
            have hna2 : 0 < na ∧ na ≤ 12 := by rw [← hna]; unfold auxN; split <;> omega
            rw [hAL, hna] at h5
            have HAL := Lib.hid hAL
            have hall : AL.length = 2 * na := by have e := h5.1; simp [nums] at e; omega
            have HALL := Lib.hid hall
            have HTW5 := Lib.hid (HTWe.out.fr (Fr.of_below (S := fun _ => False) hb5))
            obtain ⟨g5, cap5, rfl, _, _⟩ := h5.form hna2.1
            have H5 := Lib.hid h5
            clear h5 hb5 hAL hna hall HTWe q0 q1 q2 q3 q4 e7 e8 HXA
            go_wp2_with fail
            go_loopg [11, 18] na (fun kq v11 v18 wr => Hid (AtAxR w4 T W AL (.slice A10 sz c10) wA.heap.size na (.slice (some ⟨g5, 0, none⟩) na cap5) v11 v18 kq wr))
            case atStart => exact Lib.hid ⟨0, rfl, by omega, by omega, by simpa using HTW5.out, H5.out⟩
            case round =>
              obtain ⟨j, rfl, hj1, hj2, htw, hp5⟩ := hrel.out
              have HTW := Lib.hid htw
              have HP5 := Lib.hid hp5
              clear hrel htw hp5 HTW5 H5
              by_cases hj : j < na
              · have u3 : decide ((j : Int) < (na : Int)) = true := decide_eq_true (by omega)
                have u3' : decide (j < na) = true := decide_eq_true hj
                have j0 : (0 : Int) ≤ (j : Int) := by omega
                have j1 : (j : Int) < (na : Int) := by omega
                have hl0 : 2 * j < AL.length := by rw [HALL.out]; omega
                have hl1 : 2 * j + 1 < AL.length := by rw [HALL.out]; omega
                obtain ⟨a, ha⟩ : ∃ a, AL[2 * j] = a := ⟨_, rfl⟩
                obtain ⟨b, hb⟩ : ∃ b, AL[2 * j + 1] = b := ⟨_, rfl⟩
                have hc := HP5.out.cells (g := g5) rfl
                have y0 : wr.cell? ⟨g5, j * 2, none⟩ = some (.int .u64 a) := by
                  have e := hc (2 * j) (.int .u64 a) (by simp [nums, List.getElem?_eq_getElem hl0, ha])
                  rw [add_plain] at e
                  rw [Nat.mul_comm]
                  exact e
                have y1 : wr.cell? ⟨g5, j * 2 + 1, none⟩ = some (.int .u64 b) := by
                  have e := hc (2 * j + 1) (.int .u64 b) (by simp [nums, List.getElem?_eq_getElem hl1, hb])
                  rw [add_plain] at e
                  rw [Nat.mul_comm j 2]
                  exact e
                have HWN := Lib.hid (show W ++ AL.take (2 * (j + 1)) = W ++ AL.take (2 * j) ++ [a, b] from by
                  rw [show 2 * (j + 1) = 2 * j + 1 + 1 by omega, List.take_add_one, List.take_add_one, List.getElem?_eq_getElem hl0, List.getElem?_eq_getElem hl1, ha, hb]
                  simp)
                have hlw : (W ++ AL.take (2 * j)).length ≤ 1000 := by
                  rw [List.length_append, List.length_take, HWLEN.out]
                  omega
                obtain ⟨W1, hW1⟩ : ∃ W1, W ++ AL.take (2 * j) = W1 := ⟨_, rfl⟩
                rw [hW1] at HTW HWN hlw
                have HTWl := Lib.hid (HTW.out.alloc (.cells #[.int .u64 a, .int .u64 b] 23))
                have HPl := Lib.hid (HP5.out.alloc (.cells #[.int .u64 a, .int .u64 b] 23))
                have HRE := Lib.hid (reads_new wr .u64 23 (0, 0) [a, b] (by show 2 ≤ _; decide))
                clear hc ha hb hW1 HTW HP5
                go_wp2_with fail
                go_region_law (refine row_app_step rfl (.tmp 106) (.tmp 117) 53 23 .u64 8 rfl Try.underlying53 info64 (by decide) _ W1 [a, b] (some ⟨wr.heap.size, 0, none⟩) 2 2 rfl rfl HTWl.out.wd HRE.out (by omega) ?_; intro v1 w1 ho1 hf1 hat1; have HA := Lib.hid (TW.words HTWl.out ho1 hf1.undrew hat1); have HPA := Lib.hid (TW.pairs HTWl.out HPl.out hf1.undrew); clear hf1 ho1 hat1)
                all_goals
                  go_wp2_with fail
                  go_roundg (na - (j + 1))
                  case measure => omega
                  case rel => exact Lib.hid ⟨j + 1, by go_num, by omega, by omega, by rw [HWN.out]; exact HA.out, HPA.out⟩
              · obtain rfl : j = na := by omega
                have u3 : decide ((j : Int) < (j : Int)) = false := decide_eq_false (by omega)
                rw [show AL.take (2 * j) = AL from List.take_of_length_le (by rw [HALL.out]; exact Nat.le_refl _)] at HTW
                obtain ⟨W2, hW2⟩ : ∃ l, W ++ AL = l := ⟨_, rfl⟩
                have HW2 := Lib.hid hW2
                obtain ⟨nw, hnw⟩ : ∃ n, W2.length = n := ⟨_, rfl⟩
                have HNW := Lib.hid hnw
                have hnwb : 3 ≤ nw ∧ nw ≤ 300 := by
                  rw [← hnw, ← hW2, List.length_append, HWLEN.out, HALL.out]
                  omega
                have HOK := Lib.hid (show wok W2 from by
                  rw [← hW2, ← HW.out, ← HAL.out]
                  have q2 := HSZ.out
                  refine wok_app (wok_app (wok_app (wok_app (wok_app (wok_cons ?_ wok_nil) (wok_pl bs (by omega) (by omega) l1 _ ?_)) (wok_cons (by decide) wok_nil)) (wok_pl bs (by omega) (by omega) l2 _ ?_)) (wok_cons (by decide) wok_nil)) (wok_aux _ _ _ _ _ HEN.out HPH.out (by omega))
                  · rw [HN1.out]; omega
                  · omega
                  · omega)
                rw [hW2] at HTW
                have hszr := HTW.out.bel.size
                have HR16 := Lib.hid (show Blk wr (w.heap.size + 1) 27 #[.int .u8 r0, .int .u8 r1, .int .u8 r2, .int .u8 r3, .int .u8 r4, .int .u8 r5, .int .u8 r6, .int .u8 r7, .int .u8 r8, .int .u8 r9, .int .u8 r10, .int .u8 r11, .int .u8 r12, .int .u8 r13, .int .u8 r14, .int .u8 r15] from (HTW.out.bel.block _ (by omega)).trans HR4.out)
                have HRR := Lib.hid (reads_blk (k := .u8) (xs := [r0, r1, r2, r3, r4, r5, r6, r7, r8, r9, r10, r11, r12, r13, r14, r15]) HR16.out (by show 16 ≤ _; decide))
                clear hW2 hnw
                go_wp2_with ((with_reducible refine gate_builtin (b := .append) (xs := #[.tmp 119, .tmp 120]) rfl ?_); refine Classical.byContradiction fun hgoal => ?_)
                apply hgoal
                clear hgoal
                (try (refine gate_guard (by rfl) ?_; dsimp only))
                refine row_app rfl (.tmp 119) (.tmp 120) 29 5 .u8 1 rfl Try.underlying29 info8 (by decide) (.slice A10 sz c10) T [r0, r1, r2, r3, r4, r5, r6, r7, r8, r9, r10, r11, r12, r13, r14, r15] (some ⟨w.heap.size + 1, 0, none⟩) 16 16 rfl rfl HTW.out.tx HRR.out (by rw [HTLEN.out]; omega) ?_
                intro v14 w6 ho hf hat
                have HT6 := Lib.hid (TW.texts HTW.out ho hf (own_hat HTW.out.tb HTW.out.bel.size hat))
                clear ho hf hat HTW HRR HR16
                obtain ⟨T2, hT2⟩ : ∃ l, T ++ [r0, r1, r2, r3, r4, r5, r6, r7, r8, r9, r10, r11, r12, r13, r14, r15] = l := ⟨_, rfl⟩
                have HT2 := Lib.hid hT2
                have HT2L := Lib.hid (show T2.length = sz + 16 from by rw [← hT2, List.length_append, HTLEN.out]; rfl)
                rw [hT2] at HT6
                obtain ⟨g9, c9, e9, hc9⟩ := Row.head HT6.out.wd (by rw [HNW.out]; omega)
                obtain ⟨g8, c8, e8, hc8⟩ := Row.head HT6.out.tx (by rw [HT2L.out]; omega)
                rw [HNW.out] at e9 hc9
                rw [HT2L.out] at e8 hc8
                subst e9
                subst e8
                have HR9 := Lib.hid (Row.reads (show Row w6 23 .u64 (.slice (some ⟨g9, 0, none⟩) nw c9) W2 from HT6.out.wd))
                have HR8 := Lib.hid (Row.reads (show Row w6 5 .u8 (.slice (some ⟨g8, 0, none⟩) (sz + 16) c8) T2 from HT6.out.tx))
                rw [HNW.out] at HR9
                rw [HT2L.out] at HR8
                have HF6 := Lib.hid (HF4.out.trans (Fr.of_below (S := fun _ => False) HT6.out.bel) (fun _ _ => id))
                have hsz6 := HF6.out.size
                obtain ⟨nt, hnt⟩ : ∃ n, sz + 16 = n := ⟨_, rfl⟩
                have HNT := Lib.hid hnt
                rw [hnt] at HR8 HT2L hc8 ⊢
                have hntb : nt ≤ 40000 := by omega
                clear hT2 HT6 hnt
                obtain ⟨sp, hsp⟩ : ∃ s, (bs - 8 * (nw : Int)) / 16 * 16 = s := ⟨_, rfl⟩
                have HSP := Lib.hid hsp
                have hs1 : sp ≤ bs - 8 * (nw : Int) := by omega
                have hs3 : bs - 8 * (nw : Int) - sp ≤ 15 := by omega
                obtain ⟨d, hd⟩ := nat_of (bs - sp) (by omega)
                have hsp0 : 0 ≤ sp ∧ sp ≤ 274877902848 := by omega
                obtain ⟨room, hroom⟩ := nat_of (274877902848 - sp) (by omega)
                obtain ⟨z1, hz1⟩ := nat_of ((d : Int) - 8 * (nw : Int)) (by omega)
                have HZ1 := Lib.hid hz1
                have HDD := Lib.hid hd
                have HRO := Lib.hid hroom
                have HG := Lib.hid (gap HBS.out)
                have HG2 := Lib.hid (gap2 (s := (0 : Int)) hd hroom)
                have hdr : d + nt ≤ room := by
                  have q1 := HBS.out
                  have q2 := HZ16.out
                  have q3 := HNT.out
                  exact gap4 HBS.out hd hroom (by omega)
                have hrb : room ≤ 100000 := gap5 HBS.out hsp hroom (by omega) (by omega)
                have f1 : IntKind.i64.wrap (8 * (nw : Int)) = 8 * (nw : Int) := IntWalk.i64_in _ (by omega)
                have f2 : IntKind.u64.wrap (8 * (nw : Int)) = 8 * (nw : Int) := IntWalk.u64_in _ (by omega)
                have f3 : IntKind.u64.wrap (bs - 8 * (nw : Int)) = bs - 8 * (nw : Int) := IntWalk.u64_in _ (by omega)
                have f4 : (bs - 8 * (nw : Int)).tdiv 16 = (bs - 8 * (nw : Int)) / 16 := Int.tdiv_eq_ediv_of_nonneg (by omega)
                have f5 : IntKind.u64.wrap ((bs - 8 * (nw : Int)) / 16) = (bs - 8 * (nw : Int)) / 16 := IntWalk.u64_in _ (by omega)
                have f6 : IntKind.u64.wrap ((bs - 8 * (nw : Int)) / 16 * 16) = sp := by rw [hsp]; exact IntWalk.u64_in _ (by omega)
                have f7 : IntKind.u64.wrap (274877902848 - sp) = (room : Int) := by rw [hroom]; exact IntWalk.u64_in _ (by omega)
                clear hsp hd hroom hz1
                obtain ⟨i8, hi8, hz8, hzs8, hzb8⟩ := info_parts info8
                go_wp2_with (at_make; refine Classical.byContradiction fun hgoal => ?_)
                apply hgoal
                clear hgoal
                refine wpList_make_full _ rfl _ _ 29 rfl w6.heap.size 5 i8 (.int .u8 0) 1 Try.underlying29 hi8 hz8 hzs8 .u64 .u64 (room : Int) (room : Int) room rfl rfl rfl rfl (by rw [hzb8]; omega) (by unfold maxLen; omega) (Nat.le_refl _) ?_
                intro w7 hod hgd
                have HB7 := Lib.hid (Fr.below (Below.refl w6.heap.size w6) ((Fr.refl (fun _ => False) w6).grown hgd (fun k e => by cases e)) (fun _ _ => id))
                rw [made_nums] at hod
                have HX := Lib.hid (blk_made hod)
                clear hod hgd f1 f2 f3 f4 f5 f6 f7
                obtain ⟨g, hg⟩ : ∃ g, w6.heap.size = g := ⟨_, rfl⟩
                rw [hg] at HX HB7 hsz6 ⊢
                have HG6 := Lib.hid hg
                clear hg
                have HO7 := Lib.hid (show Out8 w6 g room (wby (W2.take 0)) w7 from ⟨by simpa [wby] using HX.out, by rw [HG6.out]; exact HB7.out, HG6.out⟩)
                clear HX HB7
                go_wp2_with fail
                go_loopg [21] nw (fun kq v21 wr => Hid (AtO4 w6 g room nw W2 v21 kq wr))
                case atStart => exact Lib.hid ⟨0, rfl, by omega, by omega, HO7.out⟩
                case round =>
                  obtain ⟨q, rfl, hq1, hq2, ho8⟩ := hrel.out
                  clear HO7
                  have HO8 := Lib.hid ho8
                  clear hrel ho8
                  by_cases hq : q < nw
                  · have u4 : decide ((q : Int) < (nw : Int)) = true := decide_eq_true (by omega)
                    have u4' : decide (q < nw) = true := decide_eq_true hq
                    have j2 : (0 : Int) ≤ (q : Int) := by omega
                    have j3 : (q : Int) < (nw : Int) := by omega
                    obtain ⟨x, hx⟩ : ∃ x, W2.getD q 0 = x := ⟨_, rfl⟩
                    have y0 : wr.cell? ⟨g9, q, none⟩ = some (.int .u64 x) := by
                      rw [← hx]
                      exact reads_head (reads_fr (S := fun _ => False) HR9.out (Fr.of_below HO8.out.bel) (fun _ _ _ => id)) q hq
                    have hxo : 0 ≤ x ∧ x < 18446744073709551616 := by
                      rw [← hx, List.getD_eq_getElem?_getD, List.getElem?_eq_getElem (by rw [HNW.out]; exact hq)]
                      exact HOK.out _ (List.getElem_mem _)
                    have HTK := Lib.hid (show wby (W2.take (q + 1)) = wby (W2.take q) ++ By.enc x 8 from by rw [← hx]; exact take_wby W2 q (by rw [HNW.out]; exact hq))
                    have HPL := Lib.hid (show (wby (W2.take q)).length = 8 * q from by rw [wby_length, List.length_take, HNW.out, Nat.min_eq_left (by omega)])
                    obtain ⟨pre, hpre⟩ : ∃ l, wby (W2.take q) = l := ⟨_, rfl⟩
                    rw [hpre] at HO8 HTK HPL
                    have HEL := Lib.hid (By.enc_length 8 x)
                    have f1 : IntKind.i64.wrap (8 * (q : Int)) = ((8 * q : Nat) : Int) := by rw [IntWalk.i64_in _ (by omega)]; omega
                    obtain ⟨q8, hq8⟩ : ∃ n, 8 * q = n := ⟨_, rfl⟩
                    have hq8b : q8 + 8 ≤ d := by have := HZ1.out; omega
                    rw [hq8] at HPL f1
                    clear hx hpre hq8
                    go_wp2_with fail
                    refine (By.rput_in none 0 [] x 8 _ (Kd.C_of_reads (d := (0 : Int)) (h1 := fun _ => rfl) ⟨rfl, by decide, fun h => absurd h (by decide)⟩) (Nat.le_refl _) (by decide) hxo.1 hxo.2 (by decide) (by decide)).mono ?_
                    rintro e wp ⟨v22, rfl, ho, hb⟩
                    rw [List.nil_append] at ho
                    obtain ⟨E, hE⟩ : ∃ l, By.enc x 8 = l := ⟨_, rfl⟩
                    rw [hE] at ho HTK HEL
                    have how := own8_of (Kd.own_of_R ho)
                    have hgl := HO8.out.blk.lt
                    have HOP := Lib.hid (HO8.out.fr (Fr.of_below hb))
                    obtain ⟨g2, c2', e22, hc22⟩ := Row.head how.row (by rw [HEL.out]; decide)
                    rw [HEL.out] at e22 hc22
                    subst e22
                    have hg2 : g2 ≠ g := by
                      have e := how.hi g2 rfl
                      omega
                    have HRO2 := Lib.hid how.row
                    clear ho hb how hE HO8 y0 hgl
                    go_wp2_with fail
                    go_loopg [23] 8 (fun kq v23 wr => Hid (AtO5 w6 g room pre E (.slice (some ⟨g2, 0, none⟩) 8 c2') v23 kq wr))
                    case atStart => exact Lib.hid ⟨0, rfl, by omega, by omega, by simpa using HOP.out, HRO2.out⟩
                    case round =>
                      obtain ⟨t, rfl, ht1, ht2, ho5, hr5⟩ := hrel.out
                      clear HOP HRO2
                      have HO5 := Lib.hid ho5
                      have HR5 := Lib.hid hr5
                      clear hrel ho5 hr5
                      by_cases ht : t < 8
                      · have u5 : decide ((t : Int) < 8) = true := decide_eq_true (by omega)
                        have u5' : decide (t < 8) = true := decide_eq_true ht
                        have j4 : (0 : Int) ≤ (t : Int) := by omega
                        have j5 : (t : Int) < 8 := by omega
                        obtain ⟨b, hb⟩ : ∃ b, E.getD t 0 = b := ⟨_, rfl⟩
                        have y1 : wr.cell? ⟨g2, t, none⟩ = some (.int .u8 b) := by
                          rw [← hb]
                          exact reads_head (Row.reads HR5.out) t (by rw [HEL.out]; exact ht)
                        have HTE := Lib.hid (show E.take (t + 1) = E.take t ++ [b] from by rw [← hb]; exact int_take E t (by rw [HEL.out]; exact ht))
                        have f2 : IntKind.i64.wrap ((q8 : Int) + (t : Int)) = ((q8 + t : Nat) : Int) := by rw [IntWalk.i64_in _ (by omega)]; omega
                        have HLP := Lib.hid (show (pre ++ E.take t).length = q8 + t from by rw [List.length_append, HPL.out, List.length_take, HEL.out, Nat.min_eq_left (by omega)])
                        obtain ⟨pp, hpp⟩ : ∃ n, q8 + t = n := ⟨_, rfl⟩
                        have hpl : pp < room := by omega
                        have j6 : (0 : Int) ≤ (pp : Int) := by omega
                        have j7 : (pp : Int) < (room : Int) := by omega
                        rw [hpp] at f2 HLP
                        obtain ⟨⟨x0, y2⟩, y3⟩ := HO5.out.cell hpl
                        have HOS := Lib.hid (HO5.out.set HLP.out hpl b)
                        have HRS := Lib.hid (HR5.out.fr ((Fr.refl (fun k => k = g) wr).setCell (p := ⟨g, pp, none⟩) (.inl rfl) (.int .u8 b)) (fun k e => by
                          have e2 : g2 = k := by simpa [Value.ownBlock] using e
                          intro e3
                          exact hg2 (e2.trans e3)))
                        clear hb hpp HO5 HR5
                        go_wp2_with fail
                        go_roundg (8 - (t + 1))
                        case measure => omega
                        case rel => exact Lib.hid ⟨t + 1, by go_num, by omega, by omega, by rw [HTE.out, ← List.append_assoc]; exact HOS.out, HRS.out⟩
                      · obtain rfl : t = 8 := by omega
                        have u5 : decide (((8 : Nat) : Int) < 8) = false := rfl
                        rw [show E.take 8 = E from List.take_of_length_le (by rw [HEL.out]; exact Nat.le_refl _)] at HO5
                        go_wp2_with fail
                        go_roundg (nw - (q + 1))
                        case measure => omega
                        case rel => exact Lib.hid ⟨q + 1, by go_num, by omega, by omega, by rw [HTK.out]; exact HO5.out⟩
                  · obtain rfl : q = nw := by omega
                    have u4 : decide ((q : Int) < (q : Int)) = false := decide_eq_false (by omega)
                    rw [show W2.take q = W2 from List.take_of_length_le (by rw [HNW.out]; exact Nat.le_refl _)] at HO8
                    have HPL := Lib.hid (show (wby W2).length = 8 * q from by rw [wby_length, HNW.out])
                    have hz1 := HZ1.out
                    have HP6L := Lib.hid (show (wby W2 ++ List.replicate z1 (0 : Int)).length = d from by rw [List.length_append, List.length_replicate, HPL.out]; omega)
                    have HO9 := Lib.hid (show Out8 w6 g room (wby W2 ++ List.replicate z1 0) wr from ⟨by rw [← pre_zeros (wby W2) z1 room (by rw [HPL.out]; omega)]; exact HO8.out.blk, HO8.out.bel, HO8.out.gg⟩)
                    obtain ⟨pre6, hp6⟩ : ∃ l, wby W2 ++ List.replicate z1 (0 : Int) = l := ⟨_, rfl⟩
                    have HP6 := Lib.hid hp6
                    rw [hp6] at HO9 HP6L
                    clear hp6 HO8 HPL hz1
                    have f1 : IntKind.u64.wrap (bs - sp) = (d : Int) := by rw [HDD.out]; exact IntWalk.u64_in _ (by omega)
                    go_wp2_with fail
                    go_loopg [24] nt (fun kq v24 wr => Hid (AtO6 w6 g room nt pre6 T2 v24 kq wr))
                    case atStart => exact Lib.hid ⟨0, rfl, by omega, by omega, by simpa using HO9.out⟩
                    case round =>
                      obtain ⟨t, rfl, ht1, ht2, ho6⟩ := hrel.out
                      clear HO9
                      have HO6 := Lib.hid ho6
                      clear hrel ho6
                      by_cases ht : t < nt
                      · have u5 : decide ((t : Int) < (nt : Int)) = true := decide_eq_true (by omega)
                        have u5' : decide (t < nt) = true := decide_eq_true ht
                        have j4 : (0 : Int) ≤ (t : Int) := by omega
                        have j5 : (t : Int) < (nt : Int) := by omega
                        obtain ⟨b, hb⟩ : ∃ b, T2.getD t 0 = b := ⟨_, rfl⟩
                        have y1 : wr.cell? ⟨g8, t, none⟩ = some (.int .u8 b) := by
                          rw [← hb]
                          exact reads_head (reads_fr (S := fun _ => False) HR8.out (Fr.of_below HO6.out.bel) (fun _ _ _ => id)) t ht
                        have HTE := Lib.hid (show T2.take (t + 1) = T2.take t ++ [b] from by rw [← hb]; exact int_take T2 t (by rw [HT2L.out]; exact ht))
                        have f0 : IntKind.u64.wrap (t : Int) = (t : Int) := IntWalk.u64_in _ (by omega)
                        have f2 : IntKind.u64.wrap ((d : Int) + (t : Int)) = ((d + t : Nat) : Int) := by rw [IntWalk.u64_in _ (by omega)]; omega
                        have HLP := Lib.hid (show (pre6 ++ T2.take t).length = d + t from by rw [List.length_append, HP6L.out, List.length_take, HT2L.out, Nat.min_eq_left (by omega)])
                        obtain ⟨pp, hpp⟩ : ∃ n, d + t = n := ⟨_, rfl⟩
                        have hpl : pp < room := by omega
                        have j6 : (0 : Int) ≤ (pp : Int) := by omega
                        have j7 : (pp : Int) < (room : Int) := by omega
                        rw [hpp] at f2 HLP
                        obtain ⟨⟨x0, y2⟩, y3⟩ := HO6.out.cell hpl
                        have HOS := Lib.hid (HO6.out.set HLP.out hpl b)
                        clear hb hpp HO6
                        go_wp2_with fail
                        go_roundg (nt - (t + 1))
                        case measure => omega
                        case rel => exact Lib.hid ⟨t + 1, by go_num, by omega, by omega, by rw [HTE.out, ← List.append_assoc]; exact HOS.out⟩
                      · obtain rfl : t = nt := by omega
                        have u5 : decide ((t : Int) < (t : Int)) = false := decide_eq_false (by omega)
                        rw [show T2.take t = T2 from List.take_of_length_le (by rw [HT2L.out]; exact Nat.le_refl _)] at HO6
                        go_wp2_with fail
                        go_ret2
                        have hbs' : baseOf l1 l2 = bs := by
                          unfold baseOf
                          rw [HSZ.out]
                          have q1 := HZ16.out
                          have q2 : ((sz : Nat) : Int) + 16 = (z16 : Int) := by omega
                          rw [q2]
                          exact HBS.out
                        have hwo : wordsOf bs l1 l2 entry phdr phnum phsize = W2 := by
                          unfold wordsOf
                          rw [← HW2.out, ← HW.out, ← HAL.out, HSZ.out]
                        have hsp' : spOf bs W2.length = sp := by
                          unfold spOf
                          rw [HNW.out]
                          exact HSP.out
                        have ht2 : txOf l1 ++ txOf l2 ++ [r0, r1, r2, r3, r4, r5, r6, r7, r8, r9, r10, r11, r12, r13, r14, r15] = T2 := by rw [← txOf_append, HLA.out, HT.out, HT2.out]
                        rw [hbs', hwo, ht2]
                        refine ⟨_, by rw [hsp']; rfl, ?_, HF6.out.trans (Fr.of_below HO6.out.bel) (fun _ _ => id)⟩
                        have ho : outOf bs W2 T2 = pre6 ++ T2 ++ List.replicate (room - (pre6 ++ T2).length) 0 := by
                          unfold outOf
                          have a1 : (bs - 8 * (W2.length : Int) - spOf bs W2.length).toNat = z1 := by
                            rw [hsp', HNW.out]
                            exact gap6 HDD.out HZ1.out
                          rw [a1, HP6.out, HT2L.out, List.length_append, HP6L.out, HT2L.out, gap7 HDD.out HRO.out hdr]
                        rw [ho]
                        exact own8_blk HO6.out.blk (by rw [List.length_append, List.length_replicate, List.length_append, HP6L.out, HT2L.out]; omega) (by omega) hsz6
          · have b1 : ((n2 : Int) == 0) = false := beq_eq_false_iff_ne.2 (by omega)
            have b1' : (n2 == 0) = false := beq_eq_false_iff_ne.2 hz
            have HE := Lib.hid (ME1.out hz)
            clear ME0 ME1
            go_wp2_with ((with_reducible refine gate_builtin (b := .append) (xs := #[.tmp 90, .tmp 91]) rfl ?_); refine Classical.byContradiction fun hgoal => ?_)
            apply hgoal
            clear hgoal
            (try (refine gate_guard (by rfl) ?_; dsimp only))
            refine row_app rfl (.tmp 90) (.tmp 91) 53 23 .u64 8 rfl Try.underlying53 info64 (by decide) _ Wm [0] (some ⟨wr.heap.size, 0, none⟩) 1 1 rfl rfl (HTW.out.alloc (.cells #[.int .u64 0] 23)).wd (reads_new wr .u64 23 (0, 0) [0] (by decide)) (by omega) ?_
            intro v13 wA ho hf hat
            have HTWe := Lib.hid (TW.words (HTW.out.alloc (.cells #[.int .u64 0] 23)) ho hf hat)
            rw [HE.out] at HTWe
            clear ho hf hat HTW b1 b1'
            have hszA := HTWe.out.bel.size
            have HXA := Lib.hid (show Blk wA w.heap.size 26 #[.int .u64 entry, seg, .int .u64 phdr, .int .i64 phnum, .int .i64 phsize] from (HTWe.out.bel.block _ (by omega)).trans HP4.out)
            obtain ⟨q0, q1, q2, q3, q4⟩ := (show _ ∧ _ ∧ _ ∧ _ ∧ _ from ⟨HXA.out.cell 0, HXA.out.cell 1, HXA.out.cell 2, HXA.out.cell 3, HXA.out.cell 4⟩)
            simp at q0 q1 q2 q3 q4
            have e7 : IntKind.u64.wrap (sz : Int) = (sz : Int) := IntWalk.u64_in _ (by omega)
            have e8 : IntKind.u64.wrap (bs + (sz : Int)) = bs + (sz : Int) := IntWalk.u64_in _ (by omega)
            go_wp2_with fail
            refine (raux_any entry phdr phnum phsize (bs + (sz : Int)) seg hseg _).mono ?_
            rintro e w5 ⟨v5, rfl, h5, hb5⟩
            obtain ⟨AL, hAL⟩ : ∃ l, auxL entry phdr phnum phsize (bs + (sz : Int)) = l := ⟨_, rfl⟩
            obtain ⟨na, hna⟩ : ∃ n, auxN phdr = n := ⟨_, rfl⟩
            have hna2 : 0 < na ∧ na ≤ 12 := by rw [← hna]; unfold auxN; split <;> omega
            rw [hAL, hna] at h5
            have HAL := Lib.hid hAL
            have hall : AL.length = 2 * na := by have e := h5.1; simp [nums] at e; omega
            have HALL := Lib.hid hall
            have HTW5 := Lib.hid (HTWe.out.fr (Fr.of_below (S := fun _ => False) hb5))
            obtain ⟨g5, cap5, rfl, _, _⟩ := h5.form hna2.1
            have H5 := Lib.hid h5
            clear h5 hb5 hAL hna hall HTWe q0 q1 q2 q3 q4 e7 e8 HXA
            go_wp2_with fail
            go_loopg [11, 18] na (fun kq v11 v18 wr => Hid (AtAxR w4 T W AL (.slice A10 sz c10) wA.heap.size na (.slice (some ⟨g5, 0, none⟩) na cap5) v11 v18 kq wr))
            case atStart => exact Lib.hid ⟨0, rfl, by omega, by omega, by simpa using HTW5.out, H5.out⟩
            case round =>
              obtain ⟨j, rfl, hj1, hj2, htw, hp5⟩ := hrel.out
              have HTW := Lib.hid htw
              have HP5 := Lib.hid hp5
              clear hrel htw hp5 HTW5 H5
              by_cases hj : j < na
              · have u3 : decide ((j : Int) < (na : Int)) = true := decide_eq_true (by omega)
                have u3' : decide (j < na) = true := decide_eq_true hj
                have j0 : (0 : Int) ≤ (j : Int) := by omega
                have j1 : (j : Int) < (na : Int) := by omega
                have hl0 : 2 * j < AL.length := by rw [HALL.out]; omega
                have hl1 : 2 * j + 1 < AL.length := by rw [HALL.out]; omega
                obtain ⟨a, ha⟩ : ∃ a, AL[2 * j] = a := ⟨_, rfl⟩
                obtain ⟨b, hb⟩ : ∃ b, AL[2 * j + 1] = b := ⟨_, rfl⟩
                have hc := HP5.out.cells (g := g5) rfl
                have y0 : wr.cell? ⟨g5, j * 2, none⟩ = some (.int .u64 a) := by
                  have e := hc (2 * j) (.int .u64 a) (by simp [nums, List.getElem?_eq_getElem hl0, ha])
                  rw [add_plain] at e
                  rw [Nat.mul_comm]
                  exact e
                have y1 : wr.cell? ⟨g5, j * 2 + 1, none⟩ = some (.int .u64 b) := by
                  have e := hc (2 * j + 1) (.int .u64 b) (by simp [nums, List.getElem?_eq_getElem hl1, hb])
                  rw [add_plain] at e
                  rw [Nat.mul_comm j 2]
                  exact e
                have HWN := Lib.hid (show W ++ AL.take (2 * (j + 1)) = W ++ AL.take (2 * j) ++ [a, b] from by
                  rw [show 2 * (j + 1) = 2 * j + 1 + 1 by omega, List.take_add_one, List.take_add_one, List.getElem?_eq_getElem hl0, List.getElem?_eq_getElem hl1, ha, hb]
                  simp)
                have hlw : (W ++ AL.take (2 * j)).length ≤ 1000 := by
                  rw [List.length_append, List.length_take, HWLEN.out]
                  omega
                obtain ⟨W1, hW1⟩ : ∃ W1, W ++ AL.take (2 * j) = W1 := ⟨_, rfl⟩
                rw [hW1] at HTW HWN hlw
                have HTWl := Lib.hid (HTW.out.alloc (.cells #[.int .u64 a, .int .u64 b] 23))
                have HPl := Lib.hid (HP5.out.alloc (.cells #[.int .u64 a, .int .u64 b] 23))
                have HRE := Lib.hid (reads_new wr .u64 23 (0, 0) [a, b] (by show 2 ≤ _; decide))
                clear hc ha hb hW1 HTW HP5
                go_wp2_with fail
                go_region_law (refine row_app_step rfl (.tmp 106) (.tmp 117) 53 23 .u64 8 rfl Try.underlying53 info64 (by decide) _ W1 [a, b] (some ⟨wr.heap.size, 0, none⟩) 2 2 rfl rfl HTWl.out.wd HRE.out (by omega) ?_; intro v1 w1 ho1 hf1 hat1; have HA := Lib.hid (TW.words HTWl.out ho1 hf1.undrew hat1); have HPA := Lib.hid (TW.pairs HTWl.out HPl.out hf1.undrew); clear hf1 ho1 hat1)
                all_goals
                  go_wp2_with fail
                  go_roundg (na - (j + 1))
                  case measure => omega
                  case rel => exact Lib.hid ⟨j + 1, by go_num, by omega, by omega, by rw [HWN.out]; exact HA.out, HPA.out⟩
              · obtain rfl : j = na := by omega
                have u3 : decide ((j : Int) < (j : Int)) = false := decide_eq_false (by omega)
                rw [show AL.take (2 * j) = AL from List.take_of_length_le (by rw [HALL.out]; exact Nat.le_refl _)] at HTW
                obtain ⟨W2, hW2⟩ : ∃ l, W ++ AL = l := ⟨_, rfl⟩
                have HW2 := Lib.hid hW2
                obtain ⟨nw, hnw⟩ : ∃ n, W2.length = n := ⟨_, rfl⟩
                have HNW := Lib.hid hnw
                have hnwb : 3 ≤ nw ∧ nw ≤ 300 := by
                  rw [← hnw, ← hW2, List.length_append, HWLEN.out, HALL.out]
                  omega
                have HOK := Lib.hid (show wok W2 from by
                  rw [← hW2, ← HW.out, ← HAL.out]
                  have q2 := HSZ.out
                  refine wok_app (wok_app (wok_app (wok_app (wok_app (wok_cons ?_ wok_nil) (wok_pl bs (by omega) (by omega) l1 _ ?_)) (wok_cons (by decide) wok_nil)) (wok_pl bs (by omega) (by omega) l2 _ ?_)) (wok_cons (by decide) wok_nil)) (wok_aux _ _ _ _ _ HEN.out HPH.out (by omega))
                  · rw [HN1.out]; omega
                  · omega
                  · omega)
                rw [hW2] at HTW
                have hszr := HTW.out.bel.size
                have HR16 := Lib.hid (show Blk wr (w.heap.size + 1) 27 #[.int .u8 r0, .int .u8 r1, .int .u8 r2, .int .u8 r3, .int .u8 r4, .int .u8 r5, .int .u8 r6, .int .u8 r7, .int .u8 r8, .int .u8 r9, .int .u8 r10, .int .u8 r11, .int .u8 r12, .int .u8 r13, .int .u8 r14, .int .u8 r15] from (HTW.out.bel.block _ (by omega)).trans HR4.out)
                have HRR := Lib.hid (reads_blk (k := .u8) (xs := [r0, r1, r2, r3, r4, r5, r6, r7, r8, r9, r10, r11, r12, r13, r14, r15]) HR16.out (by show 16 ≤ _; decide))
                clear hW2 hnw
                go_wp2_with ((with_reducible refine gate_builtin (b := .append) (xs := #[.tmp 119, .tmp 120]) rfl ?_); refine Classical.byContradiction fun hgoal => ?_)
                apply hgoal
                clear hgoal
                (try (refine gate_guard (by rfl) ?_; dsimp only))
                refine row_app rfl (.tmp 119) (.tmp 120) 29 5 .u8 1 rfl Try.underlying29 info8 (by decide) (.slice A10 sz c10) T [r0, r1, r2, r3, r4, r5, r6, r7, r8, r9, r10, r11, r12, r13, r14, r15] (some ⟨w.heap.size + 1, 0, none⟩) 16 16 rfl rfl HTW.out.tx HRR.out (by rw [HTLEN.out]; omega) ?_
                intro v14 w6 ho hf hat
                have HT6 := Lib.hid (TW.texts HTW.out ho hf (own_hat HTW.out.tb HTW.out.bel.size hat))
                clear ho hf hat HTW HRR HR16
                obtain ⟨T2, hT2⟩ : ∃ l, T ++ [r0, r1, r2, r3, r4, r5, r6, r7, r8, r9, r10, r11, r12, r13, r14, r15] = l := ⟨_, rfl⟩
                have HT2 := Lib.hid hT2
                have HT2L := Lib.hid (show T2.length = sz + 16 from by rw [← hT2, List.length_append, HTLEN.out]; rfl)
                rw [hT2] at HT6
                obtain ⟨g9, c9, e9, hc9⟩ := Row.head HT6.out.wd (by rw [HNW.out]; omega)
                obtain ⟨g8, c8, e8, hc8⟩ := Row.head HT6.out.tx (by rw [HT2L.out]; omega)
                rw [HNW.out] at e9 hc9
                rw [HT2L.out] at e8 hc8
                subst e9
                subst e8
                have HR9 := Lib.hid (Row.reads (show Row w6 23 .u64 (.slice (some ⟨g9, 0, none⟩) nw c9) W2 from HT6.out.wd))
                have HR8 := Lib.hid (Row.reads (show Row w6 5 .u8 (.slice (some ⟨g8, 0, none⟩) (sz + 16) c8) T2 from HT6.out.tx))
                rw [HNW.out] at HR9
                rw [HT2L.out] at HR8
                have HF6 := Lib.hid (HF4.out.trans (Fr.of_below (S := fun _ => False) HT6.out.bel) (fun _ _ => id))
                have hsz6 := HF6.out.size
                obtain ⟨nt, hnt⟩ : ∃ n, sz + 16 = n := ⟨_, rfl⟩
                have HNT := Lib.hid hnt
                rw [hnt] at HR8 HT2L hc8 ⊢
                have hntb : nt ≤ 40000 := by omega
                clear hT2 HT6 hnt
                obtain ⟨sp, hsp⟩ : ∃ s, (bs - 8 * (nw : Int)) / 16 * 16 = s := ⟨_, rfl⟩
                have HSP := Lib.hid hsp
                have hs1 : sp ≤ bs - 8 * (nw : Int) := by omega
                have hs3 : bs - 8 * (nw : Int) - sp ≤ 15 := by omega
                obtain ⟨d, hd⟩ := nat_of (bs - sp) (by omega)
                have hsp0 : 0 ≤ sp ∧ sp ≤ 274877902848 := by omega
                obtain ⟨room, hroom⟩ := nat_of (274877902848 - sp) (by omega)
                obtain ⟨z1, hz1⟩ := nat_of ((d : Int) - 8 * (nw : Int)) (by omega)
                have HZ1 := Lib.hid hz1
                have HDD := Lib.hid hd
                have HRO := Lib.hid hroom
                have HG := Lib.hid (gap HBS.out)
                have HG2 := Lib.hid (gap2 (s := (0 : Int)) hd hroom)
                have hdr : d + nt ≤ room := by
                  have q1 := HBS.out
                  have q2 := HZ16.out
                  have q3 := HNT.out
                  exact gap4 HBS.out hd hroom (by omega)
                have hrb : room ≤ 100000 := gap5 HBS.out hsp hroom (by omega) (by omega)
                have f1 : IntKind.i64.wrap (8 * (nw : Int)) = 8 * (nw : Int) := IntWalk.i64_in _ (by omega)
                have f2 : IntKind.u64.wrap (8 * (nw : Int)) = 8 * (nw : Int) := IntWalk.u64_in _ (by omega)
                have f3 : IntKind.u64.wrap (bs - 8 * (nw : Int)) = bs - 8 * (nw : Int) := IntWalk.u64_in _ (by omega)
                have f4 : (bs - 8 * (nw : Int)).tdiv 16 = (bs - 8 * (nw : Int)) / 16 := Int.tdiv_eq_ediv_of_nonneg (by omega)
                have f5 : IntKind.u64.wrap ((bs - 8 * (nw : Int)) / 16) = (bs - 8 * (nw : Int)) / 16 := IntWalk.u64_in _ (by omega)
                have f6 : IntKind.u64.wrap ((bs - 8 * (nw : Int)) / 16 * 16) = sp := by rw [hsp]; exact IntWalk.u64_in _ (by omega)
                have f7 : IntKind.u64.wrap (274877902848 - sp) = (room : Int) := by rw [hroom]; exact IntWalk.u64_in _ (by omega)
                clear hsp hd hroom hz1
                obtain ⟨i8, hi8, hz8, hzs8, hzb8⟩ := info_parts info8
                go_wp2_with (at_make; refine Classical.byContradiction fun hgoal => ?_)
                apply hgoal
                clear hgoal
                refine wpList_make_full _ rfl _ _ 29 rfl w6.heap.size 5 i8 (.int .u8 0) 1 Try.underlying29 hi8 hz8 hzs8 .u64 .u64 (room : Int) (room : Int) room rfl rfl rfl rfl (by rw [hzb8]; omega) (by unfold maxLen; omega) (Nat.le_refl _) ?_
                intro w7 hod hgd
                have HB7 := Lib.hid (Fr.below (Below.refl w6.heap.size w6) ((Fr.refl (fun _ => False) w6).grown hgd (fun k e => by cases e)) (fun _ _ => id))
                rw [made_nums] at hod
                have HX := Lib.hid (blk_made hod)
                clear hod hgd f1 f2 f3 f4 f5 f6 f7
                obtain ⟨g, hg⟩ : ∃ g, w6.heap.size = g := ⟨_, rfl⟩
                rw [hg] at HX HB7 hsz6 ⊢
                have HG6 := Lib.hid hg
                clear hg
                have HO7 := Lib.hid (show Out8 w6 g room (wby (W2.take 0)) w7 from ⟨by simpa [wby] using HX.out, by rw [HG6.out]; exact HB7.out, HG6.out⟩)
                clear HX HB7
                go_wp2_with fail
                go_loopg [21] nw (fun kq v21 wr => Hid (AtO4 w6 g room nw W2 v21 kq wr))
                case atStart => exact Lib.hid ⟨0, rfl, by omega, by omega, HO7.out⟩
                case round =>
                  obtain ⟨q, rfl, hq1, hq2, ho8⟩ := hrel.out
                  clear HO7
                  have HO8 := Lib.hid ho8
                  clear hrel ho8
                  by_cases hq : q < nw
                  · have u4 : decide ((q : Int) < (nw : Int)) = true := decide_eq_true (by omega)
                    have u4' : decide (q < nw) = true := decide_eq_true hq
                    have j2 : (0 : Int) ≤ (q : Int) := by omega
                    have j3 : (q : Int) < (nw : Int) := by omega
                    obtain ⟨x, hx⟩ : ∃ x, W2.getD q 0 = x := ⟨_, rfl⟩
                    have y0 : wr.cell? ⟨g9, q, none⟩ = some (.int .u64 x) := by
                      rw [← hx]
                      exact reads_head (reads_fr (S := fun _ => False) HR9.out (Fr.of_below HO8.out.bel) (fun _ _ _ => id)) q hq
                    have hxo : 0 ≤ x ∧ x < 18446744073709551616 := by
                      rw [← hx, List.getD_eq_getElem?_getD, List.getElem?_eq_getElem (by rw [HNW.out]; exact hq)]
                      exact HOK.out _ (List.getElem_mem _)
                    have HTK := Lib.hid (show wby (W2.take (q + 1)) = wby (W2.take q) ++ By.enc x 8 from by rw [← hx]; exact take_wby W2 q (by rw [HNW.out]; exact hq))
                    have HPL := Lib.hid (show (wby (W2.take q)).length = 8 * q from by rw [wby_length, List.length_take, HNW.out, Nat.min_eq_left (by omega)])
                    obtain ⟨pre, hpre⟩ : ∃ l, wby (W2.take q) = l := ⟨_, rfl⟩
                    rw [hpre] at HO8 HTK HPL
                    have HEL := Lib.hid (By.enc_length 8 x)
                    have f1 : IntKind.i64.wrap (8 * (q : Int)) = ((8 * q : Nat) : Int) := by rw [IntWalk.i64_in _ (by omega)]; omega
                    obtain ⟨q8, hq8⟩ : ∃ n, 8 * q = n := ⟨_, rfl⟩
                    have hq8b : q8 + 8 ≤ d := by have := HZ1.out; omega
                    rw [hq8] at HPL f1
                    clear hx hpre hq8
                    go_wp2_with fail
                    refine (By.rput_in none 0 [] x 8 _ (Kd.C_of_reads (d := (0 : Int)) (h1 := fun _ => rfl) ⟨rfl, by decide, fun h => absurd h (by decide)⟩) (Nat.le_refl _) (by decide) hxo.1 hxo.2 (by decide) (by decide)).mono ?_
                    rintro e wp ⟨v22, rfl, ho, hb⟩
                    rw [List.nil_append] at ho
                    obtain ⟨E, hE⟩ : ∃ l, By.enc x 8 = l := ⟨_, rfl⟩
                    rw [hE] at ho HTK HEL
                    have how := own8_of (Kd.own_of_R ho)
                    have hgl := HO8.out.blk.lt
                    have HOP := Lib.hid (HO8.out.fr (Fr.of_below hb))
                    obtain ⟨g2, c2', e22, hc22⟩ := Row.head how.row (by rw [HEL.out]; decide)
                    rw [HEL.out] at e22 hc22
                    subst e22
                    have hg2 : g2 ≠ g := by
                      have e := how.hi g2 rfl
                      omega
                    have HRO2 := Lib.hid how.row
                    clear ho hb how hE HO8 y0 hgl
                    go_wp2_with fail
                    go_loopg [23] 8 (fun kq v23 wr => Hid (AtO5 w6 g room pre E (.slice (some ⟨g2, 0, none⟩) 8 c2') v23 kq wr))
                    case atStart => exact Lib.hid ⟨0, rfl, by omega, by omega, by simpa using HOP.out, HRO2.out⟩
                    case round =>
                      obtain ⟨t, rfl, ht1, ht2, ho5, hr5⟩ := hrel.out
                      clear HOP HRO2
                      have HO5 := Lib.hid ho5
                      have HR5 := Lib.hid hr5
                      clear hrel ho5 hr5
                      by_cases ht : t < 8
                      · have u5 : decide ((t : Int) < 8) = true := decide_eq_true (by omega)
                        have u5' : decide (t < 8) = true := decide_eq_true ht
                        have j4 : (0 : Int) ≤ (t : Int) := by omega
                        have j5 : (t : Int) < 8 := by omega
                        obtain ⟨b, hb⟩ : ∃ b, E.getD t 0 = b := ⟨_, rfl⟩
                        have y1 : wr.cell? ⟨g2, t, none⟩ = some (.int .u8 b) := by
                          rw [← hb]
                          exact reads_head (Row.reads HR5.out) t (by rw [HEL.out]; exact ht)
                        have HTE := Lib.hid (show E.take (t + 1) = E.take t ++ [b] from by rw [← hb]; exact int_take E t (by rw [HEL.out]; exact ht))
                        have f2 : IntKind.i64.wrap ((q8 : Int) + (t : Int)) = ((q8 + t : Nat) : Int) := by rw [IntWalk.i64_in _ (by omega)]; omega
                        have HLP := Lib.hid (show (pre ++ E.take t).length = q8 + t from by rw [List.length_append, HPL.out, List.length_take, HEL.out, Nat.min_eq_left (by omega)])
                        obtain ⟨pp, hpp⟩ : ∃ n, q8 + t = n := ⟨_, rfl⟩
                        have hpl : pp < room := by omega
                        have j6 : (0 : Int) ≤ (pp : Int) := by omega
                        have j7 : (pp : Int) < (room : Int) := by omega
                        rw [hpp] at f2 HLP
                        obtain ⟨⟨x0, y2⟩, y3⟩ := HO5.out.cell hpl
                        have HOS := Lib.hid (HO5.out.set HLP.out hpl b)
                        have HRS := Lib.hid (HR5.out.fr ((Fr.refl (fun k => k = g) wr).setCell (p := ⟨g, pp, none⟩) (.inl rfl) (.int .u8 b)) (fun k e => by
                          have e2 : g2 = k := by simpa [Value.ownBlock] using e
                          intro e3
                          exact hg2 (e2.trans e3)))
                        clear hb hpp HO5 HR5
                        go_wp2_with fail
                        go_roundg (8 - (t + 1))
                        case measure => omega
                        case rel => exact Lib.hid ⟨t + 1, by go_num, by omega, by omega, by rw [HTE.out, ← List.append_assoc]; exact HOS.out, HRS.out⟩
                      · obtain rfl : t = 8 := by omega
                        have u5 : decide (((8 : Nat) : Int) < 8) = false := rfl
                        rw [show E.take 8 = E from List.take_of_length_le (by rw [HEL.out]; exact Nat.le_refl _)] at HO5
                        go_wp2_with fail
                        go_roundg (nw - (q + 1))
                        case measure => omega
                        case rel => exact Lib.hid ⟨q + 1, by go_num, by omega, by omega, by rw [HTK.out]; exact HO5.out⟩
                  · obtain rfl : q = nw := by omega
                    have u4 : decide ((q : Int) < (q : Int)) = false := decide_eq_false (by omega)
                    rw [show W2.take q = W2 from List.take_of_length_le (by rw [HNW.out]; exact Nat.le_refl _)] at HO8
                    have HPL := Lib.hid (show (wby W2).length = 8 * q from by rw [wby_length, HNW.out])
                    have hz1 := HZ1.out
                    have HP6L := Lib.hid (show (wby W2 ++ List.replicate z1 (0 : Int)).length = d from by rw [List.length_append, List.length_replicate, HPL.out]; omega)
                    have HO9 := Lib.hid (show Out8 w6 g room (wby W2 ++ List.replicate z1 0) wr from ⟨by rw [← pre_zeros (wby W2) z1 room (by rw [HPL.out]; omega)]; exact HO8.out.blk, HO8.out.bel, HO8.out.gg⟩)
                    obtain ⟨pre6, hp6⟩ : ∃ l, wby W2 ++ List.replicate z1 (0 : Int) = l := ⟨_, rfl⟩
                    have HP6 := Lib.hid hp6
                    rw [hp6] at HO9 HP6L
                    clear hp6 HO8 HPL hz1
                    have f1 : IntKind.u64.wrap (bs - sp) = (d : Int) := by rw [HDD.out]; exact IntWalk.u64_in _ (by omega)
                    go_wp2_with fail
                    go_loopg [24] nt (fun kq v24 wr => Hid (AtO6 w6 g room nt pre6 T2 v24 kq wr))
                    case atStart => exact Lib.hid ⟨0, rfl, by omega, by omega, by simpa using HO9.out⟩
                    case round =>
                      obtain ⟨t, rfl, ht1, ht2, ho6⟩ := hrel.out
                      clear HO9
                      have HO6 := Lib.hid ho6
                      clear hrel ho6
                      by_cases ht : t < nt
                      · have u5 : decide ((t : Int) < (nt : Int)) = true := decide_eq_true (by omega)
                        have u5' : decide (t < nt) = true := decide_eq_true ht
                        have j4 : (0 : Int) ≤ (t : Int) := by omega
                        have j5 : (t : Int) < (nt : Int) := by omega
                        obtain ⟨b, hb⟩ : ∃ b, T2.getD t 0 = b := ⟨_, rfl⟩
                        have y1 : wr.cell? ⟨g8, t, none⟩ = some (.int .u8 b) := by
                          rw [← hb]
                          exact reads_head (reads_fr (S := fun _ => False) HR8.out (Fr.of_below HO6.out.bel) (fun _ _ _ => id)) t ht
                        have HTE := Lib.hid (show T2.take (t + 1) = T2.take t ++ [b] from by rw [← hb]; exact int_take T2 t (by rw [HT2L.out]; exact ht))
                        have f0 : IntKind.u64.wrap (t : Int) = (t : Int) := IntWalk.u64_in _ (by omega)
                        have f2 : IntKind.u64.wrap ((d : Int) + (t : Int)) = ((d + t : Nat) : Int) := by rw [IntWalk.u64_in _ (by omega)]; omega
                        have HLP := Lib.hid (show (pre6 ++ T2.take t).length = d + t from by rw [List.length_append, HP6L.out, List.length_take, HT2L.out, Nat.min_eq_left (by omega)])
                        obtain ⟨pp, hpp⟩ : ∃ n, d + t = n := ⟨_, rfl⟩
                        have hpl : pp < room := by omega
                        have j6 : (0 : Int) ≤ (pp : Int) := by omega
                        have j7 : (pp : Int) < (room : Int) := by omega
                        rw [hpp] at f2 HLP
                        obtain ⟨⟨x0, y2⟩, y3⟩ := HO6.out.cell hpl
                        have HOS := Lib.hid (HO6.out.set HLP.out hpl b)
                        clear hb hpp HO6
                        go_wp2_with fail
                        go_roundg (nt - (t + 1))
                        case measure => omega
                        case rel => exact Lib.hid ⟨t + 1, by go_num, by omega, by omega, by rw [HTE.out, ← List.append_assoc]; exact HOS.out⟩
                      · obtain rfl : t = nt := by omega
                        have u5 : decide ((t : Int) < (t : Int)) = false := decide_eq_false (by omega)
                        rw [show T2.take t = T2 from List.take_of_length_le (by rw [HT2L.out]; exact Nat.le_refl _)] at HO6
                        go_wp2_with fail
                        go_ret2
                        have hbs' : baseOf l1 l2 = bs := by
                          unfold baseOf
                          rw [HSZ.out]
                          have q1 := HZ16.out
                          have q2 : ((sz : Nat) : Int) + 16 = (z16 : Int) := by omega
                          rw [q2]
                          exact HBS.out
                        have hwo : wordsOf bs l1 l2 entry phdr phnum phsize = W2 := by
                          unfold wordsOf
                          rw [← HW2.out, ← HW.out, ← HAL.out, HSZ.out]
                        have hsp' : spOf bs W2.length = sp := by
                          unfold spOf
                          rw [HNW.out]
                          exact HSP.out
                        have ht2 : txOf l1 ++ txOf l2 ++ [r0, r1, r2, r3, r4, r5, r6, r7, r8, r9, r10, r11, r12, r13, r14, r15] = T2 := by rw [← txOf_append, HLA.out, HT.out, HT2.out]
                        rw [hbs', hwo, ht2]
                        refine ⟨_, by rw [hsp']; rfl, ?_, HF6.out.trans (Fr.of_below HO6.out.bel) (fun _ _ => id)⟩
                        have ho : outOf bs W2 T2 = pre6 ++ T2 ++ List.replicate (room - (pre6 ++ T2).length) 0 := by
                          unfold outOf
                          have a1 : (bs - 8 * (W2.length : Int) - spOf bs W2.length).toNat = z1 := by
                            rw [hsp', HNW.out]
                            exact gap6 HDD.out HZ1.out
                          rw [a1, HP6.out, HT2L.out, List.length_append, HP6L.out, HT2L.out, gap7 HDD.out HRO.out hdr]
                        rw [ho]
                        exact own8_blk HO6.out.blk (by rw [List.length_append, List.length_replicate, List.length_append, HP6L.out, HT2L.out]; omega) (by omega) hsz6
end Go.Proofs.Ytnoeehdccknhnaa.St
