/- The document's whole, Unmap, Protect; the law's span: walked. -/
import Derived.Test.YtnaiccgbjcppaaaRgY
namespace Go.Proofs.Ytnaiccgbjcppaaa.Rg
open Go Go.RowKit Go.Proofs.YtnaiccgbjcppaaaW.PrintWords Go.Proofs.YtnaiccgbjcppaaaW.PrintLast Go.Proofs.YtnaiccgbjcppaaaW.PrintMore
open Go.Proofs.Ytnaiccgbjcppaaa.Hp
attribute [local go_sem] max2_int min2_int max_two min_two max_three min_three max_four min_four
set_option linter.unusedVariables false
set_option linter.unusedSimpArgs false
theorem span_at {a N : Nat} {S E : Int} (hS : (a : Int) * 4096 = S) (hE : ((a + N : Nat) : Int) * 4096 = E) (hN : 0 < N) (ha : a + N ≤ 1000) : spanB S E = true := by
  have := mapB_at (p := 0) hN ha (by omega)
  rw [hS, hE] at this
  unfold mapB at this
  simp only [Bool.and_eq_true] at this
  exact this.1
theorem whole_any (a N : Nat) (S E Z : Int) (hS : (a : Int) * 4096 = S) (hE : ((a + N : Nat) : Int) * 4096 = E) (hZ : (N : Int) * 4096 = Z) (hN : 0 < N) (ha : a + N ≤ 1000) (w : World) : Calls Try.prog 47 #[.int .u64 S, .int .u64 Z] w fun x w' => x = .returned (.tuple #[.int .u64 E, .bool true]) ∧ Fr (fun _ => False) w w' := by
  have HSP := Lib.hid (fun w => spanS_any S E (by omega) (by omega) w)
  rw [span_at hS hE hN ha] at HSP
  have HUP := Lib.hid (fun w => up_any Z (by omega) (by omega) w)
  rw [show (Z + 4095) / 4096 * 4096 = Z from by omega] at HUP
  have z1 : (Z == 0) = false := beq_eq_false_iff_ne.2 (by omega)
  have z2 : decide ((274877906944 : Int) < Z) = false := decide_eq_false (by omega)
  have z3 : decide ((274877906944 : Int) < S) = false := decide_eq_false (by omega)
  have hSZ : S + Z = E := by omega
  have hw : IntKind.u64.wrap E = E := IntWalk.u64_in _ (by omega)
  clear hS hE hZ hN ha
  go_enter Try.func47, Try.ntmps47
  go_wp2_with fail
  refine (HUP.out _).mono ?_
  rintro x w1 ⟨rfl, hf1⟩
  have HF1 := Lib.hid hf1
  clear hf1
  go_wp2_with fail
  refine (HUP.out _).mono ?_
  rintro x w2 ⟨rfl, hf2⟩
  have HF2 := Lib.hid (HF1.out.trans hf2 (fun _ _ => id))
  clear hf2
  go_wp2_with fail
  refine (HSP.out _).mono ?_
  rintro x w3 ⟨rfl, hf3⟩
  have HF3 := Lib.hid (HF2.out.trans hf3 (fun _ _ => id))
  clear hf3
  go_wp2_with fail
  go_ret2
  exact ⟨rfl, HF3.out⟩
set_option maxHeartbeats 4000000 in
theorem unmapP_any (B g : Nat) (P : List Pg) (a N : Nat) (S E Z : Int) (hS : (a : Int) * 4096 = S) (hE : ((a + N : Nat) : Int) * 4096 = E) (hZ : (N : Int) * 4096 = Z) (hN : 0 < N) (ha : a + N ≤ 1000) (w : World) (h : Spc w B g P) (hBw : B ≤ w.heap.size) (hv : Small P) (hn : P.length ≤ 200) : Calls Try.prog 30 #[.pointer (some ⟨g, 0, none⟩), .int .u64 S, .int .u64 Z] w fun x w' => x = .returned (.int .i64 0) ∧ Spc w' B g (withoutP S E P) ∧ Fr (fun k => k = g) w w' := by
  have HS := Lib.hid h
  have HV := Lib.hid hv
  have HN := Lib.hid hn
  have HB := Lib.hid hBw
  have HWH := Lib.hid (fun w => whole_any a N S E Z hS hE hZ hN ha w)
  clear h hv hn hBw hS hE hZ hN ha
  go_enter Try.func30, Try.ntmps30
  go_wp2_with fail
  refine (HWH.out _).mono ?_
  rintro x w1 ⟨rfl, hf1⟩
  have HF1 := Lib.hid hf1
  have HS1 := Lib.hid (HS.out.fr hf1)
  clear hf1
  go_wp2_with fail
  refine (withoutP_any B g P S E _ HS1.out (by have := HN.out; omega) HV.out).mono ?_
  rintro x w3 ⟨v9, rfl, ho9, hb9⟩
  have HF3 := Lib.hid (HF1.out.trans (Fr.of_below (S := fun _ => False) hb9) (fun _ _ => id))
  obtain ⟨Z1, hZ1⟩ : ∃ Z1, withoutP S E P = Z1 := ⟨_, rfl⟩
  have HZE := Lib.hid (show Small Z1 ∧ Z1.length ≤ 200 from by rw [← hZ1]; exact ⟨HV.out.without _ _, by have := withoutP_len S E P; have := HN.out; omega⟩)
  rw [hZ1] at ho9
  have HZW := Lib.hid hZ1
  have HOZ := Lib.hid (ho9.low (B1 := w.heap.size) HF1.out.size)
  obtain ⟨AZ, cZ, rfl, _, _⟩ := ho9.form
  obtain ⟨nz, hnz⟩ : ∃ nz, Z1.length = nz := ⟨_, rfl⟩
  have hnz2 : nz ≤ 200 := by rw [← hnz]; exact HZE.out.2
  have HZL := Lib.hid hnz
  rw [hnz] at HOZ ⊢
  clear ho9 hb9 hnz hZ1
  go_wp2_with fail
  refine (regions_any _ Z1 _ _ HOZ.out (by have := HZE.out.2; omega) HZE.out.1).mono ?_
  rintro x w12 ⟨v12, rfl, ho12, hb12⟩
  obtain ⟨A12, c12, rfl, _, _⟩ := ho12.form
  obtain ⟨nq, hnq⟩ : ∃ nq, (regsL Z1).length = nq := ⟨_, rfl⟩
  have hnq2 : nq ≤ 200 := by have h := regsL_len Z1; have := HZE.out.2; omega
  rw [hnq]
  have c5 : decide ((256 : Int) < (nq : Int)) = false := decide_eq_false (by omega)
  have HF12 := Lib.hid (HF3.out.trans (Fr.of_below (S := fun _ => False) hb12) (fun _ _ => id))
  have HOZ2 := Lib.hid (HOZ.out.fr (Fr.of_below (S := fun _ => False) hb12) (fun _ _ => id))
  obtain ⟨vq, hbq, hrq⟩ := (HS.out.fr HF12.out).row
  have q0 := hbq.cell 0
  have f0 := hbq.frozen 0
  simp at q0
  have HLTG := Lib.hid (show g < w.heap.size from by obtain ⟨v9, hb9, _⟩ := HS.out.row; exact hb9.lt)
  have HS2 := Lib.hid (show Blk (w12.setCell ⟨g, 0, none⟩ (.slice AZ nz cZ)) g 43 #[.slice AZ nz cZ, .int .i64 100, .int .u64 0, .int .u64 0] from by simpa using hbq.set 0 (.slice AZ nz cZ))
  have hfs : Fr (fun k => k = g) w12 (w12.setCell ⟨g, 0, none⟩ (.slice AZ nz cZ)) := (Fr.refl (fun k => k = g) w12).setCell (p := ⟨g, 0, none⟩) (.inl rfl) _
  have HOZ3 := Lib.hid (HOZ2.out.fr hfs (fun k e e2 => by have e1 := own_ge HOZ.out k e; have := HLTG.out; omega))
  have HFF := Lib.hid ((HF12.out.mono (T := fun k => k = g) (fun _ _ h => h.elim)).trans hfs (fun _ _ => id))
  clear ho12 hb12 hbq hrq hnq hfs
  go_wp2_with fail
  go_ret
  (try simp only [cond_true])
  rw [HZW.out]
  exact ⟨rfl, ⟨⟨_, HS2.out, OwnP.low HOZ3.out HB.out⟩, HS.out.gb⟩, HFF.out⟩
/-- Setting the permissions of one page of a row. -/
theorem pcs_setp (X Y : List Pg) (x : Pg) (p : Int) (k : Nat) (hk : X.length = k) : (pcs (X ++ x :: Y)).set (k * 3 + 1) (.int .i64 p) = pcs (X ++ ⟨x.n, p, x.k⟩ :: Y) := by
  subst hk
  rw [pcs_append, pcs_append, List.set_append_right _ _ (by rw [pcs_length]; omega), pcs_length, Nat.add_sub_cancel_left]
  rfl
theorem OwnP.setp {w : World} {B g n c : Nat} {X Y : List Pg} {x : Pg} (h : OwnP w B (.slice (some ⟨g, 0, none⟩) n c) (X ++ x :: Y)) (hn : n = (X ++ x :: Y).length) (k : Nat) (hk : X.length = k) (p : Int) : OwnP (w.setCell ⟨g, k * 3 + 1, none⟩ (.int .i64 p)) B (.slice (some ⟨g, 0, none⟩) n c) (X ++ ⟨x.n, p, x.k⟩ :: Y) := by
  subst hn
  have h1 := World.ownsRow.stored h (k * 3 + 1) (.int .i64 p)
  rw [pcs_setp X Y x p k hk] at h1
  unfold OwnP
  rw [show (X ++ (⟨x.n, p, x.k⟩ : Pg) :: Y).length = (X ++ x :: Y).length by simp]
  exact h1.1
def AtPr (w0 : World) (P : List Pg) (S E p : Int) (v11 v12 : Value) (kq : Nat) (wr : World) : Prop := ∃ k : Nat, v12 = .int .i64 k ∧ k ≤ P.length ∧ P.length - k ≤ kq ∧ OwnP wr w0.heap.size v11 (setP S E p (P.take k) ++ P.drop k) ∧ Below w0.heap.size w0 wr
set_option maxHeartbeats 8000000 in
set_option maxRecDepth 100000 in
theorem protP2_any (B g : Nat) (P : List Pg) (a N : Nat) (S E Z p : Int) (hS : (a : Int) * 4096 = S) (hE : ((a + N : Nat) : Int) * 4096 = E) (hZ : (N : Int) * 4096 = Z) (hN : 0 < N) (ha : a + N ≤ 1000) (hp : 0 ≤ p ∧ p ≤ 7) (w : World) (h : Spc w B g P) (hBw : B ≤ w.heap.size) (hv : Small P) (hn : P.length ≤ 200) (q : Bool) (hq : decide ((P.length : Int) - ((withoutP S E P).length : Int) = (N : Int)) = q) : Calls Try.prog 31 #[.pointer (some ⟨g, 0, none⟩), .int .u64 S, .int .u64 Z, .int .i64 p] w fun x w' => x = .returned (.int .i64 (bif q then 0 else 12)) ∧ Spc w' B g (bif q then setP S E p P else P) ∧ Fr (fun k => k = g) w w' := by
  have HS := Lib.hid h
  have HV := Lib.hid hv
  have HN := Lib.hid (And.intro hn hN)
  have HB := Lib.hid hBw
  have HWH := Lib.hid (fun w => whole_any a N S E Z hS hE hZ hN ha w)
  have p1 : decide (p < 0) = false := decide_eq_false (by omega)
  have p2 : decide ((7 : Int) < p) = false := decide_eq_false (by omega)
  have hES : E - S = Z := by omega
  have hz1 : Z.tdiv 4096 = (N : Int) := by rw [Int.tdiv_eq_ediv_of_nonneg (by omega)]; omega
  have hz2 : Z / 4096 = (N : Int) := by omega
  have hwz : IntKind.u64.wrap Z = Z := IntWalk.u64_in _ (by omega)
  have hwn : IntKind.u64.wrap (N : Int) = (N : Int) := IntWalk.u64_in _ (by omega)
  obtain ⟨n, hnn⟩ : ∃ n, P.length = n := ⟨_, rfl⟩
  obtain ⟨m1, hm1⟩ : ∃ m1, (withoutP S E P).length = m1 := ⟨_, rfl⟩
  have hmn : m1 ≤ n := by rw [← hm1, ← hnn]; exact withoutP_len S E P
  rw [hnn, hm1] at hq
  obtain ⟨dl, hdl⟩ : ∃ dl, (n : Int) - (m1 : Int) = dl := ⟨_, rfl⟩
  have hwd : IntKind.u64.wrap dl = dl := IntWalk.u64_in _ (by omega)
  have hwd2 : IntKind.i64.wrap dl = dl := IntWalk.i64_in _ (by omega)
  rw [hdl] at hq
  have HNN := Lib.hid hnn
  have HM := Lib.hid hm1
  have hq2 : (dl != (N : Int)) = !q := by rw [← hq]; by_cases h : dl = (N : Int) <;> simp [h]
  have HSZ := Lib.hid (And.intro hS hE)
  have HDQ := Lib.hid (show q = true → 0 < n from fun h => by rw [h] at hq; have := of_decide_eq_true hq; omega)
  clear h hv hn hBw hS hE hZ hN ha hp hnn hm1 hmn hq
  cases q with
  | false =>
    rw [Bool.not_false] at hq2
    go_enter Try.func31, Try.ntmps31
    go_wp2_with fail
    refine (HWH.out _).mono ?_
    rintro x w1 ⟨rfl, hf1⟩
    have HF1 := Lib.hid hf1
    have HS1 := Lib.hid (HS.out.fr hf1)
    clear hf1
    obtain ⟨vs, hbs, hrs⟩ := HS1.out.row
    obtain ⟨A, c, rfl, _, hA⟩ := hrs.form
    rw [HNN.out] at hbs
    have HBS := Lib.hid hbs
    clear hbs hrs hA
    go_wp2_with fail
    refine wp_region_noPanic ?_
    refine wp_region_held_drew (S := (fun w' => Below w1.heap.size w1 w')) (by kernel_rfl) ?_ (fun hHeld => ?_)
    · exact below_drew (Below.refl _ _)
    refine wpAnyH_take (i := 0) (v := ?_) rfl (by kernel_rfl) (by kernel_rfl) (by kernel_rfl) (fun _ _ _ h => h) (Or.inl ⟨by rfl, ?_⟩) (by assumption) ?_
    rotate_left
    · (intro w hSw; (try dsimp only at hSw); go_simp; first | done | (with_reducible rfl))
    try simp only [List.getElem_toArray, List.getElem_cons_succ, List.getElem_cons_zero, Act.put, List.setIfInBounds_toArray, List.set_cons_zero, List.set_cons_succ]
    refine wpAnyH_take (i := 1) (v := ?_) rfl (by kernel_rfl) (by kernel_rfl) (by kernel_rfl) (fun _ _ _ h => h) (Or.inl ⟨by rfl, ?_⟩) (by assumption) ?_
    rotate_left
    · (intro w hSw; (try dsimp only at hSw); go_simp; first | done | (with_reducible rfl))
    try simp only [List.getElem_toArray, List.getElem_cons_succ, List.getElem_cons_zero, Act.put, List.setIfInBounds_toArray, List.set_cons_zero, List.set_cons_succ]
    refine wpAnyH_take (i := 2) (v := ?_) rfl (by kernel_rfl) (by kernel_rfl) (by kernel_rfl) (fun _ _ _ h => h) (Or.inl ⟨by rfl, ?_⟩) (by assumption) ?_
    rotate_left
    · (intro w hSw; (try dsimp only at hSw); go_simp; first | done | (with_reducible rfl))
    try simp only [List.getElem_toArray, List.getElem_cons_succ, List.getElem_cons_zero, Act.put, List.setIfInBounds_toArray, List.set_cons_zero, List.set_cons_succ]
    refine wpAnyH_take (i := 3) (v := .slice A n c) rfl (by kernel_rfl) (by kernel_rfl) (by kernel_rfl) (fun _ _ _ h => h) (Or.inl ⟨by rfl, fun w h => by have k0 := Blk.cell (show Blk w g 43 #[.slice A n c, .int .i64 100, .int .u64 0, .int .u64 0] from (h.block _ HBS.out.lt).trans HBS.out) 0; simp at k0; go_simp⟩) (by assumption) ?_
    try simp only [List.getElem_toArray, List.getElem_cons_succ, List.getElem_cons_zero, Act.put, List.setIfInBounds_toArray, List.set_cons_zero, List.set_cons_succ]
    refine wpAnyH_take (i := 4) (v := ?_) rfl (by kernel_rfl) (by kernel_rfl) (by kernel_rfl) (fun _ _ _ h => h) (Or.inl ⟨by rfl, ?_⟩) (by assumption) ?_
    rotate_left
    · (intro w hSw; (try dsimp only at hSw); go_simp; first | done | (with_reducible rfl))
    try simp only [List.getElem_toArray, List.getElem_cons_succ, List.getElem_cons_zero, Act.put, List.setIfInBounds_toArray, List.set_cons_zero, List.set_cons_succ]
    refine wpAnyH_take (i := 5) (v := ?_) rfl (by kernel_rfl) (by kernel_rfl) (by kernel_rfl) (fun _ _ _ h => h) (Or.inl ⟨by rfl, ?_⟩) (by assumption) ?_
    rotate_left
    · (intro w hSw; (try dsimp only at hSw); go_simp; first | done | (with_reducible rfl))
    try simp only [List.getElem_toArray, List.getElem_cons_succ, List.getElem_cons_zero, Act.put, List.setIfInBounds_toArray, List.set_cons_zero, List.set_cons_succ]
    refine wpAnyH_take (i := 6) (v := ?_) rfl (by kernel_rfl) (by kernel_rfl) (by kernel_rfl) (fun _ _ _ h => h) (Or.inl ⟨by rfl, ?_⟩) (by assumption) ?_
    rotate_left
    · (intro w hSw; (try dsimp only at hSw); go_simp; first | done | (with_reducible rfl))
    try simp only [List.getElem_toArray, List.getElem_cons_succ, List.getElem_cons_zero, Act.put, List.setIfInBounds_toArray, List.set_cons_zero, List.set_cons_succ]
    refine wpAnyH_take (i := 7) (v := ?_) rfl (by kernel_rfl) (by kernel_rfl) (by kernel_rfl) (fun _ _ _ h => h) (Or.inl ⟨by rfl, ?_⟩) (by assumption) ?_
    rotate_left
    · (intro w hSw; (try dsimp only at hSw); go_simp; first | done | (with_reducible rfl))
    try simp only [List.getElem_toArray, List.getElem_cons_succ, List.getElem_cons_zero, Act.put, List.setIfInBounds_toArray, List.set_cons_zero, List.set_cons_succ]
    refine wpAnyH_take (i := 12) (v := ?_) rfl (by kernel_rfl) (by kernel_rfl) (by kernel_rfl) (fun _ _ _ h => h) (Or.inl ⟨by rfl, ?_⟩) (by assumption) ?_
    rotate_left
    · (intro w hSw; (try dsimp only at hSw); go_simp; first | done | (with_reducible rfl))
    try simp only [List.getElem_toArray, List.getElem_cons_succ, List.getElem_cons_zero, Act.put, List.setIfInBounds_toArray, List.set_cons_zero, List.set_cons_succ]
    refine wpAnyH_take (i := 13) (v := ?_) rfl (by kernel_rfl) (by kernel_rfl) (by kernel_rfl) (fun _ _ _ h => h) (Or.inl ⟨by rfl, ?_⟩) (by assumption) ?_
    rotate_left
    · (intro w hSw; (try dsimp only at hSw); go_simp; first | done | (with_reducible rfl))
    try simp only [List.getElem_toArray, List.getElem_cons_succ, List.getElem_cons_zero, Act.put, List.setIfInBounds_toArray, List.set_cons_zero, List.set_cons_succ]
    refine wpAnyH_take (i := 14) (v := ?_) rfl (by kernel_rfl) (by kernel_rfl) (by kernel_rfl) (fun _ _ _ h => h) (Or.inl ⟨by rfl, ?_⟩) (by assumption) ?_
    rotate_left
    · (intro w hSw; (try dsimp only at hSw); go_simp; first | done | (with_reducible rfl))
    try simp only [List.getElem_toArray, List.getElem_cons_succ, List.getElem_cons_zero, Act.put, List.setIfInBounds_toArray, List.set_cons_zero, List.set_cons_succ]
    refine wpAnyH_take (i := 15) (v := ?_) rfl (by kernel_rfl) (by kernel_rfl) (by kernel_rfl) (fun _ _ _ h => h) (Or.inl ⟨by rfl, ?_⟩) (by assumption) ?_
    rotate_left
    · (intro w hSw; (try dsimp only at hSw); go_simp; first | done | (with_reducible rfl))
    try simp only [List.getElem_toArray, List.getElem_cons_succ, List.getElem_cons_zero, Act.put, List.setIfInBounds_toArray, List.set_cons_zero, List.set_cons_succ]
    refine wpAnyH_ready (rs := [8]) (by kernel_rfl) (by simp) ?_
    refine AllReadyH.cons rfl (fun K' hK' => ?_) AllReadyH.nil
    go_simp
    go_at_call 41; refine (withoutP_any B g P S E _ (HS1.out.fr (Fr.of_below (S := fun _ => False) hHeld)) (by have := HN.out.1; omega) HV.out).mono ?_; rintro e1 w2 ⟨v2, rfl, ho2, hb2⟩; obtain ⟨A2, c2, rfl, _, _⟩ := ho2.form; rw [HM.out]
    have hS1 := Fr.below hHeld (Fr.of_below (S := fun _ => False) hb2) (fun _ _ => id); clear hb2 ho2
    clear hHeld
    refine hK'.out _ _ hS1 (fun hHeld => ?_)
    clear hK' K' hS1
    try simp only [List.getElem_toArray, List.getElem_cons_succ, List.getElem_cons_zero, Act.put, List.setIfInBounds_toArray, List.set_cons_zero, List.set_cons_succ]
    refine wpAnyH_take (i := 9) (v := ?_) rfl (by kernel_rfl) (by kernel_rfl) (by kernel_rfl) (fun _ _ _ h => h) (Or.inl ⟨by rfl, ?_⟩) (by assumption) ?_
    rotate_left
    · (intro w hSw; (try dsimp only at hSw); go_simp; first | done | (with_reducible rfl))
    try simp only [List.getElem_toArray, List.getElem_cons_succ, List.getElem_cons_zero, Act.put, List.setIfInBounds_toArray, List.set_cons_zero, List.set_cons_succ]
    refine wpAnyH_take (i := 10) (v := ?_) rfl (by kernel_rfl) (by kernel_rfl) (by kernel_rfl) (fun _ _ _ h => h) (Or.inl ⟨by rfl, ?_⟩) (by assumption) ?_
    rotate_left
    · (intro w hSw; (try dsimp only at hSw); go_simp; first | done | (with_reducible rfl))
    try simp only [List.getElem_toArray, List.getElem_cons_succ, List.getElem_cons_zero, Act.put, List.setIfInBounds_toArray, List.set_cons_zero, List.set_cons_succ]
    refine wpAnyH_take (i := 11) (v := ?_) rfl (by kernel_rfl) (by kernel_rfl) (by kernel_rfl) (fun _ _ _ h => h) (Or.inl ⟨by rfl, ?_⟩) (by assumption) ?_
    rotate_left
    · (intro w hSw; (try dsimp only at hSw); go_simp; first | done | (with_reducible rfl))
    try simp only [List.getElem_toArray, List.getElem_cons_succ, List.getElem_cons_zero, Act.put, List.setIfInBounds_toArray, List.set_cons_zero, List.set_cons_succ]
    refine wpAnyH_take (i := 16) (v := ?_) rfl (by kernel_rfl) (by kernel_rfl) (by kernel_rfl) (fun _ _ _ h => h) (Or.inl ⟨by rfl, ?_⟩) (by assumption) ?_
    rotate_left
    · (intro w hSw; (try dsimp only at hSw); go_simp; first | done | (with_reducible rfl))
    try simp only [List.getElem_toArray, List.getElem_cons_succ, List.getElem_cons_zero, Act.put, List.setIfInBounds_toArray, List.set_cons_zero, List.set_cons_succ]
    refine wpAnyH_done (by kernel_rfl) ?_ _
    refine NoPanic.normal ?_
    go_wp2_with fail
    go_ret
    have hfb := Fr.of_below (S := fun _ => False) hHeld
    exact ⟨rfl, HS1.out.fr hfb, (HF1.out.trans hfb (fun _ _ => id)).mono (fun _ _ h => h.elim)⟩
  | true =>
    rw [Bool.not_true] at hq2
    go_enter Try.func31, Try.ntmps31
    go_wp2_with fail
    refine (HWH.out _).mono ?_
    rintro x w1 ⟨rfl, hf1⟩
    have HF1 := Lib.hid hf1
    have HS1 := Lib.hid (HS.out.fr hf1)
    clear hf1
    obtain ⟨vs, hbs, hrs⟩ := HS1.out.row
    obtain ⟨A, c, rfl, _, hA⟩ := hrs.form
    rw [HNN.out] at hbs hA
    obtain ⟨gp, rfl⟩ := hA (HDQ.out (by simp))
    have HBS := Lib.hid hbs
    have HRS := Lib.hid hrs
    clear hbs hrs hA
    go_wp2_with fail
    refine wp_region_noPanic ?_
    refine wp_region_held_drew (S := (fun w' => Below w1.heap.size w1 w')) (by kernel_rfl) ?_ (fun hHeld => ?_)
    · exact below_drew (Below.refl _ _)
    refine wpAnyH_take (i := 0) (v := ?_) rfl (by kernel_rfl) (by kernel_rfl) (by kernel_rfl) (fun _ _ _ h => h) (Or.inl ⟨by rfl, ?_⟩) (by assumption) ?_
    rotate_left
    · (intro w hSw; (try dsimp only at hSw); go_simp; first | done | (with_reducible rfl))
    try simp only [List.getElem_toArray, List.getElem_cons_succ, List.getElem_cons_zero, Act.put, List.setIfInBounds_toArray, List.set_cons_zero, List.set_cons_succ]
    refine wpAnyH_take (i := 1) (v := ?_) rfl (by kernel_rfl) (by kernel_rfl) (by kernel_rfl) (fun _ _ _ h => h) (Or.inl ⟨by rfl, ?_⟩) (by assumption) ?_
    rotate_left
    · (intro w hSw; (try dsimp only at hSw); go_simp; first | done | (with_reducible rfl))
    try simp only [List.getElem_toArray, List.getElem_cons_succ, List.getElem_cons_zero, Act.put, List.setIfInBounds_toArray, List.set_cons_zero, List.set_cons_succ]
    refine wpAnyH_take (i := 2) (v := ?_) rfl (by kernel_rfl) (by kernel_rfl) (by kernel_rfl) (fun _ _ _ h => h) (Or.inl ⟨by rfl, ?_⟩) (by assumption) ?_
    rotate_left
    · (intro w hSw; (try dsimp only at hSw); go_simp; first | done | (with_reducible rfl))
    try simp only [List.getElem_toArray, List.getElem_cons_succ, List.getElem_cons_zero, Act.put, List.setIfInBounds_toArray, List.set_cons_zero, List.set_cons_succ]
    refine wpAnyH_take (i := 3) (v := .slice (some ⟨gp, 0, none⟩) n c) rfl (by kernel_rfl) (by kernel_rfl) (by kernel_rfl) (fun _ _ _ h => h) (Or.inl ⟨by rfl, fun w h => by have k0 := Blk.cell (show Blk w g 43 #[.slice (some ⟨gp, 0, none⟩) n c, .int .i64 100, .int .u64 0, .int .u64 0] from (h.block _ HBS.out.lt).trans HBS.out) 0; simp at k0; go_simp⟩) (by assumption) ?_
    try simp only [List.getElem_toArray, List.getElem_cons_succ, List.getElem_cons_zero, Act.put, List.setIfInBounds_toArray, List.set_cons_zero, List.set_cons_succ]
    refine wpAnyH_take (i := 4) (v := ?_) rfl (by kernel_rfl) (by kernel_rfl) (by kernel_rfl) (fun _ _ _ h => h) (Or.inl ⟨by rfl, ?_⟩) (by assumption) ?_
    rotate_left
    · (intro w hSw; (try dsimp only at hSw); go_simp; first | done | (with_reducible rfl))
    try simp only [List.getElem_toArray, List.getElem_cons_succ, List.getElem_cons_zero, Act.put, List.setIfInBounds_toArray, List.set_cons_zero, List.set_cons_succ]
    refine wpAnyH_take (i := 5) (v := ?_) rfl (by kernel_rfl) (by kernel_rfl) (by kernel_rfl) (fun _ _ _ h => h) (Or.inl ⟨by rfl, ?_⟩) (by assumption) ?_
    rotate_left
    · (intro w hSw; (try dsimp only at hSw); go_simp; first | done | (with_reducible rfl))
    try simp only [List.getElem_toArray, List.getElem_cons_succ, List.getElem_cons_zero, Act.put, List.setIfInBounds_toArray, List.set_cons_zero, List.set_cons_succ]
    refine wpAnyH_take (i := 6) (v := ?_) rfl (by kernel_rfl) (by kernel_rfl) (by kernel_rfl) (fun _ _ _ h => h) (Or.inl ⟨by rfl, ?_⟩) (by assumption) ?_
    rotate_left
    · (intro w hSw; (try dsimp only at hSw); go_simp; first | done | (with_reducible rfl))
    try simp only [List.getElem_toArray, List.getElem_cons_succ, List.getElem_cons_zero, Act.put, List.setIfInBounds_toArray, List.set_cons_zero, List.set_cons_succ]
    refine wpAnyH_take (i := 7) (v := ?_) rfl (by kernel_rfl) (by kernel_rfl) (by kernel_rfl) (fun _ _ _ h => h) (Or.inl ⟨by rfl, ?_⟩) (by assumption) ?_
    rotate_left
    · (intro w hSw; (try dsimp only at hSw); go_simp; first | done | (with_reducible rfl))
    try simp only [List.getElem_toArray, List.getElem_cons_succ, List.getElem_cons_zero, Act.put, List.setIfInBounds_toArray, List.set_cons_zero, List.set_cons_succ]
    refine wpAnyH_take (i := 12) (v := ?_) rfl (by kernel_rfl) (by kernel_rfl) (by kernel_rfl) (fun _ _ _ h => h) (Or.inl ⟨by rfl, ?_⟩) (by assumption) ?_
    rotate_left
    · (intro w hSw; (try dsimp only at hSw); go_simp; first | done | (with_reducible rfl))
    try simp only [List.getElem_toArray, List.getElem_cons_succ, List.getElem_cons_zero, Act.put, List.setIfInBounds_toArray, List.set_cons_zero, List.set_cons_succ]
    refine wpAnyH_take (i := 13) (v := ?_) rfl (by kernel_rfl) (by kernel_rfl) (by kernel_rfl) (fun _ _ _ h => h) (Or.inl ⟨by rfl, ?_⟩) (by assumption) ?_
    rotate_left
    · (intro w hSw; (try dsimp only at hSw); go_simp; first | done | (with_reducible rfl))
    try simp only [List.getElem_toArray, List.getElem_cons_succ, List.getElem_cons_zero, Act.put, List.setIfInBounds_toArray, List.set_cons_zero, List.set_cons_succ]
    refine wpAnyH_take (i := 14) (v := ?_) rfl (by kernel_rfl) (by kernel_rfl) (by kernel_rfl) (fun _ _ _ h => h) (Or.inl ⟨by rfl, ?_⟩) (by assumption) ?_
    rotate_left
    · (intro w hSw; (try dsimp only at hSw); go_simp; first | done | (with_reducible rfl))
    try simp only [List.getElem_toArray, List.getElem_cons_succ, List.getElem_cons_zero, Act.put, List.setIfInBounds_toArray, List.set_cons_zero, List.set_cons_succ]
    refine wpAnyH_take (i := 15) (v := ?_) rfl (by kernel_rfl) (by kernel_rfl) (by kernel_rfl) (fun _ _ _ h => h) (Or.inl ⟨by rfl, ?_⟩) (by assumption) ?_
    rotate_left
    · (intro w hSw; (try dsimp only at hSw); go_simp; first | done | (with_reducible rfl))
    try simp only [List.getElem_toArray, List.getElem_cons_succ, List.getElem_cons_zero, Act.put, List.setIfInBounds_toArray, List.set_cons_zero, List.set_cons_succ]
    refine wpAnyH_ready (rs := [8]) (by kernel_rfl) (by simp) ?_
    refine AllReadyH.cons rfl (fun K' hK' => ?_) AllReadyH.nil
    go_simp
    go_at_call 41; refine (withoutP_any B g P S E _ (HS1.out.fr (Fr.of_below (S := fun _ => False) hHeld)) (by have := HN.out.1; omega) HV.out).mono ?_; rintro e1 w2 ⟨v2, rfl, ho2, hb2⟩; obtain ⟨A2, c2, rfl, _, _⟩ := ho2.form; rw [HM.out]
    have hS1 := Fr.below hHeld (Fr.of_below (S := fun _ => False) hb2) (fun _ _ => id); clear hb2 ho2
    clear hHeld
    refine hK'.out _ _ hS1 (fun hHeld => ?_)
    clear hK' K' hS1
    try simp only [List.getElem_toArray, List.getElem_cons_succ, List.getElem_cons_zero, Act.put, List.setIfInBounds_toArray, List.set_cons_zero, List.set_cons_succ]
    refine wpAnyH_take (i := 9) (v := ?_) rfl (by kernel_rfl) (by kernel_rfl) (by kernel_rfl) (fun _ _ _ h => h) (Or.inl ⟨by rfl, ?_⟩) (by assumption) ?_
    rotate_left
    · (intro w hSw; (try dsimp only at hSw); go_simp; first | done | (with_reducible rfl))
    try simp only [List.getElem_toArray, List.getElem_cons_succ, List.getElem_cons_zero, Act.put, List.setIfInBounds_toArray, List.set_cons_zero, List.set_cons_succ]
    refine wpAnyH_take (i := 10) (v := ?_) rfl (by kernel_rfl) (by kernel_rfl) (by kernel_rfl) (fun _ _ _ h => h) (Or.inl ⟨by rfl, ?_⟩) (by assumption) ?_
    rotate_left
    · (intro w hSw; (try dsimp only at hSw); go_simp; first | done | (with_reducible rfl))
    try simp only [List.getElem_toArray, List.getElem_cons_succ, List.getElem_cons_zero, Act.put, List.setIfInBounds_toArray, List.set_cons_zero, List.set_cons_succ]
    refine wpAnyH_take (i := 11) (v := ?_) rfl (by kernel_rfl) (by kernel_rfl) (by kernel_rfl) (fun _ _ _ h => h) (Or.inl ⟨by rfl, ?_⟩) (by assumption) ?_
    rotate_left
    · (intro w hSw; (try dsimp only at hSw); go_simp; first | done | (with_reducible rfl))
    try simp only [List.getElem_toArray, List.getElem_cons_succ, List.getElem_cons_zero, Act.put, List.setIfInBounds_toArray, List.set_cons_zero, List.set_cons_succ]
    refine wpAnyH_take (i := 16) (v := ?_) rfl (by kernel_rfl) (by kernel_rfl) (by kernel_rfl) (fun _ _ _ h => h) (Or.inl ⟨by rfl, ?_⟩) (by assumption) ?_
    rotate_left
    · (intro w hSw; (try dsimp only at hSw); go_simp; first | done | (with_reducible rfl))
    try simp only [List.getElem_toArray, List.getElem_cons_succ, List.getElem_cons_zero, Act.put, List.setIfInBounds_toArray, List.set_cons_zero, List.set_cons_succ]
    refine wpAnyH_done (by kernel_rfl) ?_ _
    refine NoPanic.normal ?_
    have HH := Lib.hid hHeld
    clear hHeld
    have hfb := Fr.of_below (S := fun _ => False) HH.out
    have HF2 := Lib.hid (HF1.out.trans hfb (fun _ _ => id))
    have HS2 := Lib.hid (HS1.out.fr hfb)
    have HR2 := Lib.hid (HRS.out.fr hfb (fun _ _ => id))
    have HBS2 := Lib.hid (HBS.out.fr hfb id)
    clear hfb
    generalize hw2 : w2 = wz at *
    clear hw2
    have HBA := Lib.hid (HBS2.out.fr ((Fr.refl (fun _ => False) wz).alloc (.cells #[] 67)) id)
    have HRA := Lib.hid (HR2.out.fr ((Fr.refl (fun _ => False) wz).alloc (.cells #[] 67)) (fun _ _ => id))
    have k0 := HBA.out.cell 0
    simp at k0
    obtain ⟨i0, hi, hz0, hz1', hz2'⟩ := info_parts infoPG
    have hi' := Lib.hid hi
    have hz0' := Lib.hid hz0
    have hz1'' := Lib.hid hz1'
    have hz2'' := Lib.hid hz2'
    have HE := Lib.hid (World.ownsRow_lit (base := wz.heap.size) (e := 67) (size := 3) wz #[] 0 (Nat.le_refl _) (Nat.zero_le _) rfl)
    clear hi hz0 hz1' hz2'
    go_wp2_with ((with_reducible refine gate_builtin (b := .append) (xs := #[.tmp 46, .tmp 50]) rfl ?_); refine Classical.byContradiction fun hgoal => ?_)
    apply hgoal
    clear hgoal
    (try (refine gate_guard (by rfl) ?_; dsimp only))
    refine wpList_append_own_wide _ rfl (.tmp 46) (.tmp 50) 41 rfl wz.heap.size 67 i0 (.agg #[.int .u64 0, .int .i64 0, .slice none 0 0]) 3 40 Try.underlying41 hi'.out hz0'.out hz1''.out hz2''.out rfl (by decide) _ 0 [] rfl HE.out ⟨gp, 0, none⟩ n c (pcs P) rfl (by rw [pcs_length, HNN.out]) (HRA.out.cells (g := gp) rfl) (fun u hu => pcs_one P u hu) (by have := HN.out.1; have := HNN.out; first | omega | (simp; omega) | (unfold maxLen; omega)) (by have := HN.out.1; have := HNN.out; first | omega | (simp; omega) | (unfold maxLen; omega)) (by simp) ?_
    intro v1 w4 h1 g1 _
    have HBL := Lib.hid (Fr.below (Below.refl wz.heap.size wz) (((Fr.refl (fun _ => False) wz).alloc (.cells #[] 67)).grown g1 (fun b hb => .inr (by have h9 : some wz.heap.size = some b := hb; injection h9 with h9; omega))) (fun _ _ => id))
    have HO1 := Lib.hid (show OwnP w4 wz.heap.size v1 P from by unfold OwnP; rw [HNN.out]; simpa using h1)
    clear h1 g1
    obtain ⟨A1, c1, rfl, _, hA1⟩ := HO1.out.form
    obtain ⟨g1, rfl⟩ := hA1 (by rw [HNN.out]; exact HDQ.out (by simp))
    rw [HNN.out] at HO1 ⊢
    clear hA1 k0
    go_wp2_with fail
    go_loopg [12] n (fun kq v12 wr => Hid (AtPr wz P S E p (.slice (some ⟨g1, 0, none⟩) n c1) v12 kq wr))
    case atStart =>
      refine Lib.hid ⟨0, rfl, by omega, by rw [HNN.out]; omega, ?_, HBL.out⟩
      rw [List.take_zero, List.drop_zero]
      exact HO1.out
    case round =>
      obtain ⟨k, rfl, hk1, hk2, ho, hb⟩ := hrel.out
      have HO := Lib.hid ho
      have HBW := Lib.hid hb
      rw [HNN.out] at hk1 hk2
      have hn200 : n ≤ 200 := by rw [← HNN.out]; exact HN.out.1
      clear hrel ho hb
      by_cases hk : k < n
      · have u1 : decide ((k : Int) < (n : Int)) = true := decide_eq_true (by omega)
        have u1' : decide (k < n) = true := decide_eq_true hk
        have j0 : (0 : Int) ≤ (k : Int) := by omega
        have j1 : (k : Int) < (n : Int) := by omega
        have HKL := Lib.hid (show k < P.length from by rw [HNN.out]; exact hk)
        have hdk : P.drop k = pgAt P k :: P.drop (k + 1) := by rw [pgAt_eq P k HKL.out]; exact List.drop_eq_getElem_cons HKL.out
        have HTK := Lib.hid (show setP S E p (P.take (k + 1)) ++ P.drop (k + 1) = setP S E p (P.take k) ++ (if outB S E (pgAt P k) = true then pgAt P k else ⟨(pgAt P k).n, p, (pgAt P k).k⟩) :: P.drop (k + 1) from by
          rw [take_pg P k HKL.out]
          unfold setP
          rw [List.map_append, List.append_assoc]
          rfl)
        have hvx := HV.out _ (pgAt_mem P k HKL.out)
        rw [hdk] at HO
        obtain ⟨X, hX⟩ : ∃ X, setP S E p (P.take k) = X := ⟨_, rfl⟩
        have HXL := Lib.hid (show X.length = k from by rw [← hX, setP_len, List.length_take]; have := HKL.out; omega)
        obtain ⟨Y, hY⟩ : ∃ Y, P.drop (k + 1) = Y := ⟨_, rfl⟩
        have HYL := Lib.hid (show Y.length = n - (k + 1) from by rw [← hY, List.length_drop, HNN.out])
        obtain ⟨r, hr⟩ : ∃ r, pgAt P k = r := ⟨_, rfl⟩
        rw [hX, hY, hr] at HO
        rw [hX, hr] at HTK
        have HTY := Lib.hid hY
        rw [hr] at hvx
        have HLEN := Lib.hid (show n = (X ++ r :: Y).length from by rw [List.length_append, List.length_cons, HXL.out, HYL.out]; omega)
        obtain ⟨y0, y1, y2⟩ := HO.out.at_ k (by rw [← HLEN.out]; exact hk)
        have hat : pgAt (X ++ r :: Y) k = r := by
          unfold pgAt
          rw [List.getD_eq_getElem?_getD, List.getElem?_append_right (by rw [HXL.out]; exact Nat.le_refl _), HXL.out, Nat.sub_self]
          rfl
        rw [hat] at y0 y1 y2
        have f1 := HO.out.fz HLEN.out (k * 3 + 1)
        obtain ⟨x, q, kb⟩ := r
        obtain ⟨h0, h1⟩ := hvx
        simp only at h0 h1 y0 y1 y2
        obtain ⟨V, hV⟩ : ∃ V, x * 4096 = V := ⟨_, rfl⟩
        have hwv : IntKind.u64.wrap V = V := IntWalk.u64_in _ (by omega)
        have HVV := Lib.hid hV
        clear hX hY hr hdk hat
        by_cases hin : S ≤ V ∧ V < E
        · have c1' : decide (S ≤ V) = true := decide_eq_true hin.1
          have c2' : decide (V < E) = true := decide_eq_true hin.2
          have HT2 := Lib.hid (show setP S E p (P.take (k + 1)) ++ P.drop (k + 1) = X ++ ⟨x, p, kb⟩ :: Y from by
            rw [HTK.out, HTY.out, if_neg]
            unfold outB
            rw [show (⟨x, q, kb⟩ : Pg).n * 4096 = V from HVV.out]
            simp only [Bool.or_eq_true, decide_eq_true_eq]
            omega)
          have HOS := Lib.hid (HO.out.setp HLEN.out k HXL.out p)
          have HBS3 := Lib.hid (Fr.below HBW.out ((Fr.refl (fun k => k = g1) wr).setCell (p := ⟨g1, k * 3 + 1, none⟩) (.inl rfl) (.int .i64 p)) (fun i hi e => by have e1 := own_ge HO.out g1 rfl; omega))
          clear hin
          go_wp2_with fail
          go_roundg (n - (k + 1))
          case measure => omega
          case rel => exact Lib.hid ⟨k + 1, by go_num, by rw [HNN.out]; omega, by rw [HNN.out]; omega, by rw [HT2.out]; exact HOS.out, HBS3.out⟩
        · have HT2 := Lib.hid (show setP S E p (P.take (k + 1)) ++ P.drop (k + 1) = X ++ ⟨x, q, kb⟩ :: Y from by
            rw [HTK.out, HTY.out, if_pos]
            unfold outB
            rw [show (⟨x, q, kb⟩ : Pg).n * 4096 = V from HVV.out]
            simp only [Bool.or_eq_true, decide_eq_true_eq]
            omega)
          by_cases hsv : S ≤ V
          · have c1' : decide (S ≤ V) = true := decide_eq_true hsv
            have c2' : decide (V < E) = false := decide_eq_false (fun h => hin ⟨hsv, h⟩)
            clear hin hsv
            go_wp2_with fail
            go_roundg (n - (k + 1))
            case measure => omega
            case rel => exact Lib.hid ⟨k + 1, by go_num, by rw [HNN.out]; omega, by rw [HNN.out]; omega, by rw [HT2.out]; exact HO.out, HBW.out⟩
          · have c1' : decide (S ≤ V) = false := decide_eq_false hsv
            clear hin hsv
            go_wp2_with fail
            go_roundg (n - (k + 1))
            case measure => omega
            case rel => exact Lib.hid ⟨k + 1, by go_num, by rw [HNN.out]; omega, by rw [HNN.out]; omega, by rw [HT2.out]; exact HO.out, HBW.out⟩
      · obtain rfl : k = n := by omega
        have u1 : decide ((k : Int) < (k : Int)) = false := decide_eq_false (by omega)
        rw [show P.take k = P from List.take_of_length_le (by rw [HNN.out]; exact Nat.le_refl _), show P.drop k = [] from List.drop_eq_nil_of_le (by rw [HNN.out]; exact Nat.le_refl _), List.append_nil] at HO
        have HF3 := Lib.hid (HF2.out.trans (Fr.of_below (S := fun _ => False) HBW.out |>.mono (fun _ _ h => h)) (fun _ _ => id))
        obtain ⟨Z1, hZ1⟩ : ∃ Z1, setP S E p P = Z1 := ⟨_, rfl⟩
        have HZE := Lib.hid (show Small Z1 ∧ Z1.length ≤ 200 from by rw [← hZ1]; exact ⟨setP_small _ _ _ _ HV.out, by rw [setP_len]; exact HN.out.1⟩)
        have HZL := Lib.hid (show Z1.length = k from by rw [← hZ1, setP_len, HNN.out])
        rw [hZ1] at HO
        have HZW := Lib.hid hZ1
        have HOZ := Lib.hid (HO.out.low (B1 := w.heap.size) HF2.out.size)
        clear hZ1
        go_wp2_with fail
        refine (regions_any _ Z1 _ _ HOZ.out (by have := HZE.out.2; omega) HZE.out.1).mono ?_
        rintro x w12 ⟨v12, rfl, ho12, hb12⟩
        obtain ⟨A12, c12, rfl, _, _⟩ := ho12.form
        obtain ⟨nq, hnq⟩ : ∃ nq, (regsL Z1).length = nq := ⟨_, rfl⟩
        have hnq2 : nq ≤ 200 := by have h := regsL_len Z1; have := HZE.out.2; omega
        rw [hnq]
        have c5 : decide ((256 : Int) < (nq : Int)) = false := decide_eq_false (by omega)
        have HF12 := Lib.hid (HF3.out.trans (Fr.of_below (S := fun _ => False) hb12) (fun _ _ => id))
        have HOZ2 := Lib.hid (HOZ.out.fr (Fr.of_below (S := fun _ => False) hb12) (fun _ _ => id))
        obtain ⟨vq, hbq, hrq⟩ := (HS.out.fr HF12.out).row
        have q0 := hbq.cell 0
        have f0 := hbq.frozen 0
        simp at q0
        have HLTG := Lib.hid (show g < w.heap.size from by obtain ⟨v9, hb9, _⟩ := HS.out.row; exact hb9.lt)
        have HS2 := Lib.hid (show Blk (w12.setCell ⟨g, 0, none⟩ (.slice (some ⟨g1, 0, none⟩) k c1)) g 43 #[.slice (some ⟨g1, 0, none⟩) k c1, .int .i64 100, .int .u64 0, .int .u64 0] from by simpa using hbq.set 0 (.slice (some ⟨g1, 0, none⟩) k c1))
        have hfs : Fr (fun k => k = g) w12 (w12.setCell ⟨g, 0, none⟩ (.slice (some ⟨g1, 0, none⟩) k c1)) := (Fr.refl (fun k => k = g) w12).setCell (p := ⟨g, 0, none⟩) (.inl rfl) _
        have HOZ3 := Lib.hid (HOZ2.out.fr hfs (fun k e e2 => by have e1 := own_ge HOZ.out k e; have := HLTG.out; omega))
        have HFF := Lib.hid ((HF12.out.mono (T := fun k => k = g) (fun _ _ h => h.elim)).trans hfs (fun _ _ => id))
        clear ho12 hb12 hbq hrq hnq hfs
        go_wp2_with fail
        go_ret
        (try simp only [cond_true])
        rw [HZW.out]
        exact ⟨rfl, ⟨⟨_, HS2.out, OwnP.low HOZ3.out HB.out⟩, HS.out.gb⟩, HFF.out⟩
end Go.Proofs.Ytnaiccgbjcppaaa.Rg
