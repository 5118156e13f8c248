/- What the document's Read has read so far; Read, walked. -/
import Derived.Test.YtnoeehdccknhnaaStV
import Derived.Test.YtnoeehdccknhnaaStN
import Derived.Test.YtnoeehdccknhnaaByRGet
import Derived.Test.YtnoeehdccknhnaaStI
namespace Go.Proofs.Ytnoeehdccknhnaa.St
open Go Go.RowKit Go.Proofs.YtnoeehdccknhnaaW.PrintWords Go.Proofs.YtnoeehdccknhnaaW.PrintLast Go.Proofs.YtnoeehdccknhnaaW.PrintMore
open Go.Proofs.Ytnoeehdccknhnaa.Hp
attribute [local go_sem] max2_int min2_int max_two min_two max_three min_three max_four min_four
set_option linter.unusedVariables false
set_option linter.unusedSimpArgs false
theorem own_ne {w : World} {B B' n n' size size' : Nat} {e e' : TypeId} {v v' : Value} {xs xs' : List Value} (h : w.ownsRow B e size v n xs) (h' : w.ownsRow B' e' size' v' n' xs') (he : e ≠ e') : ∀ k, v.ownBlock = some k → ¬ (v'.ownBlock = some k) := fun k h1 h2 => by
  obtain ⟨cs, hc⟩ := own_typed h k h1
  obtain ⟨cs', hc'⟩ := own_typed h' k h2
  have hb : w.heap[k]? = _ := hc
  have hb' : w.heap[k]? = _ := hc'
  rw [hb] at hb'
  injection hb' with hb'
  injection hb' with _ e2
  exact he e2
theorem own_ne_blk {w : World} {B n size g : Nat} {e t : TypeId} {v : Value} {xs : List Value} {cs : Array Value} (h : w.ownsRow B e size v n xs) (hb : Blk w g t cs) (he : e ≠ t) : ∀ k, v.ownBlock = some k → ¬ (k = g) := fun k h1 h2 => by
  obtain ⟨cs', hc⟩ := own_typed h k h1
  subst h2
  have hb1 : w.heap[k]? = _ := hc
  have hb2 : w.heap[k]? = _ := hb
  rw [hb1] at hb2
  injection hb2 with hb2
  injection hb2 with _ e2
  exact he e2
theorem own_fr {w w1 : World} {B n size : Nat} {e : TypeId} {v : Value} {xs : List Value} {S : Nat → Prop} (h : w.ownsRow B e size v n xs) (hf : Fr S w w1) (hn : ∀ k, v.ownBlock = some k → ¬ S k) : w1.ownsRow B e size v n xs := own_move h (fun k hk => hf.block k (own_lt h k hk) (hn k hk))
/-- What was read so far: the struct, its rows, the place of the result. -/
structure RT (w0 w : World) (r g : Nat) (x y v rv : Value) (lx ly : List ByteArray) (n : Nat) (L : List Int) : Prop where
  blk : Blk w g 40 #[x, y, v, rv]
  res : Blk w r 40 #[.slice none 0 0, .slice none 0 0, .slice none 0 0, .slice none 0 0]
  rg : r ≠ g
  two : TwoR w0 w x y lx ly
  pr : PRw w0 w v n L
  gb : w0.heap.size ≤ g
theorem TwoR.move {w0 w w1 : World} {x y : Value} {lx ly : List ByteArray} (h : TwoR w0 w x y lx ly) {S : Nat → Prop} (hf : Fr S w w1) (hb : Below w0.heap.size w0 w1) (hx : ∀ k, x.ownBlock = some k → ¬ S k) (hy : ∀ k, y.ownBlock = some k → ¬ S k) : TwoR w0 w1 x y lx ly := ⟨hb, rowS_move h.rx hf hx, rowS_move h.ry hf hy, h.ne⟩
theorem RT.fr {w0 w w1 : World} {r g n : Nat} {x y v rv : Value} {lx ly : List ByteArray} {L : List Int} (h : RT w0 w r g x y v rv lx ly n L) (hf : Fr (fun _ => False) w w1) : RT w0 w1 r g x y v rv lx ly n L := by
  have hb := Fr.below h.two.bel hf (fun _ _ => id)
  exact ⟨h.blk.fr hf id, h.res.fr hf id, h.rg, h.two.move hf hb (fun _ _ => id) (fun _ _ => id), ⟨own_fr h.pr.own hf (fun _ _ => id), hb⟩, h.gb⟩
/-- A store into the struct. -/
theorem RT.put {w0 w : World} {r g n : Nat} {x y v rv x1 y1 v1 rv1 : Value} {lx ly : List ByteArray} {L : List Int} (hblk : Blk w g 40 #[x, y, v, rv]) (hres : Blk w r 40 #[.slice none 0 0, .slice none 0 0, .slice none 0 0, .slice none 0 0]) (hrg : r ≠ g) (hgb : w0.heap.size ≤ g) (htwo : TwoR w0 w x1 y1 lx ly) (hpr : PRw w0 w v1 n L) (i : Nat) (u : Value) (hi : #[x, y, v, rv].setIfInBounds i u = #[x1, y1, v1, rv1]) : RT w0 (w.setCell ⟨g, i, none⟩ u) r g x1 y1 v1 rv1 lx ly n L := by
  have hf : Fr (fun k => k = g) w (w.setCell ⟨g, i, none⟩ u) := (Fr.refl (fun k => k = g) w).setCell (p := ⟨g, i, none⟩) (.inl rfl) u
  have hb : Below w0.heap.size w0 (w.setCell ⟨g, i, none⟩ u) := Fr.below htwo.bel hf (fun k hk e => by omega)
  refine ⟨hi ▸ hblk.set i u, hres.fr hf (fun e => hrg e), hrg, htwo.move hf hb (own_ne_blk (Kd.own_of_R htwo.rx) hblk (by decide)) (own_ne_blk (Kd.own_of_R htwo.ry) hblk (by decide)), ⟨own_fr hpr.own hf (own_ne_blk hpr.own hblk (by decide)), hb⟩, hgb⟩
theorem RT.args {w0 w w1 : World} {r g n : Nat} {x y v rv x1 : Value} {lx ly lx1 : List ByteArray} {L : List Int} (h : RT w0 w r g x y v rv lx ly n L) (hr : Kd.string.R 9 w1 w0.heap.size (fun _ => True) x1 lx1) (hb : Below w0.heap.size w0 w1) (hat : x1.ownBlock = x.ownBlock ∨ ∃ b, x1.ownBlock = some b ∧ w.heap.size ≤ b) (hf : Fr (fun b => x.ownBlock = some b) w w1) :
    Blk w1 g 40 #[x, y, v, rv] ∧ RT w0 (w1.setCell ⟨g, 0, none⟩ x1) r g x1 y v rv lx1 ly n L := by
  have hx := Kd.own_of_R h.two.rx
  have b1 := h.blk.fr hf (fun e => own_ne_blk hx h.blk (by decide) g e rfl)
  have b2 := h.res.fr hf (fun e => own_ne_blk hx h.res (by decide) r e rfl)
  exact ⟨b1, RT.put b1 b2 h.rg h.gb (h.two.appX hr hf hb hat) ⟨own_fr h.pr.own hf (own_ne h.pr.own hx (by decide)), hb⟩ 0 x1 rfl⟩
theorem RT.env {w0 w w1 : World} {r g n : Nat} {x y v rv y1 : Value} {lx ly ly1 : List ByteArray} {L : List Int} (h : RT w0 w r g x y v rv lx ly n L) (hr : Kd.string.R 9 w1 w0.heap.size (fun _ => True) y1 ly1) (hb : Below w0.heap.size w0 w1) (hat : y1.ownBlock = y.ownBlock ∨ ∃ b, y1.ownBlock = some b ∧ w.heap.size ≤ b) (hf : Fr (fun b => y.ownBlock = some b) w w1) :
    Blk w1 g 40 #[x, y, v, rv] ∧ RT w0 (w1.setCell ⟨g, 1, none⟩ y1) r g x y1 v rv lx ly1 n L := by
  have hy := Kd.own_of_R h.two.ry
  have b1 := h.blk.fr hf (fun e => own_ne_blk hy h.blk (by decide) g e rfl)
  have b2 := h.res.fr hf (fun e => own_ne_blk hy h.res (by decide) r e rfl)
  exact ⟨b1, RT.put b1 b2 h.rg h.gb (h.two.appY hr hf hb hat) ⟨own_fr h.pr.own hf (own_ne h.pr.own hy (by decide)), hb⟩ 1 y1 rfl⟩
theorem RT.aux {w0 w w1 : World} {r g n n1 : Nat} {x y v rv v1 : Value} {lx ly : List ByteArray} {L L1 : List Int} (h : RT w0 w r g x y v rv lx ly n L) (hp : PRw w0 w1 v1 n1 L1) (hf : Fr (fun b => v.ownBlock = some b) w w1) :
    Blk w1 g 40 #[x, y, v, rv] ∧ RT w0 (w1.setCell ⟨g, 2, none⟩ v1) r g x y v1 rv lx ly n1 L1 := by
  have hv := h.pr.own
  have b1 := h.blk.fr hf (fun e => own_ne_blk hv h.blk (by decide) g e rfl)
  have b2 := h.res.fr hf (fun e => own_ne_blk hv h.res (by decide) r e rfl)
  exact ⟨b1, RT.put b1 b2 h.rg h.gb (h.two.move hf hp.bel (own_ne (Kd.own_of_R h.two.rx) hv (by decide)) (own_ne (Kd.own_of_R h.two.ry) hv (by decide))) hp 2 v1 rfl⟩
theorem RT.rnd {w0 w : World} {r g n : Nat} {x y v rv : Value} {lx ly : List ByteArray} {L : List Int} (h : RT w0 w r g x y v rv lx ly n L) (u : Value) : RT w0 (w.setCell ⟨g, 3, none⟩ u) r g x y v u lx ly n L := RT.put h.blk h.res h.rg h.gb h.two h.pr 3 u rfl
theorem RT.copy {w0 w : World} {r g n : Nat} {x y v rv : Value} {lx ly : List ByteArray} {L : List Int} (h : RT w0 w r g x y v rv lx ly n L) (hr : w0.heap.size ≤ r) :
    Blk ((((w.setCell ⟨r, 0, none⟩ x).setCell ⟨r, 1, none⟩ y).setCell ⟨r, 2, none⟩ v).setCell ⟨r, 3, none⟩ rv).drew r 40 #[x, y, v, rv] ∧ TwoR w0 ((((w.setCell ⟨r, 0, none⟩ x).setCell ⟨r, 1, none⟩ y).setCell ⟨r, 2, none⟩ v).setCell ⟨r, 3, none⟩ rv).drew x y lx ly ∧ PRw w0 ((((w.setCell ⟨r, 0, none⟩ x).setCell ⟨r, 1, none⟩ y).setCell ⟨r, 2, none⟩ v).setCell ⟨r, 3, none⟩ rv).drew v n L := by
  have hb := ((((h.res.set 0 x).set 1 y).set 2 v).set 3 rv).drew
  have hf : Fr (fun k => k = r) w ((((w.setCell ⟨r, 0, none⟩ x).setCell ⟨r, 1, none⟩ y).setCell ⟨r, 2, none⟩ v).setCell ⟨r, 3, none⟩ rv).drew := (((((Fr.refl (fun k => k = r) w).setCell (p := ⟨r, 0, none⟩) (.inl rfl) x).setCell (p := ⟨r, 1, none⟩) (.inl rfl) y).setCell (p := ⟨r, 2, none⟩) (.inl rfl) v).setCell (p := ⟨r, 3, none⟩) (.inl rfl) rv).drew
  have hbel := Fr.below h.two.bel hf (fun k hk e => by omega)
  refine ⟨hb, h.two.move hf hbel (own_ne_blk (Kd.own_of_R h.two.rx) h.res (by decide)) (own_ne_blk (Kd.own_of_R h.two.ry) h.res (by decide)), ⟨own_fr h.pr.own hf (own_ne_blk h.pr.own h.res (by decide)), hbel⟩⟩
/-- The rest of the bytes, from a place on. -/
theorem cut_from (g n c a : Nat) (O : List Int) (hO : O.length = n) (h1 : a < n) (h2 : n ≤ c) : (∀ W : World, (Instr.slice 29 (.slice (some ⟨g, 0, none⟩) n c) (some (.int .i64 (a : Int))) none none).run Try.prog W = .ok (.slice (some ⟨g, a, none⟩) (O.drop a).length (c - a)) W) ∧ (∀ w : World, ReadsInt w .u8 (some ⟨g, 0, none⟩) n O → Kd.C (Kd.int .u8) w (some ⟨g, a, none⟩) (O.drop a).length (O.drop a)) := by
  obtain ⟨i0, hi, _, hsz, _⟩ := info_parts info8
  have hl : (O.drop a).length = n - a := by rw [List.length_drop, hO]
  refine ⟨fun W => ?_, fun w h => ?_⟩
  · have hel : Try.prog.elem 29 = 5 := by simp [Program.elem, Try.underlying29]
    have hu : Try.prog.underlying 29 = some (.slice (Try.prog.elem 29)) := by rw [hel]; exact Try.underlying29
    rw [run_slice_l W 29 (some ⟨g, 0, none⟩) n c hu .i64 (a : Int) (by omega) (by omega), hel, hl]
    have hcp : ¬ (c = a) := by omega
    simp [sizeOf, typeInfo, hi, hsz, sliced, Result.andThen, hcp, Addr.add]
    by_cases h0 : a = 0
    · simp [h0]
    · simp [h0]
  · refine Kd.C_of_reads (d := (0 : Int)) (h1 := fun _ => rfl) ⟨rfl, by rw [hl]; have := h.2.1; omega, fun _ => ⟨_, rfl, fun j hj => ?_⟩⟩
    rw [hl] at hj
    have e := reads_head h (a + j) (by omega)
    have ea : (⟨g, a, none⟩ : Addr).add j = ⟨g, a + j, none⟩ := by unfold Addr.add; split <;> simp_all
    rw [ea, e]
    simp [List.getD_eq_getElem?_getD]
theorem aux_keys (entry phdr phnum phsize at_ : Int) (k : Nat) (hk : k < auxN phdr) : (k + 2 = auxN phdr → (auxL entry phdr phnum phsize at_).getD (2 * k) 0 = 25 ∧ (auxL entry phdr phnum phsize at_).getD (2 * k + 1) 0 = at_) ∧ (k + 1 = auxN phdr → (auxL entry phdr phnum phsize at_).getD (2 * k) 0 = 0) ∧ (k + 2 ≠ auxN phdr → (auxL entry phdr phnum phsize at_).getD (2 * k) 0 ≠ 25) ∧ (k + 1 ≠ auxN phdr → (auxL entry phdr phnum phsize at_).getD (2 * k) 0 ≠ 0) := by
  unfold auxN at hk ⊢
  unfold auxL
  split at hk
  · rename_i h
    rw [if_pos h, if_pos h]
    have : k = 0 ∨ k = 1 ∨ k = 2 ∨ k = 3 ∨ k = 4 ∨ k = 5 ∨ k = 6 ∨ k = 7 ∨ k = 8 ∨ k = 9 ∨ k = 10 := by omega
    rcases this with rfl | rfl | rfl | rfl | rfl | rfl | rfl | rfl | rfl | rfl | rfl <;> simp
  · rename_i h
    rw [if_neg h, if_neg h]
    have : k = 0 ∨ k = 1 ∨ k = 2 ∨ k = 3 ∨ k = 4 ∨ k = 5 ∨ k = 6 ∨ k = 7 ∨ k = 8 ∨ k = 9 ∨ k = 10 ∨ k = 11 := by omega
    rcases this with rfl | rfl | rfl | rfl | rfl | rfl | rfl | rfl | rfl | rfl | rfl | rfl <;> simp
theorem good_at {l : List ByteArray} (h : badL l = false) (i : Nat) (hi : i < l.length) : bad (rdS l i) = false := by
  cases hb : bad (rdS l i)
  · rfl
  · have e := any_get ByteArray.empty i hi hb
    rw [show l.any bad = false from h] at e
    cases e
def RdS (w0 : World) (r g n1 n2 na : Nat) (l1 l2 : List ByteArray) (AL : List Int) (RV : Value) (v7 v9 v10 v11 : Value) (kq : Nat) (wr : World) : Prop := v9 = .bool false ∧
  ((n1 + n2 + na + 4 ≤ kq ∧ v7 = .int .i64 ((8 * 0 : Nat) : Int) ∧ v10 = .int .i64 0 ∧ v11 = .int .i64 (-1) ∧ RT w0 wr r g (.slice none 0 0) (.slice none 0 0) (.slice none 0 0) (.slice none 0 0) [] [] 0 []) ∨
   (∃ (k : Nat) (x : Value), k ≤ n1 ∧ n1 - k + n2 + na + 3 ≤ kq ∧ v7 = .int .i64 ((8 * (1 + k) : Nat) : Int) ∧ v10 = .int .i64 0 ∧ v11 = .int .i64 n1 ∧ RT w0 wr r g x (.slice none 0 0) (.slice none 0 0) (.slice none 0 0) (l1.take k) [] 0 []) ∨
   (∃ (k : Nat) (x y : Value), k ≤ n2 ∧ n2 - k + na + 2 ≤ kq ∧ v7 = .int .i64 ((8 * (n1 + 2 + k) : Nat) : Int) ∧ v10 = .int .i64 1 ∧ v11 = .int .i64 n1 ∧ RT w0 wr r g x y (.slice none 0 0) (.slice none 0 0) l1 (l2.take k) 0 []) ∨
   (∃ (k : Nat) (x y v rv : Value), k < na ∧ na - k + 1 ≤ kq ∧ v7 = .int .i64 ((8 * (n1 + n2 + 3 + 2 * k) : Nat) : Int) ∧ v10 = .int .i64 2 ∧ v11 = .int .i64 n1 ∧ RT w0 wr r g x y v rv l1 l2 k (AL.take (2 * k)) ∧ (k + 1 = na → rv = RV)))
set_option maxHeartbeats 8000000 in
set_option maxRecDepth 100000 in
theorem read_ok (g0 c0 : Nat) (O W : List Int) (l1 l2 : List ByteArray) (AL rs : List Int) (sp at_ : Int) (room nw na : Nat) (w : World) (hr : ReadsInt w .u8 (some ⟨g0, 0, none⟩) room O) (hc : room ≤ c0) (ho : OutOk O W l1 l2 AL rs sp at_ room nw na)
    (hkey : ∀ k, k < na → (k + 2 = na → AL.getD (2 * k) 0 = 25 ∧ AL.getD (2 * k + 1) 0 = at_) ∧ (k + 1 = na → AL.getD (2 * k) 0 = 0) ∧ (k + 2 ≠ na → AL.getD (2 * k) 0 ≠ 25) ∧ (k + 1 ≠ na → AL.getD (2 * k) 0 ≠ 0)) (hna : 2 ≤ na ∧ na ≤ 12) (hb1 : badL l1 = false) (hb2 : badL l2 = false) (p0 : Nat) (hp0 : at_ = sp + (p0 : Int) ∧ p0 + 16 ≤ room) :
    Calls Try.prog 12 #[.slice (some ⟨g0, 0, none⟩) room c0, .int .u64 sp] w fun e w' => ∃ x y v, e = .returned (.tuple #[.agg #[x, y, v, .slice (some ⟨g0, p0, none⟩) 16 (c0 - p0)], .bool true]) ∧ Fr (fun _ => False) w w' ∧ TwoR w w' x y l1 l2 ∧ PRw w w' v na AL := by
  have HRD := Lib.hid hr
  have HO := Lib.hid ho
  have HKEY := Lib.hid hkey
  have HB1 := Lib.hid hb1
  have HB2 := Lib.hid hb2
  have hroom : room ≤ 1000000 := by have := ho.rb; omega
  have hnwr := ho.nwr
  have hnwv := ho.nwv
  have hfit := ho.fit
  have hsp0 : 0 ≤ sp := by have := ho.spb; omega
  have hsp1 : sp ≤ 4611686018427387904 := by have := ho.spb; omega
  have hsp2 : 1 ≤ sp := by have := ho.spb; omega
  obtain ⟨n1, hn1⟩ : ∃ n, l1.length = n := ⟨_, rfl⟩
  obtain ⟨n2, hn2⟩ : ∃ n, l2.length = n := ⟨_, rfl⟩
  have HN1 := Lib.hid hn1
  have HN2 := Lib.hid hn2
  rw [hn1, hn2] at hnwv hfit
  have HP0 := Lib.hid hp0
  have hz1 := Blk.new w 40 #[.slice none 0 0, .slice none 0 0, .slice none 0 0, .slice none 0 0]
  have hz2 := Blk.new (w.alloc (.cells #[.slice none 0 0, .slice none 0 0, .slice none 0 0, .slice none 0 0] 40)) 40 #[.slice none 0 0, .slice none 0 0, .slice none 0 0, .slice none 0 0]
  rw [show (w.alloc (.cells #[.slice none 0 0, .slice none 0 0, .slice none 0 0, .slice none 0 0] 40)).heap.size = w.heap.size + 1 by simp] at hz2
  have HRT0 := Lib.hid (show RT w ((w.alloc (.cells #[.slice none 0 0, .slice none 0 0, .slice none 0 0, .slice none 0 0] 40)).alloc (.cells #[.slice none 0 0, .slice none 0 0, .slice none 0 0, .slice none 0 0] 40)) w.heap.size (w.heap.size + 1) (.slice none 0 0) (.slice none 0 0) (.slice none 0 0) (.slice none 0 0) [] [] 0 [] from
    ⟨hz2, hz1.alloc _, by omega, ⟨Fr.below (Below.refl _ _) (((Fr.refl (fun _ => False) w).alloc _).alloc _) (fun _ _ => id), rowS_nil _ _ _, rowS_nil _ _ _, fun k e => by simp [Value.ownBlock] at e⟩, PRw.start (Fr.below (Below.refl _ _) (((Fr.refl (fun _ => False) w).alloc _).alloc _) (fun _ _ => id)), by omega⟩)
  clear hr ho hkey hb1 hb2 hn1 hn2 hp0 hz1 hz2
  go_enter Try.func12, Try.ntmps12
  go_wp2_with fail
  go_loopg [7, 9, 10, 11] (n1 + n2 + na + 4) (fun kq v7 v9 v10 v11 wr => Hid (RdS w w.heap.size (w.heap.size + 1) n1 n2 na l1 l2 AL (.slice (some ⟨g0, p0, none⟩) 16 (c0 - p0)) v7 v9 v10 v11 kq wr))
  case atStart => exact Lib.hid ⟨rfl, .inl ⟨Nat.le_refl _, rfl, rfl, rfl, HRT0.out⟩⟩
  case round =>
    obtain ⟨rfl, hph⟩ := hrel.out
    clear hrel HRT0
    rcases hph with ⟨hkq, rfl, rfl, rfl, hrt⟩ | ⟨k, x, hk1, hkq, rfl, rfl, rfl, hrt⟩ | ⟨k, x, y, hk1, hkq, rfl, rfl, rfl, hrt⟩ | ⟨k, x, y, v, rv, hk1, hkq, rfl, rfl, rfl, hrt, hrv⟩
    · have HRT := Lib.hid hrt
      clear hrt
      obtain ⟨a8, ha8⟩ : ∃ a, 8 * (0) = a := ⟨_, rfl⟩
      obtain ⟨b8, hb8⟩ : ∃ b, a8 + 8 = b := ⟨_, rfl⟩
      have HA8 := Lib.hid ha8
      have HB8 := Lib.hid hb8
      have hiN : 0 < nw := by omega
      have haN : b8 ≤ room := by omega
      obtain ⟨q1, q2⟩ := cut_from g0 room c0 a8 O HO.out.len (by omega) hc
      obtain ⟨OD, hOD⟩ : ∃ l, O.drop a8 = l := ⟨_, rfl⟩
      rw [hOD] at q1 q2
      have HQ2 := Lib.hid q2
      have HWI := Lib.hid (show By.le (OD.take 8) = (n1 : Int) from by rw [← hOD, ← ha8, HO.out.wd _ hiN]; exact (HO.out.w0.trans (by rw [HN1.out])))
      have HBY := Lib.hid (show By.bytes OD from fun z hz => HO.out.byt z (List.mem_of_mem_drop (hOD ▸ hz)))
      have e1 : IntKind.i64.wrap ((a8 : Int) + 8) = (b8 : Int) := by rw [show (a8 : Int) + 8 = (b8 : Int) by omega]; exact IntWalk.i64_in _ (by omega)
      have d1 : decide ((room : Int) < (b8 : Int)) = false := decide_eq_false (by omega)
      have d1' : decide (room < b8) = false := decide_eq_false (by omega)
      rw [ha8]
      clear ha8 hb8 q2 hOD
      go_wp2_with fail
      refine (By.rget_in (some ⟨g0, a8, none⟩) (c0 - a8) OD 8 _ (HQ2.out _ (reads_fr (S := fun _ => False) HRD.out (Fr.of_below HRT.out.two.bel) (fun _ _ _ => id))) HBY.out (by decide) (by decide)).mono ?_
      rintro e wg ⟨rfl, hdg⟩
      rw [HWI.out]
      have HRTg := Lib.hid (HRT.out.fr (Fr.drawn hdg))
      clear hdg HRT q1 d1 d1'
      have HRT := HRTg
      clear HRTg
      have m1 : (n1 : Int).tmod 65536 = (n1 : Int) := Int.tmod_eq_of_lt (by omega) (by omega)
      have m2 : IntKind.u64.wrap (n1 : Int) = (n1 : Int) := IntWalk.u64_in _ (by omega)
      have m3 : IntKind.i64.wrap (n1 : Int) = (n1 : Int) := IntWalk.i64_in _ (by omega)
      go_wp2_with fail
      go_roundg (n1 + n2 + na + 3)
      case measure => omega
      case rel => exact Lib.hid ⟨rfl, .inr (.inl ⟨0, _, by omega, by omega, by have e1 := HA8.out; have e2 := HB8.out; rw [show 8 * (1 + 0) = b8 by omega], rfl, rfl, HRT.out⟩)⟩
    · have HRT := Lib.hid hrt
      clear hrt
      have c1 : decide ((n1 : Int) < 0) = false := decide_eq_false (by omega)
      by_cases hk : k < n1
      · obtain ⟨p, hpw, hta⟩ := HO.out.wa k (by rw [HN1.out]; exact hk)
        have HSG := Lib.hid (good_at HB1.out k (by rw [HN1.out]; exact hk))
        have HTK := Lib.hid (show l1.take (k + 1) = l1.take k ++ [rdS l1 k] from take_snoc ByteArray.empty l1 k (by rw [HN1.out]; exact hk))
        obtain ⟨s, hs⟩ : ∃ s, rdS l1 k = s := ⟨_, rfl⟩
        rw [hs] at hta HSG HTK
        have HTA := Lib.hid hta
        have HPW := Lib.hid hpw
        clear hs hta hpw
        obtain ⟨a8, ha8⟩ : ∃ a, 8 * (1 + k) = a := ⟨_, rfl⟩
        obtain ⟨b8, hb8⟩ : ∃ b, a8 + 8 = b := ⟨_, rfl⟩
        have HA8 := Lib.hid ha8
        have HB8 := Lib.hid hb8
        have hiN : 1 + k < nw := by omega
        have haN : b8 ≤ room := by omega
        obtain ⟨q1, q2⟩ := cut_from g0 room c0 a8 O HO.out.len (by omega) hc
        obtain ⟨OD, hOD⟩ : ∃ l, O.drop a8 = l := ⟨_, rfl⟩
        rw [hOD] at q1 q2
        have HQ2 := Lib.hid q2
        have HWI := Lib.hid (show By.le (OD.take 8) = sp + (p : Int) from by rw [← hOD, ← ha8, HO.out.wd _ hiN]; exact HPW.out)
        have HBY := Lib.hid (show By.bytes OD from fun z hz => HO.out.byt z (List.mem_of_mem_drop (hOD ▸ hz)))
        have e1 : IntKind.i64.wrap ((a8 : Int) + 8) = (b8 : Int) := by rw [show (a8 : Int) + 8 = (b8 : Int) by omega]; exact IntWalk.i64_in _ (by omega)
        have d1 : decide ((room : Int) < (b8 : Int)) = false := decide_eq_false (by omega)
        have d1' : decide (room < b8) = false := decide_eq_false (by omega)
        rw [ha8]
        clear ha8 hb8 q2 hOD
        go_wp2_with fail
        refine (By.rget_in (some ⟨g0, a8, none⟩) (c0 - a8) OD 8 _ (HQ2.out _ (reads_fr (S := fun _ => False) HRD.out (Fr.of_below HRT.out.two.bel) (fun _ _ _ => id))) HBY.out (by decide) (by decide)).mono ?_
        rintro e wg ⟨rfl, hdg⟩
        rw [HWI.out]
        have HRTg := Lib.hid (HRT.out.fr (Fr.drawn hdg))
        clear hdg HRT q1 d1 d1'
        have HRT := HRTg
        clear HRTg
        have z1 : ((sp + (p : Int)) == 0) = false := beq_eq_false_iff_ne.2 (by omega)
        go_wp2_with fail
        refine (text_any g0 room c0 O s p sp _ (reads_fr (S := fun _ => False) HRD.out (Fr.of_below HRT.out.two.bel) (fun _ _ _ => id)) hroom hc HSG.out HTA.out hsp0 hsp1).mono ?_
        rintro e wt ⟨rfl, rfl⟩
        have p0 := HRT.out.blk.cell 0
        simp at p0
        have HRl := Lib.hid (HRT.out.fr ((Fr.refl (fun _ => False) _).alloc (.cells #[.string s] 9)))
        go_wp2_with ((with_reducible refine gate_builtin (b := .append) (xs := #[.tmp 52, .tmp 54]) rfl ?_); refine Classical.byContradiction fun hgoal => ?_)
        apply hgoal
        clear hgoal
        (try (refine gate_guard (by rfl) ?_; dsimp only))
        refine rowS_app (w0 := w) w.heap.size rfl (.tmp 52) (.tmp 54) 22 9 rfl Try.underlying22 infoST _ (l1.take k) [s] (some ⟨wt.heap.size, 0, none⟩) 1 1 rfl rfl HRl.out.two.rx (str_new wt 9 [s] (by show 1 ≤ _; decide)) HRl.out.two.bel HRl.out.two.bel.size (by rw [List.length_take]; omega) ?_
        intro x1 w1 ho1 hb1 hat1 hf1
        obtain ⟨Ax, cx, rfl, hcx, _⟩ := Kd.R_reads ho1
        obtain ⟨nx, hnx⟩ : ∃ n, (l1.take k ++ [s]).length = n := ⟨_, rfl⟩
        rw [hnx] at ho1 hat1 ⊢
        have HA := Lib.hid (RT.args HRl.out ho1 hb1 hat1 hf1)
        have k0' := HA.out.1.cell 0
        have f0' := HA.out.1.frozen 0
        simp at k0'
        clear ho1 hb1 hat1 hf1 p0 hnx hcx
        go_wp2_with fail
        go_roundg (n1 - (k + 1) + n2 + na + 3)
        case measure => omega
        case rel => exact Lib.hid ⟨rfl, .inr (.inl ⟨k + 1, _, by omega, by omega, by have e1 := HA8.out; have e2 := HB8.out; rw [show 8 * (1 + (k + 1)) = b8 by omega], rfl, rfl, by rw [HTK.out]; exact HA.out.2⟩)⟩
      · obtain rfl : k = n1 := by omega
        have hwz := HO.out.wz1
        rw [HN1.out, Nat.add_comm] at hwz
        obtain ⟨a8, ha8⟩ : ∃ a, 8 * (1 + k) = a := ⟨_, rfl⟩
        obtain ⟨b8, hb8⟩ : ∃ b, a8 + 8 = b := ⟨_, rfl⟩
        have HA8 := Lib.hid ha8
        have HB8 := Lib.hid hb8
        have hiN : 1 + k < nw := by omega
        have haN : b8 ≤ room := by omega
        obtain ⟨q1, q2⟩ := cut_from g0 room c0 a8 O HO.out.len (by omega) hc
        obtain ⟨OD, hOD⟩ : ∃ l, O.drop a8 = l := ⟨_, rfl⟩
        rw [hOD] at q1 q2
        have HQ2 := Lib.hid q2
        have HWI := Lib.hid (show By.le (OD.take 8) = 0 from by rw [← hOD, ← ha8, HO.out.wd _ hiN]; exact hwz)
        have HBY := Lib.hid (show By.bytes OD from fun z hz => HO.out.byt z (List.mem_of_mem_drop (hOD ▸ hz)))
        have e1 : IntKind.i64.wrap ((a8 : Int) + 8) = (b8 : Int) := by rw [show (a8 : Int) + 8 = (b8 : Int) by omega]; exact IntWalk.i64_in _ (by omega)
        have d1 : decide ((room : Int) < (b8 : Int)) = false := decide_eq_false (by omega)
        have d1' : decide (room < b8) = false := decide_eq_false (by omega)
        rw [ha8]
        clear ha8 hb8 q2 hOD
        go_wp2_with fail
        refine (By.rget_in (some ⟨g0, a8, none⟩) (c0 - a8) OD 8 _ (HQ2.out _ (reads_fr (S := fun _ => False) HRD.out (Fr.of_below HRT.out.two.bel) (fun _ _ _ => id))) HBY.out (by decide) (by decide)).mono ?_
        rintro e wg ⟨rfl, hdg⟩
        rw [HWI.out]
        have HRTg := Lib.hid (HRT.out.fr (Fr.drawn hdg))
        clear hdg HRT q1 d1 d1'
        have HRT := HRTg
        clear HRTg
        have z1 : ((0 : Int) == 0) = true := rfl
        rw [show l1.take k = l1 from List.take_of_length_le (by rw [HN1.out]; exact Nat.le_refl _)] at HRT
        go_wp2_with fail
        go_roundg (n2 + na + 2)
        case measure => omega
        case rel => exact Lib.hid ⟨rfl, .inr (.inr (.inl ⟨0, _, _, by omega, by omega, by have e1 := HA8.out; have e2 := HB8.out; rw [show 8 * (k + 2 + 0) = b8 by omega], by go_num, rfl, HRT.out⟩))⟩
    · have HRT := Lib.hid hrt
      clear hrt
      have c1 : decide ((n1 : Int) < 0) = false := decide_eq_false (by omega)
      by_cases hk : k < n2
      · obtain ⟨p, hpw, hta⟩ := HO.out.we k (by rw [HN2.out]; exact hk)
        rw [HN1.out] at hpw
        have HSG := Lib.hid (good_at HB2.out k (by rw [HN2.out]; exact hk))
        have HTK := Lib.hid (show l2.take (k + 1) = l2.take k ++ [rdS l2 k] from take_snoc ByteArray.empty l2 k (by rw [HN2.out]; exact hk))
        obtain ⟨s, hs⟩ : ∃ s, rdS l2 k = s := ⟨_, rfl⟩
        rw [hs] at hta HSG HTK
        have HTA := Lib.hid hta
        have HPW := Lib.hid hpw
        clear hs hta hpw
        obtain ⟨a8, ha8⟩ : ∃ a, 8 * (n1 + 2 + k) = a := ⟨_, rfl⟩
        obtain ⟨b8, hb8⟩ : ∃ b, a8 + 8 = b := ⟨_, rfl⟩
        have HA8 := Lib.hid ha8
        have HB8 := Lib.hid hb8
        have hiN : n1 + 2 + k < nw := by omega
        have haN : b8 ≤ room := by omega
        obtain ⟨q1, q2⟩ := cut_from g0 room c0 a8 O HO.out.len (by omega) hc
        obtain ⟨OD, hOD⟩ : ∃ l, O.drop a8 = l := ⟨_, rfl⟩
        rw [hOD] at q1 q2
        have HQ2 := Lib.hid q2
        have HWI := Lib.hid (show By.le (OD.take 8) = sp + (p : Int) from by rw [← hOD, ← ha8, HO.out.wd _ hiN]; exact HPW.out)
        have HBY := Lib.hid (show By.bytes OD from fun z hz => HO.out.byt z (List.mem_of_mem_drop (hOD ▸ hz)))
        have e1 : IntKind.i64.wrap ((a8 : Int) + 8) = (b8 : Int) := by rw [show (a8 : Int) + 8 = (b8 : Int) by omega]; exact IntWalk.i64_in _ (by omega)
        have d1 : decide ((room : Int) < (b8 : Int)) = false := decide_eq_false (by omega)
        have d1' : decide (room < b8) = false := decide_eq_false (by omega)
        rw [ha8]
        clear ha8 hb8 q2 hOD
        go_wp2_with fail
        refine (By.rget_in (some ⟨g0, a8, none⟩) (c0 - a8) OD 8 _ (HQ2.out _ (reads_fr (S := fun _ => False) HRD.out (Fr.of_below HRT.out.two.bel) (fun _ _ _ => id))) HBY.out (by decide) (by decide)).mono ?_
        rintro e wg ⟨rfl, hdg⟩
        rw [HWI.out]
        have HRTg := Lib.hid (HRT.out.fr (Fr.drawn hdg))
        clear hdg HRT q1 d1 d1'
        have HRT := HRTg
        clear HRTg
        have z1 : ((sp + (p : Int)) == 0) = false := beq_eq_false_iff_ne.2 (by omega)
        go_wp2_with fail
        refine (text_any g0 room c0 O s p sp _ (reads_fr (S := fun _ => False) HRD.out (Fr.of_below HRT.out.two.bel) (fun _ _ _ => id)) hroom hc HSG.out HTA.out hsp0 hsp1).mono ?_
        rintro e wt ⟨rfl, rfl⟩
        have p0 := HRT.out.blk.cell 1
        simp at p0
        have HRl := Lib.hid (HRT.out.fr ((Fr.refl (fun _ => False) _).alloc (.cells #[.string s] 9)))
        go_wp2_with ((with_reducible refine gate_builtin (b := .append) (xs := #[.tmp 58, .tmp 60]) rfl ?_); refine Classical.byContradiction fun hgoal => ?_)
        apply hgoal
        clear hgoal
        (try (refine gate_guard (by rfl) ?_; dsimp only))
        refine rowS_app (w0 := w) w.heap.size rfl (.tmp 58) (.tmp 60) 22 9 rfl Try.underlying22 infoST _ (l2.take k) [s] (some ⟨wt.heap.size, 0, none⟩) 1 1 rfl rfl HRl.out.two.ry (str_new wt 9 [s] (by show 1 ≤ _; decide)) HRl.out.two.bel HRl.out.two.bel.size (by rw [List.length_take]; omega) ?_
        intro y1 w1 ho1 hb1 hat1 hf1
        obtain ⟨Ax, cx, rfl, hcx, _⟩ := Kd.R_reads ho1
        obtain ⟨nx, hnx⟩ : ∃ n, (l2.take k ++ [s]).length = n := ⟨_, rfl⟩
        rw [hnx] at ho1 hat1 ⊢
        have HA := Lib.hid (RT.env HRl.out ho1 hb1 hat1 hf1)
        have k0' := HA.out.1.cell 1
        have f0' := HA.out.1.frozen 1
        simp at k0'
        clear ho1 hb1 hat1 hf1 p0 hnx hcx
        go_wp2_with fail
        go_roundg (n2 - (k + 1) + na + 2)
        case measure => omega
        case rel => exact Lib.hid ⟨rfl, .inr (.inr (.inl ⟨k + 1, _, _, by omega, by omega, by have e1 := HA8.out; have e2 := HB8.out; rw [show 8 * (n1 + 2 + (k + 1)) = b8 by omega], rfl, rfl, by rw [HTK.out]; exact HA.out.2⟩))⟩
      · obtain rfl : k = n2 := by omega
        have hwz := HO.out.wz2
        rw [HN1.out, HN2.out] at hwz
        obtain ⟨a8, ha8⟩ : ∃ a, 8 * (n1 + 2 + k) = a := ⟨_, rfl⟩
        obtain ⟨b8, hb8⟩ : ∃ b, a8 + 8 = b := ⟨_, rfl⟩
        have HA8 := Lib.hid ha8
        have HB8 := Lib.hid hb8
        have hiN : n1 + 2 + k < nw := by omega
        have haN : b8 ≤ room := by omega
        obtain ⟨q1, q2⟩ := cut_from g0 room c0 a8 O HO.out.len (by omega) hc
        obtain ⟨OD, hOD⟩ : ∃ l, O.drop a8 = l := ⟨_, rfl⟩
        rw [hOD] at q1 q2
        have HQ2 := Lib.hid q2
        have HWI := Lib.hid (show By.le (OD.take 8) = 0 from by rw [← hOD, ← ha8, HO.out.wd _ hiN]; exact (by rw [show n1 + 2 + k = n1 + k + 2 by omega]; exact hwz))
        have HBY := Lib.hid (show By.bytes OD from fun z hz => HO.out.byt z (List.mem_of_mem_drop (hOD ▸ hz)))
        have e1 : IntKind.i64.wrap ((a8 : Int) + 8) = (b8 : Int) := by rw [show (a8 : Int) + 8 = (b8 : Int) by omega]; exact IntWalk.i64_in _ (by omega)
        have d1 : decide ((room : Int) < (b8 : Int)) = false := decide_eq_false (by omega)
        have d1' : decide (room < b8) = false := decide_eq_false (by omega)
        rw [ha8]
        clear ha8 hb8 q2 hOD
        go_wp2_with fail
        refine (By.rget_in (some ⟨g0, a8, none⟩) (c0 - a8) OD 8 _ (HQ2.out _ (reads_fr (S := fun _ => False) HRD.out (Fr.of_below HRT.out.two.bel) (fun _ _ _ => id))) HBY.out (by decide) (by decide)).mono ?_
        rintro e wg ⟨rfl, hdg⟩
        rw [HWI.out]
        have HRTg := Lib.hid (HRT.out.fr (Fr.drawn hdg))
        clear hdg HRT q1 d1 d1'
        have HRT := HRTg
        clear HRTg
        have z1 : ((0 : Int) == 0) = true := rfl
        rw [show l2.take k = l2 from List.take_of_length_le (by rw [HN2.out]; exact Nat.le_refl _)] at HRT
        go_wp2_with fail
        go_roundg (na + 1)
        case measure => omega
        case rel => exact Lib.hid ⟨rfl, .inr (.inr (.inr ⟨0, _, _, _, _, by omega, by omega, by have e1 := HA8.out; have e2 := HB8.out; rw [show 8 * (n1 + k + 3 + 2 * 0) = b8 by omega], by go_num, rfl, HRT.out, fun h => absurd h (by omega)⟩))⟩
    · have HRT := Lib.hid hrt
      have HRV := Lib.hid hrv
      clear hrt hrv
      have c1 : decide ((n1 : Int) < 0) = false := decide_eq_false (by omega)
      have hal := HO.out.all_
      obtain ⟨ky, hky⟩ : ∃ z, AL.getD (2 * k) 0 = z := ⟨_, rfl⟩
      obtain ⟨vl, hvl⟩ : ∃ z, AL.getD (2 * k + 1) 0 = z := ⟨_, rfl⟩
      have hw1 := HO.out.wx (2 * k) (by omega)
      have hw2 := HO.out.wx (2 * k + 1) (by omega)
      rw [HN1.out, HN2.out, hky] at hw1
      rw [HN1.out, HN2.out, hvl] at hw2
      have HW1 := Lib.hid hw1
      have HW2 := Lib.hid hw2
      have hke := HKEY.out k hk1
      rw [hky, hvl] at hke
      have HKE := Lib.hid hke
      have HAT := Lib.hid (show AL.take (2 * (k + 1)) = AL.take (2 * k) ++ [ky, vl] from by
        rw [show 2 * (k + 1) = 2 * k + 1 + 1 by omega, take_snoc 0 AL (2 * k + 1) (by omega), take_snoc 0 AL (2 * k) (by omega), hky, hvl]
        simp)
      clear hky hvl hw1 hw2 hke hal
      obtain ⟨a8, ha8⟩ : ∃ a, 8 * (n1 + n2 + 3 + 2 * k) = a := ⟨_, rfl⟩
      obtain ⟨b8, hb8⟩ : ∃ b, a8 + 8 = b := ⟨_, rfl⟩
      have HA8 := Lib.hid ha8
      have HB8 := Lib.hid hb8
      have hiN : n1 + n2 + 3 + 2 * k < nw := by omega
      have haN : b8 ≤ room := by omega
      obtain ⟨q1, q2⟩ := cut_from g0 room c0 a8 O HO.out.len (by omega) hc
      obtain ⟨OD, hOD⟩ : ∃ l, O.drop a8 = l := ⟨_, rfl⟩
      rw [hOD] at q1 q2
      have HQ2 := Lib.hid q2
      have HWI := Lib.hid (show By.le (OD.take 8) = ky from by rw [← hOD, ← ha8, HO.out.wd _ hiN]; exact HW1.out)
      have HBY := Lib.hid (show By.bytes OD from fun z hz => HO.out.byt z (List.mem_of_mem_drop (hOD ▸ hz)))
      have e1 : IntKind.i64.wrap ((a8 : Int) + 8) = (b8 : Int) := by rw [show (a8 : Int) + 8 = (b8 : Int) by omega]; exact IntWalk.i64_in _ (by omega)
      have d1 : decide ((room : Int) < (b8 : Int)) = false := decide_eq_false (by omega)
      have d1' : decide (room < b8) = false := decide_eq_false (by omega)
      rw [ha8]
      clear ha8 hb8 q2 hOD
      go_wp2_with fail
      refine (By.rget_in (some ⟨g0, a8, none⟩) (c0 - a8) OD 8 _ (HQ2.out _ (reads_fr (S := fun _ => False) HRD.out (Fr.of_below HRT.out.two.bel) (fun _ _ _ => id))) HBY.out (by decide) (by decide)).mono ?_
      rintro e wg ⟨rfl, hdg⟩
      rw [HWI.out]
      have HRTg := Lib.hid (HRT.out.fr (Fr.drawn hdg))
      clear hdg HRT q1 d1 d1'
      have HRT := HRTg
      clear HRTg
      obtain ⟨b9, hb9⟩ : ∃ b, b8 + 8 = b := ⟨_, rfl⟩
      have HB9 := Lib.hid hb9
      have hiM : n1 + n2 + 3 + (2 * k + 1) < nw := by omega
      have h88 : b8 = 8 * (n1 + n2 + 3 + (2 * k + 1)) := by have f1 := HA8.out; have f2 := HB8.out; omega
      have haM : b9 ≤ room := by omega
      obtain ⟨q1, q2⟩ := cut_from g0 room c0 b8 O HO.out.len (by omega) hc
      obtain ⟨OE, hOE⟩ : ∃ l, O.drop b8 = l := ⟨_, rfl⟩
      rw [hOE] at q1 q2
      have HQ3 := Lib.hid q2
      have HWJ := Lib.hid (show By.le (OE.take 8) = vl from by rw [← hOE, h88, HO.out.wd _ hiM]; exact HW2.out)
      have HBZ := Lib.hid (show By.bytes OE from fun z hz => HO.out.byt z (List.mem_of_mem_drop (hOE ▸ hz)))
      have e3 : IntKind.i64.wrap ((b8 : Int) + 8) = (b9 : Int) := by rw [show (b8 : Int) + 8 = (b9 : Int) by omega]; exact IntWalk.i64_in _ (by omega)
      have d2 : decide ((room : Int) < (b9 : Int)) = false := decide_eq_false (by omega)
      have d2' : decide (room < b9) = false := decide_eq_false (by omega)
      have H88 := Lib.hid h88
      clear hb9 q2 hOE h88
      go_wp2_with fail
      refine (By.rget_in (some ⟨g0, b8, none⟩) (c0 - b8) OE 8 _ (HQ3.out _ (reads_fr (S := fun _ => False) HRD.out (Fr.of_below HRT.out.two.bel) (fun _ _ _ => id))) HBZ.out (by decide) (by decide)).mono ?_
      rintro e wh ⟨rfl, hdg⟩
      rw [HWJ.out]
      have HRTg := Lib.hid (HRT.out.fr (Fr.drawn hdg))
      clear hdg HRT q1 d2 d2'
      have HRT := HRTg
      clear HRTg
      have p2 := HRT.out.blk.cell 2
      simp at p2
      go_wp2_with ((with_reducible refine gate_builtin (b := .append) (xs := #[.tmp 76, .tmp 80]) rfl ?_); refine Classical.byContradiction fun hgoal => ?_)
      apply hgoal
      clear hgoal
      (try (refine gate_guard (by rfl) ?_; dsimp only))
      refine rowP_app (w0 := w) (wr := wh) rfl (.tmp 76) (.tmp 80) rfl v k (AL.take (2 * k)) [ky, vl] 1 rfl rfl HRT.out.pr rfl (by omega) ?_
      intro v1 w1 hp1 hf1
      obtain ⟨gv, cv, rfl, _, _⟩ := hp1.own.form (by omega)
      have HA := Lib.hid (RT.aux HRT.out hp1 hf1)
      have k2' := HA.out.1.cell 2
      have f2' := HA.out.1.frozen 2
      simp at k2'
      rw [← HAT.out] at HA
      clear hp1 hf1 p2
      by_cases hk2 : k + 2 = na
      · obtain ⟨hka, hkb⟩ := HKE.out.1 hk2
        subst hka
        have hvp := hkb.trans HP0.out.1
        subst hvp
        obtain ⟨p16, hp16⟩ : ∃ z, p0 + 16 = z := ⟨_, rfl⟩
        have hp17 := HP0.out.2
        have g1 : decide (sp ≤ sp + (p0 : Int)) = true := decide_eq_true (by omega)
        have g2 : IntKind.u64.wrap (sp + (p0 : Int) - sp) = (p0 : Int) := by rw [show sp + (p0 : Int) - sp = (p0 : Int) by omega]; exact IntWalk.u64_in _ (by omega)
        have g3 : IntKind.u64.wrap ((p0 : Int) + 16) = (p16 : Int) := by rw [show (p0 : Int) + 16 = (p16 : Int) by omega]; exact IntWalk.u64_in _ (by omega)
        have g4 : IntKind.u64.wrap (room : Int) = (room : Int) := IntWalk.u64_in _ (by omega)
        have g5 : decide ((p16 : Int) ≤ (room : Int)) = true := decide_eq_true (by omega)
        have g5' : decide (p16 ≤ room) = true := decide_eq_true (by omega)
        have q3 := cut_mid g0 room c0 p0 16 (by omega) (by omega) hc
        rw [hp16] at q3
        have k3' := HA.out.2.blk.cell 3
        have f3' := HA.out.2.blk.frozen 3
        simp at k3'
        have HA2 := Lib.hid (HA.out.2.rnd (.slice (some ⟨g0, p0, none⟩) 16 (c0 - p0)))
        clear hp16 hp17 HA hkb
        go_wp2_with fail
        go_roundg (na - (k + 1) + 1)
        case measure => omega
        case rel => exact Lib.hid ⟨rfl, .inr (.inr (.inr ⟨k + 1, _, _, _, _, by omega, by omega, by have f1 := H88.out; have f2 := HB9.out; rw [show 8 * (n1 + n2 + 3 + 2 * (k + 1)) = b9 by omega], rfl, rfl, HA2.out, fun _ => rfl⟩))⟩
      · have hne := HKE.out.2.2.1 hk2
        have z2 : (ky == 25) = false := beq_eq_false_iff_ne.2 hne
        by_cases hk3 : k + 1 = na
        · have hk0 := HKE.out.2.1 hk3
          subst hk0
          have hrv := HRV.out hk3
          subst hrv
          obtain ⟨Ax, cx, rfl, hcx, _⟩ := Kd.R_reads HA.out.2.two.rx
          obtain ⟨Ay, cy, rfl, hcy, _⟩ := Kd.R_reads HA.out.2.two.ry
          rw [HN1.out, HN2.out, hk3] at HA
          rw [hk3]
          have b3 : ((n1 : Int) == (n1 : Int)) = true := beq_self_eq_true _
          have b3' : (n1 == n1) = true := beq_self_eq_true _
          clear hne HRV hcx hcy
          go_wp2_with fail
          generalize w1.setCell ⟨w.heap.size + 1, 2, none⟩ (.slice (some ⟨gv, 0, none⟩) na cv) = w3 at HA ⊢
          have HR3 := Lib.hid HA.out.2
          have t0 := HR3.out.blk.drew.cell 0
          have t1 := HR3.out.blk.drew.cell 1
          have t2 := HR3.out.blk.drew.cell 2
          have t3 := HR3.out.blk.drew.cell 3
          have r0 := HR3.out.res.drew.cell 0
          have r1 := HR3.out.res.drew.cell 1
          have r2 := HR3.out.res.drew.cell 2
          have r3 := HR3.out.res.drew.cell 3
          have s0 := HR3.out.res.drew.frozen 0
          have s1 := HR3.out.res.drew.frozen 1
          have s2 := HR3.out.res.drew.frozen 2
          have s3 := HR3.out.res.drew.frozen 3
          have v0 := HR3.out.res.frozen 0
          have m0 := HR3.out.res.cell 0
          have v1 := HR3.out.res.frozen 1
          have m1 := HR3.out.res.cell 1
          have v2 := HR3.out.res.frozen 2
          have m2 := HR3.out.res.cell 2
          have v3 := HR3.out.res.frozen 3
          have m3 := HR3.out.res.cell 3
          simp at t0 t1 t2 t3 r0 r1 r2 r3 m0 m1 m2 m3
          clear HA k2' f2'
          go_region
          all_goals
            have HCP := Lib.hid (HR3.out.copy (Nat.le_refl _))
            generalize ((((w3.setCell ⟨w.heap.size, 0, none⟩ (.slice Ax n1 cx)).setCell ⟨w.heap.size, 1, none⟩ (.slice Ay n2 cy)).setCell ⟨w.heap.size, 2, none⟩ (.slice (some ⟨gv, 0, none⟩) na cv)).setCell ⟨w.heap.size, 3, none⟩ (.slice (some ⟨g0, p0, none⟩) 16 (c0 - p0))).drew = w4 at HCP ⊢
            go_wp2_with fail
            refine bodyPost_ret (results_ct rfl _ _ w.heap.size 40 #[.slice Ax n1 cx, .slice Ay n2 cy, .slice (some ⟨gv, 0, none⟩) na cv, .slice (some ⟨g0, p0, none⟩) 16 (c0 - p0)] (0, 0) _ rfl HCP.out.1 Try.underlying40 rfl (by kernel_rfl)) rfl ?_
            refine ⟨_, _, _, rfl, Fr.of_below HCP.out.2.1.bel, HCP.out.2.1, ?_⟩
            have hpr := HCP.out.2.2
            rw [show AL.take (2 * na) = AL from List.take_of_length_le (by rw [HO.out.all_]; exact Nat.le_refl _)] at hpr
            exact hpr
        · have z3 : (ky == 0) = false := beq_eq_false_iff_ne.2 (HKE.out.2.2.2 hk3)
          clear hne
          go_wp2_with fail
          go_roundg (na - (k + 1) + 1)
          case measure => omega
          case rel => exact Lib.hid ⟨rfl, .inr (.inr (.inr ⟨k + 1, _, _, _, _, by omega, by omega, by have f1 := H88.out; have f2 := HB9.out; rw [show 8 * (n1 + n2 + 3 + 2 * (k + 1)) = b9 by omega], rfl, rfl, HA.out.2, fun h => absurd h (by omega)⟩))⟩
end Go.Proofs.Ytnoeehdccknhnaa.St
