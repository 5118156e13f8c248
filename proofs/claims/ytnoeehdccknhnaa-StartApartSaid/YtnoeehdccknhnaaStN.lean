/- What lies where in a stack's bytes. -/
import Derived.Test.YtnoeehdccknhnaaStM
import Derived.Test.YtnoeehdccknhnaaStJ
namespace Go.Proofs.Ytnoeehdccknhnaa.St
open Go Go.RowKit Go.Proofs.YtnoeehdccknhnaaW.PrintWords Go.Proofs.YtnoeehdccknhnaaW.PrintLast Go.Proofs.YtnoeehdccknhnaaW.PrintMore
open Go.Proofs.Ytnoeehdccknhnaa.Hp
attribute [local go_sem] max2_int min2_int max_two min_two max_three min_three max_four min_four
set_option linter.unusedVariables false
set_option linter.unusedSimpArgs false
theorem getD_left {l r : List Int} {i : Nat} (h : i < l.length) : (l ++ r).getD i 0 = l.getD i 0 := by
  rw [List.getD_eq_getElem?_getD, List.getD_eq_getElem?_getD, List.getElem?_append_left h]
theorem getD_right {l r : List Int} {i : Nat} : (l ++ r).getD (l.length + i) 0 = r.getD i 0 := by
  rw [List.getD_eq_getElem?_getD, List.getD_eq_getElem?_getD, List.getElem?_append_right (by omega), Nat.add_sub_cancel_left]
theorem getD_right' {l r : List Int} {n i : Nat} (h : l.length = n) : (l ++ r).getD (n + i) 0 = r.getD i 0 := by
  subst h
  exact getD_right
theorem TextAt.shift {O : List Int} {p : Nat} {s : ByteArray} (h : TextAt O p s) (pre post : List Int) {n : Nat} (hn : pre.length = n) : TextAt (pre ++ O ++ post) (n + p) s := by
  subst hn
  have hl := h.lt
  refine ⟨fun j hj => ?_, ?_, by simp only [List.length_append]; omega⟩
  · rw [List.append_assoc, Nat.add_assoc, getD_right, getD_left (by omega)]
    exact h.by_ j hj
  · rw [List.append_assoc, Nat.add_assoc, getD_right, getD_left (by omega)]
    exact h.end_
theorem text_head (s : ByteArray) (r : List Int) : TextAt (bytesOf s ++ [0] ++ r) 0 s := by
  refine ⟨fun j hj => ?_, ?_, by simp only [List.length_append, bytesOf_length, List.length_cons, List.length_nil]; omega⟩
  · rw [Nat.zero_add, List.append_assoc, getD_left (by rw [bytesOf_length]; exact hj)]
    exact bytesOf_at s j hj
  · rw [Nat.zero_add, List.append_assoc]
    have e := getD_right' (l := bytesOf s) (r := [0] ++ r) (i := 0) (bytesOf_length s)
    rw [Nat.add_zero] at e
    rw [e]
    rfl
theorem text_at (l : List ByteArray) : ∀ (i : Nat), i < l.length → ∀ r, TextAt (txOf l ++ r) (szOf (l.take i)) (rdS l i) := by
  induction l with
  | nil => intro i hi; simp at hi
  | cons s t ih =>
    intro i hi r
    cases i with
    | zero =>
      have h := text_head s (txOf t ++ r)
      simp only [txOf, List.append_assoc, List.take_zero, szOf] at h ⊢
      exact h
    | succ i =>
      have h := (ih i (by simpa using hi) r).shift (bytesOf s ++ [0]) [] (n := s.size + 1) (by simp [bytesOf_length])
      simp only [txOf, List.append_assoc, List.take_succ_cons, szOf, List.append_nil] at h ⊢
      exact h
theorem plOf_at (bs : Int) (l : List ByteArray) : ∀ (n i : Nat), i < l.length → (plOf bs n l).getD i 0 = bs + ((n + szOf (l.take i) : Nat) : Int) := by
  induction l with
  | nil => intro n i hi; simp at hi
  | cons s t ih =>
    intro n i hi
    cases i with
    | zero => simp [plOf, szOf]
    | succ i =>
      have h := ih (n + (s.size + 1)) i (by simpa using hi)
      simp only [plOf, List.getD_cons_succ, List.take_succ_cons, szOf]
      rw [h]
      congr 2
      omega
theorem wby_at (W : List Int) (hw : wok W) : ∀ (i : Nat), i < W.length → ∀ r, By.le (((wby W ++ r).drop (8 * i)).take 8) = W.getD i 0 := by
  induction W with
  | nil => intro i hi; simp at hi
  | cons x t ih =>
    intro i hi r
    cases i with
    | zero =>
      have hx := hw x List.mem_cons_self
      have e : ((wby (x :: t) ++ r).drop (8 * 0)).take 8 = By.enc x 8 := by
        simp only [wby, List.append_assoc, Nat.mul_zero, List.drop_zero]
        exact List.take_left' (By.enc_length 8 x)
      rw [e, By.le_enc 8 x hx.1]
      show x % 256 ^ 8 = x
      exact Int.emod_eq_of_lt hx.1 (by have := hx.2; omega)
    | succ i =>
      have h := ih (fun y hy => hw y (List.mem_cons_of_mem _ hy)) i (by simpa using hi) r
      have e : (wby (x :: t) ++ r).drop (8 * (i + 1)) = (wby t ++ r).drop (8 * i) := by
        simp only [wby, List.append_assoc]
        rw [show 8 * (i + 1) = 8 + 8 * i by omega, ← List.drop_drop, List.drop_left' (By.enc_length 8 x)]
      rw [e, h]
      rfl
theorem bytes_app {l r : List Int} (h : By.bytes l) (k : By.bytes r) : By.bytes (l ++ r) := fun x hx => (List.mem_append.1 hx).elim (h x) (k x)
theorem bytes_zeros (n : Nat) : By.bytes (List.replicate n 0) := fun x hx => by rw [(List.mem_replicate.1 hx).2]; decide
theorem bytes_wby (W : List Int) : By.bytes (wby W) := by
  induction W with
  | nil => exact fun x hx => by simp [wby] at hx
  | cons x t ih => exact bytes_app (By.enc_bytes 8 x) ih
theorem bytes_tx (l : List ByteArray) : By.bytes (txOf l) := by
  induction l with
  | nil => exact fun x hx => by simp [txOf] at hx
  | cons s t ih =>
    refine bytes_app (bytes_app (fun x hx => ?_) (fun x hx => by rw [List.mem_singleton.1 hx]; decide)) ih
    obtain ⟨b, _, rfl⟩ := List.mem_map.1 hx
    have := b.toNat_lt
    omega
/-- What a program that reads its stack comes upon. -/
structure OutOk (O W : List Int) (l1 l2 : List ByteArray) (AL rs : List Int) (sp at_ : Int) (room nw na : Nat) : Prop where
  len : O.length = room
  wl : W.length = nw
  nwr : 8 * nw ≤ room
  rb : room ≤ 100000
  nwv : nw = l1.length + l2.length + 3 + 2 * na
  all_ : AL.length = 2 * na
  wd : ∀ i, i < nw → By.le ((O.drop (8 * i)).take 8) = W.getD i 0
  wk : wok W
  byt : By.bytes O
  w0 : W.getD 0 0 = (l1.length : Int)
  wa : ∀ i, i < l1.length → ∃ p : Nat, W.getD (1 + i) 0 = sp + (p : Int) ∧ TextAt O p (rdS l1 i)
  wz1 : W.getD (l1.length + 1) 0 = 0
  we : ∀ i, i < l2.length → ∃ p : Nat, W.getD (l1.length + 2 + i) 0 = sp + (p : Int) ∧ TextAt O p (rdS l2 i)
  wz2 : W.getD (l1.length + l2.length + 2) 0 = 0
  wx : ∀ k, k < 2 * na → W.getD (l1.length + l2.length + 3 + k) 0 = AL.getD k 0
  rnd : ∃ p : Nat, at_ = sp + (p : Int) ∧ p + 16 ≤ room ∧ (O.drop p).take 16 = rs
  spb : 274877800000 ≤ sp ∧ sp ≤ 274877902848
  spr : sp + (room : Int) = 274877902848
  sp16 : sp % 16 = 0
  fit : l1.length + l2.length ≤ 256
theorem gap8 {K bs sp : Int} {nw nt : Nat} {s : Nat} (h : (K - ((s : Int) + 16)) / 16 * 16 = bs) (hs : (bs - 8 * (nw : Int)) / 16 * 16 = sp) (ht : nt = s + 16) (hnw : nw ≤ 300) (hsz : s ≤ 32768) :
    ∃ d room : Nat, bs = sp + (d : Int) ∧ sp + (room : Int) = K ∧ (bs - 8 * (nw : Int) - sp).toNat + 8 * nw = d ∧ d + nt + (K - bs - (nt : Int)).toNat = room ∧ room ≤ 100000 ∧ K - 100000 ≤ sp ∧ sp ≤ K ∧ sp % 16 = 0 := by
  have h1 : 0 ≤ bs - sp := by omega
  have h2 : 0 ≤ K - sp := by omega
  obtain ⟨d, hd⟩ := nat_of _ h1
  obtain ⟨room, hr⟩ := nat_of _ h2
  exact ⟨d, room, by omega, by omega, by omega, by omega, by omega, by omega, by omega, by omega⟩
theorem base_in2 {K bs : Int} {s : Nat} (h : (K - ((s : Int) + 16)) / 16 * 16 = bs) (hs : s ≤ 32768) : bs ≤ K ∧ K - 33000 ≤ bs := by omega
theorem out_ok (l1 l2 : List ByteArray) (entry phdr phnum phsize : Int) (rs : List Int) (hr : rs.length = 16) (hrb : By.bytes rs) (hfit : l1.length + l2.length ≤ 256 ∧ szOf l1 + szOf l2 ≤ 32768) (hen : 0 ≤ entry ∧ entry < 18446744073709551616) (hph : 0 ≤ phdr ∧ phdr < 18446744073709551616) :
    ∃ room nw : Nat, OutOk (outOf (baseOf l1 l2) (wordsOf (baseOf l1 l2) l1 l2 entry phdr phnum phsize) (txOf l1 ++ txOf l2 ++ rs)) (wordsOf (baseOf l1 l2) l1 l2 entry phdr phnum phsize) l1 l2 (auxL entry phdr phnum phsize (baseOf l1 l2 + ((szOf l1 + szOf l2 : Nat) : Int))) rs (spOf (baseOf l1 l2) (wordsOf (baseOf l1 l2) l1 l2 entry phdr phnum phsize).length) (baseOf l1 l2 + ((szOf l1 + szOf l2 : Nat) : Int)) room nw (auxN phdr) := by
  obtain ⟨bs, hbs⟩ : ∃ b, baseOf l1 l2 = b := ⟨_, rfl⟩
  have hb0 : (274877902848 - (((szOf l1 + szOf l2 : Nat) : Int) + 16)) / 16 * 16 = bs := hbs
  have hbb := base_in2 hb0 hfit.2
  rw [hbs]
  obtain ⟨AL, hAL⟩ : ∃ l, auxL entry phdr phnum phsize (bs + ((szOf l1 + szOf l2 : Nat) : Int)) = l := ⟨_, rfl⟩
  have hall : AL.length = 2 * auxN phdr := by
    rw [← hAL]
    unfold auxL auxN
    split
    · simp
    · simp
  have hn : auxN phdr ≤ 12 := by unfold auxN; split <;> omega
  have hwl : (wordsOf bs l1 l2 entry phdr phnum phsize).length = l1.length + l2.length + 3 + 2 * auxN phdr := by
    unfold wordsOf
    rw [hAL]
    simp only [List.length_append, plOf_length, List.length_cons, List.length_nil, hall]
    omega
  have hwk : wok (wordsOf bs l1 l2 entry phdr phnum phsize) := by
    unfold wordsOf
    refine wok_app (wok_app (wok_app (wok_app (wok_app (wok_cons (by omega) wok_nil) (wok_pl bs (by omega) (by omega) l1 _ (by omega))) (wok_cons (by decide) wok_nil)) (wok_pl bs (by omega) (by omega) l2 _ (by omega))) (wok_cons (by decide) wok_nil)) (wok_aux _ _ _ _ _ hen hph (by omega))
  obtain ⟨W, hW⟩ : ∃ l, wordsOf bs l1 l2 entry phdr phnum phsize = l := ⟨_, rfl⟩
  have hWe : W = [(l1.length : Int)] ++ (plOf bs 0 l1 ++ ([0] ++ (plOf bs (szOf l1) l2 ++ ([0] ++ AL)))) := by
    rw [← hW]
    unfold wordsOf
    rw [hAL]
    simp only [List.append_assoc]
  rw [hW] at hwl hwk ⊢
  rw [hAL]
  obtain ⟨T, hT⟩ : ∃ l, txOf l1 ++ txOf l2 ++ rs = l := ⟨_, rfl⟩
  have htl : T.length = (szOf l1 + szOf l2) + 16 := by rw [← hT, List.length_append, List.length_append, txOf_length, txOf_length, hr]
  obtain ⟨sp, hsp⟩ : ∃ s, spOf bs W.length = s := ⟨_, rfl⟩
  obtain ⟨d, room, g1, g2, g3, g4, g5, g6, g7, g8⟩ := gap8 (K := 274877902848) (nw := W.length) (nt := T.length) hb0 hsp htl (by omega) hfit.2
  rw [hT, hsp]
  have hO : outOf bs W T = (wby W ++ List.replicate (bs - 8 * W.length - sp).toNat 0) ++ T ++ List.replicate (274877902848 - bs - T.length).toNat 0 := by
    unfold outOf
    rw [hsp]
  have hpl : (wby W ++ List.replicate (bs - 8 * (W.length : Int) - sp).toNat 0).length = d := by
    rw [List.length_append, List.length_replicate, wby_length]
    omega
  have hTl : T = txOf (l1 ++ l2) ++ rs := by rw [← hT, txOf_append]
  have texts : ∀ i, i < (l1 ++ l2).length → TextAt (outOf bs W T) (d + szOf ((l1 ++ l2).take i)) (rdS (l1 ++ l2) i) := fun i hi => by
    rw [hO]
    refine TextAt.shift ?_ _ _ hpl
    rw [hTl]
    exact text_at (l1 ++ l2) i hi rs
  refine ⟨room, W.length, ?_, rfl, by omega, g5, hwl, hall, fun i hi => ?_, hwk, ?_, ?_, fun i hi => ?_, ?_, fun i hi => ?_, ?_, fun k hk => ?_, ⟨d + (szOf l1 + szOf l2), by omega, by omega, ?_⟩, ⟨by omega, by omega⟩, g2, g8, hfit.1⟩
  · rw [hO, List.length_append, List.length_append, hpl, List.length_replicate]
    omega
  · rw [hO, List.append_assoc, List.append_assoc]
    exact wby_at W hwk i hi _
  · rw [hO]
    refine bytes_app (bytes_app (bytes_app (bytes_wby W) (bytes_zeros _)) ?_) (bytes_zeros _)
    rw [hTl]
    exact bytes_app (bytes_tx _) hrb
  · rw [hWe]; rfl
  · refine ⟨d + szOf (l1.take i), ?_, ?_⟩
    · rw [hWe, getD_right' (n := 1) rfl, getD_left (by rw [plOf_length]; exact hi), plOf_at bs l1 0 i hi]
      omega
    · have h := texts i (by rw [List.length_append]; omega)
      rw [take_left (by omega)] at h
      have e : rdS (l1 ++ l2) i = rdS l1 i := by
        unfold rdS
        rw [List.getD_eq_getElem?_getD, List.getD_eq_getElem?_getD, List.getElem?_append_left hi]
      rw [e] at h
      exact h
  · rw [hWe, show l1.length + 1 = 1 + (l1.length + 0) by omega, getD_right' (n := 1) rfl, getD_right' (plOf_length bs l1 0)]
    rfl
  · refine ⟨d + (szOf l1 + szOf (l2.take i)), ?_, ?_⟩
    · rw [hWe, show l1.length + 2 + i = 1 + (l1.length + (1 + i)) by omega, getD_right' (n := 1) rfl, getD_right' (plOf_length bs l1 0), getD_right' (n := 1) rfl, getD_left (by rw [plOf_length]; exact hi), plOf_at bs l2 _ i hi]
      omega
    · have h := texts (l1.length + i) (by rw [List.length_append]; omega)
      rw [take_right (by omega), Nat.add_sub_cancel_left, szOf_append] at h
      have e : rdS (l1 ++ l2) (l1.length + i) = rdS l2 i := by
        unfold rdS
        rw [List.getD_eq_getElem?_getD, List.getD_eq_getElem?_getD, List.getElem?_append_right (by omega), Nat.add_sub_cancel_left]
      rw [e] at h
      exact h
  · rw [hWe, show l1.length + l2.length + 2 = 1 + (l1.length + (1 + (l2.length + 0))) by omega, getD_right' (n := 1) rfl, getD_right' (plOf_length bs l1 0), getD_right' (n := 1) rfl, getD_right' (plOf_length bs l2 _)]
    rfl
  · rw [hWe, show l1.length + l2.length + 3 + k = 1 + (l1.length + (1 + (l2.length + (1 + k)))) by omega, getD_right' (n := 1) rfl, getD_right' (plOf_length bs l1 0), getD_right' (n := 1) rfl, getD_right' (plOf_length bs l2 _), getD_right' (n := 1) rfl]
  · rw [hO, List.append_assoc, ← List.drop_drop, List.drop_left' hpl, hTl, List.append_assoc, List.drop_left' (by rw [txOf_length, szOf_append])]
    exact List.take_left' hr
end Go.Proofs.Ytnoeehdccknhnaa.St
