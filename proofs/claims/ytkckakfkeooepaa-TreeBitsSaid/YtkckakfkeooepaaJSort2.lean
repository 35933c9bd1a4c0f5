/- Plain facts on lists with a key: the same elements, each key's in the same order; insertion, merge, blocks, the first of each run. -/
import Derived.Test.YtkckakfkeooepaaJSort
namespace Go.Proofs.Ytkckakfkeooepaa
set_option linter.all false
set_option linter.unusedSimpArgs false
set_option linter.unusedVariables false
set_option linter.unnecessarySimpa false
section
variable {α : Type} (key : α → Nat) (d : α)
def fk (k : Nat) (l : List α) : List α := l.filter fun x => decide (key x = k)
theorem fk_append (k : Nat) (a b : List α) : fk key k (a ++ b) = fk key k a ++ fk key k b := List.filter_append ..
theorem fk_nil {k : Nat} {a : List α} (h : ∀ x ∈ a, key x ≠ k) : fk key k a = [] := List.filter_eq_nil_iff.2 fun x hx => by simpa using h x hx
/-- The same elements, those of one key in one order. -/
def Eqv (a b : List α) : Prop := a.length = b.length ∧ ∀ k, fk key k a = fk key k b
theorem Eqv.refl (a : List α) : Eqv key a a := ⟨rfl, fun _ => rfl⟩
theorem Eqv.symm {a b : List α} (h : Eqv key a b) : Eqv key b a := ⟨h.1.symm, fun k => (h.2 k).symm⟩
theorem Eqv.trans {a b c : List α} (h : Eqv key a b) (h' : Eqv key b c) : Eqv key a c := ⟨h.1.trans h'.1, fun k => (h.2 k).trans (h'.2 k)⟩
theorem Eqv.append {a b c e : List α} (h : Eqv key a b) (h' : Eqv key c e) : Eqv key (a ++ c) (b ++ e) := ⟨by simp [h.1, h'.1], fun k => by rw [fk_append, fk_append, h.2, h'.2]⟩
theorem Eqv.flip {a b : List α} (h : ∀ x ∈ a, ∀ y ∈ b, key x ≠ key y) : Eqv key (a ++ b) (b ++ a) := by
  refine ⟨by simp [Nat.add_comm], fun k => ?_⟩
  rw [fk_append, fk_append]
  by_cases ha : ∃ x ∈ a, key x = k
  · obtain ⟨x, hx, e⟩ := ha
    rw [fk_nil key (a := b) fun y hy e' => h x hx y hy (by rw [e, e'])]
    simp
  · rw [fk_nil key (a := a) fun x hx e => ha ⟨x, hx, e⟩]
    simp
theorem Eqv.mem {a b : List α} (h : Eqv key a b) (x : α) : x ∈ a ↔ x ∈ b := by
  have e := h.2 (key x)
  have m : ∀ l : List α, x ∈ fk key (key x) l ↔ x ∈ l := fun l => by simp [fk]
  rw [← m a, ← m b, e]
def Srt (a : List α) : Prop := a.Pairwise fun x y => key x ≤ key y
theorem Srt.nil : Srt key ([] : List α) := List.Pairwise.nil
theorem Srt.append {a b : List α} (h : Srt key a) (h' : Srt key b) (hx : ∀ x ∈ a, ∀ y ∈ b, key x ≤ key y) : Srt key (a ++ b) := List.pairwise_append.2 ⟨h, h', hx⟩
theorem Srt.left {a b : List α} (h : Srt key (a ++ b)) : Srt key a := (List.pairwise_append.1 h).1
theorem Srt.right {a b : List α} (h : Srt key (a ++ b)) : Srt key b := (List.pairwise_append.1 h).2.1
theorem Srt.cross {a b : List α} (h : Srt key (a ++ b)) : ∀ x ∈ a, ∀ y ∈ b, key x ≤ key y := (List.pairwise_append.1 h).2.2
theorem Srt.one (x : α) : Srt key [x] := List.pairwise_singleton ..
theorem Srt.get {a : List α} (h : Srt key a) {i j : Nat} {x y : α} (hi : a[i]? = some x) (hj : a[j]? = some y) (hij : i ≤ j) : key x ≤ key y := by
  rcases Nat.lt_or_eq_of_le hij with hlt | rfl
  · obtain ⟨h1, rfl⟩ := List.getElem?_eq_some_iff.1 hi
    obtain ⟨h2, rfl⟩ := List.getElem?_eq_some_iff.1 hj
    exact List.pairwise_iff_getElem.1 h i j h1 h2 hlt
  · rw [hi] at hj; injection hj with e; rw [e]; exact Nat.le_refl _
/-- Sorted, of these elements. -/
def SS (m w : List α) : Prop := Srt key m ∧ Eqv key m w
/-! ### Insertion -/
/-- x has come down behind a; b is behind it. -/
def Ins (P w : List α) (x : α) (R : List α) (j : Nat) (cur : List α) : Prop := ∃ a b, cur = P ++ (a ++ (x :: (b ++ R))) ∧ j = P.length + a.length ∧ SS key (a ++ b) w ∧ ∀ y ∈ b, key x < key y
theorem Ins.start {P m w R : List α} {x : α} (h : SS key m w) : Ins key P w x R (P.length + m.length) (P ++ (m ++ (x :: R))) := ⟨m, [], by simp, rfl, by simpa using h, fun _ h => by cases h⟩
theorem getD_mid (P S : List α) (x : α) : (P ++ (x :: S)).getD P.length d = x := by simp [List.getD]
theorem getD_mid' {P S : List α} {x : α} {n : Nat} (h : n = P.length) : (P ++ (x :: S)).getD n d = x := by subst h; exact getD_mid d P S x
theorem sw_mid (P S : List α) (x y : α) : sw d (P ++ (x :: y :: S)) (P.length + 1) P.length = P ++ (y :: x :: S) ∧ sw d (P ++ (x :: y :: S)) P.length (P.length + 1) = P ++ (y :: x :: S) := by
  constructor <;>
  · refine list_ext (by simp) fun k hk => ?_
    rw [sw_get d _ _ _ k (by simp) (by simp)]
    simp only [List.getElem?_append, List.getElem?_cons]
    (repeat' split) <;> first | omega | rfl | (congr 1; omega)
theorem Ins.step {P w R cur : List α} {x : α} {j : Nat} (h : Ins key P w x R j cur) (hj : P.length < j) (hlt : key (cur.getD j d) < key (cur.getD (j - 1) d)) : Ins key P w x R (j - 1) (sw d cur j (j - 1)) := by
  obtain ⟨a, b, rfl, hj', hs, hb⟩ := h
  subst hj'
  obtain ⟨a, y, rfl⟩ : ∃ a' y, a = a' ++ [y] := ⟨a.dropLast, a.getLast (by intro e; subst e; simp at hj), (List.dropLast_concat_getLast _).symm⟩
  have e1 : (P ++ (a ++ [y] ++ x :: (b ++ R))).getD (P.length + (a ++ [y]).length) d = x := by
    have := getD_mid d (P ++ (a ++ [y])) (b ++ R) x
    simpa using this
  have e2 : (P ++ (a ++ [y] ++ x :: (b ++ R))).getD (P.length + (a ++ [y]).length - 1) d = y := by
    have := getD_mid d (P ++ a) (x :: (b ++ R)) y
    simpa using this
  rw [e1, e2] at hlt
  refine ⟨a, y :: b, ?_, by simp, by simpa using hs, fun z hz => ?_⟩
  · have := (sw_mid d (P ++ a) (b ++ R) y x).1
    simp only [List.append_assoc, List.length_append, List.length_cons, List.length_nil, List.cons_append, List.nil_append] at this ⊢
    rw [show P.length + (a.length + (0 + 1)) = P.length + a.length + 1 by omega, show P.length + a.length + 1 - 1 = P.length + a.length by omega]
    exact this
  · rcases List.mem_cons.1 hz with rfl | hz
    · exact hlt
    · exact hb z hz
theorem Ins.done {P w R cur : List α} {x : α} {j : Nat} (h : Ins key P w x R j cur) (hj : j ≤ P.length ∨ key (cur.getD (j - 1) d) ≤ key (cur.getD j d)) : ∃ m, cur = P ++ (m ++ R) ∧ SS key m (w ++ [x]) := by
  obtain ⟨a, b, rfl, hj', hs, hb⟩ := h
  subst hj'
  refine ⟨a ++ (x :: b), by simp, ?_, ?_⟩
  · have hb' : Srt key (x :: b) := List.pairwise_cons.2 ⟨fun y hy => Nat.le_of_lt (hb y hy), Srt.right key hs.1⟩
    refine Srt.append key (Srt.left key hs.1) hb' fun z hz y hy => ?_
    rcases hj with hj | hj
    · have : a = [] := List.eq_nil_of_length_eq_zero (by omega)
      subst this; cases hz
    · obtain ⟨a, u, rfl⟩ : ∃ a' y, a = a' ++ [y] := ⟨a.dropLast, a.getLast (by intro e; subst e; cases hz), (List.dropLast_concat_getLast _).symm⟩
      have e1 : (P ++ (a ++ [u] ++ x :: (b ++ R))).getD (P.length + (a ++ [u]).length) d = x := by
        have := getD_mid d (P ++ (a ++ [u])) (b ++ R) x
        simpa using this
      have e2 : (P ++ (a ++ [u] ++ x :: (b ++ R))).getD (P.length + (a ++ [u]).length - 1) d = u := by
        have := getD_mid d (P ++ a) (x :: (b ++ R)) u
        simpa using this
      rw [e1, e2] at hj
      have hzu : key z ≤ key u := by
        rcases List.mem_append.1 hz with hz | hz
        · exact Srt.cross key (Srt.left key hs.1) z hz u (by simp)
        · rw [List.mem_singleton.1 hz]; exact Nat.le_refl _
      rcases List.mem_cons.1 hy with rfl | hy
      · omega
      · have := hb y hy; omega
  · have e1 : Eqv key (x :: b) (b ++ [x]) := Eqv.flip key (a := [x]) (fun u hu y hy => by rw [List.mem_singleton.1 hu]; exact Nat.ne_of_lt (hb y hy))
    have e2 := Eqv.append key (Eqv.refl key a) e1
    rw [← List.append_assoc] at e2
    exact e2.trans key (Eqv.append key hs.2 (Eqv.refl key [x]))
/-! ### Merges -/
/-- Both halves are sorted. -/
def Two (P L R S cur : List α) : Prop := cur = P ++ (L ++ (R ++ S)) ∧ Srt key L ∧ Srt key R
theorem two_get1 {P L R S : List α} {i : Nat} (h : P.length ≤ i) (h' : i < P.length + L.length) : L[i - P.length]? = some ((P ++ (L ++ (R ++ S))).getD i d) := by
  rw [List.getD, List.getElem?_append_right h, List.getElem?_append_left (by omega), List.getElem?_eq_getElem (by omega)]; rfl
theorem two_get2 {P L R S : List α} {i : Nat} (h : P.length + L.length ≤ i) (h' : i < P.length + L.length + R.length) : R[i - (P.length + L.length)]? = some ((P ++ (L ++ (R ++ S))).getD i d) := by
  rw [List.getD, List.getElem?_append_right (by omega), List.getElem?_append_right (by omega), List.getElem?_append_left (by omega), Nat.sub_sub, List.getElem?_eq_getElem (by omega)]; rfl
/-- The cut of a merge: what a rotation leaves is two smaller merges. -/
theorem merge_cut {L1 L2 R1 R2 m1 m2 : List α} (hL : Srt key (L1 ++ L2)) (hR : Srt key (R1 ++ R2)) (h1 : ∀ x ∈ L1, ∀ y ∈ R2, key x ≤ key y) (h2 : ∀ y ∈ R1, ∀ x ∈ L2, key y < key x) (hm1 : SS key m1 (L1 ++ R1)) (hm2 : SS key m2 (L2 ++ R2)) : SS key (m1 ++ m2) (L1 ++ L2 ++ (R1 ++ R2)) := by
  refine ⟨Srt.append key hm1.1 hm2.1 fun x hx y hy => ?_, ?_⟩
  · rcases List.mem_append.1 ((hm1.2.mem key x).1 hx) with hx | hx <;> rcases List.mem_append.1 ((hm2.2.mem key y).1 hy) with hy | hy
    · exact Srt.cross key hL x hx y hy
    · exact h1 x hx y hy
    · exact Nat.le_of_lt (h2 x hx y hy)
    · exact Srt.cross key hR x hx y hy
  · refine (Eqv.append key hm1.2 hm2.2).trans key ?_
    have e : Eqv key (R1 ++ L2) (L2 ++ R1) := Eqv.flip key fun y hy x hx => Nat.ne_of_lt (h2 y hy x hx)
    have := Eqv.append key (Eqv.append key (Eqv.refl key L1) e) (Eqv.refl key R2)
    simpa [List.append_assoc] using this
theorem take_getD (l : List α) (k : Nat) (h : k < l.length) : l.take (k + 1) = l.take k ++ [l.getD k d] := by
  rw [List.take_succ_eq_append_getElem h, List.getD, List.getElem?_eq_getElem h]; rfl
theorem drop_getD (l : List α) (k : Nat) (h : k < l.length) : l.drop k = l.getD k d :: l.drop (k + 1) := by
  rw [List.drop_eq_getElem_cons h, List.getD, List.getElem?_eq_getElem h]; rfl
theorem SS.sorted {m : List α} (h : Srt key m) : SS key m m := ⟨h, Eqv.refl key m⟩
theorem mem_take_getD {l : List α} {t : Nat} {x : α} (h : x ∈ l.take t) : ∃ i, i < t ∧ i < l.length ∧ l[i]? = some x := by
  obtain ⟨i, hi, rfl⟩ := List.getElem_of_mem h
  rw [List.length_take] at hi
  exact ⟨i, by omega, by omega, by rw [List.getElem_take, List.getElem?_eq_getElem (by omega)]⟩
theorem mem_drop_getD {l : List α} {t : Nat} {x : α} (h : x ∈ l.drop t) : ∃ i, t ≤ i ∧ i < l.length ∧ l[i]? = some x := by
  obtain ⟨i, hi, rfl⟩ := List.getElem_of_mem h
  rw [List.length_drop] at hi
  exact ⟨t + i, by omega, by omega, by rw [List.getElem_drop, List.getElem?_eq_getElem (by omega)]⟩
theorem getD_at {l : List α} {i : Nat} (h : i < l.length) : l[i]? = some (l.getD i d) := by simp [List.getD, List.getElem?_eq_getElem h]
/-- One element ahead of a sorted list comes to its place. -/
theorem ins_left {x : α} {R : List α} {t : Nat} (hR : Srt key R) (ht : t ≤ R.length) (h1 : t = 0 ∨ key (R.getD (t - 1) d) < key x) (h2 : t = R.length ∨ key x ≤ key (R.getD t d)) : SS key (R.take t ++ (x :: R.drop t)) (x :: R) := by
  have hb : ∀ y ∈ R.take t, key y < key x := fun y hy => by
    obtain ⟨i, hi, hl, e⟩ := mem_take_getD hy
    rcases h1 with h1 | h1
    · omega
    · have := Srt.get key hR e (getD_at d (show t - 1 < R.length by omega)) (by omega)
      omega
  have ha : ∀ y ∈ R.drop t, key x ≤ key y := fun y hy => by
    obtain ⟨i, hi, hl, e⟩ := mem_drop_getD hy
    rcases h2 with h2 | h2
    · omega
    · have := Srt.get key hR (getD_at d (show t < R.length by omega)) e hi
      omega
  have hR' : Srt key (R.take t ++ R.drop t) := by rw [List.take_append_drop]; exact hR
  refine ⟨Srt.append key (Srt.left key hR') (List.pairwise_cons.2 ⟨ha, Srt.right key hR'⟩) fun y hy z hz => ?_, ?_⟩
  · rcases List.mem_cons.1 hz with rfl | hz
    · exact Nat.le_of_lt (hb y hy)
    · exact Srt.cross key hR' y hy z hz
  · have e := Eqv.append key (Eqv.flip key (a := R.take t) (b := [x]) fun y hy z hz => by rw [List.mem_singleton.1 hz]; exact Nat.ne_of_lt (hb y hy)) (Eqv.refl key (R.drop t))
    rw [List.append_assoc, List.append_assoc, List.take_append_drop] at e
    exact e
/-- One element behind a sorted list comes to its place. -/
theorem ins_right {y : α} {L : List α} {t : Nat} (hL : Srt key L) (ht : t ≤ L.length) (h1 : t = 0 ∨ key (L.getD (t - 1) d) ≤ key y) (h2 : t = L.length ∨ key y < key (L.getD t d)) : SS key (L.take t ++ (y :: L.drop t)) (L ++ [y]) := by
  have hb : ∀ x ∈ L.take t, key x ≤ key y := fun x hx => by
    obtain ⟨i, hi, hl, e⟩ := mem_take_getD hx
    rcases h1 with h1 | h1
    · omega
    · have := Srt.get key hL e (getD_at d (show t - 1 < L.length by omega)) (by omega)
      omega
  have ha : ∀ x ∈ L.drop t, key y < key x := fun x hx => by
    obtain ⟨i, hi, hl, e⟩ := mem_drop_getD hx
    rcases h2 with h2 | h2
    · omega
    · have := Srt.get key hL (getD_at d (show t < L.length by omega)) e hi
      omega
  have hL' : Srt key (L.take t ++ L.drop t) := by rw [List.take_append_drop]; exact hL
  refine ⟨Srt.append key (Srt.left key hL') (List.pairwise_cons.2 ⟨fun z hz => Nat.le_of_lt (ha z hz), Srt.right key hL'⟩) fun x hx z hz => ?_, ?_⟩
  · rcases List.mem_cons.1 hz with rfl | hz
    · exact hb x hx
    · exact Srt.cross key hL' x hx z hz
  · have e := Eqv.append key (Eqv.refl key (L.take t)) (Eqv.flip key (a := [y]) (b := L.drop t) fun z hz x hx => by rw [List.mem_singleton.1 hz]; exact Nat.ne_of_lt (ha x hx))
    rw [← List.append_assoc (L.take t) (L.drop t), List.take_append_drop] at e
    exact e
/-- An element goes one place on. -/
theorem bub_right (P R S : List α) (x : α) (t : Nat) (h : t < R.length) : sw d (P ++ (R.take t ++ (x :: (R.drop t ++ S)))) (P.length + t) (P.length + t + 1) = P ++ (R.take (t + 1) ++ (x :: (R.drop (t + 1) ++ S))) := by
  have e := (sw_mid d (P ++ R.take t) (R.drop (t + 1) ++ S) x (R.getD t d)).2
  rw [drop_getD d R t h, take_getD d R t h]
  simp only [List.append_assoc, List.length_append, List.length_take, Nat.min_eq_left (Nat.le_of_lt h), List.cons_append, List.nil_append] at e ⊢
  exact e
theorem bub_left (P L S : List α) (y : α) (t : Nat) (h : t < L.length) : sw d (P ++ (L.take (t + 1) ++ (y :: (L.drop (t + 1) ++ S)))) (P.length + t + 1) (P.length + t) = P ++ (L.take t ++ (y :: (L.drop t ++ S))) := by
  have e := (sw_mid d (P ++ L.take t) (L.drop (t + 1) ++ S) (L.getD t d) y).1
  rw [drop_getD d L t h, take_getD d L t h]
  simp only [List.append_assoc, List.length_append, List.length_take, Nat.min_eq_left (Nat.le_of_lt h), List.cons_append, List.nil_append] at e ⊢
  exact e
theorem mrg_h1 {P L R S : List α} {a m b s e : Nat} (ha : P.length = a) (hm : a + L.length = m) (hb : m + R.length = b) (hL : Srt key L) (hR : Srt key R) (hs : a ≤ s ∧ s ≤ m) (he : m ≤ e ∧ e ≤ b) (h : s = a ∨ e = b ∨ key ((P ++ (L ++ (R ++ S))).getD (s - 1) d) ≤ key ((P ++ (L ++ (R ++ S))).getD e d)) : ∀ x ∈ L.take (s - a), ∀ y ∈ R.drop (e - m), key x ≤ key y := fun x hx y hy => by
  obtain ⟨i, hi, hl, e1⟩ := mem_take_getD hx
  obtain ⟨j, hj, hl', e2⟩ := mem_drop_getD hy
  rcases h with h | h | h
  · omega
  · omega
  · have h1 := Srt.get key hL e1 (two_get1 d (R := R) (S := S) (P := P) (L := L) (i := s - 1) (by omega) (by omega)) (by omega)
    have h2 := Srt.get key hR (two_get2 d (R := R) (S := S) (P := P) (L := L) (i := e) (by omega) (by omega)) e2 (by omega)
    omega
theorem mrg_h2 {P L R S : List α} {a m b s e : Nat} (ha : P.length = a) (hm : a + L.length = m) (hb : m + R.length = b) (hL : Srt key L) (hR : Srt key R) (hs : a ≤ s ∧ s ≤ m) (he : m ≤ e ∧ e ≤ b) (h : s = m ∨ e = m ∨ key ((P ++ (L ++ (R ++ S))).getD (e - 1) d) < key ((P ++ (L ++ (R ++ S))).getD s d)) : ∀ y ∈ R.take (e - m), ∀ x ∈ L.drop (s - a), key y < key x := fun y hy x hx => by
  obtain ⟨i, hi, hl, e1⟩ := mem_drop_getD hx
  obtain ⟨j, hj, hl', e2⟩ := mem_take_getD hy
  rcases h with h | h | h
  · omega
  · omega
  · have h1 := Srt.get key hL (two_get1 d (R := R) (S := S) (P := P) (L := L) (i := s) (by omega) (by omega)) e1 (by omega)
    have h2 := Srt.get key hR e2 (two_get2 d (R := R) (S := S) (P := P) (L := L) (i := e - 1) (by omega) (by omega)) (by omega)
    omega
end
end Go.Proofs.Ytkckakfkeooepaa
