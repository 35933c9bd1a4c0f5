/- Plain facts on lists with a key: what exchanges, rotations, merges and insertions come to; sorted lists in which equal keys keep their order. -/
import Derived.Test.YtkckakfkeooepaaJMore
namespace Go.Proofs.Ytkckakfkeooepaa
set_option linter.all false
set_option linter.unusedSimpArgs false
set_option linter.unusedVariables false
set_option linter.unnecessarySimpa false
section
variable {α : Type} (key : α → Nat) (d : α)
/-- Two places exchanged. -/
def sw (xs : List α) (i j : Nat) : List α := (xs.set i (xs.getD j d)).set j (xs.getD i d)
@[simp] theorem sw_length (xs : List α) (i j : Nat) : (sw d xs i j).length = xs.length := by simp [sw]
theorem sw_get (xs : List α) (i j k : Nat) (hi : i < xs.length) (hj : j < xs.length) : (sw d xs i j)[k]? = if k = j then xs[i]? else if k = i then xs[j]? else xs[k]? := by
  unfold sw
  simp only [List.getElem?_set, List.length_set, List.getD, List.getElem?_eq_getElem hi, List.getElem?_eq_getElem hj, Option.getD_some]
  (repeat' split) <;> first | omega | rfl | (subst_vars; simp [List.getElem?_eq_getElem, *]; done) | (subst_vars; omega)
theorem list_ext {xs ys : List α} (hl : xs.length = ys.length) (h : ∀ k, k < ys.length → xs[k]? = ys[k]?) : xs = ys := by
  apply List.ext_getElem?
  intro k
  by_cases hk : k < ys.length
  · exact h k hk
  · rw [List.getElem?_eq_none (by omega), List.getElem?_eq_none (by omega)]
/-! ### Reversed -/
def RevI (xs : List α) (i : Nat) (cur : List α) : Prop := cur.length = xs.length ∧ 2 * i ≤ xs.length + 1 ∧ ∀ k, k < xs.length → cur[k]? = if k < i ∨ xs.length ≤ k + i then xs[xs.length - 1 - k]? else xs[k]?
theorem RevI.zero (xs : List α) : RevI xs 0 xs := ⟨rfl, by omega, fun k hk => by rw [if_neg (by omega)]⟩
theorem RevI.step {xs cur : List α} {i j : Nat} (h : RevI xs i cur) (hj : i + j + 1 = xs.length) (hlt : i < j) : RevI xs (i + 1) (sw d cur i j) := by
  obtain ⟨h1, h2, h3⟩ := h
  refine ⟨by simp [h1], by omega, fun k hk => ?_⟩
  rw [sw_get d cur i j k (by omega) (by omega)]
  by_cases e1 : k = j
  · subst e1
    rw [if_pos rfl, h3 i (by omega), if_neg (by omega), if_pos (by omega)]
    congr 1; omega
  · rw [if_neg e1]
    by_cases e2 : k = i
    · subst e2
      rw [if_pos rfl, h3 j (by omega), if_neg (by omega), if_pos (by omega)]
      congr 1; omega
    · rw [if_neg e2, h3 k hk]
      by_cases e3 : k < i ∨ xs.length ≤ k + i
      · rw [if_pos e3, if_pos (by omega)]
      · rw [if_neg e3, if_neg (by omega)]
theorem RevI.done {xs cur : List α} {i : Nat} (h : RevI xs i cur) (hlt : xs.length ≤ 2 * i + 1) : cur = xs.reverse := by
  obtain ⟨h1, h2, h3⟩ := h
  refine list_ext (by simp [h1]) fun k hk => ?_
  rw [List.length_reverse] at hk
  rw [h3 k hk, List.getElem?_reverse hk]
  by_cases e3 : k < i ∨ xs.length ≤ k + i
  · rw [if_pos e3]
  · rw [if_neg e3]; congr 1; omega
/-! ### Ranges exchanged -/
def Swp (xs : List α) (a b n : Nat) (cur : List α) : Prop := cur.length = xs.length ∧ ∀ k, cur[k]? = if a ≤ k ∧ k < a + n then xs[k - a + b]? else if b ≤ k ∧ k < b + n then xs[k - b + a]? else xs[k]?
theorem Swp.zero (xs : List α) (a b : Nat) : Swp xs a b 0 xs := ⟨rfl, fun k => by rw [if_neg (by omega), if_neg (by omega)]⟩
theorem Swp.step {xs cur : List α} {a b n i : Nat} (h : Swp xs a b i cur) (hab : a + n ≤ b) (hb : b + n ≤ xs.length) (hi : i < n) : Swp xs a b (i + 1) (sw d cur (a + i) (b + i)) := by
  obtain ⟨h1, h3⟩ := h
  refine ⟨by simp [h1], fun k => ?_⟩
  rw [sw_get d cur _ _ k (by omega) (by omega), h3 (a + i), h3 (b + i), h3 k]
  (repeat' split) <;> first | omega | rfl | (congr 1; omega)
theorem Swp.done {p u m v s cur : List α} (h : Swp (p ++ (u ++ (m ++ (v ++ s)))) p.length (p.length + u.length + m.length) u.length cur) (hv : v.length = u.length) : cur = p ++ (v ++ (m ++ (u ++ s))) := by
  obtain ⟨h1, h3⟩ := h
  refine list_ext (by simp [h1]; omega) fun k hk => ?_
  rw [h3 k]
  simp only [List.getElem?_append, List.length_append] at hk ⊢
  (repeat' split) <;> first | omega | rfl | (congr 1; omega)
/-! ### Rotations -/
def Rot (T : List α) (m i j : Nat) (cur : List α) : Prop := 0 < i ∧ 0 < j ∧ ∃ p u v s, cur = p ++ (u ++ (v ++ s)) ∧ p.length + i = m ∧ u.length = i ∧ v.length = j ∧ p ++ (v ++ (u ++ s)) = T
theorem Rot.left {T cur : List α} {m i j : Nat} (h : Rot T m i j cur) (hij : j < i) : (m - i) + j ≤ m ∧ m + j ≤ cur.length ∧ ∀ cur', Swp cur (m - i) m j cur' → Rot T m (i - j) j cur' ∧ cur'.length = cur.length := by
  obtain ⟨h1, h2, p, u, v, s, rfl, hp, hu, hv, ht⟩ := h
  refine ⟨by omega, by simp; omega, fun cur' hs => ?_⟩
  have hl := hs.1
  obtain ⟨x, y, rfl, hx⟩ : ∃ x y, u = x ++ y ∧ x.length = j := ⟨u.take j, u.drop j, (List.take_append_drop _ _).symm, by rw [List.length_take]; omega⟩
  have e1 : m - i = p.length := by omega
  have e2 : m = p.length + x.length + y.length := by rw [List.length_append] at hu; omega
  have hs' : Swp (p ++ (x ++ (y ++ (v ++ s)))) p.length (p.length + x.length + y.length) x.length cur' := by
    rw [← e2, hx, ← e1]; simpa using hs
  have := hs'.done (by omega)
  subst this
  refine ⟨⟨by omega, h2, p ++ v, y, x, s, by simp, ?_, ?_, hx, by rw [← ht]; simp⟩, by simpa using hl⟩
  · rw [List.length_append] at hu ⊢; omega
  · rw [List.length_append] at hu; omega
theorem Rot.right {T cur : List α} {m i j : Nat} (h : Rot T m i j cur) (hij : i < j) : (m - i) + i ≤ m + j - i ∧ m + j ≤ cur.length ∧ ∀ cur', Swp cur (m - i) (m + j - i) i cur' → Rot T m i (j - i) cur' ∧ cur'.length = cur.length := by
  obtain ⟨h1, h2, p, u, v, s, rfl, hp, hu, hv, ht⟩ := h
  refine ⟨by omega, by simp; omega, fun cur' hs => ?_⟩
  have hl := hs.1
  obtain ⟨x, y, rfl, hy⟩ : ∃ x y, v = x ++ y ∧ y.length = i := ⟨v.take (j - i), v.drop (j - i), (List.take_append_drop _ _).symm, by rw [List.length_drop]; omega⟩
  have e1 : m - i = p.length := by omega
  have e2 : m + j - i = p.length + u.length + x.length := by rw [List.length_append] at hv; omega
  have hs' : Swp (p ++ (u ++ (x ++ (y ++ s)))) p.length (p.length + u.length + x.length) u.length cur' := by
    rw [← e2, hu, ← e1]; simpa using hs
  have := hs'.done (by omega)
  subst this
  refine ⟨⟨h1, by omega, p, y, x, u ++ s, rfl, by omega, hy, ?_, by rw [← ht]; simp⟩, by simpa using hl⟩
  rw [List.length_append] at hv; omega
theorem Rot.last {T cur : List α} {m i : Nat} (h : Rot T m i i cur) : (m - i) + i ≤ m ∧ m + i ≤ cur.length ∧ ∀ cur', Swp cur (m - i) m i cur' → cur' = T := by
  obtain ⟨h1, h2, p, u, v, s, rfl, hp, hu, hv, ht⟩ := h
  refine ⟨by omega, by simp; omega, fun cur' hs => ?_⟩
  have e1 : m - i = p.length := by omega
  have e2 : m = p.length + u.length + ([] : List α).length := by simp; omega
  have hs' : Swp (p ++ (u ++ ([] ++ (v ++ s)))) p.length (p.length + u.length + ([] : List α).length) u.length cur' := by
    rw [← e2, hu, ← e1]; simpa using hs
  have := hs'.done (by omega)
  rw [this, ← ht]; simp
theorem Rot.le {T cur : List α} {m i j : Nat} (h : Rot T m i j cur) : i ≤ m ∧ m + j ≤ cur.length ∧ 0 < i ∧ 0 < j := by
  obtain ⟨h1, h2, p, u, v, s, rfl, hp, hu, hv, ht⟩ := h
  exact ⟨by omega, by simp; omega, h1, h2⟩
theorem Rot.start (p u v s : List α) (hu : 0 < u.length) (hv : 0 < v.length) : Rot (p ++ (v ++ (u ++ s))) (p.length + u.length) u.length v.length (p ++ (u ++ (v ++ s))) := ⟨hu, hv, p, u, v, s, rfl, rfl, rfl, rfl, rfl⟩
end
end Go.Proofs.Ytkckakfkeooepaa
