/- Plain facts for the merge in place, and for blocks. -/
import Derived.Test.YtkckakfkeooepaaJSort2
namespace Go.Proofs.Ytkckakfkeooepaa
set_option linter.all false
set_option linter.unusedSimpArgs false
set_option linter.unusedVariables false
set_option linter.unnecessarySimpa false
section
variable {α : Type} (key : α → Nat) (d : α)
theorem get_R {P L R S : List α} {m i : Nat} (hm : P.length + L.length = m) (h : m ≤ i) (h' : i < m + R.length) : (P ++ (L ++ (R ++ S))).getD i d = R.getD (i - m) d := by
  have := two_get2 d (P := P) (L := L) (R := R) (S := S) (i := i) (by omega) (by omega)
  rw [show P.length + L.length = m from hm] at this
  have e : ∀ (l : List α) (j : Nat) (v : α), l[j]? = some v → l.getD j d = v := fun l j v h => by simp [List.getD, h]
  rw [e _ _ _ this]
theorem get_L {P L R S : List α} {a i : Nat} (ha : P.length = a) (h : a ≤ i) (h' : i < a + L.length) : (P ++ (L ++ (R ++ S))).getD i d = L.getD (i - a) d := by
  have := two_get1 d (P := P) (L := L) (R := R) (S := S) (i := i) (by omega) (by omega)
  rw [ha] at this
  have e : ∀ (l : List α) (j : Nat) (v : α), l[j]? = some v → l.getD j d = v := fun l j v h => by simp [List.getD, h]
  rw [e _ _ _ this]
theorem left_done {P R S : List α} {x : α} {a m b i : Nat} (ha : P.length = a) (hm : a + 1 = m) (hb : m + R.length = b) (hR : Srt key R) (h1 : m ≤ i) (h2 : i ≤ b)
    (h4 : i = m ∨ key ((P ++ ([x] ++ (R ++ S))).getD (i - 1) d) < key ((P ++ ([x] ++ (R ++ S))).getD a d)) (h5 : i = b ∨ key ((P ++ ([x] ++ (R ++ S))).getD a d) ≤ key ((P ++ ([x] ++ (R ++ S))).getD i d)) : SS key (R.take (i - m) ++ (x :: R.drop (i - m))) ([x] ++ R) := by
  rw [get_L d (L := [x]) ha (Nat.le_refl _) (by simp), Nat.sub_self] at h4 h5
  refine ins_left key d hR (by omega) ?_ ?_
  · rcases h4 with h | h
    · exact .inl (by omega)
    · by_cases e : i = m
      · exact .inl (by omega)
      · rw [get_R d (m := m) (by simp; omega) (by omega) (by omega)] at h
        rw [show i - m - 1 = i - 1 - m by omega]
        exact .inr h
  · rcases h5 with h | h
    · exact .inl (by omega)
    · by_cases e : i = b
      · exact .inl (by omega)
      · rw [get_R d (m := m) (by simp; omega) (by omega) (by omega)] at h
        exact .inr h
theorem right_done {P L S : List α} {y : α} {a m i : Nat} (ha : P.length = a) (hm : a + L.length = m) (hL : Srt key L) (h1 : a ≤ i) (h2 : i ≤ m)
    (h4 : i = a ∨ key ((P ++ (L ++ ([y] ++ S))).getD (i - 1) d) ≤ key ((P ++ (L ++ ([y] ++ S))).getD m d)) (h5 : i = m ∨ key ((P ++ (L ++ ([y] ++ S))).getD m d) < key ((P ++ (L ++ ([y] ++ S))).getD i d)) : SS key (L.take (i - a) ++ (y :: L.drop (i - a))) (L ++ [y]) := by
  rw [get_R d (R := [y]) (m := m) (by omega) (Nat.le_refl _) (by simp), Nat.sub_self] at h4 h5
  refine ins_right key d hL (by omega) ?_ ?_
  · rcases h4 with h | h
    · exact .inl (by omega)
    · by_cases e : i = a
      · exact .inl (by omega)
      · rw [get_L d (a := a) ha (by omega) (by omega)] at h
        rw [show i - a - 1 = i - 1 - a by omega]
        exact .inr h
  · rcases h5 with h | h
    · exact .inl (by omega)
    · by_cases e : i = m
      · exact .inl (by omega)
      · rw [get_L d (a := a) ha (by omega) (by omega)] at h
        exact .inr h
theorem rot_cut {P L R S : List α} {a m b mid u : Nat} (ha : P.length = a) (hm : a + L.length = m) (hb : m + R.length = b) (h1 : a ≤ u) (h2 : u < m) (h3 : u < mid) (h4 : mid + m ≤ u + b) :
    Rot (P ++ (L.take (u - a) ++ (R.take (mid - u) ++ (L.drop (u - a) ++ (R.drop (mid - u) ++ S))))) m (m - u) (mid + m - u - m) (P ++ (L ++ (R ++ S))) := by
  have := Rot.start (P ++ L.take (u - a)) (L.drop (u - a)) (R.take (mid - u)) (R.drop (mid - u) ++ S) (by simp; omega) (by simp; omega)
  simp only [List.append_assoc, List.length_append, List.length_take, List.length_drop] at this
  rw [← List.append_assoc (L.take (u - a)) (L.drop (u - a)), List.take_append_drop, ← List.append_assoc (R.take (mid - u)) (R.drop (mid - u)), List.take_append_drop] at this
  rw [show P.length + min (u - a) L.length + (L.length - (u - a)) = m by omega, show L.length - (u - a) = m - u by omega, show min (mid - u) R.length = mid + m - u - m by omega] at this
  exact this
theorem cut_none {P L R S : List α} {a m b mid u : Nat} (hm : a + L.length = m) (hb : m + R.length = b) (h1 : a ≤ u) (h2 : u ≤ m) (h3 : u ≤ mid) (h4 : mid + m ≤ u + b) (h : u = m ∨ u = mid) :
    P ++ (L ++ (R ++ S)) = P ++ (L.take (u - a) ++ (R.take (mid - u) ++ (L.drop (u - a) ++ (R.drop (mid - u) ++ S)))) := by
  rcases h with rfl | rfl
  · rw [List.take_of_length_le (show L.length ≤ u - a by omega), List.drop_eq_nil_of_le (show L.length ≤ u - a by omega)]
    rw [List.nil_append, ← List.append_assoc (R.take (mid - u)) (R.drop (mid - u)), List.take_append_drop]
  · rw [Nat.sub_self]
    rw [List.take_zero, List.drop_zero, List.nil_append, ← List.append_assoc (L.take (u - a)) (L.drop (u - a)), List.take_append_drop]
theorem srt_take {l : List α} (h : Srt key l) (k : Nat) : Srt key (l.take k) := Srt.left key (b := l.drop k) (by rw [List.take_append_drop]; exact h)
theorem srt_drop {l : List α} (h : Srt key l) (k : Nat) : Srt key (l.drop k) := Srt.right key (a := l.take k) (by rw [List.take_append_drop]; exact h)
theorem srt_nil1 {a b : List α} (ha : Srt key a) (hb : Srt key b) (h : a.length = 0 ∨ b.length = 0) : Srt key (a ++ b) := by
  rcases h with h | h
  · rw [List.eq_nil_of_length_eq_zero h]; exact hb
  · rw [List.eq_nil_of_length_eq_zero h, List.append_nil]; exact ha
end
end Go.Proofs.Ytkckakfkeooepaa
