/- Plain facts: sorted blocks; the first of each run. -/
import Derived.Test.YtkckakfkeooepaaJSort3
namespace Go.Proofs.Ytkckakfkeooepaa
set_option linter.all false
set_option linter.unusedSimpArgs false
set_option linter.unusedVariables false
set_option linter.unnecessarySimpa false
section
variable {α : Type} (key : α → Nat) (d : α)
/-- Sorted blocks of one length, the last one no longer. -/
inductive Chs (k : Nat) : List α → Prop
  | last (l : List α) (h : l.length ≤ k) (hs : Srt key l) : Chs k l
  | cons (w l : List α) (h : w.length = k) (hs : Srt key w) (hl : Chs k l) : Chs k (w ++ l)
inductive ChF (k : Nat) : List α → Prop
  | nil : ChF k []
  | snoc (p w : List α) (hp : ChF k p) (h : w.length = k) (hs : Srt key w) : ChF k (p ++ w)
theorem ChF.chs {k : Nat} {p : List α} (h : ChF key k p) : ∀ {t : List α}, Chs key k t → Chs key k (p ++ t) := by
  induction h with
  | nil => exact fun h => h
  | snoc p w hp h hs ih => intro t ht; rw [List.append_assoc]; exact ih (.cons w t h hs ht)
theorem Chs.one {k : Nat} {t : List α} (h : Chs key k t) (hk : t.length ≤ k) : Srt key t := by
  cases h with
  | last _ h hs => exact hs
  | cons w l h hs hl =>
    have : l = [] := List.eq_nil_of_length_eq_zero (by simp at hk; omega)
    subst this; rw [List.append_nil]; exact hs
theorem Chs.cut {k : Nat} {t : List α} (h : Chs key k t) (hk : k < t.length) : ∃ w l, t = w ++ l ∧ w.length = k ∧ Srt key w ∧ Chs key k l := by
  cases h with
  | last _ h hs => omega
  | cons w l h hs hl => exact ⟨w, l, rfl, h, hs, hl⟩
theorem Chs.cut' {k : Nat} {t : List α} (h : Chs key k t) (hk : k ≤ t.length) : ∃ w l, t = w ++ l ∧ w.length = k ∧ Srt key w ∧ Chs key k l := by
  rcases Nat.lt_or_eq_of_le hk with hk | hk
  · exact h.cut key hk
  · exact ⟨t, [], by simp, hk.symm, h.one key (by omega), .last [] (by simp) (Srt.nil key)⟩
theorem Chs.two {k : Nat} {t : List α} (h : Chs key k t) (h0 : 0 < k) (hk : 2 * k ≤ t.length) : ∃ w v l, t = w ++ (v ++ l) ∧ w.length = k ∧ v.length = k ∧ Srt key w ∧ Srt key v ∧ Chs key k l := by
  obtain ⟨w, l, rfl, h1, h2, h3⟩ := h.cut' key (by omega)
  obtain ⟨v, l, rfl, h4, h5, h6⟩ := h3.cut' key (by simp at hk; omega)
  exact ⟨w, v, l, rfl, h1, h4, h2, h5, h6⟩
theorem Chs.mid {k : Nat} {t : List α} (h : Chs key k t) (hk : k < t.length) (h2 : t.length < 2 * k) : ∃ w l, t = w ++ l ∧ w.length = k ∧ Srt key w ∧ Srt key l := by
  obtain ⟨w, l, rfl, h1, h3, h4⟩ := h.cut key hk
  exact ⟨w, l, rfl, h1, h3, h4.one key (by simp at h2; omega)⟩
/-! ### The first of each run -/
def cptA : Nat → List α → List α
  | _, [] => []
  | k, y :: ys => if key y = k then cptA k ys else y :: cptA (key y) ys
def cpt : List α → List α
  | [] => []
  | x :: xs => x :: cptA key (key x) xs
theorem cptA_snoc : ∀ (l : List α) (k : Nat) (x : α), cptA key k (l ++ [x]) = if key x = key ((l.getLast?).getD x) ∧ l ≠ [] ∨ (l = [] ∧ key x = k) then cptA key k l else cptA key k l ++ [x]
  | [], k, x => by by_cases h : key x = k <;> simp [cptA, h]
  | y :: l, k, x => by
    have ih := cptA_snoc l
    have e : ∀ k', key y = k' → (cptA key k' (l ++ [x]) = if key x = key (((y :: l).getLast?).getD x) ∧ (y :: l) ≠ [] ∨ ((y :: l) = [] ∧ key x = k) then cptA key k' l else cptA key k' l ++ [x]) := by
      intro k' hk
      rw [ih]
      cases l with
      | nil => simp [hk]
      | cons z l => simp [List.getLast?_cons_cons]
    simp only [List.cons_append, cptA]
    by_cases h : key y = k
    · rw [if_pos h, if_pos h, e k h]
    · rw [if_neg h, if_neg h, e (key y) rfl]
      split <;> simp
/-- One element more: kept if it is not of the key of the one ahead. -/
theorem cpt_step (xs : List α) (k : Nat) (h : k + 1 < xs.length) : cpt key (xs.take (k + 2)) = if key (xs.getD (k + 1) d) = key (xs.getD k d) then cpt key (xs.take (k + 1)) else cpt key (xs.take (k + 1)) ++ [xs.getD (k + 1) d] := by
  rw [take_getD d xs (k + 1) h]
  have hne : xs.take (k + 1) ≠ [] := by intro e; have := congrArg List.length e; rw [List.length_take, List.length_nil] at this; omega
  have hlast : (xs.take (k + 1)).getLast? = some (xs.getD k d) := by
    rw [take_getD d xs k (by omega)]; simp
  generalize xs.getD (k + 1) d = x at *
  generalize xs.getD k d = z at *
  cases hl : xs.take (k + 1) with
  | nil => exact absurd hl hne
  | cons y l =>
    rw [hl] at hlast
    simp only [List.cons_append, cpt]
    rw [cptA_snoc]
    cases l with
    | nil =>
      simp at hlast
      subst hlast
      by_cases h : key x = key y <;> simp [h]
    | cons u l =>
      rw [List.getLast?_cons_cons] at hlast
      rw [hlast]
      by_cases h : key x = key z <;> simp [h]
theorem cpt_one (xs : List α) (h : 0 < xs.length) : cpt key (xs.take 1) = xs.take 1 := by
  cases xs with
  | nil => simp at h
  | cons x xs => simp [cpt, cptA]
theorem cpt_short (xs : List α) (h : xs.length < 2) : cpt key xs = xs := by
  match xs, h with
  | [], _ => rfl
  | [x], _ => simp [cpt, cptA]
  | _ :: _ :: _, h => simp at h; omega
/-- What the inner loop keeps: a prefix that is done, a rest that is as it was. -/
def Cpt (xs : List α) (i j : Nat) (cur : List α) : Prop := cur.length = xs.length ∧ 1 ≤ i ∧ i < j ∧ j ≤ xs.length ∧ cur.take i = cpt key (xs.take j) ∧ ∀ k, j ≤ k + 1 → cur[k]? = xs[k]?
theorem Cpt.start {xs : List α} {i : Nat} (h1 : 1 ≤ i) (hi : i < xs.length) (h : cpt key (xs.take i) = xs.take i) (he : key (xs.getD i d) = key (xs.getD (i - 1) d)) : Cpt key xs i (i + 1) xs := by
  refine ⟨rfl, h1, by omega, by omega, ?_, fun _ _ => rfl⟩
  have := cpt_step key d xs (i - 1) (by omega)
  rw [show i - 1 + 1 = i by omega, show i - 1 + 2 = i + 1 by omega, if_pos he] at this
  rw [this, h]
theorem Cpt.skip {xs cur : List α} {i j : Nat} (h : Cpt key xs i j cur) (hj : j < xs.length) (he : key (cur.getD j d) = key (cur.getD (j - 1) d)) : Cpt key xs i (j + 1) cur := by
  obtain ⟨h1, h2, h3, h4, h5, h6⟩ := h
  have e1 : cur.getD j d = xs.getD j d := by simp only [List.getD, h6 j (by omega)]
  have e2 : cur.getD (j - 1) d = xs.getD (j - 1) d := by simp only [List.getD, h6 (j - 1) (by omega)]
  refine ⟨h1, h2, by omega, by omega, ?_, fun k hk => h6 k (by omega)⟩
  have := cpt_step key d xs (j - 1) (by omega)
  rw [show j - 1 + 1 = j by omega, show j - 1 + 2 = j + 1 by omega, if_pos (by rw [← e1, ← e2]; exact he)] at this
  rw [this, h5]
theorem Cpt.keep {xs cur : List α} {i j : Nat} (h : Cpt key xs i j cur) (hj : j < xs.length) (he : key (cur.getD j d) ≠ key (cur.getD (j - 1) d)) : Cpt key xs (i + 1) (j + 1) (cur.set i (cur.getD j d)) := by
  obtain ⟨h1, h2, h3, h4, h5, h6⟩ := h
  have e1 : cur.getD j d = xs.getD j d := by simp only [List.getD, h6 j (by omega)]
  have e2 : cur.getD (j - 1) d = xs.getD (j - 1) d := by simp only [List.getD, h6 (j - 1) (by omega)]
  refine ⟨by simp [h1], by omega, by omega, by omega, ?_, fun k hk => ?_⟩
  · have := cpt_step key d xs (j - 1) (by omega)
    rw [show j - 1 + 1 = j by omega, show j - 1 + 2 = j + 1 by omega, if_neg (by rw [← e1, ← e2]; exact he)] at this
    rw [this, ← h5, ← e1, take_getD d _ i (by simp; omega), List.take_set_of_le (by omega)]
    congr 2
    simp [List.getD, List.getElem?_set, show i < cur.length by omega]
  · rw [List.getElem?_set_ne (by omega)]
    exact h6 k (by omega)
/-! ### What they come to -/
theorem fk_cptA (k : Nat) : ∀ (l : List α) (p : Nat), Srt key l → (∀ x ∈ l, p ≤ key x) → fk key k (cptA key p l) = if k = p then [] else (fk key k l).take 1
  | [], p, _, _ => by simp [cptA, fk]
  | y :: l, p, hs, hp => by
    have hs' := List.pairwise_cons.1 hs
    have hy := hp y (by simp)
    unfold cptA
    by_cases h : key y = p
    · rw [if_pos h, fk_cptA k l p hs'.2 (fun x hx => hp x (List.mem_cons_of_mem _ hx))]
      by_cases hk : k = p
      · rw [if_pos hk, if_pos hk]
      · rw [if_neg hk, if_neg hk]
        have : fk key k (y :: l) = fk key k l := by simp [fk, List.filter_cons, show ¬ key y = k by omega]
        rw [this]
    · rw [if_neg h]
      have ih := fk_cptA k l (key y) hs'.2 (fun x hx => hs'.1 x hx)
      by_cases hky : key y = k
      · have e1 : fk key k (y :: cptA key (key y) l) = y :: fk key k (cptA key (key y) l) := by simp [fk, List.filter_cons, hky]
        have e2 : fk key k (y :: l) = y :: fk key k l := by simp [fk, List.filter_cons, hky]
        rw [e1, ih, if_pos hky.symm, if_neg (by omega), e2]; rfl
      · have e1 : fk key k (y :: cptA key (key y) l) = fk key k (cptA key (key y) l) := by simp [fk, List.filter_cons, hky]
        have e2 : fk key k (y :: l) = fk key k l := by simp [fk, List.filter_cons, hky]
        rw [e1, ih, if_neg (fun e => hky e.symm), e2]
        by_cases hk : k = p
        · rw [if_pos hk, fk_nil key (fun x hx e => by have := hs'.1 x hx; omega)]; rfl
        · rw [if_neg hk]
theorem fk_cpt (k : Nat) (l : List α) (hs : Srt key l) : fk key k (cpt key l) = (fk key k l).take 1 := by
  cases l with
  | nil => rfl
  | cons x l =>
    have hs' := List.pairwise_cons.1 hs
    have ih := fk_cptA key k l (key x) hs'.2 (fun y hy => hs'.1 y hy)
    by_cases h : key x = k
    · have e1 : fk key k (x :: cptA key (key x) l) = x :: fk key k (cptA key (key x) l) := by simp [fk, List.filter_cons, h]
      have e2 : fk key k (x :: l) = x :: fk key k l := by simp [fk, List.filter_cons, h]
      rw [cpt, e1, ih, if_pos h.symm, e2]; rfl
    · have e1 : fk key k (x :: cptA key (key x) l) = fk key k (cptA key (key x) l) := by simp [fk, List.filter_cons, h]
      have e2 : fk key k (x :: l) = fk key k l := by simp [fk, List.filter_cons, h]
      rw [cpt, e1, ih, if_neg (fun e => h e.symm), e2]
theorem cptA_str : ∀ (l : List α) (p : Nat), Srt key l → (∀ x ∈ l, p ≤ key x) → (∀ x ∈ cptA key p l, p < key x) ∧ (cptA key p l).Pairwise fun x y => key x < key y
  | [], p, _, _ => ⟨(fun _ h => by cases h), List.Pairwise.nil⟩
  | y :: l, p, hs, hp => by
    have hs' := List.pairwise_cons.1 hs
    have hy := hp y (by simp)
    unfold cptA
    by_cases h : key y = p
    · rw [if_pos h]
      exact cptA_str l p hs'.2 (fun x hx => hp x (List.mem_cons_of_mem _ hx))
    · rw [if_neg h]
      obtain ⟨ih1, ih2⟩ := cptA_str l (key y) hs'.2 (fun x hx => hs'.1 x hx)
      refine ⟨fun x hx => ?_, List.pairwise_cons.2 ⟨ih1, ih2⟩⟩
      rcases List.mem_cons.1 hx with rfl | hx
      · omega
      · have := ih1 x hx; omega
/-- In order, one of each key. -/
def Str (l : List α) : Prop := l.Pairwise fun x y => key x < key y
theorem cpt_str (l : List α) (hs : Srt key l) : Str key (cpt key l) := by
  cases l with
  | nil => exact List.Pairwise.nil
  | cons x l =>
    have hs' := List.pairwise_cons.1 hs
    exact List.pairwise_cons.2 (cptA_str key l (key x) hs'.2 hs'.1)
/-- Two such lists of like elements are one. -/
theorem Str.uniq : ∀ {a b : List α}, Str key a → Str key b → (∀ k, fk key k a = fk key k b) → a = b
  | [], [], _, _, _ => rfl
  | [], y :: b, _, _, h => by have := h (key y); simp [fk] at this
  | x :: a, [], _, _, h => by have := h (key x); simp [fk] at this
  | x :: a, y :: b, ha, hb, h => by
    have ha' := List.pairwise_cons.1 ha
    have hb' := List.pairwise_cons.1 hb
    have hxy : key x = key y := by
      rcases Nat.lt_trichotomy (key x) (key y) with hlt | he | hlt
      · have := h (key x)
        rw [fk_nil key (a := y :: b) fun z hz e => by rcases List.mem_cons.1 hz with rfl | hz; omega; have := hb'.1 z hz; omega] at this
        simp [fk] at this
      · exact he
      · have := h (key y)
        rw [fk_nil key (a := x :: a) fun z hz e => by rcases List.mem_cons.1 hz with rfl | hz; omega; have := ha'.1 z hz; omega] at this
        simp [fk] at this
    have e : x = y := by
      have := h (key x)
      have e1 : fk key (key x) (x :: a) = [x] := by
        have : fk key (key x) a = [] := fk_nil key fun z hz e => by have := ha'.1 z hz; omega
        simp only [fk] at this ⊢; simp [List.filter_cons, this]
      have e2 : fk key (key x) (y :: b) = [y] := by
        rw [hxy]
        have : fk key (key y) b = [] := fk_nil key fun z hz e => by have := hb'.1 z hz; omega
        simp only [fk] at this ⊢; simp [List.filter_cons, this]
      rw [e1, e2] at this
      exact (List.cons.inj this).1
    subst e
    congr 1
    refine Str.uniq ha'.2 hb'.2 fun k => ?_
    have := h k
    by_cases hk : key x = k
    · simpa [fk, List.filter_cons, hk] using this
    · simpa [fk, List.filter_cons, hk] using this
/-- Of each key the last one, in order. -/
def TT (t all : List α) : Prop := Str key t ∧ ∀ k, fk key k t = (fk key k all).reverse.take 1
theorem TT.uniq {a b all : List α} (h : TT key a all) (h' : TT key b all) : a = b := Str.uniq key h.1 h'.1 fun k => (h.2 k).trans (h'.2 k).symm
theorem TT.sort {m all : List α} (h : SS key m all.reverse) : TT key (cpt key m) all := by
  refine ⟨cpt_str key m h.1, fun k => ?_⟩
  rw [fk_cpt key k m h.1, h.2.2 k]
  simp [fk, List.filter_reverse]
/-- By insertion. -/
def insK (x : α) : List α → List α
  | [] => [x]
  | y :: l => if key y < key x then y :: insK x l else if key y = key x then x :: l else x :: y :: l
def setK (all : List α) : List α := all.foldl (fun t x => insK key x t) []
theorem insK_mem (x : α) : ∀ (l : List α) (z : α), z ∈ insK key x l → z = x ∨ z ∈ l
  | [], z, h => by simpa [insK] using h
  | y :: l, z, h => by
    unfold insK at h
    split at h
    · rcases List.mem_cons.1 h with rfl | h
      · exact .inr (by simp)
      · rcases insK_mem x l z h with h | h
        · exact .inl h
        · exact .inr (List.mem_cons_of_mem _ h)
    · split at h
      · rcases List.mem_cons.1 h with rfl | h
        · exact .inl rfl
        · exact .inr (List.mem_cons_of_mem _ h)
      · rcases List.mem_cons.1 h with rfl | h
        · exact .inl rfl
        · exact .inr h
theorem insK_str (x : α) : ∀ (l : List α), Str key l → Str key (insK key x l)
  | [], _ => List.pairwise_singleton ..
  | y :: l, h => by
    have h' := List.pairwise_cons.1 h
    unfold insK
    split
    · refine List.pairwise_cons.2 ⟨fun z hz => ?_, insK_str x l h'.2⟩
      rcases insK_mem key x l z hz with rfl | hz
      · assumption
      · exact h'.1 z hz
    · split
      · rename_i h1 h2
        exact List.pairwise_cons.2 ⟨fun z hz => by have := h'.1 z hz; omega, h'.2⟩
      · rename_i h1 h2
        refine List.pairwise_cons.2 ⟨fun z hz => ?_, h⟩
        rcases List.mem_cons.1 hz with rfl | hz
        · omega
        · have := h'.1 z hz; omega
theorem insK_fk (x : α) (k : Nat) : ∀ (l : List α), Str key l → fk key k (insK key x l) = if key x = k then [x] else fk key k l
  | [], _ => by by_cases h : key x = k <;> simp [insK, fk, h]
  | y :: l, h => by
    have h' := List.pairwise_cons.1 h
    have ih := insK_fk x k l h'.2
    have hn : ∀ j, j ≤ key y → fk key j l = [] := fun j hj => fk_nil key fun z hz e => by have := h'.1 z hz; omega
    have hc : ∀ (u : α) (t : List α), fk key k (u :: t) = if key u = k then u :: fk key k t else fk key k t := fun u t => by by_cases e : key u = k <;> simp [fk, List.filter_cons, e]
    unfold insK
    split
    · rw [hc, ih, hc]
      by_cases e : key y = k
      · rw [if_pos e, if_pos e, if_neg (by omega), if_neg (by omega)]
      · rw [if_neg e, if_neg e]
    · split
      · rw [hc, hc]
        by_cases e : key x = k
        · rw [if_pos e, if_pos e, hn k (by omega)]
        · rw [if_neg e, if_neg e, if_neg (by omega)]
      · rw [hc, hc]
        by_cases e : key x = k
        · rw [if_pos e, if_pos e, if_neg (by omega), hn k (by omega)]
        · rw [if_neg e, if_neg e]
theorem TT.nil : TT key ([] : List α) [] := ⟨List.Pairwise.nil, fun _ => rfl⟩
theorem TT.ins {t all : List α} (h : TT key t all) (x : α) : TT key (insK key x t) (all ++ [x]) := by
  refine ⟨insK_str key x t h.1, fun k => ?_⟩
  rw [insK_fk key x k t h.1, fk_append, h.2 k]
  by_cases e : key x = k <;> simp [fk, e]
theorem TT.setK (all : List α) : TT key (setK key all) all := by
  have : ∀ (l t pre : List α), TT key t pre → TT key (l.foldl (fun t x => insK key x t) t) (pre ++ l) := by
    intro l
    induction l with
    | nil => intro t pre h; simpa using h
    | cons x l ih => intro t pre h; have := ih _ _ (h.ins key x); simpa using this
  have h := this all [] [] (TT.nil key)
  rw [List.nil_append] at h
  exact h
theorem TT.eq {t all : List α} (h : TT key t all) : t = Proofs.Ytkckakfkeooepaa.setK key all := h.uniq key (TT.setK key all)
theorem insK_len (x : α) : ∀ l : List α, (insK key x l).length ≤ l.length + 1
  | [] => by simp [insK]
  | y :: l => by
    have ih := insK_len x l
    unfold insK
    split
    · simp; omega
    · split <;> simp
theorem setK_len (all : List α) : (Proofs.Ytkckakfkeooepaa.setK key all).length ≤ all.length := by
  have : ∀ (l t : List α), (l.foldl (fun t x => insK key x t) t).length ≤ t.length + l.length := by
    intro l
    induction l with
    | nil => intro t; simp
    | cons x l ih => intro t; have h1 := ih (insK key x t); have h2 := insK_len key x t; simp at h1 ⊢; omega
  have h := this all []
  simp only [List.length_nil, Nat.zero_add] at h
  exact h
end
end Go.Proofs.Ytkckakfkeooepaa
