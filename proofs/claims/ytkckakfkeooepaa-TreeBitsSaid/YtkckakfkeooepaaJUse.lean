/- The rules in the shapes in which they are used: values and blocks by parts. -/
import Derived.Test.YtkckakfkeooepaaJFn
namespace Go.Proofs.Ytkckakfkeooepaa
set_option linter.all false
set_option linter.unusedSimpArgs false
set_option linter.unusedVariables false
set_option linter.unnecessarySimpa false
open Go.RowKit
/-- Parts, one behind another. -/
def pl : List (List Value) → List Value
  | [] => []
  | p :: ps => p ++ pl ps
def offP : List (List Value) → Nat → Nat
  | _, 0 => 0
  | [], _ + 1 => 0
  | p :: ps, k + 1 => p.length + offP ps k
theorem pl_append (ps qs : List (List Value)) : pl (ps ++ qs) = pl ps ++ pl qs := by
  induction ps with
  | nil => rfl
  | cons p ps ih => simp [pl, ih]
theorem offP_take : ∀ (ps : List (List Value)) (k : Nat), offP ps k = (pl (ps.take k)).length
  | _, 0 => by simp [offP, pl]
  | [], k + 1 => by simp [offP, pl]
  | p :: ps, k + 1 => by simp [offP, pl, offP_take ps k]
theorem pl_split (ps : List (List Value)) (k : Nat) : pl ps = pl (ps.take k) ++ pl (ps.drop k) := by rw [← pl_append, List.take_append_drop]
theorem pl_seg (ps : List (List Value)) (k m : Nat) : ((pl ps).drop (offP ps k)).take (pl ((ps.drop k).take m)).length = pl ((ps.drop k).take m) := by
  rw [pl_split ps k, offP_take, List.drop_left]
  rw [pl_split (ps.drop k) m, List.take_left]
theorem pl_cell (ps : List (List Value)) (k : Nat) (v : Value) (h : ps[k]? = some [v]) : (pl ps)[offP ps k]? = some v := by
  obtain ⟨hk, e⟩ := List.getElem?_eq_some_iff.1 h
  rw [pl_split ps k, offP_take, List.getElem?_append_right (Nat.le_refl _), Nat.sub_self, List.drop_eq_getElem_cons hk, e]
  simp [pl]
theorem setAt_mid (pre old post vs : List Value) (h : old.length = vs.length) : setAt (pre ++ (old ++ post)) pre.length vs = pre ++ (vs ++ post) := by
  unfold setAt
  rw [List.take_left, List.append_assoc, ← h, ← List.drop_drop, List.drop_left, List.drop_left]
theorem pl_set (ps : List (List Value)) (k : Nat) (vs : List Value) (hk : k < ps.length) (hl : (ps[k]'hk).length = vs.length) : setAt (pl ps) (offP ps k) vs = pl (ps.set k vs) := by
  have e1 : pl ps = pl (ps.take k) ++ (ps[k] ++ pl (ps.drop (k + 1))) := by
    conv => lhs; rw [pl_split ps k, List.drop_eq_getElem_cons hk]
    rfl
  rw [offP_take, e1, setAt_mid _ _ _ _ hl, List.set_eq_take_append_cons_drop, if_pos hk, pl_append]
  rfl
section
variable {P : Program} {C L : List Atom} {l : Fr}
/-! ### Blocks by parts -/
theorem R_loadP {t ty bt : TypeId} {x : Operand} {gg o : Nat} {ps : List (List Value)} {v : Value} {dd : TypeDesc} (k : Nat) (ht : P.underlying t = some dd) (hd : TypeDesc.plain dd = true) (hx : l.ev x = some (.pointer (some ⟨gg, o, none⟩))) (hm : Atom.blk gg bt (pl ps) ∈ C) (hv : ps[k]? = some [v]) (ho : offP ps k = o) :
    YR P C l (.load t x) ty v := R_load_blk ht hd hx hm (ho ▸ pl_cell ps k v hv)
theorem R_loadPA {t ty bt : TypeId} {x : Operand} {gg o size bytes : Nat} {z : Value} {ps : List (List Value)} {vs : List Value} {dd : TypeDesc} (k m : Nat) (ht : P.underlying t = some dd) (hd : dd.isRow = true) (hi : TI P t size bytes z) (hx : l.ev x = some (.pointer (some ⟨gg, o, none⟩))) (hm : Atom.blk gg bt (pl ps) ∈ C) (hv : pl ((ps.drop k).take m) = vs) (ho : offP ps k = o) (hl : vs.length = size) :
    YR P C l (.load t x) ty (.agg vs.toArray) := by
  refine R_loadA_blk (vs := vs) ht hd hi hx hm ?_ hl
  subst hl; subst hv; subst ho
  exact pl_seg ps k m
/-- A whole variable. -/
theorem R_load0 {t ty bt : TypeId} {x : Operand} {gg size bytes : Nat} {z : Value} {cs : List Value} {dd : TypeDesc} (ht : P.underlying t = some dd) (hd : dd.isRow = true) (hi : TI P t size bytes z) (hx : l.ev x = some (.pointer (some ⟨gg, 0, none⟩))) (hm : Atom.blk gg bt cs ∈ C) (hl : cs.length = size) :
    YR P C l (.load t x) ty (.agg cs.toArray) := by
  refine R_loadA_blk (vs := cs) ht hd hi hx hm ?_ hl
  rw [List.drop_zero, ← hl, List.take_length]
theorem E_allocA {t ty : TypeId} {size bytes : Nat} {cs : List Value} (hi : TI P t size bytes (.agg cs.toArray)) : YE P l L (.alloc t) ty (fun v L' => ∃ g, v = .pointer (some ⟨g, 0, none⟩) ∧ L' = .blk g t cs :: L) := E_alloc hi
theorem E_alloc1 {t ty : TypeId} {size bytes : Nat} {z : Value} (hi : TI P t size bytes z) (hz : z.cells = #[z]) : YE P l L (.alloc t) ty (fun v L' => ∃ g, v = .pointer (some ⟨g, 0, none⟩) ∧ L' = .blk g t [z] :: L) := (E_alloc hi).imp fun v L' h => by rw [hz] at h; exact h
theorem E_boxA {t ty : TypeId} {x : Operand} {vs : List Value} (hx : l.ev x = some (.agg vs.toArray)) : YE P l L (.box t x) ty (fun u L' => ∃ g, u = .pointer (some ⟨g, 0, none⟩) ∧ L' = .blk g t vs :: L) := E_box hx
theorem E_box1 {t ty : TypeId} {x : Operand} {v : Value} (hx : l.ev x = some v) (hv : v.cells = #[v]) : YE P l L (.box t x) ty (fun u L' => ∃ g, u = .pointer (some ⟨g, 0, none⟩) ∧ L' = .blk g t [v] :: L) := (E_box hx).imp fun u L' h => by rw [hv] at h; exact h
def ones1 (vs : List Value) : Prop := ∀ u ∈ vs, u.oneCell' = true
theorem ones1.nil : ones1 [] := fun _ h => by cases h
theorem ones1.cons {v : Value} {vs : List Value} (h : v.oneCell' = true) (hs : ones1 vs) : ones1 (v :: vs) := fun u hu => by
  rcases List.mem_cons.1 hu with rfl | hu
  · exact h
  · exact hs u hu
theorem ones1.append {vs us : List Value} (h : ones1 vs) (hs : ones1 us) : ones1 (vs ++ us) := fun u hu => by
  rcases List.mem_append.1 hu with hu | hu
  · exact h u hu
  · exact hs u hu
theorem ones1.pl {ps : List (List Value)} (h : ∀ p ∈ ps, ones1 p) : ones1 (pl ps) := by
  induction ps with
  | nil => exact ones1.nil
  | cons p ps ih => exact ones1.append (h p List.mem_cons_self) (ih fun q hq => h q (List.mem_cons_of_mem _ hq))
theorem E_storeA {t ty bt : TypeId} {x y : Operand} {g : Nat} {cs vs : List Value} {size bytes : Nat} {z : Value} {L1 : List Atom} (hi : TI P t size bytes z) (hx : l.ev x = some (.pointer (some ⟨g, 0, none⟩))) (hy : l.ev y = some (.agg vs.toArray)) (hp : Pick (.blk g bt cs) L L1) (hv : vs.length = size) (h1 : ones1 vs) (ho : cs.length = size) :
    YE P l L (.store t x y) ty (fun u L' => u = undef ∧ L' = .blk g bt vs :: L1) := E_store0 hi hx hy hp (by simpa [Value.cells] using hv) (by have := h1; unfold ones1 at this; simpa [Value.cells] using this) ho
theorem E_store1 {t ty bt : TypeId} {x y : Operand} {g : Nat} {c0 v : Value} {bytes : Nat} {z : Value} {L1 : List Atom} (hi : TI P t 1 bytes z) (hx : l.ev x = some (.pointer (some ⟨g, 0, none⟩))) (hy : l.ev y = some v) (hp : Pick (.blk g bt [c0]) L L1) (hv : v.cells = #[v]) (h1 : v.oneCell' = true) :
    YE P l L (.store t x y) ty (fun u L' => u = undef ∧ L' = .blk g bt [v] :: L1) := (E_store0 hi hx hy hp (by simp [hv]) (by simpa [hv] using h1) rfl).imp fun u L' h => ⟨h.1, by rw [h.2, hv]⟩
theorem E_storeP {t ty bt : TypeId} {x y : Operand} {g o : Nat} {ps : List (List Value)} {v : Value} {u : Value} {bytes : Nat} {z : Value} {L1 : List Atom} (k : Nat) (hi : TI P t 1 bytes z) (hx : l.ev x = some (.pointer (some ⟨g, o, none⟩))) (hy : l.ev y = some v) (hp : Pick (.blk g bt (pl ps)) L L1) (hk : ps[k]? = some [u]) (ho : offP ps k = o) (hv : v.cells = #[v]) (h1 : v.oneCell' = true) :
    YE P l L (.store t x y) ty (fun w L' => w = undef ∧ L' = .blk g bt (pl (ps.set k [v])) :: L1) := by
  obtain ⟨hk', e⟩ := List.getElem?_eq_some_iff.1 hk
  subst ho
  refine (E_store hi hx hy hp (by simp [hv]) (by simpa [hv] using h1) ?_).imp fun w L' h => ⟨h.1, ?_⟩
  · have := List.getElem?_eq_some_iff.1 (pl_cell ps k u hk)
    exact this.1
  · rw [h.2, hv]
    rw [pl_set ps k [v] hk' (by rw [e]; rfl)]
theorem E_storePA {t ty bt : TypeId} {x y : Operand} {g o size bytes : Nat} {ps : List (List Value)} {vs us : List Value} {z : Value} {L1 : List Atom} (k : Nat) (hi : TI P t size bytes z) (hx : l.ev x = some (.pointer (some ⟨g, o, none⟩))) (hy : l.ev y = some (.agg vs.toArray)) (hp : Pick (.blk g bt (pl ps)) L L1) (hk : ps[k]? = some us) (ho : offP ps k = o) (hu : us.length = size) (hv : vs.length = size) (h1 : ones1 vs) :
    YE P l L (.store t x y) ty (fun w L' => w = undef ∧ L' = .blk g bt (pl (ps.set k vs)) :: L1) := by
  obtain ⟨hk', e⟩ := List.getElem?_eq_some_iff.1 hk
  subst ho
  refine (E_store hi hx hy hp (by simpa [Value.cells] using hv) (by have := h1; unfold ones1 at this; simpa [Value.cells] using this) ?_).imp fun w L' h => ⟨h.1, ?_⟩
  · rw [offP_take]
    have := congrArg List.length (pl_split ps k)
    rw [List.length_append, List.drop_eq_getElem_cons hk', e] at this
    simp only [pl, List.length_append] at this
    omega
  · rw [h.2]
    have : (Value.agg vs.toArray).cells.toList = vs := rfl
    rw [this, pl_set ps k vs hk' (by rw [e, hu, hv])]
/-! ### Elements of rows -/
theorem R_loadE {t ty : TypeId} {x : Operand} {A : Option Addr} {k size bytes : Nat} {z : Value} {cs vs : List Value} {dd : TypeDesc} (ht : P.underlying t = some dd) (hd : dd.isRow = true) (hi : TI P t size bytes z) (hx : l.ev x = some (slotP A k)) (hr : RngIn C A cs) (hv : (cs.drop k).take size = vs) (hl : vs.length = size) (h0 : 0 < size) : YR P C l (.load t x) ty (.agg vs.toArray) := R_loadAS ht hd hi hx hr hv hl h0
/-- Rows of elements of one size. -/
theorem flat_seg {α : Type} (enc : α → List Value) (size : Nat) (he : ∀ a, (enc a).length = size) : ∀ (xs : List α) (k : Nat) (x : α), xs[k]? = some x → (((xs.map enc).flatten).drop (k * size)).take size = enc x
  | [], k, x, h => by simp at h
  | y :: xs, 0, x, h => by
    simp only [List.getElem?_cons_zero, Option.some.injEq] at h
    subst h
    simp [← he y]
  | y :: xs, k + 1, x, h => by
    simp only [List.getElem?_cons_succ] at h
    have := flat_seg enc size he xs k x h
    rw [List.map_cons, List.flatten_cons, Nat.add_mul, Nat.one_mul, Nat.add_comm, ← List.drop_drop, ← he y, List.drop_left, he y]
    exact this
theorem flat_length {α : Type} (enc : α → List Value) (size : Nat) (he : ∀ a, (enc a).length = size) (xs : List α) : ((xs.map enc).flatten).length = xs.length * size := by
  induction xs with
  | nil => simp
  | cons x xs ih => simp [ih, he, Nat.add_mul, Nat.add_comm]
end
end Go.Proofs.Ytkckakfkeooepaa
