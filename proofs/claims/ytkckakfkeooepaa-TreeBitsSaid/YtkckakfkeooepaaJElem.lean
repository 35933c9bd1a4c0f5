/- Elements of rows; rows and structs built out of parts; equality. -/
import Derived.Test.YtkckakfkeooepaaJBase
namespace Go.Proofs.Ytkckakfkeooepaa
set_option linter.all false
set_option linter.unusedSimpArgs false
set_option linter.unusedVariables false
set_option linter.unnecessarySimpa false
open Go.RowKit
/-- Rows of elements. -/
def fl {α : Type} (enc : α → List Value) (xs : List α) : List Value := (xs.map enc).flatten
theorem fl_length {α : Type} {enc : α → List Value} {size : Nat} (he : ∀ a, (enc a).length = size) (xs : List α) : (fl enc xs).length = xs.length * size := flat_length enc size he xs
theorem fl_append {α : Type} (enc : α → List Value) (xs ys : List α) : fl enc (xs ++ ys) = fl enc xs ++ fl enc ys := by simp [fl]
theorem fl_nil {α : Type} (enc : α → List Value) : fl enc [] = [] := rfl
theorem fl_cons {α : Type} (enc : α → List Value) (x : α) (xs : List α) : fl enc (x :: xs) = enc x ++ fl enc xs := rfl
theorem fl_one {α : Type} (enc : α → List Value) (x : α) : fl enc [x] = enc x := by simp [fl]
theorem getD_some {α : Type} {xs : List α} {i : Nat} (d : α) (h : i < xs.length) : xs[i]? = some (xs.getD i d) := by simp [List.getD, List.getElem?_eq_getElem h]
theorem fl_drop {α : Type} {enc : α → List Value} {size : Nat} (he : ∀ a, (enc a).length = size) : ∀ (xs : List α) (k : Nat), (fl enc xs).drop (k * size) = fl enc (xs.drop k)
  | [], k => by simp [fl]
  | x :: xs, 0 => by simp
  | x :: xs, k + 1 => by
    rw [fl_cons, Nat.add_mul, Nat.one_mul, Nat.add_comm, ← List.drop_drop, show (enc x ++ fl enc xs).drop size = fl enc xs by rw [← he x, List.drop_left], fl_drop he xs k, List.drop_succ_cons]
theorem fl_take {α : Type} {enc : α → List Value} {size : Nat} (he : ∀ a, (enc a).length = size) : ∀ (xs : List α) (k : Nat), (fl enc xs).take (k * size) = fl enc (xs.take k)
  | [], k => by simp [fl]
  | x :: xs, 0 => by simp [fl]
  | x :: xs, k + 1 => by
    rw [fl_cons, Nat.add_mul, Nat.one_mul, Nat.add_comm, List.take_append, he, List.take_of_length_le (by rw [he]; omega), Nat.add_sub_cancel_left, fl_take he xs k, List.take_succ_cons, fl_cons]
theorem fl_set {α : Type} {enc : α → List Value} {size : Nat} (he : ∀ a, (enc a).length = size) : ∀ (xs : List α) (k : Nat) (x : α), k < xs.length → setAt (fl enc xs) (k * size) (enc x) = fl enc (xs.set k x) := by
  intro xs k x hk
  have e1 : fl enc xs = fl enc (xs.take k) ++ (enc xs[k] ++ fl enc (xs.drop (k + 1))) := by
    conv => lhs; rw [← List.take_append_drop k xs, fl_append, List.drop_eq_getElem_cons hk, fl_cons]
  have e2 : k * size = (fl enc (xs.take k)).length := by rw [fl_length he, List.length_take, Nat.min_eq_left (by omega)]
  rw [e1, e2, setAt_mid _ _ _ _ (by rw [he, he]), List.set_eq_take_append_cons_drop, if_pos hk, fl_append, fl_cons]
theorem fl_ones {α : Type} {enc : α → List Value} (h : ∀ a, ones1 (enc a)) (xs : List α) : ones1 (fl enc xs) := by
  induction xs with
  | nil => exact ones1.nil
  | cons x xs ih => exact ones1.append (h x) ih
section
variable {P : Program} {C L : List Atom} {l : Fr}
theorem RngIn.of_ent {A : Option Addr} {cs : List Value} (h : Atom.old (rd A cs) ∈ C ∨ Atom.new (rd A cs) ∈ C) : RngIn C A cs := h.elim RngIn.old RngIn.new
/-! ### Addresses, with what they come to -/
theorem R_fieldB {s ty ft : TypeId} {x : Operand} {f b o off o' size bytes : Nat} {z : Value} {fs : Array Field} (hs : P.underlying s = some (.struct fs)) (hf : (fs[f]?).map (fun fd => (fd.type, fd.offset)) = some (ft, off)) (hi : TI P ft size bytes z) (h0 : Nat.beq size 0 = false) (hx : l.ev x = some (.pointer (some ⟨b, o, none⟩))) (ho : o + off = o') :
    YR P C l (.fieldAddr s x f) ty (.pointer (some ⟨b, o', none⟩)) := by
  cases hfd : fs[f]? with
  | none => simp [hfd] at hf
  | some fd =>
    simp [hfd] at hf
    obtain ⟨h1, h2⟩ := hf
    subst h1; subst h2; subst ho
    exact R_field hs hfd hi (fun e => by rw [e] at h0; cases h0) hx
theorem R_fieldE {s ty ft : TypeId} {x : Operand} {f k off size bytes : Nat} {z : Value} {A : Option Addr} {cs : List Value} {fs : Array Field} (hs : P.underlying s = some (.struct fs)) (hf : (fs[f]?).map (fun fd => (fd.type, fd.offset)) = some (ft, off)) (hi : TI P ft size bytes z) (h0 : Nat.beq size 0 = false) (hx : l.ev x = some (slotP A k)) (hr : RngIn C A cs) (hk : 0 < cs.length) :
    YR P C l (.fieldAddr s x f) ty (slotP A (k + off)) := by
  cases hfd : fs[f]? with
  | none => simp [hfd] at hf
  | some fd =>
    simp [hfd] at hf
    obtain ⟨h1, h2⟩ := hf
    subst h1; subst h2
    exact R_fieldS hs hfd hi (fun e => by rw [e] at h0; cases h0) hx hr hk
/-- Element i of a slice, its index as a natural number. -/
theorem R_indexE {t ty e : TypeId} {x y : Operand} {n c size bytes i : Nat} {z : Value} {k : IntKind} {j : Int} {A : Option Addr} {cs : List Value} (ht : P.underlying t = some (.slice e)) (hi : TI P e size bytes z) (hx : l.ev x = some (.slice A n c)) (hy : l.ev y = some (.int k j)) (hr : RngIn C A cs) (hj : j = (i : Int)) (hn : i < n) (hl : 0 < cs.length) :
    YR P C l (.indexAddr t x y) ty (slotP A (i * size)) := by
  subst hj
  have := R_indexS (P := P) (ty := ty) ht hi hx hy hr (by omega) (by omega) hl
  simpa using this
theorem R_indexB {t ty e : TypeId} {x y : Operand} {n b o o' size bytes i : Nat} {z : Value} {k : IntKind} {j : Int} (ht : P.underlying t = some (.array n e)) (hi : TI P e size bytes z) (hx : l.ev x = some (.pointer (some ⟨b, o, none⟩))) (hy : l.ev y = some (.int k j)) (hj : j = (i : Int)) (hn : i < n) (ho : o + i * size = o') :
    YR P C l (.indexAddr t x y) ty (.pointer (some ⟨b, o', none⟩)) := by
  subst hj; subst ho
  have := R_indexA (P := P) (C := C) (ty := ty) ht hi hx hy (by omega) (by omega)
  simpa using this
/-! ### Loads -/
theorem R_elA {α : Type} {enc : α → List Value} {t ty : TypeId} {x : Operand} {A : Option Addr} {i size bytes : Nat} {z : Value} {xs : List α} {dd : TypeDesc} (d : α) (he : ∀ a, (enc a).length = size) (ht : P.underlying t = some dd) (hd : dd.isRow = true) (hti : TI P t size bytes z) (h0 : 0 < size) (hx : l.ev x = some (slotP A (i * size))) (hr : RngIn C A (fl enc xs)) (hi : i < xs.length) :
    YR P C l (.load t x) ty (.agg (enc (xs.getD i d)).toArray) := R_loadAS ht hd hti hx hr (flat_seg enc size he xs i _ (getD_some d hi)) (he _) h0
theorem R_el1 {α : Type} {enc : α → Value} {t ty : TypeId} {x : Operand} {A : Option Addr} {i : Nat} {xs : List α} {dd : TypeDesc} (d : α) (ht : P.underlying t = some dd) (hd : TypeDesc.plain dd = true) (hx : l.ev x = some (slotP A (i * 1))) (hr : RngIn C A (xs.map enc)) (hi : i < xs.length) :
    YR P C l (.load t x) ty (enc (xs.getD i d)) := R_loadS ht hd hx hr (by rw [Nat.mul_one, List.getElem?_map, getD_some d hi]; rfl)
/-- A cell of an element. -/
theorem fl_cell {α : Type} {enc : α → List Value} {size : Nat} (he : ∀ a, (enc a).length = size) {xs : List α} {i o : Nat} (d : α) (hi : i < xs.length) (ho : o < size) : (fl enc xs)[i * size + o]? = (enc (xs.getD i d))[o]? := by
  have h1 := flat_seg enc size he xs i _ (getD_some d hi)
  have h2 : (((fl enc xs).drop (i * size)).take size)[o]? = (enc (xs.getD i d))[o]? := by rw [← h1]; rfl
  rw [List.getElem?_take_of_lt ho, List.getElem?_drop] at h2
  exact h2
theorem R_elP {α : Type} {encP : α → List (List Value)} {t ty : TypeId} {x : Operand} {A : Option Addr} {i o size : Nat} {xs : List α} {v : Value} {dd : TypeDesc} (k : Nat) (d : α) (he : ∀ a, (pl (encP a)).length = size) (ht : P.underlying t = some dd) (hd : TypeDesc.plain dd = true) (hx : l.ev x = some (slotP A (i * size + o))) (hr : RngIn C A (fl (fun a => pl (encP a)) xs)) (hi : i < xs.length) (hv : (encP (xs.getD i d))[k]? = some [v]) (ho : offP (encP (xs.getD i d)) k = o) :
    YR P C l (.load t x) ty v := by
  have hc := pl_cell _ k v hv
  rw [ho] at hc
  have hlt : o < size := by rw [← he (xs.getD i d)]; exact (List.getElem?_eq_some_iff.1 hc).1
  exact R_loadS ht hd hx hr (by rw [fl_cell (enc := fun a => pl (encP a)) he d hi hlt]; exact hc)
theorem seg_of_part {ps : List (List Value)} {k o size : Nat} {vs : List Value} (hv : ps[k]? = some vs) (ho : offP ps k = o) (hl : vs.length = size) : ((pl ps).drop o).take size = vs := by
  obtain ⟨hk', e⟩ := List.getElem?_eq_some_iff.1 hv
  have h2 := pl_seg ps k 1
  rw [List.drop_eq_getElem_cons hk', e] at h2
  simp only [List.take_succ_cons, List.take_zero, pl, List.append_nil] at h2
  subst ho; subst hl
  exact h2
theorem R_elPA {α : Type} {encP : α → List (List Value)} {t ty : TypeId} {x : Operand} {A : Option Addr} {i o size tsize bytes : Nat} {z : Value} {xs : List α} {vs : List Value} {dd : TypeDesc} (k : Nat) (d : α) (he : ∀ a, (pl (encP a)).length = size) (ht : P.underlying t = some dd) (hd : dd.isRow = true) (hti : TI P t tsize bytes z) (h0 : 0 < tsize) (hx : l.ev x = some (slotP A (i * size + o))) (hr : RngIn C A (fl (fun a => pl (encP a)) xs)) (hi : i < xs.length) (hv : (encP (xs.getD i d))[k]? = some vs) (ho : offP (encP (xs.getD i d)) k = o) (hl : vs.length = tsize) :
    YR P C l (.load t x) ty (.agg vs.toArray) := by
  refine R_loadAS ht hd hti hx hr ?_ hl h0
  have h1 := flat_seg (fun a => pl (encP a)) size he xs i _ (getD_some d hi)
  have hs := seg_of_part hv ho hl
  have hle : o + tsize ≤ size := by
    rw [← he (xs.getD i d)]
    have := congrArg List.length hs
    rw [List.length_take, List.length_drop, hl] at this
    omega
  rw [← hs, ← h1, List.drop_take, List.take_take, List.drop_drop]
  rw [Nat.min_eq_left (by omega)]
  rfl
/-- A part of a variable that is a row itself. -/
theorem R_loadPH {t ty bt : TypeId} {x : Operand} {gg o size bytes : Nat} {z : Value} {ps : List (List Value)} {vs : List Value} {dd : TypeDesc} (k : Nat) (ht : P.underlying t = some dd) (hd : dd.isRow = true) (hi : TI P t size bytes z) (hx : l.ev x = some (.pointer (some ⟨gg, o, none⟩))) (hm : Atom.blk gg bt (pl ps) ∈ C) (hv : ps[k]? = some vs) (ho : offP ps k = o) (hl : vs.length = size) :
    YR P C l (.load t x) ty (.agg vs.toArray) := R_loadA_blk ht hd hi hx hm (seg_of_part hv ho hl) hl
/-- Some parts of a variable that are a struct themselves. -/
theorem R_loadPS {t ty bt : TypeId} {x : Operand} {gg o size bytes : Nat} {z : Value} {ps qs : List (List Value)} {dd : TypeDesc} (k : Nat) (ht : P.underlying t = some dd) (hd : dd.isRow = true) (hi : TI P t size bytes z) (hx : l.ev x = some (.pointer (some ⟨gg, o, none⟩))) (hm : Atom.blk gg bt (pl ps) ∈ C) (hv : (ps.drop k).take qs.length = qs) (ho : offP ps k = o) (hl : (pl qs).length = size) :
    YR P C l (.load t x) ty (.agg (pl qs).toArray) := R_loadPA k qs.length ht hd hi hx hm (by rw [hv]) ho hl
/-- A part of a block that is read. -/
theorem RngIn.blkP {t : TypeId} {g o : Nat} {ps : List (List Value)} {vs : List Value} (k : Nat) (h : Atom.blk g t (pl ps) ∈ C) (hk : ps[k]? = some vs) (ho : offP ps k = o) : RngIn C (some ⟨g, o, none⟩) vs := fun W hC => by
  have hb : Blk W g t (pl ps).toArray := hC _ h
  have := Rng.of_blk hb o vs.length
  rw [seg_of_part hk ho rfl] at this
  exact this
/-- A byte of a hash, its place reckoned. -/
theorem R_indexH {t ty e : TypeId} {x y : Operand} {n b bytes : Nat} {z : Value} {k : IntKind} {i : Int} (ht : P.underlying t = some (.array n e)) (hi : TI P e 1 bytes z) (hx : l.ev x = some (.pointer (some ⟨b, 0, none⟩))) (hy : l.ev y = some (.int k i)) (h0 : 0 ≤ i) (hn : i < n) :
    YR P C l (.indexAddr t x y) ty (.pointer (some ⟨b, i.toNat, none⟩)) := by
  have := R_indexA (P := P) (C := C) (ty := ty) ht hi hx hy h0 hn
  simpa using this
theorem hL_at (h : Hash) (k : Nat) (hk : k < 32) : (hL h)[k]? = some (bc (h.at k)) := by
  have := h.h
  simp [hL, bcs, Hash.at, List.getD, List.getElem?_eq_getElem (l := h.l) (i := k) (by omega)]
theorem R_loadH {t ty bt : TypeId} {x : Operand} {gg k : Nat} {h : Hash} {dd : TypeDesc} (ht : P.underlying t = some dd) (hd : TypeDesc.plain dd = true) (hx : l.ev x = some (.pointer (some ⟨gg, k, none⟩))) (hm : Atom.blk gg bt (hL h) ∈ C) (hk : k < 32) :
    YR P C l (.load t x) ty (bc (h.at k)) := R_load_blk ht hd hx hm (hL_at h k hk)
/-! ### Rows built -/
theorem set_range (off : Nat) : ∀ (xs : List Value) (j0 : Nat) (pre old post : List Value), old.length = xs.length → pre.length = off + j0 →
    (xs.zipIdx j0).foldl (fun cs (x : Value × Nat) => cs.setIfInBounds (off + x.2) x.1) (pre ++ old ++ post).toArray = (pre ++ xs ++ post).toArray
  | [], j0, pre, old, post, h, _ => by
    obtain rfl : old = [] := List.eq_nil_of_length_eq_zero (by simpa using h)
    rfl
  | x :: xs, j0, pre, [], post, h, _ => by simp at h
  | x :: xs, j0, pre, y :: old, post, h, hp => by
    have ih := set_range off xs (j0 + 1) (pre ++ [x]) old post (by simpa using h) (by simp; omega)
    simp only [List.zipIdx_cons, List.foldl_cons]
    have e : (pre ++ y :: old ++ post).toArray.setIfInBounds (off + j0) x = (pre ++ [x] ++ old ++ post).toArray := by
      simp only [List.setIfInBounds_toArray, List.append_assoc, List.cons_append, List.nil_append]
      congr 1
      rw [List.set_append_right _ _ (by omega), ← hp]
      simp
    rw [e, ih]
    simp [List.append_assoc]
theorem fill_set (place : Nat → Option (Nat × Nat)) (i off size : Nat) (v : Value) (rest : List (Nat × Value)) (cs : List Value) (hpl : place i = some (off, size)) (hv : v.cells.toList.length = size) (hle : off + size ≤ cs.length) :
    Instr.fill place cs.toArray ((i, v) :: rest) = Instr.fill place (setAt cs off v.cells.toList).toArray rest := by
  have hv' : v.cells.size = size := by simpa using hv
  conv => lhs; unfold Instr.fill
  simp only [hpl]
  rw [if_neg (by simp; omega)]
  congr 1
  have hs : cs = cs.take off ++ (cs.drop off).take size ++ cs.drop (off + size) := by rw [List.append_assoc, ← List.drop_drop, List.take_append_drop, List.take_append_drop]
  have h := set_range off v.cells.toList 0 (cs.take off) ((cs.drop off).take size) (cs.drop (off + size)) (by simp; omega) (by simp; omega)
  rw [← hs] at h
  unfold setAt
  rw [hv, ← h, ← Array.toList_zipIdx, Array.foldl_toList]
/-- Values and their cells, in order. -/
inductive Parts (l : Fr) : Nat → List (Nat × Operand) → List (List Value) → Prop
  | nil (i : Nat) : Parts l i [] []
  | cons {i : Nat} {x : Operand} {v : Value} {cs : List Value} {ps : List (Nat × Operand)} {css : List (List Value)} (h : l.ev x = some v) (hc : v.cells = cs.toArray) (hs : Parts l (i + 1) ps css) : Parts l i ((i, x) :: ps) (cs :: css)
theorem Parts.fill {size : Nat} {i : Nat} {ps : List (Nat × Operand)} {css : List (List Value)} (h : Parts l i ps css) : ∀ (pre post : List Value), pre.length = i * size → post.length = css.length * size → (∀ cs ∈ css, cs.length = size) →
    ∃ vs, evs l ps = some vs ∧ Instr.fill (fun i => some (i * size, size)) (pre ++ post).toArray vs = some (pre ++ css.flatten).toArray := by
  induction h with
  | nil i => intro pre post hpre hpost _; exact ⟨[], rfl, by simp at hpost; simp [Instr.fill, hpost]⟩
  | @cons i x v cs ps css hx hc hs ih =>
    intro pre post hpre hpost hl
    have hcl : cs.length = size := hl cs List.mem_cons_self
    have hvl : v.cells.toList.length = size := by rw [hc]; simpa using hcl
    obtain ⟨vs, hvs, hf⟩ := ih (pre ++ cs) (post.drop size) (by rw [List.length_append, hcl, hpre, Nat.add_mul, Nat.one_mul]) (by rw [List.length_drop, hpost, List.length_cons, Nat.add_mul, Nat.one_mul, Nat.add_sub_cancel]) (fun cs h => hl cs (List.mem_cons_of_mem _ h))
    refine ⟨(i, v) :: vs, by simp [evs, hx, hvs], ?_⟩
    have hsz : size ≤ post.length := by rw [hpost, List.length_cons, Nat.add_mul, Nat.one_mul]; omega
    rw [fill_set _ i (i * size) size v vs (pre ++ post) rfl hvl (by rw [List.length_append, hpre]; omega)]
    have e : setAt (pre ++ post) (i * size) v.cells.toList = pre ++ cs ++ post.drop size := by
      have hct : v.cells.toList = cs := by rw [hc]
      rw [hct]
      have h2 : post = post.take size ++ post.drop size := (List.take_append_drop _ _).symm
      conv => lhs; rw [h2]
      rw [← hpre, setAt_mid pre (post.take size) (post.drop size) cs (by rw [List.length_take, hcl]; omega)]
      simp
    rw [e, hf]
    simp
theorem E_rows {t e ty : TypeId} {size bytes : Nat} {z : Value} {n : Nat} {ps : List (Nat × Operand)} {css : List (List Value)} {cells : List Value} (ht : P.underlying t = some (.slice e)) (hi : TI P e size bytes z) (hn : n * size ≤ 16777216) (h0 : Nat.beq (n * size) 0 = false)
    (hp : Parts l 0 ps css) (hl : ∀ cs ∈ css, cs.length = size) (hc : css.flatten = cells) (hln : css.length = n) :
    YE P l L (.buildSlice t n ps.toArray) ty (fun v L' => ∃ g, v = .slice (some ⟨g, 0, none⟩) n n ∧ L' = .own e size (.slice (some ⟨g, 0, none⟩) n n) n cells :: L) := by
  obtain ⟨vs, hvs, hf⟩ := hp.fill (size := size) [] ((Array.range (n * size)).map (z.cells[· % z.cells.size]!)).toList (by simp) (by simp [hln]) hl
  subst hc
  rw [List.nil_append, List.nil_append, Array.toArray_toList] at hf
  refine E_buildSlice ht hi hn (fun e => by rw [e] at h0; cases h0) hvs hf ?_
  subst hln
  clear hp hvs hf hn h0
  induction css with
  | nil => simp
  | cons cs css ih => rw [List.flatten_cons, List.length_append, hl cs List.mem_cons_self, ih (fun c h => hl c (List.mem_cons_of_mem _ h)), List.length_cons, Nat.add_mul, Nat.one_mul, Nat.add_comm]
/-! ### Structs and arrays built -/
/-- A type's zero cells. -/
def zeroOf (P : Program) (t : TypeId) : Option (Array Value) := match P.info? t with
  | some it => it.zero.map (·.cells)
  | none => none
/-- Its fields' places. -/
def placesOf (P : Program) (t : TypeId) : Option (List (Nat × Nat)) := match P.underlying t with
  | some (.struct fields) => fields.toList.mapM (fun f => (P.info? f.type).map fun i => (f.offset, i.size))
  | _ => none
/-- Parts laid over the zero value. -/
inductive Lays (l : Fr) (place : Nat → Option (Nat × Nat)) : List (Nat × Operand) → List Value → List Value → Prop
  | nil (cs : List Value) : Lays l place [] cs cs
  | cons {i off size : Nat} {x : Operand} {v : Value} {vs cs ds es : List Value} {ps : List (Nat × Operand)} (h : l.ev x = some v) (hc : v.cells = vs.toArray) (hp : place i = some (off, size)) (hl : vs.length = size) (hle : off + size ≤ cs.length) (hd : setAt cs off vs = ds) (hs : Lays l place ps ds es) : Lays l place ((i, x) :: ps) cs es
theorem Lays.fill {place : Nat → Option (Nat × Nat)} {ps : List (Nat × Operand)} {cs es : List Value} (h : Lays l place ps cs es) : ∃ vs, evs l ps = some vs ∧ Instr.fill place cs.toArray vs = some es.toArray := by
  induction h with
  | nil cs => exact ⟨[], rfl, rfl⟩
  | @cons i off size x v vs cs ds es ps hx hc hp hl hle hd hs ih =>
    obtain ⟨us, h1, h2⟩ := ih
    refine ⟨(i, v) :: us, by simp [evs, hx, h1], ?_⟩
    rw [fill_set _ i off size v us cs hp (by rw [hc]; simpa using hl) hle, hc]
    rw [show (vs.toArray).toList = vs from rfl, hd]
    exact h2
theorem R_build_run {t ty : TypeId} {ps : List (Nat × Operand)} {vs : List (Nat × Value)} {es : List Value} (hv : evs l ps = some vs) (hb : P.built t vs = some es.toArray) : YR P C l (.build t ps.toArray) ty (.agg es.toArray) := fun ρ W d pos aft g hρ _ => by
  have hm := evs_map hρ ps vs hv
  have hr := run_build (P := P) W t vs.toArray es.toArray (by simpa using hb)
  simp only [execOp, Sem.run_bind]
  rw [show (ps.toArray.map fun x => match x with | (i, x) => (i, ρ x)) = vs.toArray by rw [← hm]; simp, hr]
  rfl
theorem R_build {t ty : TypeId} {ps : List (Nat × Operand)} {cs es : List Value} {places : List (Nat × Nat)} (hz : zeroOf P t = some cs.toArray) (hf : placesOf P t = some places) (h : Lays l (places[·]?) ps cs es) : YR P C l (.build t ps.toArray) ty (.agg es.toArray) := by
  obtain ⟨vs, h1, h2⟩ := h.fill
  refine R_build_run h1 ?_
  unfold zeroOf at hz
  unfold placesOf at hf
  unfold Program.built
  cases hi : P.info? t with
  | none => simp [hi] at hz
  | some it =>
    rw [hi] at hz
    cases hu : P.underlying t with
    | none => simp [hu] at hf
    | some dd =>
      rw [hu] at hf
      cases dd <;> simp only [reduceCtorEq] at hf
      dsimp only
      rw [hf]
      cases hz0 : it.zero with
      | none => simp [hz0] at hz
      | some z =>
        simp [hz0] at hz
        dsimp only
        rw [hz]
        simpa using h2
theorem R_buildArr {t ty e : TypeId} {n size bytes : Nat} {z : Value} {ps : List (Nat × Operand)} {cs es : List Value} (ht : P.underlying t = some (.array n e)) (hti : TI P e size bytes z) (hz : zeroOf P t = some cs.toArray) (h : Lays l (fun i => some (i * size, size)) ps cs es) : YR P C l (.build t ps.toArray) ty (.agg es.toArray) := by
  obtain ⟨vs, h1, h2⟩ := h.fill
  refine R_build_run h1 ?_
  unfold zeroOf at hz
  unfold Program.built
  obtain ⟨ie, i1, i2, _, _⟩ := hti.info
  subst i2
  cases hi : P.info? t with
  | none => simp [hi] at hz
  | some it =>
    rw [hi] at hz
    rw [ht]
    dsimp only
    rw [i1]
    cases hz0 : it.zero with
    | none => simp [hz0] at hz
    | some z =>
      simp [hz0] at hz
      dsimp only
      rw [hz]
      exact h2
/-! ### Speculation: what an operation gives if its guard says yes -/
def gv (b want : Bool) (v : Value) : Value := bif b == want then v else undef
theorem gv_yes {b want : Bool} {v : Value} {x : Operand} (h : (b == want) = true) (hx : l.ev x = some (gv b want v)) : l.ev x = some v := by rw [hx, gv, h]; rfl
theorem R_pick_andG {c x : Operand} {ty : TypeId} {b u : Bool} (hc : l.ev c = some (.bool b)) (hx : l.ev x = some (gv b true (.bool u))) : YR P C l (.pick c x (.const (.bool false))) ty (.bool (b && u)) :=
  (R_pick hc hx rfl).eq (by cases b <;> rfl)
theorem R_pick_orG {c y : Operand} {ty : TypeId} {b u : Bool} (hc : l.ev c = some (.bool b)) (hy : l.ev y = some (gv b false (.bool u))) : YR P C l (.pick c (.const (.bool true)) y) ty (.bool (b || u)) :=
  (R_pick hc rfl hy).eq (by cases b <;> rfl)
end
section
variable {c : Cx} {Q : Post} {l : Fr} {L C : List Atom} {ops : Array Oper} {rest : List Oper} {Qs : List Nat}
theorem JL_RS {op : Op} {ty : TypeId} {pos : String} {aft : Array Edge} {d j t : Nat} {want b : Bool} {v : Value} (hd : Nat.blt d c.n = true) (ho : (ops[j]?).bind (·.dst) = some t) (hb : l.get t = some (.bool b)) (h : (b == want) = true → YR c.P L l op ty v) (k : JL c ops Q rest ((d, gv b want v) :: l) L) : JL c ops Q (⟨some d, op, ty, pos, aft, some (j, want)⟩ :: rest) l L := by
  cases hw : b == want with
  | true => exact JL_RG hd ho hb hw (h hw) (by have := k; simp only [gv, hw, cond_true] at this; exact this)
  | false => exact JL_skip hd ho hb hw (by have := k; simp only [gv, hw, cond_false] at this; exact this)
theorem JP_RS {i : Nat} (hq : Qs.contains i = false) {d j t : Nat} {want b : Bool} {op : Op} {ty : TypeId} {pos : String} {aft : Array Edge} {v : Value} {p : Plan} (ho : ops[i]? = some ⟨some d, op, ty, pos, aft, some (j, want)⟩) (hj : (ops[j]?).bind (·.dst) = some t) (hb : l.get t = some (.bool b)) (hd : Nat.blt d c.n = true) (h : (b == want) = true → YR c.P C l op ty v) (k : JP c ops Qs Q C p ((d, gv b want v) :: l) L) : JP c ops Qs Q C (.take i p) l L := by
  cases hw : b == want with
  | true => exact JP_RG hq ho hj hb hw hd (h hw) (by have := k; simp only [gv, hw, cond_true] at this; exact this)
  | false => exact JP_skip hq ho hj hb hw hd (by have := k; simp only [gv, hw, cond_false] at this; exact this)
/-- A slot's bool parts the ways. -/
theorem Ag.same {n : Nat} {a : Act} {l : Fr} {t : Nat} {v u : Value} (h : Ag n a l) (hv : l.get t = some v) (e : v = u) : Ag n a ((t, u) :: l) := ⟨h.size, h.defers, fun k x hk => by
  subst e
  simp only [Fr.get] at hk
  cases hb : Nat.beq t k with
  | true =>
    rw [hb] at hk
    obtain rfl := Nat.eq_of_beq_eq_true hb
    simp only [cond_true, Option.some.injEq] at hk
    subst hk; exact h.get _ _ hv
  | false => rw [hb] at hk; exact h.get _ _ hk⟩
theorem JL_case {t : Nat} {b : Bool} (hb : l.get t = some (.bool b)) (h1 : b = true → JL c ops Q rest ((t, .bool true) :: l) L) (h2 : b = false → JL c ops Q rest ((t, .bool false) :: l) L) : JL c ops Q rest l L := fun a W ha hM => by
  cases e : b with
  | true => exact h1 e a W (ha.same hb (by rw [e])) hM
  | false => exact h2 e a W (ha.same hb (by rw [e])) hM
theorem JP_case {t : Nat} {b : Bool} {p : Plan} (hb : l.get t = some (.bool b)) (h1 : b = true → JP c ops Qs Q C p ((t, .bool true) :: l) L) (h2 : b = false → JP c ops Qs Q C p ((t, .bool false) :: l) L) : JP c ops Qs Q C p l L := fun hQ a W ha hM hC => by
  cases e : b with
  | true => exact h1 e hQ a W (ha.same hb (by rw [e])) hM hC
  | false => exact h2 e hQ a W (ha.same hb (by rw [e])) hM hC
/-- A slot's value in other words. -/
theorem JL_same {t : Nat} {v u : Value} (hv : l.get t = some v) (e : v = u) (h : JL c ops Q rest ((t, u) :: l) L) : JL c ops Q rest l L := fun a W ha hM => h a W (ha.same hv e) hM
theorem JC_same {x : Code} {t : Nat} {v u : Value} (hv : l.get t = some v) (e : v = u) (h : JC c x Q ((t, u) :: l) L) : JC c x Q l L := fun a W ha hM => h a W (ha.same hv e) hM
end
end Go.Proofs.Ytkckakfkeooepaa
