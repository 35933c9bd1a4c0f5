/- Slices of slices; what is cleared; reads of a part. -/
import Derived.Test.YtkckakfkeooepaaJLoop
namespace Go.Proofs.Ytkckakfkeooepaa
set_option linter.all false
set_option linter.unusedSimpArgs false
set_option linter.unusedVariables false
set_option linter.unnecessarySimpa false
open Go.RowKit
/-- No row at all is a row of the call's own. -/
theorem JC_nil {c : Cx} {Q : Post} {x : Code} {l : Fr} {L : List Atom} (e : TypeId) (size : Nat) (h : JC c x Q l (.own e size (.slice none 0 0) 0 [] :: L)) : JC c x Q l L := fun a W ha hM => h a W ha (by
  refine hM.grow (N := [_]) (Below.refl _ _) (fun x hx M B G' _ _ => ?_) (fun g hg => by simp [blocks, Atom.block, Value.ownBlock] at hg) List.nodup_nil
  obtain rfl := List.mem_singleton.1 hx
  exact World.ownsRow_nil _ _ _ _)
theorem cutA_zero (A : Option Addr) (c size : Nat) : cutA A 0 c size = A := by
  unfold cutA
  split
  · rfl
  · cases A with
    | none => rfl
    | some a => simp [Addr.add]
section
variable {P : Program} {C L : List Atom} {l : Fr}
theorem R_sliceTo {t ty e : TypeId} {x y : Operand} {A : Option Addr} {n c size bytes m : Nat} {z : Value} {k : IntKind} {b : Int} (ht : P.underlying t = some (.slice e)) (hti : TI P e size bytes z) (hx : l.ev x = some (.slice A n c)) (hy : l.ev y = some (.int k b)) (hb : b = m) (h : m ≤ c) :
    YR P C l (.slice t x none (some y) none) ty (.slice A m c) := by
  subst hb
  have := R_slice (P := P) (C := C) (ty := ty) (lo := none) (hi := some y) (a := 0) (b := (m : Int)) ht hti hx rfl ⟨_, hy⟩ (by omega) (by omega) (by omega)
  simpa [cutA_zero] using this
theorem R_sliceFrom {t ty e : TypeId} {x y : Operand} {A : Option Addr} {n c size bytes m : Nat} {z : Value} {k : IntKind} {a : Int} (ht : P.underlying t = some (.slice e)) (hti : TI P e size bytes z) (hx : l.ev x = some (.slice A n c)) (hy : l.ev y = some (.int k a)) (ha : a = m) (h : m ≤ n) (hc : n ≤ c) :
    YR P C l (.slice t x (some y) none none) ty (.slice (cutA A m c size) (n - m) (c - m)) := by
  subst ha
  have := R_slice (P := P) (C := C) (ty := ty) (lo := some y) (hi := none) (a := (m : Int)) (b := (n : Int)) ht hti hx ⟨_, hy⟩ rfl (by omega) (by omega) (by omega)
  simpa using this
theorem R_slice3 {t ty e : TypeId} {x y v : Operand} {A : Option Addr} {n c size bytes m : Nat} {z : Value} {k k' : IntKind} {b b' : Int} (ht : P.underlying t = some (.slice e)) (hti : TI P e size bytes z) (hx : l.ev x = some (.slice A n c)) (hy : l.ev y = some (.int k b)) (hv : l.ev v = some (.int k' b')) (hb : b = m) (hb' : b' = m) (h : m ≤ c) :
    YR P C l (.slice t x none (some y) (some v)) ty (.slice A m m) := fun ρ W d pos aft g hρ _ => by
  subst hb; subst hb'
  have e : ∀ (a : Addr), a.add 0 = a := fun a => by simp [Addr.add]
  have e2 : (if m = 0 then A else A.map fun a => a.add 0) = A := by
    split
    · rfl
    · cases A <;> simp [e]
  simp [execOp, hρ x _ hx, hρ y _ hy, hρ v _ hv, Instr.sliceAt, Instr.slice, run_underlying ht, Instr.sliceBounds, Instr.sliceBound, asIntOf, hti.sizeOf, h, e]
/-- A row's cells from a place on are laid over. -/
theorem own_put {W : World} {A : Option Addr} {e : TypeId} {esize n c k : Nat} {cs vs : List Value} (hb : W.ownsRow 0 e esize (.slice A n c) n cs) (h0 : 0 < cs.length) (ho : k + vs.length ≤ cs.length) (h1 : ∀ u ∈ vs, u.oneCell' = true) :
    ∃ g W', A = some ⟨g, 0, none⟩ ∧ (storeCells ⟨g, k, none⟩ vs).run P W = .ok () W' ∧ W'.ownsRow 0 e esize (.slice A n c) n (setAt cs k vs) ∧ W.grownBy W' (some g) := by
  obtain ⟨hl, h2 | ⟨g, cap, cur, hv', _, hh, hnc, hcm, hcs, htk⟩⟩ := hb
  · rw [h2.2] at hl; omega
  · injection hv' with hA _ hc
    subst hA; subst hc
    have hle : cs.length ≤ cur.size := by rw [hl, hcs]; exact Nat.mul_le_mul_right _ hnc
    have hcur : Blk W g e cur.toList.toArray := by rw [Array.toArray_toList]; exact hh
    have hs := run_storeCells_at (P := P) g k e vs 0 cur.toList.toArray W hcur (by simp; omega) h1
    refine ⟨g, W.setRow g (setAt cur.toList k vs).toArray, rfl, by simpa [setAt] using hs, ?_, ⟨rfl, rfl, rfl, by simp [World.setRow], fun k' _ hk => setRow_other W g k' _ (fun e => hk (by rw [e]))⟩⟩
    refine ⟨by rw [setAt_length (by omega)]; exact hl, .inr ⟨g, c, (setAt cur.toList k vs).toArray, rfl, Nat.zero_le _, setRow_heap W g cur.toList.toArray (setAt cur.toList k vs).toArray e _ hcur, hnc, hcm, ?_, ?_⟩⟩
    · simp [setAt_length (cs := cur.toList) (o := k) (vs := vs) (by simp; omega)]; exact hcs
    · rw [← hl]
      subst htk
      have hl' : (cur.toList.take (n * esize)).length = n * esize := hl
      simp only [setAt]
      rw [List.length_take] at hl'
      have hk1 : k ≤ n * esize := by simp at ho; omega
      have hks : k + vs.length ≤ n * esize := by simp at ho; omega
      rw [hl]
      rw [List.take_append, List.take_append, List.take_take, List.length_append, List.length_take, List.drop_take]
      have e1 : min (n * esize) k = k := by omega
      have e2 : min k cur.toList.length = k := by simp; omega
      rw [List.take_take, e1]
      rw [show min k (n * esize) = k by omega, e2]
      rw [List.take_of_length_le (l := vs) (by omega)]
theorem E_clear {t e ty : TypeId} {x : Operand} {A : Option Addr} {n c k esize bytes : Nat} {cs : List Value} {z : Value} {L1 : List Atom} (ht : P.underlying t = some (.slice e)) (hi : TI P e esize bytes z) (hz : z.cells.size = esize) (hz1 : ∀ u ∈ z.cells.toList, u.oneCell' = true) (h0 : 0 < esize) (hx : l.ev x = some (.slice (cutA A k c esize) (n - k) (c - k))) (hp : Pick (.own e esize (.slice A n c) n cs) L L1) (hk : k < n) (hn : n ≤ c) (hl : cs.length = n * esize) :
    YE P l L (.call ⟨.builtin .clear, #[x], #[t]⟩) ty (fun u L' => ∃ zs, u = .tuple #[] ∧ L' = .own e esize (.slice A n c) n (cs.take (k * esize) ++ zs) :: L1) :=
  YE.of_run fun ρ W w0 G d pos aft gg hρ hM => by
    have hM1 := hM.pick hp
    have hb : W.ownsRow 0 e esize (.slice A n c) n cs := hM1.ok _ List.mem_cons_self
    have hkn : k * esize + (n - k) * esize = n * esize := by rw [← Nat.add_mul]; congr 1; omega
    have hpos : 0 < (n - k) * esize := Nat.mul_pos (by omega) h0
    have hzl : (Builtin.zeroCells z.cells (n - k)).toList.length = (n - k) * esize := by simp [Builtin.zeroCells, hz]
    obtain ⟨g, W', hA, hr, hb', hg⟩ := own_put (P := P) (k := k * esize) (vs := (Builtin.zeroCells z.cells (n - k)).toList) hb (by omega) (by omega) (fun u hu => by
      simp only [Builtin.zeroCells, Array.toList_map, List.mem_map] at hu
      obtain ⟨i, _, rfl⟩ := hu
      have hlt : i % z.cells.size < z.cells.size := Nat.mod_lt _ (by omega)
      apply hz1
      rw [getElem!_pos z.cells _ hlt]
      simp)
    refine ⟨_, _, W', ?_, ⟨(Builtin.zeroCells z.cells (n - k)).toList, rfl, rfl⟩, hM1.touch (x' := .own e esize (.slice A n c) n (cs.take (k * esize) ++ (Builtin.zeroCells z.cells (n - k)).toList)) (by rw [hA]; exact hg) (fun _ _ _ => ?_) (fun g' h => .inl h)⟩
    · subst hA
      have hc : ¬ c = k := by omega
      obtain ⟨m, hm⟩ : ∃ m, n - k = m + 1 := ⟨n - k - 1, by omega⟩
      obtain ⟨i, hi1, hi2, hi3, hi4⟩ := hi.info
      simp only [cutA, hc, if_false, Option.map_some, Addr.add_mid, Nat.zero_add, hm] at hx hr
      have hz0 : (zeroValue e).run P W = .ok z W := by simp [zeroValue, typeInfo, hi1, hi4]
      have hcl : (Builtin.clear_ #[t] ty #[.slice (some ⟨g, k * esize, none⟩) (m + 1) (c - k)]).run P W = .ok (.tuple #[]) W' := by
        simp [Builtin.clear_, run_underlying ht, hz0, hr]
      simp only [execOp, resolve, invoke, builtin, Sem.run_bind, Sem.run_pure, Result.andThen_ok, List.map_toArray, List.map_cons, List.map_nil, hρ x _ hx, hcl]
    · have : setAt cs (k * esize) (Builtin.zeroCells z.cells (n - k)).toList = cs.take (k * esize) ++ (Builtin.zeroCells z.cells (n - k)).toList := by
        unfold setAt
        rw [List.drop_eq_nil_of_le (by omega), List.append_nil]
      rw [this] at hb'
      exact hb'
end
section
variable {α : Type} {enc : α → List Value} {size : Nat} {C K L : List Atom} {A : Option Addr} {xs : List α} {k cap : Nat}
theorem RngIn.takeE (he : ∀ a, (enc a).length = size) (h : RngIn C A (fl enc xs)) : RngIn C A (fl enc (xs.take k)) := fl_take he xs k ▸ h.take (k * size)
theorem RngIn.cutE (he : ∀ a, (enc a).length = size) (h : RngIn C A (fl enc xs)) (hc : cap = k → xs.length ≤ k) : RngIn C (cutA A k cap size) (fl enc (xs.drop k)) := fl_drop he xs k ▸ h.cut fun e => by rw [fl_length he]; exact Nat.mul_le_mul_right _ (hc e)
theorem rd_takeE (he : ∀ a, (enc a).length = size) (h : Ent K L (rd A (fl enc xs))) : Ent K L (rd A (fl enc (xs.take k))) := fl_take he xs k ▸ rd_take h (k * size)
theorem rd_cutE (he : ∀ a, (enc a).length = size) (h : Ent K L (rd A (fl enc xs))) (hc : cap = k → xs.length ≤ k) : Ent K L (rd (cutA A k cap size) (fl enc (xs.drop k))) := fl_drop he xs k ▸ rd_cut h fun e => by rw [fl_length he]; exact Nat.mul_le_mul_right _ (hc e)
end
section
variable {C K L : List Atom} {A : Option Addr} {b : Bs} {k cap : Nat}
theorem bcs_take (b : Bs) (k : Nat) : (bcs b).take k = bcs (b.take k) := by simp [bcs, List.map_take]
theorem bcs_drop (b : Bs) (k : Nat) : (bcs b).drop k = bcs (b.drop k) := by simp [bcs, List.map_drop]
theorem RngIn.takeB (h : RngIn C A (bcs b)) : RngIn C A (bcs (b.take k)) := bcs_take b k ▸ h.take k
theorem RngIn.cutB (h : RngIn C A (bcs b)) (hc : cap = k → b.length ≤ k) : RngIn C (cutA A k cap 1) (bcs (b.drop k)) := by
  have := RngIn.cut (size := 1) h (k := k) (cap := cap) (fun e => by simpa using hc e)
  rw [Nat.mul_one, bcs_drop] at this; exact this
theorem rd_takeB (h : Ent K L (rd A (bcs b))) : Ent K L (rd A (bcs (b.take k))) := bcs_take b k ▸ rd_take h k
theorem rd_cutB (h : Ent K L (rd A (bcs b))) (hc : cap = k → b.length ≤ k) : Ent K L (rd (cutA A k cap 1) (bcs (b.drop k))) := by
  have := rd_cut (size := 1) h (k := k) (cap := cap) (fun e => by simpa using hc e)
  rw [Nat.mul_one, bcs_drop] at this; exact this
theorem R_sliceMid {P : Program} {l : Fr} {t ty e : TypeId} {x y y' : Operand} {n c size bytes m k : Nat} {z : Value} {ik ik' : IntKind} {a b : Int} (ht : P.underlying t = some (.slice e)) (hti : TI P e size bytes z) (hx : l.ev x = some (.slice A n c)) (hy : l.ev y = some (.int ik a)) (hy' : l.ev y' = some (.int ik' b)) (ha : a = m) (hb : b = (m + k : Nat)) (h : m + k ≤ c) :
    YR P C l (.slice t x (some y) (some y') none) ty (.slice (cutA A m c size) k (c - m)) := by
  subst ha; subst hb
  have := R_slice (P := P) (C := C) (ty := ty) (lo := some y) (hi := some y') (a := (m : Int)) (b := ((m + k : Nat) : Int)) ht hti hx ⟨_, hy⟩ ⟨_, hy'⟩ (by omega) (by omega) (by omega)
  rw [show ((m + k : Nat) : Int).toNat - (m : Int).toNat = k by omega, Int.toNat_natCast] at this
  exact this
end
theorem rd_nilE {α : Type} {enc : α → List Value} {K L : List Atom} : Ent K L (rd none (fl enc ([] : List α))) := rd_nil
/-- A slice that nobody turns any more. -/
def pR {α : Type} (enc : α → List Value) (xs : List α) : Value → List Atom → Prop := fun v N => ∃ A c, v = .slice A xs.length c ∧ xs.length ≤ c ∧ N = [.new (rd A (fl enc xs))]
section
variable {P : Program} {L L1 : List Atom} {l : Fr} {ty : TypeId} {α : Type} {enc : α → List Value} {f : FuncId} {xs : List Operand} {ts : Array TypeId} {vs : List Value} {facts : List (World → Prop)} {x : Atom} {ys : List α}
theorem E_callR (hf : Fun P f) (hx : evl l xs = some vs) (hp : Pick x L L1) (hm : x.mine = true) (hφ : ∀ φ ∈ facts, Ent [x] L1 φ) (hc : CT P f vs [x] facts (pR enc ys)) : YE P l L (.call ⟨.value (.func f), xs.toArray, ts⟩) ty (fun u L' => ∃ A c, u = .slice A ys.length c ∧ ys.length ≤ c ∧ L' = .new (rd A (fl enc ys)) :: L1) :=
  (E_call hf hc hx (.cons hp (.nil _)) (fun y hy => by rw [List.mem_singleton] at hy; rw [hy]; exact hm) hφ).imp fun u L' h => by
    obtain ⟨N, ⟨A, c, h1, h2, h3⟩, h4⟩ := h
    subst h3
    exact ⟨A, c, h1, h2, h4⟩
theorem E_callR0 (hf : Fun P f) (hx : evl l xs = some vs) (hφ : ∀ φ ∈ facts, Ent [] L φ) (hc : CT P f vs [] facts (pR enc ys)) : YE P l L (.call ⟨.value (.func f), xs.toArray, ts⟩) ty (fun u L' => ∃ A c, u = .slice A ys.length c ∧ ys.length ≤ c ∧ L' = .new (rd A (fl enc ys)) :: L) :=
  (E_call hf hc hx (Picks.nil L) (fun _ h => by cases h) hφ).imp fun u L' h => by
    obtain ⟨N, ⟨A, c, h1, h2, h3⟩, h4⟩ := h
    subst h3
    exact ⟨A, c, h1, h2, h4⟩
end
/-! ### Slices of slices -/
structure EPart (α : Type) where
  A : Option Addr
  c : Nat
  l : List α
def EPart.v {α : Type} (p : EPart α) : Value := .slice p.A p.l.length p.c
def rdE {α : Type} (enc : α → List Value) (A : Option Addr) (ps : List (EPart α)) : World → Prop := fun w => Rng w A (ps.map EPart.v) ∧ ∀ p ∈ ps, Rng w p.A (fl enc p.l)
section
variable {K L : List Atom} {α : Type} {enc : α → List Value}
inductive EPs {α : Type} (enc : α → List Value) (K L : List Atom) : List Value → List (EPart α) → Prop
  | nil : EPs enc K L [] []
  | cons {A : Option Addr} {n c : Nat} {b : List α} {vs : List Value} {ps : List (EPart α)} (h : Ent K L (rd A (fl enc b))) (hn : b.length = n) (hs : EPs enc K L vs ps) : EPs enc K L (.slice A n c :: vs) (⟨A, c, b⟩ :: ps)
theorem EPs.map {vs : List Value} {ps : List (EPart α)} (h : EPs enc K L vs ps) : ps.map EPart.v = vs := by
  induction h with
  | nil => rfl
  | cons h hn hs ih => simp [ih, EPart.v, hn]
theorem EPs.ent {vs : List Value} {ps : List (EPart α)} (h : EPs enc K L vs ps) : ∀ p ∈ ps, Ent K L (rd p.A (fl enc p.l)) := by
  induction h with
  | nil => exact fun _ h => by cases h
  | cons h hn hs ih =>
    intro p hp
    rcases List.mem_cons.1 hp with rfl | hp
    · exact h
    · exact ih p hp
theorem rdE_of {A : Option Addr} {vs : List Value} {ps : List (EPart α)} (h : Ent K L (rd A vs)) (hb : EPs enc K L vs ps) : Ent K L (rdE enc A ps) :=
  Ent.and (φ := rd A (ps.map EPart.v)) (by rw [hb.map]; exact h) (Ent.all (φ := fun p : EPart α => rd p.A (fl enc p.l)) hb.ent)
end
theorem getD_drop {α : Type} (l : List α) (i k : Nat) (d : α) : (l.drop i).getD k d = l.getD (i + k) d := by simp [List.getD, List.getElem?_drop]
/-! ### Parts, one by one -/
def BPart.zero : BPart := ⟨none, 0, []⟩
theorem rngB_row {C : List Atom} {A : Option Addr} {ps : List BPart} (h : .old (rdB A ps) ∈ C) : RngIn C A (ps.map BPart.v) := fun W hC => (hC _ h : rdB A ps W).1
theorem rdB_at {K L : List Atom} {A : Option Addr} {ps : List BPart} {i : Nat} (h : .old (rdB A ps) ∈ L) (hi : i < ps.length) : Ent K L (rd (ps.getD i BPart.zero).A (bcs (ps.getD i BPart.zero).l)) := (Ent.fact h).imp fun w hw => hw.2 _ (by
  rw [List.getD, List.getElem?_eq_getElem hi]; exact List.getElem_mem hi)
theorem rngB_at {C : List Atom} {A : Option Addr} {ps : List BPart} {i : Nat} (h : .old (rdB A ps) ∈ C) (hi : i < ps.length) : RngIn C (ps.getD i BPart.zero).A (bcs (ps.getD i BPart.zero).l) := fun W hC => (hC _ h : rdB A ps W).2 _ (by
  rw [List.getD, List.getElem?_eq_getElem hi]; exact List.getElem_mem hi)
theorem textTo_getD (t : UInt8) (ps : List BPart) (k : Nat) (h : k < ps.length) : textTo t ps (k + 1) = textTo t ps k ++ lumpB (ps.getD k BPart.zero).l := by
  rw [textTo_succ t ps k h, List.getD, List.getElem?_eq_getElem h]; rfl
theorem lenTo_getD (ps : List BPart) (k : Nat) (h : k < ps.length) : lenTo ps (k + 1) = lenTo ps k + ((ps.getD k BPart.zero).l.length + 8) := by
  rw [lenTo_succ ps k h, List.getD, List.getElem?_eq_getElem h]; rfl
theorem lumpB_len (b : Bs) : (lumpB b).length = b.length + 8 := by simp [lumpB]; omega
theorem textTo_all (t : UInt8) (ps : List BPart) : textTo t ps ps.length = textB t (ps.map BPart.l) := by
  unfold textTo textB; rw [List.take_length, List.map_map]; rfl
end Go.Proofs.Ytkckakfkeooepaa
