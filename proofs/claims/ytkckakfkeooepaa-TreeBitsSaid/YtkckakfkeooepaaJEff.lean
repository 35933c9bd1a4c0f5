/- What each operation that makes or turns memory does to the words on it; calls. -/
import Derived.Test.YtkckakfkeooepaaJOps
namespace Go.Proofs.Ytkckakfkeooepaa
set_option linter.all false
set_option linter.unusedSimpArgs false
set_option linter.unusedVariables false
set_option linter.unnecessarySimpa false
open Go.RowKit
section
variable {P : Program} {l : Fr} {L : List Atom}
/-- In memory as L says an operation yields a value and leaves memory, both as post says. -/
def YE (P : Program) (l : Fr) (L : List Atom) (op : Op) (ty : TypeId) (post : Value → List Atom → Prop) : Prop :=
  ∀ (a : Act) (W w0 : World) (G : List Nat) (d : Option Tmp) (pos : String) (aft : Array Edge) (g : Option (Nat × Bool)) (K : Act → World → Prop) (Q : Exit → Act → World → Prop),
    (∀ x u, l.ev x = some u → a.eval x = u) → Mem w0 G L W → (∀ v L' W', post v L' → Mem w0 G L' W' → K (a.put d v) W') → Oper.wp P ⟨d, op, ty, pos, aft, g⟩ a W K Q
theorem YE.of_run {op : Op} {ty : TypeId} {post : Value → List Atom → Prop} (h : ∀ (ρ : Operand → Value) (W w0 : World) (G : List Nat) (d : Option Tmp) (pos : String) (aft : Array Edge) (g : Option (Nat × Bool)),
    (∀ x u, l.ev x = some u → ρ x = u) → Mem w0 G L W → ∃ v L' W', (execOp ρ ⟨d, op, ty, pos, aft, g⟩).run P W = .ok (.value v) W' ∧ post v L' ∧ Mem w0 G L' W') : YE P l L op ty post :=
  fun a W w0 G d pos aft g K Q hρ hM hK => by
    obtain ⟨v, L', W', hr, hp, hm⟩ := h a.eval W w0 G d pos aft g hρ hM
    unfold Oper.wp
    rw [hr]
    exact hK v L' W' hp hm
theorem YE.of_skip {op : Op} {ty : TypeId} {post : Value → List Atom → Prop} (h : ∀ (ρ : Operand → Value) (W w0 : World) (G : List Nat) (d : Option Tmp) (pos : String) (aft : Array Edge) (g : Option (Nat × Bool)),
    (∀ x u, l.ev x = some u → ρ x = u) → Mem w0 G L W → ∃ L' W', (execOp ρ ⟨d, op, ty, pos, aft, g⟩).run P W = .ok .skip W' ∧ post undef L' ∧ Mem w0 G L' W') : YE P l L op ty post :=
  fun a W w0 G d pos aft g K Q hρ hM hK => by
    obtain ⟨L', W', hr, hp, hm⟩ := h a.eval W w0 G d pos aft g hρ hM
    unfold Oper.wp
    rw [hr]
    exact hK undef L' W' hp hm
theorem YE.imp {op : Op} {ty : TypeId} {post post' : Value → List Atom → Prop} (h : YE P l L op ty post) (hi : ∀ v L', post v L' → post' v L') : YE P l L op ty post' :=
  fun a W w0 G d pos aft g K Q hρ hM hK => h a W w0 G d pos aft g K Q hρ hM fun v L' W' hp hm => hK v L' W' (hi v L' hp) hm
/-- What yields in whatever memory. -/
theorem YE.of_YR {op : Op} {ty : TypeId} {v : Value} (h : YR P L l op ty v) : YE P l L op ty (fun u L' => u = v ∧ L' = L) :=
  YE.of_run fun ρ W w0 G d pos aft g hρ hM => ⟨v, L, W, h ρ W d pos aft g hρ hM.core, ⟨rfl, rfl⟩, hM⟩
/-! ### New variables -/
theorem E_alloc {t ty : TypeId} {size bytes : Nat} {z : Value} (hi : TI P t size bytes z) : YE P l L (.alloc t) ty (fun v L' => ∃ g, v = .pointer (some ⟨g, 0, none⟩) ∧ L' = .blk g t z.cells.toList :: L) :=
  YE.of_run fun ρ W w0 G d pos aft g hρ hM => by
    obtain ⟨i, h1, h2, h3, h4⟩ := hi.info
    refine ⟨_, _, W.alloc (.cells z.cells.toList.toArray t), ?_, ⟨W.heap.size, rfl, rfl⟩, hM.alloc t _⟩
    simp [execOp, Instr.alloc, zeroValue, typeInfo, h1, h4, newVar, newRow]
theorem E_box {t ty : TypeId} {x : Operand} {v : Value} (hx : l.ev x = some v) : YE P l L (.box t x) ty (fun u L' => ∃ g, u = .pointer (some ⟨g, 0, none⟩) ∧ L' = .blk g t v.cells.toList :: L) :=
  YE.of_run fun ρ W w0 G d pos aft g hρ hM => by
    refine ⟨_, _, W.alloc (.cells v.cells.toList.toArray t), ?_, ⟨W.heap.size, rfl, rfl⟩, hM.alloc t _⟩
    simp [execOp, hρ x _ hx, Instr.box, newVar, newRow]
/-- Parts laid out, in order, as the cells of a row. -/
def evs (l : Fr) : List (Nat × Operand) → Option (List (Nat × Value))
  | [] => some []
  | (i, x) :: ps => match l.ev x, evs l ps with
    | some v, some vs => some ((i, v) :: vs)
    | _, _ => none
theorem evs_map {ρ : Operand → Value} (hρ : ∀ x u, l.ev x = some u → ρ x = u) : ∀ (ps : List (Nat × Operand)) (vs : List (Nat × Value)), evs l ps = some vs → (ps.map fun p => (p.1, ρ p.2)) = vs
  | [], vs, h => by simp only [evs, Option.some.injEq] at h; subst h; rfl
  | (i, x) :: ps, vs, h => by
    simp only [evs] at h
    cases hx : l.ev x with
    | none => simp [hx] at h
    | some v =>
      cases hp : evs l ps with
      | none => simp [hx, hp] at h
      | some us =>
        simp [hx, hp] at h
        subst h
        simp [hρ x v hx, evs_map hρ ps us hp]
theorem run_buildSlice {t e : TypeId} {size bytes : Nat} {z : Value} {n : Nat} {ps : List (Nat × Value)} {cells : List Value} (ht : P.underlying t = some (.slice e)) (hi : TI P e size bytes z) (hn : n * size ≤ 16777216) (h0 : n * size ≠ 0)
    (hc : Instr.fill (fun i => some (i * size, size)) ((Array.range (n * size)).map (z.cells[· % z.cells.size]!)) ps = some cells.toArray) (W : World) :
    (Instr.buildSlice t n ps.toArray).run P W = .ok (.slice (some ⟨W.heap.size, 0, none⟩) n n) (W.alloc (.cells cells.toArray e)) := by
  obtain ⟨i, h1, h2, h3, h4⟩ := hi.info
  have hle : ¬ (16777216 < n * size) := by omega
  subst h2
  simp [Instr.buildSlice, run_underlying ht, sizeOf, typeInfo, h1, hle, zeroValue, h4, newRow]
  rw [if_neg h0, hc]
  simp [newObj, Sem.run, World.alloc_eq]
theorem E_buildSlice {t e ty : TypeId} {size bytes : Nat} {z : Value} {n : Nat} {ps : List (Nat × Operand)} {vs : List (Nat × Value)} {cells : List Value} (ht : P.underlying t = some (.slice e)) (hi : TI P e size bytes z) (hn : n * size ≤ 16777216) (h0 : n * size ≠ 0)
    (hv : evs l ps = some vs) (hc : Instr.fill (fun i => some (i * size, size)) ((Array.range (n * size)).map (z.cells[· % z.cells.size]!)) vs = some cells.toArray) (hl : cells.length = n * size) :
    YE P l L (.buildSlice t n ps.toArray) ty (fun v L' => ∃ g, v = .slice (some ⟨g, 0, none⟩) n n ∧ L' = .own e size (.slice (some ⟨g, 0, none⟩) n n) n cells :: L) :=
  YE.of_run fun ρ W w0 G d pos aft g hρ hM => by
    have hs0 : 0 < size := Nat.pos_of_ne_zero (fun e => h0 (by rw [e]; simp))
    have hn1 : n ≤ n * size := Nat.le_mul_of_pos_right n hs0
    refine ⟨_, _, W.alloc (.cells cells.toArray e), ?_, ⟨W.heap.size, rfl, rfl⟩, ?_⟩
    · have := run_buildSlice ht hi hn h0 hc W
      have hm := evs_map hρ ps vs hv
      simp only [execOp, Sem.run_bind]
      rw [show (ps.toArray.map fun x => match x with | (i, x) => (i, ρ x)) = vs.toArray by rw [← hm]; simp]
      rw [this]
      rfl
    · refine hM.grow (N := [_]) ((Below.refl _ _).alloc (Nat.le_refl _) _) (fun x hx M B G' _ _ => ?_) (fun g hg => ?_) (by simp [blocks, Atom.block, Value.ownBlock])
      · obtain rfl := List.mem_singleton.1 hx
        have := World.ownsRow_lit (base := 0) (size := size) (e := e) W cells.toArray n (Nat.zero_le _) (by unfold maxLen; omega) (by simpa using hl)
        show World.ownsRow _ _ _ _ _ _ _
        simpa using this
      · obtain rfl : g = W.heap.size := by simpa [blocks, Atom.block, Value.ownBlock] using hg
        simp
theorem E_make {t e ty : TypeId} {size bytes : Nat} {z : Value} {x y : Operand} {kl kc : IntKind} {n c : Nat} (ht : P.underlying t = some (.slice e)) (hi : TI P e size bytes z) (hz : z.cells.size = size) (hx : l.ev x = some (.int kl n)) (hy : l.ev y = some (.int kc c)) (hnc : n ≤ c) (hb : bytes * c ≤ 281474976710656) (hm : c ≤ 9223372036854775807) :
    YE P l L (.makeSlice t x y) ty (fun v L' => ∃ g, v = .slice (some ⟨g, 0, none⟩) n c ∧ L' = .own e size (.slice (some ⟨g, 0, none⟩) n c) n ((madeCells z.cells (c * size)).toList.take (n * size)) :: L) :=
  YE.of_run fun ρ W w0 G d pos aft g hρ hM => by
    obtain ⟨i, h1, h2, h3, h4⟩ := hi.info
    subst h2; subst h3
    refine ⟨_, _, W.alloc (.cells (madeCells z.cells (c * i.size)) e), ?_, ⟨W.heap.size, rfl, rfl⟩, ?_⟩
    · simp only [execOp, hρ x _ hx, hρ y _ hy, Sem.run_bind, run_make_rowN t e i z ht h1 h4 kl kc n c hnc hb hm W, Result.andThen_ok, Sem.run_pure]
    · refine hM.grow (N := [_]) ((Below.refl _ _).alloc (Nat.le_refl _) _) (fun x hx M B G' _ _ => ?_) (fun g hg => ?_) (by simp [blocks, Atom.block, Value.ownBlock])
      · obtain rfl := List.mem_singleton.1 hx
        refine ⟨?_, .inr ⟨W.heap.size, c, madeCells z.cells (c * i.size), rfl, Nat.zero_le _, heap_alloc_new _ _, hnc, by unfold maxLen; omega, size_madeCells _ _, rfl⟩⟩
        rw [List.length_take, Array.length_toList, size_madeCells]
        exact Nat.min_eq_left (Nat.mul_le_mul_right _ hnc)
      · obtain rfl : g = W.heap.size := by simpa [blocks, Atom.block, Value.ownBlock] using hg
        simp
/-- A name's bytes: they can't be appended to. -/
theorem E_bytes {s t e ty : TypeId} {x : Operand} {b : ByteArray} (hs : P.underlying s = some .string) (ht : P.underlying t = some (.slice e)) (he : P.underlying e = some (.int .u8)) (hx : l.ev x = some (.string b)) :
    YE P l L (.convert s t x) ty (fun v L' => ∃ A c, v = .slice A b.size c ∧ b.size ≤ c ∧ L' = .new (rd A (bcs (sb b))) :: L) :=
  YE.of_run fun ρ W w0 G d pos aft g hρ hM => by
    have hr := run_bytes_of_string W s t e b hs ht he
    refine ⟨_, .new (rd (some ⟨W.heap.size, 0, none⟩) (bcs (sb b))) :: L, W.drew.alloc (.cells (bytesRow b (grownCap W b.size 0 e)) e ((bytesRow b (grownCap W b.size 0 e)).size, (bytesRow b (grownCap W b.size 0 e)).size + 1)), ?_, ⟨some ⟨W.heap.size, 0, none⟩, grownCap W b.size 0 e, rfl, grownCap_ge _ _ _ _, rfl⟩, ?_⟩
    · simp only [execOp, hρ x _ hx, Sem.run_bind, hr, Result.andThen_ok, Sem.run_pure]
    · refine hM.grow (N := [_]) (((Below.refl _ _).drew).alloc (Nat.le_refl _) _) (fun x hx M B G' hB hM' => ?_) (fun g hg => by simp [blocks, Atom.block] at hg) List.nodup_nil
      obtain rfl := List.mem_singleton.1 hx
      refine Stable.block W.heap.size (by simp) (.inl hB) (fun hm => by rcases hM' _ hm with h | h; · omega
                                                                        · simp [blocks, Atom.block] at h) (fun w' hw => ?_)
      refine .inr ⟨W.heap.size, 0, rfl, fun j v hj => ?_⟩
      have hw := hw.trans (heap_alloc_new W.drew _)
      rw [cell_of_row w' W.heap.size (0 + j) _ _ _ hw]
      unfold bytesRow
      have hl : j < b.size := by
        have := (List.getElem?_eq_some_iff.1 hj).1
        rw [bcs_length] at this
        exact this
      rw [Nat.zero_add, Array.getElem?_append_left (by rw [Array.size_map]; exact hl)]
      simpa [bcs, sb, bc] using hj
/-! ### Stores -/
/-- Cells laid over from o on. -/
def setAt (cs : List Value) (o : Nat) (vs : List Value) : List Value := cs.take o ++ vs ++ cs.drop (o + vs.length)
theorem setAt_length {cs : List Value} {o : Nat} {vs : List Value} (h : o + vs.length ≤ cs.length) : (setAt cs o vs).length = cs.length := by simp [setAt]; omega
theorem setAt_whole {cs vs : List Value} (h : vs.length = cs.length) : setAt cs 0 vs = vs := by simp [setAt, h]
theorem setAt_one {cs : List Value} {o : Nat} {v : Value} (h : o < cs.length) : setAt cs o [v] = cs.set o v := by
  rw [List.set_eq_take_append_cons_drop, if_pos h]
  simp [setAt]
theorem run_store {W : World} {g o : Nat} {bt t : TypeId} {cs : List Value} {size bytes : Nat} {z : Value} {v : Value} (hb : Blk W g bt cs.toArray) (hi : TI P t size bytes z) (hv : v.cells.size = size) (h1 : ∀ u ∈ v.cells.toList, u.oneCell' = true) (ho : o + size ≤ cs.length) :
    ∃ W', (Instr.storeAt t (.pointer (some ⟨g, o, none⟩)) v).run P W = .ok () W' ∧ Blk W' g bt (setAt cs o v.cells.toList).toArray ∧ W.grownBy W' (some g) ∧ W'.heap.size = W.heap.size := by
  have hs := run_storeCells_at (P := P) g o bt v.cells.toList 0 cs.toArray W hb (by simp; omega) h1
  refine ⟨W.setRow g (setAt cs o v.cells.toList).toArray, ?_, setRow_heap W g cs.toArray (setAt cs o v.cells.toList).toArray bt _ hb, ⟨rfl, rfl, rfl, by simp [World.setRow], fun k _ hk => setRow_other W g k _ (fun e => hk (by rw [e]))⟩, by simp [World.setRow]⟩
  simp only [Instr.storeAt, Instr.sureAddr, Sem.run_bind, Sem.run_pure, Result.andThen_ok, storeVar, hi.sizeOf, hv]
  simpa [setAt] using hs
theorem E_store {t ty bt : TypeId} {x y : Operand} {g o : Nat} {cs : List Value} {size bytes : Nat} {z : Value} {v : Value} {L1 : List Atom} (hi : TI P t size bytes z) (hx : l.ev x = some (.pointer (some ⟨g, o, none⟩))) (hy : l.ev y = some v) (hp : Pick (.blk g bt cs) L L1) (hv : v.cells.size = size) (h1 : ∀ u ∈ v.cells.toList, u.oneCell' = true) (ho : o + size ≤ cs.length) :
    YE P l L (.store t x y) ty (fun u L' => u = undef ∧ L' = .blk g bt (setAt cs o v.cells.toList) :: L1) :=
  YE.of_skip fun ρ W w0 G d pos aft gg hρ hM => by
    have hM1 := hM.pick hp
    have hb : Blk W g bt cs.toArray := hM1.ok _ List.mem_cons_self
    obtain ⟨W', hr, hb', hg, hz⟩ := run_store hb hi hv h1 ho
    refine ⟨_, W', ?_, ⟨rfl, rfl⟩, hM1.touch hg (fun _ _ _ => hb') (fun g' h => .inl h)⟩
    simp only [execOp, hρ x _ hx, hρ y _ hy, Sem.run_bind, hr, Result.andThen_ok, Sem.run_pure]
/-- A whole variable laid over. -/
theorem E_store0 {t ty bt : TypeId} {x y : Operand} {g : Nat} {cs : List Value} {size bytes : Nat} {z : Value} {v : Value} {L1 : List Atom} (hi : TI P t size bytes z) (hx : l.ev x = some (.pointer (some ⟨g, 0, none⟩))) (hy : l.ev y = some v) (hp : Pick (.blk g bt cs) L L1) (hv : v.cells.size = size) (h1 : ∀ u ∈ v.cells.toList, u.oneCell' = true) (ho : cs.length = size) :
    YE P l L (.store t x y) ty (fun u L' => u = undef ∧ L' = .blk g bt v.cells.toList :: L1) :=
  (E_store hi hx hy hp hv h1 (by omega)).imp fun u L' h => ⟨h.1, by rw [h.2, setAt_whole (by simp [hv, ho])]⟩
/-- An element of a row of the call's own laid over. -/
theorem E_storeS {t ty e : TypeId} {x y : Operand} {A : Option Addr} {n c k : Nat} {cs : List Value} {esize size bytes : Nat} {z : Value} {v : Value} {L1 : List Atom} (hi : TI P t size bytes z) (hx : l.ev x = some (slotP A k)) (hy : l.ev y = some v) (hp : Pick (.own e esize (.slice A n c) n cs) L L1) (hv : v.cells.size = size) (h1 : ∀ u ∈ v.cells.toList, u.oneCell' = true) (ho : k + size ≤ cs.length) (h0 : 0 < cs.length) :
    YE P l L (.store t x y) ty (fun u L' => u = undef ∧ L' = .own e esize (.slice A n c) n (setAt cs k v.cells.toList) :: L1) :=
  YE.of_skip fun ρ W w0 G d pos aft gg hρ hM => by
    have hM1 := hM.pick hp
    have hb : W.ownsRow 0 e esize (.slice A n c) n cs := hM1.ok _ List.mem_cons_self
    obtain ⟨hl, h2 | ⟨g, cap, cur, hv', _, hh, hnc, hcm, hcs, htk⟩⟩ := hb
    · rw [h2.2] at hl; omega
    · injection hv' with hA _ hc
      subst hA; subst hc
      have hle : cs.length ≤ cur.size := by rw [hl, hcs]; exact Nat.mul_le_mul_right _ hnc
      have hcur : Blk W g e cur.toList.toArray := by rw [Array.toArray_toList]; exact hh
      obtain ⟨W', hr, hb', hg, hz⟩ := run_store (P := P) (o := k) (t := t) (v := v) hcur hi hv h1 (by simp; omega)
      refine ⟨_, W', ?_, ⟨rfl, rfl⟩, hM1.touch hg (fun _ _ _ => ?_) (fun g' h => .inl h)⟩
      · rw [slotP_some, Nat.zero_add] at hx
        simp only [execOp, hρ x _ hx, hρ y _ hy, Sem.run_bind, hr, Result.andThen_ok, Sem.run_pure]
      · refine ⟨by rw [setAt_length (by simp [hv]; omega)]; exact hl, .inr ⟨g, c, (setAt cur.toList k v.cells.toList).toArray, rfl, Nat.zero_le _, hb', hnc, hcm, ?_, ?_⟩⟩
        · simp [setAt_length (cs := cur.toList) (o := k) (vs := v.cells.toList) (by simp [hv]; omega)]; exact hcs
        · rw [← hl]
          subst htk
          have hl' : (cur.toList.take (n * esize)).length = n * esize := hl
          simp only [setAt]
          rw [List.length_take] at hl'
          have hk1 : k ≤ n * esize := by simp at ho; omega
          have hvs : v.cells.toList.length = size := by simp [hv]
          have hks : k + size ≤ n * esize := by simp at ho; omega
          rw [hl]
          rw [List.take_append, List.take_append, List.take_take, List.length_append, List.length_take, List.drop_take, hvs]
          have e1 : min (n * esize) k = k := by omega
          have e2 : min k cur.toList.length = k := by simp; omega
          rw [List.take_take, e1]
          rw [show min k (n * esize) = k by omega, e2]
          rw [List.take_of_length_le (l := v.cells.toList) (by rw [hvs]; omega)]
/-! ### Append -/
theorem Rng.reads {W : World} {A : Option Addr} {cs : List Value} {n size : Nat} (h : Rng W A cs) (hn : cs.length = n * size) (h0 : 0 < size) : Reads W W.heap.size size A n cs := by
  refine ⟨hn, fun hp => ?_⟩
  rcases h with rfl | ⟨b, o, e, h⟩
  · exfalso
    have : 0 < n * size := Nat.mul_pos hp h0
    simp at hn
    omega
  · have hl : 0 < cs.length := by rw [hn]; exact Nat.mul_pos hp h0
    refine ⟨_, e, ?_, fun j u hj => by rw [Addr.add_mid]; exact h j u hj⟩
    exact block_lt_of_cell (h 0 _ (List.getElem?_eq_getElem hl))
theorem E_append {t e ty : TypeId} {s x : Operand} {A B : Option Addr} {n c m cb size bytes : Nat} {z : Value} {xs news : List Value} {L1 : List Atom} (ht : P.underlying t = some (.slice e)) (hi : TI P e size bytes z) (hz : z.cells.size = size) (h0 : 0 < size)
    (hs : l.ev s = some (.slice A n c)) (hx : l.ev x = some (.slice B m cb)) (hp : Pick (.own e size (.slice A n c) n xs) L L1) (hr : RngIn L B news) (hm : news.length = m * size) (h1 : ∀ u ∈ news, u.oneCell' = true) (hb : (n + m) * bytes ≤ 140737488355328) (hlen : n + m ≤ 9223372036854775807) :
    YE P l L (.call ⟨.builtin .append, #[s, x], #[t, t]⟩) ty (fun v L' => ∃ A' c', v = .slice A' (n + m) c' ∧ L' = .own e size (.slice A' (n + m) c') (n + m) (xs ++ news) :: L1) :=
  YE.of_run fun ρ W w0 G d pos aft gg hρ hM => by
    have hM1 := hM.pick hp
    obtain ⟨i, i1, i2, i3, i4⟩ := hi.info
    have ho : W.ownsRow 0 e size (.slice A n c) n xs := hM1.ok _ List.mem_cons_self
    obtain ⟨v', W', hrun, h2, h3, h4⟩ := run_append_any (P := P) W 0 t ty e i z size bytes ht i1 i4 i2 i3 hz h0 _ n xs ho W.heap.size B m cb news ((hr W hM.core).reads hm h0) h1 (by unfold maxLen; omega) hb (Nat.zero_le _)
    obtain ⟨A', c', rfl⟩ := own_slice h2
    refine ⟨_, _, W', ?_, ⟨A', c', rfl, rfl⟩, hM1.touch h3 (fun _ _ _ => h2) (fun g' hg' => ?_)⟩
    · simp only [execOp, resolve, invoke, builtin, Sem.run_bind, Sem.run_pure, Result.andThen_ok, List.map_toArray, List.map_cons, List.map_nil, hρ s _ hs, hρ x _ hx, hrun]
    · have hlt := (h2.lt g' hg').2
      rcases h4 with h4 | h4
      · left
        have hg2 : (Value.slice A' (n + m) c').ownBlock = some g' := hg'
        rw [h4] at hg2
        exact hg2
      · right
        have hg2 : (Value.slice A' (n + m) c').ownBlock = some g' := hg'
        rw [h4] at hg2
        injection hg2 with hg2
        exact ⟨by omega, hlt⟩
/-- Append to nil. -/
theorem E_append0 {t e ty : TypeId} {s x : Operand} {B : Option Addr} {m cb size bytes : Nat} {z : Value} {news : List Value} (ht : P.underlying t = some (.slice e)) (hi : TI P e size bytes z) (hz : z.cells.size = size) (h0 : 0 < size)
    (hs : l.ev s = some (.slice none 0 0)) (hx : l.ev x = some (.slice B m cb)) (hr : RngIn L B news) (hm : news.length = m * size) (h1 : ∀ u ∈ news, u.oneCell' = true) (hb : m * bytes ≤ 140737488355328) (hlen : m ≤ 9223372036854775807) :
    YE P l L (.call ⟨.builtin .append, #[s, x], #[t, t]⟩) ty (fun v L' => ∃ A' c', v = .slice A' m c' ∧ L' = .own e size (.slice A' m c') m news :: L) :=
  fun a W w0 G d pos aft g K Q hρ hM hK => by
    have hM0 : Mem w0 G (.own e size (.slice none 0 0) 0 [] :: L) W := by
      refine hM.grow (N := [_]) (Below.refl _ _) (fun x hx M B G' _ _ => ?_) (fun g hg => by simp [blocks, Atom.block, Value.ownBlock] at hg) List.nodup_nil
      obtain rfl := List.mem_singleton.1 hx
      exact World.ownsRow_nil _ _ _ _
    have hE := E_append (P := P) (l := l) (ty := ty) (L := .own e size (.slice none 0 0) 0 [] :: L) ht hi hz h0 hs hx (Pick.here _ _) (fun W hC => hr W (fun x hx => hC x (List.mem_cons_of_mem _ hx))) hm h1 (by simpa using hb) (by omega)
    refine hE a W w0 G d pos aft g K Q hρ hM0 (fun v L' W' hp hm' => hK v L' W' ?_ hm')
    obtain ⟨A', c', hv, hL⟩ := hp
    exact ⟨A', c', by simpa using hv, by simpa using hL⟩
/-! ### Calls -/
/-- A function's contract: what it is given to turn, what it reads, what it answers and leaves. -/
def CT (P : Program) (f : FuncId) (args : List Value) (pre : List Atom) (facts : List (World → Prop)) (post : Value → List Atom → Prop) : Prop :=
  ∀ W, Mem W (blocks pre) pre W → (∀ φ ∈ facts, Stable (blocks pre) 0 [] W φ) → Calls P f args.toArray W fun e W' => ∃ v N, e = .returned v ∧ post v N ∧ Mem W (blocks pre) N W' ∧ ∀ x ∈ N, x.fresh = true
def evl (l : Fr) : List Operand → Option (List Value)
  | [] => some []
  | x :: xs => match l.ev x, evl l xs with
    | some v, some vs => some (v :: vs)
    | _, _ => none
theorem evl_map {ρ : Operand → Value} (hρ : ∀ x u, l.ev x = some u → ρ x = u) : ∀ (xs : List Operand) (vs : List Value), evl l xs = some vs → xs.map ρ = vs
  | [], vs, h => by simp only [evl, Option.some.injEq] at h; subst h; rfl
  | x :: xs, vs, h => by
    simp only [evl] at h
    cases hx : l.ev x with
    | none => simp [hx] at h
    | some v =>
      cases hp : evl l xs with
      | none => simp [hx, hp] at h
      | some us =>
        simp [hx, hp] at h
        subst h
        simp [hρ x v hx, evl_map hρ xs us hp]
/-- A function with a body of its own. -/
def Fun (P : Program) (f : FuncId) : Prop := ∃ fn, P.funcs[f]? = some fn ∧ (fn.name == "runtime.NumGoroutine") = false ∧ fn.body.isNone = false
theorem run_callFunc {f : FuncId} (hf : Fun P f) (args : Array Value) (W : World) : (callFunc f args).run P W = .ok (.enter f args) W := by
  obtain ⟨fn, h1, h2, h3⟩ := hf
  have h2' : fn.name ≠ "runtime.NumGoroutine" := by simpa using h2
  have h3' : fn.body ≠ none := by intro h; rw [h] at h3; cases h3
  simp [callFunc, h1, h2', h3']
theorem E_call {f : FuncId} {ty : TypeId} {xs : List Operand} {ts : Array TypeId} {vs : List Value} {pre L1 : List Atom} {facts : List (World → Prop)} {post : Value → List Atom → Prop} (hf : Fun P f)
    (hc : CT P f vs pre facts post) (hx : evl l xs = some vs) (hp : Picks pre L L1) (hpre : ∀ x ∈ pre, x.mine = true) (hφ : ∀ φ ∈ facts, Ent pre L1 φ) :
    YE P l L (.call ⟨.value (.func f), xs.toArray, ts⟩) ty (fun v L' => ∃ N, post v N ∧ L' = N ++ L1) :=
  fun a W w0 G d pos aft g K Q hρ hM hK => by
    have hM1 := hM.picks hp
    have h := hc W (hM1.start hpre) (fun φ hm => hφ φ hm w0 G W hM1)
    have hrun : (execOp a.eval ⟨d, .call ⟨.value (.func f), xs.toArray, ts⟩, ty, pos, aft, g⟩).run P W = .ok (.enter f vs.toArray) W := by
      have hm := evl_map hρ xs vs hx
      simp only [execOp, resolve, Act.eval, Deferred.ofValue, invoke, Sem.run_bind, Sem.run_pure, Result.andThen_ok, List.map_toArray, hm, run_callFunc hf, Array.append_empty, Array.empty_append]
    unfold Oper.wp
    rw [hrun]
    refine h.mono fun e W' he => ?_
    obtain ⟨v, N, rfl, hpost, hM', hfresh⟩ := he
    exact hK v (N ++ L1) W' ⟨N, hpost, rfl⟩ (hM1.call hM' hfresh)
end
end Go.Proofs.Ytkckakfkeooepaa
