/- Judgements on code: what a function's text comes to, in words on its slots and on memory. -/
import Derived.Test.YtkckakfkeooepaaJEff
namespace Go.Proofs.Ytkckakfkeooepaa
set_option linter.all false
set_option linter.unusedSimpArgs false
set_option linter.unusedVariables false
set_option linter.unnecessarySimpa false
open Go.RowKit
/-- What stays the same through a call. -/
structure Cx where
  P : Program
  n : Nat
  w0 : World
  G : List Nat
abbrev Post := Exit → Act → World → Prop
def JQ (c : Cx) (Q : Post) (e : Exit) (l : Fr) (L : List Atom) : Prop := ∀ a W, Ag c.n a l → Mem c.w0 c.G L W → Q e a W
def JL (c : Cx) (ops : Array Oper) (Q : Post) (rest : List Oper) (l : Fr) (L : List Atom) : Prop := ∀ a W, Ag c.n a l → Mem c.w0 c.G L W → wpList c.P ops Q rest a W
def JC (c : Cx) (x : Code) (Q : Post) (l : Fr) (L : List Atom) : Prop := ∀ a W, Ag c.n a l → Mem c.w0 c.G L W → x.wp c.P Q a W
section
variable {c : Cx} {Q : Post} {l : Fr} {L : List Atom} {ops : Array Oper} {rest : List Oper}
/-! ### Guards -/
theorem wanted_none {o : Oper} {y : Nat → Option Bool} (h : o.guard = none) : Region.wanted o y = true := by simp [Region.wanted, h]
theorem wanted_some {P : Program} {n : Nat} {o : Oper} {a : Act} {j : Nat} {want b : Bool} {t : Nat} (ha : Ag n a l) (h : o.guard = some (j, want)) (ho : (ops[j]?).bind (·.dst) = some t) (hb : l.get t = some (.bool b)) : Region.wanted o (yielded ops a.tmps) = (b == want) := by
  have h1 := ha.get t _ hb
  simp [Region.wanted, h, yielded, ho, h1]
/-! ### A region in the text's order -/
theorem JL_nil (h : JQ c Q .normal l L) : JL c ops Q [] l L := fun a W ha hM => h a W ha hM
theorem JL_R {op : Op} {ty : TypeId} {pos : String} {aft : Array Edge} {d : Nat} {v : Value} (hd : Nat.blt d c.n = true) (h : YR c.P L l op ty v) (k : JL c ops Q rest ((d, v) :: l) L) : JL c ops Q (⟨some d, op, ty, pos, aft, none⟩ :: rest) l L :=
  fun a W ha hM => by
    refine wpList_plain rfl fun K hK => ?_
    have hr := h a.eval W (some d) pos aft none ha.ev hM.core
    unfold Oper.wp
    rw [hr]
    exact hK _ _ (k _ W (ha.put d v hd) hM)
theorem JL_E {op : Op} {ty : TypeId} {pos : String} {aft : Array Edge} {d : Nat} {post : Value → List Atom → Prop} (hd : Nat.blt d c.n = true) (h : YE c.P l L op ty post) (k : ∀ v L', post v L' → JL c ops Q rest ((d, v) :: l) L') : JL c ops Q (⟨some d, op, ty, pos, aft, none⟩ :: rest) l L :=
  fun a W ha hM => by
    refine wpList_plain rfl fun K hK => ?_
    exact h a W c.w0 c.G (some d) pos aft none K Q ha.ev hM fun v L' W' hp hm => hK _ _ (k v L' hp _ W' (ha.put d v hd) hm)
theorem JL_E0 {op : Op} {ty : TypeId} {pos : String} {aft : Array Edge} {post : Value → List Atom → Prop} (h : YE c.P l L op ty post) (k : ∀ v L', post v L' → JL c ops Q rest l L') : JL c ops Q (⟨none, op, ty, pos, aft, none⟩ :: rest) l L :=
  fun a W ha hM => by
    refine wpList_plain rfl fun K hK => ?_
    exact h a W c.w0 c.G none pos aft none K Q ha.ev hM fun v L' W' hp hm => hK _ _ (k v L' hp _ W' ha hm)
theorem JL_skip {op : Op} {ty : TypeId} {pos : String} {aft : Array Edge} {d j t : Nat} {want b : Bool} (hd : Nat.blt d c.n = true) (ho : (ops[j]?).bind (·.dst) = some t) (hb : l.get t = some (.bool b)) (hw : (b == want) = false) (k : JL c ops Q rest ((d, undef) :: l) L) : JL c ops Q (⟨some d, op, ty, pos, aft, some (j, want)⟩ :: rest) l L :=
  fun a W ha hM => wpList_skip (by rw [wanted_some (P := c.P) ha rfl ho hb, hw]) (k _ W (ha.put d _ hd) hM)
theorem JL_RG {op : Op} {ty : TypeId} {pos : String} {aft : Array Edge} {d j t : Nat} {want b : Bool} {v : Value} (hd : Nat.blt d c.n = true) (ho : (ops[j]?).bind (·.dst) = some t) (hb : l.get t = some (.bool b)) (hw : (b == want) = true) (h : YR c.P L l op ty v) (k : JL c ops Q rest ((d, v) :: l) L) : JL c ops Q (⟨some d, op, ty, pos, aft, some (j, want)⟩ :: rest) l L :=
  fun a W ha hM => by
    refine wpList_step fun K hK => ?_
    rw [if_pos (by rw [wanted_some (P := c.P) ha rfl ho hb, hw])]
    have hr := h a.eval W (some d) pos aft (some (j, want)) ha.ev hM.core
    unfold Oper.wp
    rw [hr]
    exact hK _ _ (k _ W (ha.put d v hd) hM)
theorem JL_EG {op : Op} {ty : TypeId} {pos : String} {aft : Array Edge} {d j t : Nat} {want b : Bool} {post : Value → List Atom → Prop} (hd : Nat.blt d c.n = true) (ho : (ops[j]?).bind (·.dst) = some t) (hb : l.get t = some (.bool b)) (hw : (b == want) = true) (h : YE c.P l L op ty post) (k : ∀ v L', post v L' → JL c ops Q rest ((d, v) :: l) L') : JL c ops Q (⟨some d, op, ty, pos, aft, some (j, want)⟩ :: rest) l L :=
  fun a W ha hM => by
    refine wpList_step fun K hK => ?_
    rw [if_pos (by rw [wanted_some (P := c.P) ha rfl ho hb, hw])]
    exact h a W c.w0 c.G (some d) pos aft (some (j, want)) K Q ha.ev hM fun v L' W' hp hm => hK _ _ (k v L' hp _ W' (ha.put d v hd) hm)
theorem JC_region {id : Nat} {ol : List Oper} (h : JL c ol.toArray Q ol l L) : JC c (.region id ol.toArray false) Q l L := fun a W ha hM => wp_region_lit (h a W ha hM)
/-! ### The other kinds of code -/
theorem JC_seq {x y : Code} (h : JC c x (Exit.then (fun a w => y.wp c.P Q a w) Q) l L) : JC c (.seq x y) Q l L := fun a W ha hM => wp_seq (h a W ha hM)
theorem JQ_then {y : Code} (h : JC c y Q l L) : JQ c (Exit.then (fun a w => y.wp c.P Q a w) Q) .normal l L := h
theorem JQ_then_ret {K : Act → World → Prop} (h : JQ c Q .ret l L) : JQ c (Exit.then K Q) .ret l L := h
theorem JQ_then_exit {K : Act → World → Prop} {id : Nat} (h : JQ c Q (.exit id) l L) : JQ c (Exit.then K Q) (.exit id) l L := h
theorem JC_cond {x : Operand} {t e : Code} {b : Bool} (hc : l.ev x = some (.bool b)) (ht : b = true → JC c t Q l L) (hf : b = false → JC c e Q l L) : JC c (.cond x t e) Q l L :=
  fun a W ha hM => wp_cond_split (t := b) (ha.ev _ _ hc) (fun h => ht h a W ha hM) (fun h => hf h a W ha hM)
theorem JC_if {x : Operand} {t e : Code} {b : Bool} (hc : l.ev x = some (.bool b)) (hb : b = true) (ht : JC c t Q l L) : JC c (.cond x t e) Q l L := JC_cond hc (fun _ => ht) (fun h => by rw [hb] at h; cases h)
theorem JC_else {x : Operand} {t e : Code} {b : Bool} (hc : l.ev x = some (.bool b)) (hb : b = false) (he : JC c e Q l L) : JC c (.cond x t e) Q l L := JC_cond hc (fun h => by rw [hb] at h; cases h) (fun _ => he)
theorem JC_block {id : Nat} {x : Code} (h : JC c x (Exit.inBlock id Q) l L) : JC c (.block id x) Q l L := fun a W ha hM => wp_block (h a W ha hM)
theorem JQ_block {id : Nat} (h : JQ c Q .normal l L) : JQ c (Exit.inBlock id Q) .normal l L := h
theorem JQ_block_ret {id : Nat} (h : JQ c Q .ret l L) : JQ c (Exit.inBlock id Q) .ret l L := h
theorem JQ_block_exit {id : Nat} (h : JQ c Q .normal l L) : JQ c (Exit.inBlock id Q) (.exit id) l L := fun a W ha hM => by
  simp only [Exit.inBlock, if_true]; exact h a W ha hM
theorem JQ_block_other {id id' : Nat} (hne : (id' == id) = false) (h : JQ c Q (.exit id') l L) : JQ c (Exit.inBlock id Q) (.exit id') l L := fun a W ha hM => by
  have : ¬ id' = id := by simpa using hne
  simp only [Exit.inBlock, this, if_false]; exact h a W ha hM
theorem JC_exit {id : Nat} (h : JQ c Q (.exit id) l L) : JC c (.exit id) Q l L := fun a W ha hM => wp_exit (h a W ha hM)
theorem JC_ret (h : JQ c Q .ret l L) : JC c .ret Q l L := fun a W ha hM => wp_ret (h a W ha hM)
theorem JC_skip (h : JQ c Q .normal l L) : JC c .skip Q l L := fun a W ha hM => wp_skip (h a W ha hM)
/-! ### Where ways meet, and loops -/
/-- These slots are as they were. -/
def FrSub (l' l : Fr) : Prop := ∀ k v, l'.get k = some v → l.get k = some v
theorem FrSub.nil : FrSub [] l := fun _ _ h => by simp [Fr.get] at h
theorem FrSub.cons {l' : Fr} {k : Nat} {v u : Value} (h : l.get k = some u) (e : u = v) (hs : FrSub l' l) : FrSub ((k, v) :: l') l := fun j x hj => by
  subst e
  simp only [Fr.get] at hj
  cases hb : Nat.beq k j with
  | true =>
    rw [hb] at hj
    obtain rfl := Nat.eq_of_beq_eq_true hb
    simp only [cond_true, Option.some.injEq] at hj
    subst hj; exact h
  | false => rw [hb] at hj; exact hs j x hj
/-- Slots and memory, for some i, as listed. -/
def Mid (c : Cx) {ι : Type} (p : ι → Prop) (fl : ι → Fr) (Lf : ι → List Atom) (a : Act) (w : World) : Prop := ∃ i, p i ∧ Ag c.n a (fl i) ∧ Mem c.w0 c.G (Lf i) w
theorem JC_cut {ι : Type} {x y : Code} (p : ι → Prop) (fl : ι → Fr) (Lf : ι → List Atom) (hx : JC c x (Exit.then (Mid c p fl Lf) Q) l L) (hy : ∀ i, p i → JC c y Q (fl i) (Lf i)) : JC c (.seq x y) Q l L :=
  fun a W ha hM => wp_seq (wp_mono (hx a W ha hM) fun e a w h => by
    cases e with
    | normal => obtain ⟨i, hp, ha', hM'⟩ := h; exact hy i hp a w ha' hM'
    | _ => exact h)
theorem JQ_mid {ι : Type} {p : ι → Prop} {fl : ι → Fr} {Lf : ι → List Atom} {R : List Atom} (i : ι) (hp : p i) (hs : Picks (Lf i) L R) (hf : FrSub (fl i) l) : JQ c (Exit.then (Mid c p fl Lf) Q) .normal l L :=
  fun a W ha hM => ⟨i, hp, ha.sub hf, (hM.picks hs).drop⟩
def Nxt (c : Cx) {ι : Type} (p : ι → Prop) (fl : ι → Fr) (Lf : ι → List Atom) (μ : ι → Nat) (m : Nat) (a : Act) (w : World) : Prop := ∃ i, p i ∧ μ i < m ∧ Ag c.n a (fl i) ∧ Mem c.w0 c.G (Lf i) w
theorem exists_least (p : Nat → Prop) (h : ∃ m, p m) : ∃ m, p m ∧ ∀ k, p k → m ≤ k := by
  obtain ⟨m, hm⟩ := h
  induction m using Nat.strongRecOn with
  | _ m ih =>
    by_cases hk : ∃ k, k < m ∧ p k
    · obtain ⟨k, hlt, hk⟩ := hk
      exact ih k hlt hk
    · exact ⟨m, hm, fun k hp => by
        rcases Nat.lt_or_ge k m with h | h
        · exact absurd ⟨k, h, hp⟩ hk
        · exact h⟩
open Classical in
noncomputable def least (p : Nat → Prop) : Nat := if h : ∃ m, p m then Classical.choose (exists_least p h) else 0
theorem least_spec (p : Nat → Prop) (h : ∃ m, p m) : p (least p) ∧ ∀ k, p k → least p ≤ k := by
  unfold least
  rw [dif_pos h]
  exact Classical.choose_spec (exists_least p h)
theorem JC_loop {ι : Type} {x : Code} (p : ι → Prop) (fl : ι → Fr) (Lf : ι → List Atom) (μ : ι → Nat) {R : List Atom} (i : ι) (hp : p i) (hs : Picks (Lf i) L R) (hf : FrSub (fl i) l)
    (round : ∀ i, p i → JC c x (Exit.then (Nxt c p fl Lf μ (μ i)) Q) (fl i) (Lf i)) : JC c (.loop x) Q l L :=
  fun a W ha hM => by
    refine wp_loop (fun a w => ∃ m, Nxt c p fl Lf μ m a w) (fun a w => least (fun m => Nxt c p fl Lf μ m a w)) ⟨μ i + 1, i, hp, by omega, ha.sub hf, (hM.picks hs).drop⟩ fun a w hI => ?_
    obtain ⟨j, hpj, hj, haj, hMj⟩ := (least_spec _ hI).1
    refine wp_mono (round j hpj a w haj hMj) fun e a' w' h => ?_
    cases e with
    | normal => exact ⟨⟨_, h⟩, Nat.lt_of_le_of_lt ((least_spec _ ⟨_, h⟩).2 _ h) hj⟩
    | _ => exact h
theorem JQ_nxt {ι : Type} {p : ι → Prop} {fl : ι → Fr} {Lf : ι → List Atom} {μ : ι → Nat} {m : Nat} {R : List Atom} (i : ι) (hp : p i) (hm : μ i < m) (hs : Picks (Lf i) L R) (hf : FrSub (fl i) l) : JQ c (Exit.then (Nxt c p fl Lf μ m) Q) .normal l L :=
  fun a W ha hM => ⟨i, hp, hm, ha.sub hf, (hM.picks hs).drop⟩
end
end Go.Proofs.Ytkckakfkeooepaa
