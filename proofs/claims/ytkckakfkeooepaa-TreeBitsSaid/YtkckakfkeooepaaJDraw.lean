/- A region that draws its order: what only reads comes first, the rest in the one order that is left. -/
import Derived.Test.YtkckakfkeooepaaJCode
import Derived.OrdersHeld
namespace Go.Proofs.Ytkckakfkeooepaa
set_option linter.all false
set_option linter.unusedSimpArgs false
set_option linter.unusedVariables false
set_option linter.unnecessarySimpa false
open Go.RowKit
section
variable {P : Program} {ops : Array Oper} {Q : Post} {md : Region.Mode} {Qs : List Nat}
/-- Must i come ahead of j, at once or through one other? -/
def direct (md : Region.Mode) (ops : Array Oper) (i j : Nat) : Bool := match ops[j]? with
  | some o => o.after.any fun e => Region.binds md e && e.on == i
  | none => false
def way (md : Region.Mode) (ops : Array Oper) (i j : Nat) : Bool := match ops[j]? with
  | some o => o.after.any fun e => Region.binds md e && (e.on == i || direct md ops i e.on)
  | none => false
/-- What is listed has all that must come ahead of it listed. -/
def Cl (md : Region.Mode) (ops : Array Oper) (listed : Array Bool) : Prop := ∀ k o, ops[k]? = some o → listed.getD k false = true → ∀ e ∈ o.after, Region.binds md e = true → listed.getD e.on false = true
theorem Cl.put {listed : Array Bool} {i : Nat} (h : Cl md ops listed) (hi : i ∈ Region.ready md ops listed) : Cl md ops (listed.setIfInBounds i true) := by
  intro k o hk hl e he hb
  refine getD_set_true ?_
  by_cases hik : i = k
  · subst hik
    obtain ⟨_, o', ho', hall⟩ := mem_ready.1 hi
    rw [hk] at ho'; injection ho' with ho'; subst ho'
    exact hall e he hb
  · rw [getD_set_ne false hik] at hl
    exact h k o hk hl e he hb
theorem Cl.start (n : Nat) : Cl md ops (Array.replicate n false) := by
  intro k o _ hl
  simp [Array.getElem?_replicate] at hl
  by_cases h : k < n <;> simp [h] at hl
theorem direct_spec {i j : Nat} {oj : Oper} {listed : Array Bool} (hoj : ops[j]? = some oj) (hall : ∀ e ∈ oj.after, Region.binds md e = true → listed.getD e.on false = true) (h : direct md ops i j = true) : listed.getD i false = true := by
  unfold direct at h
  rw [hoj] at h
  obtain ⟨e, he, hb⟩ := Array.any_eq_true'.1 h
  simp only [Bool.and_eq_true, beq_iff_eq] at hb
  rw [← hb.2]; exact hall e he hb.1
theorem way_spec {i j : Nat} {oj : Oper} {listed : Array Bool} (hc : Cl md ops listed) (hoj : ops[j]? = some oj) (hall : ∀ e ∈ oj.after, Region.binds md e = true → listed.getD e.on false = true) (h : way md ops i j = true) : listed.getD i false = true := by
  unfold way at h
  rw [hoj] at h
  obtain ⟨e, he, hb⟩ := Array.any_eq_true'.1 h
  simp only [Bool.and_eq_true, Bool.or_eq_true, beq_iff_eq] at hb
  rcases hb.2 with h1 | h1
  · rw [← h1]; exact hall e he hb.1
  · cases hk : ops[e.on]? with
    | none => rw [direct, hk] at h1; cases h1
    | some ok => exact direct_spec hk (hc e.on ok hk (hall e he hb.1)) h1
/-- Stands an operation in an order with each other one but those of Qs? -/
def barrier (md : Region.Mode) (ops : Array Oper) (Qs : List Nat) (j : Nat) : Bool :=
  (List.range ops.size).all fun i => i == j || Qs.contains i || way md ops i j || way md ops j i
theorem barrier_spec {j i : Nat} {o x : Oper} (h : barrier md ops Qs j = true) (ho : ops[j]? = some o) (hx : ops[i]? = some x) (hne : i ≠ j) : Qs.contains i = true ∨ way md ops i j = true ∨ way md ops j i = true := by
  have hi : i < ops.size := (Array.getElem?_eq_some_iff.1 hx).1
  simp only [barrier, List.all_eq_true, List.mem_range, Bool.or_eq_true, beq_iff_eq] at h
  rcases h i hi with ((h | h) | h) | h
  · exact absurd h hne
  · exact .inl h
  · exact .inr (.inl h)
  · exact .inr (.inr h)
/-- Whatever order is picked; S holds behind each operation but a barrier, behind which another condition may stand. -/
def wpS (P : Program) (md : Region.Mode) (ops : Array Oper) (Qs : List Nat) (Q : Post) : Nat → (World → Prop) → Array Bool → Act → World → Prop
  | 0, _, listed, a, w => Region.ready md ops listed = [] ∧ Q .normal a w
  | fuel + 1, S, listed, a, w =>
    (Region.ready md ops listed = [] → Q .normal a w) ∧
    ∀ i ∈ Region.ready md ops listed, wpOp P ops Q i (fun a' w' => ∃ S' : World → Prop, (barrier md ops Qs i = true ∨ ∀ w, S' w → S w) ∧ S' w' ∧ wpS P md ops Qs Q fuel S' (listed.setIfInBounds i true) a' w') a w
theorem wpS_any : ∀ (fuel : Nat) (S : World → Prop) (listed : Array Bool) (a : Act) (w : World), wpS P md ops Qs Q fuel S listed a w → wpAny P md ops Q fuel listed a w
  | 0, _, _, _, _, h => h
  | fuel + 1, _, _, _, _, h => ⟨h.1, fun i hi => wpOp_mono (fun a' w' h' => by obtain ⟨S', _, _, h'⟩ := h'; exact wpS_any fuel S' _ a' w' h') (h.2 i hi)⟩
/-- What yields its value in every world that meets S may be taken first. -/
theorem wpS_first {i : Nat} {oi : Oper} {v : Value} (hi : ops[i]? = some oi) (hsel : ∀ (j : Nat) (o : Oper) cs b, ops[j]? = some o → o.op ≠ .select cs b) (hQ : ∀ c a w, Q (.panic c) (a.put oi.dst v) w → Q (.panic c) a w) :
    ∀ (fuel : Nat) (S : World → Prop) (listed : Array Bool) (a : Act) (w : World),
      (∀ j oj, ops[j]? = some oj → j ≠ i → listed.getD j true = false → (∀ e ∈ oj.after, Region.binds md e = true → e.on ≠ i) → oi.apart ops oj = true) →
      Cl md ops listed → i ∈ Region.ready md ops listed → YieldsIf P ops S oi v a → (Qs.contains i = true → YieldsIf P ops (fun _ => True) oi v a) → S w →
      wpS P md ops Qs Q fuel S (listed.setIfInBounds i true) (a.put oi.dst v) w → wpS P md ops Qs Q (fuel + 1) S listed a w := by
  intro fuel
  induction fuel with
  | zero =>
    intro S listed a w _ hcl hr hy hq hS H
    refine ⟨fun h => (by rw [h] at hr; cases hr), fun j hj => ?_⟩
    by_cases hji : j = i
    · subst hji; exact hy.wpOp hi hS ⟨S, .inr (fun _ h => h), hS, H⟩
    · have := ready_mono hj hji
      rw [H.1] at this
      cases this
  | succ fuel ih =>
    intro S listed a w hfree hcl hr hy hq hS H
    refine ⟨fun h => (by rw [h] at hr; cases hr), fun j hj => ?_⟩
    by_cases hji : j = i
    · subst hji; exact hy.wpOp hi hS ⟨S, .inr (fun _ h => h), hS, H⟩
    · have h1 := H.2 j (ready_mono hj hji)
      obtain ⟨hjun, oj, hoj, hall⟩ := mem_ready.1 hj
      have hir := mem_ready.1 hr
      have hno : ∀ (x y : Nat), (∀ e ∈ (ops[x]?).toList.flatMap (fun o => o.after.toList), Region.binds md e = true → listed.getD e.on false = true) → listed.getD y true = false → ∀ e ∈ (ops[x]?).toList.flatMap (fun o => o.after.toList), Region.binds md e = true → e.on ≠ y := fun x y hx hy e he hb heq => by
        have h1 := hx e he hb
        rw [heq] at h1
        rcases Nat.lt_or_ge y listed.size with h' | h'
        · simp [h'] at hy h1; rw [hy] at h1; cases h1
        · simp [Array.getElem?_eq_none h'] at h1
      have hnot : ∀ e ∈ oj.after, Region.binds md e = true → e.on ≠ i := fun e he hb => hno j i (by simp only [hoj]; simpa using hall) hir.1 e (by simp only [hoj]; simpa using he) hb
      have hnot' : ∀ e ∈ oi.after, Region.binds md e = true → e.on ≠ j := by
        obtain ⟨_, oi', hoi', halli⟩ := hir
        rw [hi] at hoi'
        injection hoi' with hoi'
        subst hoi'
        exact fun e he hb => hno i j (by simp only [hi]; simpa using halli) hjun e (by simp only [hi]; simpa using he) hb
      have un : ∀ y, listed.getD y true = false → listed.getD y false = true → False := fun y h h' => by
        rcases Nat.lt_or_ge y listed.size with hy | hy
        · simp [hy] at h h'; rw [h] at h'; cases h'
        · simp [Array.getElem?_eq_none hy] at h'
      have hbar : barrier md ops Qs j = true → Qs.contains i = true := fun hl => by
        rcases barrier_spec hl hoj hi (Ne.symm hji) with h | h | h
        · exact h
        · exact (un i hir.1 (way_spec hcl hoj hall h)).elim
        · obtain ⟨_, oi', hoi', halli⟩ := hir
          exact (un j hjun (way_spec hcl hoi' halli h)).elim
      have hfree' : ∀ k ok, ops[k]? = some ok → k ≠ i → (listed.setIfInBounds j true).getD k true = false →
          (∀ e ∈ ok.after, Region.binds md e = true → e.on ≠ i) → oi.apart ops ok = true := fun k ok hk hki hun hno => by
        refine hfree k ok hk hki ?_ hno
        by_cases hjk : j = k
        · subst hjk; exact hjun
        · rw [getD_set_ne true hjk] at hun; exact hun
      cases hc : Qs.contains i with
      | true =>
        have h2 := wpOp_putIf hoj (hfree j oj hoj hji hjun hnot) (fun cs b => hsel i oi cs b hi) (fun cs b => hsel j oj cs b hoj) hQ (hq hc) h1
        refine wpOp_mono (fun a' w' h3 => ?_) h2
        obtain ⟨hy', S', hs', hSw, H'⟩ := h3
        refine ⟨S', hs', hSw, ih S' (listed.setIfInBounds j true) a' w' hfree' (hcl.put hj) (ready_mono hr (Ne.symm hji)) ?_ (fun _ => hy') hSw ?_⟩
        · exact hy'.imp (fun ⟨h1, h2⟩ => ⟨h1, fun w hw => h2 w trivial⟩) id
        · rw [Array.setIfInBounds_comm _ _ hji]
          exact H'
      | false =>
        have h2 := wpOp_putIf hoj (hfree j oj hoj hji hjun hnot) (fun cs b => hsel i oi cs b hi) (fun cs b => hsel j oj cs b hoj) hQ hy h1
        refine wpOp_mono (fun a' w' h3 => ?_) h2
        obtain ⟨hy', S', hs', hSw, H'⟩ := h3
        have hsub := hs'.resolve_left fun h => by rw [hbar h] at hc; cases hc
        refine ⟨S', .inr hsub, hSw, ih S' (listed.setIfInBounds j true) a' w' hfree' (hcl.put hj) (ready_mono hr (Ne.symm hji)) ?_ (fun h => by rw [h] at hc; cases hc) hSw ?_⟩
        · exact hy'.imp (fun ⟨h1, h2⟩ => ⟨h1, fun w hw => h2 w (hsub w hw)⟩) id
        · rw [Array.setIfInBounds_comm _ _ hji]
          exact H'
/-- In which order a region is walked. -/
inductive Plan where
  | done
  /-- operation i comes first: it only reads, or its guard says no -/
  | take (i : Nat) (p : Plan)
  /-- nothing but i may come up -/
  | exec (i : Nat) (p : Plan)
  /-- i or j may come up -/
  | exec2 (i j : Nat) (p q : Plan)
  /-- whichever of the two plans serves -/
  | alt (p q : Plan)
def Plan.check (md : Region.Mode) (ops : Array Oper) : Plan → Nat → Array Bool → Bool
  | .done, _, listed => (Region.ready md ops listed).isEmpty
  | .take _ _, 0, _ => false
  | .take i p, fuel + 1, listed => Region.free md ops listed i && (Region.ready md ops listed).contains i && Plan.check md ops p fuel (listed.setIfInBounds i true)
  | .exec _ _, 0, _ => false
  | .exec i p, fuel + 1, listed => Region.ready md ops listed == [i] && Plan.check md ops p fuel (listed.setIfInBounds i true)
  | .exec2 _ _ _ _, 0, _ => false
  | .exec2 i j p q, fuel + 1, listed => Region.ready md ops listed == [i, j] && Plan.check md ops p fuel (listed.setIfInBounds i true) && Plan.check md ops q fuel (listed.setIfInBounds j true)
  | .alt p q, fuel, listed => Plan.check md ops p fuel listed && Plan.check md ops q fuel listed
/-- Behind an operation: the plan goes on under a condition that says as much, or behind a barrier under another. -/
def wpPlan (P : Program) (md : Region.Mode) (ops : Array Oper) (Qs : List Nat) (Q : Post) : Plan → (World → Prop) → Act → World → Prop
  | .done, _, a, w => Q .normal a w
  | .take i p, S, a, w => ∃ o v, ops[i]? = some o ∧ (∀ c a w, Q (.panic c) (a.put o.dst v) w → Q (.panic c) a w) ∧ YieldsIf P ops S o v a ∧ (Qs.contains i = true → YieldsIf P ops (fun _ => True) o v a) ∧ S w ∧ wpPlan P md ops Qs Q p S (a.put o.dst v) w
  | .exec i p, S, a, w => wpOp P ops Q i (fun a' w' => ∃ S' : World → Prop, (barrier md ops Qs i = true ∨ ∀ w, S' w → S w) ∧ S' w' ∧ wpPlan P md ops Qs Q p S' a' w') a w
  | .exec2 i j p q, S, a, w => wpOp P ops Q i (fun a' w' => ∃ S' : World → Prop, (barrier md ops Qs i = true ∨ ∀ w, S' w → S w) ∧ S' w' ∧ wpPlan P md ops Qs Q p S' a' w') a w ∧
      wpOp P ops Q j (fun a' w' => ∃ S' : World → Prop, (barrier md ops Qs j = true ∨ ∀ w, S' w → S w) ∧ S' w' ∧ wpPlan P md ops Qs Q q S' a' w') a w
  | .alt p q, S, a, w => wpPlan P md ops Qs Q p S a w ∨ wpPlan P md ops Qs Q q S a w
theorem wpS_done {S : World → Prop} {listed : Array Bool} {a : Act} {w : World} (hr : Region.ready md ops listed = []) (h : Q .normal a w) : ∀ fuel, wpS P md ops Qs Q fuel S listed a w
  | 0 => ⟨hr, h⟩
  | _ + 1 => ⟨fun _ => h, by rw [hr]; simp⟩
theorem wpPlan_sound (hs : Region.noSelect ops = true) : ∀ (p : Plan) (S : World → Prop) (fuel : Nat) (listed : Array Bool) (a : Act) (w : World), Cl md ops listed → Plan.check md ops p fuel listed = true → wpPlan P md ops Qs Q p S a w → wpS P md ops Qs Q fuel S listed a w := by
  intro p
  induction p with
  | done =>
    intro S fuel listed a w hcl hc h
    refine wpS_done ?_ h fuel
    unfold Plan.check at hc; simpa using hc
  | take i p ih =>
    intro S fuel listed a w hcl hc h
    cases fuel with
    | zero => unfold Plan.check at hc; cases hc
    | succ fuel =>
      unfold Plan.check at hc
      simp only [Bool.and_eq_true] at hc
      obtain ⟨⟨h1, h2⟩, h3⟩ := hc
      obtain ⟨o, v, ho, hQ, hy, hq, hS, hp⟩ := h
      exact wpS_first ho (Region.noSelect_spec hs) hQ fuel S listed a w (Region.free_spec ho h1) hcl (by simpa using h2) hy hq hS (ih S fuel _ _ w (hcl.put (by simpa using h2)) h3 hp)
  | exec i p ih =>
    intro S fuel listed a w hcl hc h
    cases fuel with
    | zero => unfold Plan.check at hc; cases hc
    | succ fuel =>
      unfold Plan.check at hc
      simp only [Bool.and_eq_true, beq_iff_eq] at hc
      refine ⟨(fun h0 => by rw [hc.1] at h0; cases h0), fun j hj => ?_⟩
      rw [hc.1, List.mem_singleton] at hj
      subst hj
      refine wpOp_mono (fun a' w' h' => ?_) h
      obtain ⟨S', hS', hSw, hp⟩ := h'
      exact ⟨S', hS', hSw, ih S' fuel _ _ w' (hcl.put (by rw [hc.1]; simp)) hc.2 hp⟩
  | exec2 i j p q ihp ihq =>
    intro S fuel listed a w hcl hc h
    cases fuel with
    | zero => unfold Plan.check at hc; cases hc
    | succ fuel =>
      unfold Plan.check at hc
      simp only [Bool.and_eq_true, beq_iff_eq] at hc
      refine ⟨(fun h0 => by rw [hc.1.1] at h0; cases h0), fun k hk => ?_⟩
      rw [hc.1.1] at hk
      simp only [List.mem_cons, List.not_mem_nil, or_false] at hk
      rcases hk with rfl | rfl
      · refine wpOp_mono (fun a' w' h' => ?_) h.1
        obtain ⟨S', hS', hSw, hp⟩ := h'
        exact ⟨S', hS', hSw, ihp S' fuel _ _ w' (hcl.put (by rw [hc.1.1]; simp)) hc.1.2 hp⟩
      · refine wpOp_mono (fun a' w' h' => ?_) h.2
        obtain ⟨S', hS', hSw, hp⟩ := h'
        exact ⟨S', hS', hSw, ihq S' fuel _ _ w' (hcl.put (by rw [hc.1.1]; simp)) hc.2 hp⟩
  | alt p q ihp ihq =>
    intro S fuel listed a w hcl hc h
    unfold Plan.check at hc
    simp only [Bool.and_eq_true] at hc
    rcases h with h | h
    · exact ihp S fuel listed a w hcl hc.1 h
    · exact ihq S fuel listed a w hcl hc.2 h
end
section
variable {c : Cx} {Q : Post} {l : Fr} {L C : List Atom} {ops : Array Oper} {Qs : List Nat} {i : Nat}
/-- The post says nothing of the frame at a panic. -/
def NoP (Q : Post) : Prop := ∀ ch a a' w, Q (.panic ch) a w → Q (.panic ch) a' w
/-- The rest of a plan: C is what of memory stays. -/
def JP (c : Cx) (ops : Array Oper) (Qs : List Nat) (Q : Post) (C : List Atom) (p : Plan) (l : Fr) (L : List Atom) : Prop := NoP Q → ∀ a W, Ag c.n a l → Mem c.w0 c.G L W → Core C W → wpPlan c.P .any ops Qs Q p (Core C) a W
theorem JC_draw (Qs : List Nat) {id : Nat} {ol : List Oper} (hm : c.P.follows .mixedOrders = true) (p : Plan) (C : List Atom) (hc : (Region.noSelect ol.toArray && Plan.check .any ol.toArray p ol.toArray.size (Array.replicate ol.toArray.size false)) = true) (hC : ∀ x ∈ C, x ∈ L) (hQ : NoP Q) (h : JP c ol.toArray Qs Q C p l L) : JC c (.region id ol.toArray true) Q l L := by
  simp only [Bool.and_eq_true] at hc
  intro a W ha hM
  refine wp_region_any hm (wpS_any (Qs := Qs) _ (Core C) _ _ _ (wpPlan_sound hc.1 p (Core C) _ _ _ _ (Cl.start _) hc.2 ?_))
  exact h hQ a W.drew ha hM.drew (hM.drew.core.sub hC)
theorem JP_done (h : JQ c Q .normal l L) : JP c ops Qs Q C .done l L := fun _ a W ha hM _ => h a W ha hM
theorem JP_left {p q : Plan} (h : JP c ops Qs Q C p l L) : JP c ops Qs Q C (.alt p q) l L := fun hQ a W ha hM hC => .inl (h hQ a W ha hM hC)
theorem JP_right {p q : Plan} (h : JP c ops Qs Q C q l L) : JP c ops Qs Q C (.alt p q) l L := fun hQ a W ha hM hC => .inr (h hQ a W ha hM hC)
theorem JP_R (hq : Qs.contains i = false) {d : Nat} {op : Op} {ty : TypeId} {pos : String} {aft : Array Edge} {v : Value} {p : Plan} (ho : ops[i]? = some ⟨some d, op, ty, pos, aft, none⟩) (hd : Nat.blt d c.n = true) (h : YR c.P C l op ty v) (k : JP c ops Qs Q C p ((d, v) :: l) L) : JP c ops Qs Q C (.take i p) l L :=
  fun hQ a W ha hM hC => ⟨_, v, ho, fun ch a w hq => hQ ch _ _ w hq, .inl ⟨wanted_none rfl, fun w hw => h a.eval w _ _ _ _ ha.ev hw⟩, (fun h => by rw [hq] at h; cases h), hC, k hQ _ W (ha.put d v hd) hM hC⟩
theorem JP_RG (hq : Qs.contains i = false) {d j t : Nat} {want b : Bool} {op : Op} {ty : TypeId} {pos : String} {aft : Array Edge} {v : Value} {p : Plan} (ho : ops[i]? = some ⟨some d, op, ty, pos, aft, some (j, want)⟩) (hj : (ops[j]?).bind (·.dst) = some t) (hb : l.get t = some (.bool b)) (hw : (b == want) = true) (hd : Nat.blt d c.n = true) (h : YR c.P C l op ty v) (k : JP c ops Qs Q C p ((d, v) :: l) L) : JP c ops Qs Q C (.take i p) l L :=
  fun hQ a W ha hM hC => ⟨_, v, ho, fun ch a w hq => hQ ch _ _ w hq, .inl ⟨by rw [wanted_some (P := c.P) ha rfl hj hb, hw], fun w hw => h a.eval w _ _ _ _ ha.ev hw⟩, (fun h => by rw [hq] at h; cases h), hC, k hQ _ W (ha.put d v hd) hM hC⟩
theorem JP_skip (hq : Qs.contains i = false) {d j t : Nat} {want b : Bool} {op : Op} {ty : TypeId} {pos : String} {aft : Array Edge} {p : Plan} (ho : ops[i]? = some ⟨some d, op, ty, pos, aft, some (j, want)⟩) (hj : (ops[j]?).bind (·.dst) = some t) (hb : l.get t = some (.bool b)) (hw : (b == want) = false) (hd : Nat.blt d c.n = true) (k : JP c ops Qs Q C p ((d, undef) :: l) L) : JP c ops Qs Q C (.take i p) l L :=
  fun hQ a W ha hM hC => ⟨_, undef, ho, fun ch a w hq => hQ ch _ _ w hq, .inr ⟨by rw [wanted_some (P := c.P) ha rfl hj hb, hw], rfl⟩, (fun h => by rw [hq] at h; cases h), hC, k hQ _ W (ha.put d _ hd) hM hC⟩
theorem JP_RQ {d : Nat} {op : Op} {ty : TypeId} {pos : String} {aft : Array Edge} {v : Value} {p : Plan} (ho : ops[i]? = some ⟨some d, op, ty, pos, aft, none⟩) (hd : Nat.blt d c.n = true) (h : YR c.P [] l op ty v) (k : JP c ops Qs Q C p ((d, v) :: l) L) : JP c ops Qs Q C (.take i p) l L :=
  fun hQ a W ha hM hC => ⟨_, v, ho, fun ch a w hq => hQ ch _ _ w hq, .inl ⟨wanted_none rfl, fun w hw => h a.eval w _ _ _ _ ha.ev (fun _ hx => by cases hx)⟩, (fun _ => .inl ⟨wanted_none rfl, fun w hw => h a.eval w _ _ _ _ ha.ev (fun _ hx => by cases hx)⟩), hC, k hQ _ W (ha.put d v hd) hM hC⟩
theorem wpOp_of {i : Nat} {o : Oper} {K : Act → World → Prop} {a : Act} {W : World} {P : Program} (ho : ops[i]? = some o) (hw : Region.wanted o (yielded ops a.tmps) = true) (h : o.wp P a W K Q) : wpOp P ops Q i K a W := by
  unfold wpOp
  simp only [ho, hw, if_true]
  exact .inl h
/-- Where the plan goes on: the words that stay may have become more; behind a barrier they may be others. -/
def JPn (c : Cx) (ops : Array Oper) (Qs : List Nat) (Q : Post) (C : List Atom) (i : Nat) (p : Plan) (l : Fr) (L : List Atom) : Prop := ∃ C', (∀ x ∈ C', x ∈ L) ∧ ((∀ x ∈ C, x ∈ C') ∨ barrier .any ops Qs i = true) ∧ JP c ops Qs Q C' p l L
theorem JPn_all {i : Nat} {p : Plan} (h : ∀ x ∈ C, x ∈ L) (k : JP c ops Qs Q L p l L) : JPn c ops Qs Q C i p l L := ⟨L, fun _ h => h, .inl h, k⟩
theorem JPn_some {i : Nat} {p : Plan} (C' : List Atom) (h : ∀ x ∈ C, x ∈ C') (h' : ∀ x ∈ C', x ∈ L) (k : JP c ops Qs Q C' p l L) : JPn c ops Qs Q C i p l L := ⟨C', h', .inl h, k⟩
theorem JPn_bar {i : Nat} {p : Plan} (hb : barrier .any ops Qs i = true) (k : JP c ops Qs Q L p l L) : JPn c ops Qs Q C i p l L := ⟨L, fun _ h => h, .inr hb, k⟩
theorem JPn.plan {i : Nat} {p : Plan} {a : Act} {W : World} (h : JPn c ops Qs Q C i p l L) (hQ : NoP Q) (ha : Ag c.n a l) (hM : Mem c.w0 c.G L W) : ∃ S' : World → Prop, (barrier .any ops Qs i = true ∨ ∀ w, S' w → Core C w) ∧ S' W ∧ wpPlan c.P .any ops Qs Q p S' a W := by
  obtain ⟨C', h1, h2, h3⟩ := h
  exact ⟨Core C', h2.symm.imp id (fun h => fun w hw => hw.sub h), hM.core.sub h1, h3 hQ a W ha hM (hM.core.sub h1)⟩
theorem JX_E {i d : Nat} {op : Op} {ty : TypeId} {pos : String} {aft : Array Edge} {post : Value → List Atom → Prop} {p : Plan} (ho : ops[i]? = some ⟨some d, op, ty, pos, aft, none⟩) (hd : Nat.blt d c.n = true) (h : YE c.P l L op ty post) (k : ∀ v L', post v L' → JPn c ops Qs Q C i p ((d, v) :: l) L')
    {a : Act} {W : World} (hQ : NoP Q) (ha : Ag c.n a l) (hM : Mem c.w0 c.G L W) : wpOp c.P ops Q i (fun a' w' => ∃ S' : World → Prop, (barrier .any ops Qs i = true ∨ ∀ w, S' w → Core C w) ∧ S' w' ∧ wpPlan c.P .any ops Qs Q p S' a' w') a W :=
  wpOp_of ho (wanted_none rfl) (h a W c.w0 c.G _ _ _ _ _ Q ha.ev hM fun v L' W' hp hm => (k v L' hp).plan hQ (ha.put d v hd) hm)
theorem JP_E {i d : Nat} {op : Op} {ty : TypeId} {pos : String} {aft : Array Edge} {post : Value → List Atom → Prop} {p : Plan} (ho : ops[i]? = some ⟨some d, op, ty, pos, aft, none⟩) (hd : Nat.blt d c.n = true) (h : YE c.P l L op ty post) (k : ∀ v L', post v L' → JPn c ops Qs Q C i p ((d, v) :: l) L') : JP c ops Qs Q C (.exec i p) l L :=
  fun hQ a W ha hM _ => JX_E ho hd h k hQ ha hM
theorem JP_E2 {i j d e : Nat} {op op' : Op} {ty ty' : TypeId} {pos pos' : String} {aft aft' : Array Edge} {post post' : Value → List Atom → Prop} {p q : Plan} (ho : ops[i]? = some ⟨some d, op, ty, pos, aft, none⟩) (hd : Nat.blt d c.n = true) (h : YE c.P l L op ty post)
    (ho' : ops[j]? = some ⟨some e, op', ty', pos', aft', none⟩) (hd' : Nat.blt e c.n = true) (h' : YE c.P l L op' ty' post') (k : ∀ v L', post v L' → JPn c ops Qs Q C i p ((d, v) :: l) L') (k' : ∀ v L', post' v L' → JPn c ops Qs Q C j q ((e, v) :: l) L') : JP c ops Qs Q C (.exec2 i j p q) l L :=
  fun hQ a W ha hM _ => ⟨JX_E ho hd h k hQ ha hM, JX_E ho' hd' h' k' hQ ha hM⟩
theorem JP_E0 {i : Nat} {op : Op} {ty : TypeId} {pos : String} {aft : Array Edge} {post : Value → List Atom → Prop} {p : Plan} (ho : ops[i]? = some ⟨none, op, ty, pos, aft, none⟩) (h : YE c.P l L op ty post) (k : ∀ v L', post v L' → JPn c ops Qs Q C i p l L') : JP c ops Qs Q C (.exec i p) l L :=
  fun hQ a W ha hM _ => wpOp_of ho (wanted_none rfl) (h a W c.w0 c.G _ _ _ _ _ Q ha.ev hM fun v L' W' hp hm => (k v L' hp).plan hQ ha hm)
theorem JP_EG {i d j t : Nat} {want b : Bool} {op : Op} {ty : TypeId} {pos : String} {aft : Array Edge} {post : Value → List Atom → Prop} {p : Plan} (ho : ops[i]? = some ⟨some d, op, ty, pos, aft, some (j, want)⟩) (hj : (ops[j]?).bind (·.dst) = some t) (hb : l.get t = some (.bool b)) (hw : (b == want) = true) (hd : Nat.blt d c.n = true) (h : YE c.P l L op ty post) (k : ∀ v L', post v L' → JPn c ops Qs Q C i p ((d, v) :: l) L') : JP c ops Qs Q C (.exec i p) l L :=
  fun hQ a W ha hM _ => wpOp_of ho (by rw [wanted_some (P := c.P) ha rfl hj hb, hw]) (h a W c.w0 c.G _ _ _ _ _ Q ha.ev hM fun v L' W' hp hm => (k v L' hp).plan hQ (ha.put d v hd) hm)
end
end Go.Proofs.Ytkckakfkeooepaa
