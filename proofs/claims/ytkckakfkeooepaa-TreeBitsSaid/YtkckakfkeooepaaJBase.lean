/- Shapes of contracts, calls by them; what a call may read. -/
import Derived.Test.YtkckakfkeooepaaJUse
import Derived.Test.YtkckakfkeooepaaSponge5
namespace Go.Proofs.Ytkckakfkeooepaa
set_option linter.all false
set_option linter.unusedSimpArgs false
set_option linter.unusedVariables false
set_option linter.unnecessarySimpa false
open Go.RowKit
/-- A hash's cells. -/
def hL (h : Hash) : List Value := bcs h.l
@[simp] theorem hL_length (h : Hash) : (hL h).length = 32 := by simp [hL, h.h]
theorem hL_ones (h : Hash) : ones1 (hL h) := bcs_one _
theorem bcs_ones (b : Bs) : ones1 (bcs b) := bcs_one _
/-- The contract's ends: a value that lies in no memory; a row of new memory; nothing. -/
def pV (u : Value) : Value → List Atom → Prop := fun v N => v = u ∧ N = []
def pO (e : TypeId) (size n : Nat) (xs : List Value) : Value → List Atom → Prop := fun v N => ∃ A c, v = .slice A n c ∧ N = [.own e size (.slice A n c) n xs]
section
variable {P : Program} {f : FuncId} {args : List Value} {facts : List (World → Prop)}
theorem CT_val {v : Value} (h : ∀ W, (∀ φ ∈ facts, φ W) → Calls P f args.toArray W fun e W' => e = .returned v ∧ Below W.heap.size W W') : CT P f args [] facts (pV v) := fun W hM hφ =>
  (h W fun φ hm => (hφ φ hm).now).mono fun e W' he => ⟨v, [], he.1, ⟨rfl, rfl⟩, ⟨Past.of_below he.2 _, (fun _ h => by cases h), (fun _ h => by cases h), List.nodup_nil⟩, (fun _ h => by cases h)⟩
theorem CT_pure {v : Value} (h : ∀ W, (∀ φ ∈ facts, φ W) → Calls P f args.toArray W fun e W' => e = .returned v ∧ W' = W) : CT P f args [] facts (pV v) := CT_val fun W hφ => (h W hφ).mono fun e W' he => ⟨he.1, he.2 ▸ Below.refl _ _⟩
theorem own_of_base {w : World} {base : Nat} {e : TypeId} {size : Nat} {v : Value} {n : Nat} {xs : List Value} (h : w.ownsRow base e size v n xs) : w.ownsRow 0 e size v n xs := by
  obtain ⟨h1, h2⟩ := h
  refine ⟨h1, ?_⟩
  rcases h2 with h2 | ⟨g, cap, cur, hv, hg, r⟩
  · exact .inl h2
  · exact .inr ⟨g, cap, cur, hv, Nat.zero_le _, r⟩
theorem CT_own {e : TypeId} {size n : Nat} {xs : List Value} (h : ∀ W, (∀ φ ∈ facts, φ W) → Calls P f args.toArray W fun en W' => ∃ v, en = .returned v ∧ W'.ownsRow W.heap.size e size v n xs ∧ Below W.heap.size W W') : CT P f args [] facts (pO e size n xs) := fun W hM hφ =>
  (h W fun φ hm => (hφ φ hm).now).mono fun en W' he => by
    obtain ⟨v, he, ho, hb⟩ := he
    obtain ⟨A, c, rfl⟩ := own_slice ho
    refine ⟨_, [.own e size (.slice A n c) n xs], he, ⟨A, c, rfl, rfl⟩, ⟨Past.of_below hb _, fun x hx => ?_, fun g hg => ?_, ?_⟩, fun x hx => ?_⟩
    · obtain rfl := List.mem_singleton.1 hx
      exact own_of_base ho
    · have hg' : (Value.slice A n c).ownBlock = some g := by
        simp only [blocks, List.filterMap_cons, List.filterMap_nil, Atom.block] at hg
        cases hb : (Value.slice A n c).ownBlock with
        | none => simp [hb] at hg
        | some k => simp [hb] at hg; rw [hg]
      have := ho.lt g hg'
      exact ⟨.inl this.1, this.2⟩
    · simp only [blocks, List.filterMap_cons, List.filterMap_nil, Atom.block]
      cases (Value.slice A n c).ownBlock <;> simp
    · obtain rfl := List.mem_singleton.1 hx
      rfl
end
section
variable {c : Cx} {Q : Post} {l : Fr} {L L1 C : List Atom} {ops : Array Oper} {rest : List Oper} {f : FuncId} {ty : TypeId} {pos : String} {aft : Array Edge} {xs : List Operand} {ts : Array TypeId} {vs : List Value} {facts : List (World → Prop)} {pre : List Atom}
/-! ### Calls -/
theorem E_callV {P : Program} {v : Value} (hf : Fun P f) (hx : evl l xs = some vs) (hφ : ∀ φ ∈ facts, Ent [] L φ) (hc : CT P f vs [] facts (pV v)) : YE P l L (.call ⟨.value (.func f), xs.toArray, ts⟩) ty (fun u L' => u = v ∧ L' = L) :=
  (E_call hf hc hx (Picks.nil L) (fun _ h => by cases h) hφ).imp fun u L' h => by
    obtain ⟨N, ⟨h1, h2⟩, h3⟩ := h
    subst h2
    exact ⟨h1, h3⟩
theorem E_callO {P : Program} {e : TypeId} {size n : Nat} {ys : List Value} (hf : Fun P f) (hx : evl l xs = some vs) (hφ : ∀ φ ∈ facts, Ent [] L φ) (hc : CT P f vs [] facts (pO e size n ys)) : YE P l L (.call ⟨.value (.func f), xs.toArray, ts⟩) ty (fun u L' => ∃ A k, u = .slice A n k ∧ L' = .own e size (.slice A n k) n ys :: L) :=
  (E_call hf hc hx (Picks.nil L) (fun _ h => by cases h) hφ).imp fun u L' h => by
    obtain ⟨N, ⟨A, k, h1, h2⟩, h3⟩ := h
    subst h2
    exact ⟨A, k, h1, h3⟩
end
/-! ### What a call may read -/
theorem ents_nil {K L : List Atom} : ∀ φ ∈ ([] : List (World → Prop)), Ent K L φ := fun _ h => by cases h
theorem ents_cons {K L : List Atom} {φ : World → Prop} {fs : List (World → Prop)} (h : Ent K L φ) (hs : ∀ φ ∈ fs, Ent K L φ) : ∀ ψ ∈ φ :: fs, Ent K L ψ := fun ψ hm => by
  rcases List.mem_cons.1 hm with rfl | hm
  · exact h
  · exact hs ψ hm
section
variable {K L : List Atom}
theorem rd_old {A : Option Addr} {cs : List Value} (h : .old (rd A cs) ∈ L) : Ent K L (rd A cs) := Ent.fact h
theorem rd_new {A : Option Addr} {cs : List Value} (h : .new (rd A cs) ∈ L) : Ent K L (rd A cs) := Ent.fact' h
theorem rd_own {e : TypeId} {size n c : Nat} {A : Option Addr} {cs : List Value} (h : .own e size (.slice A n c) n cs ∈ L) : Ent K L (rd A cs) := Ent.own h fun _ hw => Rng.of_own hw
theorem rd_blk {t : TypeId} {g : Nat} {cs : List Value} (h : .blk g t cs ∈ L) : Ent K L (rd (some ⟨g, 0, none⟩) cs) := Ent.blk h fun w hw => by
  have := Rng.of_blk hw 0 cs.length
  rw [List.drop_zero, List.take_length] at this
  exact this
theorem rd_blkP {t : TypeId} {g o : Nat} {ps : List (List Value)} {vs : List Value} (k : Nat) (h : .blk g t (pl ps) ∈ L) (hk : ps[k]? = some vs) (ho : offP ps k = o) : Ent K L (rd (some ⟨g, o, none⟩) vs) := Ent.blk h fun w hw => by
  have := Rng.of_blk hw o vs.length
  obtain ⟨hk', e⟩ := List.getElem?_eq_some_iff.1 hk
  subst ho
  have h2 := pl_seg ps k 1
  rw [List.drop_eq_getElem_cons hk', e] at h2
  simp only [List.take_succ_cons, List.take_zero, pl, List.append_nil] at h2
  rw [h2] at this
  exact this
theorem rd_nilA {A : Option Addr} : Ent K L (rd A []) := fun _ _ _ _ _ _ => .inl rfl
theorem rd_nil : Ent K L (rd none []) := fun _ _ _ _ _ _ => .inl rfl
theorem rd_take {A : Option Addr} {cs : List Value} (h : Ent K L (rd A cs)) (k : Nat) : Ent K L (rd A (cs.take k)) := h.imp fun _ hw => hw.take k
theorem rd_cut {A : Option Addr} {cs : List Value} {k cap size : Nat} (h : Ent K L (rd A cs)) (hc : cap = k → cs.length ≤ k * size) : Ent K L (rd (cutA A k cap size) (cs.drop (k * size))) := h.imp fun w hw => by
  unfold cutA
  split
  · rename_i e
    left
    exact List.drop_eq_nil_of_le (hc e)
  · rcases hw with rfl | ⟨b, o, rfl, hw⟩
    · left; simp
    · have := Rng.drop (.inr ⟨b, o, rfl, hw⟩ : Rng w (some ⟨b, o, none⟩) cs) (k * size)
      rw [Option.map_some, Addr.add_mid]
      exact this
/-- Slices of bytes as parts: where each lies, its spare room, its bytes. -/
def rdB (A : Option Addr) (ps : List BPart) : World → Prop := fun w => Rng w A (ps.map BPart.v) ∧ ∀ p ∈ ps, Rng w p.A (bcs p.l)
inductive BPs (K L : List Atom) : List Value → List BPart → Prop
  | nil : BPs K L [] []
  | cons {A : Option Addr} {n c : Nat} {b : Bs} {vs : List Value} {ps : List BPart} (h : Ent K L (rd A (bcs b))) (hn : b.length = n) (hs : BPs K L vs ps) : BPs K L (.slice A n c :: vs) (⟨A, c, b⟩ :: ps)
theorem BPs.map {vs : List Value} {ps : List BPart} (h : BPs K L vs ps) : ps.map BPart.v = vs := by
  induction h with
  | nil => rfl
  | cons h hn hs ih => simp [ih, BPart.v, hn]
theorem BPs.ent {vs : List Value} {ps : List BPart} (h : BPs K L vs ps) : ∀ p ∈ ps, Ent K L (rd p.A (bcs p.l)) := by
  induction h with
  | nil => exact fun _ h => by cases h
  | cons h hn hs ih =>
    intro p hp
    rcases List.mem_cons.1 hp with rfl | hp
    · exact h
    · exact ih p hp
theorem rdB_of {A : Option Addr} {vs : List Value} {ps : List BPart} (h : Ent K L (rd A vs)) (hb : BPs K L vs ps) : Ent K L (rdB A ps) :=
  Ent.and (φ := rd A (ps.map BPart.v)) (by rw [hb.map]; exact h) (Ent.all (φ := fun p : BPart => rd p.A (bcs p.l)) hb.ent)
theorem rdB_nil : Ent K L (rdB none []) := rdB_of rd_nilA BPs.nil
end
theorem rdB.ok {A : Option Addr} {ps : List BPart} {W : World} (h : rdB A ps W) : Reads W W.heap.size 1 A ps.length (ps.map BPart.v) ∧ ∀ p ∈ ps, p.ok W W.heap.size := by
  refine ⟨Rng.reads h.1 (by simp) (by omega), fun p hp => ?_⟩
  exact Rng.reads (h.2 p hp) (by simp) (by omega)
end Go.Proofs.Ytkckakfkeooepaa
