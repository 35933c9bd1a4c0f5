/- Memory as a list of words: blocks and rows of the call's own, facts on memory that stays; what each step of a walk does to that list. -/
import Derived.Test.YtkckakfkeooepaaWords
import Derived.Deep.MidRow
namespace Go.Proofs.Ytkckakfkeooepaa
set_option linter.all false
set_option linter.unusedSimpArgs false
set_option linter.unusedVariables false
set_option linter.unnecessarySimpa false
open Go.RowKit
/-- What is known of a slot. -/
abbrev Fr := List (Nat × Value)
def Fr.get : Fr → Nat → Option Value
  | [], _ => none
  | (k, v) :: l, j => bif Nat.beq k j then some v else Fr.get l j
def Fr.ev (l : Fr) : Operand → Option Value
  | .tmp t => l.get t
  | .const v => some v
  | .global g => some (.pointer (some ⟨g, 0, none⟩))
  | .func f => some (.func (.func f) #[] #[])
/-- The state of a call is as the list says. -/
structure Ag (n : Nat) (a : Act) (l : Fr) : Prop where
  size : a.tmps.size = n
  defers : a.defers = []
  get : ∀ k v, l.get k = some v → a.tmps[k]? = some v
theorem Ag.ev {n : Nat} {a : Act} {l : Fr} (h : Ag n a l) : ∀ x v, l.ev x = some v → a.eval x = v := by
  intro x v hx
  cases x with
  | tmp t => simp [Act.eval, h.get t v hx]
  | const u => simpa [Fr.ev, Act.eval] using hx
  | global g => simpa [Fr.ev, Act.eval] using hx
  | func f => simpa [Fr.ev, Act.eval] using hx
theorem Ag.put {n : Nat} {a : Act} {l : Fr} (h : Ag n a l) (d : Nat) (v : Value) (hd : Nat.blt d n = true) : Ag n (a.put (some d) v) ((d, v) :: l) := by
  have hd' : d < n := by simpa [Nat.blt_eq] using hd
  refine ⟨by simpa [Act.put] using h.size, h.defers, fun k u hk => ?_⟩
  simp only [Fr.get] at hk
  by_cases e : d = k
  · subst e
    have : Nat.beq d d = true := by simp
    rw [this] at hk
    simp only [cond_true, Option.some.injEq] at hk
    subst hk
    have hs := h.size
    simp only [Act.put, Array.getElem?_setIfInBounds]
    simp [hs, hd']
  · have : Nat.beq d k = false := by cases hb : Nat.beq d k with
      | false => rfl
      | true => exact absurd (Nat.eq_of_beq_eq_true hb) e
    rw [this] at hk
    have hg := h.get k u hk
    simp only [Act.put, Array.getElem?_setIfInBounds, e, if_false]
    exact hg
theorem Ag.put_none {n : Nat} {a : Act} {l : Fr} (h : Ag n a l) (v : Value) : Ag n (a.put none v) l := h
/-- A longer list says more. -/
theorem Ag.sub {n : Nat} {a : Act} {l l' : Fr} (h : Ag n a l) (hs : ∀ k v, l'.get k = some v → l.get k = some v) : Ag n a l' := ⟨h.size, h.defers, fun k v hk => h.get k v (hs k v hk)⟩

/-- The blocks from lo on and those of G, but for those of M, are as they were. -/
def Off (M : List Nat) (lo : Nat) (G : List Nat) (w w' : World) : Prop := w.heap.size ≤ w'.heap.size ∧ ∀ b, (lo ≤ b ∨ b ∈ G) → b < w.heap.size → b ∉ M → w'.heap[b]? = w.heap[b]?
theorem Off.refl (M : List Nat) (lo : Nat) (G : List Nat) (w : World) : Off M lo G w w := ⟨Nat.le_refl _, fun _ _ _ _ => rfl⟩
/-- A fact that stays while of these blocks nothing but those of M turns. -/
def Stable (M : List Nat) (lo : Nat) (G : List Nat) (w : World) (φ : World → Prop) : Prop := ∀ w', Off M lo G w w' → φ w'
theorem Stable.now {M : List Nat} {lo : Nat} {G : List Nat} {w : World} {φ : World → Prop} (h : Stable M lo G w φ) : φ w := h w (Off.refl _ _ _ _)
/-- A word on memory. -/
inductive Atom where
  /-- a block of the call's own, known whole -/
  | blk (g : Nat) (t : TypeId) (cs : List Value)
  /-- a row of the call's own that may grow -/
  | own (e : TypeId) (size : Nat) (v : Value) (n : Nat) (xs : List Value)
  /-- a fact on memory that nobody turns -/
  | old (φ : World → Prop)
  /-- a fact on memory that was made since the call began, and that nobody turns any more -/
  | new (φ : World → Prop)
def Atom.block : Atom → Option Nat
  | .blk g _ _ => some g
  | .own _ _ v _ _ => v.ownBlock
  | _ => none
def Atom.now (w : World) : Atom → Prop
  | .blk g t cs => Blk w g t cs.toArray
  | .own e size v n xs => w.ownsRow 0 e size v n xs
  | .old φ => φ w
  | .new φ => φ w
def Atom.ok (M : List Nat) (B : Nat) (G : List Nat) (w : World) : Atom → Prop
  | .blk g t cs => Blk w g t cs.toArray
  | .own e size v n xs => w.ownsRow 0 e size v n xs
  | .old φ => Stable M 0 [] w φ
  | .new φ => Stable M B G w φ
theorem Atom.ok.now {M : List Nat} {B : Nat} {G : List Nat} {w : World} {x : Atom} (h : x.ok M B G w) : x.now w := by
  cases x with
  | blk => exact h
  | own => exact h
  | old => exact Stable.now h
  | new => exact Stable.now h
def blocks (L : List Atom) : List Nat := L.filterMap Atom.block
/-- Of what was there in w0 nothing but the blocks of G has turned. -/
structure Past (G : List Nat) (w0 w : World) : Prop where
  os : w.os = w0.os
  tape : w.tape = w0.tape
  output : w.output = w0.output
  size : w0.heap.size ≤ w.heap.size
  block : ∀ k, k < w0.heap.size → k ∉ G → w.heap[k]? = w0.heap[k]?
theorem Past.refl (G : List Nat) (w : World) : Past G w w := ⟨rfl, rfl, rfl, Nat.le_refl _, fun _ _ _ => rfl⟩
theorem Past.below {w0 w : World} (h : Past [] w0 w) : Below w0.heap.size w0 w := ⟨h.os, h.tape, h.output, h.size, fun k hk => h.block k hk (fun hm => by cases hm)⟩
theorem Past.of_below {w0 w : World} (h : Below w0.heap.size w0 w) (G : List Nat) : Past G w0 w := ⟨h.os, h.tape, h.output, h.size, fun k hk _ => h.block k hk⟩
/-- Memory in a call that began in w0 and may turn the blocks of G, as the list says. -/
structure Mem (w0 : World) (G : List Nat) (L : List Atom) (w : World) : Prop where
  past : Past G w0 w
  ok : ∀ x ∈ L, x.ok (blocks L) w0.heap.size G w
  low : ∀ g ∈ blocks L, (w0.heap.size ≤ g ∨ g ∈ G) ∧ g < w.heap.size
  nodup : (blocks L).Nodup
def Core (C : List Atom) (w : World) : Prop := ∀ x ∈ C, x.now w
theorem Mem.core {w0 w : World} {G : List Nat} {L : List Atom} (h : Mem w0 G L w) : Core L w := fun x hx => (h.ok x hx).now
theorem Core.sub {C D : List Atom} {w : World} (h : Core C w) (hs : ∀ x ∈ D, x ∈ C) : Core D w := fun x hx => h x (hs x hx)
theorem Stable.mono {M M' : List Nat} {lo lo' : Nat} {G G' : List Nat} {w : World} {φ : World → Prop} (h : Stable M lo G w φ) (hM : ∀ b ∈ M', b ∈ M) (hl : ∀ b, lo ≤ b ∨ b ∈ G → lo' ≤ b ∨ b ∈ G') : Stable M' lo' G' w φ :=
  fun w' ho => h w' ⟨ho.1, fun b h1 h2 h3 => ho.2 b (hl b h1) h2 (fun hb => h3 (hM b hb))⟩
theorem Stable.imp {M : List Nat} {lo : Nat} {G : List Nat} {w : World} {φ ψ : World → Prop} (h : Stable M lo G w φ) (hi : ∀ w, φ w → ψ w) : Stable M lo G w ψ := fun w' ho => hi _ (h w' ho)
theorem Stable.and {M : List Nat} {lo : Nat} {G : List Nat} {w : World} {φ ψ : World → Prop} (h : Stable M lo G w φ) (h' : Stable M lo G w ψ) : Stable M lo G w (fun w => φ w ∧ ψ w) := fun w' ho => ⟨h w' ho, h' w' ho⟩
theorem Stable.true_ {M : List Nat} {lo : Nat} {G : List Nat} {w : World} : Stable M lo G w (fun _ => True) := fun _ _ => trivial
/-- A fact on one block. -/
theorem Stable.block {M : List Nat} {lo : Nat} {G : List Nat} {w : World} {φ : World → Prop} (g : Nat) (hg : g < w.heap.size) (hl : lo ≤ g ∨ g ∈ G) (hM : g ∉ M) (h : ∀ w', w'.heap[g]? = w.heap[g]? → φ w') : Stable M lo G w φ :=
  fun w' ho => h w' (ho.2 g hl hg hM)
theorem mem_blocks {L : List Atom} {x : Atom} {g : Nat} (hx : x ∈ L) (hg : x.block = some g) : g ∈ blocks L := List.mem_filterMap.2 ⟨x, hx, hg⟩
theorem blocks_cons (x : Atom) (L : List Atom) : blocks (x :: L) = x.block.toList ++ blocks L := by
  unfold blocks
  rw [List.filterMap_cons]
  cases x.block <;> simp
theorem blocks_append (K L : List Atom) : blocks (K ++ L) = blocks K ++ blocks L := by simp [blocks]
/-- Facts go from one world to a later one. -/
theorem Atom.ok.step {M M' : List Nat} {B : Nat} {G : List Nat} {w w' : World} {x : Atom} (h : x.ok M B G w) (hs : w.heap.size ≤ w'.heap.size) (hb : ∀ b, b < w.heap.size → b ∉ M → w'.heap[b]? = w.heap[b]?)
    (hM : ∀ b ∈ M', b < w.heap.size → b ∈ M) (hx : ∀ g, x.block = some g → g < w.heap.size ∧ w'.heap[g]? = w.heap[g]?) : x.ok M' B G w' := by
  cases x with
  | blk g t cs =>
    have := (hx g rfl).2
    exact this.trans h
  | own e size v n xs =>
    obtain ⟨h1, h2⟩ := h
    refine ⟨h1, ?_⟩
    rcases h2 with h2 | ⟨g, cap, cur, hv, hg, hh, r⟩
    · exact .inl h2
    · refine .inr ⟨g, cap, cur, hv, hg, ?_, r⟩
      rw [(hx g (by subst hv; rfl)).2]; exact hh
  | old φ =>
    intro w'' ho
    exact h w'' ⟨by have := ho.1; omega, fun b h1 h2 h3 => (ho.2 b h1 (by omega) (fun hb' => h3 (hM b hb' h2))).trans (hb b h2 h3)⟩
  | new φ =>
    intro w'' ho
    exact h w'' ⟨by have := ho.1; omega, fun b h1 h2 h3 => (ho.2 b h1 (by omega) (fun hb' => h3 (hM b hb' h2))).trans (hb b h2 h3)⟩
theorem Mem.fact {w0 w : World} {G : List Nat} {L : List Atom} {φ : World → Prop} (h : Mem w0 G L w) (hφ : Stable (blocks L) 0 [] w φ) : Mem w0 G (.old φ :: L) w := by
  refine ⟨h.past, fun x hx => ?_, h.low, h.nodup⟩
  rcases List.mem_cons.1 hx with rfl | hx
  · exact hφ
  · exact h.ok x hx
theorem Mem.drew {w0 w : World} {G : List Nat} {L : List Atom} (h : Mem w0 G L w) : Mem w0 G L w.drew :=
  ⟨⟨h.past.os, h.past.tape, h.past.output, h.past.size, h.past.block⟩, fun x hx => (h.ok x hx).step (Nat.le_refl _) (fun _ _ _ => rfl) (fun _ hb _ => hb) (fun g hg => ⟨(h.low g (mem_blocks hx hg)).2, rfl⟩), h.low, h.nodup⟩
/-- New memory, and words on it. -/
theorem Mem.grow {w0 w w' : World} {G : List Nat} {L N : List Atom} (h : Mem w0 G L w) (hb : Below w.heap.size w w') (hN : ∀ x ∈ N, ∀ M B G', B ≤ w.heap.size → (∀ b ∈ M, b < w.heap.size ∨ b ∈ blocks N) → x.ok M B G' w') (hl : ∀ g ∈ blocks N, w.heap.size ≤ g ∧ g < w'.heap.size) (hn : (blocks N).Nodup) : Mem w0 G (N ++ L) w' := by
  have hz := h.past.size
  refine ⟨⟨hb.os.trans h.past.os, hb.tape.trans h.past.tape, hb.output.trans h.past.output, Nat.le_trans hz hb.size, fun k hk hG => (hb.block k (by omega)).trans (h.past.block k hk hG)⟩, fun x hx => ?_, fun g hg => ?_, ?_⟩
  · rcases List.mem_append.1 hx with hx | hx
    · refine hN x hx _ _ _ hz (fun b hb => ?_)
      rw [blocks_append] at hb
      rcases List.mem_append.1 hb with hb | hb
      · exact .inr hb
      · exact .inl (h.low b hb).2
    · refine (h.ok x hx).step hb.size (fun b hb1 _ => hb.block b hb1) (fun b hb1 hb2 => ?_) (fun g hg => ?_)
      · rw [blocks_append] at hb1
        rcases List.mem_append.1 hb1 with hb1 | hb1
        · have := (hl b hb1).1; omega
        · exact hb1
      · have := (h.low g (mem_blocks hx hg)).2
        exact ⟨this, hb.block g this⟩
  · rw [blocks_append] at hg
    have := hb.size
    rcases List.mem_append.1 hg with hg | hg
    · have := hl g hg; exact ⟨.inl (by omega), by omega⟩
    · have := h.low g hg; exact ⟨this.1, by omega⟩
  · rw [blocks_append, List.nodup_append]
    refine ⟨hn, h.nodup, fun a ha b hb1 e => ?_⟩
    subst e
    have := (hl a ha).1
    have := (h.low a hb1).2
    omega
theorem Mem.alloc {w0 w : World} {G : List Nat} {L : List Atom} (h : Mem w0 G L w) (t : TypeId) (cs : List Value) : Mem w0 G (.blk w.heap.size t cs :: L) (w.alloc (.cells cs.toArray t)) :=
  h.grow (N := [.blk w.heap.size t cs]) ((Below.refl _ _).alloc (Nat.le_refl _) _) (fun x hx M B G' _ _ => by
    obtain rfl : x = .blk w.heap.size t cs := by simpa using hx
    exact Blk.new _ _ _) (fun g hg => by
    obtain rfl : g = w.heap.size := by simpa [blocks, Atom.block] using hg
    simp) (by simp [blocks, Atom.block])
/-- One of the list's own is turned, the others stay. -/
theorem Mem.touch {w0 w w' : World} {G : List Nat} {x x' : Atom} {L : List Atom} (h : Mem w0 G (x :: L) w) (hg : w.grownBy w' x.block) (hx : ∀ M B G', x'.ok M B G' w')
    (hb : ∀ g, x'.block = some g → x.block = some g ∨ (w.heap.size ≤ g ∧ g < w'.heap.size)) : Mem w0 G (x' :: L) w' := by
  have hz := h.past.size
  have hlow : ∀ g, g ∈ blocks L → (w0.heap.size ≤ g ∨ g ∈ G) ∧ g < w.heap.size := fun g hg => h.low g (by rw [blocks_cons]; exact List.mem_append_right _ hg)
  have hxl : ∀ g, x.block = some g → (w0.heap.size ≤ g ∨ g ∈ G) ∧ g < w.heap.size := fun g hg => h.low g (by rw [blocks_cons, hg]; simp)
  have hnd := h.nodup
  rw [blocks_cons] at hnd
  have hxn : ∀ g, x.block = some g → g ∉ blocks L := fun g hg => by rw [hg] at hnd; simpa using (List.nodup_cons.1 (by simpa using hnd)).1
  refine ⟨⟨hg.os.trans h.past.os, hg.tape.trans h.past.tape, hg.output.trans h.past.output, Nat.le_trans hz hg.size, fun k hk hG => (hg.block k (by omega) (fun e => ?_)).trans (h.past.block k hk hG)⟩, fun y hy => ?_, fun g hgm => ?_, ?_⟩
  · have := (hxl k e.symm).1
    rcases this with h1 | h1
    · omega
    · exact hG h1
  · rcases List.mem_cons.1 hy with rfl | hy
    · exact hx _ _ _
    · have hyo := h.ok y (List.mem_cons_of_mem _ hy)
      refine hyo.step hg.size (fun b hb1 hb2 => ?_) (fun b hb1 hb2 => ?_) (fun g hgy => ?_)
      · refine hg.block b hb1 (fun e => hb2 ?_)
        rw [blocks_cons, ← e]; simp
      · rw [blocks_cons] at hb1 ⊢
        rcases List.mem_append.1 hb1 with hb1 | hb1
        · have e : x'.block = some b := by simpa using hb1
          rcases hb b e with e' | e'
          · rw [e']; simp
          · omega
        · exact List.mem_append_right _ hb1
      · have hm := mem_blocks hy hgy
        have hl := hlow g hm
        exact ⟨hl.2, hg.block g hl.2 (fun e => hxn g e.symm hm)⟩
  · rw [blocks_cons] at hgm
    have hzz := hg.size
    rcases List.mem_append.1 hgm with hgm | hgm
    · have e : x'.block = some g := by simpa using hgm
      rcases hb g e with e' | e'
      · have := hxl g e'; exact ⟨this.1, by omega⟩
      · exact ⟨.inl (by omega), e'.2⟩
    · have := hlow g hgm; exact ⟨this.1, by omega⟩
  · rw [blocks_cons]
    cases e : x'.block with
    | none => simpa [e] using (List.nodup_append.1 hnd).2.1
    | some g =>
      simp only [Option.toList_some, List.singleton_append, List.nodup_cons]
      refine ⟨fun hm => ?_, (List.nodup_append.1 hnd).2.1⟩
      rcases hb g e with e' | e'
      · exact hxn g e' hm
      · have := (hlow g hm).2; omega
/-- What a call leaves: words on what it was given to turn and on new memory. -/
def Atom.fresh : Atom → Bool
  | .old _ => false
  | _ => true
/-- A word on a block of the call's own. -/
def Atom.mine : Atom → Bool
  | .blk .. | .own .. => true
  | _ => false
theorem Mem.call {w0 w w' : World} {G : List Nat} {K L N : List Atom} (h : Mem w0 G (K ++ L) w) (hn : Mem w (blocks K) N w') (hf : ∀ x ∈ N, x.fresh = true) : Mem w0 G (N ++ L) w' := by
  have hz := h.past.size
  have hb := hn.past
  have hK : ∀ g ∈ blocks K, (w0.heap.size ≤ g ∨ g ∈ G) ∧ g < w.heap.size := fun g hg => h.low g (by rw [blocks_append]; exact List.mem_append_left _ hg)
  have hL : ∀ g ∈ blocks L, (w0.heap.size ≤ g ∨ g ∈ G) ∧ g < w.heap.size := fun g hg => h.low g (by rw [blocks_append]; exact List.mem_append_right _ hg)
  have hnd := h.nodup
  rw [blocks_append, List.nodup_append] at hnd
  have hdis : ∀ g, g ∈ blocks K → g ∉ blocks L := fun g h1 h2 => hnd.2.2 g h1 g h2 rfl
  refine ⟨⟨hb.os.trans h.past.os, hb.tape.trans h.past.tape, hb.output.trans h.past.output, Nat.le_trans hz hb.size, fun k hk hG => (hb.block k (by omega) (fun hm => ?_)).trans (h.past.block k hk hG)⟩, fun x hx => ?_, fun g hg => ?_, ?_⟩
  · rcases (hK k hm).1 with h1 | h1
    · omega
    · exact hG h1
  · rcases List.mem_append.1 hx with hx | hx
    · have ho := hn.ok x hx
      cases x with
      | blk g t cs => exact ho
      | own e size v n xs => exact ho
      | old φ => have := hf _ hx; simp [Atom.fresh] at this
      | new φ =>
        intro w'' hw
        refine ho w'' ⟨hw.1, fun b h1 h2 h3 => hw.2 b ?_ h2 ?_⟩
        · rcases h1 with h1 | h1
          · exact .inl (by omega)
          · exact (hK b h1).1
        · rw [blocks_append]
          intro hm
          rcases List.mem_append.1 hm with hm | hm
          · exact h3 hm
          · rcases h1 with h1 | h1
            · have := (hL b hm).2; omega
            · exact hdis b h1 hm
    · refine (h.ok x (List.mem_append_right _ hx)).step hb.size (fun b hb1 hb2 => hb.block b hb1 (fun hm => hb2 ?_)) (fun b hb1 hb2 => ?_) (fun g hg => ?_)
      · rw [blocks_append]; exact List.mem_append_left _ hm
      · rw [blocks_append] at hb1 ⊢
        rcases List.mem_append.1 hb1 with hb1 | hb1
        · rcases (hn.low b hb1).1 with h1 | h1
          · omega
          · exact List.mem_append_left _ h1
        · exact List.mem_append_right _ hb1
      · have hm := mem_blocks hx hg
        have := (hL g hm).2
        exact ⟨this, hb.block g this (fun hk => hdis g hk hm)⟩
  · rw [blocks_append] at hg
    have := hb.size
    rcases List.mem_append.1 hg with hg | hg
    · have := hn.low g hg
      refine ⟨?_, this.2⟩
      rcases this.1 with h1 | h1
      · exact .inl (by omega)
      · exact (hK g h1).1
    · have := hL g hg; exact ⟨this.1, by omega⟩
  · rw [blocks_append, List.nodup_append]
    refine ⟨hn.nodup, hnd.2.1, fun a ha b hb1 e => ?_⟩
    subst e
    rcases (hn.low a ha).1 with h1 | h1
    · have := (hL a hb1).2; omega
    · exact hdis a h1 hb1
/-- x is one of the list, the others are L'. -/
inductive Pick {α : Type} : α → List α → List α → Prop
  | here (x : α) (L : List α) : Pick x (x :: L) L
  | there {x : α} {L L' : List α} (y : α) (h : Pick x L L') : Pick x (y :: L) (y :: L')
theorem Pick.perm {α : Type} {x : α} {L L' : List α} (h : Pick x L L') : L.Perm (x :: L') := by
  induction h with
  | here => exact List.Perm.refl _
  | there y h ih => exact (ih.cons y).trans (List.Perm.swap _ _ _)
theorem Pick.mem {α : Type} {x : α} {L L' : List α} (h : Pick x L L') : x ∈ L := h.perm.mem_iff.2 (List.mem_cons_self)
/-- The list holds these, and these others. -/
inductive Picks {α : Type} : List α → List α → List α → Prop
  | nil (L : List α) : Picks [] L L
  | cons {x : α} {K L L' R : List α} (h : Pick x L L') (hs : Picks K L' R) : Picks (x :: K) L R
theorem Picks.perm {α : Type} {K L R : List α} (h : Picks K L R) : L.Perm (K ++ R) := by
  induction h with
  | nil L => exact List.Perm.refl _
  | cons hp hs ih => exact hp.perm.trans (ih.cons _)
theorem Mem.perm {w0 w : World} {G : List Nat} {L L' : List Atom} (h : Mem w0 G L w) (hp : L.Perm L') : Mem w0 G L' w := by
  have hb : (blocks L).Perm (blocks L') := hp.filterMap _
  refine ⟨h.past, fun x hx => ?_, fun g hg => h.low g (hb.mem_iff.2 hg), hb.nodup_iff.1 h.nodup⟩
  refine (h.ok x (hp.mem_iff.2 hx)).step (Nat.le_refl _) (fun _ _ _ => rfl) (fun b hb1 _ => hb.mem_iff.2 hb1) (fun g hg => ⟨(h.low g (mem_blocks (hp.mem_iff.2 hx) hg)).2, rfl⟩)
theorem Mem.drop {w0 w : World} {G : List Nat} {K R : List Atom} (h : Mem w0 G (K ++ R) w) : Mem w0 G K w := by
  have hbm : ∀ b ∈ blocks K, b ∈ blocks (K ++ R) := fun b hb => by rw [blocks_append]; exact List.mem_append_left _ hb
  refine ⟨h.past, fun x hx => ?_, fun g hg => h.low g (hbm g hg), ?_⟩
  · refine (h.ok x (List.mem_append_left _ hx)).step (Nat.le_refl _) (fun _ _ _ => rfl) (fun b hb1 _ => hbm b hb1) (fun g hg => ⟨(h.low g (mem_blocks (List.mem_append_left _ hx) hg)).2, rfl⟩)
  · have := h.nodup
    rw [blocks_append] at this
    exact (List.nodup_append.1 this).1
theorem Mem.picks {w0 w : World} {G : List Nat} {K L R : List Atom} (h : Mem w0 G L w) (hs : Picks K L R) : Mem w0 G (K ++ R) w := h.perm hs.perm
theorem Mem.pick {w0 w : World} {G : List Nat} {x : Atom} {L L' : List Atom} (h : Mem w0 G L w) (hp : Pick x L L') : Mem w0 G (x :: L') w := h.perm hp.perm
/-- A word of the call's own becomes a fact that stays. -/
theorem Mem.freeze {w0 w : World} {G : List Nat} {x : Atom} {L : List Atom} {φ : World → Prop} (h : Mem w0 G (x :: L) w) (hφ : ∀ M B G', (∀ g, x.block = some g → g ∉ M ∧ (B ≤ g ∨ g ∈ G') ∧ g < w.heap.size) → x.ok M B G' w → Stable M B G' w φ) : Mem w0 G (.new φ :: L) w := by
  have hd : Mem w0 G L w := (h.perm (List.perm_append_comm (l₁ := [x]) (l₂ := L))).drop
  refine ⟨h.past, fun y hy => ?_, hd.low, hd.nodup⟩
  rcases List.mem_cons.1 hy with rfl | hy
  · have hx := h.ok x List.mem_cons_self
    have hnd := h.nodup
    rw [blocks_cons] at hnd
    refine hφ _ _ _ (fun g hg => ⟨?_, ?_⟩) ?_
    · show g ∉ blocks L
      rw [hg] at hnd
      exact (List.nodup_cons.1 (by simpa using hnd)).1
    · exact h.low g (by rw [blocks_cons, hg]; simp)
    · exact hx.step (Nat.le_refl _) (fun _ _ _ => rfl) (fun b hb1 _ => by rw [blocks_cons]; exact List.mem_append_right _ hb1) (fun g hg => ⟨(h.low g (by rw [blocks_cons, hg]; simp)).2, rfl⟩)
  · exact hd.ok y hy
/-- What holds of all memory that the list tells of, but for the words K that are handed on. -/
def Ent (K L : List Atom) (φ : World → Prop) : Prop := ∀ w0 G w, Mem w0 G (K ++ L) w → Stable (blocks K) 0 [] w φ
theorem Ent.fact {K L : List Atom} {φ : World → Prop} (h : .old φ ∈ L) : Ent K L φ := fun w0 G w hM => (hM.ok _ (List.mem_append_right _ h) : Stable _ 0 [] w φ).mono (fun _ hb => by rw [blocks_append]; exact List.mem_append_left _ hb) (fun _ h => h)
theorem Ent.fact' {K L : List Atom} {φ : World → Prop} (h : .new φ ∈ L) : Ent K L φ := fun w0 G w hM => (hM.ok _ (List.mem_append_right _ h) : Stable _ _ _ w φ).mono (fun _ hb => by rw [blocks_append]; exact List.mem_append_left _ hb) (fun _ _ => .inl (Nat.zero_le _))
theorem Ent.and {K L : List Atom} {φ ψ : World → Prop} (h : Ent K L φ) (h' : Ent K L ψ) : Ent K L (fun w => φ w ∧ ψ w) := fun w0 G w hM => (h w0 G w hM).and (h' w0 G w hM)
theorem Ent.imp {K L : List Atom} {φ ψ : World → Prop} (h : Ent K L φ) (hi : ∀ w, φ w → ψ w) : Ent K L ψ := fun w0 G w hM => (h w0 G w hM).imp hi
theorem Ent.true_ {K L : List Atom} : Ent K L (fun _ => True) := fun _ _ _ _ _ _ => trivial
theorem Ent.pure {K L : List Atom} {p : Prop} (h : p) : Ent K L (fun _ => p) := fun _ _ _ _ _ _ => h
theorem Ent.all {K L : List Atom} {α : Type} {xs : List α} {φ : α → World → Prop} (h : ∀ x ∈ xs, Ent K L (φ x)) : Ent K L (fun w => ∀ x ∈ xs, φ x w) := fun w0 G w hM w' ho x hx => h x hx w0 G w hM w' ho
theorem Ent.blk {K L : List Atom} {g : Nat} {t : TypeId} {cs : List Value} {φ : World → Prop} (h : .blk g t cs ∈ L) (hφ : ∀ w, Blk w g t cs.toArray → φ w) : Ent K L φ := fun w0 G w hM => by
  have hb : Blk w g t cs.toArray := hM.ok _ (List.mem_append_right _ h)
  have hn := hM.nodup
  rw [blocks_append, List.nodup_append] at hn
  exact Stable.block g hb.lt (.inl (Nat.zero_le _)) (fun hk => hn.2.2 g hk g (mem_blocks h rfl) rfl) (fun w' hw => hφ w' (hw.trans hb))
theorem Ent.own {K L : List Atom} {e : TypeId} {size : Nat} {v : Value} {n : Nat} {xs : List Value} {φ : World → Prop} (h : .own e size v n xs ∈ L) (hφ : ∀ w, w.ownsRow 0 e size v n xs → φ w) : Ent K L φ := fun w0 G w hM => by
  have hb : w.ownsRow 0 e size v n xs := hM.ok _ (List.mem_append_right _ h)
  have hn := hM.nodup
  rw [blocks_append, List.nodup_append] at hn
  intro w' ho
  refine hφ w' ?_
  obtain ⟨h1, h2⟩ := hb
  refine ⟨h1, ?_⟩
  rcases h2 with h2 | ⟨g, cap, cur, hv, hg, hh, r⟩
  · exact .inl h2
  · refine .inr ⟨g, cap, cur, hv, hg, ?_, r⟩
    have hlt : g < w.heap.size := by
      rcases Nat.lt_or_ge g w.heap.size with hlt | hge
      · exact hlt
      · rw [Array.getElem?_eq_none hge] at hh; cases hh
    rw [ho.2 g (.inl (Nat.zero_le _)) hlt (fun hk => hn.2.2 g hk g (mem_blocks h (by subst hv; rfl)) rfl)]; exact hh
theorem Mem.start {K : List Atom} {w0 w : World} {G : List Nat} {L : List Atom} (h : Mem w0 G (K ++ L) w) (hK : ∀ x ∈ K, x.mine = true) : Mem w (blocks K) K w := by
  have hd := h.drop
  refine ⟨Past.refl _ _, fun x hx => ?_, fun g hg => ⟨.inr hg, (hd.low g hg).2⟩, hd.nodup⟩
  have hx' := hd.ok x hx
  have := hK x hx
  cases x with
  | blk g t cs => exact hx'
  | own e size v n xs => exact hx'
  | old φ => simp [Atom.mine] at this
  | new φ => simp [Atom.mine] at this
theorem Mem.empty (w : World) : Mem w [] [] w := ⟨Past.refl _ _, (fun _ h => by cases h), (fun _ h => by cases h), List.nodup_nil⟩
/-- Cells from an address on. -/
def Rng (w : World) (A : Option Addr) (cs : List Value) : Prop := cs = [] ∨ ∃ b o, A = some ⟨b, o, none⟩ ∧ ∀ (j : Nat) (v : Value), cs[j]? = some v → w.cell? ⟨b, o + j, none⟩ = some v
/-- Cells from an address on, as a fact. -/
def rd (A : Option Addr) (cs : List Value) : World → Prop := fun w => Rng w A cs
theorem Rng.nil (w : World) (A : Option Addr) : Rng w A [] := .inl rfl
theorem Rng.of_blk {w : World} {g : Nat} {t : TypeId} {cs : List Value} (h : Blk w g t cs.toArray) (o n : Nat) : Rng w (some ⟨g, o, none⟩) ((cs.drop o).take n) := by
  refine .inr ⟨g, o, rfl, fun j v hv => ?_⟩
  rw [h.cell]
  have hj : j < n := by
    have := (List.getElem?_eq_some_iff.1 hv).1
    simp at this; omega
  rw [List.getElem?_take_of_lt hj, List.getElem?_drop] at hv
  simpa using hv
theorem Rng.of_own {w : World} {e : TypeId} {size : Nat} {A : Option Addr} {n c : Nat} {xs : List Value} (h : w.ownsRow 0 e size (.slice A n c) n xs) : Rng w A xs := by
  rcases h.2 with ⟨h1, h2⟩ | ⟨g, cap, cur, hv, _, hh, _⟩
  · subst h2
    have := h.1
    exact .inl (List.eq_nil_of_length_eq_zero (by simpa using this))
  · injection hv with hA hc
    subst hA
    refine .inr ⟨g, 0, rfl, fun j v hj => ?_⟩
    have := h.cells (g := g) rfl j v hj
    simp only [Nat.zero_add]
    simpa [Addr.add_mid] using this
theorem Rng.drop {w : World} {b o : Nat} {cs : List Value} (h : Rng w (some ⟨b, o, none⟩) cs) (k : Nat) : Rng w (some ⟨b, o + k, none⟩) (cs.drop k) := by
  rcases h with rfl | ⟨b', o', e, h⟩
  · left; simp
  · injection e with e
    injection e with e1 e2
    subst e1; subst e2
    refine .inr ⟨_, _, rfl, fun j v hv => ?_⟩
    rw [List.getElem?_drop] at hv
    rw [Nat.add_assoc]
    exact h _ v hv
theorem Rng.take {w : World} {A : Option Addr} {cs : List Value} (h : Rng w A cs) (k : Nat) : Rng w A (cs.take k) := by
  rcases h with rfl | ⟨b, o, e, h⟩
  · left; simp
  · refine .inr ⟨_, _, e, fun j v hv => h j v ?_⟩
    have hj : j < k := by
      have := (List.getElem?_eq_some_iff.1 hv).1
      simp at this; omega
    rwa [List.getElem?_take_of_lt hj] at hv
theorem Rng.at_ {w : World} {A : Option Addr} {cs : List Value} (h : Rng w A cs) {k : Nat} {v : Value} (hk : cs[k]? = some v) : ∃ b o, A = some ⟨b, o, none⟩ ∧ w.cell? ⟨b, o + k, none⟩ = some v := by
  rcases h with rfl | ⟨b, o, e, h⟩
  · simp at hk
  · exact ⟨b, o, e, h k v hk⟩
end Go.Proofs.Ytkckakfkeooepaa
