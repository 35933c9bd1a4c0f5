/- Words on memory: bytes, hashes and rows of cells as the model's values. -/
import Derived.Test.YtkckakfkeooepaaWords
import Derived.Test.YtkckakfkeooepaaPlain
import Derived.Handy
namespace Go.Proofs.Ytkckakfkeooepaa
set_option linter.all false
set_option linter.unusedSimpArgs false
set_option linter.unusedVariables false
set_option linter.unnecessarySimpa false
open Go.RowKit
/-- A byte's cell. -/
def bc (b : UInt8) : Value := .int .u8 (b.toNat : Int)
/-- The cells of bytes. -/
def bcs (l : Bs) : List Value := l.map bc
@[simp] theorem bcs_length (l : Bs) : (bcs l).length = l.length := by simp [bcs]
theorem bcs_append (a b : Bs) : bcs (a ++ b) = bcs a ++ bcs b := by simp [bcs]
theorem bcs_one (l : Bs) : ∀ u ∈ bcs l, u.oneCell' = true := by
  intro u hu
  simp only [bcs, List.mem_map] at hu
  obtain ⟨b, _, rfl⟩ := hu
  rfl
/-- A hash's cells. -/
def hA (h : Hash) : Array Value := (bcs h.l).toArray
@[simp] theorem hA_size (h : Hash) : (hA h).size = 32 := by simp [hA, h.h]
theorem hA_at (h : Hash) (k : Nat) (hk : k < 32) : (hA h)[k]? = some (.int .u8 ((h.at k).toNat : Int)) := by
  have := h.h
  simp [hA, bcs, Hash.at, bc, List.getD, List.getElem?_eq_getElem (l := h.l) (i := k) (by omega)]
/-- A slice's element that is read lies at a plain address. -/
theorem Reads.row {w : World} {B size : Nat} {A : Option Addr} {n : Nat} {xs : List Value} (h : Reads w B size A n xs) (hn : 0 < n) (hs : 0 < size) :
    ∃ b o, A = some ⟨b, o, none⟩ ∧ b < B ∧ ∀ (j : Nat) (u : Value), xs[j]? = some u → w.cell? ⟨b, o + j, none⟩ = some u := by
  obtain ⟨ad, rfl, hb, hc⟩ := h.2 hn
  have hl : 0 < xs.length := by rw [h.1]; exact Nat.mul_pos hn hs
  have h0 := hc 0 _ (List.getElem?_eq_getElem hl)
  obtain ⟨b, o, s⟩ := ad
  have hs0 : s = none := by
    cases s with
    | none => rfl
    | some s =>
      simp [Addr.add, World.cell?] at h0
      split at h0 <;> simp_all
  subst hs0
  refine ⟨b, o, rfl, hb, fun j u hj => ?_⟩
  have := hc j u hj
  simp only [Addr.add] at this
  split at this
  · rename_i hj0; subst hj0; simpa using this
  · exact this
/-- A new row reads as it was laid. -/
theorem reads_lit (w : World) (e : TypeId) (cs : List Value) (n size : Nat) (h : cs.length = n * size) : Reads (w.alloc (.cells cs.toArray e)) (w.heap.size + 1) size (some ⟨w.heap.size, 0, none⟩) n cs := by
  refine ⟨h, fun _ => ⟨_, rfl, by simp, fun j u hj => ?_⟩⟩
  have e1 : (⟨w.heap.size, 0, none⟩ : Addr).add j = ⟨w.heap.size, j, none⟩ := by unfold Addr.add; split <;> simp_all
  rw [e1, World.cell?_alloc_new]
  simpa using hj
/-- An owned slice is a slice of its length. -/
theorem own_slice {w : World} {base : Nat} {e : TypeId} {size : Nat} {v : Value} {n : Nat} {xs : List Value} (h : w.ownsRow base e size v n xs) : ∃ A c, v = .slice A n c := by
  rcases h.2 with ⟨rfl, rfl⟩ | ⟨g, cap, cur, rfl, _⟩
  · exact ⟨_, _, rfl⟩
  · exact ⟨_, _, rfl⟩
/-- An owned slice of an element or more lies at the head of a block of its own. -/
theorem own_head {w : World} {base : Nat} {e : TypeId} {size : Nat} {A : Option Addr} {c n : Nat} {xs : List Value} (h : w.ownsRow base e size (.slice A n c) n xs) (hn : 0 < n) :
    ∃ g, A = some ⟨g, 0, none⟩ ∧ base ≤ g ∧ g < w.heap.size ∧ n ≤ c := by
  have hlt := h.lt
  rcases h.2 with ⟨h1, h2⟩ | ⟨g, cap, cur, h1, h2, h3, h4, _⟩
  · omega
  · injection h1 with ha hb hc
    subst ha; subst hc
    exact ⟨g, rfl, h2, (hlt g rfl).2, h4⟩
/-- A slice's length. -/
def vlen : Value → Nat | .slice _ n _ => n | _ => 0
end Go.Proofs.Ytkckakfkeooepaa
