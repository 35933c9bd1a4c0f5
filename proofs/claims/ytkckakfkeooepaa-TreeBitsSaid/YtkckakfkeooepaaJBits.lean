/- Bits of hashes, the halves of a list in order, the root of a list; a hash written byte by byte. -/
import Derived.Test.YtkckakfkeooepaaJSlice
import Derived.Test.YtkckakfkeooepaaJTree3
import Derived.Test.YtkckakfkeooepaaJSort4
namespace Go.Proofs.Ytkckakfkeooepaa
set_option linter.all false
set_option linter.unusedSimpArgs false
set_option linter.unusedVariables false
set_option linter.unnecessarySimpa false
open Go.RowKit
section
variable {c : Cx} {Q : Post} {l : Fr} {L L1 : List Atom} {P : Program} {ops : Array Oper} {rest : List Oper}
theorem own_le {w : World} {B : Nat} {e : TypeId} {size n cap : Nat} {A : Option Addr} {xs : List Value} (h : w.ownsRow B e size (.slice A n cap) n xs) : n ≤ cap := by
  rcases h.2 with ⟨h1, h2⟩ | ⟨g, cap', cur, hv, _, _, hnc, _⟩
  · omega
  · injection hv with _ _ hc; omega
theorem JC_ownle {x : Code} {e : TypeId} {size n cap : Nat} {A : Option Addr} {xs : List Value} (hm : Atom.own e size (.slice A n cap) n xs ∈ L) (h : n ≤ cap → JC c x Q l L) : JC c x Q l L := fun a W ha hM => h (own_le (hM.ok _ hm : W.ownsRow 0 e size (.slice A n cap) n xs)) a W ha hM
def Hash.put (h : Hash) (k : Nat) (b : UInt8) : Hash := ⟨h.l.set k b, by simp [h.h]⟩
theorem Hash.put_at (h : Hash) (k j : Nat) (b : UInt8) (hk : k < 32) : (h.put k b).at j = if j = k then b else h.at j := by
  simp only [Hash.put, Hash.at, List.getD, List.getElem?_set]
  by_cases e : k = j
  · subst e; simp [h.h, hk]
  · rw [if_neg e, if_neg (fun h => e h.symm)]
theorem Hash.ext_at {a b : Hash} (h : ∀ k < 32, a.at k = b.at k) : a = b := by
  apply Hash.ext'
  apply List.ext_getElem (by rw [a.h, b.h])
  intro k h1 h2
  have := h k (by rw [← a.h]; exact h1)
  simpa [Hash.at, List.getD, List.getElem?_eq_getElem h1, List.getElem?_eq_getElem h2] using this
theorem E_storeH {t ty bt : TypeId} {x y : Operand} {g k bytes : Nat} {z : Value} {n : Int} {h : Hash} (b : UInt8) (hti : TI P t 1 bytes z) (hx : l.ev x = some (.pointer (some ⟨g, k, none⟩))) (hy : l.ev y = some (.int .u8 n)) (hb : n = (b.toNat : Int)) (hp : Pick (.blk g bt (hL h)) L L1) (hk : k < 32) :
    YE P l L (.store t x y) ty (fun u L' => u = undef ∧ L' = .blk g bt (hL (h.put k b)) :: L1) := by
  subst hb
  refine (E_store (v := .int .u8 (b.toNat : Int)) hti hx hy hp rfl (fun u hu => by simp [Value.cells] at hu; subst hu; rfl) (by simp; omega)).imp fun u L' hh => ⟨hh.1, ?_⟩
  rw [hh.2]
  congr 2
  show setAt (hL h) k [bc b] = hL (h.put k b)
  rw [setAt_one (by simp; omega)]
  simp [hL, Hash.put, bcs]
theorem R_indexHN {C : List Atom} {t ty e : TypeId} {x y : Operand} {n b bytes i : Nat} {z : Value} {k : IntKind} {j : Int} (ht : P.underlying t = some (.array n e)) (hi : TI P e 1 bytes z) (hx : l.ev x = some (.pointer (some ⟨b, 0, none⟩))) (hy : l.ev y = some (.int k j)) (hj : j = (i : Int)) (hn : i < n) :
    YR P C l (.indexAddr t x y) ty (.pointer (some ⟨b, i, none⟩)) := by
  subst hj
  have := R_indexH (P := P) (C := C) (ty := ty) ht hi hx hy (by omega) (by omega)
  simpa using this
end
def onesH : Hash := ⟨List.replicate 32 255, rfl⟩
theorem onesH_of {h : Hash} (hh : ∀ j < 32, h.at j = 255) : h = onesH := Hash.ext_at fun k hk => by
  rw [hh k hk]
  show (255 : UInt8) = (List.replicate 32 (255 : UInt8)).getD k 0
  rw [List.getD, List.getElem?_replicate_of_lt hk]; rfl
/-! ### Bits by the number -/
theorem hvl_byte : ∀ (b : Bs) (j : Nat), j < b.length → hvl b / 256 ^ (b.length - 1 - j) % 256 = (b.getD j 0).toNat
  | [], j, h => by simp at h
  | x :: b, 0, _ => by
    have h1 := hvl_lt b
    have h2 := x.toNat_lt
    simp only [hvl, List.length_cons, Nat.add_sub_cancel, Nat.sub_zero, List.getD_cons_zero]
    rw [Nat.add_comm, Nat.add_mul_div_right _ _ (Nat.pow_pos (by decide)), Nat.div_eq_of_lt h1, Nat.zero_add, Nat.mod_eq_of_lt (by omega)]
  | x :: b, j + 1, h => by
    have hj : j < b.length := by simpa using h
    have ih := hvl_byte b j hj
    simp only [hvl, List.length_cons, Nat.add_sub_cancel, List.getD_cons_succ]
    rw [show b.length - (j + 1) = b.length - 1 - j by omega]
    rw [← ih]
    have e : x.toNat * 256 ^ b.length = (x.toNat * 256 ^ j) * 256 * 256 ^ (b.length - 1 - j) := by
      rw [Nat.mul_assoc, Nat.mul_assoc, Nat.mul_comm (256 : Nat) _, ← Nat.pow_succ, ← Nat.pow_add]
      congr 2; omega
    rw [e, Nat.add_comm, Nat.add_mul_div_right _ _ (Nat.pow_pos (by decide)), Nat.add_mul_mod_self_right]
theorem mod256_bit (m b : Nat) (hb : b < 8) : m % 256 / 2 ^ b % 2 = m / 2 ^ b % 2 := by
  have : ∀ x : Nat, (x.testBit b) = decide (x / 2 ^ b % 2 = 1) := fun x => by rw [Nat.testBit_eq_decide_div_mod_eq]
  have h := Nat.testBit_mod_two_pow m 8 b
  rw [this, this] at h
  simp only [hb, decide_true, Bool.true_and] at h
  have h' : (m % 2 ^ 8 / 2 ^ b % 2 = 1) ↔ (m / 2 ^ b % 2 = 1) := by simpa using h
  rw [show (256 : Nat) = 2 ^ 8 by decide]
  omega
theorem bitH_hv (h : Hash) (i : Nat) (hi : i < 256) : bitH h i = hv h / 2 ^ (255 - i) % 2 := by
  rw [bitH, if_pos hi]
  have hb := hvl_byte h.l (i / 8) (by rw [h.h]; omega)
  rw [h.h] at hb
  have e : (h.at (i / 8)) = h.l.getD (i / 8) 0 := rfl
  rw [e, ← hb, mod256_bit _ _ (by omega), Nat.div_div_eq_div_mul, show (256 : Nat) = 2 ^ 8 by decide, ← Nat.pow_mul, ← Nat.pow_add, hv]
  congr 3; omega
theorem bitI_hv (h : Hash) (f : Nat) (hf : f < 256) : bitI h (255 - (f : Int)) = (hv h / 2 ^ f % 2 : Nat) := by
  rw [bitI, if_pos (by omega), bitH_hv _ _ (by omega)]
  congr 4; omega
/-! ### Halves -/
theorem split_mono {α : Type} (p : α → Bool) : ∀ (l : List α), l.Pairwise (fun x y => p x = true → p y = true) → l.take (l.findIdx p) = l.filter (fun x => !p x) ∧ l.drop (l.findIdx p) = l.filter p
  | [], _ => by simp
  | x :: l, h => by
    have h' := List.pairwise_cons.1 h
    have ih := split_mono p l h'.2
    rw [List.findIdx_cons]
    cases hx : p x with
    | true =>
      have ha : ∀ y ∈ l, p y = true := fun y hy => h'.1 y hy hx
      simp only [cond_true, List.take_zero, List.drop_zero]
      refine ⟨?_, ?_⟩
      · symm; rw [List.filter_eq_nil_iff]
        intro y hy
        rcases List.mem_cons.1 hy with rfl | hy
        · simp [hx]
        · simp [ha y hy]
      · symm; rw [List.filter_eq_self]
        intro y hy
        rcases List.mem_cons.1 hy with rfl | hy
        · exact hx
        · exact ha y hy
    | false => simp [List.filter_cons, hx, ih.1, ih.2]
/-- Items alike in the bits above f. -/
def Like (f : Nat) (l : List Item) : Prop := ∀ x ∈ l, ∀ y ∈ l, hv x.index / 2 ^ f = hv y.index / 2 ^ f
theorem hv_lt (h : Hash) : hv h < 2 ^ 256 := by
  have := hvl_lt h.l
  rw [h.h] at this
  have e : (256 : Nat) ^ 32 = 2 ^ 256 := by decide
  rw [e] at this; exact this
theorem Like.all (l : List Item) : Like 256 l := fun x _ y _ => by rw [Nat.div_eq_of_lt (hv_lt _), Nat.div_eq_of_lt (hv_lt _)]
theorem halves {l : List Item} {f : Nat} (hs : Str key l) (hl : Like (f + 1) l) (hf : f < 256) :
    l.take (l.findIdx fun x => decide (bitI x.index (255 - (f : Int)) = 1)) = l.filter (fun x => decide (bitI x.index (255 - (f : Int)) = 0)) ∧ l.drop (l.findIdx fun x => decide (bitI x.index (255 - (f : Int)) = 1)) = l.filter (fun x => decide (bitI x.index (255 - (f : Int)) = 1)) := by
  have h01 := fun x : Item => bitI_01 x.index (255 - (f : Int))
  have e : (fun x : Item => decide (bitI x.index (255 - (f : Int)) = 0)) = fun x => !decide (bitI x.index (255 - (f : Int)) = 1) := by
    funext x
    rcases h01 x with h | h <;> simp [h]
  rw [e]
  refine split_mono _ l (List.Pairwise.imp_of_mem (fun {x y} hx hy hxy h1 => ?_) hs)
  simp only [decide_eq_true_eq, bitI_hv _ _ hf] at h1 ⊢
  have h2 := hl x hx y hy
  rw [Nat.pow_succ, ← Nat.div_div_eq_div_mul, ← Nat.div_div_eq_div_mul] at h2
  have h3 : hv x.index / 2 ^ f ≤ hv y.index / 2 ^ f := Nat.div_le_div_right (Nat.le_of_lt hxy)
  omega
theorem Like.filter {l : List Item} {f : Nat} (hl : Like (f + 1) l) (hf : f < 256) (b : Int) : Like f (l.filter fun x => decide (bitI x.index (255 - (f : Int)) = b)) := fun x hx y hy => by
  simp only [List.mem_filter, decide_eq_true_eq, bitI_hv _ _ hf] at hx hy
  have h2 := hl x hx.1 y hy.1
  rw [Nat.pow_succ, ← Nat.div_div_eq_div_mul, ← Nat.div_div_eq_div_mul] at h2
  omega
theorem Str.filter {α : Type} {key : α → Nat} {l : List α} (h : Str key l) (p : α → Bool) : Str key (l.filter p) := List.Pairwise.filter p h
theorem like0 {l : List Item} (hs : Str key l) (hl : Like 0 l) : l.length ≤ 1 := by
  match l, hs, hl with
  | [], _, _ => simp
  | [_], _, _ => simp
  | x :: y :: l, hs, hl =>
    have h1 := hl x (by simp) y (by simp)
    have h2 := (List.pairwise_cons.1 hs).1 y (by simp)
    unfold key at h2
    simp at h1; omega
/-- The root of items, f levels above the leaves. -/
def rootT : Nat → List Item → Hash
  | _, [] => emptyH
  | _, [x] => leafH x
  | 0, _ => emptyH
  | f + 1, l => nodeH (rootT f (l.filter fun x => decide (bitI x.index (255 - (f : Int)) = 0))) (rootT f (l.filter fun x => decide (bitI x.index (255 - (f : Int)) = 1)))
theorem rootT_nil (f : Nat) : rootT f [] = emptyH := by cases f <;> rfl
theorem rootT_one (f : Nat) (x : Item) : rootT f [x] = leafH x := by cases f <;> rfl
theorem rootT_two (f : Nat) (l : List Item) (h : 2 ≤ l.length) : rootT (f + 1) l = nodeH (rootT f (l.filter fun x => decide (bitI x.index (255 - (f : Int)) = 0))) (rootT f (l.filter fun x => decide (bitI x.index (255 - (f : Int)) = 1))) := by
  match l, h with
  | _ :: _ :: _, _ => rfl
end Go.Proofs.Ytkckakfkeooepaa
