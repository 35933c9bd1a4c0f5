/- Loops, with what they turn told apart from what stays; bytes compared; a slice's rest. -/
import Derived.Test.YtkckakfkeooepaaJMore
import Derived.Lib.Bytealg
namespace Go.Proofs.Ytkckakfkeooepaa
set_option linter.all false
set_option linter.unusedSimpArgs false
set_option linter.unusedVariables false
set_option linter.unnecessarySimpa false
open Go.RowKit
section
variable {c : Cx} {Q : Post} {l : Fr} {L : List Atom} {x : Code} {kp : Fr} {R : List Atom}
theorem picks_all {α : Type} : ∀ L : List α, Picks L L []
  | [] => .nil _
  | x :: L => .cons (.here _ _) (picks_all L)
theorem JC_loop1 {α : Type} (p : α → Prop) (fl : Fr → α → Fr) (K : List Atom → α → List Atom) (μ : α → Nat) (i : α) (hs : Picks (K [] i) L R) (hf : FrSub (fl kp i) l) (hK : ∀ R i, K R i = K [] i ++ R) (hp : p i)
    (round : ∀ i, p i → JC c x (Exit.then (Nxt c p (fl kp) (K R) μ (μ i)) Q) (fl kp i) (K R i)) : JC c (.loop x) Q l L :=
  fun a W ha hM => JC_loop p (fl kp) (K R) μ (L := K R i) (R := []) i hp (picks_all _) hf round a W ha (by rw [hK]; exact hM.picks hs)
theorem JC_loop2 {α β : Type} (p : α → β → Prop) (fl : Fr → α → β → Fr) (K : List Atom → α → β → List Atom) (μ : α → β → Nat) (i : α) (j : β) (hs : Picks (K [] i j) L R) (hf : FrSub (fl kp i j) l) (hK : ∀ R i j, K R i j = K [] i j ++ R) (hp : p i j)
    (round : ∀ i j, p i j → JC c x (Exit.then (Nxt c (fun i : α × β => p i.1 i.2) (fun i => fl kp i.1 i.2) (fun i => K R i.1 i.2) (fun i => μ i.1 i.2) (μ i j)) Q) (fl kp i j) (K R i j)) : JC c (.loop x) Q l L :=
  JC_loop1 (fun i : α × β => p i.1 i.2) (fun kp i => fl kp i.1 i.2) (fun R i => K R i.1 i.2) (fun i => μ i.1 i.2) (i, j) hs hf (fun R i => hK R i.1 i.2) hp (fun i => round i.1 i.2)
theorem JC_loop3 {α β γ : Type} (p : α → β → γ → Prop) (fl : Fr → α → β → γ → Fr) (K : List Atom → α → β → γ → List Atom) (μ : α → β → γ → Nat) (i : α) (j : β) (k : γ) (hs : Picks (K [] i j k) L R) (hf : FrSub (fl kp i j k) l) (hK : ∀ R i j k, K R i j k = K [] i j k ++ R) (hp : p i j k)
    (round : ∀ i j k, p i j k → JC c x (Exit.then (Nxt c (fun i : α × β × γ => p i.1 i.2.1 i.2.2) (fun i => fl kp i.1 i.2.1 i.2.2) (fun i => K R i.1 i.2.1 i.2.2) (fun i => μ i.1 i.2.1 i.2.2) (μ i j k)) Q) (fl kp i j k) (K R i j k)) : JC c (.loop x) Q l L :=
  JC_loop1 (fun i : α × β × γ => p i.1 i.2.1 i.2.2) (fun kp i => fl kp i.1 i.2.1 i.2.2) (fun R i => K R i.1 i.2.1 i.2.2) (fun i => μ i.1 i.2.1 i.2.2) (i, j, k) hs hf (fun R i => hK R i.1 i.2.1 i.2.2) hp (fun i => round i.1 i.2.1 i.2.2)
theorem JC_loop4 {α β γ δ : Type} (p : α → β → γ → δ → Prop) (fl : Fr → α → β → γ → δ → Fr) (K : List Atom → α → β → γ → δ → List Atom) (μ : α → β → γ → δ → Nat) (i : α) (j : β) (k : γ) (m : δ) (hs : Picks (K [] i j k m) L R) (hf : FrSub (fl kp i j k m) l) (hK : ∀ R i j k m, K R i j k m = K [] i j k m ++ R) (hp : p i j k m)
    (round : ∀ i j k m, p i j k m → JC c x (Exit.then (Nxt c (fun i : α × β × γ × δ => p i.1 i.2.1 i.2.2.1 i.2.2.2) (fun i => fl kp i.1 i.2.1 i.2.2.1 i.2.2.2) (fun i => K R i.1 i.2.1 i.2.2.1 i.2.2.2) (fun i => μ i.1 i.2.1 i.2.2.1 i.2.2.2) (μ i j k m)) Q) (fl kp i j k m) (K R i j k m)) : JC c (.loop x) Q l L :=
  JC_loop1 (fun i : α × β × γ × δ => p i.1 i.2.1 i.2.2.1 i.2.2.2) (fun kp i => fl kp i.1 i.2.1 i.2.2.1 i.2.2.2) (fun R i => K R i.1 i.2.1 i.2.2.1 i.2.2.2) (fun i => μ i.1 i.2.1 i.2.2.1 i.2.2.2) (i, j, k, m) hs hf (fun R i => hK R i.1 i.2.1 i.2.2.1 i.2.2.2) hp (fun i => round i.1 i.2.1 i.2.2.1 i.2.2.2)
theorem JC_loop5 {α β γ δ ε : Type} (p : α → β → γ → δ → ε → Prop) (fl : Fr → α → β → γ → δ → ε → Fr) (K : List Atom → α → β → γ → δ → ε → List Atom) (μ : α → β → γ → δ → ε → Nat) (i : α) (j : β) (k : γ) (m : δ) (n : ε) (hs : Picks (K [] i j k m n) L R) (hf : FrSub (fl kp i j k m n) l) (hK : ∀ R i j k m n, K R i j k m n = K [] i j k m n ++ R) (hp : p i j k m n)
    (round : ∀ i j k m n, p i j k m n → JC c x (Exit.then (Nxt c (fun i : α × β × γ × δ × ε => p i.1 i.2.1 i.2.2.1 i.2.2.2.1 i.2.2.2.2) (fun i => fl kp i.1 i.2.1 i.2.2.1 i.2.2.2.1 i.2.2.2.2) (fun i => K R i.1 i.2.1 i.2.2.1 i.2.2.2.1 i.2.2.2.2) (fun i => μ i.1 i.2.1 i.2.2.1 i.2.2.2.1 i.2.2.2.2) (μ i j k m n)) Q) (fl kp i j k m n) (K R i j k m n)) : JC c (.loop x) Q l L :=
  JC_loop1 (fun i : α × β × γ × δ × ε => p i.1 i.2.1 i.2.2.1 i.2.2.2.1 i.2.2.2.2) (fun kp i => fl kp i.1 i.2.1 i.2.2.1 i.2.2.2.1 i.2.2.2.2) (fun R i => K R i.1 i.2.1 i.2.2.1 i.2.2.2.1 i.2.2.2.2) (fun i => μ i.1 i.2.1 i.2.2.1 i.2.2.2.1 i.2.2.2.2) (i, j, k, m, n) hs hf (fun R i => hK R i.1 i.2.1 i.2.2.1 i.2.2.2.1 i.2.2.2.2) hp (fun i => round i.1 i.2.1 i.2.2.1 i.2.2.2.1 i.2.2.2.2)
theorem JQ_nxt4 {α β γ δ : Type} {p : α × β × γ × δ → Prop} {fl : α × β × γ × δ → Fr} {K : α × β × γ × δ → List Atom} {μ : α × β × γ × δ → Nat} {m : Nat} (i : α) (j : β) (k : γ) (o : δ) (hs : Picks (K (i, j, k, o)) L R) (hf : FrSub (fl (i, j, k, o)) l) (hm : μ (i, j, k, o) < m) (hp : p (i, j, k, o)) : JQ c (Exit.then (Nxt c p fl K μ m) Q) .normal l L := JQ_nxt (i, j, k, o) hp hm hs hf
theorem JQ_nxt5 {α β γ δ ε : Type} {p : α × β × γ × δ × ε → Prop} {fl : α × β × γ × δ × ε → Fr} {K : α × β × γ × δ × ε → List Atom} {μ : α × β × γ × δ × ε → Nat} {m : Nat} (i : α) (j : β) (k : γ) (o : δ) (q : ε) (hs : Picks (K (i, j, k, o, q)) L R) (hf : FrSub (fl (i, j, k, o, q)) l) (hm : μ (i, j, k, o, q) < m) (hp : p (i, j, k, o, q)) : JQ c (Exit.then (Nxt c p fl K μ m) Q) .normal l L := JQ_nxt (i, j, k, o, q) hp hm hs hf
theorem JQ_nxt1 {α : Type} {p : α → Prop} {fl : α → Fr} {K : α → List Atom} {μ : α → Nat} {m : Nat} (i : α) (hs : Picks (K i) L R) (hf : FrSub (fl i) l) (hm : μ i < m) (hp : p i) : JQ c (Exit.then (Nxt c p fl K μ m) Q) .normal l L := JQ_nxt i hp hm hs hf
theorem JQ_nxt2 {α β : Type} {p : α × β → Prop} {fl : α × β → Fr} {K : α × β → List Atom} {μ : α × β → Nat} {m : Nat} (i : α) (j : β) (hs : Picks (K (i, j)) L R) (hf : FrSub (fl (i, j)) l) (hm : μ (i, j) < m) (hp : p (i, j)) : JQ c (Exit.then (Nxt c p fl K μ m) Q) .normal l L := JQ_nxt (i, j) hp hm hs hf
theorem JQ_nxt3 {α β γ : Type} {p : α × β × γ → Prop} {fl : α × β × γ → Fr} {K : α × β × γ → List Atom} {μ : α × β × γ → Nat} {m : Nat} (i : α) (j : β) (k : γ) (hs : Picks (K (i, j, k)) L R) (hf : FrSub (fl (i, j, k)) l) (hm : μ (i, j, k) < m) (hp : p (i, j, k)) : JQ c (Exit.then (Nxt c p fl K μ m) Q) .normal l L := JQ_nxt (i, j, k) hp hm hs hf
theorem FrSub.refl' : FrSub l l := fun _ _ h => h
theorem JC_cut1 {α : Type} {y : Code} {K0 : List Atom} (p : α → Prop) (fl : Fr → α → Fr) (K : List Atom → α → List Atom) (hs : Picks K0 L R) (hf : FrSub kp l)
    (hx : JC c x (Exit.then (Mid c p (fl kp) (K R)) Q) l L) (hy : ∀ i, p i → JC c y Q (fl kp i) (K R i)) : JC c (.seq x y) Q l L := JC_cut p (fl kp) (K R) hx hy
theorem JC_cut2 {α β : Type} {y : Code} {K0 : List Atom} (p : α → β → Prop) (fl : Fr → α → β → Fr) (K : List Atom → α → β → List Atom) (hs : Picks K0 L R) (hf : FrSub kp l)
    (hx : JC c x (Exit.then (Mid c (fun i : α × β => p i.1 i.2) (fun i => fl kp i.1 i.2) (fun i => K R i.1 i.2)) Q) l L) (hy : ∀ i j, p i j → JC c y Q (fl kp i j) (K R i j)) : JC c (.seq x y) Q l L :=
  JC_cut (fun i : α × β => p i.1 i.2) (fun i => fl kp i.1 i.2) (fun i => K R i.1 i.2) hx (fun i => hy i.1 i.2)
theorem JC_cut3 {α β γ : Type} {y : Code} {K0 : List Atom} (p : α → β → γ → Prop) (fl : Fr → α → β → γ → Fr) (K : List Atom → α → β → γ → List Atom) (hs : Picks K0 L R) (hf : FrSub kp l)
    (hx : JC c x (Exit.then (Mid c (fun i : α × β × γ => p i.1 i.2.1 i.2.2) (fun i => fl kp i.1 i.2.1 i.2.2) (fun i => K R i.1 i.2.1 i.2.2)) Q) l L) (hy : ∀ i j k, p i j k → JC c y Q (fl kp i j k) (K R i j k)) : JC c (.seq x y) Q l L :=
  JC_cut (fun i : α × β × γ => p i.1 i.2.1 i.2.2) (fun i => fl kp i.1 i.2.1 i.2.2) (fun i => K R i.1 i.2.1 i.2.2) hx (fun i => hy i.1 i.2.1 i.2.2)
theorem JQ_mid1 {α : Type} {p : α → Prop} {fl : α → Fr} {K : α → List Atom} (i : α) (hs : Picks (K i) L R) (hf : FrSub (fl i) l) (hp : p i) : JQ c (Exit.then (Mid c p fl K) Q) .normal l L := JQ_mid i hp hs hf
theorem JQ_mid2 {α β : Type} {p : α × β → Prop} {fl : α × β → Fr} {K : α × β → List Atom} (i : α) (j : β) (hs : Picks (K (i, j)) L R) (hf : FrSub (fl (i, j)) l) (hp : p (i, j)) : JQ c (Exit.then (Mid c p fl K) Q) .normal l L := JQ_mid (i, j) hp hs hf
theorem JQ_mid3 {α β γ : Type} {p : α × β × γ → Prop} {fl : α × β × γ → Fr} {K : α × β × γ → List Atom} (i : α) (j : β) (k : γ) (hs : Picks (K (i, j, k)) L R) (hf : FrSub (fl (i, j, k)) l) (hp : p (i, j, k)) : JQ c (Exit.then (Mid c p fl K) Q) .normal l L := JQ_mid (i, j, k) hp hs hf
end
section
variable {P : Program} {C : List Atom} {l : Fr} {ty : TypeId}
/-- A cell that a pointer leads to. -/
theorem R_loadR {t : TypeId} {x : Operand} {g o : Nat} {cs : List Value} {v : Value} {dd : TypeDesc} (ht : P.underlying t = some dd) (hd : TypeDesc.plain dd = true) (hx : l.ev x = some (.pointer (some ⟨g, o, none⟩))) (hr : RngIn C (some ⟨g, o, none⟩) cs) (hv : cs[0]? = some v) : YR P C l (.load t x) ty v :=
  R_loadS (k := 0) ht hd (hx.trans (by rw [slotP_some]; rfl)) hr hv
theorem RngIn.cut {A : Option Addr} {cs : List Value} {k cap size : Nat} (h : RngIn C A cs) (hc : cap = k → cs.length ≤ k * size) : RngIn C (cutA A k cap size) (cs.drop (k * size)) := fun W hC => by
  have hw := h W hC
  unfold cutA
  split
  · rename_i e
    left
    exact List.drop_eq_nil_of_le (hc e)
  · rcases hw with rfl | ⟨b, o, rfl, hw⟩
    · left; simp
    · have := Rng.drop (.inr ⟨b, o, rfl, hw⟩ : Rng W (some ⟨b, o, none⟩) cs) (k * size)
      rw [Option.map_some, Addr.add_mid]
      exact this
theorem RngIn.take {A : Option Addr} {cs : List Value} (h : RngIn C A cs) (k : Nat) : RngIn C A (cs.take k) := fun W hC => (h W hC).take k
/-! ### Bytes compared -/
theorem run_loadB (W : World) (g : Nat) : ∀ (b : Bs) (o : Nat) (acc : ByteArray), (∀ (j : Nat) (v : Value), (bcs b)[j]? = some v → W.cell? ⟨g, o + j, none⟩ = some v) → (Extern.Bytes.loadBytes ⟨g, o, none⟩ b.length acc).run P W = .ok ⟨(acc.data.toList ++ b).toArray⟩ W
  | [], o, acc, _ => by simp [Extern.Bytes.loadBytes]
  | x :: b, o, acc, h => by
    have h0 := h 0 (.int .u8 (x.toNat : Int)) rfl
    have ih := run_loadB W g b (o + 1) (acc.push x) (fun j v hj => by rw [show o + 1 + j = o + (j + 1) by omega]; exact h (j + 1) v hj)
    have e : ((x.toNat : Int)).toNat.toUInt8 = x := by simp
    rw [Nat.add_zero] at h0
    simp only [List.length_cons, Extern.Bytes.loadBytes, Sem.run_bind, run_load, h0, Result.andThen, e]
    rw [Addr.add_mid, ih]
    congr 1
    apply ByteArray.ext
    simp [ByteArray.push]
theorem run_bytesOf {W : World} {A : Option Addr} {n c : Nat} {b : Bs} (h : Rng W A (bcs b)) (hn : b.length = n) : (Extern.Bytes.bytesOf (.slice A n c)).run P W = .ok ⟨b.toArray⟩ W := by
  subst hn
  rcases A with _ | a
  · rcases h with h | ⟨_, _, e, _⟩
    · have : b = [] := by simpa [bcs] using h
      subst this; rfl
    · cases e
  · rcases h with h | ⟨g, o, e, h⟩
    · have : b = [] := by simpa [bcs] using h
      subst this; rfl
    · injection e with e; subst e
      have := run_loadB (P := P) W g b o .empty h
      simpa [Extern.Bytes.bytesOf] using this
theorem R_cmp {f : FuncId} {x y : Operand} {ts : Array TypeId} {A B : Option Addr} {n m c1 c2 : Nat} {a b : Bs} (hf : Ext P f Extern.BytealgCompare.compare) (hx : l.ev x = some (.slice A n c1)) (hy : l.ev y = some (.slice B m c2)) (ha : a.length = n) (hb : b.length = m) (hA : RngIn C A (bcs a)) (hB : RngIn C B (bcs b)) :
    YR P C l (.call ⟨.value (.func f), #[x, y], ts⟩) ty (.int .i64 (Lib.compareBytes a b)) :=
  R_ext (xs := [x, y]) (vs := [.slice A n c1, .slice B m c2]) hf (by simp only [evl, hx, hy]) (fun W hC => by
    change (do pure (goInt (Extern.BytealgCompare.cmp (← Extern.Bytes.bytesOf (.slice A n c1)) (← Extern.Bytes.bytesOf (.slice B m c2)))) : Sem Value).run P W = _
    simp only [Sem.run_bind, run_bytesOf (hA W hC) ha, run_bytesOf (hB W hC) hb, Result.andThen_ok, Sem.run_pure, Lib.cmp_eq]
    rfl)
end
theorem shr_one {k : IntKind} {a : Int} (h : min (1 : Int).toNat k.bits = 1) : Value.int k (a.fdiv (2 ^ min (1 : Int).toNat k.bits)) = .int k (a / 2) := by
  rw [h, Int.fdiv_eq_ediv_of_nonneg _ (by decide)]; rfl
/-- A hash as a number. -/
def hvl : Bs → Nat
  | [] => 0
  | x :: xs => x.toNat * 256 ^ xs.length + hvl xs
def hv (h : Hash) : Nat := hvl h.l
theorem hvl_lt : ∀ b : Bs, hvl b < 256 ^ b.length
  | [] => by simp [hvl]
  | x :: xs => by
    have h1 := hvl_lt xs
    have h2 := x.toNat_lt
    have h3 : x.toNat * 256 ^ xs.length + 256 ^ xs.length ≤ 256 * 256 ^ xs.length := by rw [← Nat.succ_mul]; exact Nat.mul_le_mul_right _ (by omega)
    rw [hvl, List.length_cons, Nat.pow_succ, Nat.mul_comm _ 256]
    omega
theorem cmp_hvl : ∀ (a b : Bs), a.length = b.length → Lib.compareBytes a b = if hvl a < hvl b then -1 else if hvl b < hvl a then 1 else 0
  | [], [], _ => by simp [Lib.compareBytes, hvl]
  | [], _ :: _, h => by simp at h
  | _ :: _, [], h => by simp at h
  | x :: a, y :: b, h => by
    have hl : a.length = b.length := by simpa using h
    have ih := cmp_hvl a b hl
    have h1 := hvl_lt a
    have h2 := hvl_lt b
    rw [← hl] at h2
    simp only [Lib.compareBytes, hvl, ← hl]
    by_cases hxy : x < y
    · have h3 : x.toNat + 1 ≤ y.toNat := hxy
      have h4 : (x.toNat + 1) * 256 ^ a.length ≤ y.toNat * 256 ^ a.length := Nat.mul_le_mul_right _ h3
      rw [Nat.succ_mul] at h4
      rw [if_pos hxy, if_pos (by omega)]
    · rw [if_neg hxy]
      by_cases hyx : y < x
      · have h3 : y.toNat + 1 ≤ x.toNat := hyx
        have h4 : (y.toNat + 1) * 256 ^ a.length ≤ x.toNat * 256 ^ a.length := Nat.mul_le_mul_right _ h3
        rw [Nat.succ_mul] at h4
        rw [if_pos hyx, if_neg (by omega), if_pos (by omega)]
      · have e : x = y := UInt8.le_antisymm (UInt8.not_lt.1 hyx) (UInt8.not_lt.1 hxy)
        subst e
        rw [if_neg hyx, ih]
        have e1 : (hvl a < hvl b) = (x.toNat * 256 ^ a.length + hvl a < x.toNat * 256 ^ a.length + hvl b) := by simp
        have e2 : (hvl b < hvl a) = (x.toNat * 256 ^ a.length + hvl b < x.toNat * 256 ^ a.length + hvl a) := by simp
        simp only [e1, e2]
theorem hvl_inj : ∀ (a b : Bs), a.length = b.length → hvl a = hvl b → a = b
  | [], [], _, _ => rfl
  | [], _ :: _, h, _ => by simp at h
  | _ :: _, [], h, _ => by simp at h
  | x :: a, y :: b, h, e => by
    have hl : a.length = b.length := by simpa using h
    have h1 := hvl_lt a
    have h2 := hvl_lt b
    rw [← hl] at h2
    simp only [hvl, ← hl] at e
    have hx : x = y := by
      rcases Nat.lt_trichotomy x.toNat y.toNat with h | h | h
      · have h4 : (x.toNat + 1) * 256 ^ a.length ≤ y.toNat * 256 ^ a.length := Nat.mul_le_mul_right _ h
        rw [Nat.succ_mul] at h4; omega
      · exact UInt8.toNat_inj.1 h
      · have h4 : (y.toNat + 1) * 256 ^ a.length ≤ x.toNat * 256 ^ a.length := Nat.mul_le_mul_right _ h
        rw [Nat.succ_mul] at h4; omega
    subst hx
    rw [hvl_inj a b hl (by omega)]
theorem hv_inj {a b : Hash} (h : hv a = hv b) : a = b := by
  have := hvl_inj a.l b.l (by rw [a.h, b.h]) h
  cases a; cases b; simp_all
end Go.Proofs.Ytkckakfkeooepaa
