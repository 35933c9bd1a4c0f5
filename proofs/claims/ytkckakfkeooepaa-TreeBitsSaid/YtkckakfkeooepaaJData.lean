/- The document's data as the program holds them: structs by parts. -/
import Derived.Test.YtkckakfkeooepaaJEq
namespace Go.Proofs.Ytkckakfkeooepaa
set_option linter.all false
set_option linter.unusedSimpArgs false
set_option linter.unusedVariables false
set_option linter.unnecessarySimpa false
open Go.RowKit
def Hash.zero : Hash := ⟨List.replicate 32 0, rfl⟩
structure Sig where
  r : Int
  s : Int
  deriving DecidableEq
structure Head where
  epoch : Int
  tick : Int
  count : Int
  root : Hash
  log : Hash
  sig : Sig
  deriving DecidableEq
structure Entry where
  name : ByteArray
  version : Int
  key : Int
structure Item where
  index : Hash
  value : Hash
  deriving DecidableEq
structure Known where
  entry : Entry
  epoch : Int
def Sig.zero : Sig := ⟨0, 0⟩
def Head.zero : Head := ⟨0, 0, 0, Hash.zero, Hash.zero, Sig.zero⟩
def Entry.zero : Entry := ⟨⟨#[]⟩, 0, 0⟩
def Item.zero : Item := ⟨Hash.zero, Hash.zero⟩
def Known.zero : Known := ⟨Entry.zero, 0⟩
def sigP (x : Sig) : List (List Value) := [[.int .u64 x.r], [.int .u64 x.s]]
def headP (x : Head) : List (List Value) := [[.int .i64 x.epoch], [.int .i64 x.tick], [.int .i64 x.count], hL x.root, hL x.log, [.int .u64 x.sig.r], [.int .u64 x.sig.s]]
def entryP (x : Entry) : List (List Value) := [[.string x.name], [.int .i64 x.version], [.int .u64 x.key]]
def itemP (x : Item) : List (List Value) := [hL x.index, hL x.value]
def knownP (x : Known) : List (List Value) := [[.string x.entry.name], [.int .i64 x.entry.version], [.int .u64 x.entry.key], [.int .i64 x.epoch]]
theorem sigP_len (x : Sig) : (pl (sigP x)).length = 2 := by simp [pl, sigP]
theorem headP_len (x : Head) : (pl (headP x)).length = 69 := by simp [pl, headP]
theorem entryP_len (x : Entry) : (pl (entryP x)).length = 3 := by simp [pl, entryP]
theorem itemP_len (x : Item) : (pl (itemP x)).length = 64 := by simp [pl, itemP]
theorem knownP_len (x : Known) : (pl (knownP x)).length = 4 := by simp [pl, knownP]
theorem ones1_int (k : IntKind) (n : Int) : ones1 [Value.int k n] := ones1.cons rfl ones1.nil
theorem ones1_str (s : ByteArray) : ones1 [Value.string s] := ones1.cons rfl ones1.nil
theorem sigP_ones (x : Sig) : ones1 (pl (sigP x)) := ones1.pl fun p hp => by
  simp only [sigP, List.mem_cons, List.not_mem_nil, or_false] at hp
  rcases hp with rfl | rfl <;> exact ones1_int _ _
theorem headP_ones (x : Head) : ones1 (pl (headP x)) := ones1.pl fun p hp => by
  simp only [headP, List.mem_cons, List.not_mem_nil, or_false] at hp
  rcases hp with rfl | rfl | rfl | rfl | rfl | rfl | rfl <;> first | exact ones1_int _ _ | exact hL_ones _
theorem entryP_ones (x : Entry) : ones1 (pl (entryP x)) := ones1.pl fun p hp => by
  simp only [entryP, List.mem_cons, List.not_mem_nil, or_false] at hp
  rcases hp with rfl | rfl | rfl <;> first | exact ones1_int _ _ | exact ones1_str _
theorem itemP_ones (x : Item) : ones1 (pl (itemP x)) := ones1.pl fun p hp => by
  simp only [itemP, List.mem_cons, List.not_mem_nil, or_false] at hp
  rcases hp with rfl | rfl <;> exact hL_ones _
theorem knownP_ones (x : Known) : ones1 (pl (knownP x)) := ones1.pl fun p hp => by
  simp only [knownP, List.mem_cons, List.not_mem_nil, or_false] at hp
  rcases hp with rfl | rfl | rfl | rfl <;> first | exact ones1_int _ _ | exact ones1_str _
/-! ### More rules by parts -/
section
variable {P : Program} {C L : List Atom} {l : Fr}
/-- Values of one cell each, in order. -/
inductive PartsV (l : Fr) : Nat → List (Nat × Operand) → List Value → Prop
  | nil (i : Nat) : PartsV l i [] []
  | cons {i : Nat} {x : Operand} {v : Value} {ps : List (Nat × Operand)} {vs : List Value} (h : l.ev x = some v) (hc : v.cells = #[v]) (hs : PartsV l (i + 1) ps vs) : PartsV l i ((i, x) :: ps) (v :: vs)
theorem PartsV.parts {i : Nat} {ps : List (Nat × Operand)} {vs : List Value} (h : PartsV l i ps vs) : Parts l i ps (vs.map fun v => [v]) := by
  induction h with
  | nil i => exact .nil i
  | cons h hc hs ih => exact .cons h (by rw [hc]) ih
theorem flatten_ones (vs : List Value) : (vs.map fun v => [v]).flatten = vs := by
  induction vs with
  | nil => rfl
  | cons v vs ih => simp [ih]
/-- A row of one-cell values. -/
theorem E_rowV {t e ty : TypeId} {bytes : Nat} {z : Value} {n : Nat} {ps : List (Nat × Operand)} {vs : List Value} (ht : P.underlying t = some (.slice e)) (hi : TI P e 1 bytes z) (hn : Nat.ble n 16777216 = true) (h0 : Nat.beq n 0 = false) (hp : PartsV l 0 ps vs) (hln : vs.length = n) :
    YE P l L (.buildSlice t n ps.toArray) ty (fun v L' => ∃ g, v = .slice (some ⟨g, 0, none⟩) n n ∧ L' = .own e 1 (.slice (some ⟨g, 0, none⟩) n n) n vs :: L) := by
  refine E_rows ht hi (by simpa using hn) (by simpa using h0) hp.parts (fun cs hcs => ?_) (flatten_ones vs) (by simpa using hln)
  simp only [List.mem_map] at hcs
  obtain ⟨v, _, rfl⟩ := hcs
  rfl
/-- A row of one element. -/
theorem E_row1 {t e ty : TypeId} {size bytes : Nat} {z : Value} {x : Operand} {v : Value} {cs : List Value} (ht : P.underlying t = some (.slice e)) (hi : TI P e size bytes z) (hn : Nat.ble size 16777216 = true) (h0 : Nat.beq size 0 = false) (hx : l.ev x = some v) (hc : v.cells = cs.toArray) (hl : cs.length = size) :
    YE P l L (.buildSlice t 1 #[(0, x)]) ty (fun v L' => ∃ g, v = .slice (some ⟨g, 0, none⟩) 1 1 ∧ L' = .own e size (.slice (some ⟨g, 0, none⟩) 1 1) 1 cs :: L) :=
  E_rows (ps := [(0, x)]) ht hi (by simpa using hn) (by simpa using h0) (.cons hx hc (.nil _)) (fun ds hd => by rw [List.mem_singleton] at hd; rw [hd, hl]) (by simp) rfl
/-- A row of elements of one shape. -/
theorem E_rowE {α : Type} {enc : α → List Value} {t e ty : TypeId} {size bytes : Nat} {z : Value} {n : Nat} {ps : List (Nat × Operand)} {css : List (List Value)} (us : List α) (he : ∀ a, (enc a).length = size) (ht : P.underlying t = some (.slice e)) (hi : TI P e size bytes z) (hn : Nat.ble (n * size) 16777216 = true) (h0 : Nat.beq (n * size) 0 = false)
    (hp : Parts l 0 ps css) (hc : css = us.map enc) (hln : us.length = n) :
    YE P l L (.buildSlice t n ps.toArray) ty (fun v L' => ∃ g, v = .slice (some ⟨g, 0, none⟩) n n ∧ L' = .own e size (.slice (some ⟨g, 0, none⟩) n n) n (fl enc us) :: L) :=
  E_rows ht hi (by simpa using hn) h0 hp (fun cs hcs => by subst hc; simp only [List.mem_map] at hcs; obtain ⟨a, _, rfl⟩ := hcs; exact he a) (by rw [hc]; rfl) (by rw [hc]; simpa using hln)
/-- Parts laid over parts. -/
inductive LaysP (l : Fr) : List (Nat × Operand) → List (List Value) → List (List Value) → Prop
  | nil (qs : List (List Value)) : LaysP l [] qs qs
  | cons {i : Nat} {x : Operand} {v : Value} {vs old : List Value} {ps : List (Nat × Operand)} {qs rs : List (List Value)} (h : l.ev x = some v) (hc : v.cells = vs.toArray) (hk : qs[i]? = some old) (hl : vs.length = old.length) (hs : LaysP l ps (qs.set i vs) rs) : LaysP l ((i, x) :: ps) qs rs
def placeP (qs : List (List Value)) (i : Nat) : Option (Nat × Nat) := (qs[i]?).map fun p => (offP qs i, p.length)
theorem offP_set : ∀ (qs : List (List Value)) (i k : Nat) (vs : List Value), (∀ old, qs[i]? = some old → vs.length = old.length) → offP (qs.set i vs) k = offP qs k
  | [], i, k, vs, _ => by cases i <;> simp
  | q :: qs, i, 0, vs, _ => by cases i <;> simp [offP]
  | q :: qs, 0, k + 1, vs, h => by simp [offP, h q rfl]
  | q :: qs, i + 1, k + 1, vs, h => by simp only [List.set_cons_succ, offP]; rw [offP_set qs i k vs (fun old ho => h old (by simpa using ho))]
theorem placeP_set (qs : List (List Value)) (i : Nat) (vs old : List Value) (h : qs[i]? = some old) (hl : vs.length = old.length) : placeP (qs.set i vs) = placeP qs := by
  funext k
  unfold placeP
  rw [offP_set qs i k vs (fun o ho => by rw [h] at ho; injection ho with ho; rw [hl, ho])]
  by_cases hik : i = k
  · subst hik
    rw [List.getElem?_set_self (List.getElem?_eq_some_iff.1 h).1, h]
    simp [hl]
  · rw [List.getElem?_set_ne hik]
theorem LaysP.lays {ps : List (Nat × Operand)} {qs rs : List (List Value)} {place : Nat → Option (Nat × Nat)} (h : LaysP l ps qs rs) (hp : ∀ i o, qs[i]? = some o → place i = placeP qs i) : Lays l place ps (pl qs) (pl rs) := by
  induction h with
  | nil qs => exact .nil _
  | @cons i x v vs old ps qs rs hx hc hk hl hs ih =>
    obtain ⟨hk', e⟩ := List.getElem?_eq_some_iff.1 hk
    have hpi := hp i old hk
    have hset := placeP_set qs i vs old hk hl
    refine .cons hx hc (off := offP qs i) (size := vs.length) (ds := pl (qs.set i vs)) ?_ rfl ?_ ?_ (ih (fun j o ho => ?_))
    · rw [hpi]; simp [placeP, hk, hl]
    · rw [offP_take]
      have := congrArg List.length (pl_split qs i)
      rw [List.length_append, List.drop_eq_getElem_cons hk', e] at this
      simp only [pl, List.length_append] at this
      omega
    · exact pl_set qs i vs hk' (by rw [e, hl])
    · rw [hset]
      have hj : j < qs.length := by have := (List.getElem?_eq_some_iff.1 ho).1; simpa using this
      exact hp j qs[j] (List.getElem?_eq_getElem hj)
/-- A struct built: its zero's fields, laid over. -/
theorem R_buildP {t ty : TypeId} {ps : List (Nat × Operand)} {zs rs : List (List Value)} {es : List Value} (hz : zeroOf P t = some (pl zs).toArray) (hf : placesOf P t = some (zs.zipIdx.map fun p => (offP zs p.2, p.1.length))) (h : LaysP l ps zs rs) (e : pl rs = es) : YR P C l (.build t ps.toArray) ty (.agg es.toArray) := by
  subst e
  refine R_build hz hf (h.lays fun i o ho => ?_)
  simp [placeP, List.getElem?_zipIdx, ho]
/-- An array built. -/
theorem R_buildQ {t ty e : TypeId} {n size bytes : Nat} {z : Value} {ps : List (Nat × Operand)} {zs rs : List (List Value)} {es : List Value} (ht : P.underlying t = some (.array n e)) (hti : TI P e size bytes z) (hz : zeroOf P t = some (pl zs).toArray) (hs : ∀ q ∈ zs, q.length = size) (h : LaysP l ps zs rs) (e' : pl rs = es) : YR P C l (.build t ps.toArray) ty (.agg es.toArray) := by
  subst e'
  refine R_buildArr ht hti hz (h.lays fun i o ho => ?_)
  have hi := (List.getElem?_eq_some_iff.1 ho).1
  have hoff : ∀ (zs : List (List Value)) (i : Nat), (∀ q ∈ zs, q.length = size) → i < zs.length → offP zs i = i * size := by
    intro zs
    induction zs with
    | nil => intro i _ h; simp at h
    | cons q zs ih =>
      intro i hq hi
      cases i with
      | zero => simp [offP]
      | succ i => simp only [offP]; rw [hq q List.mem_cons_self, ih i (fun r hr => hq r (List.mem_cons_of_mem _ hr)) (by simpa using hi), Nat.add_mul, Nat.one_mul, Nat.add_comm]
  simp only [placeP, ho, Option.map_some]
  rw [hoff zs i hs hi, hs o (List.mem_of_getElem? ho)]
/-- A field laid over, the whole in other words. -/
theorem E_storeF {t ty bt : TypeId} {x y : Operand} {g o : Nat} {ps qs : List (List Value)} {v u : Value} {bytes : Nat} {z : Value} {L1 : List Atom} (k : Nat) (hi : TI P t 1 bytes z) (hx : l.ev x = some (.pointer (some ⟨g, o, none⟩))) (hy : l.ev y = some v) (hp : Pick (.blk g bt (pl ps)) L L1) (hk : ps[k]? = some [u]) (ho : offP ps k = o) (hv : v.cells = #[v]) (h1 : v.oneCell' = true) (hq : ps.set k [v] = qs) :
    YE P l L (.store t x y) ty (fun w L' => w = undef ∧ L' = .blk g bt (pl qs) :: L1) := by
  subst hq
  exact E_storeP k hi hx hy hp hk ho hv h1
theorem E_storeFA {t ty bt : TypeId} {x y : Operand} {g o size bytes : Nat} {ps qs : List (List Value)} {vs us : List Value} {z : Value} {L1 : List Atom} (k : Nat) (hi : TI P t size bytes z) (hx : l.ev x = some (.pointer (some ⟨g, o, none⟩))) (hy : l.ev y = some (.agg vs.toArray)) (hp : Pick (.blk g bt (pl ps)) L L1) (hk : ps[k]? = some us) (ho : offP ps k = o) (hu : us.length = size) (hv : vs.length = size) (h1 : ones1 vs) (hq : ps.set k vs = qs) :
    YE P l L (.store t x y) ty (fun w L' => w = undef ∧ L' = .blk g bt (pl qs) :: L1) := by
  subst hq
  exact E_storePA k hi hx hy hp hk ho hu hv h1
theorem part_rowS {t : TypeId} {ps qs : List (List Value)} {k o size bytes : Nat} {z : Value} {dd : TypeDesc} (ht : P.underlying t = some dd) (hd : dd.isRow = true) (hti : TI P t size bytes z) (hv : (ps.drop k).take qs.length = qs) (ho : offP ps k = o) (hl : (pl qs).length = size) (w : World) : (part t (pl ps).toArray o).run P w = .ok (.agg (pl qs).toArray) w := by
  have hagg : (isAgg t).run P w = .ok true w := by
    unfold isAgg
    rw [Sem.run_bind, run_underlying ht w]
    cases dd <;> simp_all
  have hs := pl_seg ps k qs.length
  rw [hv, ho, hl] at hs
  simp only [part, Sem.run_bind, hagg, Result.andThen_ok, if_true, hti.sizeOf, Sem.run_pure]
  congr 2
  rw [List.extract_toArray, List.extract_eq_take_drop]
  congr 1
  rw [← hs, Nat.add_sub_cancel_left]
end
/-! ### Equality of data -/
def eqSig (x y : Sig) : Bool := decide (x = y)
def eqHead (x y : Head) : Bool := decide (x = y)
def eqItem (x y : Item) : Bool := decide (x = y)
theorem eqSig_def (x y : Sig) : (decide (x.r = y.r) && (decide (x.s = y.s) && true)) = eqSig x y := by
  cases x; cases y
  rw [Bool.eq_iff_iff]; simp [eqSig]
theorem eqItem_def (x y : Item) : (decide (x.index = y.index) && (decide (x.value = y.value) && true)) = eqItem x y := by
  cases x; cases y
  rw [Bool.eq_iff_iff]; simp [eqItem]
theorem eqHead_def (x y : Head) : (decide (x.epoch = y.epoch) && (decide (x.tick = y.tick) && (decide (x.count = y.count) && (decide (x.root = y.root) && (decide (x.log = y.log) && (eqSig x.sig y.sig && true)))))) = eqHead x y := by
  cases x; cases y
  rw [Bool.eq_iff_iff]; simp [eqHead, eqSig]
/-! ### Wraps -/
theorem i64_in {n : Int} (h : -9223372036854775808 ≤ n ∧ n ≤ 9223372036854775807) : Value.int .i64 (IntKind.i64.wrap n) = .int .i64 n := by rw [IntWalk.i64_in n h]
theorem u64_in {n : Int} (h : 0 ≤ n ∧ n ≤ 18446744073709551615) : Value.int .u64 (IntKind.u64.wrap n) = .int .u64 n := by rw [IntWalk.u64_in n h]
theorem u8_in {n : Int} (h : 0 ≤ n ∧ n ≤ 255) : Value.int .u8 (IntKind.u8.wrap n) = .int .u8 n := by rw [IntWalk.u8_in n h]
theorem u16_in {n : Int} (h : 0 ≤ n ∧ n ≤ 65535) : Value.int .u16 (IntKind.u16.wrap n) = .int .u16 n := by rw [IntWalk.u16_in n h]
theorem rem_in {k : IntKind} {a b : Int} (ha : 0 ≤ a) (hb : 0 ≤ b) : Value.int k (a.tmod b) = .int k (a % b) := by rw [Int.tmod_eq_emod_of_nonneg ha]
theorem quo_i64 {a b : Int} (ha : 0 ≤ a) (hb : 0 < b) (h : a ≤ 9223372036854775807) : Value.int .i64 (IntKind.i64.wrap (a.tdiv b)) = .int .i64 (a / b) := by
  rw [Int.tdiv_eq_ediv_of_nonneg ha]
  have h1 : 0 ≤ a / b := Int.ediv_nonneg ha (by omega)
  have h2 : a / b ≤ a := Int.ediv_le_self b ha
  rw [IntWalk.i64_in _ (by omega)]
theorem quo_u64 {a b : Int} (ha : 0 ≤ a) (hb : 0 < b) (h : a ≤ 18446744073709551615) : Value.int .u64 (IntKind.u64.wrap (a.tdiv b)) = .int .u64 (a / b) := by
  rw [Int.tdiv_eq_ediv_of_nonneg ha]
  have h1 : 0 ≤ a / b := Int.ediv_nonneg ha (by omega)
  have h2 : a / b ≤ a := Int.ediv_le_self b ha
  rw [IntWalk.u64_in _ (by omega)]
theorem quo_u8 {a b : Int} (ha : 0 ≤ a) (hb : 0 < b) (h : a ≤ 255) : Value.int .u8 (IntKind.u8.wrap (a.tdiv b)) = .int .u8 (a / b) := by
  rw [Int.tdiv_eq_ediv_of_nonneg ha]
  have h1 : 0 ≤ a / b := Int.ediv_nonneg ha (by omega)
  have h2 : a / b ≤ a := Int.ediv_le_self b ha
  rw [IntWalk.u8_in _ (by omega)]
theorem quo_u16 {a b : Int} (ha : 0 ≤ a) (hb : 0 < b) (h : a ≤ 65535) : Value.int .u16 (IntKind.u16.wrap (a.tdiv b)) = .int .u16 (a / b) := by
  rw [Int.tdiv_eq_ediv_of_nonneg ha]
  have h1 : 0 ≤ a / b := Int.ediv_nonneg ha (by omega)
  have h2 : a / b ≤ a := Int.ediv_le_self b ha
  rw [IntWalk.u16_in _ (by omega)]
/-- The sponge's state. -/
def St.zero : St := ⟨0, 0, 0, 0, 0⟩
def stP (s : St) : List (List Value) := [[.int .u64 (s.a : Int)], [.int .u64 (s.b : Int)], [.int .u64 (s.c : Int)], [.int .u64 (s.d : Int)], [.int .u64 (s.e : Int)]]
theorem stP_len (s : St) : (pl (stP s)).length = 5 := rfl
theorem stP_ones (s : St) : ones1 (pl (stP s)) := ones1.pl fun p hp => by
  simp only [stP, List.mem_cons, List.not_mem_nil, or_false] at hp
  rcases hp with rfl | rfl | rfl | rfl | rfl <;> exact ones1_int _ _
end Go.Proofs.Ytkckakfkeooepaa
