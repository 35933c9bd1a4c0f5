/- What each operation that only computes or reads yields. -/
import Derived.Test.YtkckakfkeooepaaJMem
import Derived.Test.YtkckakfkeooepaaMem
import Derived.Laws.IdiomStrings
namespace Go.Proofs.Ytkckakfkeooepaa
set_option linter.all false
set_option linter.unusedSimpArgs false
set_option linter.unusedVariables false
set_option linter.unnecessarySimpa false
open Go.RowKit
section
variable {P : Program} {C : List Atom} {l : Fr}
/-- In memory as C says an operation yields v. -/
def YR (P : Program) (C : List Atom) (l : Fr) (op : Op) (ty : TypeId) (v : Value) : Prop :=
  ∀ (ρ : Operand → Value) (W : World) (d : Option Tmp) (pos : String) (aft : Array Edge) (g : Option (Nat × Bool)), (∀ x u, l.ev x = some u → ρ x = u) → Core C W → (execOp ρ ⟨d, op, ty, pos, aft, g⟩).run P W = .ok (.value v) W
theorem YR.eq {op : Op} {ty : TypeId} {v v' : Value} (h : YR P C l op ty v) (e : v = v') : YR P C l op ty v' := e ▸ h
theorem R_move {x : Operand} {ty : TypeId} {v : Value} (hx : l.ev x = some v) : YR P C l (.move x) ty v := fun ρ W d pos aft g hρ _ => by simp [execOp, hρ x v hx]
theorem R_assign {x : Operand} {ty : TypeId} {v : Value} (hx : l.ev x = some v) : YR P C l (.assign x) ty v := fun ρ W d pos aft g hρ _ => by simp [execOp, hρ x v hx]
theorem R_pick {c x y : Operand} {ty : TypeId} {b : Bool} {v u : Value} (hc : l.ev c = some (.bool b)) (hx : l.ev x = some v) (hy : l.ev y = some u) : YR P C l (.pick c x y) ty (bif b then v else u) := fun ρ W d pos aft g hρ _ => by
  cases b <;> simp [execOp, hρ c _ hc, hρ x _ hx, hρ y _ hy, asBool]
theorem R_pick_true {c x y : Operand} {ty : TypeId} {v : Value} (hc : l.ev c = some (.bool true)) (hx : l.ev x = some v) : YR P C l (.pick c x y) ty v := fun ρ W d pos aft g hρ _ => by
  simp [execOp, hρ c _ hc, hρ x _ hx, asBool]
theorem R_pick_false {c x y : Operand} {ty : TypeId} {v : Value} (hc : l.ev c = some (.bool false)) (hy : l.ev y = some v) : YR P C l (.pick c x y) ty v := fun ρ W d pos aft g hρ _ => by
  simp [execOp, hρ c _ hc, hρ y _ hy, asBool]
theorem R_pick_or {c y : Operand} {ty : TypeId} {b u : Bool} (hc : l.ev c = some (.bool b)) (hy : l.ev y = some (.bool u)) : YR P C l (.pick c (.const (.bool true)) y) ty (.bool (b || u)) :=
  (R_pick hc rfl hy).eq (by cases b <;> rfl)
theorem R_pick_and {c x : Operand} {ty : TypeId} {b u : Bool} (hc : l.ev c = some (.bool b)) (hx : l.ev x = some (.bool u)) : YR P C l (.pick c x (.const (.bool false))) ty (.bool (b && u)) :=
  (R_pick hc hx rfl).eq (by cases b <;> rfl)
theorem R_not {t ty : TypeId} {x : Operand} {b : Bool} (hx : l.ev x = some (.bool b)) : YR P C l (.unOp .not t x) ty (.bool (!b)) := fun ρ W d pos aft g hρ _ => by simp [execOp, hρ x _ hx, Op.unary]
theorem R_neg {t ty : TypeId} {x : Operand} {k : IntKind} {n : Int} (hx : l.ev x = some (.int k n)) : YR P C l (.unOp .neg t x) ty (.int k (k.wrap (0 - n))) := fun ρ W d pos aft g hρ _ => by
  simp [execOp, hρ x _ hx, Op.unary, Op.intArith]
theorem R_conv {s t ty : TypeId} {x : Operand} {k k' : IntKind} {n : Int} {dd : TypeDesc} (hs : P.underlying s = some dd) (ht : P.underlying t = some (.int k')) (hx : l.ev x = some (.int k n)) : YR P C l (.convert s t x) ty (.int k' (k'.wrap n)) :=
  fun ρ W d pos aft g hρ _ => by
    simp only [execOp, hρ x _ hx]
    simp only [convert, Sem.run_bind, run_underlying hs, run_underlying ht, Result.andThen_ok]
    cases dd <;> simp [Conv.intToInt]
/-! ### Arithmetic -/
section
variable {t ty yt : TypeId} {x y : Operand} {k : IntKind} {a b : Int}
theorem R_int2 {op : BinOp} {v : Value} (hx : l.ev x = some (.int k a)) (hy : l.ev y = some (.int k b)) (h : ∀ W, (binOp op t (.int k a) (.int k b)).run P W = .ok v W) : YR P C l (.binOp op t x y yt) ty v :=
  fun ρ W d pos aft g hρ _ => by
    have he : (eqGuard op t x y (.int k a) (.int k b)).run P W = .ok () W := by cases op <;> simp [eqGuard]
    simp [execOp, hρ x _ hx, hρ y _ hy, he, h W]
theorem R_add (hx : l.ev x = some (.int k a)) (hy : l.ev y = some (.int k b)) : YR P C l (.binOp .add t x y yt) ty (.int k (k.wrap (a + b))) := R_int2 hx hy fun W => by simp [binOp, Op.intArith]
theorem R_sub (hx : l.ev x = some (.int k a)) (hy : l.ev y = some (.int k b)) : YR P C l (.binOp .sub t x y yt) ty (.int k (k.wrap (a - b))) := R_int2 hx hy fun W => by simp [binOp, Op.intArith]
theorem R_mul (hx : l.ev x = some (.int k a)) (hy : l.ev y = some (.int k b)) : YR P C l (.binOp .mul t x y yt) ty (.int k (k.wrap (a * b))) := R_int2 hx hy fun W => by simp [binOp, Op.intArith]
theorem R_quo (hx : l.ev x = some (.int k a)) (hy : l.ev y = some (.int k b)) (hb : b ≠ 0) : YR P C l (.binOp .quo t x y yt) ty (.int k (k.wrap (a.tdiv b))) := R_int2 hx hy fun W => by simp [binOp, Op.intDiv, hb]
theorem R_rem (hx : l.ev x = some (.int k a)) (hy : l.ev y = some (.int k b)) (hb : b ≠ 0) : YR P C l (.binOp .rem t x y yt) ty (.int k (a.tmod b)) := R_int2 hx hy fun W => by simp [binOp, Op.intDiv, hb]
theorem R_eq (hx : l.ev x = some (.int k a)) (hy : l.ev y = some (.int k b)) : YR P C l (.binOp .eql t x y yt) ty (.bool (decide (a = b))) := R_int2 hx hy fun W => by simp only [binOp, Op.intCmp, ne_eq, not_true, if_false]; rfl
theorem R_ne (hx : l.ev x = some (.int k a)) (hy : l.ev y = some (.int k b)) : YR P C l (.binOp .neq t x y yt) ty (.bool (!decide (a = b))) := R_int2 hx hy fun W => by simp only [binOp, Op.intCmp, ne_eq, not_true, if_false]; rfl
theorem R_lt (hx : l.ev x = some (.int k a)) (hy : l.ev y = some (.int k b)) : YR P C l (.binOp .lss t x y yt) ty (.bool (decide (a < b))) := R_int2 hx hy fun W => by simp [binOp, Op.intCmp]
theorem R_le (hx : l.ev x = some (.int k a)) (hy : l.ev y = some (.int k b)) : YR P C l (.binOp .leq t x y yt) ty (.bool (decide (a ≤ b))) := R_int2 hx hy fun W => by simp [binOp, Op.intCmp]
theorem R_gt (hx : l.ev x = some (.int k a)) (hy : l.ev y = some (.int k b)) : YR P C l (.binOp .gtr t x y yt) ty (.bool (decide (a > b))) := R_int2 hx hy fun W => by simp [binOp, Op.intCmp]
theorem R_ge (hx : l.ev x = some (.int k a)) (hy : l.ev y = some (.int k b)) : YR P C l (.binOp .geq t x y yt) ty (.bool (decide (a ≥ b))) := R_int2 hx hy fun W => by simp [binOp, Op.intCmp]
theorem R_bits {op : BinOp} (hx : l.ev x = some (.int k a)) (hy : l.ev y = some (.int k b)) (ho : op = .and ∨ op = .or ∨ op = .xor) : YR P C l (.binOp op t x y yt) ty (.int k (bits op k a b)) := R_int2 hx hy fun W => by
  rcases ho with rfl | rfl | rfl <;> simp [binOp, Op.intBits, bits]
theorem R_shl {ky : IntKind} (hx : l.ev x = some (.int k a)) (hy : l.ev y = some (.int ky b)) (hb : 0 ≤ b) : YR P C l (.binOp .shl t x y yt) ty (.int k (k.wrap (a * 2 ^ (min b.toNat k.bits)))) := fun ρ W d pos aft g hρ _ => by
  have : ¬ b < 0 := by omega
  simp [execOp, hρ x _ hx, hρ y _ hy, eqGuard, binOp, Op.shift, this]
theorem R_shr {ky : IntKind} (hx : l.ev x = some (.int k a)) (hy : l.ev y = some (.int ky b)) (hb : 0 ≤ b) : YR P C l (.binOp .shr t x y yt) ty (.int k (a.fdiv (2 ^ (min b.toNat k.bits)))) := fun ρ W d pos aft g hρ _ => by
  have : ¬ b < 0 := by omega
  simp [execOp, hρ x _ hx, hρ y _ hy, eqGuard, binOp, Op.shift, this]
theorem R_beq {a b : Bool} (ht : P.underlying t = some .bool) (hx : l.ev x = some (.bool a)) (hy : l.ev y = some (.bool b)) : YR P C l (.binOp .eql t x y yt) ty (.bool (a == b)) := fun ρ W d pos aft g hρ _ => by
  have e : binOp .eql t (.bool a) (.bool b) = (do pure (.bool (← Op.equalIn (9999 + 1) t (.bool a) (.bool b)))) := rfl
  have he : eqGuard .eql t x y (.bool a) (.bool b) = pure () := rfl
  simp only [execOp, hρ x _ hx, hρ y _ hy, e, he, Sem.run_bind, Sem.run_pure, Result.andThen_ok, run_equalIn_bool' W 9999 t a b ht]
theorem R_bne {a b : Bool} (ht : P.underlying t = some .bool) (hx : l.ev x = some (.bool a)) (hy : l.ev y = some (.bool b)) : YR P C l (.binOp .neq t x y yt) ty (.bool (a != b)) := fun ρ W d pos aft g hρ _ => by
  have e : binOp .neq t (.bool a) (.bool b) = (do pure (.bool (!(← Op.equalIn (9999 + 1) t (.bool a) (.bool b))))) := rfl
  have he : eqGuard .neq t x y (.bool a) (.bool b) = pure () := rfl
  simp only [execOp, hρ x _ hx, hρ y _ hy, e, he, Sem.run_bind, Sem.run_pure, Result.andThen_ok, run_equalIn_bool' W 9999 t a b ht, bne]
end
/-! ### Strings -/
/-- A string's bytes. -/
def sb (s : ByteArray) : Bs := s.data.toList
@[simp] theorem sb_length (s : ByteArray) : (sb s).length = s.size := rfl
theorem sb_eq (s : ByteArray) : s.toList = sb s := ByteArray.toList_eq s
@[simp] theorem sb_mk (b : Bs) : sb ⟨b.toArray⟩ = b := by simp [sb]
theorem R_str {op : BinOp} {t ty yt : TypeId} {x y : Operand} {a b : ByteArray} {v : Value} (hx : l.ev x = some (.string a)) (hy : l.ev y = some (.string b)) (h : ∀ W, (Op.stringOp op a b).run P W = .ok v W) (ho : op ≠ .shl ∧ op ≠ .shr := by decide) : YR P C l (.binOp op t x y yt) ty v := fun ρ W d pos aft g hρ _ => by
  have he : (eqGuard op t x y (.string a) (.string b)).run P W = .ok () W := by cases op <;> simp [eqGuard]
  have hb : binOp op t (.string a) (.string b) = Op.stringOp op a b := by cases op <;> simp_all [binOp]
  simp [execOp, hρ x _ hx, hρ y _ hy, he, hb, h W]
theorem R_seq {t ty yt : TypeId} {x y : Operand} {a b : ByteArray} (hx : l.ev x = some (.string a)) (hy : l.ev y = some (.string b)) : YR P C l (.binOp .eql t x y yt) ty (.bool (sb a == sb b)) := R_str hx hy fun W => by simp [Op.stringOp, sb_eq]
theorem R_sne {t ty yt : TypeId} {x y : Operand} {a b : ByteArray} (hx : l.ev x = some (.string a)) (hy : l.ev y = some (.string b)) : YR P C l (.binOp .neq t x y yt) ty (.bool (sb a != sb b)) := R_str hx hy fun W => by simp [Op.stringOp, sb_eq, bne]
theorem R_slt {t ty yt : TypeId} {x y : Operand} {a b : ByteArray} (hx : l.ev x = some (.string a)) (hy : l.ev y = some (.string b)) : YR P C l (.binOp .lss t x y yt) ty (.bool (Op.bytesLess (sb a) (sb b))) := R_str hx hy fun W => by simp [Op.stringOp, sb_eq]
theorem R_sle {t ty yt : TypeId} {x y : Operand} {a b : ByteArray} (hx : l.ev x = some (.string a)) (hy : l.ev y = some (.string b)) : YR P C l (.binOp .leq t x y yt) ty (.bool (Op.bytesLess (sb a) (sb b) || sb a == sb b)) := R_str hx hy fun W => by simp [Op.stringOp, sb_eq]
/-! ### Lengths, tuples -/
theorem R_len_slice {x : Operand} {t ty : TypeId} {A : Option Addr} {n c : Nat} {e : TypeId} (ht : P.underlying t = some (.slice e)) (hx : l.ev x = some (.slice A n c)) : YR P C l (.call ⟨.builtin .len, #[x], #[t]⟩) ty (.int .i64 n) := fun ρ W d pos aft g hρ _ => by
  simp [execOp, resolve, invoke, builtin, hρ x _ hx, Builtin.len_, run_underlying ht, goInt]
theorem R_len_string {x : Operand} {t ty : TypeId} {s : ByteArray} (ht : P.underlying t = some .string) (hx : l.ev x = some (.string s)) : YR P C l (.call ⟨.builtin .len, #[x], #[t]⟩) ty (.int .i64 s.size) := fun ρ W d pos aft g hρ _ => by
  simp [execOp, resolve, invoke, builtin, hρ x _ hx, Builtin.len_, run_underlying ht, goInt]
theorem R_cap_slice {x : Operand} {t ty : TypeId} {A : Option Addr} {n c : Nat} {e : TypeId} (ht : P.underlying t = some (.slice e)) (hx : l.ev x = some (.slice A n c)) : YR P C l (.call ⟨.builtin .cap, #[x], #[t]⟩) ty (.int .i64 c) := fun ρ W d pos aft g hρ _ => by
  simp [execOp, resolve, invoke, builtin, hρ x _ hx, Builtin.cap_, run_underlying ht, goInt]
theorem R_extract {x : Operand} {ty : TypeId} {vs : Array Value} {i : Nat} {v : Value} (hx : l.ev x = some (.tuple vs)) (hi : vs[i]? = some v) : YR P C l (.extract x i) ty v := fun ρ W d pos aft g hρ _ => by
  simp [execOp, hρ x _ hx, Instr.extract, hi]
theorem R_nilCheck {x : Operand} {ty : TypeId} {a : Addr} (hx : l.ev x = some (.pointer (some a))) : YR P C l (.nilCheck x) ty (.pointer (some a)) := fun ρ W d pos aft g hρ _ => by simp [execOp, hρ x _ hx]
/-! ### Addresses -/
/-- The place k cells behind an address. -/
def slotP (A : Option Addr) (k : Nat) : Value := .pointer (A.map fun a => a.add k)
theorem slotP_some (b o k : Nat) : slotP (some ⟨b, o, none⟩) k = .pointer (some ⟨b, o + k, none⟩) := by simp [slotP, Addr.add_mid]
/-- A type's size, bytes and zero. -/
def TI (P : Program) (t : TypeId) (size bytes : Nat) (z : Value) : Prop := (P.info? t).map (fun i => (i.size, i.bytes, i.zero)) = some (size, bytes, some z)
theorem TI.info {t : TypeId} {size bytes : Nat} {z : Value} (h : TI P t size bytes z) : ∃ i, P.info? t = some i ∧ i.size = size ∧ i.bytes = bytes ∧ i.zero = some z := by
  unfold TI at h
  cases hi : P.info? t with
  | none => simp [hi] at h
  | some i => simp [hi] at h; exact ⟨i, rfl, h.1, h.2.1, h.2.2⟩
theorem TI.sizeOf {t : TypeId} {size bytes : Nat} {z : Value} (h : TI P t size bytes z) (W : World) : (sizeOf t).run P W = .ok size W := by
  obtain ⟨i, hi, h1, _, _⟩ := h.info
  simp [Go.sizeOf, typeInfo, hi, h1]
theorem TI.size_ {t : TypeId} {size bytes : Nat} {z : Value} (h : TI P t size bytes z) : (P.info? t).map (·.size) = some size := by
  obtain ⟨i, hi, h1, _, _⟩ := h.info
  simp [hi, h1]
theorem R_field {s ty : TypeId} {x : Operand} {f b o size bytes : Nat} {z : Value} {fs : Array Field} {fd : Field} (hs : P.underlying s = some (.struct fs)) (hf : fs[f]? = some fd) (hi : TI P fd.type size bytes z) (h0 : size ≠ 0) (hx : l.ev x = some (.pointer (some ⟨b, o, none⟩))) :
    YR P C l (.fieldAddr s x f) ty (.pointer (some ⟨b, o + fd.offset, none⟩)) := fun ρ W d pos aft g hρ _ => by
  simp [execOp, hρ x _ hx, Instr.fieldAt, run_underlying hs, hf, Instr.sureAddr, fieldPlace, hi.sizeOf, h0, Addr.add_mid]
/-- Known cells behind a slice's address. -/
def RngIn (C : List Atom) (A : Option Addr) (cs : List Value) : Prop := ∀ W, Core C W → Rng W A cs
theorem R_fieldS {s ty : TypeId} {x : Operand} {f k size bytes : Nat} {z : Value} {A : Option Addr} {cs : List Value} {fs : Array Field} {fd : Field} (hs : P.underlying s = some (.struct fs)) (hf : fs[f]? = some fd) (hi : TI P fd.type size bytes z) (h0 : size ≠ 0) (hx : l.ev x = some (slotP A k)) (hr : RngIn C A cs) (hk : 0 < cs.length) :
    YR P C l (.fieldAddr s x f) ty (slotP A (k + fd.offset)) := fun ρ W d pos aft g hρ hC => by
  obtain ⟨b, o, rfl, _⟩ := (hr W hC).at_ (List.getElem?_eq_getElem hk)
  rw [slotP_some] at hx ⊢
  simp [execOp, hρ x _ hx, Instr.fieldAt, run_underlying hs, hf, Instr.sureAddr, fieldPlace, hi.sizeOf, h0, Addr.add_mid, Nat.add_assoc]
theorem R_indexA {t ty e : TypeId} {x y : Operand} {n b o size bytes : Nat} {z : Value} {k : IntKind} {i : Int} (ht : P.underlying t = some (.array n e)) (hi : TI P e size bytes z) (hx : l.ev x = some (.pointer (some ⟨b, o, none⟩))) (hy : l.ev y = some (.int k i)) (h0 : 0 ≤ i) (hn : i < n) :
    YR P C l (.indexAddr t x y) ty (.pointer (some ⟨b, o + i.toNat * size, none⟩)) := fun ρ W d pos aft g hρ _ => by
  simp [execOp, hρ x _ hx, hρ y _ hy, Instr.indexAt, asIntOf, run_underlying ht, Instr.sureAddr, hi.sizeOf, h0, hn, Addr.add_mid]
theorem R_indexS {t ty e : TypeId} {x y : Operand} {n c size bytes : Nat} {z : Value} {k : IntKind} {i : Int} {A : Option Addr} {cs : List Value} (ht : P.underlying t = some (.slice e)) (hi : TI P e size bytes z) (hx : l.ev x = some (.slice A n c)) (hy : l.ev y = some (.int k i)) (hr : RngIn C A cs) (h0 : 0 ≤ i) (hn : i < n) (hl : 0 < cs.length) :
    YR P C l (.indexAddr t x y) ty (slotP A (i.toNat * size)) := fun ρ W d pos aft g hρ hC => by
  obtain ⟨b, o, rfl, _⟩ := (hr W hC).at_ (List.getElem?_eq_getElem hl)
  rw [slotP_some]
  simp [execOp, hρ x _ hx, hρ y _ hy, Instr.indexAt, asIntOf, run_underlying ht, hi.sizeOf, h0, hn, Addr.add_mid]
/-! ### Loads -/
def TypeDesc.plain : TypeDesc → Bool
  | .struct _ | .array _ _ => false
  | _ => true
theorem run_load_plain {t : TypeId} {dd : TypeDesc} (ht : P.underlying t = some dd) (hd : TypeDesc.plain dd = true) {W : World} {a : Addr} {v : Value} (h : W.cell? a = some v) : (Instr.loadAt t (.pointer (some a))).run P W = .ok v W := by
  have : (isAgg t).run P W = .ok false W := by
    unfold isAgg
    rw [Sem.run_bind, run_underlying ht W]
    cases dd <;> simp_all [TypeDesc.plain]
  simp [Instr.loadAt, Instr.sureAddr, loadVar, this, load, Sem.run, h]
theorem R_load_blk {t ty bt : TypeId} {x : Operand} {gg o : Nat} {cs : List Value} {v : Value} {dd : TypeDesc} (ht : P.underlying t = some dd) (hd : TypeDesc.plain dd = true) (hx : l.ev x = some (.pointer (some ⟨gg, o, none⟩))) (hm : Atom.blk gg bt cs ∈ C) (hv : cs[o]? = some v) :
    YR P C l (.load t x) ty v := fun ρ W d pos aft g hρ hC => by
  have hb : Blk W gg bt cs.toArray := hC _ hm
  have hc : W.cell? ⟨gg, o, none⟩ = some v := by rw [hb.cell]; simpa using hv
  simp [execOp, hρ x _ hx, run_load_plain ht hd hc]
theorem R_loadA_blk {t ty bt : TypeId} {x : Operand} {gg o size bytes : Nat} {z : Value} {cs vs : List Value} {dd : TypeDesc} (ht : P.underlying t = some dd) (hd : dd.isRow = true) (hi : TI P t size bytes z) (hx : l.ev x = some (.pointer (some ⟨gg, o, none⟩))) (hm : Atom.blk gg bt cs ∈ C) (hv : (cs.drop o).take size = vs) (hl : vs.length = size) :
    YR P C l (.load t x) ty (.agg vs.toArray) := fun ρ W d pos aft g hρ hC => by
  have hb : Blk W gg bt cs.toArray := hC _ hm
  have hr : W.rangeAt gg o vs := by
    intro j v hj
    rw [hb.cell]
    have hj' : j < size := by have := (List.getElem?_eq_some_iff.1 hj).1; omega
    rw [← hv, List.getElem?_take_of_lt hj', List.getElem?_drop] at hj
    simpa using hj
  subst hl
  simp [execOp, hρ x _ hx, run_loadAt_mid W gg o t vs dd hr ht hd hi.size_]
theorem R_loadS {t ty : TypeId} {x : Operand} {A : Option Addr} {k : Nat} {cs : List Value} {v : Value} {dd : TypeDesc} (ht : P.underlying t = some dd) (hd : TypeDesc.plain dd = true) (hx : l.ev x = some (slotP A k)) (hr : RngIn C A cs) (hv : cs[k]? = some v) :
    YR P C l (.load t x) ty v := fun ρ W d pos aft g hρ hC => by
  obtain ⟨b, o, rfl, hc⟩ := (hr W hC).at_ hv
  rw [slotP_some] at hx
  simp [execOp, hρ x _ hx, run_load_plain ht hd hc]
theorem R_loadAS {t ty : TypeId} {x : Operand} {A : Option Addr} {k size bytes : Nat} {z : Value} {cs vs : List Value} {dd : TypeDesc} (ht : P.underlying t = some dd) (hd : dd.isRow = true) (hi : TI P t size bytes z) (hx : l.ev x = some (slotP A k)) (hr : RngIn C A cs) (hv : (cs.drop k).take size = vs) (hl : vs.length = size) (h0 : 0 < size) :
    YR P C l (.load t x) ty (.agg vs.toArray) := fun ρ W d pos aft g hρ hC => by
  have hlt : k < cs.length := by
    subst hv; simp at hl; omega
  obtain ⟨b, o, rfl, _⟩ := (hr W hC).at_ (List.getElem?_eq_getElem hlt)
  have hr' : W.rangeAt b (o + k) vs := by
    intro j v hj
    have hj' : j < size := by have := (List.getElem?_eq_some_iff.1 hj).1; omega
    rw [← hv, List.getElem?_take_of_lt hj', List.getElem?_drop] at hj
    obtain ⟨b', o', e, hc⟩ := (hr W hC).at_ hj
    injection e with e; injection e with e1 e2; subst e1; subst e2
    rw [Nat.add_assoc]; exact hc
  rw [slotP_some] at hx
  subst hl
  simp [execOp, hρ x _ hx, run_loadAt_mid W b (o + k) t vs dd hr' ht hd hi.size_]
/-! ### What is known of cells -/
theorem RngIn.old {A : Option Addr} {cs : List Value} (h : Atom.old (rd A cs) ∈ C) : RngIn C A cs := fun W hC => hC _ h
theorem RngIn.new {A : Option Addr} {cs : List Value} (h : Atom.new (rd A cs) ∈ C) : RngIn C A cs := fun W hC => hC _ h
theorem RngIn.own {e : TypeId} {size n c : Nat} {A : Option Addr} {cs : List Value} (h : Atom.own e size (.slice A n c) n cs ∈ C) : RngIn C A cs := fun W hC => Rng.of_own (hC _ h)
theorem RngIn.blk {t : TypeId} {gg : Nat} {cs : List Value} (h : Atom.blk gg t cs ∈ C) : RngIn C (some ⟨gg, 0, none⟩) cs := fun W hC => by
  have hb : Blk W gg t cs.toArray := hC _ h
  have := Rng.of_blk hb 0 cs.length
  simpa using this
/-! ### Slices of slices -/
theorem R_sliceArr {t ty e : TypeId} {x : Operand} {n b o size bytes : Nat} {z : Value} (ht : P.underlying t = some (.array n e)) (hi : TI P e size bytes z) (hn : n ≠ 0) (hx : l.ev x = some (.pointer (some ⟨b, o, none⟩))) :
    YR P C l (.slice t x none none none) ty (.slice (some ⟨b, o, none⟩) n n) := fun ρ W d pos aft g hρ _ => by
  simp [execOp, hρ x _ hx, Instr.sliceAt, run_underlying ht, Instr.sureAddr, Instr.sliceBounds, hi.sizeOf, hn, Addr.add_mid]
theorem R_sliceArrH {t ty e : TypeId} {x y : Operand} {n b o size bytes : Nat} {z : Value} {k : IntKind} {h : Int} (ht : P.underlying t = some (.array n e)) (hi : TI P e size bytes z) (hn : n ≠ 0) (hx : l.ev x = some (.pointer (some ⟨b, o, none⟩))) (hy : l.ev y = some (.int k h)) (h0 : 0 ≤ h) (h1 : h ≤ n) :
    YR P C l (.slice t x none (some y) none) ty (.slice (some ⟨b, o, none⟩) h.toNat n) := fun ρ W d pos aft g hρ _ => by
  simp [execOp, hρ x _ hx, hρ y _ hy, Instr.sliceAt, run_underlying ht, Instr.sureAddr, Instr.sliceBounds, Instr.sliceBound, asIntOf, hi.sizeOf, hn, Addr.add_mid, h0, h1]
/-- The address of what is left of a slice behind k elements. -/
def cutA (A : Option Addr) (k cap size : Nat) : Option Addr := if cap = k then A else A.map fun a => a.add (k * size)
theorem R_slice {t ty e : TypeId} {x : Operand} {A : Option Addr} {n c size bytes : Nat} {z : Value} {lo hi : Option Operand} {a b : Int} (ht : P.underlying t = some (.slice e)) (hti : TI P e size bytes z) (hx : l.ev x = some (.slice A n c))
    (hlo : (match lo with | some y => ∃ k, l.ev y = some (.int k a) | none => a = 0)) (hhi : (match hi with | some y => ∃ k, l.ev y = some (.int k b) | none => b = n)) (h0 : 0 ≤ a) (h1 : a ≤ b) (h2 : b ≤ c) :
    YR P C l (.slice t x lo hi none) ty (.slice (cutA A a.toNat c size) (b.toNat - a.toNat) (c - a.toNat)) := fun ρ W d pos aft g hρ _ => by
  have hb0 : 0 ≤ b := by omega
  have hab : a ≤ (b.toNat : Int) := by omega
  cases lo with
  | none =>
    simp only at hlo
    subst hlo
    cases hi with
    | none =>
      simp only at hhi
      subst hhi
      simp [execOp, hρ x _ hx, Instr.sliceAt, Instr.slice, run_underlying ht, Instr.sliceBounds, hti.sizeOf, cutA]
    | some y =>
      obtain ⟨k, hy⟩ := hhi
      simp [execOp, hρ x _ hx, hρ y _ hy, Instr.sliceAt, Instr.slice, run_underlying ht, Instr.sliceBounds, Instr.sliceBound, asIntOf, hti.sizeOf, cutA, hb0, h2]
  | some y' =>
    obtain ⟨k', hy'⟩ := hlo
    cases hi with
    | none =>
      simp only at hhi
      subst hhi
      have hab : a ≤ (n : Int) := h1
      simp [execOp, hρ x _ hx, hρ y' _ hy', Instr.sliceAt, Instr.slice, run_underlying ht, Instr.sliceBounds, Instr.sliceBound, asIntOf, hti.sizeOf, cutA, h0, hab]
    | some y =>
      obtain ⟨k, hy⟩ := hhi
      simp [execOp, hρ x _ hx, hρ y _ hy, hρ y' _ hy', Instr.sliceAt, Instr.slice, run_underlying ht, Instr.sliceBounds, Instr.sliceBound, asIntOf, hti.sizeOf, cutA, hb0, h2, h0, hab]
      intro hlt; omega
/-! ### Bytes as a string -/
theorem R_string {s t ty : TypeId} {x : Operand} {A : Option Addr} {n c : Nat} {b : Bs} {e : TypeId} (hs : P.underlying s = some (.slice e)) (ht : P.underlying t = some .string) (he : P.underlying e = some (.int .u8)) (hx : l.ev x = some (.slice A n c)) (hn : b.length = n) (hr : RngIn C A (bcs b)) :
    YR P C l (.convert s t x) ty (.string ⟨b.toArray⟩) := fun ρ W d pos aft g hρ hC => by
  have hR := hr W hC
  have key : (convert s t (.slice A n c)).run P W = .ok (.string ⟨b.toArray⟩) W := by
    rcases A with _ | ad
    · rcases hR with h | ⟨b', o, e, _⟩
      · have : b = [] := by simpa [bcs] using h
        subst this
        exact run_convert_bytes_nil W s e hs he n c t ht
      · cases e
    · subst hn
      refine run_convert_bytes_back W s t e ad c b hs he ht (fun j hj => ?_)
      obtain ⟨b', o, e, hc⟩ := hR.at_ (k := j) (v := .int .u8 (b[j].toNat : Int)) (by simp [bcs, bc, List.getElem?_eq_getElem hj])
      injection e with e; subst e
      rw [Addr.add_mid]; exact hc
  simp only [execOp, hρ x _ hx, Sem.run_bind, key, Result.andThen_ok, Sem.run_pure]
end
end Go.Proofs.Ytkckakfkeooepaa
