/- Equality of values of plain types. -/
import Derived.Test.YtkckakfkeooepaaJElem
import Derived.Stop.BytesEq
namespace Go.Proofs.Ytkckakfkeooepaa
set_option linter.all false
set_option linter.unusedSimpArgs false
set_option linter.unusedVariables false
set_option linter.unnecessarySimpa false
open Go.RowKit
section
variable {P : Program}
/-- Two values of a type are compared, the answer being b. -/
def EqV (P : Program) (t : TypeId) (D : Nat) (v u : Value) (b : Bool) : Prop := ∀ (d : Nat) (w : World), D ≤ d → (Op.equalIn d t v u).run P w = .ok b w
theorem EqV.eq {t : TypeId} {D : Nat} {v u : Value} {b b' : Bool} (h : EqV P t D v u b) (e : b = b') : EqV P t D v u b' := e ▸ h
theorem EqV_int {t : TypeId} {k k' : IntKind} {a b : Int} (ht : P.underlying t = some (.int k')) : EqV P t 1 (.int k a) (.int k b) (decide (a = b)) := fun d w hd => by
  obtain ⟨d, rfl⟩ : ∃ e, d = e + 1 := ⟨d - 1, by omega⟩
  rw [run_equalIn_int w d t k k' a b ht]
  rfl
theorem EqV_str {t : TypeId} {a b : ByteArray} (ht : P.underlying t = some .string) : EqV P t 1 (.string a) (.string b) (sb a == sb b) := fun d w hd => by
  obtain ⟨d, rfl⟩ : ∃ e, d = e + 1 := ⟨d - 1, by omega⟩
  rw [run_equalIn_string w d t a b ht, sb_eq, sb_eq]
theorem EqV_bool {t : TypeId} {a b : Bool} (ht : P.underlying t = some .bool) : EqV P t 1 (.bool a) (.bool b) (a == b) := fun d w hd => by
  obtain ⟨d, rfl⟩ : ∃ e, d = e + 1 := ⟨d - 1, by omega⟩
  rw [run_equalIn_bool' w d t a b ht]
theorem EqV_hash {t e : TypeId} {bytes : Nat} {z : Value} {a b : Hash} (ht : P.underlying t = some (.array 32 e)) (he : P.underlying e = some (.int .u8)) (hti : TI P e 1 bytes z) : EqV P t 2 (.agg (hL a).toArray) (.agg (hL b).toArray) (decide (a = b)) := fun d w hd => by
  obtain ⟨d, rfl⟩ : ∃ e, d = e + 2 := ⟨d - 2, by omega⟩
  have := run_equalIn_bytes w d t e 32 ht he (fun w => hti.sizeOf w) a.l b.l a.h b.h
  have e : (a.l == b.l) = decide (a = b) := by
    rw [Bool.eq_iff_iff]
    simp
    exact ⟨fun h => Hash.ext' h, fun h => by rw [h]⟩
  rw [e] at this
  exact this
theorem part_row {t : TypeId} {ps : List (List Value)} {k o size bytes : Nat} {z : Value} {vs : List Value} {dd : TypeDesc} (ht : P.underlying t = some dd) (hd : dd.isRow = true) (hti : TI P t size bytes z) (hv : ps[k]? = some vs) (ho : offP ps k = o) (hl : vs.length = size) (w : World) : (part t (pl ps).toArray o).run P w = .ok (.agg vs.toArray) w := by
  have hagg : (isAgg t).run P w = .ok true w := by
    unfold isAgg
    rw [Sem.run_bind, run_underlying ht w]
    cases dd <;> simp_all
  have hs := seg_of_part hv ho hl
  simp only [part, Sem.run_bind, hagg, Result.andThen_ok, if_true, hti.sizeOf, Sem.run_pure]
  congr 2
  rw [List.extract_toArray, List.extract_eq_take_drop]
  congr 1
  rw [← hs]
  congr 1
  omega
theorem part_plain {t : TypeId} {ps : List (List Value)} {k o : Nat} {v : Value} {dd : TypeDesc} (ht : P.underlying t = some dd) (hd : TypeDesc.plain dd = true) (hv : ps[k]? = some [v]) (ho : offP ps k = o) (w : World) : (part t (pl ps).toArray o).run P w = .ok v w := by
  have hagg : (isAgg t).run P w = .ok false w := by
    unfold isAgg
    rw [Sem.run_bind, run_underlying ht w]
    cases dd <;> simp_all [TypeDesc.plain]
  have hc := pl_cell ps k v hv
  rw [ho] at hc
  simp [part, hagg, hc]
/-- Fields compared one after another. -/
def EqF (P : Program) (D : Nat) (xs ys : List Value) (fs : List Field) (b : Bool) : Prop := ∀ (d : Nat) (w : World), D ≤ d → (Op.eqFields d xs.toArray ys.toArray fs).run P w = .ok b w
theorem EqF_nil {D : Nat} {xs ys : List Value} : EqF P D xs ys [] true := fun d w _ => by simp [Op.eqFields]
theorem EqF_cons {D : Nat} {xs ys : List Value} {f : Field} {fs : List Field} {v u : Value} {b b' : Bool} (hn : (f.name != "_") = true) (hx : ∀ w, (part f.type xs.toArray f.offset).run P w = .ok v w) (hy : ∀ w, (part f.type ys.toArray f.offset).run P w = .ok u w) (h : EqV P f.type D v u b) (hs : EqF P D xs ys fs b') : EqF P D xs ys (f :: fs) (b && b') := fun d w hd => by
  have hn' : f.name ≠ "_" := by simpa using hn
  simp only [Op.eqFields, hn', ne_eq, not_false_eq_true, if_true, Sem.run_bind, hx, hy, h d w hd, Result.andThen_ok]
  cases b
  · simp
  · simpa using hs d w hd
theorem EqV_struct {t : TypeId} {fs : List Field} {D : Nat} {xs ys : List Value} {b : Bool} (ht : P.underlying t = some (.struct fs.toArray)) (hp : P.stoodInHeld t = false) (h : EqF P D xs ys fs b) : EqV P t (D + 1) (.agg xs.toArray) (.agg ys.toArray) b := fun d w hd => by
  obtain ⟨d, rfl⟩ : ∃ e, d = e + 1 := ⟨d - 1, by omega⟩
  have hf : P.fieldsOf t = fs.toArray := by unfold Program.fieldsOf; rw [ht]
  rw [run_equalIn_struct w d t _ _ (by rw [hf]; exact ht) hp, hf]
  exact h d w (by omega)
theorem EqV.mono {t : TypeId} {D D' : Nat} {v u : Value} {b : Bool} (h : EqV P t D v u b) (hD : D ≤ D') : EqV P t D' v u b := fun d w hd => h d w (by omega)
section
variable {C : List Atom} {l : Fr} {t ty yt : TypeId} {x y : Operand}
theorem R_eqV {D : Nat} {xs ys : Array Value} {b : Bool} (hx : l.ev x = some (.agg xs)) (hy : l.ev y = some (.agg ys)) (h : EqV P t D (.agg xs) (.agg ys) b) (hm : P.eqGuardType P.depth t = false) (hD : Nat.ble D 10000 = true) : YR P C l (.binOp .eql t x y yt) ty (.bool b) := fun ρ W d pos aft g hρ _ => by
  have h1 := run_eqGuard_agg W .eql t x y xs ys hm
  have h2 : (binOp .eql t (.agg xs) (.agg ys)).run P W = .ok (.bool b) W := by rw [run_eql_struct, h 10000 W (by simpa using hD)]; rfl
  simp [execOp, hρ x _ hx, hρ y _ hy, h1, h2]
theorem R_neV {D : Nat} {xs ys : Array Value} {b : Bool} (hx : l.ev x = some (.agg xs)) (hy : l.ev y = some (.agg ys)) (h : EqV P t D (.agg xs) (.agg ys) b) (hm : P.eqGuardType P.depth t = false) (hD : Nat.ble D 10000 = true) : YR P C l (.binOp .neq t x y yt) ty (.bool (!b)) := fun ρ W d pos aft g hρ _ => by
  have h1 := run_eqGuard_agg W .neq t x y xs ys hm
  have h2 : (binOp .neq t (.agg xs) (.agg ys)).run P W = .ok (.bool (!b)) W := by rw [run_neq_struct, h 10000 W (by simpa using hD)]; rfl
  simp [execOp, hρ x _ hx, hρ y _ hy, h1, h2]
end
end
end Go.Proofs.Ytkckakfkeooepaa
