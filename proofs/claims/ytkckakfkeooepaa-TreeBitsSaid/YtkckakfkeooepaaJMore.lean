/- More rules: rows turned in place, function values, functions without a body, words in other words. -/
import Derived.Test.YtkckakfkeooepaaJData
import Derived.Laws.Externs
namespace Go.Proofs.Ytkckakfkeooepaa
set_option linter.all false
set_option linter.unusedSimpArgs false
set_option linter.unusedVariables false
set_option linter.unnecessarySimpa false
open Go.RowKit
section
variable {P : Program} {C L L1 : List Atom} {l : Fr} {ty : TypeId}
theorem E_storeEl {α : Type} {enc : α → List Value} {t e : TypeId} {x y : Operand} {A : Option Addr} {n c i size bytes : Nat} {z : Value} {xs : List α} {v : α} (he : ∀ a, (enc a).length = size) (h1 : ∀ a, ones1 (enc a)) (hti : TI P t size bytes z) (hx : l.ev x = some (slotP A (i * size))) (hy : l.ev y = some (.agg (enc v).toArray)) (hp : Pick (.own e size (.slice A n c) n (fl enc xs)) L L1) (h0 : 0 < size) (hi : i < xs.length) :
    YE P l L (.store t x y) ty (fun u L' => u = undef ∧ L' = .own e size (.slice A n c) n (fl enc (xs.set i v)) :: L1) := by
  have hle : i * size + size ≤ xs.length * size := by rw [← Nat.succ_mul]; exact Nat.mul_le_mul_right _ hi
  refine (E_storeS hti hx hy hp (by simpa [Value.cells] using he v) (by have := h1 v; unfold ones1 at this; simpa [Value.cells] using this) (by rw [fl_length he]; exact hle) (by rw [fl_length he]; omega)).imp fun u L' h => ⟨h.1, ?_⟩
  rw [h.2]
  have : (Value.agg (enc v).toArray).cells.toList = enc v := rfl
  rw [this, fl_set he xs i v hi]
/-- A function without a body of its own. -/
def Ext (P : Program) (f : FuncId) (e : Array Value → Sem Value) : Prop := ∃ fn, P.funcs[f]? = some fn ∧ (fn.name == "runtime.NumGoroutine") = false ∧ fn.body.isNone = true ∧ Extern.findNext fn = none ∧ Extern.find fn = some e
theorem R_ext {f : FuncId} {e : Array Value → Sem Value} {xs : List Operand} {ts : Array TypeId} {vs : List Value} {v : Value} (hf : Ext P f e) (hx : evl l xs = some vs) (h : ∀ W, Core C W → (e vs.toArray).run P W = .ok v W) : YR P C l (.call ⟨.value (.func f), xs.toArray, ts⟩) ty v := fun ρ W d pos aft g hρ hC => by
  obtain ⟨fn, h1, h2, h3, h4, h5⟩ := hf
  have hm := evl_map hρ xs vs hx
  have hfv : ρ (.func f) = .func (.func f) #[] #[] := hρ (.func f) _ rfl
  simp only [execOp, resolve, hfv, Deferred.ofValue, invoke, Sem.run_bind, Sem.run_pure, Result.andThen_ok, List.map_toArray, hm, Array.append_empty, Array.empty_append, run_callFunc_extern h1 h2 h3 h4 h5, h W hC]
/-- A function value called. -/
theorem E_callF {f : FuncId} {fv : Operand} {xs : List Operand} {ts : Array TypeId} {vs caps ws : List Value} {pre : List Atom} {facts : List (World → Prop)} {post : Value → List Atom → Prop} (hf : Fun P f) (hv : l.ev fv = some (.func (.func f) #[] caps.toArray)) (hx : evl l xs = some vs) (hw : vs ++ caps = ws) (hp : Picks pre L L1) (hpre : ∀ x ∈ pre, x.mine = true) (hφ : ∀ φ ∈ facts, Ent pre L1 φ)
    (hc : CT P f ws pre facts post) : YE P l L (.call ⟨.value fv, xs.toArray, ts⟩) ty (fun v L' => ∃ N, post v N ∧ L' = N ++ L1) :=
  fun a W w0 G d pos aft g K Q hρ hM hK => by
    have hM1 := hM.picks hp
    have h := hc W (hM1.start hpre) (fun φ hm => hφ φ hm w0 G W hM1)
    have hrun : (execOp a.eval ⟨d, .call ⟨.value fv, xs.toArray, ts⟩, ty, pos, aft, g⟩).run P W = .ok (.enter f ws.toArray) W := by
      have hm := evl_map hρ xs vs hx
      simp only [execOp, resolve, hρ fv _ hv, Deferred.ofValue, invoke, Sem.run_bind, Sem.run_pure, Result.andThen_ok, List.map_toArray, hm, run_callFunc hf, Array.empty_append, List.append_toArray, List.nil_append, hw]
    unfold Oper.wp
    rw [hrun]
    refine h.mono fun e W' he => ?_
    obtain ⟨v, N, rfl, hpost, hM', hfresh⟩ := he
    exact hK v (N ++ L1) W' ⟨N, hpost, rfl⟩ (hM1.call hM' hfresh)
theorem E_callFV {f : FuncId} {fv : Operand} {xs : List Operand} {ts : Array TypeId} {vs caps ws : List Value} {facts : List (World → Prop)} {v : Value} (hf : Fun P f) (hv : l.ev fv = some (.func (.func f) #[] caps.toArray)) (hx : evl l xs = some vs) (hw : vs ++ caps = ws) (hφ : ∀ φ ∈ facts, Ent [] L φ) (hc : CT P f ws [] facts (pV v)) : YE P l L (.call ⟨.value fv, xs.toArray, ts⟩) ty (fun u L' => u = v ∧ L' = L) :=
  (E_callF hf hv hx hw (Picks.nil L) (fun _ h => by cases h) hφ hc).imp fun u L' h => by
    obtain ⟨N, ⟨h1, h2⟩, h3⟩ := h
    subst h2
    exact ⟨h1, h3⟩
/-- A call that turns one word, by a relation. -/
def pT (R : Atom → Prop) : Value → List Atom → Prop := fun v N => v = .tuple #[] ∧ ∃ x, R x ∧ N = [x]
theorem E_callT {f : FuncId} {xs : List Operand} {ts : Array TypeId} {vs : List Value} {facts : List (World → Prop)} {x : Atom} {R : Atom → Prop} (hf : Fun P f) (hx : evl l xs = some vs) (hp : Pick x L L1) (hm : x.mine = true) (hφ : ∀ φ ∈ facts, Ent [x] L1 φ) (hc : CT P f vs [x] facts (pT R)) : YE P l L (.call ⟨.value (.func f), xs.toArray, ts⟩) ty (fun u L' => ∃ y, R y ∧ u = .tuple #[] ∧ L' = y :: L1) :=
  (E_call hf hc hx (.cons hp (.nil _)) (fun y hy => by rw [List.mem_singleton] at hy; rw [hy]; exact hm) hφ).imp fun u L' h => by
    obtain ⟨N, ⟨h1, y, h2, h3⟩, h4⟩ := h
    subst h3
    exact ⟨y, h2, h1, h4⟩
theorem R_makeFunc {f : FuncId} {caps : List Operand} {vs : List Value} (hx : evl l caps = some vs) : YR P C l (.makeFunc (.func f) #[] caps.toArray) ty (.func (.func f) #[] vs.toArray) := fun ρ W d pos aft g hρ _ => by
  have hm := evl_map hρ caps vs hx
  simp [execOp, Instr.makeFunc, hm]
end
section
variable {c : Cx} {Q : Post} {l : Fr} {L L1 C : List Atom} {ops : Array Oper} {rest : List Oper}
/-! ### A word in other words -/
theorem JL_conv {x y : Atom} (hp : Pick x L L1) (e : x = y) (h : JL c ops Q rest l (y :: L1)) : JL c ops Q rest l L := fun a W ha hM => h a W ha (e ▸ hM.pick hp)
theorem JC_conv {k : Code} {x y : Atom} (hp : Pick x L L1) (e : x = y) (h : JC c k Q l (y :: L1)) : JC c k Q l L := fun a W ha hM => h a W ha (e ▸ hM.pick hp)
theorem JQ_conv {e' : Exit} {x y : Atom} (hp : Pick x L L1) (e : x = y) (h : JQ c Q e' l (y :: L1)) : JQ c Q e' l L := fun a W ha hM => h a W ha (e ▸ hM.pick hp)
/-- A fact more, out of one that is there. -/
theorem Mem.more {w0 w : World} {G : List Nat} {φ ψ : World → Prop} (h : Mem w0 G L w) (hm : Atom.old φ ∈ L) (hi : ∀ w, φ w → ψ w) : Mem w0 G (.old ψ :: L) w := h.fact (Stable.imp (h.ok _ hm) hi)
theorem Mem.more' {w0 w : World} {G : List Nat} {φ ψ : World → Prop} (h : Mem w0 G L w) (hm : Atom.new φ ∈ L) (hi : ∀ w, φ w → ψ w) : Mem w0 G (.new ψ :: L) w := by
  refine ⟨h.past, fun x hx => ?_, h.low, h.nodup⟩
  rcases List.mem_cons.1 hx with rfl | hx
  · exact Stable.imp (h.ok _ hm) hi
  · exact h.ok x hx
theorem JC_more {k : Code} {φ ψ : World → Prop} (hm : Atom.old φ ∈ L) (hi : ∀ w, φ w → ψ w) (h : JC c k Q l (.old ψ :: L)) : JC c k Q l L := fun a W ha hM => h a W ha (hM.more hm hi)
theorem JC_more' {k : Code} {φ ψ : World → Prop} (hm : Atom.new φ ∈ L) (hi : ∀ w, φ w → ψ w) (h : JC c k Q l (.new ψ :: L)) : JC c k Q l L := fun a W ha hM => h a W ha (hM.more' hm hi)
theorem JL_freeze {y : Atom} {φ : World → Prop} (hp : Pick y L L1) (hφ : ∀ w0 G w, Mem w0 G (y :: L1) w → Mem w0 G (.new φ :: L1) w) (h : JL c ops Q rest l (.new φ :: L1)) : JL c ops Q rest l L := fun a W ha hM => h a W ha (hφ _ _ _ (hM.pick hp))
theorem JQ_freeze {e' : Exit} {y : Atom} {φ : World → Prop} (hp : Pick y L L1) (hφ : ∀ w0 G w, Mem w0 G (y :: L1) w → Mem w0 G (.new φ :: L1) w) (h : JQ c Q e' l (.new φ :: L1)) : JQ c Q e' l L := fun a W ha hM => h a W ha (hφ _ _ _ (hM.pick hp))
end
end Go.Proofs.Ytkckakfkeooepaa
