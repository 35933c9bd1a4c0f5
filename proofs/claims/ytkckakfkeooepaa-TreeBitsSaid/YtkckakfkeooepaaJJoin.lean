/- From a law's walk to its row: arguments opened, arguments that read as before. -/
import Derived.Test.YtkckakfkeooepaaRows
import Derived.Test.YtkckakfkeooepaaJFn
import Derived.Test.YtkckakfkeooepaaJBase
import Derived.ProofKit
import Derived.OpenShut
namespace Go.Proofs.Ytkckakfkeooepaa
set_option linter.all false
set_option linter.unusedSimpArgs false
set_option linter.unusedVariables false
set_option linter.unnecessarySimpa false
open Go.ChangeShapes Go.WideShapes Go.ChangeAt Go.RowKit
theorem jown : ownKnob Try.prog.godebug = none := by kernel_rfl
theorem jlaid : laidOutB Try.prog = true := by kernel_rfl
section
variable {H : Type} {enc : TypeId × Value → H} {P : Program}
theorem Below.trodAll (hl : laidOutB P = true) {W W' : World} (hb : Below W.heap.size W W') : ∀ {ts : List TypeId} {vs : List Value} {ds : List (DataW H)} {ps : List MemPlace}, (ts.all fun t => P.readableRec t && decide (t < P.types.size)) = true → DataW.TrodAll enc P W 0 (fun _ => true) true ts vs ds ps → (∀ x ∈ ps, x.block < W.heap.size) →
    DataW.TrodAll enc P W' 0 (fun b => decide (b < W.heap.size)) true ts vs ds ps
  | [], [], [], _, _, h, _ => h
  | t :: ts, v :: vs, d :: ds, ps, hr, h, hlt => by
    obtain ⟨p, q, h1, h2, rfl⟩ := h
    simp only [List.all_cons, Bool.and_eq_true, decide_eq_true_eq] at hr
    exact ⟨p, q, Below.trod hl hr.1.1 hr.1.2 h1 hb (fun x hx => hlt x (List.mem_append_left _ hx)), Below.trodAll hl hb hr.2 h2 (fun x hx => hlt x (List.mem_append_right _ hx)), rfl⟩
  | [], _ :: _, _, _, _, h, _ => by simp [DataW.TrodAll] at h
  | [], [], _ :: _, _, _, h, _ => by simp [DataW.TrodAll] at h
  | _ :: _, [], _, _, _, h, _ => by simp [DataW.TrodAll] at h
  | _ :: _, _ :: _, [], _, _, h, _ => by simp [DataW.TrodAll] at h
/-- A law's post: true, and the arguments as they were. -/
theorem law_post {f : Func} {s : ChangeSpec} {W W' : World} {args : Array Value} {ds gs : List (DataW H)} {p q : List MemPlace} {tb : TypeId} (hl : laidOutB P = true) (ht : P.underlying tb = some .bool) (hrt : f.resultTypes = #[tb]) (hpr : (f.params.toList.all fun t => P.readableRec t && decide (t < P.types.size)) = true) (hv : s.vars = []) (hq : gs = [] ∧ q = [])
    (hW : DataW.Whole enc P f.params.toList s.vars false W args.toList ds gs (p ++ q)) (hA : DataW.TrodAll enc P W 0 (fun _ => true) true f.params.toList args.toList ds p) (hs : s.fn H (ds ++ gs) = { results := [.lit (.bool true)], args := ds }) (hb : Below W.heap.size W W') :
    s.post enc P f false true false false W args (.bool true) W' := by
  obtain ⟨rfl, rfl⟩ := hq
  refine ⟨ds, [], p ++ [], [], p, [], hW, ?_, ?_, ?_, hb.frame _, fun h => by cases h⟩
  · rw [hs, hrt]
    exact trodAll_mk1 (shut_bool ht _)
  · rw [hs]
    exact Below.trodAll hl hb hpr hA (fun x hx => by have := hW.lt x (by simpa using hx); exact this)
  · rw [hv, hs]; trivial
theorem hash_of_cells {cs : List Value} (hl : cs.length = 32) (h : ∀ i < 32, ∃ n : Int, cs[i]? = some (.int .u8 n) ∧ 0 ≤ n ∧ n < 256) : ∃ x : Hash, cs = hL x := by
  refine ⟨⟨cs.map fun v => match v with | .int _ n => UInt8.ofNat n.toNat | _ => 0, by simp [hl]⟩, ?_⟩
  apply List.ext_getElem (by simp [hl])
  intro i h1 h2
  obtain ⟨n, e, h3, h4⟩ := h i (by omega)
  rw [List.getElem?_eq_getElem h1] at e
  injection e with e
  simp only [hL, bcs, List.getElem_map, e, bc]
  congr 1
  simp
  omega
theorem hash_of_trod {W : World} {base : Nat} {spare : Nat → Bool} {held : Bool} {fuel : Nat} {t e : TypeId} {cs : List Value} {x : DataW H × List MemPlace} (ht : P.underlying t = some (.array 32 e)) (he : P.underlying e = some (.int .u8)) (hce : P.cellsOf e = 1) (hct : P.cellsOf t = 32) (h : DataW.trod enc P W base spare held fuel t cs = some x) : ∃ y : Hash, cs = hL y := by
  obtain ⟨xs, m, _, _, hlen, hl, hel⟩ := DataW.trod_array ht h
  rw [hct] at hlen
  refine hash_of_cells hlen fun i hi => ?_
  have hE := hel i hi
  rw [hce, Nat.mul_one, List.getElem?_eq_getElem (by omega)] at hE
  obtain ⟨n, e1, _, e3⟩ := DataW.trod_int he hE
  have hb := bounds_u8 e3
  refine ⟨n, ?_, by omega, by omega⟩
  have : ((cs.drop i).take 1)[0]? = some (.int .u8 n) := by rw [e1]; rfl
  simpa using this
theorem open_hash {W : World} {base b0 : Nat} {spare : Nat → Bool} {held : Bool} {t e : TypeId} {v : Value} {d : DataW H} {ps : List MemPlace} (ht : P.underlying t = some (.array 32 e)) (he : P.underlying e = some (.int .u8)) (hce : P.cellsOf e = 1) (hct : P.cellsOf t = 32) (hv : Value.okWide P W .any b0 t v) (h : DataW.Trod enc P W base spare held t v d ps) : ∃ y : Hash, v = .agg (hL y).toArray := by
  unfold Value.okWide at hv
  rw [ht] at hv
  obtain ⟨cs, rfl, _, _⟩ := hv
  obtain ⟨fuel, h⟩ := h
  obtain ⟨y, hy⟩ := hash_of_trod ht he hce hct h
  refine ⟨y, ?_⟩
  have : cs.toList = hL y := hy
  rw [← this, Array.toArray_toList]
/-- A call by its contract, from no words at all. -/
theorem CT.calls {f : FuncId} {args : List Value} {facts : List (World → Prop)} {v : Value} (h : CT P f args [] facts (fun u N => u = v ∧ N = [])) (W : World) (hφ : ∀ φ ∈ facts, Stable [] 0 [] W φ) : Calls P f args.toArray W fun e W' => e = .returned v ∧ Below W.heap.size W W' :=
  (h W (Mem.empty W) hφ).mono fun e W' he => by
    obtain ⟨u, N, rfl, ⟨rfl, rfl⟩, hM, _⟩ := he
    exact ⟨rfl, hM.past.below⟩
end
end Go.Proofs.Ytkckakfkeooepaa
