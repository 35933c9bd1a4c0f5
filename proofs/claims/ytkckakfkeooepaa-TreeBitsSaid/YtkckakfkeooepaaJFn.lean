/- Into a function and out of it. -/
import Derived.Test.YtkckakfkeooepaaJDraw
namespace Go.Proofs.Ytkckakfkeooepaa
set_option linter.all false
set_option linter.unusedSimpArgs false
set_option linter.unusedVariables false
set_option linter.unnecessarySimpa false
open Go.RowKit
/-- Arguments lie in the first slots. -/
def argFr : Nat → List Value → Fr
  | _, [] => []
  | i, v :: vs => (i, v) :: argFr (i + 1) vs
theorem argFr_get : ∀ (vs : List Value) (i k : Nat) (v : Value), (argFr i vs).get k = some v → i ≤ k ∧ vs[k - i]? = some v
  | [], _, _, _, h => by simp [argFr, Fr.get] at h
  | u :: vs, i, k, v, h => by
    simp only [argFr, Fr.get] at h
    cases hb : Nat.beq i k with
    | true =>
      rw [hb] at h
      obtain rfl := Nat.eq_of_beq_eq_true hb
      simpa using h
    | false =>
      rw [hb] at h
      obtain ⟨h1, h2⟩ := argFr_get vs (i + 1) k v h
      refine ⟨by omega, ?_⟩
      rw [show k - i = (k - (i + 1)) + 1 by omega, List.getElem?_cons_succ]
      exact h2
/-- What a function is to show at its end. -/
def Ret (P : Program) (fn : Func) (w0 : World) (G : List Nat) (post : Value → List Atom → Prop) : Post :=
  bodyPost P fn fun e W' => ∃ v N, e = .returned v ∧ post v N ∧ Mem w0 G N W' ∧ ∀ x ∈ N, x.fresh = true
theorem Ret.noP {P : Program} {fn : Func} {w0 : World} {G : List Nat} {post : Value → List Atom → Prop} : NoP (Ret P fn w0 G post) := fun ch a a' w h => by
  obtain ⟨_, _, _, h, _⟩ := h
  cases h
theorem NoP.then {Q : Post} {K : Act → World → Prop} (h : NoP Q) : NoP (Exit.then K Q) := fun ch a a' w hq => h ch a a' w hq
theorem NoP.block {Q : Post} {id : Nat} (h : NoP Q) : NoP (Exit.inBlock id Q) := fun ch a a' w hq => h ch a a' w hq
theorem CT_of {P : Program} {f : FuncId} {fn : Func} {x : Code} {n : Nat} {args : List Value} {pre : List Atom} {facts : List (World → Prop)} {post : Value → List Atom → Prop} (hf : P.funcs[f]? = some fn) (hb : fn.body = some x) (hn : fn.ntmps = n) (ha : Nat.ble args.length n = true)
    (h : ∀ w0, JC ⟨P, n, w0, blocks pre⟩ x (Ret P fn w0 (blocks pre) post) (argFr 0 args) (facts.map Atom.old ++ pre)) : CT P f args pre facts post := by
  intro W hM hφ
  have ha' : args.length ≤ n := by simpa using ha
  refine calls_of_wp hf hb (h W _ W ⟨?_, rfl, fun k v hk => ?_⟩ ?_)
  · simp [hn]; omega
  · obtain ⟨_, h2⟩ := argFr_get args 0 k v hk
    have hlt := (List.getElem?_eq_some_iff.1 h2).1
    simp only [Nat.sub_zero] at h2 hlt
    rw [Array.getElem?_append_left (by simpa using hlt)]
    simpa using h2
  · clear h
    induction facts with
    | nil => exact hM
    | cons φ fs ih =>
      have h1 := ih (fun ψ hψ => hφ ψ (List.mem_cons_of_mem _ hψ))
      refine h1.fact ((hφ φ List.mem_cons_self).mono (fun b hb => ?_) (fun _ h => h))
      rw [blocks_append] at hb
      rcases List.mem_append.1 hb with hb | hb
      · exfalso
        clear ih h1 hφ
        have : ∀ fs : List (World → Prop), blocks (fs.map Atom.old) = [] := fun fs => by
          induction fs with
          | nil => rfl
          | cons ψ fs ih => rw [List.map_cons, blocks_cons, ih]; rfl
        rw [this] at hb
        cases hb
      · exact hb
/-! ### Results -/
/-- What a result is. -/
def RV (P : Program) (C : List Atom) (l : Fr) : ResultVar → Value → Prop
  | .tmp t, v => l.get t = some v
  | .cell t ty, v => ∃ a, l.get t = some (.pointer (some a)) ∧ ∀ W, Core C W → (loadVar ty a).run P W = .ok v W
theorem RV_tmp {P : Program} {C : List Atom} {l : Fr} {t : Nat} {v : Value} (h : l.get t = some v) : RV P C l (.tmp t) v := h
theorem RV_cell {P : Program} {C : List Atom} {l : Fr} {t : Nat} {ty bt : TypeId} {g size bytes : Nat} {z : Value} {vs : List Value} {dd : TypeDesc} (h : l.get t = some (.pointer (some ⟨g, 0, none⟩))) (ht : P.underlying ty = some dd) (hd : dd.isRow = true) (hi : TI P ty size bytes z) (hm : Atom.blk g bt vs ∈ C) (hl : vs.length = size) :
    RV P C l (.cell t ty) (.agg vs.toArray) := ⟨_, h, fun W hC => by
  have hb : Blk W g bt vs.toArray := hC _ hm
  subst hl
  refine run_loadVar_mid W g 0 ty vs dd (fun j v hj => ?_) ht hd hi.size_
  rw [hb.cell]; simpa using hj⟩
theorem RV_cell1 {P : Program} {C : List Atom} {l : Fr} {t : Nat} {ty bt : TypeId} {g : Nat} {v : Value} {vs : List Value} {dd : TypeDesc} (h : l.get t = some (.pointer (some ⟨g, 0, none⟩))) (ht : P.underlying ty = some dd) (hd : TypeDesc.plain dd = true) (hm : Atom.blk g bt vs ∈ C) (hl : vs[0]? = some v) :
    RV P C l (.cell t ty) v := ⟨_, h, fun W hC => by
  have hb : Blk W g bt vs.toArray := hC _ hm
  have hc : W.cell? ⟨g, 0, none⟩ = some v := by rw [hb.cell]; simpa using hl
  have := run_load_plain ht hd hc
  simpa [Instr.loadAt, Instr.sureAddr] using this⟩
def rvS (tmps : Array Value) (r : ResultVar) : Sem Value := match r with
  | .tmp t => pure (tmps.getD t undef)
  | .cell p t => do loadVar t (← asAddr (tmps.getD p undef))
theorem RV.run {P : Program} {C : List Atom} {l : Fr} {n : Nat} {a : Act} {W : World} {r : ResultVar} {v : Value} (h : RV P C l r v) (ha : Ag n a l) (hC : Core C W) : (rvS a.tmps r).run P W = .ok v W := by
  cases r with
  | tmp t => have := ha.get t v h; simp [rvS, this]
  | cell p ty =>
    obtain ⟨ad, h1, h2⟩ := h
    have := ha.get p _ h1
    simp [rvS, this, asAddr, h2 W hC]
theorem results_eq {fn : Func} {rs : List ResultVar} (h : fn.results = rs.toArray) (tmps : Array Value) : results fn tmps = (do let vs ← rs.toArray.mapM (rvS tmps); pure (if h : vs.size = 1 then vs[0] else Value.tuple vs)) := by
  rw [← h]; rfl
section
variable {P : Program} {fn : Func} {n : Nat} {w0 : World} {G : List Nat} {l : Fr} {L : List Atom} {post : Value → List Atom → Prop}
theorem ret_any {v : Value} {N R : List Atom} (hr : ∀ a W, Ag n a l → Core L W → (results fn a.tmps).run P W = .ok v W) (hp : post v N) (hs : Picks N L R) (hf : (N.all fun x => x.fresh) = true) : JQ ⟨P, n, w0, G⟩ (Ret P fn w0 G post) .ret l L :=
  fun a W ha hM => bodyPost_ret (hr a W ha hM.core) ha.defers ⟨v, N, rfl, hp, (hM.picks hs).drop, by simpa using hf⟩
theorem ret1 {r1 : ResultVar} {v : Value} {N R : List Atom} (hf : fn.results = #[r1]) (h1 : RV P L l r1 v) (hp : post v N) (hs : Picks N L R) (hfr : (N.all fun x => x.fresh) = true) : JQ ⟨P, n, w0, G⟩ (Ret P fn w0 G post) .ret l L :=
  ret_any (fun a W ha hC => by
    have e1 := h1.run ha hC
    rw [results_eq (rs := [r1]) hf]
    simp [e1]) hp hs hfr
theorem ret2 {r1 r2 : ResultVar} {v u : Value} {N R : List Atom} (hf : fn.results = #[r1, r2]) (h1 : RV P L l r1 v) (h2 : RV P L l r2 u) (hp : post (.tuple #[v, u]) N) (hs : Picks N L R) (hfr : (N.all fun x => x.fresh) = true) : JQ ⟨P, n, w0, G⟩ (Ret P fn w0 G post) .ret l L :=
  ret_any (fun a W ha hC => by
    have e1 := h1.run ha hC
    have e2 := h2.run ha hC
    rw [results_eq (rs := [r1, r2]) hf]
    simp [e1, e2]) hp hs hfr
theorem ret3 {r1 r2 r3 : ResultVar} {v u x : Value} {N R : List Atom} (hf : fn.results = #[r1, r2, r3]) (h1 : RV P L l r1 v) (h2 : RV P L l r2 u) (h3 : RV P L l r3 x) (hp : post (.tuple #[v, u, x]) N) (hs : Picks N L R) (hfr : (N.all fun x => x.fresh) = true) : JQ ⟨P, n, w0, G⟩ (Ret P fn w0 G post) .ret l L :=
  ret_any (fun a W ha hC => by
    have e1 := h1.run ha hC
    have e2 := h2.run ha hC
    have e3 := h3.run ha hC
    rw [results_eq (rs := [r1, r2, r3]) hf]
    simp [e1, e2, e3]) hp hs hfr
theorem ret0 {N R : List Atom} (hf : fn.results = #[]) (hp : post (.tuple #[]) N) (hs : Picks N L R) (hfr : (N.all fun x => x.fresh) = true) : JQ ⟨P, n, w0, G⟩ (Ret P fn w0 G post) .ret l L :=
  ret_any (fun a W ha hC => by simp [results, hf]) hp hs hfr
theorem end_of_ret (h : JQ ⟨P, n, w0, G⟩ (Ret P fn w0 G post) .ret l L) : JQ ⟨P, n, w0, G⟩ (Ret P fn w0 G post) .normal l L := h
/-! ### A word that stays -/
theorem JC_freeze {c : Cx} {Q : Post} {x : Code} {y : Atom} {L L1 : List Atom} {φ : World → Prop} (hp : Pick y L L1) (hφ : ∀ w0 G w, Mem w0 G (y :: L1) w → Mem w0 G (.new φ :: L1) w) (h : JC c x Q l (.new φ :: L1)) : JC c x Q l L := fun a W ha hM => h a W ha (hφ _ _ _ (hM.pick hp))
theorem freeze_own {e : TypeId} {size : Nat} {A : Option Addr} {n c : Nat} {xs : List Value} {L1 : List Atom} : ∀ w0 G w, Mem w0 G (.own e size (.slice A n c) n xs :: L1) w → Mem w0 G (.new (rd A xs) :: L1) w := fun w0 G w hM => hM.freeze fun M B G' hg hx => by
  have ho : w.ownsRow 0 e size (.slice A n c) n xs := hx
  intro w' hoff
  refine Rng.of_own (e := e) (size := size) (c := c) (n := n) ?_
  obtain ⟨h1, h2⟩ := ho
  refine ⟨h1, ?_⟩
  rcases h2 with h2 | ⟨g, cap, cur, hv, hg0, hh, r⟩
  · exact .inl h2
  · refine .inr ⟨g, cap, cur, hv, hg0, ?_, r⟩
    have hb : (Atom.own e size (.slice A n c) n xs).block = some g := by
      injection hv with hA
      subst hA; rfl
    obtain ⟨h3, h4, h5⟩ := hg g hb
    rw [hoff.2 g h4 h5 h3]; exact hh
theorem freeze_blk {g : Nat} {t : TypeId} {cs : List Value} {L1 : List Atom} : ∀ w0 G w, Mem w0 G (.blk g t cs :: L1) w → Mem w0 G (.new (rd (some ⟨g, 0, none⟩) cs) :: L1) w := fun w0 G w hM => hM.freeze fun M B G' hg hx => by
  have hb : Blk w g t cs.toArray := hx
  obtain ⟨h3, h4, h5⟩ := hg g rfl
  refine Stable.block g h5 h4 h3 fun w' hw => ?_
  have := Rng.of_blk (hw.trans hb : Blk w' g t cs.toArray) 0 cs.length
  rw [List.drop_zero, List.take_length] at this
  exact this
end
end Go.Proofs.Ytkckakfkeooepaa
