/- The reference's round. -/
import Derived.Test.YtkckakfkeooepaaRef2
import Derived.Test.YtkckakfkeooepaaSponge2
import Derived.Deep.RegionHeld3
import Derived.Test.YtkckakfkeooepaaGen
namespace Go.Proofs.Ytkckakfkeooepaa
set_option linter.all false
set_option linter.unusedSimpArgs false
set_option linter.unusedVariables false
set_option linter.unnecessarySimpa false
open Go.RowKit
/-- The three rows of a round: the state, the result, the turned words. -/
structure RR (w W : World) (x F : St) : Prop where
  s : Blk W w.heap.size 150 (stA x)
  r : Blk W (w.heap.size + 1) 150 (stA ⟨0, 0, 0, 0, 0⟩)
  t : Blk W (w.heap.size + 1 + 1) 150 (stA F)
  b : Below w.heap.size w W
theorem RR.step {w W : World} {x F : St} (h : RR w W x F) (n i : Nat) (u : Value) (x' : St) (hx : (stA x).setIfInBounds i u = stA x') : RR w ((W.drewN n).setCell ⟨w.heap.size, i, none⟩ u) x' F :=
  ⟨hx ▸ (h.s.drewN n).set_ i u, (h.r.drewN n).far (p := ⟨w.heap.size, i, none⟩) (by simp) u, (h.t.drewN n).far (p := ⟨w.heap.size, i, none⟩) (by show _ ≠ w.heap.size; omega) u, ((below_drewN h.b n).setCell (p := ⟨w.heap.size, i, none⟩) (Nat.le_refl _) u)⟩
attribute [local go_sem high] unary_notM
attribute [local go_sem] bits_xorM bits_andM
set_option maxRecDepth 100000 in
set_option maxHeartbeats 4000000 in
theorem rround_any (s : St) (k : Nat) (w : World) :
    Calls Try.prog 160 #[.agg (stA s), .int .u64 (k : Int)] w fun e w' => e = .returned (.agg (stA (roundN s k))) ∧ Below w.heap.size w w' := by
  unfold stA
  go_enter Try.func160, Try.ntmps160
  go_wp2
  generalize hA0 : xorM s.a s.e = A0
  generalize hA4 : xorM s.e s.d = A4
  generalize hA2 : xorM (xorM s.c k) s.b = A2
  have HA0 := Lib.hid hA0
  have HA2 := Lib.hid hA2
  have HA4 := Lib.hid hA4
  clear hA0 hA2 hA4
  refine wp_loop_rounds 6 ?_
  iterate 2 (rw [rounds_succ]; go_wp2; go_region; go_wp2)
  as_aux_lemma =>
  iterate 2 (rw [rounds_succ]; go_wp2; go_region; go_wp2)
  as_aux_lemma =>
  rw [rounds_succ]; go_wp2; go_region; go_wp2
  rw [rounds_succ]
  as_aux_lemma =>
  go_wp2
  as_aux_lemma =>
  generalize hF0 : xorM (xorM A0 (andM (notM s.b) A2)) (xorM A4 (andM (notM A0) s.b)) = F0
  generalize hF1 : xorM (xorM s.b (andM (notM A2) s.d)) (xorM A0 (andM (notM s.b) A2)) = F1
  generalize hF3 : xorM (xorM s.d (andM (notM A4) A0)) (xorM A2 (andM (notM s.d) A4)) = F3
  generalize hF2 : notM (xorM A2 (andM (notM s.d) A4)) = F2
  generalize hF4 : xorM A4 (andM (notM A0) s.b) = F4
  have HF0 := Lib.hid hF0
  have HF1 := Lib.hid hF1
  have HF2 := Lib.hid hF2
  have HF3 := Lib.hid hF3
  have HF4 := Lib.hid hF4
  clear hF0 hF1 hF2 hF3 hF4
  have c0 : ((((w.alloc (Obj.cells #[Value.int IntKind.u64 ↑A0, Value.int IntKind.u64 ↑s.b, Value.int IntKind.u64 ↑A2, Value.int IntKind.u64 ↑s.d, Value.int IntKind.u64 ↑A4] 150)).alloc (Obj.cells #[Value.int IntKind.u64 0, Value.int IntKind.u64 0, Value.int IntKind.u64 0, Value.int IntKind.u64 0, Value.int IntKind.u64 0] 150)).alloc (Obj.cells #[Value.int IntKind.u64 ↑F0, Value.int IntKind.u64 ↑F1, Value.int IntKind.u64 ↑F2, Value.int IntKind.u64 ↑F3, Value.int IntKind.u64 ↑F4] 150)).drew.drew.drew.drew.drew).heap[w.heap.size + 1 + 1]? = some (.cells #[Value.int IntKind.u64 ↑F0, Value.int IntKind.u64 ↑F1, Value.int IntKind.u64 ↑F2, Value.int IntKind.u64 ↑F3, Value.int IntKind.u64 ↑F4] 150 (0, 0)) := by
    have := heap_alloc_new ((w.alloc (Obj.cells #[Value.int IntKind.u64 ↑A0, Value.int IntKind.u64 ↑s.b, Value.int IntKind.u64 ↑A2, Value.int IntKind.u64 ↑s.d, Value.int IntKind.u64 ↑A4] 150)).alloc (Obj.cells #[Value.int IntKind.u64 0, Value.int IntKind.u64 0, Value.int IntKind.u64 0, Value.int IntKind.u64 0, Value.int IntKind.u64 0] 150)) (Obj.cells #[Value.int IntKind.u64 ↑F0, Value.int IntKind.u64 ↑F1, Value.int IntKind.u64 ↑F2, Value.int IntKind.u64 ↑F3, Value.int IntKind.u64 ↑F4] 150)
    rw [World.size_alloc, World.size_alloc] at this
    exact this
  have c1 : ((((w.alloc (Obj.cells #[Value.int IntKind.u64 ↑A0, Value.int IntKind.u64 ↑s.b, Value.int IntKind.u64 ↑A2, Value.int IntKind.u64 ↑s.d, Value.int IntKind.u64 ↑A4] 150)).alloc (Obj.cells #[Value.int IntKind.u64 0, Value.int IntKind.u64 0, Value.int IntKind.u64 0, Value.int IntKind.u64 0, Value.int IntKind.u64 0] 150)).alloc (Obj.cells #[Value.int IntKind.u64 ↑F0, Value.int IntKind.u64 ↑F1, Value.int IntKind.u64 ↑F2, Value.int IntKind.u64 ↑F3, Value.int IntKind.u64 ↑F4] 150)).drew.drew.drew.drew.drew).heap[w.heap.size]? = some (.cells #[Value.int IntKind.u64 ↑A0, Value.int IntKind.u64 ↑s.b, Value.int IntKind.u64 ↑A2, Value.int IntKind.u64 ↑s.d, Value.int IntKind.u64 ↑A4] 150 (0, 0)) := by
    have h1 := Blk.new w 150 #[Value.int IntKind.u64 ↑A0, Value.int IntKind.u64 ↑s.b, Value.int IntKind.u64 ↑A2, Value.int IntKind.u64 ↑s.d, Value.int IntKind.u64 ↑A4]
    exact (h1.alloc _).alloc _
  have c2 : ((((w.alloc (Obj.cells #[Value.int IntKind.u64 ↑A0, Value.int IntKind.u64 ↑s.b, Value.int IntKind.u64 ↑A2, Value.int IntKind.u64 ↑s.d, Value.int IntKind.u64 ↑A4] 150)).alloc (Obj.cells #[Value.int IntKind.u64 0, Value.int IntKind.u64 0, Value.int IntKind.u64 0, Value.int IntKind.u64 0, Value.int IntKind.u64 0] 150)).alloc (Obj.cells #[Value.int IntKind.u64 ↑F0, Value.int IntKind.u64 ↑F1, Value.int IntKind.u64 ↑F2, Value.int IntKind.u64 ↑F3, Value.int IntKind.u64 ↑F4] 150)).drew.drew.drew.drew.drew).heap[w.heap.size + 1]? = some (.cells #[Value.int IntKind.u64 0, Value.int IntKind.u64 0, Value.int IntKind.u64 0, Value.int IntKind.u64 0, Value.int IntKind.u64 0] 150 (0, 0)) := by
    have h1 := Blk.new (w.alloc (Obj.cells #[Value.int IntKind.u64 ↑A0, Value.int IntKind.u64 ↑s.b, Value.int IntKind.u64 ↑A2, Value.int IntKind.u64 ↑s.d, Value.int IntKind.u64 ↑A4] 150)) 150 #[Value.int IntKind.u64 0, Value.int IntKind.u64 0, Value.int IntKind.u64 0, Value.int IntKind.u64 0, Value.int IntKind.u64 0]
    rw [World.size_alloc] at h1
    exact h1.alloc _
  have cb : Below w.heap.size w ((((w.alloc (Obj.cells #[Value.int IntKind.u64 ↑A0, Value.int IntKind.u64 ↑s.b, Value.int IntKind.u64 ↑A2, Value.int IntKind.u64 ↑s.d, Value.int IntKind.u64 ↑A4] 150)).alloc (Obj.cells #[Value.int IntKind.u64 0, Value.int IntKind.u64 0, Value.int IntKind.u64 0, Value.int IntKind.u64 0, Value.int IntKind.u64 0] 150)).alloc (Obj.cells #[Value.int IntKind.u64 ↑F0, Value.int IntKind.u64 ↑F1, Value.int IntKind.u64 ↑F2, Value.int IntKind.u64 ↑F3, Value.int IntKind.u64 ↑F4] 150)).drew.drew.drew.drew.drew) := by
    refine ((((Below.drew ?_).drew).drew).drew).drew
    exact (((Below.refl _ _).alloc (Nat.le_refl _) _).alloc (by simp) _).alloc (by simp; omega) _
  generalize ((((w.alloc (Obj.cells #[Value.int IntKind.u64 ↑A0, Value.int IntKind.u64 ↑s.b, Value.int IntKind.u64 ↑A2, Value.int IntKind.u64 ↑s.d, Value.int IntKind.u64 ↑A4] 150)).alloc (Obj.cells #[Value.int IntKind.u64 0, Value.int IntKind.u64 0, Value.int IntKind.u64 0, Value.int IntKind.u64 0, Value.int IntKind.u64 0] 150)).alloc (Obj.cells #[Value.int IntKind.u64 ↑F0, Value.int IntKind.u64 ↑F1, Value.int IntKind.u64 ↑F2, Value.int IntKind.u64 ↑F3, Value.int IntKind.u64 ↑F4] 150)).drew.drew.drew.drew.drew) = W at *
  have hR : RR w W ⟨A0, s.b, A2, s.d, A4⟩ ⟨F0, F1, F2, F3, F4⟩ := ⟨c1, c2, c0, cb⟩
  clear c0 c1 c2 cb
  have f0 : W.cell? ⟨w.heap.size + 1 + 1, 0, none⟩ = some (.int .u64 (F0 : Int)) := hR.t.cell 0
  have s0 : W.cell? ⟨w.heap.size, 0, none⟩ = some (.int .u64 ((A0 : Nat) : Int)) := hR.s.cell 0
  have z0 : W.frozen? ⟨w.heap.size, 0, none⟩ = false := hR.s.frozen 0
  have nb : ∀ (X : World) (v : Value), (X.setCell ⟨w.heap.size, 0, none⟩ v).cell? ⟨w.heap.size + 1 + 1, 0, none⟩ = X.cell? ⟨w.heap.size + 1 + 1, 0, none⟩ := fun X v => World.cell?_setCell_other X _ _ _ (by simp)
  go_region_held3 (fun w' => w'.cell? ⟨w.heap.size + 1 + 1, 0, none⟩ = some (.int .u64 (F0 : Int))) (go_keep) (first | (go_at_call 169; refine (rturn_any _ _ (by omega) (by omega) _).mono ?_; rintro e w' ⟨rfl, q, rfl⟩))
  go_wp2_with fail
  refine wp_gen (fun X => RR w X ⟨turnM F0 19 28, s.b, A2, s.d, A4⟩ ⟨F0, F1, F2, F3, F4⟩) (hR.step _ 0 _ _ rfl) ?_
  clear hR f0 s0 z0 nb
  rename World => Wold
  intro W hR
  as_aux_lemma =>
  have f0 : W.cell? ⟨w.heap.size + 1 + 1, 1, none⟩ = some (.int .u64 (F1 : Int)) := hR.t.cell 1
  have s0 : W.cell? ⟨w.heap.size, 1, none⟩ = some (.int .u64 ((s.b : Nat) : Int)) := hR.s.cell 1
  have z0 : W.frozen? ⟨w.heap.size, 1, none⟩ = false := hR.s.frozen 1
  have nb : ∀ (X : World) (v : Value), (X.setCell ⟨w.heap.size, 1, none⟩ v).cell? ⟨w.heap.size + 1 + 1, 1, none⟩ = X.cell? ⟨w.heap.size + 1 + 1, 1, none⟩ := fun X v => World.cell?_setCell_other X _ _ _ (by simp)
  go_region_held3 (fun w' => w'.cell? ⟨w.heap.size + 1 + 1, 1, none⟩ = some (.int .u64 (F1 : Int))) (go_keep) (first | (go_at_call 169; refine (rturn_any _ _ (by omega) (by omega) _).mono ?_; rintro e w' ⟨rfl, q, rfl⟩))
  go_wp2_with fail
  refine wp_gen (fun X => RR w X ⟨turnM F0 19 28, turnM F1 61 39, A2, s.d, A4⟩ ⟨F0, F1, F2, F3, F4⟩) (hR.step _ 1 _ _ rfl) ?_
  clear hR f0 s0 z0 nb
  rename World => Wold
  intro W hR
  as_aux_lemma =>
  have f0 : W.cell? ⟨w.heap.size + 1 + 1, 2, none⟩ = some (.int .u64 (F2 : Int)) := hR.t.cell 2
  have s0 : W.cell? ⟨w.heap.size, 2, none⟩ = some (.int .u64 ((A2 : Nat) : Int)) := hR.s.cell 2
  have z0 : W.frozen? ⟨w.heap.size, 2, none⟩ = false := hR.s.frozen 2
  have nb : ∀ (X : World) (v : Value), (X.setCell ⟨w.heap.size, 2, none⟩ v).cell? ⟨w.heap.size + 1 + 1, 2, none⟩ = X.cell? ⟨w.heap.size + 1 + 1, 2, none⟩ := fun X v => World.cell?_setCell_other X _ _ _ (by simp)
  go_region_held3 (fun w' => w'.cell? ⟨w.heap.size + 1 + 1, 2, none⟩ = some (.int .u64 (F2 : Int))) (go_keep) (first | (go_at_call 169; refine (rturn_any _ _ (by omega) (by omega) _).mono ?_; rintro e w' ⟨rfl, q, rfl⟩))
  go_wp2_with fail
  refine wp_gen (fun X => RR w X ⟨turnM F0 19 28, turnM F1 61 39, turnM F2 1 6, s.d, A4⟩ ⟨F0, F1, F2, F3, F4⟩) (hR.step _ 2 _ _ rfl) ?_
  clear hR f0 s0 z0 nb
  rename World => Wold
  intro W hR
  as_aux_lemma =>
  have f0 : W.cell? ⟨w.heap.size + 1 + 1, 3, none⟩ = some (.int .u64 (F3 : Int)) := hR.t.cell 3
  have s0 : W.cell? ⟨w.heap.size, 3, none⟩ = some (.int .u64 ((s.d : Nat) : Int)) := hR.s.cell 3
  have z0 : W.frozen? ⟨w.heap.size, 3, none⟩ = false := hR.s.frozen 3
  have nb : ∀ (X : World) (v : Value), (X.setCell ⟨w.heap.size, 3, none⟩ v).cell? ⟨w.heap.size + 1 + 1, 3, none⟩ = X.cell? ⟨w.heap.size + 1 + 1, 3, none⟩ := fun X v => World.cell?_setCell_other X _ _ _ (by simp)
  go_region_held3 (fun w' => w'.cell? ⟨w.heap.size + 1 + 1, 3, none⟩ = some (.int .u64 (F3 : Int))) (go_keep) (first | (go_at_call 169; refine (rturn_any _ _ (by omega) (by omega) _).mono ?_; rintro e w' ⟨rfl, q, rfl⟩))
  go_wp2_with fail
  refine wp_gen (fun X => RR w X ⟨turnM F0 19 28, turnM F1 61 39, turnM F2 1 6, turnM F3 10 17, A4⟩ ⟨F0, F1, F2, F3, F4⟩) (hR.step _ 3 _ _ rfl) ?_
  clear hR f0 s0 z0 nb
  rename World => Wold
  intro W hR
  as_aux_lemma =>
  have f0 : W.cell? ⟨w.heap.size + 1 + 1, 4, none⟩ = some (.int .u64 (F4 : Int)) := hR.t.cell 4
  have s0 : W.cell? ⟨w.heap.size, 4, none⟩ = some (.int .u64 ((A4 : Nat) : Int)) := hR.s.cell 4
  have z0 : W.frozen? ⟨w.heap.size, 4, none⟩ = false := hR.s.frozen 4
  have nb : ∀ (X : World) (v : Value), (X.setCell ⟨w.heap.size, 4, none⟩ v).cell? ⟨w.heap.size + 1 + 1, 4, none⟩ = X.cell? ⟨w.heap.size + 1 + 1, 4, none⟩ := fun X v => World.cell?_setCell_other X _ _ _ (by simp)
  go_region_held3 (fun w' => w'.cell? ⟨w.heap.size + 1 + 1, 4, none⟩ = some (.int .u64 (F4 : Int))) (go_keep) (first | (go_at_call 169; refine (rturn_any _ _ (by omega) (by omega) _).mono ?_; rintro e w' ⟨rfl, q, rfl⟩))
  have hR5 := fun n => hR.step n 4 (.int .u64 ((turnM F4 7 41 : Nat) : Int)) ⟨turnM F0 19 28, turnM F1 61 39, turnM F2 1 6, turnM F3 10 17, turnM F4 7 41⟩ rfl
  go_wp2_with (first
    | ((with_reducible refine wpList_load_blk rfl 150 _ rfl w.heap.size ?_ 150 (stA ⟨turnM F0 19 28, turnM F1 61 39, turnM F2 1 6, turnM F3 10 17, turnM F4 7 41⟩) _ (hR5 _).s Try.underlying150 ?_ ?_ ?_); exact rfl; exact rfl; exact st_info)
    | ((with_reducible refine wpList_store_blk rfl 150 _ _ rfl (w.heap.size + 1) (stA ⟨turnM F0 19 28, turnM F1 61 39, turnM F2 1 6, turnM F3 10 17, turnM F4 7 41⟩) ?_ ?_ 150 _ (hR5 _).r ?_ ?_ ?_ ?_); exact rfl; exact rfl; exact st_info; exact rfl; exact stA_one _; intro w6 k6 kg6 kz6; have hb6 := (hR5 _).b.grown kg6 (hR5 _).b.size (fun z hz => by simp at hz; omega)))
  obtain rfl := HA0.out
  obtain rfl := HA2.out
  obtain rfl := HA4.out
  obtain rfl := HF0.out
  obtain rfl := HF1.out
  obtain rfl := HF2.out
  obtain rfl := HF3.out
  obtain rfl := HF4.out
  refine bodyPost_ret (v := .agg (stA (roundN s k))) ?_ rfl ⟨rfl, hb6⟩
  exact results_cell_row rfl _ _ (w.heap.size + 1) 150 _ (0, 0) _ rfl k6 Try.underlying150 rfl st_info
end Go.Proofs.Ytkckakfkeooepaa
