/- The hashes of package tree: Node. -/
import Derived.Test.YtkckakfkeooepaaSponge5
namespace Go.Proofs.Ytkckakfkeooepaa
set_option linter.all false
set_option linter.unusedSimpArgs false
set_option linter.unusedVariables false
set_option linter.unnecessarySimpa false
open Go.RowKit
/-- A whole row stored into a known block: the run, the world behind it a variable. -/
theorem store_row {P : Program} {w : World} {g : Nat} {t : TypeId} {old : Array Value} (cells : Array Value) (hb : Blk w g t old) (ho : old.size = cells.size) (h1 : cells.all (·.oneCell') = true) :
    ∃ w', (storeCells ⟨g, 0, none⟩ cells.toList).run P w = .ok () w' ∧ Blk w' g t cells ∧ w.grownBy w' (some g) ∧ w'.heap.size = w.heap.size := by
  have := run_storeCells_from (P := P) g t cells.toList 0 old w hb (by simp; omega) (fun v hv => (Array.all_eq_true_iff_forall_mem.1 h1) v (by simpa using hv))
  refine ⟨w.setRow g cells, by simpa [Addr.add] using this, setRow_heap w g old cells t _ hb, ⟨rfl, rfl, rfl, by simp [World.setRow], fun k _ hk => setRow_other w g k _ (fun e => hk (by rw [e]))⟩, by simp [World.setRow]⟩
/-- sponge.Tag, its tag and the number of its lumps as they stand at a call. -/
theorem tag_call (T : UInt8) (t : Int) (ht : (T.toNat : Int) = t) (A : Option Addr) (n c : Nat) (ps : List BPart) (hn : ps.length = n) (w : World) (hr : Reads w w.heap.size 1 A n (ps.map BPart.v)) (hp : ∀ p ∈ ps, p.ok w w.heap.size)
    (hl : n ≤ 65536) (hs : (ps.map fun p => p.l.length + 8).sum ≤ 16777000) :
    Calls Try.prog 96 #[.int .u8 t, .slice A n c] w fun e w' => e = .returned (.agg (hA (tagB T (ps.map BPart.l)))) ∧ Below w.heap.size w w' := by
  subst ht; subst hn
  exact tag_any T A c ps w hr hp hl hs
/-- A boxed hash as a slice of bytes. -/
theorem box_reads {w w' : World} {g : Nat} {h : Hash} {t : TypeId} (hb : Blk w g t (hA h)) (hw : Below w.heap.size w w') : Reads w' w'.heap.size 1 (some ⟨g, 0, none⟩) h.l.length (bcs h.l) := by
  have hk := hb.below hw hb.lt
  refine ⟨by simp, fun _ => ⟨_, rfl, hk.lt, fun j u hj => ?_⟩⟩
  have e1 : (⟨g, 0, none⟩ : Addr).add j = ⟨g, j, none⟩ := by unfold Addr.add; split <;> simp_all
  rw [e1, hk.cell]
  simpa [hA] using hj
/-- The hash of a tag and two boxed hashes. -/
theorem tag_two (T : UInt8) (t : Int) (ht : (T.toNat : Int) = t) (W : World) (g1 g2 : Nat) (t1 t2 : TypeId) (l r : Hash) (h1 : Blk W g1 t1 (hA l)) (h2 : Blk W g2 t2 (hA r)) :
    Calls Try.prog 96 #[.int .u8 t, .slice (some ⟨W.heap.size, 0, none⟩) 2 2] (W.alloc (.cells #[.slice (some ⟨g1, 0, none⟩) 32 32, .slice (some ⟨g2, 0, none⟩) 32 32] 29)).drew
      fun e w' => e = .returned (.agg (hA (tagB T [l.l, r.l]))) ∧ Below W.heap.size W w' := by
  have hb : Below W.heap.size W (W.alloc (.cells #[.slice (some ⟨g1, 0, none⟩) 32 32, .slice (some ⟨g2, 0, none⟩) 32 32] 29)).drew := ((Below.refl _ _).alloc (Nat.le_refl _) _).drew
  have hl := l.h
  have hr := r.h
  refine (tag_call T t ht _ 2 2 [⟨some ⟨g1, 0, none⟩, 32, l.l⟩, ⟨some ⟨g2, 0, none⟩, 32, r.l⟩] rfl _ ?_ ?_ (by decide) (by simp [hl, hr])).mono fun e w' h => ⟨h.1, hb.trans (h.2.mono (by simp))⟩
  · have := reads_lit W 29 [.slice (some ⟨g1, 0, none⟩) 32 32, .slice (some ⟨g2, 0, none⟩) 32 32] 2 1 rfl
    simp only [List.map_cons, List.map_nil, BPart.v, hl, hr]
    exact this.drew.more (by simp)
  · intro p hp
    simp only [List.mem_cons, List.not_mem_nil, or_false] at hp
    rcases hp with rfl | rfl
    · exact box_reads h1 hb
    · exact box_reads h2 hb
set_option maxRecDepth 100000 in
set_option maxHeartbeats 1000000 in
theorem node_any (l r : Hash) (w : World) :
    Calls Try.prog 42 #[.agg (hA l), .agg (hA r)] w fun e w' => e = .returned (.agg (hA (tagB 110 [l.l, r.l]))) ∧ Below w.heap.size w w' := by
  have hb1 : Below w.heap.size w (((w.alloc (.cells (hA l) 23)).alloc (.cells (hA r) 23)).alloc (.cells (Array.replicate 32 (.int .u8 0)) 23)) := (((Below.refl _ _).alloc (Nat.le_refl _) _).alloc (by simp) _).alloc (by simp; omega) _
  have k1 : Blk (((w.alloc (.cells (hA l) 23)).alloc (.cells (hA r) 23)).alloc (.cells (Array.replicate 32 (.int .u8 0)) 23)) w.heap.size 23 (hA l) := ((Blk.new _ _ _).alloc _).alloc _
  have k2 : Blk (((w.alloc (.cells (hA l) 23)).alloc (.cells (hA r) 23)).alloc (.cells (Array.replicate 32 (.int .u8 0)) 23)) (w.heap.size + 1) 23 (hA r) := by
    have := (Blk.new (w.alloc (.cells (hA l) 23)) 23 (hA r)).alloc (.cells (Array.replicate 32 (.int .u8 0)) 23)
    simpa using this
  have k3 : HasRow (((w.alloc (.cells (hA l) 23)).alloc (.cells (hA r) 23)).alloc (.cells (Array.replicate 32 (.int .u8 0)) 23)) (w.heap.size + 1 + 1) 23 32 := by
    have := Blk.new ((w.alloc (.cells (hA l) 23)).alloc (.cells (hA r) 23)) 23 (Array.replicate 32 (.int .u8 0))
    rw [World.size_alloc, World.size_alloc] at this
    exact ⟨_, by simp, this⟩
  go_enter Try.func42, Try.ntmps42
  go_wp2_with fail
  change Code.wp _ _ _ _ (((w.alloc (.cells (hA l) 23)).alloc (.cells (hA r) 23)).alloc (.cells (Array.replicate 32 (.int .u8 0)) 23))
  have hz : (((w.alloc (.cells (hA l) 23)).alloc (.cells (hA r) 23)).alloc (.cells (Array.replicate 32 (.int .u8 0)) 23)).heap.size = w.heap.size + 3 := by simp only [World.size_alloc]
  generalize (((w.alloc (.cells (hA l) 23)).alloc (.cells (hA r) 23)).alloc (.cells (Array.replicate 32 (.int .u8 0)) 23)) = W at *
  have HZ := Lib.hid hz
  clear hz
  go_region_with (go_at_call 96; refine (tag_two 110 _ rfl W _ _ _ _ l r k1 k2).mono ?_; rintro e w1 ⟨rfl, hbw1⟩; have k3' := k3.below hbw1 k3.lt; obtain ⟨ZZ, hZ, rZ⟩ := k3'; have hb2 := hb1.trans (hbw1.mono hb1.size); obtain ⟨w6, hst, k6, kg6, kz6⟩ := store_row (P := Try.prog) (hA (tagB 110 [l.l, r.l])) rZ (by rw [hZ]; rfl) (hA_one _); clear hZ)
  go_wp2
  refine bodyPost_ret (v := .agg (hA (tagB 110 [l.l, r.l]))) ?_ rfl ⟨rfl, hb2.grown kg6 hb2.size (fun z hz => by simp at hz; omega)⟩
  exact results_cell_row rfl _ _ (w.heap.size + 1 + 1) 23 _ (0, 0) _ rfl k6 Try.underlying23 rfl hash_info
end Go.Proofs.Ytkckakfkeooepaa
