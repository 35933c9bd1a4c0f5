/- The reference's Perm. -/
import Derived.Test.YtkckakfkeooepaaRef3
import Derived.Test.YtkckakfkeooepaaTree1
namespace Go.Proofs.Ytkckakfkeooepaa
open Go.RowKit
def kA : Array Value := #[.int .u64 240, .int .u64 225, .int .u64 210, .int .u64 195, .int .u64 180, .int .u64 165, .int .u64 150, .int .u64 135, .int .u64 120, .int .u64 105, .int .u64 90, .int .u64 75]
theorem kA_at (k : Nat) (h : k < 12) : kA[k]? = some (.int .u64 ((240 - 15 * k : Nat) : Int)) := by
  obtain rfl | rfl | rfl | rfl | rfl | rfl | rfl | rfl | rfl | rfl | rfl | rfl : k = 0 ∨ k = 1 ∨ k = 2 ∨ k = 3 ∨ k = 4 ∨ k = 5 ∨ k = 6 ∨ k = 7 ∨ k = 8 ∨ k = 9 ∨ k = 10 ∨ k = 11 := by omega
  all_goals rfl
theorem kA_one : kA.all (·.oneCell') = true := by simp [kA, Value.oneCell']
theorem kA_info : (Try.prog.info? 188).map (·.size) = some 12 := by kernel_rfl
theorem run_build_ks (w : World) : (Instr.build 188 #[(0, .int .u64 240), (1, .int .u64 225), (2, .int .u64 210), (3, .int .u64 195), (4, .int .u64 180), (5, .int .u64 165), (6, .int .u64 150), (7, .int .u64 135), (8, .int .u64 120), (9, .int .u64 105), (10, .int .u64 90), (11, .int .u64 75)]).run Try.prog w = .ok (.agg kA) w := by kernel_rfl
set_option maxRecDepth 100000 in
set_option maxHeartbeats 1000000 in
theorem rperm_any (s : St) (w : World) :
    Calls Try.prog 141 #[.agg (stA s)] w fun e w' => e = .returned (.agg (stA (permN s))) ∧ Below w.heap.size w w' := by
  have hbn : Blk (((w.alloc (.cells (stA s) 150)).alloc (.cells #[.int .u64 0, .int .u64 0, .int .u64 0, .int .u64 0, .int .u64 0] 150)).alloc (.cells #[.int .u64 0, .int .u64 0, .int .u64 0, .int .u64 0, .int .u64 0, .int .u64 0, .int .u64 0, .int .u64 0, .int .u64 0, .int .u64 0, .int .u64 0, .int .u64 0] 188)) (w.heap.size + 1 + 1) 188 #[.int .u64 0, .int .u64 0, .int .u64 0, .int .u64 0, .int .u64 0, .int .u64 0, .int .u64 0, .int .u64 0, .int .u64 0, .int .u64 0, .int .u64 0, .int .u64 0] := by
    have := Blk.new ((w.alloc (.cells (stA s) 150)).alloc (.cells #[.int .u64 0, .int .u64 0, .int .u64 0, .int .u64 0, .int .u64 0] 150)) 188 #[.int .u64 0, .int .u64 0, .int .u64 0, .int .u64 0, .int .u64 0, .int .u64 0, .int .u64 0, .int .u64 0, .int .u64 0, .int .u64 0, .int .u64 0, .int .u64 0]
    rw [World.size_alloc, World.size_alloc] at this
    exact this
  have hb1 : Blk (((w.alloc (.cells (stA s) 150)).alloc (.cells #[.int .u64 0, .int .u64 0, .int .u64 0, .int .u64 0, .int .u64 0] 150)).alloc (.cells #[.int .u64 0, .int .u64 0, .int .u64 0, .int .u64 0, .int .u64 0, .int .u64 0, .int .u64 0, .int .u64 0, .int .u64 0, .int .u64 0, .int .u64 0, .int .u64 0] 188)) w.heap.size 150 (stA s) := ((Blk.new _ _ _).alloc _).alloc _
  have hb2 : Blk (((w.alloc (.cells (stA s) 150)).alloc (.cells #[.int .u64 0, .int .u64 0, .int .u64 0, .int .u64 0, .int .u64 0] 150)).alloc (.cells #[.int .u64 0, .int .u64 0, .int .u64 0, .int .u64 0, .int .u64 0, .int .u64 0, .int .u64 0, .int .u64 0, .int .u64 0, .int .u64 0, .int .u64 0, .int .u64 0] 188)) (w.heap.size + 1) 150 (stA ⟨0, 0, 0, 0, 0⟩) := by
    have := (Blk.new (w.alloc (.cells (stA s) 150)) 150 #[.int .u64 0, .int .u64 0, .int .u64 0, .int .u64 0, .int .u64 0]).alloc (.cells #[.int .u64 0, .int .u64 0, .int .u64 0, .int .u64 0, .int .u64 0, .int .u64 0, .int .u64 0, .int .u64 0, .int .u64 0, .int .u64 0, .int .u64 0, .int .u64 0] 188)
    rw [World.size_alloc] at this
    exact this
  have hbb : Below w.heap.size w (((w.alloc (.cells (stA s) 150)).alloc (.cells #[.int .u64 0, .int .u64 0, .int .u64 0, .int .u64 0, .int .u64 0] 150)).alloc (.cells #[.int .u64 0, .int .u64 0, .int .u64 0, .int .u64 0, .int .u64 0, .int .u64 0, .int .u64 0, .int .u64 0, .int .u64 0, .int .u64 0, .int .u64 0, .int .u64 0] 188)) := (((Below.refl _ _).alloc (Nat.le_refl _) _).alloc (by simp) _).alloc (by simp; omega) _
  have HB1 := Lib.hid hb1
  have HB2 := Lib.hid hb2
  have HBB := Lib.hid hbb
  have HBN := Lib.hid hbn
  clear hb1 hb2 hbb hbn
  go_enter Try.func141, Try.ntmps141
  go_wp2_with (first
    | ((with_reducible refine wpList_build_run rfl 188 [(0, .const (.int .u64 240)), (1, .const (.int .u64 225)), (2, .const (.int .u64 210)), (3, .const (.int .u64 195)), (4, .const (.int .u64 180)), (5, .const (.int .u64 165)), (6, .const (.int .u64 150)), (7, .const (.int .u64 135)), (8, .const (.int .u64 120)), (9, .const (.int .u64 105)), (10, .const (.int .u64 90)), (11, .const (.int .u64 75))] rfl (.agg kA) ?_ ?_); exact run_build_ks _)
    | ((with_reducible refine wpList_store_blk rfl 188 _ _ rfl (w.heap.size + 1 + 1) kA ?_ ?_ 188 _ HBN.out ?_ ?_ ?_ ?_); exact rfl; exact rfl; exact kA_info; exact rfl; exact kA_one; intro W k3 kg kz; have k1 := HB1.out.grown kg (by simp; omega); have k2 := HB2.out.grown kg (by simp); have hb := HBB.out.grown kg (by simp; omega) (fun z hz => by simp at hz; omega)))
  go_loopw [4] (fun i wr => ∃ k : Nat, k ≤ 12 ∧ i = .int .i64 k ∧ Blk wr w.heap.size 150 (stA (permTo s k)) ∧ Blk wr (w.heap.size + 1) 150 (stA ⟨0, 0, 0, 0, 0⟩) ∧ Blk wr (w.heap.size + 1 + 1) 188 kA ∧ Below w.heap.size w wr) (fun i _ => 12 - (intOf i).toNat)
  case atStart => exact ⟨0, by omega, rfl, k1, k2, k3, hb⟩
  case round =>
    rename World => wr
    obtain ⟨k, hk, rfl, h1, h2, h3, hbw⟩ := hrel
    clear k1 k2 k3 hb
    by_cases hlt : k < 12
    · have hks := Lib.hid (permTo_succ s k hlt)
      have c0 : wr.cell? ⟨w.heap.size, 0, none⟩ = some (.int .u64 ((permTo s k).a : Int)) := h1.cell 0
      have c1 : wr.cell? ⟨w.heap.size, 1, none⟩ = some (.int .u64 ((permTo s k).b : Int)) := h1.cell 1
      have c2 : wr.cell? ⟨w.heap.size, 2, none⟩ = some (.int .u64 ((permTo s k).c : Int)) := h1.cell 2
      have c3 : wr.cell? ⟨w.heap.size, 3, none⟩ = some (.int .u64 ((permTo s k).d : Int)) := h1.cell 3
      have c4 : wr.cell? ⟨w.heap.size, 4, none⟩ = some (.int .u64 ((permTo s k).e : Int)) := h1.cell 4
      have c5 : wr.cell? ⟨w.heap.size + 1 + 1, k, none⟩ = some (.int .u64 ((240 - 15 * k : Nat) : Int)) := (h3.cell k).trans (kA_at k hlt)
      go_wp2
      go_region_with (go_at_call 160; refine (rround_any (permTo s k) (240 - 15 * k) _).mono ?_; rintro e w1 ⟨rfl, hbw1⟩; have g1 := h1.drew.below hbw1 (by simpa using h1.lt); have g2 := h2.drew.below hbw1 (by simpa using h2.lt); have g3 := h3.drew.below hbw1 (by simpa using h3.lt); have gb := hbw.drew.trans (hbw1.mono (by simpa using hbw.size)); obtain ⟨w2, hst, q1, kg2, kz2⟩ := store_row (P := Try.prog) (stA (roundN (permTo s k) (240 - 15 * k))) g1 rfl (stA_one _))
      all_goals
        go_wp2
        refine ⟨⟨k + 1, by omega, by go_num, ?_, g2.grown kg2 (by simp), g3.grown kg2 (by simp; omega), gb.grown kg2 gb.size (fun z hz => by simp at hz; omega)⟩, by simp [intOf]; omega⟩
        rw [hks.out]; exact q1
    · obtain rfl : k = 12 := by omega
      go_wp2_with (first
        | ((with_reducible refine wpList_load_blk rfl 150 _ rfl w.heap.size ?_ 150 _ _ h1 Try.underlying150 ?_ ?_ ?_); exact rfl; exact rfl; exact st_info)
        | ((with_reducible refine wpList_store_blk rfl 150 _ _ rfl (w.heap.size + 1) (stA (permTo s 12)) ?_ ?_ 150 _ h2 ?_ ?_ ?_ ?_); exact rfl; exact rfl; exact st_info; exact rfl; exact stA_one _; intro w2 q1 kg2 kz2))
      refine bodyPost_ret (v := .agg (stA (permN s))) ?_ rfl ⟨rfl, hbw.grown kg2 hbw.size (fun q hq => by simp at hq; omega)⟩
      exact results_cell_row rfl _ _ (w.heap.size + 1) 150 _ (0, 0) _ rfl q1 Try.underlying150 rfl st_info
end Go.Proofs.Ytkckakfkeooepaa
