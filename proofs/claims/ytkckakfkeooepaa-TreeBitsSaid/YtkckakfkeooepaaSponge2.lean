/- sponge.Perm: the twelve rounds. -/
import Derived.Test.YtkckakfkeooepaaSponge1
namespace Go.Proofs.Ytkckakfkeooepaa
set_option linter.all false
set_option linter.unusedSimpArgs false
set_option linter.unusedVariables false
set_option linter.unnecessarySimpa false
open Go.RowKit
theorem stA_size (s : St) : (stA s).size = 5 := rfl
theorem stA_one (s : St) : (stA s).all (·.oneCell') = true := by simp [stA, Value.oneCell']
theorem st_info : (Try.prog.info? 150).map (·.size) = some 5 := by kernel_rfl
theorem round_int (s : St) (k : Int) (h0 : 0 ≤ k) (w : World) :
    Calls Try.prog 144 #[.agg (stA s), .int .u64 k] w fun e w' => e = .returned (.agg (stA (roundN s k.toNat))) ∧ Below w.heap.size w w' := by
  obtain ⟨n, rfl⟩ := Int.eq_ofNat_of_zero_le h0
  exact round_any s n w
/-- The state behind the first k rounds. -/
def permTo (s : St) (k : Nat) : St := (roundKs.take k).foldl roundN s
theorem permTo_succ (s : St) (k : Nat) (h : k < 12) : permTo s (k + 1) = roundN (permTo s k) (240 - 15 * k) := by
  have h' : k < roundKs.length := h
  unfold permTo
  rw [List.take_succ_eq_append_getElem h', List.foldl_append]
  have e : roundKs[k] = 240 - 15 * k := by
    have : ∀ k (h : k < 12), roundKs[k]'h = 240 - 15 * k := by decide
    exact this k h
  simp only [List.foldl_cons, List.foldl_nil, e]
set_option maxRecDepth 100000 in
set_option maxHeartbeats 1000000 in
theorem perm_any (s : St) (w : World) :
    Calls Try.prog 110 #[.agg (stA s)] w fun e w' => e = .returned (.agg (stA (permN s))) ∧ Below w.heap.size w w' := by
  go_enter Try.func110, Try.ntmps110
  go_wp2
  have hb1 : Blk ((w.alloc (.cells (stA s) 150)).alloc (.cells (stA ⟨0, 0, 0, 0, 0⟩) 150)) w.heap.size 150 (stA s) := (Blk.new _ _ _).alloc _
  have hb2 : Blk ((w.alloc (.cells (stA s) 150)).alloc (.cells (stA ⟨0, 0, 0, 0, 0⟩) 150)) (w.heap.size + 1) 150 (stA ⟨0, 0, 0, 0, 0⟩) := by
    have := Blk.new (w.alloc (.cells (stA s) 150)) 150 (stA ⟨0, 0, 0, 0, 0⟩)
    simpa using this
  go_loopw [3, 4] (fun _ i wr => ∃ k : Nat, k ≤ 12 ∧ i = .int .i64 k ∧ Blk wr w.heap.size 150 (stA (permTo s k)) ∧ Blk wr (w.heap.size + 1) 150 (stA ⟨0, 0, 0, 0, 0⟩) ∧ Below w.heap.size w wr) (fun _ i _ => 12 - (intOf i).toNat)
  case atStart => exact ⟨0, by omega, rfl, hb1, hb2, ((Below.refl _ _).alloc (Nat.le_refl _) _).alloc (by simp) _⟩
  case round =>
    rename_i wr
    obtain ⟨k, hk, rfl, h1, h2, hbw⟩ := hrel
    clear hb1 hb2
    have hs1 := h1.lt
    have hs2 := h2.lt
    by_cases hlt : k < 12
    · have hks := Lib.hid (permTo_succ s k hlt)
      have e1 : (240 - 15 * (k : Int)).toNat = 240 - 15 * k := by omega
      have E1 := Lib.hid e1
      clear e1
      go_wp2_with (first
        | ((with_reducible refine wpList_load_blk rfl 150 _ rfl w.heap.size ?_ 150 _ _ h1 Try.underlying150 ?_ ?_ ?_); exact rfl; exact rfl; exact st_info)
        | (go_at_call 144; refine (round_int _ _ (by omega) _).mono ?_; rintro e w1 ⟨rfl, hbw1⟩; have g1 := h1.below hbw1 hs1; have g2 := h2.below hbw1 hs2; have hz1 := hbw1.size)
        | ((with_reducible refine wpList_store_blk rfl 150 _ _ rfl w.heap.size (stA (roundN (permTo s k) (240 - 15 * (k : Int)).toNat)) ?_ ?_ 150 _ g1 ?_ ?_ ?_ ?_); exact rfl; exact rfl; exact st_info; exact rfl; exact stA_one _; intro w2 k1 kg2 kz2))
      go_roundw
      case rel =>
        have k2 := g2.grown kg2 (by simp)
        have kb : Below w.heap.size w w2 := (hbw.trans (hbw1.mono (by omega))).grown kg2 (by omega) (fun q hq => by simp at hq; omega)
        refine ⟨k + 1, by omega, by go_num, ?_, k2, kb⟩
        rw [hks.out, ← E1.out]
        exact k1
      case measure => simp [intOf]; omega
    · obtain rfl : k = 12 := by omega
      go_wp2_with (first
        | ((with_reducible refine wpList_load_blk rfl 150 _ rfl w.heap.size ?_ 150 _ _ h1 Try.underlying150 ?_ ?_ ?_); exact rfl; exact rfl; exact st_info)
        | ((with_reducible refine wpList_store_blk rfl 150 _ _ rfl (w.heap.size + 1) (stA (permTo s 12)) ?_ ?_ 150 _ h2 ?_ ?_ ?_ ?_); exact rfl; exact rfl; exact st_info; exact rfl; exact stA_one _; intro w2 k1 kg2 kz2))
      refine bodyPost_ret (v := .agg (stA (permN s))) ?_ rfl ⟨rfl, hbw.grown kg2 (by omega) (fun q hq => by simp at hq; omega)⟩
      exact results_cell_row rfl _ _ (w.heap.size + 1) 150 _ (0, 0) _ rfl k1 Try.underlying150 rfl st_info
end Go.Proofs.Ytkckakfkeooepaa
