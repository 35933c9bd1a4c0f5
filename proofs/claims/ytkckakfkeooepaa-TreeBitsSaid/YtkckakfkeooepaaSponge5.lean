/- sponge.Tag; the hashes of package tree. -/
import Derived.Test.YtkckakfkeooepaaSponge4
import Derived.Deep.RegionHeld3
namespace Go.Proofs.Ytkckakfkeooepaa
set_option linter.all false
set_option linter.unusedSimpArgs false
set_option linter.unusedVariables false
set_option linter.unnecessarySimpa false
open Go.RowKit
theorem text_len (t : UInt8) (ps : List BPart) : (textB t (ps.map BPart.l)).length = (ps.map fun p => p.l.length + 8).sum + 1 := by
  have e1 : textTo t ps ps.length = textB t (ps.map BPart.l) := by simp [textTo, textB, List.map_map, Function.comp_def]
  rw [← e1, textTo_length t ps ps.length (Nat.le_refl _)]
  simp [lenTo]
set_option maxRecDepth 100000 in
set_option maxHeartbeats 1000000 in
theorem tag_any (t : UInt8) (A : Option Addr) (c : Nat) (ps : List BPart) (w : World) (hr : Reads w w.heap.size 1 A ps.length (ps.map BPart.v)) (hp : ∀ p ∈ ps, p.ok w w.heap.size)
    (hl : ps.length ≤ 65536) (hs : (ps.map fun p => p.l.length + 8).sum ≤ 16777000) :
    Calls Try.prog 96 #[.int .u8 (t.toNat : Int), .slice A ps.length c] w fun e w' => e = .returned (.agg (hA (tagB t (ps.map BPart.l)))) ∧ Below w.heap.size w w' := by
  have HTL := Lib.hid (text_len t ps)
  have r0 : HasRow (w.alloc (.cells (Array.replicate 32 (.int .u8 0)) 23)) w.heap.size 23 32 := ⟨_, by simp, Blk.new _ _ _⟩
  have hb0 : Below w.heap.size w (w.alloc (.cells (Array.replicate 32 (.int .u8 0)) 23)) := (Below.refl _ _).alloc (Nat.le_refl _) _
  go_enter Try.func96, Try.ntmps96
  go_wp2_with (first
    | (go_at_call 133; refine (text_any t _ _ ps _ ((hr.below hb0).more (by simp)) (fun p h => (Reads.below (hp p h) hb0).more (by simp)) hl hs).mono ?_; rintro e w1 ⟨v1, rfl, hown1, hbw1⟩; obtain ⟨A1, c1, rfl⟩ := own_slice hown1; have r1 := r0.below hbw1 (by simp); have hr1 := Reads.of_own hown1; have hb1 := hb0.trans (hbw1.mono (by simp)))
    | (go_at_call 66; refine (sum_any _ _ _ _ hr1 (by rw [HTL.out]; omega)).mono ?_; rintro e w2 ⟨rfl, hbw2⟩; have r2 := r1.below hbw2 r1.lt; have hb2 := hb1.trans (hbw2.mono hb1.size); obtain ⟨ZZ, hZ, rZ⟩ := r2; have HZ' := Lib.hid hZ; clear hZ)
    | ((with_reducible refine wpList_store_blk rfl 23 _ _ rfl w.heap.size (hA (sumB (textB t (ps.map BPart.l)))) ?_ ?_ 23 ZZ rZ ?_ ?_ ?_ ?_); exact rfl; exact rfl; exact hash_info; exact HZ'.out; exact hA_one _; intro w6 k6 kg6 kz6))
  refine bodyPost_ret (v := .agg (hA (tagB t (ps.map BPart.l)))) ?_ rfl ⟨rfl, hb2.grown kg6 hb2.size (fun z hz => by simp at hz; omega)⟩
  exact results_cell_row rfl _ _ w.heap.size 23 _ (0, 0) _ rfl k6 Try.underlying23 rfl hash_info
end Go.Proofs.Ytkckakfkeooepaa
