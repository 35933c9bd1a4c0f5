/- The walk of bin.Num: a number's eight bytes, the lowest first. -/
import Derived.Test.YtkckakfkeooepaaMem
namespace Go.Proofs.Ytkckakfkeooepaa
set_option linter.all false
set_option linter.unusedSimpArgs false
set_option linter.unusedVariables false
set_option linter.unnecessarySimpa false
open Go.RowKit
theorem bc_byteN (m i : Nat) : bc (byteN m i) = .int .u8 ((m / 256 ^ i % 256 : Nat) : Int) := by simp [bc, byteN_toNat]
theorem bcs_numN (n : Int) (h0 : 0 ≤ n) : bcs (numN n.toNat) = [.int .u8 (n % 256), .int .u8 (n / 256 % 256), .int .u8 (n / 65536 % 256), .int .u8 (n / 16777216 % 256),
    .int .u8 (n / 4294967296 % 256), .int .u8 (n / 1099511627776 % 256), .int .u8 (n / 281474976710656 % 256), .int .u8 (n / 72057594037927936 % 256)] := by
  obtain ⟨m, rfl⟩ := Int.eq_ofNat_of_zero_le h0
  simp [bcs, numN, bc_byteN]
set_option maxHeartbeats 1000000 in
theorem num_any (n : Int) (h0 : 0 ≤ n) (w : World) :
    Calls Try.prog 75 #[.int .u64 n] w fun e w' => ∃ v, e = .returned v ∧ w'.ownsRow w.heap.size 5 1 v 8 (bcs (numN n.toNat)) ∧ Below w.heap.size w w' := by
  have hmk : ∀ w, (Instr.makeSlice 29 (.int .i64 8) (.int .i64 8)).run Try.prog w = .ok (.slice (some ⟨w.heap.size, 0, none⟩) 8 8) (w.alloc (.cells #[.int .u8 0, .int .u8 0, .int .u8 0, .int .u8 0, .int .u8 0, .int .u8 0, .int .u8 0, .int .u8 0] 5)) := fun _ => by kernel_rfl
  go_enter Try.func75, Try.ntmps75
  go_wp2
  go_rounds 9
  go_ret
  exact ⟨_, rfl, by rw [bcs_numN n h0]; exact World.ownsRow_lit w _ 8 (Nat.le_refl _) (by decide) rfl, (Below.refl _ _).alloc (Nat.le_refl _) _⟩
end Go.Proofs.Ytkckakfkeooepaa
