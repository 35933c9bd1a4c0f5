/- The reference's bytes: postmarkref1.Num, Lump, turn. -/
import Derived.Test.YtkckakfkeooepaaSponge5
namespace Go.Proofs.Ytkckakfkeooepaa
set_option linter.all false
set_option linter.unusedSimpArgs false
set_option linter.unusedVariables false
set_option linter.unnecessarySimpa false
open Go.RowKit
theorem numN_get (n k : Nat) (hk : k < 8) : (numN n)[k]'(by simpa using hk) = byteN n k := by
  obtain rfl | rfl | rfl | rfl | rfl | rfl | rfl | rfl : k = 0 ∨ k = 1 ∨ k = 2 ∨ k = 3 ∨ k = 4 ∨ k = 5 ∨ k = 6 ∨ k = 7 := by omega
  all_goals rfl
theorem shr_byte (n : Nat) (k : Nat) (hk : k < 8) : IntKind.u8.wrap ((n : Int) / 2 ^ (8 * k)) = ((byteN n k).toNat : Int) := by
  have h2 : (256 : Nat) ^ k = 2 ^ (8 * k) := by rw [Nat.pow_mul]
  have e : (n : Int) / 2 ^ (8 * k) = ((n / 256 ^ k : Nat) : Int) := by rw [h2]; simp
  rw [e, byteN_toNat]
  generalize n / 256 ^ k = m
  simp only [IntKind.wrap, IntKind.bits, IntKind.signed]; simp
set_option maxRecDepth 100000 in
set_option maxHeartbeats 1000000 in
theorem rnum_any (n : Int) (h0 : 0 ≤ n) (w : World) :
    Calls Try.prog 61 #[.int .u64 n] w fun e w' => ∃ v, e = .returned v ∧ w'.ownsRow w.heap.size 5 1 v 8 (bcs (numN n.toNat)) ∧ Below w.heap.size w w' := by
  obtain ⟨m, rfl⟩ := Int.eq_ofNat_of_zero_le h0
  rw [Int.toNat_natCast]
  clear h0
  obtain ⟨i0, hi0, hz0, hz1, hz2⟩ := info_parts byte_info
  have HZ2 := Lib.hid hz2
  have HZ1 := Lib.hid hz1
  have HZ0 := Lib.hid hz0
  clear hz0 hz1 hz2
  go_enter Try.func61, Try.ntmps61
  go_wp2
  go_loopw [3, 4] (fun v i wr => ∃ k : Nat, k ≤ 8 ∧ i = .int .i64 k ∧ wr.ownsRow w.heap.size 5 1 v k (bcs ((numN m).take k)) ∧ Below w.heap.size w wr) (fun _ i _ => 8 - (intOf i).toNat)
  case atStart => exact ⟨0, by omega, rfl, World.ownsRow_nil _ _ _ _, Below.refl _ _⟩
  case round =>
    rename World => wr
    obtain ⟨k, hk, rfl, hown, hbw⟩ := hrel
    have hsz := hbw.size
    by_cases hlt : k < 8
    · have hs := shr_byte m k hlt
      have hm : min (8 * k) 64 = 8 * k := by omega
      have HT := Lib.hid (show (numN m).take (k + 1) = (numN m).take k ++ [byteN m k] by rw [List.take_succ_eq_append_getElem (by simpa using hlt), numN_get m k hlt])
      go_wp2_with (at_builtin; refine wpList_append_any _ rfl (.tmp 9) (.tmp 15) 29 rfl w.heap.size 5 i0 _ 1 1 Try.underlying29 hi0 HZ0.out HZ1.out HZ2.out rfl (by omega) _ _ _ rfl (hown.alloc _) (wr.heap.size + 1) (some ⟨wr.heap.size, 0, none⟩) 1 1 [.int .u8 ((byteN m k).toNat : Int)] rfl (reads_lit wr _ [.int .u8 ((byteN m k).toNat : Int)] 1 1 rfl) (by simp [Value.oneCell']) (by unfold maxLen; omega) (by omega) (by simp; omega) ?_; intro v5 w5 hown5 hg5 _; have hb5 := (hbw.alloc hsz (.cells #[.int .u8 ((byteN m k).toNat : Int)] 5)).grown hg5 (by simp; omega) (fun q hq => (hown.lt q hq).1))
      go_roundw
      case rel => exact ⟨k + 1, by omega, by go_num, by rw [HT.out, bcs_append]; exact hown5, hb5⟩
      case measure => simp [intOf]; omega
    · obtain rfl : k = 8 := by omega
      go_wp2
      go_ret
      exact ⟨_, rfl, hown, hbw⟩
end Go.Proofs.Ytkckakfkeooepaa
