/- The reference's Lump, turn, Word. -/
import Derived.Test.YtkckakfkeooepaaRef1
namespace Go.Proofs.Ytkckakfkeooepaa
set_option linter.all false
set_option linter.unusedSimpArgs false
set_option linter.unusedVariables false
set_option linter.unnecessarySimpa false
open Go.RowKit
set_option maxRecDepth 100000 in
set_option maxHeartbeats 1000000 in
theorem rlump_any (A : Option Addr) (c : Nat) (l : Bs) (w : World) (hr : Reads w w.heap.size 1 A l.length (bcs l)) (hl : l.length ≤ 16777216) :
    Calls Try.prog 158 #[.slice A l.length c] w fun e w' => ∃ v, e = .returned v ∧ w'.ownsRow w.heap.size 5 1 v (lumpB l).length (bcs (lumpB l)) ∧ Below w.heap.size w w' := by
  obtain ⟨i0, hi0, hz0, hz1, hz2⟩ := info_parts byte_info
  have HZ2 := Lib.hid hz2
  have HZ1 := Lib.hid hz1
  have HZ0 := Lib.hid hz0
  clear hz0 hz1 hz2
  go_enter Try.func158, Try.ntmps158
  go_wp2_with (first | (go_at_call 61; refine (rnum_any _ (by omega) _).mono ?_; rintro e w1 ⟨v1, rfl, hown1, hbw1⟩) | (at_builtin; have hsz : w.heap.size ≤ w1.heap.size := hbw1.size; refine wpList_append_any _ rfl (.tmp 6) (.tmp 7) 29 rfl w.heap.size 5 i0 _ 1 1 Try.underlying29 hi0 HZ0.out HZ1.out HZ2.out rfl (by omega) _ 8 _ rfl hown1 w.heap.size A l.length c (bcs l) rfl (hr.below hbw1) (bcs_one l) (by unfold maxLen; omega) (by omega) hsz ?_; intro v2 w2 hown2 hg2 _; have hbw2 : Below w.heap.size w w2 := hbw1.grown hg2 hsz (fun q hq => (hown1.lt q hq).1)))
  go_ret
  refine ⟨_, rfl, ?_, hbw2⟩
  have e1 : (lumpB l).length = 8 + l.length := by simp [lumpB]
  rw [e1, lumpB, bcs_append]
  simpa using hown2
theorem rturn_or (x p : Nat) (h1 : 0 < p) (h2 : p < 64) : bits .or .u64 ((x : Int) / 2 ^ p) (IntKind.u64.wrap ((x : Int) * 2 ^ (64 - p))) = ((rotM x p : Nat) : Int) := by
  have e1 : (x : Int) * 2 ^ (64 - p) = ((x * 2 ^ (64 - p) : Nat) : Int) := by simp
  have e2 : (x : Int) / 2 ^ p = ((x / 2 ^ p : Nat) : Int) := by simp
  rw [e1, e2, wrap_u64_nat, bits_orM, rotM]
set_option maxHeartbeats 1000000 in
theorem rturn_any (x : Nat) (k : Int) (h1 : 0 < k) (h2 : k < 64) (w : World) :
    Calls Try.prog 169 #[.int .u64 (x : Int), .int .i64 k] w fun e w' => e = .returned (.int .u64 (rotM x k.toNat)) ∧ ∃ q, w' = w.drewN q := by
  obtain ⟨p, rfl⟩ := Int.eq_ofNat_of_zero_le (show 0 ≤ k by omega)
  rw [Int.toNat_natCast]
  have hp1 : 0 < p := by omega
  have hp2 : p < 64 := by omega
  clear h1 h2
  have i1 : 0 ≤ 64 - (p : Int) := by omega
  have i2 : (64 - (p : Int)).toNat = 64 - p := by omega
  have hm : min (64 - p) 64 = 64 - p := by omega
  have hm2 : min p 64 = p := by omega
  have HO := Lib.hid (rturn_or x p hp1 hp2)
  go_enter Try.func169, Try.ntmps169
  go_wp2
  go_quiet (fail)
  go_wp2
  go_ret
  exact ⟨congrArg (fun z => Ending.returned (.int .u64 z)) HO.out, ⟨_, rfl⟩⟩
theorem unnum_drop (l : Bs) (k : Nat) (h : k < l.length) : unnum (l.drop k) = (l[k]).toNat + 256 * unnum (l.drop (k + 1)) := by
  rw [List.drop_eq_getElem_cons h, unnum]
theorem unnum_drop_lt (l : Bs) (k : Nat) : unnum (l.drop k) < 256 ^ (l.length - k) := by
  have := unnum_lt (l.drop k)
  rwa [List.length_drop] at this
theorem or_low (a c : Nat) (ha : a < 256 ^ 7) (hc : c < 256) : bits .or .u64 (IntKind.u64.wrap ((a : Int) * 256)) (c : Int) = ((c + 256 * a : Nat) : Int) := by
  have e : (a : Int) * 256 = ((a * 256 : Nat) : Int) := by simp
  rw [e, wrap_u64_nat, Nat.mod_eq_of_lt (by unfold M64; omega), bits_or_u64_nat _ _ (by omega) (by omega)]
  rw [Nat.mul_comm a 256, show (256 : Nat) = 2 ^ 8 from rfl, ← Nat.two_pow_add_eq_or_of_lt hc, Nat.add_comm]
set_option maxHeartbeats 1000000 in
theorem rword_any (A : Option Addr) (c : Nat) (l : Bs) (w : World) (hl : l.length = 8) (hr : Reads w w.heap.size 1 A 8 (bcs l)) :
    Calls Try.prog 142 #[.slice A 8 c] w fun e w' => e = .returned (.int .u64 (unnum l)) ∧ w' = w := by
  obtain ⟨b, o, rfl, hbB, hc⟩ := hr.row (by omega) (by omega)
  have HL := Lib.hid hl
  clear hl
  go_enter Try.func142, Try.ntmps142
  go_wp2
  go_loop [3, 4] (fun s i => ∃ k : Nat, k ≤ 8 ∧ i = .int .i64 ((k : Int) - 1) ∧ s = .int .u64 (unnum (l.drop k))) (fun _ i => (intOf i + 1).toNat)
  case atStart => exact ⟨8, by omega, rfl, by rw [List.drop_of_length_le (by rw [HL.out]; omega)]; rfl⟩
  case round =>
    obtain ⟨k, hk, rfl, rfl⟩ := hrel
    by_cases hlt : 0 < k
    · obtain ⟨j, rfl⟩ : ∃ j, k = j + 1 := ⟨k - 1, by omega⟩
      have hj : j < l.length := by rw [HL.out]; omega
      have hcell : w.cell? ⟨b, o + j, none⟩ = some (.int .u8 ((l[j]).toNat : Int)) := hc j _ (by simp [hj, bcs, bc])
      have hw8 := wrap_byte l[j]
      have ho := or_low (unnum (l.drop (j + 1))) (l[j]).toNat (Nat.lt_of_lt_of_le (unnum_drop_lt l (j + 1)) (Nat.pow_le_pow_right (by omega) (by rw [HL.out]; omega))) (l[j]).toNat_lt
      have HU := Lib.hid (unnum_drop l j hj)
      have ej : ((j + 1 : Nat) : Int) - 1 = j := by omega
      rw [ej]
      clear hc ej
      go_wp2
      go_round
      case rel => exact ⟨j, by omega, by go_num, by rw [HU.out]; go_num⟩
      case measure => simp [intOf]
    · obtain rfl : k = 0 := by omega
      go_wp2
      go_ret
      exact ⟨rfl, rfl⟩
end Go.Proofs.Ytkckakfkeooepaa
