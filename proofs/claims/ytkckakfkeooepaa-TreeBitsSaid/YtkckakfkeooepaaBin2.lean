/- bin.Lump, bin.Join, sponge.word: bytes with their length ahead; bytes one behind another; the number of eight bytes. -/
import Derived.Test.YtkckakfkeooepaaBin1
import Derived.Test.YtkckakfkeooepaaConcat
namespace Go.Proofs.Ytkckakfkeooepaa
set_option linter.all false
set_option linter.unusedSimpArgs false
set_option linter.unusedVariables false
set_option linter.unnecessarySimpa false
open Go.RowKit
set_option maxRecDepth 100000 in
set_option maxHeartbeats 1000000 in
theorem lump_any (A : Option Addr) (c : Nat) (l : Bs) (w : World) (hr : Reads w w.heap.size 1 A l.length (bcs l)) (hl : l.length ≤ 16777216) :
    Calls Try.prog 157 #[.slice A l.length c] w fun e w' => ∃ v, e = .returned v ∧ w'.ownsRow w.heap.size 5 1 v (lumpB l).length (bcs (lumpB l)) ∧ Below w.heap.size w w' := by
  obtain ⟨i0, hi0, hz0, hz1, hz2⟩ := info_parts byte_info
  have HZ2 := Lib.hid hz2
  have HZ1 := Lib.hid hz1
  have HZ0 := Lib.hid hz0
  clear hz0 hz1 hz2
  go_enter Try.func157, Try.ntmps157
  go_wp2_with (first | (go_at_call 75; refine (num_any _ (by omega) _).mono ?_; rintro e w1 ⟨v1, rfl, hown1, hbw1⟩) | (at_builtin; have hsz : w.heap.size ≤ w1.heap.size := hbw1.size; refine wpList_append_any _ rfl (.tmp 6) (.tmp 7) 29 rfl w.heap.size 5 i0 _ 1 1 Try.underlying29 hi0 HZ0.out HZ1.out HZ2.out rfl (by omega) _ 8 _ rfl hown1 w.heap.size A l.length c (bcs l) rfl (hr.below hbw1) (bcs_one l) (by unfold maxLen; omega) (by omega) hsz ?_; intro v2 w2 hown2 hg2 _; have hbw2 : Below w.heap.size w w2 := hbw1.grown hg2 hsz (fun q hq => (hown1.lt q hq).1)))
  go_ret
  refine ⟨_, rfl, ?_, hbw2⟩
  have e1 : (lumpB l).length = 8 + l.length := by simp [lumpB]
  rw [e1, lumpB, bcs_append]
  simpa using hown2
set_option maxHeartbeats 1000000 in
theorem join_any (A : Option Addr) (c : Nat) (ps : List Part) (w : World) (hr : Reads w w.heap.size 1 A ps.length (ps.map Part.v)) (hp : ∀ p ∈ ps, p.ok w w.heap.size 1)
    (hl : ps.length ≤ 16777216) (hs : (ps.map Part.n).sum ≤ 16777216) :
    Calls Try.prog 72 #[.slice A ps.length c] w fun e w' => ∃ v, e = .returned v ∧ w'.ownsRow w.heap.size 5 1 v (ps.map Part.n).sum (ps.map Part.xs).flatten ∧ Below w.heap.size w w' := by
  go_enter Try.func72, Try.ntmps72
  go_wp2_with (go_at_call 118; refine (byte_concat _ _ ps _ hr hp hl hs).mono ?_; rintro e w1 ⟨v1, rfl, hown1, hbw1⟩)
  go_ret
  exact ⟨_, rfl, hown1, hbw1⟩
/-- A byte is laid over a number that is less. -/
theorem or_byte (a c k : Nat) (hk : k < 8) (ha : a < 256 ^ k) (hc : c < 256) : bits .or .u64 (a : Int) ((c * 256 ^ k : Nat) : Int) = ((a + 256 ^ k * c : Nat) : Int) := by
  have hp : (256 : Nat) ^ k ≤ 256 ^ 7 := Nat.pow_le_pow_right (by omega) (by omega)
  have h1 : c * 256 ^ k ≤ 255 * 256 ^ 7 := Nat.mul_le_mul (by omega) hp
  rw [bits_or_u64_nat _ _ (by omega) (by omega)]
  have h2 : (256 : Nat) ^ k = 2 ^ (8 * k) := by rw [Nat.pow_mul]
  rw [h2] at ha ⊢
  rw [Nat.mul_comm c, Nat.or_comm, ← Nat.two_pow_add_eq_or_of_lt ha, Nat.add_comm]
theorem unnum_snoc (l : Bs) (c : UInt8) : unnum (l ++ [c]) = unnum l + 256 ^ l.length * c.toNat := by
  induction l with
  | nil => simp [unnum]
  | cons d l ih =>
    simp only [List.cons_append, unnum, ih, List.length_cons, Nat.pow_succ]
    rw [Nat.mul_add, ← Nat.mul_assoc, Nat.mul_comm 256 (256 ^ l.length), Nat.add_assoc]
theorem unnum_take (l : Bs) (k : Nat) (h : k < l.length) : unnum (l.take (k + 1)) = unnum (l.take k) + 256 ^ k * (l[k]).toNat := by
  rw [List.take_succ_eq_append_getElem h, unnum_snoc, List.length_take, Nat.min_eq_left (by omega)]
theorem unnum_take_lt (l : Bs) (k : Nat) : unnum (l.take k) < 256 ^ k :=
  Nat.lt_of_lt_of_le (unnum_lt _) (Nat.pow_le_pow_right (by omega) (by rw [List.length_take]; omega))
theorem shl_byte (c k : Nat) (hk : k < 8) (hc : c < 256) : IntKind.u64.wrap ((c : Int) * 2 ^ (8 * k)) = ((c * 256 ^ k : Nat) : Int) := by
  have hp : (256 : Nat) ^ k ≤ 256 ^ 7 := Nat.pow_le_pow_right (by omega) (by omega)
  have h1 : c * 256 ^ k ≤ 255 * 256 ^ 7 := Nat.mul_le_mul (by omega) hp
  have h2 : (256 : Nat) ^ k = 2 ^ (8 * k) := by rw [Nat.pow_mul]
  have h4 : (c : Int) * 2 ^ (8 * k) = ((c * 256 ^ k : Nat) : Int) := by rw [h2]; simp
  rw [h4]
  clear h4 h2
  generalize c * 256 ^ k = m at h1
  simp only [IntKind.wrap, IntKind.bits, IntKind.signed]
  simp
  omega
theorem wrap_byte (c : UInt8) : IntKind.u64.wrap (c.toNat : Int) = (c.toNat : Int) := by
  have := c.toNat_lt
  simp only [IntKind.wrap, IntKind.bits, IntKind.signed]; simp; omega
set_option maxHeartbeats 1000000 in
theorem word_any (A : Option Addr) (c : Nat) (l : Bs) (w : World) (hr : Reads w w.heap.size 1 A l.length (bcs l)) (hl : l.length ≤ 8) :
    Calls Try.prog 111 #[.slice A l.length c] w fun e w' => e = .returned (.int .u64 (unnum l)) ∧ w' = w := by
  go_enter Try.func111, Try.ntmps111
  go_wp2
  go_loop [3, 8] (fun s i => ∃ k : Nat, k ≤ l.length ∧ i = .int .i64 k ∧ s = .int .u64 (unnum (l.take k))) (fun _ i => l.length - (intOf i).toNat)
  case atStart => exact ⟨0, Nat.zero_le _, rfl, rfl⟩
  case round =>
    obtain ⟨k, hk, rfl, rfl⟩ := hrel
    by_cases hlt : k < l.length
    · obtain ⟨b, o, rfl, hbB, hc⟩ := hr.row (by omega) (by omega)
      have hcell : w.cell? ⟨b, o + k, none⟩ = some (.int .u8 ((l[k]).toNat : Int)) := hc k _ (by simp [hlt, bcs, bc])
      have hs := shl_byte (l[k]).toNat k (by omega) (l[k]).toNat_lt
      have ho : bits .or .u64 ((unnum (l.take k) : Nat) : Int) (((l[k]).toNat : Int) * 256 ^ k) = ((unnum (l.take k) + 256 ^ k * (l[k]).toNat : Nat) : Int) := by
        have := or_byte (unnum (l.take k)) (l[k]).toNat k (by omega) (unnum_take_lt l k) (l[k]).toNat_lt
        rw [← this]; simp
      have hw8 : IntKind.u64.wrap ((l[k]).toNat : Int) = ((l[k]).toNat : Int) := wrap_byte _
      have HU := Lib.hid (unnum_take l k hlt)
      clear hc
      go_wp2
      go_round
      case rel => exact ⟨k + 1, by omega, by go_num, by rw [HU.out]; go_num⟩
      case measure => simp [intOf]; omega
    · obtain rfl : k = l.length := by omega
      go_wp2
      go_ret
      exact ⟨rfl, rfl⟩
end Go.Proofs.Ytkckakfkeooepaa
