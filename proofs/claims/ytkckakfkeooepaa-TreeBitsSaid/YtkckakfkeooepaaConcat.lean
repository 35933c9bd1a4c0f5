/- slices.Concat at two element types: what lies in its parts, one behind another. -/
import Derived.Test.YtkckakfkeooepaaLists
namespace Go.Proofs.Ytkckakfkeooepaa
set_option linter.all false
set_option linter.unusedSimpArgs false
set_option linter.unusedVariables false
set_option linter.unnecessarySimpa false
open Go.RowKit
/-- A slice among slices: its value, its cells. -/
structure Part where
  A : Option Addr
  n : Nat
  c : Nat
  xs : List Value
def Part.v (p : Part) : Value := .slice p.A p.n p.c
def Part.ok (p : Part) (w : World) (B k : Nat) : Prop := Reads w B k p.A p.n p.xs ∧ ∀ u ∈ p.xs, u.oneCell' = true
def sumTo (ps : List Part) (k : Nat) : Nat := ((ps.take k).map Part.n).sum
def flatTo (ps : List Part) (k : Nat) : List Value := ((ps.take k).map Part.xs).flatten
theorem sumTo_succ (ps : List Part) (k : Nat) (h : k < ps.length) : sumTo ps (k + 1) = sumTo ps k + (ps[k]).n := by
  unfold sumTo; rw [List.take_succ_eq_append_getElem h, List.map_append, List.sum_append]; simp only [List.map_cons, List.map_nil, List.sum_cons, List.sum_nil, Nat.add_zero]
theorem flatTo_succ (ps : List Part) (k : Nat) (h : k < ps.length) : flatTo ps (k + 1) = flatTo ps k ++ (ps[k]).xs := by
  unfold flatTo; rw [List.take_succ_eq_append_getElem h, List.map_append, List.flatten_append]; simp only [List.map_cons, List.map_nil, List.flatten_cons, List.flatten_nil, List.append_nil]
theorem sum_take_le (l : List Nat) (k : Nat) : (l.take k).sum ≤ l.sum := by
  have h : l.sum = (l.take k).sum + (l.drop k).sum := by rw [← List.sum_append, List.take_append_drop]
  omega
theorem sumTo_le (ps : List Part) (k : Nat) : sumTo ps k ≤ (ps.map Part.n).sum := by
  unfold sumTo; rw [List.map_take]; exact sum_take_le _ _

set_option maxRecDepth 100000 in
set_option maxHeartbeats 1000000 in
theorem byte_concat (A : Option Addr) (c : Nat) (ps : List Part) (w : World) (hr : Reads w w.heap.size 1 A ps.length (ps.map Part.v)) (hp : ∀ p ∈ ps, p.ok w w.heap.size 1)
    (hl : ps.length ≤ 16777216) (hs : (ps.map Part.n).sum ≤ 16777216) :
    Calls Try.prog 118 #[.slice A ps.length c] w fun e w' => ∃ v, e = .returned v ∧ w'.ownsRow w.heap.size 5 1 v (ps.map Part.n).sum (ps.map Part.xs).flatten ∧ Below w.heap.size w w' := by
  obtain ⟨i0, hi0, hz0, hz1, hz2⟩ := info_parts byte_info
  have HZ2 := Lib.hid hz2
  have HZ1 := Lib.hid hz1
  have HZ0 := Lib.hid hz0
  clear hz0 hz1 hz2
  go_enter Try.func118, Try.ntmps118
  go_wp2
  go_loop [3, 11] (fun s i => ∃ k : Nat, k ≤ ps.length ∧ i = .int .i64 k ∧ s = .int .i64 (sumTo ps k)) (fun _ i => ps.length - (intOf i).toNat)
  case atStart => exact ⟨0, Nat.zero_le _, rfl, rfl⟩
  case round =>
    obtain ⟨k, hk, rfl, rfl⟩ := hrel
    have hb := sumTo_le ps k
    have hb' : sumTo ps k ≤ 16777216 := Nat.le_trans hb hs
    clear hb
    by_cases hlt : k < ps.length
    · obtain ⟨b, o, rfl, hbB, hc⟩ := hr.row (by omega) (by omega)
      have hcell : w.cell? ⟨b, o + k, none⟩ = some (.slice (ps[k]).A (ps[k]).n (ps[k]).c) := hc k _ (by simp [hlt, Part.v])
      have hn := sumTo_le ps (k + 1)
      rw [sumTo_succ ps k hlt] at hn
      have hn' : sumTo ps k + (ps[k]).n ≤ 16777216 := Nat.le_trans hn hs
      have HS := Lib.hid (sumTo_succ ps k hlt)
      clear hn hc
      go_wp2
      go_round
      case rel => exact ⟨k + 1, by omega, by go_num, by rw [HS.out]; go_num⟩
      case measure => simp [intOf]; omega
    · obtain rfl : k = ps.length := by omega
      have hall : sumTo ps ps.length = (ps.map Part.n).sum := by simp [sumTo]
      have Hall := Lib.hid hall
      clear hall
      go_wp2_with (go_at_call 149; refine (byte_grow _ hb' _).mono ?_; rintro e w1 ⟨v1, rfl, hown1, hbw1⟩)
      go_loopw [6, 27] (fun v i wr => ∃ k : Nat, k ≤ ps.length ∧ i = .int .i64 k ∧ wr.ownsRow w.heap.size 5 1 v (sumTo ps k) (flatTo ps k) ∧ Below w.heap.size w wr) (fun _ i _ => ps.length - (intOf i).toNat)
      case atStart => exact ⟨0, Nat.zero_le _, rfl, hown1, hbw1⟩
      case round =>
        rename_i wr
        obtain ⟨k, hk, rfl, hown, hbw⟩ := hrel
        clear hb'
        have hb := sumTo_le ps k
        have hb' : sumTo ps k ≤ 16777216 := Nat.le_trans hb hs
        clear hb
        by_cases hlt : k < ps.length
        · obtain ⟨b, o, rfl, hbB, hc⟩ := hr.row (by omega) (by omega)
          have hcell : wr.cell? ⟨b, o + k, none⟩ = some (.slice (ps[k]).A (ps[k]).n (ps[k]).c) := (hbw.cell (p := ⟨b, o + k, none⟩) hbB).trans (hc k _ (by simp [hlt, Part.v]))
          have hn := sumTo_le ps (k + 1)
          rw [sumTo_succ ps k hlt] at hn
          have hn' : sumTo ps k + (ps[k]).n ≤ 16777216 := Nat.le_trans hn hs
          have HS := Lib.hid (sumTo_succ ps k hlt)
          have HF := Lib.hid (flatTo_succ ps k hlt)
          have hpk := hp ps[k] (List.getElem_mem hlt)
          have hrk : Reads wr w.heap.size 1 (ps[k]).A (ps[k]).n (ps[k]).xs := hpk.1.below hbw
          have hok := hpk.2
          have hsz : w.heap.size ≤ wr.heap.size := hbw.size
          clear hn hc hpk
          go_wp2_with (at_builtin; refine wpList_append_any _ rfl (.tmp 31) (.tmp 32) 29 rfl w.heap.size 5 i0 _ 1 1 Try.underlying29 hi0 HZ0.out HZ1.out HZ2.out rfl (by omega) _ (sumTo ps k) (flatTo ps k) rfl hown w.heap.size (ps[k]).A (ps[k]).n (ps[k]).c (ps[k]).xs rfl hrk hok (by unfold maxLen; omega) (by omega) hsz ?_; intro v2 w2 hown2 hg2 _; have hbw2 : Below w.heap.size w w2 := hbw.grown hg2 hsz (fun q hq => (hown.lt q hq).1))
          rw [← HS.out, ← HF.out] at hown2
          go_roundw
          case rel => exact ⟨k + 1, by omega, by go_num, hown2, hbw2⟩
          case measure => simp [intOf]; omega
        · obtain rfl : k = ps.length := by omega
          go_wp2
          go_ret
          refine ⟨_, rfl, ?_, hbw⟩
          have hf : flatTo ps ps.length = (ps.map Part.xs).flatten := by simp [flatTo]
          rw [← Hall.out, ← hf]
          exact hown

set_option maxRecDepth 100000 in
set_option maxHeartbeats 1000000 in
theorem item_concat (A : Option Addr) (c : Nat) (ps : List Part) (w : World) (hr : Reads w w.heap.size 1 A ps.length (ps.map Part.v)) (hp : ∀ p ∈ ps, p.ok w w.heap.size 64)
    (hl : ps.length ≤ 16777216) (hs : (ps.map Part.n).sum ≤ 16777216) :
    Calls Try.prog 86 #[.slice A ps.length c] w fun e w' => ∃ v, e = .returned v ∧ w'.ownsRow w.heap.size 60 64 v (ps.map Part.n).sum (ps.map Part.xs).flatten ∧ Below w.heap.size w w' := by
  obtain ⟨i0, hi0, hz0, hz1, hz2⟩ := info_parts item_info
  have HZ2 := Lib.hid hz2
  have HZ1 := Lib.hid hz1
  have HZ0 := Lib.hid hz0
  clear hz0 hz1 hz2
  go_enter Try.func86, Try.ntmps86
  go_wp2
  go_loop [3, 11] (fun s i => ∃ k : Nat, k ≤ ps.length ∧ i = .int .i64 k ∧ s = .int .i64 (sumTo ps k)) (fun _ i => ps.length - (intOf i).toNat)
  case atStart => exact ⟨0, Nat.zero_le _, rfl, rfl⟩
  case round =>
    obtain ⟨k, hk, rfl, rfl⟩ := hrel
    have hb := sumTo_le ps k
    have hb' : sumTo ps k ≤ 16777216 := Nat.le_trans hb hs
    clear hb
    by_cases hlt : k < ps.length
    · obtain ⟨b, o, rfl, hbB, hc⟩ := hr.row (by omega) (by omega)
      have hcell : w.cell? ⟨b, o + k, none⟩ = some (.slice (ps[k]).A (ps[k]).n (ps[k]).c) := hc k _ (by simp [hlt, Part.v])
      have hn := sumTo_le ps (k + 1)
      rw [sumTo_succ ps k hlt] at hn
      have hn' : sumTo ps k + (ps[k]).n ≤ 16777216 := Nat.le_trans hn hs
      have HS := Lib.hid (sumTo_succ ps k hlt)
      clear hn hc
      go_wp2
      go_round
      case rel => exact ⟨k + 1, by omega, by go_num, by rw [HS.out]; go_num⟩
      case measure => simp [intOf]; omega
    · obtain rfl : k = ps.length := by omega
      have hall : sumTo ps ps.length = (ps.map Part.n).sum := by simp [sumTo]
      have Hall := Lib.hid hall
      clear hall
      go_wp2_with (go_at_call 130; refine (item_grow _ hb' _).mono ?_; rintro e w1 ⟨v1, rfl, hown1, hbw1⟩)
      go_loopw [6, 27] (fun v i wr => ∃ k : Nat, k ≤ ps.length ∧ i = .int .i64 k ∧ wr.ownsRow w.heap.size 60 64 v (sumTo ps k) (flatTo ps k) ∧ Below w.heap.size w wr) (fun _ i _ => ps.length - (intOf i).toNat)
      case atStart => exact ⟨0, Nat.zero_le _, rfl, hown1, hbw1⟩
      case round =>
        rename_i wr
        obtain ⟨k, hk, rfl, hown, hbw⟩ := hrel
        clear hb'
        have hb := sumTo_le ps k
        have hb' : sumTo ps k ≤ 16777216 := Nat.le_trans hb hs
        clear hb
        by_cases hlt : k < ps.length
        · obtain ⟨b, o, rfl, hbB, hc⟩ := hr.row (by omega) (by omega)
          have hcell : wr.cell? ⟨b, o + k, none⟩ = some (.slice (ps[k]).A (ps[k]).n (ps[k]).c) := (hbw.cell (p := ⟨b, o + k, none⟩) hbB).trans (hc k _ (by simp [hlt, Part.v]))
          have hn := sumTo_le ps (k + 1)
          rw [sumTo_succ ps k hlt] at hn
          have hn' : sumTo ps k + (ps[k]).n ≤ 16777216 := Nat.le_trans hn hs
          have HS := Lib.hid (sumTo_succ ps k hlt)
          have HF := Lib.hid (flatTo_succ ps k hlt)
          have hpk := hp ps[k] (List.getElem_mem hlt)
          have hrk : Reads wr w.heap.size 64 (ps[k]).A (ps[k]).n (ps[k]).xs := hpk.1.below hbw
          have hok := hpk.2
          have hsz : w.heap.size ≤ wr.heap.size := hbw.size
          clear hn hc hpk
          go_wp2_with (at_builtin; refine wpList_append_any _ rfl (.tmp 31) (.tmp 32) 51 rfl w.heap.size 60 i0 _ 64 64 Try.underlying51 hi0 HZ0.out HZ1.out HZ2.out rfl (by omega) _ (sumTo ps k) (flatTo ps k) rfl hown w.heap.size (ps[k]).A (ps[k]).n (ps[k]).c (ps[k]).xs rfl hrk hok (by unfold maxLen; omega) (by omega) hsz ?_; intro v2 w2 hown2 hg2 _; have hbw2 : Below w.heap.size w w2 := hbw.grown hg2 hsz (fun q hq => (hown.lt q hq).1))
          rw [← HS.out, ← HF.out] at hown2
          go_roundw
          case rel => exact ⟨k + 1, by omega, by go_num, hown2, hbw2⟩
          case measure => simp [intOf]; omega
        · obtain rfl : k = ps.length := by omega
          go_wp2
          go_ret
          refine ⟨_, rfl, ?_, hbw⟩
          have hf : flatTo ps ps.length = (ps.map Part.xs).flatten := by simp [flatTo]
          rw [← Hall.out, ← hf]
          exact hown
end Go.Proofs.Ytkckakfkeooepaa
