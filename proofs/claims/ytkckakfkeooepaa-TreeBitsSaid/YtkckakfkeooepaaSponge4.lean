/- sponge.Text, sponge.Tag: a tag and lumps as bytes; their hash. -/
import Derived.Test.YtkckakfkeooepaaSponge3
namespace Go.Proofs.Ytkckakfkeooepaa
set_option linter.all false
set_option linter.unusedSimpArgs false
set_option linter.unusedVariables false
set_option linter.unnecessarySimpa false
open Go.RowKit
/-- A slice of bytes among slices. -/
structure BPart where
  A : Option Addr
  c : Nat
  l : Bs
def BPart.v (p : BPart) : Value := .slice p.A p.l.length p.c
def BPart.ok (p : BPart) (w : World) (B : Nat) : Prop := Reads w B 1 p.A p.l.length (bcs p.l)
def textTo (t : UInt8) (ps : List BPart) (k : Nat) : Bs := t :: ((ps.take k).map fun p => lumpB p.l).flatten
def lenTo (ps : List BPart) (k : Nat) : Nat := ((ps.take k).map fun p => p.l.length + 8).sum
theorem lenTo_succ (ps : List BPart) (k : Nat) (h : k < ps.length) : lenTo ps (k + 1) = lenTo ps k + ((ps[k]).l.length + 8) := by
  unfold lenTo; rw [List.take_succ_eq_append_getElem h, List.map_append, List.sum_append]; simp only [List.map_cons, List.map_nil, List.sum_cons, List.sum_nil, Nat.add_zero]
theorem textTo_succ (t : UInt8) (ps : List BPart) (k : Nat) (h : k < ps.length) : textTo t ps (k + 1) = textTo t ps k ++ lumpB (ps[k]).l := by
  unfold textTo; rw [List.take_succ_eq_append_getElem h, List.map_append, List.flatten_append]; simp only [List.map_cons, List.map_nil, List.flatten_cons, List.flatten_nil, List.append_nil, List.cons_append]
theorem lenTo_le (ps : List BPart) (k : Nat) : lenTo ps k ≤ (ps.map fun p => p.l.length + 8).sum := by
  unfold lenTo; rw [List.map_take]; exact sum_take_le _ _
theorem textTo_length (t : UInt8) (ps : List BPart) : ∀ k, k ≤ ps.length → (textTo t ps k).length = lenTo ps k + 1 := by
  intro k
  induction k with
  | zero => intro _; simp [textTo, lenTo]
  | succ k ih =>
    intro h
    rw [textTo_succ t ps k (by omega), lenTo_succ ps k (by omega), List.length_append, ih (by omega)]
    simp [lumpB]; omega
set_option maxRecDepth 100000 in
set_option maxHeartbeats 1000000 in
theorem text_any (t : UInt8) (A : Option Addr) (c : Nat) (ps : List BPart) (w : World) (hr : Reads w w.heap.size 1 A ps.length (ps.map BPart.v)) (hp : ∀ p ∈ ps, p.ok w w.heap.size)
    (hl : ps.length ≤ 65536) (hs : (ps.map fun p => p.l.length + 8).sum ≤ 16777000) :
    Calls Try.prog 133 #[.int .u8 (t.toNat : Int), .slice A ps.length c] w fun e w' => ∃ v, e = .returned v ∧ w'.ownsRow w.heap.size 5 1 v (textB t (ps.map BPart.l)).length (bcs (textB t (ps.map BPart.l))) ∧ Below w.heap.size w w' := by
  obtain ⟨i0, hi0, hz0, hz1, hz2⟩ := info_parts byte_info
  have HZ2 := Lib.hid hz2
  have HZ1 := Lib.hid hz1
  have HZ0 := Lib.hid hz0
  clear hz0 hz1 hz2
  go_enter Try.func133, Try.ntmps133
  go_wp2
  have ho0 : (w.alloc (.cells #[.int .u8 (t.toNat : Int)] 5)).ownsRow w.heap.size 5 1 (.slice (some ⟨w.heap.size, 0, none⟩) 1 1) (textTo t ps 0).length (bcs (textTo t ps 0)) :=
    World.ownsRow_lit w #[.int .u8 (t.toNat : Int)] 1 (Nat.le_refl _) (by decide) rfl
  go_loopw [5, 12] (fun v i wr => ∃ k : Nat, k ≤ ps.length ∧ i = .int .i64 k ∧ wr.ownsRow w.heap.size 5 1 v (textTo t ps k).length (bcs (textTo t ps k)) ∧ Below w.heap.size w wr) (fun _ i _ => ps.length - (intOf i).toNat)
  case atStart => exact ⟨0, Nat.zero_le _, rfl, ho0, (Below.refl _ _).alloc (Nat.le_refl _) _⟩
  case round =>
    rename World => wr
    obtain ⟨k, hk, rfl, hown, hbw⟩ := hrel
    clear ho0
    have hsz : w.heap.size ≤ wr.heap.size := hbw.size
    by_cases hlt : k < ps.length
    · obtain ⟨b, o, rfl, hbB, hc⟩ := hr.row (by omega) (by omega)
      have hcell : wr.cell? ⟨b, o + k, none⟩ = some (.slice (ps[k]).A (ps[k]).l.length (ps[k]).c) := (hbw.cell (p := ⟨b, o + k, none⟩) hbB).trans (hc k _ (by simp [hlt, BPart.v]))
      have hL := lenTo_le ps (k + 1)
      rw [lenTo_succ ps k hlt] at hL
      have hL' : lenTo ps k + ((ps[k]).l.length + 8) ≤ 16777000 := Nat.le_trans hL hs
      have HT := Lib.hid (textTo_succ t ps k hlt)
      have HN := Lib.hid (textTo_length t ps k hk)
      have hrk : Reads wr wr.heap.size 1 (ps[k]).A (ps[k]).l.length (bcs (ps[k]).l) := (Reads.below (hp ps[k] (List.getElem_mem hlt)) hbw).more hsz
      clear hc hL
      go_wp2_with (first
        | (go_at_call 157; refine (lump_any _ _ _ _ hrk (by omega)).mono ?_; rintro e w1 ⟨v1, rfl, hown1, hbw1⟩; obtain ⟨A1, c1, rfl⟩ := own_slice hown1; have hz1 := hbw1.size
           have hownr := hown.kept (only_of_below hbw1 none) (by cases h : Value.ownBlock _ with | none => exact .inl rfl | some z => exact .inr (by simp))
           have hr1 := Reads.of_own hown1)
        | (at_builtin; refine wpList_append_any _ rfl (.tmp 16) (.tmp 18) 29 rfl w.heap.size 5 i0 _ 1 1 Try.underlying29 hi0 HZ0.out HZ1.out HZ2.out rfl (by omega) _ _ _ rfl hownr w1.heap.size A1 _ c1 _ rfl hr1 (bcs_one _) (by have := HN.out; unfold maxLen; simp [lumpB]; omega) (by have := HN.out; simp [lumpB]; omega) (by omega) ?_
           intro v2 w2 hown2 hg2 _
           have hb2 := (hbw.trans (hbw1.mono hsz)).grown hg2 (by omega) (fun q hq => (hownr.lt q hq).1)))
      go_roundw
      case rel =>
        refine ⟨k + 1, by omega, by go_num, ?_, hb2⟩
        rw [HT.out, bcs_append, List.length_append]
        exact hown2
      case measure => simp [intOf]; omega
    · obtain rfl : k = ps.length := by omega
      go_wp2
      go_ret
      have e1 : textTo t ps ps.length = textB t (ps.map BPart.l) := by simp [textTo, textB, List.map_map, Function.comp_def]
      rw [← e1]
      exact ⟨_, rfl, hown, hbw⟩
end Go.Proofs.Ytkckakfkeooepaa
