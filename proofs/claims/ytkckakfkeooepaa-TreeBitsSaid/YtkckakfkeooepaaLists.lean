/- slices.Grow (from nil), Concat, Clone at two element types: what they make. -/
import Derived.Test.YtkckakfkeooepaaMem
namespace Go.Proofs.Ytkckakfkeooepaa
set_option linter.all false
set_option linter.unusedSimpArgs false
set_option linter.unusedVariables false
set_option linter.unnecessarySimpa false
open Go.RowKit
theorem run_append_zeros {P : Program} (w : World) (t ty e xt : TypeId) (i : TypeInfo) (z : Value) (ht : P.underlying t = some (.slice e)) (hx : P.underlying xt = some (.int .i64)) (hi : P.info? e = some i) (hz : i.zero = some z)
    (n : Nat) (h0 : 0 < n) (hn : n ≤ 4294967296) (hsz : i.size ≠ 0) (hzs : z.cells.size = i.size) (h48 : n * i.bytes ≤ 281474976710656) :
    (Builtin.append_ #[t, xt] ty #[.slice none 0 0, .int .i64 (n : Int)]).run P w =
      .ok (.slice (some ⟨w.heap.size, 0, none⟩) n (grownCap w n 0 e)) (w.drew.alloc (.cells (Builtin.zeroCells z.cells n ++ Builtin.zeroCells z.cells (grownCap w n 0 e - n)) e)) := by
  have hn0 : n ≠ 0 := by omega
  have hw : IntKind.i64.wrap (n : Int) = n := by simp [IntKind.wrap, IntKind.bits, IntKind.signed]; omega
  have h63' : ¬ (9223372036854775807 < (n : Int)) := by omega
  have hneg : ¬ ((n : Int) < 0) := by omega
  have hb : ¬ (281474976710656 < (n : Int) * (i.bytes : Int)) := by
    have : ((n * i.bytes : Nat) : Int) ≤ 281474976710656 := by omega
    rw [Int.natCast_mul] at this; omega
  have h48' : ¬ (281474976710656 < Builtin.nextslicecap n 0 * i.bytes) := by rw [nextslicecap_zero h0]; omega
  simp [Builtin.append_, run_underlying ht, run_underlying hx, sizeOf, typeInfo, zeroValue, hi, hz, hw, hneg, hb, hn0, h63', h48', hsz, Question.forced, run_firstCells_none, newRow, grownCap, asInt, asIntOf]
  exact fun h => absurd h (Nat.mul_ne_zero hn0 hsz)
/-- append by a given run. -/
theorem wpList_append_run {P : Program} (w : World) {ops : Array Oper} {rest : List Oper} {o : Oper} {a : Act} {Q : Exit → Act → World → Prop} (hgd : o.guard = none) (s x : Operand) (t u : TypeId)
    (ho : o.op = .call { callee := .builtin .append, args := #[s, x], argTypes := #[t, u] }) (sv xv v : Value) (w' : World) (hs : a.eval s = sv) (hx : a.eval x = xv)
    (hr : (Builtin.append_ #[t, u] o.type #[sv, xv]).run P w = .ok v w') (h : wpList P ops Q rest (a.put o.dst v) w') : wpList P ops Q (o :: rest) a w :=
  wpList_plain hgd fun _ hK => by
    unfold Oper.wp execOp
    simp only [ho, resolve, invoke, builtin, Sem.run_bind, Sem.run_pure, Result.andThen_ok, List.map_toArray, List.map_cons, List.map_nil, hs, hx, hr]
    exact hK _ _ h

theorem byte_info : (Try.prog.info? 5).map (fun i => (i.zero, i.size, i.bytes)) = some (some (.int .u8 0), 1, 1) := by kernel_rfl
set_option maxRecDepth 100000 in
set_option maxHeartbeats 1000000 in
theorem byte_grow (n : Nat) (hn : n ≤ 16777216) (w : World) :
    Calls Try.prog 149 #[.slice none 0 0, .int .i64 (n : Int)] w fun e w' => ∃ v, e = .returned v ∧ w'.ownsRow w.heap.size 5 1 v 0 [] ∧ Below w.heap.size w w' := by
  obtain ⟨i0, hi0, hz0, hz1, hz2⟩ := info_parts byte_info
  have hrun := fun (h0 : 0 < n) => run_append_zeros (P := Try.prog) w 29 29 5 3 i0 _ Try.underlying29 Try.underlying3 hi0 hz0 n h0 (by omega) (by rw [hz1]; decide) (by rw [hz1]; rfl) (by rw [hz2]; omega)
  by_cases h0 : 0 < n
  · have hr := hrun h0
    have hge := grownCap_ge w n 0 5
    have hcm := grownCap_le_maxLen w n 0 5 (by unfold maxLen; omega)
    have Hcm := Lib.hid hcm
    clear hrun hcm
    generalize grownCap w n 0 5 = gc at *
    go_enter Try.func149, Try.ntmps149
    go_wp2_with (at_builtin; refine wpList_append_run _ rfl (.tmp 20) (.tmp 21) 29 3 rfl _ _ _ _ rfl rfl hr ?_)
    go_ret
    refine ⟨_, rfl, ⟨by simp, .inr ⟨w.heap.size, gc, _, rfl, Nat.le_refl _, heap_alloc_new w.drew _, Nat.zero_le _, Hcm.out, ?_, by simp⟩⟩, (Below.refl _ _).drew.alloc (Nat.le_refl _) _⟩
    simp only [Array.size_append, size_zeroCells, ← Nat.add_mul]
    rw [Nat.add_sub_cancel' hge]
    rfl
  · obtain rfl : n = 0 := by omega
    clear hrun
    go_enter Try.func149, Try.ntmps149
    go_wp2
    go_ret
    exact ⟨_, rfl, World.ownsRow_nil _ _ _ _, Below.refl _ _⟩
set_option maxRecDepth 100000 in
set_option maxHeartbeats 1000000 in
theorem byte_clone (A : Option Addr) (n c : Nat) (xs : List Value) (w : World) (hr : Reads w w.heap.size 1 A n xs) (h1 : ∀ u ∈ xs, u.oneCell' = true) (hn : n ≤ 16777216) (hnil : A = none → n = 0) :
    Calls Try.prog 128 #[.slice A n c] w fun e w' => ∃ v, e = .returned v ∧ w'.ownsRow w.heap.size 5 1 v n xs ∧ Below w.heap.size w w' := by
  obtain ⟨i0, hi0, hz0, hz1, hz2⟩ := info_parts byte_info
  rcases A with _ | ad
  · have hnil' := hnil rfl
    subst hnil'
    have hx : xs = [] := List.eq_nil_of_length_eq_zero (by simpa using hr.1)
    subst hx
    have hq := fun w => Lib.run_eql_slice_nil (P := Try.prog) w 29 5 none 0 c 0 0 Try.underlying29
    go_enter Try.func128, Try.ntmps128
    go_wp2
    go_ret
    exact ⟨_, rfl, World.ownsRow_nil _ _ _ _, Below.refl _ _⟩
  · have hq := fun w => Lib.run_eql_slice_nil (P := Try.prog) w 29 5 (some ad) n c 0 0 Try.underlying29
    go_enter Try.func128, Try.ntmps128
    go_wp2_with (at_builtin; refine wpList_append_any _ rfl (.tmp 5) (.tmp 6) 29 rfl w.heap.size 5 i0 _ 1 1 Try.underlying29 hi0 hz0 hz1 hz2 rfl (by omega) (.slice (some ⟨w.heap.size, 0, none⟩) 0 0) 0 [] rfl (World.ownsRow_lit w #[] 0 (Nat.le_refl _) (by decide) rfl) w.heap.size (some ad) n c xs rfl (hr.alloc (Nat.le_refl _) _) h1 (by unfold maxLen; omega) (by omega) (by simp) ?_; intro v1 w1 hown1 hg1 _)
    go_ret
    simp only [Nat.zero_add, List.nil_append] at hown1
    exact ⟨_, rfl, hown1, ((Below.refl _ _).alloc (Nat.le_refl _) _).grown hg1 (by simp) (by simp [Value.ownBlock])⟩

theorem item_info : (Try.prog.info? 60).map (fun i => (i.zero, i.size, i.bytes)) = some (some (.agg (Array.replicate 64 (.int .u8 0))), 64, 64) := by kernel_rfl
set_option maxRecDepth 100000 in
set_option maxHeartbeats 1000000 in
theorem item_grow (n : Nat) (hn : n ≤ 16777216) (w : World) :
    Calls Try.prog 130 #[.slice none 0 0, .int .i64 (n : Int)] w fun e w' => ∃ v, e = .returned v ∧ w'.ownsRow w.heap.size 60 64 v 0 [] ∧ Below w.heap.size w w' := by
  obtain ⟨i0, hi0, hz0, hz1, hz2⟩ := info_parts item_info
  have hrun := fun (h0 : 0 < n) => run_append_zeros (P := Try.prog) w 51 51 60 3 i0 _ Try.underlying51 Try.underlying3 hi0 hz0 n h0 (by omega) (by rw [hz1]; decide) (by rw [hz1]; rfl) (by rw [hz2]; omega)
  by_cases h0 : 0 < n
  · have hr := hrun h0
    have hge := grownCap_ge w n 0 60
    have hcm := grownCap_le_maxLen w n 0 60 (by unfold maxLen; omega)
    have Hcm := Lib.hid hcm
    clear hrun hcm
    generalize grownCap w n 0 60 = gc at *
    go_enter Try.func130, Try.ntmps130
    go_wp2_with (at_builtin; refine wpList_append_run _ rfl (.tmp 20) (.tmp 21) 51 3 rfl _ _ _ _ rfl rfl hr ?_)
    go_ret
    refine ⟨_, rfl, ⟨by simp, .inr ⟨w.heap.size, gc, _, rfl, Nat.le_refl _, heap_alloc_new w.drew _, Nat.zero_le _, Hcm.out, ?_, by simp⟩⟩, (Below.refl _ _).drew.alloc (Nat.le_refl _) _⟩
    simp only [Array.size_append, size_zeroCells, ← Nat.add_mul]
    rw [Nat.add_sub_cancel' hge]
    rfl
  · obtain rfl : n = 0 := by omega
    clear hrun
    go_enter Try.func130, Try.ntmps130
    go_wp2
    go_ret
    exact ⟨_, rfl, World.ownsRow_nil _ _ _ _, Below.refl _ _⟩
set_option maxRecDepth 100000 in
set_option maxHeartbeats 1000000 in
theorem item_clone (A : Option Addr) (n c : Nat) (xs : List Value) (w : World) (hr : Reads w w.heap.size 64 A n xs) (h1 : ∀ u ∈ xs, u.oneCell' = true) (hn : n ≤ 16777216) (hnil : A = none → n = 0) :
    Calls Try.prog 136 #[.slice A n c] w fun e w' => ∃ v, e = .returned v ∧ w'.ownsRow w.heap.size 60 64 v n xs ∧ Below w.heap.size w w' := by
  obtain ⟨i0, hi0, hz0, hz1, hz2⟩ := info_parts item_info
  rcases A with _ | ad
  · have hnil' := hnil rfl
    subst hnil'
    have hx : xs = [] := List.eq_nil_of_length_eq_zero (by simpa using hr.1)
    subst hx
    have hq := fun w => Lib.run_eql_slice_nil (P := Try.prog) w 51 60 none 0 c 0 0 Try.underlying51
    go_enter Try.func136, Try.ntmps136
    go_wp2
    go_ret
    exact ⟨_, rfl, World.ownsRow_nil _ _ _ _, Below.refl _ _⟩
  · have hq := fun w => Lib.run_eql_slice_nil (P := Try.prog) w 51 60 (some ad) n c 0 0 Try.underlying51
    go_enter Try.func136, Try.ntmps136
    go_wp2_with (at_builtin; refine wpList_append_any _ rfl (.tmp 5) (.tmp 6) 51 rfl w.heap.size 60 i0 _ 64 64 Try.underlying51 hi0 hz0 hz1 hz2 rfl (by omega) (.slice (some ⟨w.heap.size, 0, none⟩) 0 0) 0 [] rfl (World.ownsRow_lit w #[] 0 (Nat.le_refl _) (by decide) rfl) w.heap.size (some ad) n c xs rfl (hr.alloc (Nat.le_refl _) _) h1 (by unfold maxLen; omega) (by omega) (by simp) ?_; intro v1 w1 hown1 hg1 _)
    go_ret
    simp only [Nat.zero_add, List.nil_append] at hown1
    exact ⟨_, rfl, hown1, ((Below.refl _ _).alloc (Nat.le_refl _) _).grown hg1 (by simp) (by simp [Value.ownBlock])⟩
end Go.Proofs.Ytkckakfkeooepaa
