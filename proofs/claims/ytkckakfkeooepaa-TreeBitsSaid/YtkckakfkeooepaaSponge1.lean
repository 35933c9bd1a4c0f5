/- The permutation's rounds, walked in both texts of it: turned, round, Perm. -/
import Derived.Test.YtkckakfkeooepaaBin2
import Derived.Deep.QuietTactic
import Derived.BigQuiet
import Derived.StillTailTactics
import Derived.Deep.RegionWith
namespace Go.Proofs.Ytkckakfkeooepaa
set_option linter.all false
set_option linter.unusedSimpArgs false
set_option linter.unusedVariables false
set_option linter.unnecessarySimpa false
open Go.RowKit
theorem ofInt_u64 (a : Nat) : (BitVec.ofInt 64 (a : Int)).toNat = a % M64 := by simp [BitVec.toNat_ofInt, M64]
theorem wrap_u64_nat (a : Nat) : IntKind.u64.wrap (a : Int) = ((a % M64 : Nat) : Int) := by simp [IntKind.wrap, IntKind.bits, IntKind.signed, M64]
theorem bits_xorM (a b : Nat) : bits .xor .u64 (a : Int) (b : Int) = ((xorM a b : Nat) : Int) := by
  have h : ((BitVec.ofInt 64 (a : Int)) ^^^ (BitVec.ofInt 64 (b : Int))).toNat = (a ^^^ b) % M64 := by
    rw [BitVec.toNat_xor, ofInt_u64, ofInt_u64, M64_eq, Nat.xor_mod_two_pow]
  simp only [bits, IntKind.bits]
  show IntKind.u64.wrap (((BitVec.ofInt 64 (a : Int)) ^^^ (BitVec.ofInt 64 (b : Int))).toNat : Int) = _
  rw [h, wrap_u64_nat, xorM, Nat.mod_mod]
theorem bits_andM (a b : Nat) : bits .and .u64 (a : Int) (b : Int) = ((andM a b : Nat) : Int) := by
  have h : ((BitVec.ofInt 64 (a : Int)) &&& (BitVec.ofInt 64 (b : Int))).toNat = (a &&& b) % M64 := by
    rw [BitVec.toNat_and, ofInt_u64, ofInt_u64, M64_eq, Nat.and_mod_two_pow]
  simp only [bits, IntKind.bits]
  show IntKind.u64.wrap (((BitVec.ofInt 64 (a : Int)) &&& (BitVec.ofInt 64 (b : Int))).toNat : Int) = _
  rw [h, wrap_u64_nat, andM, Nat.mod_mod]
theorem bits_orM (a b : Nat) : bits .or .u64 (a : Int) (b : Int) = (((a ||| b) % M64 : Nat) : Int) := by
  have h : ((BitVec.ofInt 64 (a : Int)) ||| (BitVec.ofInt 64 (b : Int))).toNat = (a ||| b) % M64 := by
    rw [BitVec.toNat_or, ofInt_u64, ofInt_u64, M64_eq, Nat.or_mod_two_pow]
  simp only [bits, IntKind.bits]
  show IntKind.u64.wrap (((BitVec.ofInt 64 (a : Int)) ||| (BitVec.ofInt 64 (b : Int))).toNat : Int) = _
  rw [h, wrap_u64_nat, Nat.mod_mod]
theorem bits_notM (a : Nat) : bits .xor .u64 18446744073709551615 (a : Int) = ((notM a : Nat) : Int) := bits_xorM 18446744073709551615 a
theorem rot_and (p : Nat) (h1 : 0 < p) (h2 : p < 64) : bits .and .u64 (IntKind.u64.wrap (-(p : Int))) 63 = ((64 - p : Nat) : Int) := by
  have e : IntKind.u64.wrap (-(p : Int)) = ((M64 - p : Nat) : Int) := by
    simp [IntKind.wrap, IntKind.bits, IntKind.signed, M64]; omega
  rw [e]
  have := bits_andM (M64 - p) 63
  rw [show ((63 : Nat) : Int) = 63 from rfl] at this
  rw [this]
  have h63 : (M64 - p) &&& 63 = (M64 - p) % 64 := Nat.and_two_pow_sub_one_eq_mod (M64 - p) 6
  unfold andM
  rw [h63]
  unfold M64
  omega
theorem rot_or (x p : Nat) (h1 : 0 < p) (h2 : p < 64) : bits .or .u64 (IntKind.u64.wrap ((x : Int) * 2 ^ (64 - p))) ((x : Int) / 2 ^ p) = ((rotM x p : Nat) : Int) := by
  have e1 : (x : Int) * 2 ^ (64 - p) = ((x * 2 ^ (64 - p) : Nat) : Int) := by simp
  have e2 : (x : Int) / 2 ^ p = ((x / 2 ^ p : Nat) : Int) := by simp
  rw [e1, e2, wrap_u64_nat, bits_orM, rotM, Nat.or_comm]
set_option maxHeartbeats 1000000 in
theorem rotl_any (x : Nat) (k : Int) (h1 : -64 < k) (h2 : k < 0) (w : World) :
    Calls Try.prog 170 #[.int .u64 (x : Int), .int .i64 k] w fun e w' => e = .returned (.int .u64 (rotM x (-k).toNat)) ∧ w' = w := by
  obtain ⟨p, rfl⟩ : ∃ p : Nat, k = -(p : Int) := ⟨(-k).toNat, by omega⟩
  have hp1 : 0 < p := by omega
  have hp2 : p < 64 := by omega
  clear h1 h2
  have ha := rot_and p hp1 hp2
  have hs : IntKind.u64.wrap (64 - ((64 - p : Nat) : Int)) = (p : Int) := by
    simp [IntKind.wrap, IntKind.bits, IntKind.signed]; omega
  have hm : min (64 - p) 64 = 64 - p := by omega
  have hm2 : min p 64 = p := by omega
  have HO := Lib.hid (rot_or x p hp1 hp2)
  have e0 : (- -(p : Int)).toNat = p := by omega
  rw [e0]
  clear e0
  go_enter Try.func170, Try.ntmps170
  go_wp2
  go_ret
  exact ⟨congrArg (fun z => Ending.returned (.int .u64 z)) HO.out, rfl⟩
theorem unary_notM (a : Nat) : Op.unary .xor (.int .u64 (a : Int)) = pure (.int .u64 ((notM a : Nat) : Int)) := by
  have h := bits_notM a
  rw [unary_xor]
  exact congrArg (fun z => (pure (Value.int .u64 z) : Sem Value)) h
attribute [local go_sem high] unary_notM
attribute [local go_sem] bits_xorM bits_andM
set_option maxHeartbeats 1000000 in
theorem turned_any (x : Nat) (a b : Int) (h1 : 0 < a) (h2 : a < 64) (h3 : 0 < b) (h4 : b < 64) (w : World) :
    Calls Try.prog 162 #[.int .u64 (x : Int), .int .i64 a, .int .i64 b] w fun e w' => e = .returned (.int .u64 (turnM x a.toNat b.toNat)) ∧ w' = w := by
  go_enter Try.func162, Try.ntmps162
  go_wp2_with (go_at_call 170; refine (rotl_any _ _ (by omega) (by omega) _).mono ?_; rintro e w' ⟨rfl, rfl⟩)
  go_ret
  exact ⟨by simp [turnM], rfl⟩
theorem run_build_st (a b c d e : Int) (w : World) : (Instr.build 150 #[(0, .int .u64 a), (1, .int .u64 b), (2, .int .u64 c), (3, .int .u64 d), (4, .int .u64 e)]).run Try.prog w = .ok (.agg #[.int .u64 a, .int .u64 b, .int .u64 c, .int .u64 d, .int .u64 e]) w := by kernel_rfl
attribute [local go_sem high] run_build_st
def stA (s : St) : Array Value := #[.int .u64 (s.a : Int), .int .u64 (s.b : Int), .int .u64 (s.c : Int), .int .u64 (s.d : Int), .int .u64 (s.e : Int)]
set_option maxRecDepth 100000 in
set_option maxHeartbeats 4000000 in
theorem round_any (s : St) (k : Nat) (w : World) :
    Calls Try.prog 144 #[.agg (stA s), .int .u64 (k : Int)] w fun e w' => e = .returned (.agg (stA (roundN s k))) ∧ Below w.heap.size w w' := by
  unfold stA
  go_enter Try.func144, Try.ntmps144
  go_wp2
  generalize hA0 : xorM s.a s.e = A0
  generalize hA4 : xorM s.e s.d = A4
  generalize hA2 : xorM (xorM s.c k) s.b = A2
  have HA0 := Lib.hid hA0
  have HA2 := Lib.hid hA2
  have HA4 := Lib.hid hA4
  clear hA0 hA2 hA4
  refine wp_loop_rounds 6 ?_
  iterate 2 (rw [rounds_succ]; go_wp2; go_region; go_wp2)
  as_aux_lemma =>
  iterate 2 (rw [rounds_succ]; go_wp2; go_region; go_wp2)
  as_aux_lemma =>
  rw [rounds_succ]; go_wp2; go_region; go_wp2
  rw [rounds_succ]
  as_aux_lemma =>
  go_wp2
  as_aux_lemma =>
  refine region_still_tail 15 (by kernel_rfl) (by kernel_rfl) ?_
  simp only [List.take_succ_cons, List.take_zero, List.drop_succ_cons, List.drop_zero]
  iterate 2 still_step
  still_call (turned_any _ 19 28 (by decide) (by decide) (by decide) (by decide) _)
  iterate 2 still_step
  still_call (turned_any _ 61 39 (by decide) (by decide) (by decide) (by decide) _)
  iterate 2 still_step
  still_call (turned_any _ 1 6 (by decide) (by decide) (by decide) (by decide) _)
  iterate 2 still_step
  still_call (turned_any _ 10 17 (by decide) (by decide) (by decide) (by decide) _)
  iterate 2 still_step
  still_call (turned_any _ 7 41 (by decide) (by decide) (by decide) (by decide) _)
  refine wpStill_nil ?_
  as_aux_lemma =>
  go_wp2
  obtain rfl := HA0.out
  obtain rfl := HA2.out
  obtain rfl := HA4.out
  refine bodyPost_ret (v := .agg (stA (roundN s k))) ?_ rfl ⟨rfl, ?_⟩
  · simp [results, Try.results144, go_sem]
    rfl
  · repeat (first | exact Below.refl _ _ | refine Below.drew ?_ | refine Below.alloc ?_ (by (try simp) <;> omega) _ | refine Below.setCell ?_ (by (try simp) <;> omega) _)
end Go.Proofs.Ytkckakfkeooepaa
