/- Package tree: bits, entries. -/
import Derived.Test.YtkckakfkeooepaaJTree1
namespace Go.Proofs.Ytkckakfkeooepaa
set_option linter.all false
set_option linter.unusedSimpArgs false
set_option linter.unusedVariables false
set_option linter.unnecessarySimpa false
open Go.RowKit
/-- Bit i of a hash, whatever i is. -/
def bitI (h : Hash) (i : Int) : Int := if 0 ≤ i ∧ i < 256 then (bitH h i.toNat : Nat) else 0
theorem bitI_and (x : UInt8) (p : Nat) (hp : p ≤ 7) : bits .and .i64 (IntKind.i64.wrap ((x.toNat : Int).fdiv (2 ^ min p 8))) 1 = ((x.toNat / 2 ^ p % 2 : Nat) : Int) := by
  have hx := x.toNat_lt
  have e : ((x.toNat : Int).fdiv (2 ^ min p 8)) = ((x.toNat / 2 ^ p : Nat) : Int) := by
    rw [Nat.min_eq_left (by omega), Int.fdiv_eq_ediv_of_nonneg _ (Int.pow_nonneg (by omega))]; simp
  have hle : x.toNat / 2 ^ p ≤ x.toNat := Nat.div_le_self _ _
  rw [e]
  generalize x.toNat / 2 ^ p = m at hle
  rw [IntWalk.i64_in _ (by omega)]
  have := i64_and_nat m 1 (by omega) (by omega)
  rw [show ((1 : Nat) : Int) = 1 from rfl] at this
  rw [this, Nat.and_one_is_mod]
theorem bitI_val (h : Hash) (i : Int) (h0 : 0 ≤ i) (h1 : i < 256) : bits .and .i64 (IntKind.i64.wrap (((h.at (i / 8).toNat).toNat : Int).fdiv (2 ^ min (7 - i % 8).toNat 8))) 1 = bitI h i := by
  rw [bitI_and _ _ (by omega), bitI, if_pos ⟨h0, h1⟩, bitH, if_pos (by omega)]
  rw [show (i / 8).toNat = i.toNat / 8 by omega, show (7 - i % 8).toNat = 7 - i.toNat % 8 by omega]
theorem bitI_out (h : Hash) (i : Int) (hi : i < 0 ∨ i ≥ 256) : bitI h i = 0 := by rw [bitI, if_neg (by omega)]
theorem bitI_01 (h : Hash) (i : Int) : bitI h i = 0 ∨ bitI h i = 1 := by
  unfold bitI bitH
  split
  · split <;> omega
  · omega
set_option maxRecDepth 100000 in
set_option maxHeartbeats 1000000 in
theorem c_Bit (h : Hash) (i : Int) : CT Try.prog 46 [.agg (hL h).toArray, .int .i64 i] [] [] (pV (.int .i64 (bitI h i))) := by
  refine CT_of Try.func46 rfl Try.ntmps46 rfl (fun w0 => ?_)
  refine JC_seq ?_
  refine JC_region ?_
  refine JL_E rfl (E_boxA rfl) ?_
  rintro _ _ ⟨g1, rfl, rfl⟩
  refine JL_R rfl (R_assign rfl) ?_
  refine JL_nil ?_
  refine JQ_then ?_
  refine JC_seq ?_
  refine JC_seq ?_
  refine JC_region ?_
  refine JL_R rfl (R_move rfl) ?_
  refine JL_R rfl (R_lt rfl rfl) ?_
  refine JL_R rfl (R_move rfl) ?_
  first
    | refine JL_RS rfl rfl rfl (fun hg => R_move rfl) ?_
  first
    | refine JL_RS rfl rfl rfl (fun hg => R_ge (gv_yes hg rfl) rfl) ?_
  refine JL_R rfl (R_pick_orG rfl rfl) ?_
  refine JL_nil ?_
  refine JQ_then ?_
  refine JC_cond rfl (fun hc10 => ?_) (fun hc10 => ?_)
  · try simp only [Bool.or_eq_true, Bool.and_eq_true, Bool.or_eq_false_iff, Bool.and_eq_false_iff, decide_eq_true_eq, decide_eq_false_iff_not, Bool.not_eq_true', Bool.not_eq_false', beq_iff_eq] at hc10
    refine JC_seq ?_
    refine JC_region ?_
    refine JL_R rfl (R_assign rfl) ?_
    refine JL_nil ?_
    refine JQ_then ?_
    refine JC_ret ?_
    refine JQ_then_ret ?_
    exact ret1 Try.results46 (RV_tmp rfl) ⟨by rw [bitI_out h i hc10], rfl⟩ (Picks.nil _) rfl
  · try simp only [Bool.or_eq_true, Bool.and_eq_true, Bool.or_eq_false_iff, Bool.and_eq_false_iff, decide_eq_true_eq, decide_eq_false_iff_not, Bool.not_eq_true', Bool.not_eq_false', beq_iff_eq] at hc10
    refine JC_skip ?_
    refine JQ_then ?_
    refine JC_seq ?_
    refine JC_region ?_
    refine JL_R rfl (R_move rfl) ?_
    first
      | refine JL_R rfl ((R_quo rfl rfl (by omega)).eq (quo_i64 (by omega) (by omega) (by omega))) ?_
      | refine JL_R rfl (R_quo rfl rfl (by omega)) ?_
    refine JL_R rfl (R_indexH Try.underlying23 ti5 rfl rfl (by omega) (by omega)) ?_
    refine JL_R rfl (R_loadH Try.underlying5 rfl rfl (List.Mem.head _) (by omega)) ?_
    refine JL_R rfl (R_move rfl) ?_
    first
      | refine JL_R rfl ((R_rem rfl rfl (by omega)).eq (rem_in (by omega) (by omega))) ?_
      | refine JL_R rfl (R_rem rfl rfl (by omega)) ?_
    first
      | refine JL_R rfl ((R_sub rfl rfl).eq (i64_in (by omega))) ?_
      | refine JL_R rfl (R_sub rfl rfl) ?_
    refine JL_R rfl (R_shr rfl rfl (by omega)) ?_
    first
      | refine JL_R rfl ((R_conv Try.underlying5 Try.underlying3 rfl).eq (i64_in (by omega))) ?_
      | refine JL_R rfl (R_conv Try.underlying5 Try.underlying3 rfl) ?_
    refine JL_R rfl (R_bits rfl rfl (by simp)) ?_
    refine JL_R rfl (R_assign rfl) ?_
    refine JL_nil ?_
    refine JQ_then ?_
    refine JC_ret ?_
    exact ret1 Try.results46 (RV_tmp rfl) ⟨congrArg (Value.int .i64) (bitI_val h i (by omega) (by omega)), rfl⟩ (Picks.nil _) rfl
set_option maxRecDepth 100000 in
set_option maxHeartbeats 1000000 in
theorem c_Item (e : Entry) (hs : e.name.size ≤ 16000000) (hk : 0 ≤ e.key) : CT Try.prog 84 [.agg (pl (entryP e)).toArray] [] [] (pV (.agg (pl (itemP (itemH e))).toArray)) := by
  refine CT_of Try.func84 rfl Try.ntmps84 rfl (fun w0 => ?_)
  refine JC_seq ?_
  refine JC_region ?_
  refine JL_E rfl (E_boxA rfl) ?_
  rintro _ _ ⟨g1, rfl, rfl⟩
  refine JL_E rfl (E_allocA ti60) ?_
  rintro _ _ ⟨g2, rfl, rfl⟩
  refine JL_nil ?_
  refine JQ_then ?_
  refine JC_seq ?_
  refine JC_draw [] rfl (.take 0 (.take 1 (.take 3 (.take 4 (.take 5 (.take 6 (.exec 2 (.exec 7 (.take 8 (.exec 9 (.done))))))))))) _ (by kernel_rfl) (fun _ h => h) (by repeat (first | with_reducible exact Ret.noP | with_reducible apply NoP.block | with_reducible apply NoP.then)) ?_
  refine JP_R rfl rfl rfl (R_fieldB (o' := 0) Try.underlying108 rfl ti9 rfl rfl rfl) ?_
  refine JP_R rfl rfl rfl (R_loadP 0 Try.underlying9 rfl rfl (List.Mem.tail _ (List.Mem.head _)) rfl (by first | rfl | (simp [offP, sigP, headP, entryP, itemP, knownP]; done))) ?_
  refine JP_R rfl rfl rfl (R_fieldB (o' := 1) Try.underlying108 rfl ti3 rfl rfl rfl) ?_
  refine JP_R rfl rfl rfl (R_loadP 1 Try.underlying3 rfl rfl (List.Mem.tail _ (List.Mem.head _)) rfl (by first | rfl | (simp [offP, sigP, headP, entryP, itemP, knownP]; done))) ?_
  refine JP_R rfl rfl rfl (R_fieldB (o' := 2) Try.underlying108 rfl ti24 rfl rfl rfl) ?_
  refine JP_R rfl rfl rfl (R_loadP 2 Try.underlying24 rfl rfl (List.Mem.tail _ (List.Mem.head _)) rfl (by first | rfl | (simp [offP, sigP, headP, entryP, itemP, knownP]; done))) ?_
  refine JP_E rfl rfl (E_callV ok36 rfl ents_nil (c_Index _ (by omega))) ?_
  rintro _ _ ⟨rfl, rfl⟩
  refine JPn_all (fun _ h => h) ?_
  refine JP_E rfl rfl (E_callV ok38 rfl ents_nil (c_Value _ _ (by omega))) ?_
  rintro _ _ ⟨rfl, rfl⟩
  refine JPn_all (fun _ h => h) ?_
  refine JP_R rfl rfl rfl (R_buildP zo60 pl60 (LaysP.cons rfl rfl rfl (by first | rfl | (simp [bcs_length, sb_length, numN_length, hL_length, sigP_len, headP_len, entryP_len, itemP_len, knownP_len, stP_len, Hash.h]; done) | omega | (simp [bcs_length, sb_length, numN_length, hL_length, sigP_len, headP_len, entryP_len, itemP_len, knownP_len, stP_len, Hash.h]; omega)) (LaysP.cons rfl rfl rfl (by first | rfl | (simp [bcs_length, sb_length, numN_length, hL_length, sigP_len, headP_len, entryP_len, itemP_len, knownP_len, stP_len, Hash.h]; done) | omega | (simp [bcs_length, sb_length, numN_length, hL_length, sigP_len, headP_len, entryP_len, itemP_len, knownP_len, stP_len, Hash.h]; omega)) (LaysP.nil _))) (rfl : _ = pl (itemP ⟨_, _⟩))) ?_
  refine JP_E0 rfl (E_storeA ti60 rfl rfl (Pick.here _ _) (by first | rfl | (simp [bcs_length, sb_length, numN_length, hL_length, sigP_len, headP_len, entryP_len, itemP_len, knownP_len, stP_len, Hash.h]; done) | omega | (simp [bcs_length, sb_length, numN_length, hL_length, sigP_len, headP_len, entryP_len, itemP_len, knownP_len, stP_len, Hash.h]; omega)) (by first | exact hL_ones _ | exact headP_ones _ | exact itemP_ones _ | exact sigP_ones _ | exact entryP_ones _ | exact knownP_ones _ | exact stP_ones _ | exact ones1_int _ _ | exact bcs_ones _ | exact ones1.nil | (apply ones1.pl; simp [ones1, offP, sigP, headP, entryP, itemP, knownP]; done)) (by first | rfl | (simp [bcs_length, sb_length, numN_length, hL_length, sigP_len, headP_len, entryP_len, itemP_len, knownP_len, stP_len, Hash.h]; done) | omega | (simp [bcs_length, sb_length, numN_length, hL_length, sigP_len, headP_len, entryP_len, itemP_len, knownP_len, stP_len, Hash.h]; omega))) ?_
  rintro _ _ ⟨rfl, rfl⟩
  refine JPn_bar (by kernel_rfl) ?_
  refine JP_done ?_
  refine JQ_then ?_
  refine JC_ret ?_
  refine ret1 Try.results84 (RV_cell rfl Try.underlying60 rfl ti60 (List.Mem.head _) (by first | rfl | (simp [bcs_length, sb_length, numN_length, hL_length, sigP_len, headP_len, entryP_len, itemP_len, knownP_len, stP_len, Hash.h]; done) | omega | (simp [bcs_length, sb_length, numN_length, hL_length, sigP_len, headP_len, entryP_len, itemP_len, knownP_len, stP_len, Hash.h]; omega))) ⟨rfl, rfl⟩ (Picks.nil _) rfl
set_option maxRecDepth 100000 in
set_option maxHeartbeats 1000000 in
theorem c_Set1 (x y : Item) : CT Try.prog 92 [.agg (pl (itemP x)).toArray, .agg (pl (itemP y)).toArray] [] [] (pV (.bool (decide (x.index = y.index)))) := by
  refine CT_of Try.func92 rfl Try.ntmps92 rfl (fun w0 => ?_)
  refine JC_seq ?_
  refine JC_region ?_
  refine JL_E rfl (E_boxA rfl) ?_
  rintro _ _ ⟨g1, rfl, rfl⟩
  refine JL_E rfl (E_boxA rfl) ?_
  rintro _ _ ⟨g2, rfl, rfl⟩
  refine JL_R rfl (R_assign rfl) ?_
  refine JL_nil ?_
  refine JQ_then ?_
  refine JC_seq ?_
  refine JC_region ?_
  refine JL_R rfl (R_fieldB (o' := 0) Try.underlying60 rfl ti23 rfl rfl rfl) ?_
  refine JL_R rfl (R_loadPH 0 Try.underlying23 rfl ti23 rfl (List.Mem.tail _ (List.Mem.head _)) rfl (by first | rfl | (simp [offP, sigP, headP, entryP, itemP, knownP]; done)) (by first | rfl | (simp [bcs_length, sb_length, numN_length, hL_length, sigP_len, headP_len, entryP_len, itemP_len, knownP_len, stP_len, Hash.h]; done) | omega | (simp [bcs_length, sb_length, numN_length, hL_length, sigP_len, headP_len, entryP_len, itemP_len, knownP_len, stP_len, Hash.h]; omega))) ?_
  refine JL_R rfl (R_fieldB (o' := 0) Try.underlying60 rfl ti23 rfl rfl rfl) ?_
  refine JL_R rfl (R_loadPH 0 Try.underlying23 rfl ti23 rfl (List.Mem.head _) rfl (by first | rfl | (simp [offP, sigP, headP, entryP, itemP, knownP]; done)) (by first | rfl | (simp [bcs_length, sb_length, numN_length, hL_length, sigP_len, headP_len, entryP_len, itemP_len, knownP_len, stP_len, Hash.h]; done) | omega | (simp [bcs_length, sb_length, numN_length, hL_length, sigP_len, headP_len, entryP_len, itemP_len, knownP_len, stP_len, Hash.h]; omega))) ?_
  refine JL_R rfl (R_eqV rfl rfl (eqv23 _ _) gd23 rfl) ?_
  refine JL_R rfl (R_assign rfl) ?_
  refine JL_nil ?_
  refine JQ_then ?_
  refine JC_ret ?_
  refine ret1 Try.results92 (RV_tmp rfl) ⟨rfl, rfl⟩ (Picks.nil _) rfl
end Go.Proofs.Ytkckakfkeooepaa
