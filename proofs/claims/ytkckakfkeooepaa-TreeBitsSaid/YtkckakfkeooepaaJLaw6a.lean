/- Law 6: known. -/
import Derived.Test.YtkckakfkeooepaaJTree9
import Derived.Test.YtkckakfkeooepaaJRef2
namespace Go.Proofs.Ytkckakfkeooepaa
set_option linter.all false
set_option linter.unusedSimpArgs false
set_option linter.unusedVariables false
set_option linter.unnecessarySimpa false
open Go.RowKit
/-- The example of 'known'. -/
def exE : Entry := ⟨⟨#[97]⟩, 1, 2⟩
def exX : Item := itemH exE
theorem ex_root0 : decide (rootT 256 (setK key []) = emptyH) = true := decide_eq_true (rootT_nil 256)
theorem ex_root1 (x : Item) : decide (rootT 256 (setK key [x]) = leafH x) = true := decide_eq_true (rootT_one 256 x)
theorem ex_ne : (!decide (leafH exX = emptyH)) = true := by rw [show decide (leafH exX = emptyH) = false by decide +kernel]; rfl
theorem ex_bit1 : decide (bitI (Hash.zero.put 0 64) 1 = 1) = true := by decide
theorem ex_bit0 : decide (bitI (Hash.zero.put 0 64) 300 = 0) = true := by decide
theorem ex_h64 : Try.prog.built 23 [(0, .int .u8 64)] = some (hL (Hash.zero.put 0 64)).toArray := by kernel_rfl
set_option maxRecDepth 100000 in
set_option maxHeartbeats 1000000 in
theorem c_known6  : CT Try.prog 29 [] [] [] (pV (.bool true)) := by
  refine CT_of Try.func29 rfl Try.ntmps29 rfl (fun w0 => ?_)
  refine JC_seq ?_
  refine JC_region ?_
  refine JL_R rfl (R_assign rfl) ?_
  refine JL_nil ?_
  refine JQ_then ?_
  refine JC_seq ?_
  refine JC_region ?_
  refine JL_R rfl (R_buildP zo108 pl108 (LaysP.cons rfl rfl rfl (by first | rfl | (simp [bcs_length, sb_length, numN_length, hL_length, sigP_len, headP_len, entryP_len, itemP_len, knownP_len, stP_len, Hash.h]; done) | omega | (simp [bcs_length, sb_length, numN_length, hL_length, sigP_len, headP_len, entryP_len, itemP_len, knownP_len, stP_len, Hash.h]; omega)) (LaysP.cons rfl rfl rfl (by first | rfl | (simp [bcs_length, sb_length, numN_length, hL_length, sigP_len, headP_len, entryP_len, itemP_len, knownP_len, stP_len, Hash.h]; done) | omega | (simp [bcs_length, sb_length, numN_length, hL_length, sigP_len, headP_len, entryP_len, itemP_len, knownP_len, stP_len, Hash.h]; omega)) (LaysP.cons rfl rfl rfl (by first | rfl | (simp [bcs_length, sb_length, numN_length, hL_length, sigP_len, headP_len, entryP_len, itemP_len, knownP_len, stP_len, Hash.h]; done) | omega | (simp [bcs_length, sb_length, numN_length, hL_length, sigP_len, headP_len, entryP_len, itemP_len, knownP_len, stP_len, Hash.h]; omega)) (LaysP.nil _)))) (rfl : _ = pl (entryP ⟨_, _, _⟩))) ?_
  refine JL_E rfl (E_callV ok84 rfl ents_nil (c_Item exE (by decide) (by decide))) ?_
  rintro _ _ ⟨rfl, rfl⟩
  refine JL_E rfl (E_allocA ti60) ?_
  rintro _ _ ⟨g1, rfl, rfl⟩
  refine JL_E0 (E_storeA ti60 rfl rfl (Pick.here _ _) (by first | rfl | (simp [bcs_length, sb_length, numN_length, hL_length, sigP_len, headP_len, entryP_len, itemP_len, knownP_len, stP_len, Hash.h]; done) | omega | (simp [bcs_length, sb_length, numN_length, hL_length, sigP_len, headP_len, entryP_len, itemP_len, knownP_len, stP_len, Hash.h]; omega)) (by first | exact hL_ones _ | exact headP_ones _ | exact itemP_ones _ | exact sigP_ones _ | exact entryP_ones _ | exact knownP_ones _ | exact stP_ones _ | exact ones1_int _ _ | exact bcs_ones _ | exact ones1.nil | (apply ones1.pl; simp [ones1, offP, sigP, headP, entryP, itemP, knownP]; done)) (by first | rfl | (simp [bcs_length, sb_length, numN_length, hL_length, sigP_len, headP_len, entryP_len, itemP_len, knownP_len, stP_len, Hash.h]; done) | omega | (simp [bcs_length, sb_length, numN_length, hL_length, sigP_len, headP_len, entryP_len, itemP_len, knownP_len, stP_len, Hash.h]; omega))) ?_
  rintro _ _ ⟨rfl, rfl⟩
  refine JL_nil ?_
  refine JQ_then ?_
  refine JC_seq ?_
  refine JC_draw [] rfl (.exec 0 (.exec 1 (.take 2 (.take 3 (.take 4 (.take 7 (.exec 5 (.exec 6 (.exec 8 (.take 9 (.take 10 (.take 11 (.take 12 (.exec 13 (.exec 14 (.take 15 (.take 16 (.take 17 (.take 18 (.take 19 (.exec 20 (.take 21 (.take 22 (.take 23 (.take 24 (.take 25 (.exec 26 (.take 27 (.take 28 (.take 29 (.take 30 (.exec 31 (.take 32 (.take 33 (.take 34 (.take 35 (.exec 36 (.take 37 (.take 38 (.take 39 (.take 40 (.take 41 (.exec 42 (.take 43 (.take 44 (.take 45 (.done))))))))))))))))))))))))))))))))))))))))))))))) _ (by kernel_rfl) (fun _ h => h) (by repeat (first | with_reducible exact Ret.noP | with_reducible apply NoP.block | with_reducible apply NoP.then)) ?_
  refine JP_E rfl rfl (E_callV ok34 rfl (ents_cons rd_nilE ents_nil) (c_Root _ _ _ [] rfl (by omega))) ?_
  rintro _ _ ⟨rfl, rfl⟩
  refine JPn_all (fun _ h => h) ?_
  refine JP_E rfl rfl (E_callV ok44 rfl ents_nil (c_Empty)) ?_
  rintro _ _ ⟨rfl, rfl⟩
  refine JPn_all (fun _ h => h) ?_
  refine JP_R rfl rfl rfl ((R_eqV rfl rfl (eqv23 _ _) gd23 rfl).eq (congrArg Value.bool ex_root0)) ?_
  refine JP_R rfl rfl rfl (R_move rfl) ?_
  refine JP_RG rfl rfl rfl rfl rfl rfl (R_load0 Try.underlying60 rfl ti60 rfl (List.Mem.head _) (by first | rfl | (simp [bcs_length, sb_length, numN_length, hL_length, sigP_len, headP_len, entryP_len, itemP_len, knownP_len, stP_len, Hash.h]; done) | omega | (simp [bcs_length, sb_length, numN_length, hL_length, sigP_len, headP_len, entryP_len, itemP_len, knownP_len, stP_len, Hash.h]; omega))) ?_
  refine JP_RG rfl rfl rfl rfl rfl rfl (R_load0 Try.underlying60 rfl ti60 rfl (List.Mem.head _) (by first | rfl | (simp [bcs_length, sb_length, numN_length, hL_length, sigP_len, headP_len, entryP_len, itemP_len, knownP_len, stP_len, Hash.h]; done) | omega | (simp [bcs_length, sb_length, numN_length, hL_length, sigP_len, headP_len, entryP_len, itemP_len, knownP_len, stP_len, Hash.h]; omega))) ?_
  refine JP_EG rfl rfl rfl rfl rfl (E_row1 Try.underlying51 ti60 rfl rfl rfl rfl (by first | rfl | (simp [bcs_length, sb_length, numN_length, hL_length, sigP_len, headP_len, entryP_len, itemP_len, knownP_len, stP_len, Hash.h]; done) | omega | (simp [bcs_length, sb_length, numN_length, hL_length, sigP_len, headP_len, entryP_len, itemP_len, knownP_len, stP_len, Hash.h]; omega))) ?_
  rintro _ _ ⟨g2, rfl, rfl⟩
  refine JPn_all (fun _ h => List.Mem.tail _ h) ?_
  refine JP_EG rfl rfl rfl rfl rfl (E_callV ok34 rfl (ents_cons (rd_own (List.Mem.head _)) ents_nil) (c_Root _ _ _ [exX] rfl (by omega))) ?_
  rintro _ _ ⟨rfl, rfl⟩
  refine JPn_all (fun _ h => h) ?_
  refine JP_EG rfl rfl rfl rfl rfl (E_callV ok40 rfl ents_nil (c_Leaf _)) ?_
  rintro _ _ ⟨rfl, rfl⟩
  refine JPn_all (fun _ h => h) ?_
  refine JP_RG rfl rfl rfl rfl rfl rfl ((R_eqV rfl rfl (eqv23 _ _) gd23 rfl).eq (congrArg Value.bool (ex_root1 _))) ?_
  first
    | refine JP_R rfl rfl rfl (R_pick_true rfl rfl) ?_
    | refine JP_R rfl rfl rfl (R_pick_false rfl rfl) ?_
    | refine JP_R rfl rfl rfl (R_pick_and rfl rfl) ?_
    | refine JP_R rfl rfl rfl (R_pick_or rfl rfl) ?_
    | refine JP_R rfl rfl rfl (R_pick rfl rfl rfl) ?_
  refine JP_R rfl rfl rfl (R_move rfl) ?_
  refine JP_RG rfl rfl rfl rfl rfl rfl (R_load0 Try.underlying60 rfl ti60 rfl (List.Mem.tail _ (List.Mem.head _)) (by first | rfl | (simp [bcs_length, sb_length, numN_length, hL_length, sigP_len, headP_len, entryP_len, itemP_len, knownP_len, stP_len, Hash.h]; done) | omega | (simp [bcs_length, sb_length, numN_length, hL_length, sigP_len, headP_len, entryP_len, itemP_len, knownP_len, stP_len, Hash.h]; omega))) ?_
  refine JP_EG rfl rfl rfl rfl rfl (E_callV ok40 rfl ents_nil (c_Leaf _)) ?_
  rintro _ _ ⟨rfl, rfl⟩
  refine JPn_all (fun _ h => h) ?_
  refine JP_EG rfl rfl rfl rfl rfl (E_callV ok44 rfl ents_nil (c_Empty)) ?_
  rintro _ _ ⟨rfl, rfl⟩
  refine JPn_all (fun _ h => h) ?_
  refine JP_RG rfl rfl rfl rfl rfl rfl ((R_neV rfl rfl (eqv23 _ _) gd23 rfl).eq (congrArg Value.bool ex_ne)) ?_
  first
    | refine JP_R rfl rfl rfl (R_pick_true rfl rfl) ?_
    | refine JP_R rfl rfl rfl (R_pick_false rfl rfl) ?_
    | refine JP_R rfl rfl rfl (R_pick_and rfl rfl) ?_
    | refine JP_R rfl rfl rfl (R_pick_or rfl rfl) ?_
    | refine JP_R rfl rfl rfl (R_pick rfl rfl rfl) ?_
  refine JP_R rfl rfl rfl (R_move rfl) ?_
  refine JP_RG rfl rfl rfl rfl rfl rfl (R_fieldB (o' := 0) Try.underlying60 rfl ti23 rfl rfl rfl) ?_
  refine JP_RG rfl rfl rfl rfl rfl rfl (R_loadPH 0 Try.underlying23 rfl ti23 rfl (List.Mem.tail _ (List.Mem.head _)) rfl (by first | rfl | (simp [offP, sigP, headP, entryP, itemP, knownP]; done)) (by first | rfl | (simp [bcs_length, sb_length, numN_length, hL_length, sigP_len, headP_len, entryP_len, itemP_len, knownP_len, stP_len, Hash.h]; done) | omega | (simp [bcs_length, sb_length, numN_length, hL_length, sigP_len, headP_len, entryP_len, itemP_len, knownP_len, stP_len, Hash.h]; omega))) ?_
  refine JP_EG rfl rfl rfl rfl rfl (E_callV ok36 rfl ents_nil (c_Index exE.name (by decide))) ?_
  rintro _ _ ⟨rfl, rfl⟩
  refine JPn_all (fun _ h => h) ?_
  refine JP_RG rfl rfl rfl rfl rfl rfl ((R_eqV rfl rfl (eqv23 _ _) gd23 rfl).eq (congrArg Value.bool (decide_eq_true rfl))) ?_
  first
    | refine JP_R rfl rfl rfl (R_pick_true rfl rfl) ?_
    | refine JP_R rfl rfl rfl (R_pick_false rfl rfl) ?_
    | refine JP_R rfl rfl rfl (R_pick_and rfl rfl) ?_
    | refine JP_R rfl rfl rfl (R_pick_or rfl rfl) ?_
    | refine JP_R rfl rfl rfl (R_pick rfl rfl rfl) ?_
  refine JP_R rfl rfl rfl (R_move rfl) ?_
  refine JP_RG rfl rfl rfl rfl rfl rfl (R_fieldB (o' := 32) Try.underlying60 rfl ti23 rfl rfl rfl) ?_
  refine JP_RG rfl rfl rfl rfl rfl rfl (R_loadPH 1 Try.underlying23 rfl ti23 rfl (List.Mem.tail _ (List.Mem.head _)) rfl (by first | rfl | (simp [offP, sigP, headP, entryP, itemP, knownP]; done)) (by first | rfl | (simp [bcs_length, sb_length, numN_length, hL_length, sigP_len, headP_len, entryP_len, itemP_len, knownP_len, stP_len, Hash.h]; done) | omega | (simp [bcs_length, sb_length, numN_length, hL_length, sigP_len, headP_len, entryP_len, itemP_len, knownP_len, stP_len, Hash.h]; omega))) ?_
  refine JP_EG rfl rfl rfl rfl rfl (E_callV ok38 rfl ents_nil (c_Value _ _ (by omega))) ?_
  rintro _ _ ⟨rfl, rfl⟩
  refine JPn_all (fun _ h => h) ?_
  refine JP_RG rfl rfl rfl rfl rfl rfl ((R_eqV rfl rfl (eqv23 _ _) gd23 rfl).eq (congrArg Value.bool (decide_eq_true rfl))) ?_
  first
    | refine JP_R rfl rfl rfl (R_pick_true rfl rfl) ?_
    | refine JP_R rfl rfl rfl (R_pick_false rfl rfl) ?_
    | refine JP_R rfl rfl rfl (R_pick_and rfl rfl) ?_
    | refine JP_R rfl rfl rfl (R_pick_or rfl rfl) ?_
    | refine JP_R rfl rfl rfl (R_pick rfl rfl rfl) ?_
  refine JP_R rfl rfl rfl (R_move rfl) ?_
  refine JP_RG rfl rfl rfl rfl rfl rfl (R_build_run (vs := [(0, .int .u8 64)]) rfl ex_h64) ?_
  refine JP_EG rfl rfl rfl rfl rfl (E_callV ok46 rfl ents_nil (c_Bit _ _)) ?_
  rintro _ _ ⟨rfl, rfl⟩
  refine JPn_all (fun _ h => h) ?_
  refine JP_RG rfl rfl rfl rfl rfl rfl ((R_eq rfl rfl).eq (congrArg Value.bool ex_bit1)) ?_
  first
    | refine JP_R rfl rfl rfl (R_pick_true rfl rfl) ?_
    | refine JP_R rfl rfl rfl (R_pick_false rfl rfl) ?_
    | refine JP_R rfl rfl rfl (R_pick_and rfl rfl) ?_
    | refine JP_R rfl rfl rfl (R_pick_or rfl rfl) ?_
    | refine JP_R rfl rfl rfl (R_pick rfl rfl rfl) ?_
  refine JP_R rfl rfl rfl (R_move rfl) ?_
  refine JP_RG rfl rfl rfl rfl rfl rfl (R_build_run (vs := [(0, .int .u8 64)]) rfl ex_h64) ?_
  refine JP_EG rfl rfl rfl rfl rfl (E_callV ok46 rfl ents_nil (c_Bit _ _)) ?_
  rintro _ _ ⟨rfl, rfl⟩
  refine JPn_all (fun _ h => h) ?_
  refine JP_RG rfl rfl rfl rfl rfl rfl ((R_eq rfl rfl).eq (congrArg Value.bool ex_bit0)) ?_
  first
    | refine JP_R rfl rfl rfl (R_pick_true rfl rfl) ?_
    | refine JP_R rfl rfl rfl (R_pick_false rfl rfl) ?_
    | refine JP_R rfl rfl rfl (R_pick_and rfl rfl) ?_
    | refine JP_R rfl rfl rfl (R_pick_or rfl rfl) ?_
    | refine JP_R rfl rfl rfl (R_pick rfl rfl rfl) ?_
  refine JP_R rfl rfl rfl (R_move rfl) ?_
  refine JP_RG rfl rfl rfl rfl rfl rfl (R_fieldB (o' := 0) Try.underlying60 rfl ti23 rfl rfl rfl) ?_
  refine JP_RG rfl rfl rfl rfl rfl rfl (R_loadPH 0 Try.underlying23 rfl ti23 rfl (List.Mem.tail _ (List.Mem.head _)) rfl (by first | rfl | (simp [offP, sigP, headP, entryP, itemP, knownP]; done)) (by first | rfl | (simp [bcs_length, sb_length, numN_length, hL_length, sigP_len, headP_len, entryP_len, itemP_len, knownP_len, stP_len, Hash.h]; done) | omega | (simp [bcs_length, sb_length, numN_length, hL_length, sigP_len, headP_len, entryP_len, itemP_len, knownP_len, stP_len, Hash.h]; omega))) ?_
  refine JP_EG rfl rfl rfl rfl rfl (E_callV ok37 rfl ents_nil (c_rIndex exE.name (by decide))) ?_
  rintro _ _ ⟨rfl, rfl⟩
  refine JPn_all (fun _ h => h) ?_
  refine JP_RG rfl rfl rfl rfl rfl rfl ((R_eqV rfl rfl (eqv23 _ _) gd23 rfl).eq (congrArg Value.bool (decide_eq_true rfl))) ?_
  first
    | refine JP_R rfl rfl rfl (R_pick_true rfl rfl) ?_
    | refine JP_R rfl rfl rfl (R_pick_false rfl rfl) ?_
    | refine JP_R rfl rfl rfl (R_pick_and rfl rfl) ?_
    | refine JP_R rfl rfl rfl (R_pick_or rfl rfl) ?_
    | refine JP_R rfl rfl rfl (R_pick rfl rfl rfl) ?_
  refine JP_R rfl rfl rfl (R_assign rfl) ?_
  refine JP_done ?_
  refine JQ_then ?_
  refine JC_ret ?_
  refine ret1 Try.results29 (RV_tmp rfl) ⟨rfl, rfl⟩ (Picks.nil _) rfl
end Go.Proofs.Ytkckakfkeooepaa
