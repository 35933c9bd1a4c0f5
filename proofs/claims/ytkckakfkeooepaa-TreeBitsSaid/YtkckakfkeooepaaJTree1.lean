/- The hashes of package tree. -/
import Derived.Test.YtkckakfkeooepaaJB1
namespace Go.Proofs.Ytkckakfkeooepaa
set_option linter.all false
set_option linter.unusedSimpArgs false
set_option linter.unusedVariables false
set_option linter.unnecessarySimpa false
open Go.RowKit
def nodeH (l r : Hash) : Hash := tagB 110 [l.l, r.l]
def leafH (x : Item) : Hash := tagB 108 [x.index.l, x.value.l]
def emptyH : Hash := tagB 122 []
def indexH (s : ByteArray) : Hash := tagB 105 [sb s]
def valueH (version key : Int) : Hash := tagB 118 [numN (IntKind.u64.wrap version).toNat, numN key.toNat]
def itemH (e : Entry) : Item := ⟨indexH e.name, valueH e.version e.key⟩
set_option maxRecDepth 100000 in
set_option maxHeartbeats 1000000 in
theorem c_Empty  : CT Try.prog 44 [] [] [] (pV (.agg (hL (emptyH)).toArray)) := by
  refine CT_of Try.func44 rfl Try.ntmps44 rfl (fun w0 => ?_)
  refine JC_seq ?_
  refine JC_region ?_
  refine JL_E rfl (E_allocA ti23) ?_
  rintro _ _ ⟨g1, rfl, rfl⟩
  refine JL_nil ?_
  refine JQ_then ?_
  refine JC_seq ?_
  refine JC_region ?_
  refine JL_E rfl (E_callV ok96 rfl (ents_cons rdB_nil ents_nil) (c_Tag _ (by omega) _ _ _ _ rfl (by omega) (by first | omega | (simp [bcs_length, sb_length, numN_length, hL_length, sigP_len, headP_len, entryP_len, itemP_len, knownP_len, stP_len, Hash.h]; done) | (simp [bcs_length, sb_length, numN_length, hL_length, sigP_len, headP_len, entryP_len, itemP_len, knownP_len, stP_len, Hash.h]; omega)))) ?_
  rintro _ _ ⟨rfl, rfl⟩
  refine JL_E0 (E_storeA ti23 rfl rfl (Pick.here _ _) (by first | rfl | (simp [bcs_length, sb_length, numN_length, hL_length, sigP_len, headP_len, entryP_len, itemP_len, knownP_len, stP_len, Hash.h]; done) | omega | (simp [bcs_length, sb_length, numN_length, hL_length, sigP_len, headP_len, entryP_len, itemP_len, knownP_len, stP_len, Hash.h]; omega)) (by first | exact hL_ones _ | exact headP_ones _ | exact itemP_ones _ | exact sigP_ones _ | exact entryP_ones _ | exact knownP_ones _ | exact stP_ones _ | exact ones1_int _ _ | exact bcs_ones _ | exact ones1.nil | (apply ones1.pl; simp [ones1, offP, sigP, headP, entryP, itemP, knownP]; done)) (by first | rfl | (simp [bcs_length, sb_length, numN_length, hL_length, sigP_len, headP_len, entryP_len, itemP_len, knownP_len, stP_len, Hash.h]; done) | omega | (simp [bcs_length, sb_length, numN_length, hL_length, sigP_len, headP_len, entryP_len, itemP_len, knownP_len, stP_len, Hash.h]; omega))) ?_
  rintro _ _ ⟨rfl, rfl⟩
  refine JL_nil ?_
  refine JQ_then ?_
  refine JC_ret ?_
  refine ret1 Try.results44 (RV_cell rfl Try.underlying23 rfl ti23 (List.Mem.head _) (by first | rfl | (simp [bcs_length, sb_length, numN_length, hL_length, sigP_len, headP_len, entryP_len, itemP_len, knownP_len, stP_len, Hash.h]; done) | omega | (simp [bcs_length, sb_length, numN_length, hL_length, sigP_len, headP_len, entryP_len, itemP_len, knownP_len, stP_len, Hash.h]; omega))) ⟨rfl, rfl⟩ (Picks.nil _) rfl
set_option maxRecDepth 100000 in
set_option maxHeartbeats 1000000 in
theorem c_Node (l r : Hash) : CT Try.prog 42 [.agg (hL l).toArray, .agg (hL r).toArray] [] [] (pV (.agg (hL (nodeH l r)).toArray)) := by
  refine CT_of Try.func42 rfl Try.ntmps42 rfl (fun w0 => ?_)
  refine JC_seq ?_
  refine JC_region ?_
  refine JL_E rfl (E_boxA rfl) ?_
  rintro _ _ ⟨g1, rfl, rfl⟩
  refine JL_E rfl (E_boxA rfl) ?_
  rintro _ _ ⟨g2, rfl, rfl⟩
  refine JL_E rfl (E_allocA ti23) ?_
  rintro _ _ ⟨g3, rfl, rfl⟩
  refine JL_nil ?_
  refine JQ_then ?_
  refine JC_seq ?_
  refine JC_draw [] rfl (.take 0 (.take 1 (.exec 2 (.exec 3 (.exec 4 (.done)))))) _ (by kernel_rfl) (fun _ h => h) (by repeat (first | with_reducible exact Ret.noP | with_reducible apply NoP.block | with_reducible apply NoP.then)) ?_
  refine JP_R rfl rfl rfl (R_sliceArr Try.underlying23 ti5 (by decide) rfl) ?_
  refine JP_R rfl rfl rfl (R_sliceArr Try.underlying23 ti5 (by decide) rfl) ?_
  refine JP_E rfl rfl (E_rowV Try.underlying89 ti29 rfl rfl (PartsV.cons rfl rfl (PartsV.cons rfl rfl (PartsV.nil _))) rfl) ?_
  rintro _ _ ⟨g4, rfl, rfl⟩
  refine JPn_bar (by kernel_rfl) ?_
  refine JP_E rfl rfl (E_callV ok96 rfl (ents_cons (rdB_of (rd_own (List.Mem.head _)) (BPs.cons (rd_blk (List.Mem.tail _ (List.Mem.tail _ (List.Mem.tail _ (List.Mem.head _))))) (by first | rfl | (simp [bcs_length, sb_length, numN_length, hL_length, sigP_len, headP_len, entryP_len, itemP_len, knownP_len, stP_len, Hash.h]; done) | omega | (simp [bcs_length, sb_length, numN_length, hL_length, sigP_len, headP_len, entryP_len, itemP_len, knownP_len, stP_len, Hash.h]; omega)) (BPs.cons (rd_blk (List.Mem.tail _ (List.Mem.tail _ (List.Mem.head _)))) (by first | rfl | (simp [bcs_length, sb_length, numN_length, hL_length, sigP_len, headP_len, entryP_len, itemP_len, knownP_len, stP_len, Hash.h]; done) | omega | (simp [bcs_length, sb_length, numN_length, hL_length, sigP_len, headP_len, entryP_len, itemP_len, knownP_len, stP_len, Hash.h]; omega)) BPs.nil))) ents_nil) (c_Tag _ (by omega) _ _ _ _ rfl (by omega) (by first | omega | (simp [bcs_length, sb_length, numN_length, hL_length, sigP_len, headP_len, entryP_len, itemP_len, knownP_len, stP_len, Hash.h]; done) | (simp [bcs_length, sb_length, numN_length, hL_length, sigP_len, headP_len, entryP_len, itemP_len, knownP_len, stP_len, Hash.h]; omega)))) ?_
  rintro _ _ ⟨rfl, rfl⟩
  refine JPn_bar (by kernel_rfl) ?_
  refine JP_E0 rfl (E_storeA ti23 rfl rfl (Pick.there _ (Pick.here _ _)) (by first | rfl | (simp [bcs_length, sb_length, numN_length, hL_length, sigP_len, headP_len, entryP_len, itemP_len, knownP_len, stP_len, Hash.h]; done) | omega | (simp [bcs_length, sb_length, numN_length, hL_length, sigP_len, headP_len, entryP_len, itemP_len, knownP_len, stP_len, Hash.h]; omega)) (by first | exact hL_ones _ | exact headP_ones _ | exact itemP_ones _ | exact sigP_ones _ | exact entryP_ones _ | exact knownP_ones _ | exact stP_ones _ | exact ones1_int _ _ | exact bcs_ones _ | exact ones1.nil | (apply ones1.pl; simp [ones1, offP, sigP, headP, entryP, itemP, knownP]; done)) (by first | rfl | (simp [bcs_length, sb_length, numN_length, hL_length, sigP_len, headP_len, entryP_len, itemP_len, knownP_len, stP_len, Hash.h]; done) | omega | (simp [bcs_length, sb_length, numN_length, hL_length, sigP_len, headP_len, entryP_len, itemP_len, knownP_len, stP_len, Hash.h]; omega))) ?_
  rintro _ _ ⟨rfl, rfl⟩
  refine JPn_bar (by kernel_rfl) ?_
  refine JP_done ?_
  refine JQ_then ?_
  refine JC_ret ?_
  refine ret1 Try.results42 (RV_cell rfl Try.underlying23 rfl ti23 (List.Mem.head _) (by first | rfl | (simp [bcs_length, sb_length, numN_length, hL_length, sigP_len, headP_len, entryP_len, itemP_len, knownP_len, stP_len, Hash.h]; done) | omega | (simp [bcs_length, sb_length, numN_length, hL_length, sigP_len, headP_len, entryP_len, itemP_len, knownP_len, stP_len, Hash.h]; omega))) ⟨rfl, rfl⟩ (Picks.nil _) rfl
set_option maxRecDepth 100000 in
set_option maxHeartbeats 1000000 in
theorem c_Leaf (x : Item) : CT Try.prog 40 [.agg (pl (itemP x)).toArray] [] [] (pV (.agg (hL (leafH x)).toArray)) := by
  refine CT_of Try.func40 rfl Try.ntmps40 rfl (fun w0 => ?_)
  refine JC_seq ?_
  refine JC_region ?_
  refine JL_E rfl (E_boxA rfl) ?_
  rintro _ _ ⟨g1, rfl, rfl⟩
  refine JL_E rfl (E_allocA ti23) ?_
  rintro _ _ ⟨g2, rfl, rfl⟩
  refine JL_nil ?_
  refine JQ_then ?_
  refine JC_seq ?_
  refine JC_draw [] rfl (.take 0 (.take 1 (.take 2 (.take 3 (.exec 4 (.exec 5 (.exec 6 (.done)))))))) _ (by kernel_rfl) (fun _ h => h) (by repeat (first | with_reducible exact Ret.noP | with_reducible apply NoP.block | with_reducible apply NoP.then)) ?_
  refine JP_R rfl rfl rfl (R_fieldB (o' := 0) Try.underlying60 rfl ti23 rfl rfl rfl) ?_
  refine JP_R rfl rfl rfl (R_sliceArr Try.underlying23 ti5 (by decide) rfl) ?_
  refine JP_R rfl rfl rfl (R_fieldB (o' := 32) Try.underlying60 rfl ti23 rfl rfl rfl) ?_
  refine JP_R rfl rfl rfl (R_sliceArr Try.underlying23 ti5 (by decide) rfl) ?_
  refine JP_E rfl rfl (E_rowV Try.underlying89 ti29 rfl rfl (PartsV.cons rfl rfl (PartsV.cons rfl rfl (PartsV.nil _))) rfl) ?_
  rintro _ _ ⟨g3, rfl, rfl⟩
  refine JPn_bar (by kernel_rfl) ?_
  refine JP_E rfl rfl (E_callV ok96 rfl (ents_cons (rdB_of (rd_own (List.Mem.head _)) (BPs.cons (rd_blkP 0 (List.Mem.tail _ (List.Mem.tail _ (List.Mem.head _))) rfl (by first | rfl | (simp [offP, sigP, headP, entryP, itemP, knownP]; done))) (by first | rfl | (simp [bcs_length, sb_length, numN_length, hL_length, sigP_len, headP_len, entryP_len, itemP_len, knownP_len, stP_len, Hash.h]; done) | omega | (simp [bcs_length, sb_length, numN_length, hL_length, sigP_len, headP_len, entryP_len, itemP_len, knownP_len, stP_len, Hash.h]; omega)) (BPs.cons (rd_blkP 1 (List.Mem.tail _ (List.Mem.tail _ (List.Mem.head _))) rfl (by first | rfl | (simp [offP, sigP, headP, entryP, itemP, knownP]; done))) (by first | rfl | (simp [bcs_length, sb_length, numN_length, hL_length, sigP_len, headP_len, entryP_len, itemP_len, knownP_len, stP_len, Hash.h]; done) | omega | (simp [bcs_length, sb_length, numN_length, hL_length, sigP_len, headP_len, entryP_len, itemP_len, knownP_len, stP_len, Hash.h]; omega)) BPs.nil))) ents_nil) (c_Tag _ (by omega) _ _ _ _ rfl (by omega) (by first | omega | (simp [bcs_length, sb_length, numN_length, hL_length, sigP_len, headP_len, entryP_len, itemP_len, knownP_len, stP_len, Hash.h]; done) | (simp [bcs_length, sb_length, numN_length, hL_length, sigP_len, headP_len, entryP_len, itemP_len, knownP_len, stP_len, Hash.h]; omega)))) ?_
  rintro _ _ ⟨rfl, rfl⟩
  refine JPn_all (fun _ h => h) ?_
  refine JP_E0 rfl (E_storeA ti23 rfl rfl (Pick.there _ (Pick.here _ _)) (by first | rfl | (simp [bcs_length, sb_length, numN_length, hL_length, sigP_len, headP_len, entryP_len, itemP_len, knownP_len, stP_len, Hash.h]; done) | omega | (simp [bcs_length, sb_length, numN_length, hL_length, sigP_len, headP_len, entryP_len, itemP_len, knownP_len, stP_len, Hash.h]; omega)) (by first | exact hL_ones _ | exact headP_ones _ | exact itemP_ones _ | exact sigP_ones _ | exact entryP_ones _ | exact knownP_ones _ | exact stP_ones _ | exact ones1_int _ _ | exact bcs_ones _ | exact ones1.nil | (apply ones1.pl; simp [ones1, offP, sigP, headP, entryP, itemP, knownP]; done)) (by first | rfl | (simp [bcs_length, sb_length, numN_length, hL_length, sigP_len, headP_len, entryP_len, itemP_len, knownP_len, stP_len, Hash.h]; done) | omega | (simp [bcs_length, sb_length, numN_length, hL_length, sigP_len, headP_len, entryP_len, itemP_len, knownP_len, stP_len, Hash.h]; omega))) ?_
  rintro _ _ ⟨rfl, rfl⟩
  refine JPn_bar (by kernel_rfl) ?_
  refine JP_done ?_
  refine JQ_then ?_
  refine JC_ret ?_
  refine ret1 Try.results40 (RV_cell rfl Try.underlying23 rfl ti23 (List.Mem.head _) (by first | rfl | (simp [bcs_length, sb_length, numN_length, hL_length, sigP_len, headP_len, entryP_len, itemP_len, knownP_len, stP_len, Hash.h]; done) | omega | (simp [bcs_length, sb_length, numN_length, hL_length, sigP_len, headP_len, entryP_len, itemP_len, knownP_len, stP_len, Hash.h]; omega))) ⟨rfl, rfl⟩ (Picks.nil _) rfl
set_option maxRecDepth 100000 in
set_option maxHeartbeats 1000000 in
theorem c_Index (s : ByteArray) (hs : s.size ≤ 16000000) : CT Try.prog 36 [.string s] [] [] (pV (.agg (hL (indexH s)).toArray)) := by
  refine CT_of Try.func36 rfl Try.ntmps36 rfl (fun w0 => ?_)
  refine JC_seq ?_
  refine JC_region ?_
  refine JL_E rfl (E_allocA ti23) ?_
  rintro _ _ ⟨g1, rfl, rfl⟩
  refine JL_nil ?_
  refine JQ_then ?_
  refine JC_seq ?_
  refine JC_region ?_
  refine JL_R rfl (R_move rfl) ?_
  refine JL_E rfl (E_bytes Try.underlying9 Try.underlying29 Try.underlying5 rfl) ?_
  rintro _ _ ⟨A2, c3, rfl, hc3, rfl⟩
  refine JL_E rfl (E_rowV Try.underlying89 ti29 rfl rfl (PartsV.cons rfl rfl (PartsV.nil _)) rfl) ?_
  rintro _ _ ⟨g4, rfl, rfl⟩
  refine JL_E rfl (E_callV ok96 rfl (ents_cons (rdB_of (rd_own (List.Mem.head _)) (BPs.cons (rd_new (List.Mem.tail _ (List.Mem.head _))) (by first | rfl | (simp [bcs_length, sb_length, numN_length, hL_length, sigP_len, headP_len, entryP_len, itemP_len, knownP_len, stP_len, Hash.h]; done) | omega | (simp [bcs_length, sb_length, numN_length, hL_length, sigP_len, headP_len, entryP_len, itemP_len, knownP_len, stP_len, Hash.h]; omega)) BPs.nil)) ents_nil) (c_Tag _ (by omega) _ _ _ _ rfl (by omega) (by first | omega | (simp [bcs_length, sb_length, numN_length, hL_length, sigP_len, headP_len, entryP_len, itemP_len, knownP_len, stP_len, Hash.h]; done) | (simp [bcs_length, sb_length, numN_length, hL_length, sigP_len, headP_len, entryP_len, itemP_len, knownP_len, stP_len, Hash.h]; omega)))) ?_
  rintro _ _ ⟨rfl, rfl⟩
  refine JL_E0 (E_storeA ti23 rfl rfl (Pick.there _ (Pick.there _ (Pick.here _ _))) (by first | rfl | (simp [bcs_length, sb_length, numN_length, hL_length, sigP_len, headP_len, entryP_len, itemP_len, knownP_len, stP_len, Hash.h]; done) | omega | (simp [bcs_length, sb_length, numN_length, hL_length, sigP_len, headP_len, entryP_len, itemP_len, knownP_len, stP_len, Hash.h]; omega)) (by first | exact hL_ones _ | exact headP_ones _ | exact itemP_ones _ | exact sigP_ones _ | exact entryP_ones _ | exact knownP_ones _ | exact stP_ones _ | exact ones1_int _ _ | exact bcs_ones _ | exact ones1.nil | (apply ones1.pl; simp [ones1, offP, sigP, headP, entryP, itemP, knownP]; done)) (by first | rfl | (simp [bcs_length, sb_length, numN_length, hL_length, sigP_len, headP_len, entryP_len, itemP_len, knownP_len, stP_len, Hash.h]; done) | omega | (simp [bcs_length, sb_length, numN_length, hL_length, sigP_len, headP_len, entryP_len, itemP_len, knownP_len, stP_len, Hash.h]; omega))) ?_
  rintro _ _ ⟨rfl, rfl⟩
  refine JL_nil ?_
  refine JQ_then ?_
  refine JC_ret ?_
  refine ret1 Try.results36 (RV_cell rfl Try.underlying23 rfl ti23 (List.Mem.head _) (by first | rfl | (simp [bcs_length, sb_length, numN_length, hL_length, sigP_len, headP_len, entryP_len, itemP_len, knownP_len, stP_len, Hash.h]; done) | omega | (simp [bcs_length, sb_length, numN_length, hL_length, sigP_len, headP_len, entryP_len, itemP_len, knownP_len, stP_len, Hash.h]; omega))) ⟨rfl, rfl⟩ (Picks.nil _) rfl
set_option maxRecDepth 100000 in
set_option maxHeartbeats 1000000 in
theorem c_Value (version key : Int) (hk : 0 ≤ key) : CT Try.prog 38 [.int .i64 version, .int .u64 key] [] [] (pV (.agg (hL (valueH version key)).toArray)) := by
  refine CT_of Try.func38 rfl Try.ntmps38 rfl (fun w0 => ?_)
  refine JC_seq ?_
  refine JC_region ?_
  refine JL_E rfl (E_allocA ti23) ?_
  rintro _ _ ⟨g1, rfl, rfl⟩
  refine JL_nil ?_
  refine JQ_then ?_
  refine JC_seq ?_
  refine JC_region ?_
  refine JL_R rfl (R_move rfl) ?_
  first
    | refine JL_R rfl ((R_conv Try.underlying3 Try.underlying24 rfl).eq (u64_in (by omega))) ?_
    | refine JL_R rfl (R_conv Try.underlying3 Try.underlying24 rfl) ?_
  refine JL_E rfl (E_callO ok75 rfl ents_nil (c_Num _ (by first | omega | exact wrap_u64_nonneg _))) ?_
  rintro _ _ ⟨A2, c3, rfl, rfl⟩
  refine JL_R rfl (R_move rfl) ?_
  refine JL_E rfl (E_callO ok75 rfl ents_nil (c_Num _ (by first | omega | exact wrap_u64_nonneg _))) ?_
  rintro _ _ ⟨A4, c5, rfl, rfl⟩
  refine JL_E rfl (E_rowV Try.underlying89 ti29 rfl rfl (PartsV.cons rfl rfl (PartsV.cons rfl rfl (PartsV.nil _))) rfl) ?_
  rintro _ _ ⟨g6, rfl, rfl⟩
  refine JL_E rfl (E_callV ok96 rfl (ents_cons (rdB_of (rd_own (List.Mem.head _)) (BPs.cons (rd_own (List.Mem.tail _ (List.Mem.tail _ (List.Mem.head _)))) (by first | rfl | (simp [bcs_length, sb_length, numN_length, hL_length, sigP_len, headP_len, entryP_len, itemP_len, knownP_len, stP_len, Hash.h]; done) | omega | (simp [bcs_length, sb_length, numN_length, hL_length, sigP_len, headP_len, entryP_len, itemP_len, knownP_len, stP_len, Hash.h]; omega)) (BPs.cons (rd_own (List.Mem.tail _ (List.Mem.head _))) (by first | rfl | (simp [bcs_length, sb_length, numN_length, hL_length, sigP_len, headP_len, entryP_len, itemP_len, knownP_len, stP_len, Hash.h]; done) | omega | (simp [bcs_length, sb_length, numN_length, hL_length, sigP_len, headP_len, entryP_len, itemP_len, knownP_len, stP_len, Hash.h]; omega)) BPs.nil))) ents_nil) (c_Tag _ (by omega) _ _ _ _ rfl (by omega) (by first | omega | (simp [bcs_length, sb_length, numN_length, hL_length, sigP_len, headP_len, entryP_len, itemP_len, knownP_len, stP_len, Hash.h]; done) | (simp [bcs_length, sb_length, numN_length, hL_length, sigP_len, headP_len, entryP_len, itemP_len, knownP_len, stP_len, Hash.h]; omega)))) ?_
  rintro _ _ ⟨rfl, rfl⟩
  refine JL_E0 (E_storeA ti23 rfl rfl (Pick.there _ (Pick.there _ (Pick.there _ (Pick.here _ _)))) (by first | rfl | (simp [bcs_length, sb_length, numN_length, hL_length, sigP_len, headP_len, entryP_len, itemP_len, knownP_len, stP_len, Hash.h]; done) | omega | (simp [bcs_length, sb_length, numN_length, hL_length, sigP_len, headP_len, entryP_len, itemP_len, knownP_len, stP_len, Hash.h]; omega)) (by first | exact hL_ones _ | exact headP_ones _ | exact itemP_ones _ | exact sigP_ones _ | exact entryP_ones _ | exact knownP_ones _ | exact stP_ones _ | exact ones1_int _ _ | exact bcs_ones _ | exact ones1.nil | (apply ones1.pl; simp [ones1, offP, sigP, headP, entryP, itemP, knownP]; done)) (by first | rfl | (simp [bcs_length, sb_length, numN_length, hL_length, sigP_len, headP_len, entryP_len, itemP_len, knownP_len, stP_len, Hash.h]; done) | omega | (simp [bcs_length, sb_length, numN_length, hL_length, sigP_len, headP_len, entryP_len, itemP_len, knownP_len, stP_len, Hash.h]; omega))) ?_
  rintro _ _ ⟨rfl, rfl⟩
  refine JL_nil ?_
  refine JQ_then ?_
  refine JC_ret ?_
  refine ret1 Try.results38 (RV_cell rfl Try.underlying23 rfl ti23 (List.Mem.head _) (by first | rfl | (simp [bcs_length, sb_length, numN_length, hL_length, sigP_len, headP_len, entryP_len, itemP_len, knownP_len, stP_len, Hash.h]; done) | omega | (simp [bcs_length, sb_length, numN_length, hL_length, sigP_len, headP_len, entryP_len, itemP_len, knownP_len, stP_len, Hash.h]; omega))) ⟨rfl, rfl⟩ (Picks.nil _) rfl
end Go.Proofs.Ytkckakfkeooepaa
