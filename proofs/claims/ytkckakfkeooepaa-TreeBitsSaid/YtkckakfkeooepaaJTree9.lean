/- Package tree: roots. -/
import Derived.Test.YtkckakfkeooepaaJTree8
namespace Go.Proofs.Ytkckakfkeooepaa
set_option linter.all false
set_option linter.unusedSimpArgs false
set_option linter.unusedVariables false
set_option linter.unnecessarySimpa false
open Go.RowKit
set_option maxRecDepth 100000 in
set_option maxHeartbeats 1000000 in
theorem c_Below_step (f : Nat) (A : Option Addr) (n c : Nat) (l : List Item) (i : Int) (hi : i = 256 - (f : Int)) (hf : f ≤ 256) (hn : l.length = n) (hc : n ≤ c) (hN : n ≤ 1000000) (hs : Str key l) (hl : Like f l) (ih : ∀ f0 < f, ∀ (A : Option Addr) (n c : Nat) (l : List Item) (i : Int) (hi : i = 256 - (f0 : Int)) (hf : f0 ≤ 256) (hn : l.length = n) (hc : n ≤ c) (hN : n ≤ 1000000) (hs : Str key l) (hl : Like f0 l), CT Try.prog 94 [.slice A n c, .int .i64 i] [] [rd A (fl iL l)] (pV (.agg (hL (rootT f0 l)).toArray))) : CT Try.prog 94 [.slice A n c, .int .i64 i] [] [rd A (fl iL l)] (pV (.agg (hL (rootT f l)).toArray)) := by
  refine CT_of Try.func94 rfl Try.ntmps94 rfl (fun w0 => ?_)
  refine JC_seq ?_
  refine JC_region ?_
  refine JL_E rfl (E_allocA ti23) ?_
  rintro _ _ ⟨g1, rfl, rfl⟩
  refine JL_nil ?_
  refine JQ_then ?_
  refine JC_seq ?_
  refine JC_seq ?_
  refine JC_region ?_
  refine JL_R rfl (R_move rfl) ?_
  refine JL_R rfl (R_len_slice Try.underlying51 rfl) ?_
  refine JL_nil ?_
  refine JQ_then ?_
  refine JC_block ?_
  refine JC_seq ?_
  refine JC_region ?_
  refine JL_R rfl (R_eq rfl rfl) ?_
  refine JL_R rfl (R_assign rfl) ?_
  refine JL_nil ?_
  refine JQ_then ?_
  refine JC_cond rfl (fun hc8 => ?_) (fun hc8 => ?_)
  · try simp only [Bool.or_eq_true, Bool.and_eq_true, Bool.or_eq_false_iff, Bool.and_eq_false_iff, decide_eq_true_eq, decide_eq_false_iff_not, Bool.not_eq_true', Bool.not_eq_false', beq_iff_eq] at hc8
    refine JC_seq ?_
    refine JC_region ?_
    refine JL_E rfl (E_callV ok44 rfl ents_nil (c_Empty)) ?_
    rintro _ _ ⟨rfl, rfl⟩
    refine JL_E0 (E_storeA ti23 rfl rfl (Pick.here _ _) (by first | rfl | (simp [bcs_length, sb_length, numN_length, hL_length, sigP_len, headP_len, entryP_len, itemP_len, knownP_len, stP_len, Hash.h]; done) | omega | (simp [bcs_length, sb_length, numN_length, hL_length, sigP_len, headP_len, entryP_len, itemP_len, knownP_len, stP_len, Hash.h]; omega)) (by first | exact hL_ones _ | exact headP_ones _ | exact itemP_ones _ | exact sigP_ones _ | exact entryP_ones _ | exact knownP_ones _ | exact stP_ones _ | exact ones1_int _ _ | exact bcs_ones _ | exact ones1.nil | (apply ones1.pl; simp [ones1, offP, sigP, headP, entryP, itemP, knownP]; done)) (by first | rfl | (simp [bcs_length, sb_length, numN_length, hL_length, sigP_len, headP_len, entryP_len, itemP_len, knownP_len, stP_len, Hash.h]; done) | omega | (simp [bcs_length, sb_length, numN_length, hL_length, sigP_len, headP_len, entryP_len, itemP_len, knownP_len, stP_len, Hash.h]; omega))) ?_
    rintro _ _ ⟨rfl, rfl⟩
    refine JL_nil ?_
    refine JQ_then ?_
    refine JC_ret ?_
    refine JQ_block_ret ?_
    refine JQ_then_ret ?_
    refine ret1 Try.results94 (RV_cell rfl Try.underlying23 rfl ti23 (List.Mem.head _) (by first | rfl | (simp [bcs_length, sb_length, numN_length, hL_length, sigP_len, headP_len, entryP_len, itemP_len, knownP_len, stP_len, Hash.h]; done) | omega | (simp [bcs_length, sb_length, numN_length, hL_length, sigP_len, headP_len, entryP_len, itemP_len, knownP_len, stP_len, Hash.h]; omega))) ⟨by rw [show l = [] from List.eq_nil_of_length_eq_zero (by omega), rootT_nil], rfl⟩ (Picks.nil _) rfl
  · try simp only [Bool.or_eq_true, Bool.and_eq_true, Bool.or_eq_false_iff, Bool.and_eq_false_iff, decide_eq_true_eq, decide_eq_false_iff_not, Bool.not_eq_true', Bool.not_eq_false', beq_iff_eq] at hc8
    refine JC_seq ?_
    refine JC_region ?_
    refine JL_R rfl (R_eq rfl rfl) ?_
    refine JL_R rfl (R_assign rfl) ?_
    refine JL_nil ?_
    refine JQ_then ?_
    refine JC_cond rfl (fun hc11 => ?_) (fun hc11 => ?_)
    · try simp only [Bool.or_eq_true, Bool.and_eq_true, Bool.or_eq_false_iff, Bool.and_eq_false_iff, decide_eq_true_eq, decide_eq_false_iff_not, Bool.not_eq_true', Bool.not_eq_false', beq_iff_eq] at hc11
      refine JC_seq ?_
      refine JC_region ?_
      refine JL_R rfl (R_move rfl) ?_
      refine JL_R rfl (R_indexE (i := 0) Try.underlying51 ti60 rfl rfl (RngIn.old (List.Mem.tail _ (List.Mem.head _))) rfl (by omega) (by first | (rw [fl_length itemP_len]; omega) | (rw [fl_length itemP_len]; simp only [List.length_set, List.length_drop, List.length_take]; omega) | (simp only [fl_length, bcs_length, List.length_map, List.length_cons]; omega) | omega | (simp [fl_length] <;> omega))) ?_
      refine JL_R rfl (R_elA Item.zero itemP_len Try.underlying60 rfl ti60 (by decide) rfl (RngIn.old (List.Mem.tail _ (List.Mem.head _))) (by first | omega | (simp only [List.length_drop, List.length_take]; omega) | simpa using by omega)) ?_
      refine JL_E rfl (E_callV ok40 rfl ents_nil (c_Leaf _)) ?_
      rintro _ _ ⟨rfl, rfl⟩
      refine JL_E0 (E_storeA ti23 rfl rfl (Pick.here _ _) (by first | rfl | (simp [bcs_length, sb_length, numN_length, hL_length, sigP_len, headP_len, entryP_len, itemP_len, knownP_len, stP_len, Hash.h]; done) | omega | (simp [bcs_length, sb_length, numN_length, hL_length, sigP_len, headP_len, entryP_len, itemP_len, knownP_len, stP_len, Hash.h]; omega)) (by first | exact hL_ones _ | exact headP_ones _ | exact itemP_ones _ | exact sigP_ones _ | exact entryP_ones _ | exact knownP_ones _ | exact stP_ones _ | exact ones1_int _ _ | exact bcs_ones _ | exact ones1.nil | (apply ones1.pl; simp [ones1, offP, sigP, headP, entryP, itemP, knownP]; done)) (by first | rfl | (simp [bcs_length, sb_length, numN_length, hL_length, sigP_len, headP_len, entryP_len, itemP_len, knownP_len, stP_len, Hash.h]; done) | omega | (simp [bcs_length, sb_length, numN_length, hL_length, sigP_len, headP_len, entryP_len, itemP_len, knownP_len, stP_len, Hash.h]; omega))) ?_
      rintro _ _ ⟨rfl, rfl⟩
      refine JL_nil ?_
      refine JQ_then ?_
      refine JC_ret ?_
      refine JQ_block_ret ?_
      refine JQ_then_ret ?_
      refine ret1 Try.results94 (RV_cell rfl Try.underlying23 rfl ti23 (List.Mem.head _) (by first | rfl | (simp [bcs_length, sb_length, numN_length, hL_length, sigP_len, headP_len, entryP_len, itemP_len, knownP_len, stP_len, Hash.h]; done) | omega | (simp [bcs_length, sb_length, numN_length, hL_length, sigP_len, headP_len, entryP_len, itemP_len, knownP_len, stP_len, Hash.h]; omega))) ⟨by obtain ⟨x, rfl⟩ : ∃ x, l = [x] := List.length_eq_one_iff.1 (by omega); rw [rootT_one]; rfl, rfl⟩ (Picks.nil _) rfl
    · try simp only [Bool.or_eq_true, Bool.and_eq_true, Bool.or_eq_false_iff, Bool.and_eq_false_iff, decide_eq_true_eq, decide_eq_false_iff_not, Bool.not_eq_true', Bool.not_eq_false', beq_iff_eq] at hc11
      refine JC_skip ?_
      refine JQ_block ?_
      refine JQ_then ?_
      refine JC_seq ?_
      obtain ⟨f, rfl⟩ : ∃ k, f = k + 1 := ⟨f - 1, by rcases f with _ | f; have := like0 hs hl; omega; omega⟩
      obtain rfl : i = 255 - (f : Int) := by omega
      have hq := halves hs hl (by omega)
      have hp : fstI l (255 - (f : Int)) ≤ n := hn ▸ List.findIdx_le_length
      have hq1 : Str key (l.take (fstI l (255 - (f : Int)))) ∧ Like f (l.take (fstI l (255 - (f : Int)))) := by unfold fstI; rw [hq.1]; exact ⟨hs.filter _, hl.filter (by omega) 0⟩
      have hq2 : Str key (l.drop (fstI l (255 - (f : Int)))) ∧ Like f (l.drop (fstI l (255 - (f : Int)))) := by unfold fstI; rw [hq.2]; exact ⟨hs.filter _, hl.filter (by omega) 1⟩
      refine JC_region ?_
      refine JL_R rfl (R_move rfl) ?_
      refine JL_R rfl (R_move rfl) ?_
      refine JL_E rfl (E_callV ok98 rfl (ents_cons (rd_old (List.Mem.tail _ (List.Mem.head _))) ents_nil) (c_Part _ _ _ _ _ (by first | rfl | (simp [bcs_length, sb_length, numN_length, hL_length, sigP_len, headP_len, entryP_len, itemP_len, knownP_len, stP_len, Hash.h]; done) | omega | (simp [bcs_length, sb_length, numN_length, hL_length, sigP_len, headP_len, entryP_len, itemP_len, knownP_len, stP_len, Hash.h]; omega)) (by first | omega | (simp <;> omega)) (by omega))) ?_
      rintro _ _ ⟨rfl, rfl⟩
      refine JL_R rfl (R_assign rfl) ?_
      refine JL_nil ?_
      refine JQ_then ?_
      refine JC_seq ?_
      refine JC_draw [] rfl (.take 0 (.take 1 (.take 2 (.take 3 (.take 4 (.take 6 (.take 7 (.take 8 (.take 9 (.take 10 (.exec 5 (.exec 11 (.exec 12 (.exec 13 (.done))))))))))))))) _ (by kernel_rfl) (fun _ h => h) (by repeat (first | with_reducible exact Ret.noP | with_reducible apply NoP.block | with_reducible apply NoP.then)) ?_
      refine JP_R rfl rfl rfl (R_move rfl) ?_
      refine JP_R rfl rfl rfl (R_move rfl) ?_
      refine JP_R rfl rfl rfl (R_sliceTo (m := fstI l (255 - (f : Int))) Try.underlying51 ti60 rfl rfl (by first | rfl | omega) (by omega)) ?_
      refine JP_R rfl rfl rfl (R_move rfl) ?_
      first
        | refine JP_R rfl rfl rfl ((R_add rfl rfl).eq (i64_in (by omega))) ?_
        | refine JP_R rfl rfl rfl (R_add rfl rfl) ?_
      refine JP_R rfl rfl rfl (R_move rfl) ?_
      refine JP_R rfl rfl rfl (R_move rfl) ?_
      refine JP_R rfl rfl rfl (R_sliceFrom (m := fstI l (255 - (f : Int))) Try.underlying51 ti60 rfl rfl (by first | rfl | omega) (by omega) (by omega)) ?_
      refine JP_R rfl rfl rfl (R_move rfl) ?_
      first
        | refine JP_R rfl rfl rfl ((R_add rfl rfl).eq (i64_in (by omega))) ?_
        | refine JP_R rfl rfl rfl (R_add rfl rfl) ?_
      refine JP_E rfl rfl (E_callV ok94 rfl (ents_cons (rd_takeE (k := fstI l (255 - (f : Int))) itemP_len (rd_old (List.Mem.tail _ (List.Mem.head _)))) ents_nil) (ih f (by omega) _ _ _ (l.take (fstI l (255 - (f : Int)))) _ (by omega) (by omega) (by rw [List.length_take]; omega) (by omega) (by omega) hq1.1 hq1.2)) ?_
      rintro _ _ ⟨rfl, rfl⟩
      refine JPn_all (fun _ h => h) ?_
      refine JP_E rfl rfl (E_callV ok94 rfl (ents_cons (rd_cutE (k := fstI l (255 - (f : Int))) itemP_len (rd_old (List.Mem.tail _ (List.Mem.head _))) (by first | omega | (simp <;> omega))) ents_nil) (ih f (by omega) _ _ _ (l.drop (fstI l (255 - (f : Int)))) _ (by omega) (by omega) (by rw [List.length_drop]; omega) (by omega) (by omega) hq2.1 hq2.2)) ?_
      rintro _ _ ⟨rfl, rfl⟩
      refine JPn_all (fun _ h => h) ?_
      refine JP_E rfl rfl (E_callV ok42 rfl ents_nil (c_Node _ _)) ?_
      rintro _ _ ⟨rfl, rfl⟩
      refine JPn_all (fun _ h => h) ?_
      refine JP_E0 rfl (E_storeA ti23 rfl rfl (Pick.here _ _) (by first | rfl | (simp [bcs_length, sb_length, numN_length, hL_length, sigP_len, headP_len, entryP_len, itemP_len, knownP_len, stP_len, Hash.h]; done) | omega | (simp [bcs_length, sb_length, numN_length, hL_length, sigP_len, headP_len, entryP_len, itemP_len, knownP_len, stP_len, Hash.h]; omega)) (by first | exact hL_ones _ | exact headP_ones _ | exact itemP_ones _ | exact sigP_ones _ | exact entryP_ones _ | exact knownP_ones _ | exact stP_ones _ | exact ones1_int _ _ | exact bcs_ones _ | exact ones1.nil | (apply ones1.pl; simp [ones1, offP, sigP, headP, entryP, itemP, knownP]; done)) (by first | rfl | (simp [bcs_length, sb_length, numN_length, hL_length, sigP_len, headP_len, entryP_len, itemP_len, knownP_len, stP_len, Hash.h]; done) | omega | (simp [bcs_length, sb_length, numN_length, hL_length, sigP_len, headP_len, entryP_len, itemP_len, knownP_len, stP_len, Hash.h]; omega))) ?_
      rintro _ _ ⟨rfl, rfl⟩
      refine JPn_bar (by kernel_rfl) ?_
      refine JP_done ?_
      refine JQ_then ?_
      refine JC_ret ?_
      refine ret1 Try.results94 (RV_cell rfl Try.underlying23 rfl ti23 (List.Mem.head _) (by first | rfl | (simp [bcs_length, sb_length, numN_length, hL_length, sigP_len, headP_len, entryP_len, itemP_len, knownP_len, stP_len, Hash.h]; done) | omega | (simp [bcs_length, sb_length, numN_length, hL_length, sigP_len, headP_len, entryP_len, itemP_len, knownP_len, stP_len, Hash.h]; omega))) ⟨by rw [rootT_two _ _ (by omega), ← hq.1, ← hq.2]; rfl, rfl⟩ (Picks.nil _) rfl
theorem c_Below : ∀ (f : Nat) (A : Option Addr) (n c : Nat) (l : List Item) (i : Int) (hi : i = 256 - (f : Int)) (hf : f ≤ 256) (hn : l.length = n) (hc : n ≤ c) (hN : n ≤ 1000000) (hs : Str key l) (hl : Like f l), CT Try.prog 94 [.slice A n c, .int .i64 i] [] [rd A (fl iL l)] (pV (.agg (hL (rootT f l)).toArray)) := by
  intro f
  induction f using Nat.strongRecOn with
  | _ f ih =>
    intro A n c l i hi hf hn hc hN hs hl
    exact c_Below_step f A n c l i hi hf hn hc hN hs hl ih
set_option maxRecDepth 100000 in
set_option maxHeartbeats 1000000 in
theorem c_Root (A : Option Addr) (n c : Nat) (l : List Item) (hn : l.length = n) (hN : n ≤ 1000000) : CT Try.prog 34 [.slice A n c] [] [rd A (fl iL l)] (pV (.agg (hL (rootT 256 (setK key l))).toArray)) := by
  refine CT_of Try.func34 rfl Try.ntmps34 rfl (fun w0 => ?_)
  refine JC_seq ?_
  refine JC_region ?_
  refine JL_E rfl (E_allocA ti23) ?_
  rintro _ _ ⟨g1, rfl, rfl⟩
  refine JL_nil ?_
  refine JQ_then ?_
  refine JC_seq ?_
  refine JC_region ?_
  refine JL_R rfl (R_move rfl) ?_
  refine JL_E rfl (E_callR0 ok32 rfl (ents_cons (rd_old (List.Mem.tail _ (List.Mem.head _))) (ents_cons rd_nilE ents_nil)) (c_Set _ _ _ _ _ _ _ _ (by first | rfl | (simp [bcs_length, sb_length, numN_length, hL_length, sigP_len, headP_len, entryP_len, itemP_len, knownP_len, stP_len, Hash.h]; done) | omega | (simp [bcs_length, sb_length, numN_length, hL_length, sigP_len, headP_len, entryP_len, itemP_len, knownP_len, stP_len, Hash.h]; omega)) (by first | rfl | (simp [bcs_length, sb_length, numN_length, hL_length, sigP_len, headP_len, entryP_len, itemP_len, knownP_len, stP_len, Hash.h]; done) | omega | (simp [bcs_length, sb_length, numN_length, hL_length, sigP_len, headP_len, entryP_len, itemP_len, knownP_len, stP_len, Hash.h]; omega)) (by first | omega | (simp <;> omega)))) ?_
  rintro _ _ ⟨A2, c3, rfl, hc3, rfl⟩
  refine JL_E rfl (E_callV ok94 rfl (ents_cons (rd_new (List.Mem.head _)) ents_nil) (c_Below 256 _ _ _ _ _ rfl (by omega) rfl (by assumption) (by have h1 := setK_len key (l ++ []); rw [List.append_nil] at h1 ⊢; omega) (TT.setK key _).1 (Like.all _))) ?_
  rintro _ _ ⟨rfl, rfl⟩
  refine JL_E0 (E_storeA ti23 rfl rfl (Pick.there _ (Pick.here _ _)) (by first | rfl | (simp [bcs_length, sb_length, numN_length, hL_length, sigP_len, headP_len, entryP_len, itemP_len, knownP_len, stP_len, Hash.h]; done) | omega | (simp [bcs_length, sb_length, numN_length, hL_length, sigP_len, headP_len, entryP_len, itemP_len, knownP_len, stP_len, Hash.h]; omega)) (by first | exact hL_ones _ | exact headP_ones _ | exact itemP_ones _ | exact sigP_ones _ | exact entryP_ones _ | exact knownP_ones _ | exact stP_ones _ | exact ones1_int _ _ | exact bcs_ones _ | exact ones1.nil | (apply ones1.pl; simp [ones1, offP, sigP, headP, entryP, itemP, knownP]; done)) (by first | rfl | (simp [bcs_length, sb_length, numN_length, hL_length, sigP_len, headP_len, entryP_len, itemP_len, knownP_len, stP_len, Hash.h]; done) | omega | (simp [bcs_length, sb_length, numN_length, hL_length, sigP_len, headP_len, entryP_len, itemP_len, knownP_len, stP_len, Hash.h]; omega))) ?_
  rintro _ _ ⟨rfl, rfl⟩
  refine JL_nil ?_
  refine JQ_then ?_
  refine JC_ret ?_
  refine ret1 Try.results34 (RV_cell rfl Try.underlying23 rfl ti23 (List.Mem.head _) (by first | rfl | (simp [bcs_length, sb_length, numN_length, hL_length, sigP_len, headP_len, entryP_len, itemP_len, knownP_len, stP_len, Hash.h]; done) | omega | (simp [bcs_length, sb_length, numN_length, hL_length, sigP_len, headP_len, entryP_len, itemP_len, knownP_len, stP_len, Hash.h]; omega))) ⟨by rw [List.append_nil], rfl⟩ (Picks.nil _) rfl
end Go.Proofs.Ytkckakfkeooepaa
