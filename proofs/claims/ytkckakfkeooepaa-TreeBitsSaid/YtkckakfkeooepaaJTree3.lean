/- Package tree: comparison, the first item with a bit. -/
import Derived.Test.YtkckakfkeooepaaJTree2
import Derived.Test.YtkckakfkeooepaaJLoop
import Derived.Test.YtkckakfkeooepaaJSort2
namespace Go.Proofs.Ytkckakfkeooepaa
set_option linter.all false
set_option linter.unusedSimpArgs false
set_option linter.unusedVariables false
set_option linter.unnecessarySimpa false
open Go.RowKit
theorem ext_cmp : Ext Try.prog 156 Extern.BytealgCompare.compare := ⟨_, Try.func156, by kernel_rfl, by kernel_rfl, by kernel_rfl, by kernel_rfl⟩
def key (x : Item) : Nat := hv x.index
def ncmp (a b : Nat) : Int := if a < b then -1 else if b < a then 1 else 0
theorem ncmp_hash (a b : Hash) : Lib.compareBytes a.l b.l = ncmp (hv a) (hv b) := cmp_hvl a.l b.l (by rw [a.h, b.h])
theorem ncmp_neg (a b : Nat) : decide (ncmp a b < 0) = decide (a < b) := by
  unfold ncmp
  by_cases h : a < b
  · simp [h]
  · by_cases h' : b < a <;> simp [h, h']
abbrev iL (x : Item) : List Value := pl (itemP x)
theorem index_eq (x y : Item) : decide (x.index = y.index) = decide (key x = key y) := by
  by_cases h : x.index = y.index
  · simp [h, key]
  · have : key x ≠ key y := fun e => h (hv_inj e)
    simp [h, this]
set_option maxRecDepth 100000 in
set_option maxHeartbeats 1000000 in
theorem c_Compare (A B : Option Addr) (n m c1 c2 : Nat) (a b : Bs) (ha : a.length = n) (hb : b.length = m) : CT Try.prog 132 [.slice A n c1, .slice B m c2] [] [rd A (bcs a), rd B (bcs b)] (pV (.int .i64 (Lib.compareBytes a b))) := by
  refine CT_of Try.func132 rfl Try.ntmps132 rfl (fun w0 => ?_)
  refine JC_seq ?_
  refine JC_region ?_
  refine JL_R rfl (R_assign rfl) ?_
  refine JL_nil ?_
  refine JQ_then ?_
  refine JC_seq ?_
  refine JC_region ?_
  refine JL_R rfl (R_move rfl) ?_
  refine JL_R rfl (R_move rfl) ?_
  refine JL_R rfl (R_cmp ext_cmp rfl rfl (by first | rfl | (simp [bcs_length, sb_length, numN_length, hL_length, sigP_len, headP_len, entryP_len, itemP_len, knownP_len, stP_len, Hash.h]; done) | omega | (simp [bcs_length, sb_length, numN_length, hL_length, sigP_len, headP_len, entryP_len, itemP_len, knownP_len, stP_len, Hash.h]; omega)) (by first | rfl | (simp [bcs_length, sb_length, numN_length, hL_length, sigP_len, headP_len, entryP_len, itemP_len, knownP_len, stP_len, Hash.h]; done) | omega | (simp [bcs_length, sb_length, numN_length, hL_length, sigP_len, headP_len, entryP_len, itemP_len, knownP_len, stP_len, Hash.h]; omega)) (RngIn.old (List.Mem.head _)) (RngIn.old (List.Mem.tail _ (List.Mem.head _)))) ?_
  refine JL_R rfl (R_assign rfl) ?_
  refine JL_nil ?_
  refine JQ_then ?_
  refine JC_ret ?_
  refine ret1 Try.results132 (RV_tmp rfl) ⟨rfl, rfl⟩ (Picks.nil _) rfl
set_option maxRecDepth 100000 in
set_option maxHeartbeats 1000000 in
theorem c_before (x y : Item) : CT Try.prog 89 [.agg (iL x).toArray, .agg (iL y).toArray] [] [] (pV (.int .i64 (ncmp (key x) (key y)))) := by
  refine CT_of Try.func89 rfl Try.ntmps89 rfl (fun w0 => ?_)
  refine JC_seq ?_
  refine JC_region ?_
  refine JL_E rfl (E_boxA rfl) ?_
  rintro _ _ ⟨g1, rfl, rfl⟩
  refine JL_E rfl (E_boxA rfl) ?_
  rintro _ _ ⟨g2, rfl, rfl⟩
  refine JL_R rfl (R_assign rfl) ?_
  refine JL_nil ?_
  refine JQ_then ?_
  refine JC_seq ?_
  refine JC_draw [] rfl (.take 0 (.take 1 (.take 2 (.take 3 (.exec 4 (.take 5 (.done))))))) _ (by kernel_rfl) (fun _ h => h) (by repeat (first | with_reducible exact Ret.noP | with_reducible apply NoP.block | with_reducible apply NoP.then)) ?_
  refine JP_R rfl rfl rfl (R_fieldB (o' := 0) Try.underlying60 rfl ti23 rfl rfl rfl) ?_
  refine JP_R rfl rfl rfl (R_sliceArr Try.underlying23 ti5 (by decide) rfl) ?_
  refine JP_R rfl rfl rfl (R_fieldB (o' := 0) Try.underlying60 rfl ti23 rfl rfl rfl) ?_
  refine JP_R rfl rfl rfl (R_sliceArr Try.underlying23 ti5 (by decide) rfl) ?_
  refine JP_E rfl rfl (E_callV ok132 rfl (ents_cons (rd_blkP 0 (List.Mem.tail _ (List.Mem.head _)) rfl (by first | rfl | (simp [offP, sigP, headP, entryP, itemP, knownP]; done))) (ents_cons (rd_blkP 0 (List.Mem.head _) rfl (by first | rfl | (simp [offP, sigP, headP, entryP, itemP, knownP]; done))) ents_nil)) (c_Compare _ _ _ _ _ _ _ _ (by first | rfl | (simp [bcs_length, sb_length, numN_length, hL_length, sigP_len, headP_len, entryP_len, itemP_len, knownP_len, stP_len, Hash.h]; done) | omega | (simp [bcs_length, sb_length, numN_length, hL_length, sigP_len, headP_len, entryP_len, itemP_len, knownP_len, stP_len, Hash.h]; omega)) (by first | rfl | (simp [bcs_length, sb_length, numN_length, hL_length, sigP_len, headP_len, entryP_len, itemP_len, knownP_len, stP_len, Hash.h]; done) | omega | (simp [bcs_length, sb_length, numN_length, hL_length, sigP_len, headP_len, entryP_len, itemP_len, knownP_len, stP_len, Hash.h]; omega)))) ?_
  rintro _ _ ⟨rfl, rfl⟩
  refine JPn_bar (by kernel_rfl) ?_
  refine JP_R rfl rfl rfl (R_assign rfl) ?_
  refine JP_done ?_
  refine JQ_then ?_
  refine JC_ret ?_
  refine ret1 Try.results89 (RV_tmp rfl) ⟨congrArg (Value.int .i64) (ncmp_hash _ _), rfl⟩ (Picks.nil _) rfl
set_option maxRecDepth 100000 in
set_option maxHeartbeats 1000000 in
theorem c_Part1 (x : Item) (q : Nat) (at_ : Int) : CT Try.prog 138 [.agg (iL x).toArray, .pointer (some ⟨q, 0, none⟩)] [] [rd (some ⟨q, 0, none⟩) [.int .i64 at_]] (pV (.bool (decide (bitI x.index at_ = 1)))) := by
  refine CT_of Try.func138 rfl Try.ntmps138 rfl (fun w0 => ?_)
  refine JC_seq ?_
  refine JC_region ?_
  refine JL_E rfl (E_boxA rfl) ?_
  rintro _ _ ⟨g1, rfl, rfl⟩
  refine JL_R rfl (R_assign rfl) ?_
  refine JL_nil ?_
  refine JQ_then ?_
  refine JC_seq ?_
  refine JC_region ?_
  refine JL_R rfl (R_fieldB (o' := 0) Try.underlying60 rfl ti23 rfl rfl rfl) ?_
  refine JL_R rfl (R_loadPH 0 Try.underlying23 rfl ti23 rfl (List.Mem.head _) rfl (by first | rfl | (simp [offP, sigP, headP, entryP, itemP, knownP]; done)) (by first | rfl | (simp [bcs_length, sb_length, numN_length, hL_length, sigP_len, headP_len, entryP_len, itemP_len, knownP_len, stP_len, Hash.h]; done) | omega | (simp [bcs_length, sb_length, numN_length, hL_length, sigP_len, headP_len, entryP_len, itemP_len, knownP_len, stP_len, Hash.h]; omega))) ?_
  refine JL_R rfl (R_loadR Try.underlying3 rfl rfl (RngIn.old (List.Mem.tail _ (List.Mem.head _))) rfl) ?_
  refine JL_E rfl (E_callV ok46 rfl ents_nil (c_Bit _ _)) ?_
  rintro _ _ ⟨rfl, rfl⟩
  refine JL_R rfl (R_eq rfl rfl) ?_
  refine JL_R rfl (R_assign rfl) ?_
  refine JL_nil ?_
  refine JQ_then ?_
  refine JC_ret ?_
  refine ret1 Try.results138 (RV_tmp rfl) ⟨rfl, rfl⟩ (Picks.nil _) rfl
def fstI (xs : List Item) (i : Int) : Nat := xs.findIdx fun x => decide (bitI x.index i = 1)
def fstV (xs : List Item) (i : Int) : Int := if fstI xs i < xs.length then (fstI xs i : Int) else -1
theorem fstV_found {xs : List Item} {i : Int} {k : Nat} (hk : k < xs.length) (h : ∀ j < k, bitI (xs.getD j Item.zero).index i ≠ 1) (hb : bitI (xs.getD k Item.zero).index i = 1) : fstV xs i = k := by
  have e : fstI xs i = k := by
    refine (List.findIdx_eq hk).2 ⟨?_, fun j hj => ?_⟩
    · simpa [List.getD, List.getElem?_eq_getElem hk] using hb
    · have := h j hj
      rw [List.getD, List.getElem?_eq_getElem (by omega)] at this
      simpa using this
  rw [fstV, e, if_pos hk]
theorem fstV_none {xs : List Item} {i : Int} (h : ∀ j < xs.length, bitI (xs.getD j Item.zero).index i ≠ 1) : fstV xs i = -1 := by
  have e : fstI xs i = xs.length := by
    refine List.findIdx_eq_length.2 fun x hx => ?_
    obtain ⟨j, hj, rfl⟩ := List.getElem_of_mem hx
    have := h j hj
    rw [List.getD, List.getElem?_eq_getElem hj] at this
    simpa using this
  rw [fstV, e, if_neg (by omega)]
set_option maxRecDepth 100000 in
set_option maxHeartbeats 1000000 in
theorem c_IndexFunc (A : Option Addr) (n c : Nat) (xs : List Item) (q : Nat) (at_ : Int) (hn : xs.length = n) (hl : n ≤ 1000000000) : CT Try.prog 135 [.slice A n c, .func (.func 138) #[] #[.pointer (some ⟨q, 0, none⟩)]] [] [rd A (fl iL xs), rd (some ⟨q, 0, none⟩) [.int .i64 at_]] (pV (.int .i64 (fstV xs at_))) := by
  refine CT_of Try.func135 rfl Try.ntmps135 rfl (fun w0 => ?_)
  refine JC_seq ?_
  refine JC_region ?_
  refine JL_R rfl (R_assign rfl) ?_
  refine JL_nil ?_
  refine JQ_then ?_
  refine JC_seq ?_
  refine JC_seq ?_
  refine JC_region ?_
  refine JL_R rfl (R_move rfl) ?_
  refine JL_R rfl (R_len_slice Try.underlying51 rfl) ?_
  refine JL_R rfl (R_move rfl) ?_
  refine JL_nil ?_
  refine JQ_then ?_
  refine JC_block ?_
  refine JC_loop1 (kp := [(0, _), (1, _), (7, _)]) (fun (i : Nat) => i ≤ n ∧ ∀ j < i, bitI (xs.getD j Item.zero).index at_ ≠ 1) (fun kp_ (i : Nat) => (8, .int .i64 (i : Int)) :: kp_) (fun rs_ (i : Nat) => rs_) (fun (i : Nat) => n - i) (0) (Picks.nil _) (FrSub.cons rfl (by first | rfl | ((try dsimp only); congr 1; omega) | exact congrArg (Value.int _) (by (try dsimp only); omega)) (FrSub.cons rfl (by first | rfl | ((try dsimp only); congr 1; omega) | exact congrArg (Value.int _) (by (try dsimp only); omega)) (FrSub.cons rfl (by first | rfl | ((try dsimp only); congr 1; omega) | exact congrArg (Value.int _) (by (try dsimp only); omega)) (FrSub.cons rfl (by first | rfl | ((try dsimp only); congr 1; omega) | exact congrArg (Value.int _) (by (try dsimp only); omega)) FrSub.nil)))) (fun _ _  => rfl) (⟨by omega, fun j hj => absurd hj (by omega)⟩) ?_
  rintro i ⟨h1, h2⟩
  refine JC_seq ?_
  refine JC_region ?_
  refine JL_R rfl (R_lt rfl rfl) ?_
  refine JL_nil ?_
  refine JQ_then ?_
  refine JC_seq ?_
  refine JC_cond rfl (fun hc9 => ?_) (fun hc9 => ?_)
  · try simp only [Bool.or_eq_true, Bool.and_eq_true, Bool.or_eq_false_iff, Bool.and_eq_false_iff, decide_eq_true_eq, decide_eq_false_iff_not, Bool.not_eq_true', Bool.not_eq_false', beq_iff_eq] at hc9
    refine JC_skip ?_
    refine JQ_then ?_
    refine JC_seq ?_
    refine JC_block ?_
    refine JC_seq ?_
    refine JC_region ?_
    refine JL_R rfl (R_move rfl) ?_
    refine JL_R rfl (R_assign rfl) ?_
    refine JL_nil ?_
    refine JQ_then ?_
    refine JC_seq ?_
    refine JC_region ?_
    refine JL_R rfl (R_move rfl) ?_
    refine JL_R rfl (R_move rfl) ?_
    refine JL_R rfl (R_move rfl) ?_
    refine JL_R rfl (R_indexE (i := i) Try.underlying51 ti60 rfl rfl (RngIn.old (List.Mem.head _)) (by omega) (by omega) (by first | (rw [fl_length itemP_len]; omega) | (rw [fl_length itemP_len]; simp only [List.length_set, List.length_drop, List.length_take]; omega) | (simp only [fl_length, bcs_length, List.length_map, List.length_cons]; omega) | omega | (simp [fl_length] <;> omega))) ?_
    refine JL_R rfl (R_elA Item.zero itemP_len Try.underlying60 rfl ti60 (by decide) rfl (RngIn.old (List.Mem.head _)) (by first | omega | (simp only [List.length_drop, List.length_take]; omega) | simpa using by omega)) ?_
    refine JL_E rfl (E_callFV ok138 rfl rfl rfl (ents_cons (rd_old (List.Mem.tail _ (List.Mem.head _))) ents_nil) (c_Part1 _ _ _)) ?_
    rintro _ _ ⟨rfl, rfl⟩
    refine JL_nil ?_
    refine JQ_then ?_
    refine JC_cond rfl (fun hc16 => ?_) (fun hc16 => ?_)
    · try simp only [Bool.or_eq_true, Bool.and_eq_true, Bool.or_eq_false_iff, Bool.and_eq_false_iff, decide_eq_true_eq, decide_eq_false_iff_not, Bool.not_eq_true', Bool.not_eq_false', beq_iff_eq] at hc16
      refine JC_seq ?_
      refine JC_region ?_
      refine JL_R rfl (R_move rfl) ?_
      refine JL_R rfl (R_assign rfl) ?_
      refine JL_nil ?_
      refine JQ_then ?_
      refine JC_ret ?_
      refine JQ_block_ret ?_
      refine JQ_then_ret ?_
      refine JQ_then_ret ?_
      refine JQ_block_ret ?_
      refine JQ_then_ret ?_
      refine ret1 Try.results135 (RV_tmp rfl) ⟨congrArg (Value.int .i64) (fstV_found (by omega) h2 hc16).symm, rfl⟩ (Picks.nil _) rfl
    · try simp only [Bool.or_eq_true, Bool.and_eq_true, Bool.or_eq_false_iff, Bool.and_eq_false_iff, decide_eq_true_eq, decide_eq_false_iff_not, Bool.not_eq_true', Bool.not_eq_false', beq_iff_eq] at hc16
      refine JC_skip ?_
      refine JQ_block ?_
      refine JQ_then ?_
      refine JC_region ?_
      first
        | refine JL_R rfl ((R_add rfl rfl).eq (i64_in (by omega))) ?_
        | refine JL_R rfl (R_add rfl rfl) ?_
      refine JL_R rfl (R_move rfl) ?_
      refine JL_nil ?_
      refine JQ_nxt1 (i + 1) (Picks.cons (Pick.here _ _) (Picks.cons (Pick.here _ _) (Picks.nil _))) (FrSub.cons rfl (by first | rfl | ((try dsimp only); congr 1; omega) | exact congrArg (Value.int _) (by (try dsimp only); omega)) (FrSub.cons rfl (by first | rfl | ((try dsimp only); congr 1; omega) | exact congrArg (Value.int _) (by (try dsimp only); omega)) (FrSub.cons rfl (by first | rfl | ((try dsimp only); congr 1; omega) | exact congrArg (Value.int _) (by (try dsimp only); omega)) (FrSub.cons rfl (by first | rfl | ((try dsimp only); congr 1; omega) | exact congrArg (Value.int _) (by (try dsimp only); omega)) FrSub.nil)))) (by (try dsimp only); omega) (by first | exact ⟨by omega, fun j hj => by rcases Nat.lt_or_eq_of_le (Nat.le_of_lt_succ hj) with h | rfl; exact h2 j h; exact hc16⟩ | (dsimp only; exact ⟨by omega, fun j hj => by rcases Nat.lt_or_eq_of_le (Nat.le_of_lt_succ hj) with h | rfl; exact h2 j h; exact hc16⟩))
  · try simp only [Bool.or_eq_true, Bool.and_eq_true, Bool.or_eq_false_iff, Bool.and_eq_false_iff, decide_eq_true_eq, decide_eq_false_iff_not, Bool.not_eq_true', Bool.not_eq_false', beq_iff_eq] at hc9
    refine JC_exit ?_
    refine JQ_then_exit ?_
    refine JQ_then_exit ?_
    refine JQ_block_exit ?_
    refine JQ_then ?_
    refine JC_seq ?_
    refine JC_region ?_
    refine JL_R rfl (R_assign rfl) ?_
    refine JL_nil ?_
    refine JQ_then ?_
    refine JC_ret ?_
    refine ret1 Try.results135 (RV_tmp rfl) ⟨congrArg (Value.int .i64) (fstV_none fun j hj => h2 j (by omega)).symm, rfl⟩ (Picks.nil _) rfl
end Go.Proofs.Ytkckakfkeooepaa
