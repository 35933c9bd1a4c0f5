/- The reference: tags, the hashes of trees. -/
import Derived.Test.YtkckakfkeooepaaJRef1
import Derived.Test.YtkckakfkeooepaaJTree2
namespace Go.Proofs.Ytkckakfkeooepaa
set_option linter.all false
set_option linter.unusedSimpArgs false
set_option linter.unusedVariables false
set_option linter.unnecessarySimpa false
open Go.RowKit
set_option maxRecDepth 100000 in
set_option maxHeartbeats 1000000 in
theorem c_rText0 (tag : UInt8) (A : Option Addr) (n c : Nat) (ps : List BPart) (hn : ps.length = n) (hl : n ≤ 65536) (hs : (ps.map fun p => p.l.length + 8).sum ≤ 16777000) : CT Try.prog 134 [.int .u8 (tag.toNat : Int), .slice A n c] [] [rdB A ps] (pO 5 1 (textB tag (ps.map BPart.l)).length (bcs (textB tag (ps.map BPart.l)))) := by
  refine CT_of Try.func134 rfl Try.ntmps134 rfl (fun w0 => ?_)
  have hle := lenTo_le ps
  refine JC_seq ?_
  refine JC_region ?_
  refine JL_R rfl (R_assign rfl) ?_
  refine JL_nil ?_
  refine JQ_then ?_
  refine JC_seq ?_
  refine JC_region ?_
  refine JL_R rfl (R_move rfl) ?_
  refine JL_E rfl (E_rowV Try.underlying29 ti5 rfl rfl (PartsV.cons rfl rfl (PartsV.nil _)) rfl) ?_
  rintro _ _ ⟨g1, rfl, rfl⟩
  refine JL_conv (y := Atom.own 5 1 (.slice (some ⟨g1, 0, none⟩) 1 1) (1 + lenTo ps 0) (bcs (textTo tag ps 0))) (Pick.here _ _) (by first | rfl | skip) ?_
  refine JL_R rfl (R_assign rfl) ?_
  refine JL_nil ?_
  refine JQ_then ?_
  refine JC_seq ?_
  refine JC_seq ?_
  refine JC_region ?_
  refine JL_R rfl (R_assign rfl) ?_
  refine JL_nil ?_
  refine JQ_then ?_
  refine JC_block ?_
  refine JC_loop3 (kp := [(1, _)]) (fun (i : Nat) (X : Option Addr) (cx : Nat) => i ≤ n) (fun kp_ (i : Nat) (X : Option Addr) (cx : Nat) => (5, .slice X (1 + lenTo ps i) cx) :: (6, .int .i64 (i : Int)) :: kp_) (fun rs_ (i : Nat) (X : Option Addr) (cx : Nat) => Atom.own 5 1 (.slice X (1 + lenTo ps i) cx) (1 + lenTo ps i) (bcs (textTo tag ps i)) :: rs_) (fun (i : Nat) (X : Option Addr) (cx : Nat) => n - i) (0) ((some ⟨g1, 0, none⟩)) (1) (Picks.cons (Pick.here _ _) (Picks.nil _)) (FrSub.cons rfl (by first | rfl | ((try dsimp only); congr 1; omega) | exact congrArg (Value.int _) (by (try dsimp only); omega)) (FrSub.cons rfl (by first | rfl | ((try dsimp only); congr 1; omega) | exact congrArg (Value.int _) (by (try dsimp only); omega)) (FrSub.cons rfl (by first | rfl | ((try dsimp only); congr 1; omega) | exact congrArg (Value.int _) (by (try dsimp only); omega)) FrSub.nil))) (fun _ _ _ _  => rfl) (Nat.zero_le _) ?_
  intro i X cx h1
  refine JC_seq ?_
  refine JC_seq ?_
  refine JC_region ?_
  refine JL_R rfl (R_move rfl) ?_
  refine JL_R rfl (R_move rfl) ?_
  refine JL_R rfl (R_len_slice Try.underlying89 rfl) ?_
  refine JL_R rfl (R_lt rfl rfl) ?_
  refine JL_nil ?_
  refine JQ_then ?_
  refine JC_cond rfl (fun hc12 => ?_) (fun hc12 => ?_)
  · try simp only [Bool.or_eq_true, Bool.and_eq_true, Bool.or_eq_false_iff, Bool.and_eq_false_iff, decide_eq_true_eq, decide_eq_false_iff_not, Bool.not_eq_true', Bool.not_eq_false', beq_iff_eq] at hc12
    refine JC_skip ?_
    refine JQ_then ?_
    refine JC_seq ?_
    refine JC_block ?_
    refine JC_region ?_
    refine JL_R rfl (R_move rfl) ?_
    refine JL_R rfl (R_move rfl) ?_
    refine JL_R rfl (R_move rfl) ?_
    refine JL_R rfl (R_indexE (i := i) Try.underlying89 ti29 rfl rfl (rngB_row (List.Mem.tail _ (List.Mem.head _))) (by omega) (by omega) (by simp; omega)) ?_
    refine JL_R rfl (R_el1 (enc := BPart.v) BPart.zero Try.underlying29 rfl rfl (rngB_row (List.Mem.tail _ (List.Mem.head _))) (by omega)) ?_
    have hlen := lenTo_getD ps i (by omega)
    have hlump := lumpB_len (ps.getD i BPart.zero).l
    have hq := hle (i + 1)
    refine JL_E rfl (E_callO ok158 rfl (ents_cons (rdB_at (List.Mem.tail _ (List.Mem.head _)) (by omega)) ents_nil) (c_rLump _ _ _ _ (by first | rfl | (simp [bcs_length, sb_length, numN_length, hL_length, sigP_len, headP_len, entryP_len, itemP_len, knownP_len, stP_len, Hash.h]; done) | omega | (simp [bcs_length, sb_length, numN_length, hL_length, sigP_len, headP_len, entryP_len, itemP_len, knownP_len, stP_len, Hash.h]; omega)) (by first | omega | (simp [bcs_length, sb_length, numN_length, hL_length, sigP_len, headP_len, entryP_len, itemP_len, knownP_len, stP_len, Hash.h]; done) | (simp [bcs_length, sb_length, numN_length, hL_length, sigP_len, headP_len, entryP_len, itemP_len, knownP_len, stP_len, Hash.h]; omega)))) ?_
    rintro _ _ ⟨A2, c3, rfl, rfl⟩
    refine JL_E rfl (E_append Try.underlying29 ti5 rfl (by decide) rfl rfl (Pick.there _ (Pick.here _ _)) (RngIn.own (List.Mem.head _)) (by first | rfl | (simp [bcs_length, sb_length, numN_length, hL_length, sigP_len, headP_len, entryP_len, itemP_len, knownP_len, stP_len, Hash.h]; done) | omega | (simp [bcs_length, sb_length, numN_length, hL_length, sigP_len, headP_len, entryP_len, itemP_len, knownP_len, stP_len, Hash.h]; omega)) (by first | exact bcs_one _ | exact fl_ones (fun a => hL_ones _) _ | first | exact hL_ones _ | exact headP_ones _ | exact itemP_ones _ | exact sigP_ones _ | exact entryP_ones _ | exact knownP_ones _ | exact stP_ones _ | exact ones1_int _ _ | exact bcs_ones _ | exact ones1.nil | (apply ones1.pl; simp [ones1, offP, sigP, headP, entryP, itemP, knownP]; done)) (by first | omega | (simp [bcs_length, sb_length, numN_length, hL_length, sigP_len, headP_len, entryP_len, itemP_len, knownP_len, stP_len, Hash.h]; omega)) (by first | omega | (simp [bcs_length, sb_length, numN_length, hL_length, sigP_len, headP_len, entryP_len, itemP_len, knownP_len, stP_len, Hash.h]; omega))) ?_
    rintro _ _ ⟨A4, c5, rfl, rfl⟩
    refine JL_conv (y := Atom.own 5 1 (.slice A4 (1 + lenTo ps (i + 1)) c5) (1 + lenTo ps (i + 1)) (bcs (textTo tag ps (i + 1)))) (Pick.here _ _) (by rw [textTo_getD _ _ _ (by omega), bcs_append, show 1 + lenTo ps (i + 1) = 1 + lenTo ps i + (lumpB (ps.getD i BPart.zero).l).length by omega]) ?_
    refine JL_R rfl (R_assign rfl) ?_
    refine JL_nil ?_
    refine JQ_block ?_
    refine JQ_then ?_
    refine JC_region ?_
    refine JL_R rfl (R_move rfl) ?_
    first
      | refine JL_R rfl ((R_add rfl rfl).eq (i64_in (by omega))) ?_
      | refine JL_R rfl (R_add rfl rfl) ?_
    refine JL_R rfl (R_assign rfl) ?_
    refine JL_nil ?_
    refine JQ_nxt3 (i + 1) (A4) (c5) (Picks.cons (Pick.here _ _) (Picks.cons (Pick.there _ (Pick.here _ _)) (Picks.nil _))) (FrSub.cons rfl (by first | rfl | ((try dsimp only); congr 1; omega) | exact congrArg (Value.int _) (by (try dsimp only); omega)) (FrSub.cons rfl (by first | rfl | ((try dsimp only); congr 1; omega) | exact congrArg (Value.int _) (by (try dsimp only); omega)) (FrSub.cons rfl (by first | rfl | ((try dsimp only); congr 1; omega) | exact congrArg (Value.int _) (by (try dsimp only); omega)) FrSub.nil))) (by (try dsimp only); omega) (by first | exact (by omega) | (dsimp only; exact (by omega)))
  · try simp only [Bool.or_eq_true, Bool.and_eq_true, Bool.or_eq_false_iff, Bool.and_eq_false_iff, decide_eq_true_eq, decide_eq_false_iff_not, Bool.not_eq_true', Bool.not_eq_false', beq_iff_eq] at hc12
    refine JC_exit ?_
    refine JQ_then_exit ?_
    refine JQ_then_exit ?_
    refine JQ_block_exit ?_
    refine JQ_then ?_
    refine JC_seq ?_
    refine JC_region ?_
    refine JL_R rfl (R_move rfl) ?_
    refine JL_R rfl (R_assign rfl) ?_
    refine JL_nil ?_
    refine JQ_then ?_
    refine JC_ret ?_
    obtain rfl : i = n := by omega
    have e1 := textTo_all tag ps
    have e2 := textTo_length tag ps ps.length (Nat.le_refl _)
    rw [hn] at e1 e2
    have e3 : (textB tag (ps.map BPart.l)).length = 1 + lenTo ps i := by rw [← e1, e2]; omega
    refine ret1 Try.results134 (RV_tmp rfl) ⟨X, cx, by rw [e3], by rw [e3, ← e1]⟩ (Picks.cons (Pick.here _ _) (Picks.nil _)) rfl
theorem c_rText (t : Int) (ht : 0 ≤ t ∧ t < 256) (A : Option Addr) (n c : Nat) (ps : List BPart) (hn : ps.length = n) (hl : n ≤ 65536) (hs : (ps.map fun p => p.l.length + 8).sum ≤ 16777000) :
    CT Try.prog 134 [.int .u8 t, .slice A n c] [] [rdB A ps] (pO 5 1 (textB (UInt8.ofNat t.toNat) (ps.map BPart.l)).length (bcs (textB (UInt8.ofNat t.toNat) (ps.map BPart.l)))) := by
  have e : ((UInt8.ofNat t.toNat).toNat : Int) = t := by simp; omega
  have := c_rText0 (UInt8.ofNat t.toNat) A n c ps hn hl hs
  rw [e] at this
  exact this
theorem textB_len (t : UInt8) (ps : List BPart) : (textB t (ps.map BPart.l)).length = (ps.map fun p => p.l.length + 8).sum + 1 := by
  rw [← textTo_all, textTo_length t ps _ (Nat.le_refl _), lenTo, List.take_length]
set_option maxRecDepth 100000 in
set_option maxHeartbeats 1000000 in
theorem c_rTag (t : Int) (ht : 0 ≤ t ∧ t < 256) (A : Option Addr) (n c : Nat) (ps : List BPart) (hn : ps.length = n) (hl : n ≤ 65536) (hs : (ps.map fun p => p.l.length + 8).sum ≤ 16777000) : CT Try.prog 97 [.int .u8 t, .slice A n c] [] [rdB A ps] (pV (.agg (hL (tagB (UInt8.ofNat t.toNat) (ps.map BPart.l))).toArray)) := by
  refine CT_of Try.func97 rfl Try.ntmps97 rfl (fun w0 => ?_)
  refine JC_seq ?_
  refine JC_region ?_
  refine JL_E rfl (E_allocA ti23) ?_
  rintro _ _ ⟨g1, rfl, rfl⟩
  refine JL_nil ?_
  refine JQ_then ?_
  refine JC_seq ?_
  refine JC_region ?_
  refine JL_R rfl (R_move rfl) ?_
  refine JL_R rfl (R_move rfl) ?_
  refine JL_E rfl (E_callO ok134 rfl (ents_cons (Ent.fact (List.Mem.tail _ (List.Mem.head _))) ents_nil) (c_rText _ ht _ _ _ _ hn hl hs)) ?_
  rintro _ _ ⟨A2, c3, rfl, rfl⟩
  refine JL_E rfl (E_callV ok102 rfl (ents_cons (rd_own (List.Mem.head _)) ents_nil) (c_rSum _ _ _ _ rfl (by rw [textB_len]; omega))) ?_
  rintro _ _ ⟨rfl, rfl⟩
  refine JL_E0 (E_storeA ti23 rfl rfl (Pick.there _ (Pick.here _ _)) (by first | rfl | (simp [bcs_length, sb_length, numN_length, hL_length, sigP_len, headP_len, entryP_len, itemP_len, knownP_len, stP_len, Hash.h]; done) | omega | (simp [bcs_length, sb_length, numN_length, hL_length, sigP_len, headP_len, entryP_len, itemP_len, knownP_len, stP_len, Hash.h]; omega)) (by first | exact hL_ones _ | exact headP_ones _ | exact itemP_ones _ | exact sigP_ones _ | exact entryP_ones _ | exact knownP_ones _ | exact stP_ones _ | exact ones1_int _ _ | exact bcs_ones _ | exact ones1.nil | (apply ones1.pl; simp [ones1, offP, sigP, headP, entryP, itemP, knownP]; done)) (by first | rfl | (simp [bcs_length, sb_length, numN_length, hL_length, sigP_len, headP_len, entryP_len, itemP_len, knownP_len, stP_len, Hash.h]; done) | omega | (simp [bcs_length, sb_length, numN_length, hL_length, sigP_len, headP_len, entryP_len, itemP_len, knownP_len, stP_len, Hash.h]; omega))) ?_
  rintro _ _ ⟨rfl, rfl⟩
  refine JL_nil ?_
  refine JQ_then ?_
  refine JC_ret ?_
  refine ret1 Try.results97 (RV_cell rfl Try.underlying23 rfl ti23 (List.Mem.head _) (by first | rfl | (simp [bcs_length, sb_length, numN_length, hL_length, sigP_len, headP_len, entryP_len, itemP_len, knownP_len, stP_len, Hash.h]; done) | omega | (simp [bcs_length, sb_length, numN_length, hL_length, sigP_len, headP_len, entryP_len, itemP_len, knownP_len, stP_len, Hash.h]; omega))) ⟨rfl, rfl⟩ (Picks.nil _) rfl
set_option maxRecDepth 100000 in
set_option maxHeartbeats 1000000 in
theorem c_rEmpty  : CT Try.prog 45 [] [] [] (pV (.agg (hL (emptyH)).toArray)) := by
  refine CT_of Try.func45 rfl Try.ntmps45 rfl (fun w0 => ?_)
  refine JC_seq ?_
  refine JC_region ?_
  refine JL_E rfl (E_allocA ti23) ?_
  rintro _ _ ⟨g1, rfl, rfl⟩
  refine JL_nil ?_
  refine JQ_then ?_
  refine JC_seq ?_
  refine JC_region ?_
  refine JL_E rfl (E_callV ok97 rfl (ents_cons rdB_nil ents_nil) (c_rTag _ (by omega) _ _ _ _ rfl (by omega) (by first | omega | (simp [bcs_length, sb_length, numN_length, hL_length, sigP_len, headP_len, entryP_len, itemP_len, knownP_len, stP_len, Hash.h]; done) | (simp [bcs_length, sb_length, numN_length, hL_length, sigP_len, headP_len, entryP_len, itemP_len, knownP_len, stP_len, Hash.h]; omega)))) ?_
  rintro _ _ ⟨rfl, rfl⟩
  refine JL_E0 (E_storeA ti23 rfl rfl (Pick.here _ _) (by first | rfl | (simp [bcs_length, sb_length, numN_length, hL_length, sigP_len, headP_len, entryP_len, itemP_len, knownP_len, stP_len, Hash.h]; done) | omega | (simp [bcs_length, sb_length, numN_length, hL_length, sigP_len, headP_len, entryP_len, itemP_len, knownP_len, stP_len, Hash.h]; omega)) (by first | exact hL_ones _ | exact headP_ones _ | exact itemP_ones _ | exact sigP_ones _ | exact entryP_ones _ | exact knownP_ones _ | exact stP_ones _ | exact ones1_int _ _ | exact bcs_ones _ | exact ones1.nil | (apply ones1.pl; simp [ones1, offP, sigP, headP, entryP, itemP, knownP]; done)) (by first | rfl | (simp [bcs_length, sb_length, numN_length, hL_length, sigP_len, headP_len, entryP_len, itemP_len, knownP_len, stP_len, Hash.h]; done) | omega | (simp [bcs_length, sb_length, numN_length, hL_length, sigP_len, headP_len, entryP_len, itemP_len, knownP_len, stP_len, Hash.h]; omega))) ?_
  rintro _ _ ⟨rfl, rfl⟩
  refine JL_nil ?_
  refine JQ_then ?_
  refine JC_ret ?_
  refine ret1 Try.results45 (RV_cell rfl Try.underlying23 rfl ti23 (List.Mem.head _) (by first | rfl | (simp [bcs_length, sb_length, numN_length, hL_length, sigP_len, headP_len, entryP_len, itemP_len, knownP_len, stP_len, Hash.h]; done) | omega | (simp [bcs_length, sb_length, numN_length, hL_length, sigP_len, headP_len, entryP_len, itemP_len, knownP_len, stP_len, Hash.h]; omega))) ⟨rfl, rfl⟩ (Picks.nil _) rfl
set_option maxRecDepth 100000 in
set_option maxHeartbeats 1000000 in
theorem c_rNode (l r : Hash) : CT Try.prog 43 [.agg (hL l).toArray, .agg (hL r).toArray] [] [] (pV (.agg (hL (nodeH l r)).toArray)) := by
  refine CT_of Try.func43 rfl Try.ntmps43 rfl (fun w0 => ?_)
  refine JC_seq ?_
  refine JC_region ?_
  refine JL_E rfl (E_boxA rfl) ?_
  rintro _ _ ⟨g1, rfl, rfl⟩
  refine JL_E rfl (E_boxA rfl) ?_
  rintro _ _ ⟨g2, rfl, rfl⟩
  refine JL_E rfl (E_allocA ti23) ?_
  rintro _ _ ⟨g3, rfl, rfl⟩
  refine JL_nil ?_
  refine JQ_then ?_
  refine JC_seq ?_
  refine JC_draw [] rfl (.take 0 (.take 1 (.exec 2 (.exec 3 (.exec 4 (.done)))))) _ (by kernel_rfl) (fun _ h => h) (by repeat (first | with_reducible exact Ret.noP | with_reducible apply NoP.block | with_reducible apply NoP.then)) ?_
  refine JP_R rfl rfl rfl (R_sliceArr Try.underlying23 ti5 (by decide) rfl) ?_
  refine JP_R rfl rfl rfl (R_sliceArr Try.underlying23 ti5 (by decide) rfl) ?_
  refine JP_E rfl rfl (E_rowV Try.underlying89 ti29 rfl rfl (PartsV.cons rfl rfl (PartsV.cons rfl rfl (PartsV.nil _))) rfl) ?_
  rintro _ _ ⟨g4, rfl, rfl⟩
  refine JPn_bar (by kernel_rfl) ?_
  refine JP_E rfl rfl (E_callV ok97 rfl (ents_cons (rdB_of (rd_own (List.Mem.head _)) (BPs.cons (rd_blk (List.Mem.tail _ (List.Mem.tail _ (List.Mem.tail _ (List.Mem.head _))))) (by first | rfl | (simp [bcs_length, sb_length, numN_length, hL_length, sigP_len, headP_len, entryP_len, itemP_len, knownP_len, stP_len, Hash.h]; done) | omega | (simp [bcs_length, sb_length, numN_length, hL_length, sigP_len, headP_len, entryP_len, itemP_len, knownP_len, stP_len, Hash.h]; omega)) (BPs.cons (rd_blk (List.Mem.tail _ (List.Mem.tail _ (List.Mem.head _)))) (by first | rfl | (simp [bcs_length, sb_length, numN_length, hL_length, sigP_len, headP_len, entryP_len, itemP_len, knownP_len, stP_len, Hash.h]; done) | omega | (simp [bcs_length, sb_length, numN_length, hL_length, sigP_len, headP_len, entryP_len, itemP_len, knownP_len, stP_len, Hash.h]; omega)) BPs.nil))) ents_nil) (c_rTag _ (by omega) _ _ _ _ rfl (by omega) (by first | omega | (simp [bcs_length, sb_length, numN_length, hL_length, sigP_len, headP_len, entryP_len, itemP_len, knownP_len, stP_len, Hash.h]; done) | (simp [bcs_length, sb_length, numN_length, hL_length, sigP_len, headP_len, entryP_len, itemP_len, knownP_len, stP_len, Hash.h]; omega)))) ?_
  rintro _ _ ⟨rfl, rfl⟩
  refine JPn_bar (by kernel_rfl) ?_
  refine JP_E0 rfl (E_storeA ti23 rfl rfl (Pick.there _ (Pick.here _ _)) (by first | rfl | (simp [bcs_length, sb_length, numN_length, hL_length, sigP_len, headP_len, entryP_len, itemP_len, knownP_len, stP_len, Hash.h]; done) | omega | (simp [bcs_length, sb_length, numN_length, hL_length, sigP_len, headP_len, entryP_len, itemP_len, knownP_len, stP_len, Hash.h]; omega)) (by first | exact hL_ones _ | exact headP_ones _ | exact itemP_ones _ | exact sigP_ones _ | exact entryP_ones _ | exact knownP_ones _ | exact stP_ones _ | exact ones1_int _ _ | exact bcs_ones _ | exact ones1.nil | (apply ones1.pl; simp [ones1, offP, sigP, headP, entryP, itemP, knownP]; done)) (by first | rfl | (simp [bcs_length, sb_length, numN_length, hL_length, sigP_len, headP_len, entryP_len, itemP_len, knownP_len, stP_len, Hash.h]; done) | omega | (simp [bcs_length, sb_length, numN_length, hL_length, sigP_len, headP_len, entryP_len, itemP_len, knownP_len, stP_len, Hash.h]; omega))) ?_
  rintro _ _ ⟨rfl, rfl⟩
  refine JPn_bar (by kernel_rfl) ?_
  refine JP_done ?_
  refine JQ_then ?_
  refine JC_ret ?_
  refine ret1 Try.results43 (RV_cell rfl Try.underlying23 rfl ti23 (List.Mem.head _) (by first | rfl | (simp [bcs_length, sb_length, numN_length, hL_length, sigP_len, headP_len, entryP_len, itemP_len, knownP_len, stP_len, Hash.h]; done) | omega | (simp [bcs_length, sb_length, numN_length, hL_length, sigP_len, headP_len, entryP_len, itemP_len, knownP_len, stP_len, Hash.h]; omega))) ⟨rfl, rfl⟩ (Picks.nil _) rfl
set_option maxRecDepth 100000 in
set_option maxHeartbeats 1000000 in
theorem c_rLeaf (x : Item) : CT Try.prog 41 [.agg (pl (itemP x)).toArray] [] [] (pV (.agg (hL (leafH x)).toArray)) := by
  refine CT_of Try.func41 rfl Try.ntmps41 rfl (fun w0 => ?_)
  refine JC_seq ?_
  refine JC_region ?_
  refine JL_E rfl (E_boxA rfl) ?_
  rintro _ _ ⟨g1, rfl, rfl⟩
  refine JL_E rfl (E_allocA ti23) ?_
  rintro _ _ ⟨g2, rfl, rfl⟩
  refine JL_nil ?_
  refine JQ_then ?_
  refine JC_seq ?_
  refine JC_draw [] rfl (.take 0 (.take 1 (.take 2 (.take 3 (.exec 4 (.exec 5 (.exec 6 (.done)))))))) _ (by kernel_rfl) (fun _ h => h) (by repeat (first | with_reducible exact Ret.noP | with_reducible apply NoP.block | with_reducible apply NoP.then)) ?_
  refine JP_R rfl rfl rfl (R_fieldB (o' := 0) Try.underlying60 rfl ti23 rfl rfl rfl) ?_
  refine JP_R rfl rfl rfl (R_sliceArr Try.underlying23 ti5 (by decide) rfl) ?_
  refine JP_R rfl rfl rfl (R_fieldB (o' := 32) Try.underlying60 rfl ti23 rfl rfl rfl) ?_
  refine JP_R rfl rfl rfl (R_sliceArr Try.underlying23 ti5 (by decide) rfl) ?_
  refine JP_E rfl rfl (E_rowV Try.underlying89 ti29 rfl rfl (PartsV.cons rfl rfl (PartsV.cons rfl rfl (PartsV.nil _))) rfl) ?_
  rintro _ _ ⟨g3, rfl, rfl⟩
  refine JPn_bar (by kernel_rfl) ?_
  refine JP_E rfl rfl (E_callV ok97 rfl (ents_cons (rdB_of (rd_own (List.Mem.head _)) (BPs.cons (rd_blkP 0 (List.Mem.tail _ (List.Mem.tail _ (List.Mem.head _))) rfl (by first | rfl | (simp [offP, sigP, headP, entryP, itemP, knownP]; done))) (by first | rfl | (simp [bcs_length, sb_length, numN_length, hL_length, sigP_len, headP_len, entryP_len, itemP_len, knownP_len, stP_len, Hash.h]; done) | omega | (simp [bcs_length, sb_length, numN_length, hL_length, sigP_len, headP_len, entryP_len, itemP_len, knownP_len, stP_len, Hash.h]; omega)) (BPs.cons (rd_blkP 1 (List.Mem.tail _ (List.Mem.tail _ (List.Mem.head _))) rfl (by first | rfl | (simp [offP, sigP, headP, entryP, itemP, knownP]; done))) (by first | rfl | (simp [bcs_length, sb_length, numN_length, hL_length, sigP_len, headP_len, entryP_len, itemP_len, knownP_len, stP_len, Hash.h]; done) | omega | (simp [bcs_length, sb_length, numN_length, hL_length, sigP_len, headP_len, entryP_len, itemP_len, knownP_len, stP_len, Hash.h]; omega)) BPs.nil))) ents_nil) (c_rTag _ (by omega) _ _ _ _ rfl (by omega) (by first | omega | (simp [bcs_length, sb_length, numN_length, hL_length, sigP_len, headP_len, entryP_len, itemP_len, knownP_len, stP_len, Hash.h]; done) | (simp [bcs_length, sb_length, numN_length, hL_length, sigP_len, headP_len, entryP_len, itemP_len, knownP_len, stP_len, Hash.h]; omega)))) ?_
  rintro _ _ ⟨rfl, rfl⟩
  refine JPn_all (fun _ h => h) ?_
  refine JP_E0 rfl (E_storeA ti23 rfl rfl (Pick.there _ (Pick.here _ _)) (by first | rfl | (simp [bcs_length, sb_length, numN_length, hL_length, sigP_len, headP_len, entryP_len, itemP_len, knownP_len, stP_len, Hash.h]; done) | omega | (simp [bcs_length, sb_length, numN_length, hL_length, sigP_len, headP_len, entryP_len, itemP_len, knownP_len, stP_len, Hash.h]; omega)) (by first | exact hL_ones _ | exact headP_ones _ | exact itemP_ones _ | exact sigP_ones _ | exact entryP_ones _ | exact knownP_ones _ | exact stP_ones _ | exact ones1_int _ _ | exact bcs_ones _ | exact ones1.nil | (apply ones1.pl; simp [ones1, offP, sigP, headP, entryP, itemP, knownP]; done)) (by first | rfl | (simp [bcs_length, sb_length, numN_length, hL_length, sigP_len, headP_len, entryP_len, itemP_len, knownP_len, stP_len, Hash.h]; done) | omega | (simp [bcs_length, sb_length, numN_length, hL_length, sigP_len, headP_len, entryP_len, itemP_len, knownP_len, stP_len, Hash.h]; omega))) ?_
  rintro _ _ ⟨rfl, rfl⟩
  refine JPn_bar (by kernel_rfl) ?_
  refine JP_done ?_
  refine JQ_then ?_
  refine JC_ret ?_
  refine ret1 Try.results41 (RV_cell rfl Try.underlying23 rfl ti23 (List.Mem.head _) (by first | rfl | (simp [bcs_length, sb_length, numN_length, hL_length, sigP_len, headP_len, entryP_len, itemP_len, knownP_len, stP_len, Hash.h]; done) | omega | (simp [bcs_length, sb_length, numN_length, hL_length, sigP_len, headP_len, entryP_len, itemP_len, knownP_len, stP_len, Hash.h]; omega))) ⟨rfl, rfl⟩ (Picks.nil _) rfl
set_option maxRecDepth 100000 in
set_option maxHeartbeats 1000000 in
theorem c_rIndex (s : ByteArray) (hs : s.size ≤ 16000000) : CT Try.prog 37 [.string s] [] [] (pV (.agg (hL (indexH s)).toArray)) := by
  refine CT_of Try.func37 rfl Try.ntmps37 rfl (fun w0 => ?_)
  refine JC_seq ?_
  refine JC_region ?_
  refine JL_E rfl (E_allocA ti23) ?_
  rintro _ _ ⟨g1, rfl, rfl⟩
  refine JL_nil ?_
  refine JQ_then ?_
  refine JC_seq ?_
  refine JC_region ?_
  refine JL_R rfl (R_move rfl) ?_
  refine JL_E rfl (E_bytes Try.underlying9 Try.underlying29 Try.underlying5 rfl) ?_
  rintro _ _ ⟨A2, c3, rfl, hc3, rfl⟩
  refine JL_E rfl (E_rowV Try.underlying89 ti29 rfl rfl (PartsV.cons rfl rfl (PartsV.nil _)) rfl) ?_
  rintro _ _ ⟨g4, rfl, rfl⟩
  refine JL_E rfl (E_callV ok97 rfl (ents_cons (rdB_of (rd_own (List.Mem.head _)) (BPs.cons (rd_new (List.Mem.tail _ (List.Mem.head _))) (by first | rfl | (simp [bcs_length, sb_length, numN_length, hL_length, sigP_len, headP_len, entryP_len, itemP_len, knownP_len, stP_len, Hash.h]; done) | omega | (simp [bcs_length, sb_length, numN_length, hL_length, sigP_len, headP_len, entryP_len, itemP_len, knownP_len, stP_len, Hash.h]; omega)) BPs.nil)) ents_nil) (c_rTag _ (by omega) _ _ _ _ rfl (by omega) (by first | omega | (simp [bcs_length, sb_length, numN_length, hL_length, sigP_len, headP_len, entryP_len, itemP_len, knownP_len, stP_len, Hash.h]; done) | (simp [bcs_length, sb_length, numN_length, hL_length, sigP_len, headP_len, entryP_len, itemP_len, knownP_len, stP_len, Hash.h]; omega)))) ?_
  rintro _ _ ⟨rfl, rfl⟩
  refine JL_E0 (E_storeA ti23 rfl rfl (Pick.there _ (Pick.there _ (Pick.here _ _))) (by first | rfl | (simp [bcs_length, sb_length, numN_length, hL_length, sigP_len, headP_len, entryP_len, itemP_len, knownP_len, stP_len, Hash.h]; done) | omega | (simp [bcs_length, sb_length, numN_length, hL_length, sigP_len, headP_len, entryP_len, itemP_len, knownP_len, stP_len, Hash.h]; omega)) (by first | exact hL_ones _ | exact headP_ones _ | exact itemP_ones _ | exact sigP_ones _ | exact entryP_ones _ | exact knownP_ones _ | exact stP_ones _ | exact ones1_int _ _ | exact bcs_ones _ | exact ones1.nil | (apply ones1.pl; simp [ones1, offP, sigP, headP, entryP, itemP, knownP]; done)) (by first | rfl | (simp [bcs_length, sb_length, numN_length, hL_length, sigP_len, headP_len, entryP_len, itemP_len, knownP_len, stP_len, Hash.h]; done) | omega | (simp [bcs_length, sb_length, numN_length, hL_length, sigP_len, headP_len, entryP_len, itemP_len, knownP_len, stP_len, Hash.h]; omega))) ?_
  rintro _ _ ⟨rfl, rfl⟩
  refine JL_nil ?_
  refine JQ_then ?_
  refine JC_ret ?_
  refine ret1 Try.results37 (RV_cell rfl Try.underlying23 rfl ti23 (List.Mem.head _) (by first | rfl | (simp [bcs_length, sb_length, numN_length, hL_length, sigP_len, headP_len, entryP_len, itemP_len, knownP_len, stP_len, Hash.h]; done) | omega | (simp [bcs_length, sb_length, numN_length, hL_length, sigP_len, headP_len, entryP_len, itemP_len, knownP_len, stP_len, Hash.h]; omega))) ⟨rfl, rfl⟩ (Picks.nil _) rfl
set_option maxRecDepth 100000 in
set_option maxHeartbeats 1000000 in
theorem c_rValue (version key : Int) (hk : 0 ≤ key) : CT Try.prog 39 [.int .i64 version, .int .u64 key] [] [] (pV (.agg (hL (valueH version key)).toArray)) := by
  refine CT_of Try.func39 rfl Try.ntmps39 rfl (fun w0 => ?_)
  refine JC_seq ?_
  refine JC_region ?_
  refine JL_E rfl (E_allocA ti23) ?_
  rintro _ _ ⟨g1, rfl, rfl⟩
  refine JL_nil ?_
  refine JQ_then ?_
  refine JC_seq ?_
  refine JC_region ?_
  refine JL_R rfl (R_move rfl) ?_
  first
    | refine JL_R rfl ((R_conv Try.underlying3 Try.underlying24 rfl).eq (u64_in (by omega))) ?_
    | refine JL_R rfl (R_conv Try.underlying3 Try.underlying24 rfl) ?_
  refine JL_E rfl (E_callO ok61 rfl ents_nil (c_rNum _ (by first | omega | exact wrap_u64_nonneg _))) ?_
  rintro _ _ ⟨A2, c3, rfl, rfl⟩
  refine JL_R rfl (R_move rfl) ?_
  refine JL_E rfl (E_callO ok61 rfl ents_nil (c_rNum _ (by first | omega | exact wrap_u64_nonneg _))) ?_
  rintro _ _ ⟨A4, c5, rfl, rfl⟩
  refine JL_E rfl (E_rowV Try.underlying89 ti29 rfl rfl (PartsV.cons rfl rfl (PartsV.cons rfl rfl (PartsV.nil _))) rfl) ?_
  rintro _ _ ⟨g6, rfl, rfl⟩
  refine JL_E rfl (E_callV ok97 rfl (ents_cons (rdB_of (rd_own (List.Mem.head _)) (BPs.cons (rd_own (List.Mem.tail _ (List.Mem.tail _ (List.Mem.head _)))) (by first | rfl | (simp [bcs_length, sb_length, numN_length, hL_length, sigP_len, headP_len, entryP_len, itemP_len, knownP_len, stP_len, Hash.h]; done) | omega | (simp [bcs_length, sb_length, numN_length, hL_length, sigP_len, headP_len, entryP_len, itemP_len, knownP_len, stP_len, Hash.h]; omega)) (BPs.cons (rd_own (List.Mem.tail _ (List.Mem.head _))) (by first | rfl | (simp [bcs_length, sb_length, numN_length, hL_length, sigP_len, headP_len, entryP_len, itemP_len, knownP_len, stP_len, Hash.h]; done) | omega | (simp [bcs_length, sb_length, numN_length, hL_length, sigP_len, headP_len, entryP_len, itemP_len, knownP_len, stP_len, Hash.h]; omega)) BPs.nil))) ents_nil) (c_rTag _ (by omega) _ _ _ _ rfl (by omega) (by first | omega | (simp [bcs_length, sb_length, numN_length, hL_length, sigP_len, headP_len, entryP_len, itemP_len, knownP_len, stP_len, Hash.h]; done) | (simp [bcs_length, sb_length, numN_length, hL_length, sigP_len, headP_len, entryP_len, itemP_len, knownP_len, stP_len, Hash.h]; omega)))) ?_
  rintro _ _ ⟨rfl, rfl⟩
  refine JL_E0 (E_storeA ti23 rfl rfl (Pick.there _ (Pick.there _ (Pick.there _ (Pick.here _ _)))) (by first | rfl | (simp [bcs_length, sb_length, numN_length, hL_length, sigP_len, headP_len, entryP_len, itemP_len, knownP_len, stP_len, Hash.h]; done) | omega | (simp [bcs_length, sb_length, numN_length, hL_length, sigP_len, headP_len, entryP_len, itemP_len, knownP_len, stP_len, Hash.h]; omega)) (by first | exact hL_ones _ | exact headP_ones _ | exact itemP_ones _ | exact sigP_ones _ | exact entryP_ones _ | exact knownP_ones _ | exact stP_ones _ | exact ones1_int _ _ | exact bcs_ones _ | exact ones1.nil | (apply ones1.pl; simp [ones1, offP, sigP, headP, entryP, itemP, knownP]; done)) (by first | rfl | (simp [bcs_length, sb_length, numN_length, hL_length, sigP_len, headP_len, entryP_len, itemP_len, knownP_len, stP_len, Hash.h]; done) | omega | (simp [bcs_length, sb_length, numN_length, hL_length, sigP_len, headP_len, entryP_len, itemP_len, knownP_len, stP_len, Hash.h]; omega))) ?_
  rintro _ _ ⟨rfl, rfl⟩
  refine JL_nil ?_
  refine JQ_then ?_
  refine JC_ret ?_
  refine ret1 Try.results39 (RV_cell rfl Try.underlying23 rfl ti23 (List.Mem.head _) (by first | rfl | (simp [bcs_length, sb_length, numN_length, hL_length, sigP_len, headP_len, entryP_len, itemP_len, knownP_len, stP_len, Hash.h]; done) | omega | (simp [bcs_length, sb_length, numN_length, hL_length, sigP_len, headP_len, entryP_len, itemP_len, knownP_len, stP_len, Hash.h]; omega))) ⟨rfl, rfl⟩ (Picks.nil _) rfl
set_option maxRecDepth 100000 in
set_option maxHeartbeats 1000000 in
theorem c_rItem (e : Entry) (hs : e.name.size ≤ 16000000) (hk : 0 ≤ e.key) : CT Try.prog 85 [.agg (pl (entryP e)).toArray] [] [] (pV (.agg (pl (itemP (itemH e))).toArray)) := by
  refine CT_of Try.func85 rfl Try.ntmps85 rfl (fun w0 => ?_)
  refine JC_seq ?_
  refine JC_region ?_
  refine JL_E rfl (E_boxA rfl) ?_
  rintro _ _ ⟨g1, rfl, rfl⟩
  refine JL_E rfl (E_allocA ti60) ?_
  rintro _ _ ⟨g2, rfl, rfl⟩
  refine JL_nil ?_
  refine JQ_then ?_
  refine JC_seq ?_
  refine JC_draw [] rfl (.take 0 (.take 1 (.take 3 (.take 4 (.take 5 (.take 6 (.exec 2 (.exec 7 (.take 8 (.exec 9 (.done))))))))))) _ (by kernel_rfl) (fun _ h => h) (by repeat (first | with_reducible exact Ret.noP | with_reducible apply NoP.block | with_reducible apply NoP.then)) ?_
  refine JP_R rfl rfl rfl (R_fieldB (o' := 0) Try.underlying108 rfl ti9 rfl rfl rfl) ?_
  refine JP_R rfl rfl rfl (R_loadP 0 Try.underlying9 rfl rfl (List.Mem.tail _ (List.Mem.head _)) rfl (by first | rfl | (simp [offP, sigP, headP, entryP, itemP, knownP]; done))) ?_
  refine JP_R rfl rfl rfl (R_fieldB (o' := 1) Try.underlying108 rfl ti3 rfl rfl rfl) ?_
  refine JP_R rfl rfl rfl (R_loadP 1 Try.underlying3 rfl rfl (List.Mem.tail _ (List.Mem.head _)) rfl (by first | rfl | (simp [offP, sigP, headP, entryP, itemP, knownP]; done))) ?_
  refine JP_R rfl rfl rfl (R_fieldB (o' := 2) Try.underlying108 rfl ti24 rfl rfl rfl) ?_
  refine JP_R rfl rfl rfl (R_loadP 2 Try.underlying24 rfl rfl (List.Mem.tail _ (List.Mem.head _)) rfl (by first | rfl | (simp [offP, sigP, headP, entryP, itemP, knownP]; done))) ?_
  refine JP_E rfl rfl (E_callV ok37 rfl ents_nil (c_rIndex _ (by omega))) ?_
  rintro _ _ ⟨rfl, rfl⟩
  refine JPn_all (fun _ h => h) ?_
  refine JP_E rfl rfl (E_callV ok39 rfl ents_nil (c_rValue _ _ (by omega))) ?_
  rintro _ _ ⟨rfl, rfl⟩
  refine JPn_all (fun _ h => h) ?_
  refine JP_R rfl rfl rfl (R_buildP zo60 pl60 (LaysP.cons rfl rfl rfl (by first | rfl | (simp [bcs_length, sb_length, numN_length, hL_length, sigP_len, headP_len, entryP_len, itemP_len, knownP_len, stP_len, Hash.h]; done) | omega | (simp [bcs_length, sb_length, numN_length, hL_length, sigP_len, headP_len, entryP_len, itemP_len, knownP_len, stP_len, Hash.h]; omega)) (LaysP.cons rfl rfl rfl (by first | rfl | (simp [bcs_length, sb_length, numN_length, hL_length, sigP_len, headP_len, entryP_len, itemP_len, knownP_len, stP_len, Hash.h]; done) | omega | (simp [bcs_length, sb_length, numN_length, hL_length, sigP_len, headP_len, entryP_len, itemP_len, knownP_len, stP_len, Hash.h]; omega)) (LaysP.nil _))) (rfl : _ = pl (itemP ⟨_, _⟩))) ?_
  refine JP_E0 rfl (E_storeA ti60 rfl rfl (Pick.here _ _) (by first | rfl | (simp [bcs_length, sb_length, numN_length, hL_length, sigP_len, headP_len, entryP_len, itemP_len, knownP_len, stP_len, Hash.h]; done) | omega | (simp [bcs_length, sb_length, numN_length, hL_length, sigP_len, headP_len, entryP_len, itemP_len, knownP_len, stP_len, Hash.h]; omega)) (by first | exact hL_ones _ | exact headP_ones _ | exact itemP_ones _ | exact sigP_ones _ | exact entryP_ones _ | exact knownP_ones _ | exact stP_ones _ | exact ones1_int _ _ | exact bcs_ones _ | exact ones1.nil | (apply ones1.pl; simp [ones1, offP, sigP, headP, entryP, itemP, knownP]; done)) (by first | rfl | (simp [bcs_length, sb_length, numN_length, hL_length, sigP_len, headP_len, entryP_len, itemP_len, knownP_len, stP_len, Hash.h]; done) | omega | (simp [bcs_length, sb_length, numN_length, hL_length, sigP_len, headP_len, entryP_len, itemP_len, knownP_len, stP_len, Hash.h]; omega))) ?_
  rintro _ _ ⟨rfl, rfl⟩
  refine JPn_bar (by kernel_rfl) ?_
  refine JP_done ?_
  refine JQ_then ?_
  refine JC_ret ?_
  refine ret1 Try.results85 (RV_cell rfl Try.underlying60 rfl ti60 (List.Mem.head _) (by first | rfl | (simp [bcs_length, sb_length, numN_length, hL_length, sigP_len, headP_len, entryP_len, itemP_len, knownP_len, stP_len, Hash.h]; done) | omega | (simp [bcs_length, sb_length, numN_length, hL_length, sigP_len, headP_len, entryP_len, itemP_len, knownP_len, stP_len, Hash.h]; omega))) ⟨rfl, rfl⟩ (Picks.nil _) rfl
theorem bitU_and (x : UInt8) (p : Nat) (hp : p ≤ 7) : bits .and .u8 ((x.toNat : Int).fdiv (2 ^ min p 8)) 1 = ((x.toNat / 2 ^ p % 2 : Nat) : Int) := by
  have hx := x.toNat_lt
  have e : ((x.toNat : Int).fdiv (2 ^ min p 8)) = ((x.toNat / 2 ^ p : Nat) : Int) := by
    rw [Nat.min_eq_left (by omega), Int.fdiv_eq_ediv_of_nonneg _ (Int.pow_nonneg (by omega))]; simp
  have hle : x.toNat / 2 ^ p ≤ x.toNat := Nat.div_le_self _ _
  rw [e]
  generalize x.toNat / 2 ^ p = m at hle
  have hk : m = 0 ∨ 0 < m := by omega
  have : ∀ m : Nat, m < 256 → bits .and .u8 (m : Int) 1 = ((m % 2 : Nat) : Int) := by decide +kernel
  exact this m (by omega)
theorem bitU_val (h : Hash) (i : Int) (h0 : 0 ≤ i) (h1 : i < 256) : IntKind.i64.wrap (bits .and .u8 (((h.at (i / 8).toNat).toNat : Int).fdiv (2 ^ min (7 - i % 8).toNat 8)) 1) = bitI h i := by
  rw [bitU_and _ _ (by omega), bitI, if_pos ⟨h0, h1⟩, bitH, if_pos (by omega)]
  rw [show (i / 8).toNat = i.toNat / 8 by omega, show (7 - i % 8).toNat = 7 - i.toNat % 8 by omega]
  exact IntWalk.i64_in _ (by omega)
set_option maxRecDepth 100000 in
set_option maxHeartbeats 1000000 in
theorem c_rBit (h : Hash) (i : Int) : CT Try.prog 47 [.agg (hL h).toArray, .int .i64 i] [] [] (pV (.int .i64 (bitI h i))) := by
  refine CT_of Try.func47 rfl Try.ntmps47 rfl (fun w0 => ?_)
  refine JC_seq ?_
  refine JC_region ?_
  refine JL_E rfl (E_boxA rfl) ?_
  rintro _ _ ⟨g1, rfl, rfl⟩
  refine JL_R rfl (R_assign rfl) ?_
  refine JL_nil ?_
  refine JQ_then ?_
  refine JC_seq ?_
  refine JC_seq ?_
  refine JC_region ?_
  refine JL_R rfl (R_move rfl) ?_
  refine JL_R rfl (R_lt rfl rfl) ?_
  refine JL_R rfl (R_move rfl) ?_
  first
    | refine JL_RS rfl rfl rfl (fun hg => R_move rfl) ?_
  first
    | refine JL_RS rfl rfl rfl (fun hg => R_ge (gv_yes hg rfl) rfl) ?_
  refine JL_R rfl (R_pick_orG rfl rfl) ?_
  refine JL_nil ?_
  refine JQ_then ?_
  refine JC_cond rfl (fun hc10 => ?_) (fun hc10 => ?_)
  · try simp only [Bool.or_eq_true, Bool.and_eq_true, Bool.or_eq_false_iff, Bool.and_eq_false_iff, decide_eq_true_eq, decide_eq_false_iff_not, Bool.not_eq_true', Bool.not_eq_false', beq_iff_eq] at hc10
    refine JC_seq ?_
    refine JC_region ?_
    refine JL_R rfl (R_assign rfl) ?_
    refine JL_nil ?_
    refine JQ_then ?_
    refine JC_ret ?_
    refine JQ_then_ret ?_
    exact ret1 Try.results47 (RV_tmp rfl) ⟨by rw [bitI_out h i hc10], rfl⟩ (Picks.nil _) rfl
  · try simp only [Bool.or_eq_true, Bool.and_eq_true, Bool.or_eq_false_iff, Bool.and_eq_false_iff, decide_eq_true_eq, decide_eq_false_iff_not, Bool.not_eq_true', Bool.not_eq_false', beq_iff_eq] at hc10
    refine JC_skip ?_
    refine JQ_then ?_
    refine JC_seq ?_
    refine JC_region ?_
    refine JL_R rfl (R_move rfl) ?_
    first
      | refine JL_R rfl ((R_quo rfl rfl (by omega)).eq (quo_i64 (by omega) (by omega) (by omega))) ?_
      | refine JL_R rfl (R_quo rfl rfl (by omega)) ?_
    refine JL_R rfl (R_indexH Try.underlying23 ti5 rfl rfl (by omega) (by omega)) ?_
    refine JL_R rfl (R_loadH Try.underlying5 rfl rfl (List.Mem.head _) (by omega)) ?_
    refine JL_R rfl (R_move rfl) ?_
    first
      | refine JL_R rfl ((R_rem rfl rfl (by omega)).eq (rem_in (by omega) (by omega))) ?_
      | refine JL_R rfl (R_rem rfl rfl (by omega)) ?_
    first
      | refine JL_R rfl ((R_sub rfl rfl).eq (i64_in (by omega))) ?_
      | refine JL_R rfl (R_sub rfl rfl) ?_
    refine JL_R rfl (R_shr rfl rfl (by omega)) ?_
    refine JL_R rfl (R_bits rfl rfl (by simp)) ?_
    refine JL_R rfl (R_conv Try.underlying5 Try.underlying3 rfl) ?_
    refine JL_R rfl (R_assign rfl) ?_
    refine JL_nil ?_
    refine JQ_then ?_
    refine JC_ret ?_
    exact ret1 Try.results47 (RV_tmp rfl) ⟨congrArg (Value.int .i64) (bitU_val h i (by omega) (by omega)), rfl⟩ (Picks.nil _) rfl
end Go.Proofs.Ytkckakfkeooepaa
