/- Package tree: sets, the place of the first 1. -/
import Derived.Test.YtkckakfkeooepaaJTree7
import Derived.Test.YtkckakfkeooepaaJBits
namespace Go.Proofs.Ytkckakfkeooepaa
set_option linter.all false
set_option linter.unusedSimpArgs false
set_option linter.unusedVariables false
set_option linter.unnecessarySimpa false
open Go.RowKit
theorem c_CloneI (A : Option Addr) (n c : Nat) (l : List Item) (hn : l.length = n) (hl : n ≤ 1000000) : CT Try.prog 136 [.slice A n c] [] [rd A (fl iL l)] (pO 60 64 n (fl iL l)) := CT_own fun W hφ => by
  have h := hφ (rd A (fl iL l)) (by simp)
  have hlen : (fl iL l).length = n * 64 := by rw [fl_length itemP_len, hn]
  refine item_clone A n c (fl iL l) W (Rng.reads h hlen (by omega)) (fl_ones itemP_ones _) (by omega) (fun e => ?_)
  subst e
  rcases h with h | ⟨b, o, e, _⟩
  · rw [h] at hlen; simp at hlen; omega
  · cases e
set_option maxRecDepth 100000 in
set_option maxHeartbeats 1000000 in
theorem c_Set (A B : Option Addr) (n n2 c c2 : Nat) (l more : List Item) (hn : l.length = n) (hm : more.length = n2) (hN : n + n2 ≤ 1000000) : CT Try.prog 32 [.slice A n c, .slice B n2 c2] [] [rd A (fl iL l), rd B (fl iL more)] (pR iL (setK key (l ++ more))) := by
  refine CT_of Try.func32 rfl Try.ntmps32 rfl (fun w0 => ?_)
  refine JC_seq ?_
  refine JC_region ?_
  refine JL_R rfl (R_assign rfl) ?_
  refine JL_nil ?_
  refine JQ_then ?_
  refine JC_seq ?_
  refine JC_region ?_
  refine JL_R rfl (R_move rfl) ?_
  refine JL_R rfl (R_move rfl) ?_
  refine JL_E rfl (E_rowV Try.underlying164 ti51 rfl rfl (PartsV.cons rfl rfl (PartsV.cons rfl rfl (PartsV.nil _))) rfl) ?_
  rintro _ _ ⟨g1, rfl, rfl⟩
  refine JL_E rfl (E_callO ok86 rfl (ents_cons (rdE_of (rd_own (List.Mem.head _)) (EPs.cons (rd_old (List.Mem.tail _ (List.Mem.head _))) (by first | rfl | (simp [bcs_length, sb_length, numN_length, hL_length, sigP_len, headP_len, entryP_len, itemP_len, knownP_len, stP_len, Hash.h]; done) | omega | (simp [bcs_length, sb_length, numN_length, hL_length, sigP_len, headP_len, entryP_len, itemP_len, knownP_len, stP_len, Hash.h]; omega)) (EPs.cons (rd_old (List.Mem.tail _ (List.Mem.tail _ (List.Mem.head _)))) (by first | rfl | (simp [bcs_length, sb_length, numN_length, hL_length, sigP_len, headP_len, entryP_len, itemP_len, knownP_len, stP_len, Hash.h]; done) | omega | (simp [bcs_length, sb_length, numN_length, hL_length, sigP_len, headP_len, entryP_len, itemP_len, knownP_len, stP_len, Hash.h]; omega)) EPs.nil))) ents_nil) (c_ConcatI _ _ _ _ rfl (by first | omega | (simp <;> omega)) (by first | omega | (simp <;> omega)))) ?_
  rintro _ _ ⟨A2, c3, rfl, rfl⟩
  refine JL_R rfl (R_assign rfl) ?_
  refine JL_nil ?_
  refine JQ_then ?_
  refine JC_seq ?_
  refine JC_region ?_
  refine JL_R rfl (R_move rfl) ?_
  refine JL_E rfl (E_callT ok87 rfl (Pick.here _ _) rfl ents_nil (c_Reverse _ _ _ _ rfl (by first | omega | (simp <;> omega)))) ?_
  rintro _ _ ⟨_, rfl, rfl, rfl⟩
  refine JL_nil ?_
  refine JQ_then ?_
  refine JC_seq ?_
  refine JC_region ?_
  refine JL_R rfl (R_move rfl) ?_
  refine JL_E rfl (E_callT ok88 rfl (Pick.here _ _) rfl ents_nil (c_sort _ _ _ _ (by rw [List.length_reverse]) (by first | omega | (simp <;> omega)))) ?_
  rintro _ _ ⟨_, ⟨ys, rfl, hs⟩, rfl, rfl⟩
  refine JL_nil ?_
  refine JQ_then ?_
  refine JC_seq ?_
  refine JC_ownle (List.Mem.head _) (fun hcap => ?_)
  refine JC_region ?_
  refine JL_R rfl (R_move rfl) ?_
  refine JL_E rfl (E_callR ok91 rfl (Pick.here _ _) rfl ents_nil (c_Compact _ _ _ _ (by have := hs.2.1; simp at this ⊢; omega) (by first | omega | (simp <;> omega)) hcap)) ?_
  rintro _ _ ⟨A4, c5, rfl, hc5, rfl⟩
  refine JL_E rfl (E_callV ok90 rfl ents_nil (c_ClipI _ _ _ (by first | omega | assumption))) ?_
  rintro _ _ ⟨rfl, rfl⟩
  refine JL_R rfl (R_assign rfl) ?_
  refine JL_nil ?_
  refine JQ_then ?_
  refine JC_ret ?_
  have e : cpt key ys = setK key (l ++ more) := TT.eq key (TT.sort key (by simpa using hs))
  refine ret1 Try.results32 (RV_tmp rfl) ⟨_, _, by rw [← e], by rw [← e]; exact Nat.le_refl _, by rw [← e]⟩ (Picks.cons (Pick.here _ _) (Picks.nil _)) rfl
set_option maxRecDepth 100000 in
set_option maxHeartbeats 1000000 in
theorem c_ones  : CT Try.prog 137 [] [] [] (pV (.agg (hL onesH).toArray)) := by
  refine CT_of Try.func137 rfl Try.ntmps137 rfl (fun w0 => ?_)
  refine JC_seq ?_
  refine JC_region ?_
  refine JL_E rfl (E_allocA ti23) ?_
  rintro _ _ ⟨g1, rfl, rfl⟩
  refine JL_nil ?_
  refine JQ_then ?_
  refine JC_seq ?_
  refine JC_region ?_
  refine JL_E rfl (E_allocA ti23) ?_
  rintro _ _ ⟨g2, rfl, rfl⟩
  refine JL_nil ?_
  refine JQ_then ?_
  refine JC_seq ?_
  refine JC_seq ?_
  refine JC_region ?_
  refine JL_R rfl (R_move rfl) ?_
  refine JL_nil ?_
  refine JQ_then ?_
  refine JC_block ?_
  refine JC_loop2 (kp := [(0, _), (1, _)]) (fun (i : Nat) (h : Hash) => i ≤ 32 ∧ ∀ j < i, h.at j = 255) (fun kp_ (i : Nat) (h : Hash) => (3, .int .i64 (i : Int)) :: kp_) (fun rs_ (i : Nat) (h : Hash) => Atom.blk g2 23 (hL h) :: rs_) (fun (i : Nat) (h : Hash) => 32 - i) (0) (Hash.zero) (Picks.cons (Pick.here _ _) (Picks.nil _)) (FrSub.cons rfl (by first | rfl | ((try dsimp only); congr 1; omega) | exact congrArg (Value.int _) (by (try dsimp only); omega)) (FrSub.cons rfl (by first | rfl | ((try dsimp only); congr 1; omega) | exact congrArg (Value.int _) (by (try dsimp only); omega)) (FrSub.cons rfl (by first | rfl | ((try dsimp only); congr 1; omega) | exact congrArg (Value.int _) (by (try dsimp only); omega)) FrSub.nil))) (fun _ _ _  => rfl) (⟨by omega, fun j hj => absurd hj (by omega)⟩) ?_
  rintro i h ⟨h1, h2⟩
  refine JC_seq ?_
  refine JC_region ?_
  refine JL_R rfl (R_lt rfl rfl) ?_
  refine JL_nil ?_
  refine JQ_then ?_
  refine JC_seq ?_
  refine JC_cond rfl (fun hc4 => ?_) (fun hc4 => ?_)
  · try simp only [Bool.or_eq_true, Bool.and_eq_true, Bool.or_eq_false_iff, Bool.and_eq_false_iff, decide_eq_true_eq, decide_eq_false_iff_not, Bool.not_eq_true', Bool.not_eq_false', beq_iff_eq] at hc4
    refine JC_skip ?_
    refine JQ_then ?_
    refine JC_seq ?_
    refine JC_block ?_
    refine JC_seq ?_
    refine JC_region ?_
    refine JL_R rfl (R_move rfl) ?_
    refine JL_R rfl (R_assign rfl) ?_
    refine JL_nil ?_
    refine JQ_then ?_
    refine JC_region ?_
    refine JL_R rfl (R_move rfl) ?_
    refine JL_R rfl (R_indexH Try.underlying23 ti5 rfl rfl (by omega) (by omega)) ?_
    refine JL_E0 (E_storeH (255) ti5 rfl rfl rfl (Pick.here _ _) (by omega)) ?_
    rintro _ _ ⟨rfl, rfl⟩
    refine JL_nil ?_
    refine JQ_block ?_
    refine JQ_then ?_
    refine JC_region ?_
    first
      | refine JL_R rfl ((R_add rfl rfl).eq (i64_in (by omega))) ?_
      | refine JL_R rfl (R_add rfl rfl) ?_
    refine JL_R rfl (R_move rfl) ?_
    refine JL_nil ?_
    refine JQ_nxt2 (i + 1) (h.put i 255) (Picks.cons (Pick.here _ _) (Picks.cons (Pick.here _ _) (Picks.nil _))) (FrSub.cons rfl (by first | rfl | ((try dsimp only); congr 1; omega) | exact congrArg (Value.int _) (by (try dsimp only); omega)) (FrSub.cons rfl (by first | rfl | ((try dsimp only); congr 1; omega) | exact congrArg (Value.int _) (by (try dsimp only); omega)) (FrSub.cons rfl (by first | rfl | ((try dsimp only); congr 1; omega) | exact congrArg (Value.int _) (by (try dsimp only); omega)) FrSub.nil))) (by (try dsimp only); omega) (by first | exact ⟨by omega, fun j hj => by rw [Hash.put_at _ _ _ _ (by omega)]; split; rfl; exact h2 j (by omega)⟩ | (dsimp only; exact ⟨by omega, fun j hj => by rw [Hash.put_at _ _ _ _ (by omega)]; split; rfl; exact h2 j (by omega)⟩))
  · try simp only [Bool.or_eq_true, Bool.and_eq_true, Bool.or_eq_false_iff, Bool.and_eq_false_iff, decide_eq_true_eq, decide_eq_false_iff_not, Bool.not_eq_true', Bool.not_eq_false', beq_iff_eq] at hc4
    refine JC_exit ?_
    refine JQ_then_exit ?_
    refine JQ_then_exit ?_
    refine JQ_block_exit ?_
    refine JQ_then ?_
    refine JC_seq ?_
    obtain rfl : h = onesH := onesH_of fun j hj => h2 j (by omega)
    refine JC_region ?_
    refine JL_R rfl (R_load0 Try.underlying23 rfl ti23 rfl (List.Mem.head _) (by first | rfl | (simp [bcs_length, sb_length, numN_length, hL_length, sigP_len, headP_len, entryP_len, itemP_len, knownP_len, stP_len, Hash.h]; done) | omega | (simp [bcs_length, sb_length, numN_length, hL_length, sigP_len, headP_len, entryP_len, itemP_len, knownP_len, stP_len, Hash.h]; omega))) ?_
    refine JL_E0 (E_storeA ti23 rfl rfl (Pick.there _ (Pick.here _ _)) (by first | rfl | (simp [bcs_length, sb_length, numN_length, hL_length, sigP_len, headP_len, entryP_len, itemP_len, knownP_len, stP_len, Hash.h]; done) | omega | (simp [bcs_length, sb_length, numN_length, hL_length, sigP_len, headP_len, entryP_len, itemP_len, knownP_len, stP_len, Hash.h]; omega)) (by first | exact hL_ones _ | exact headP_ones _ | exact itemP_ones _ | exact sigP_ones _ | exact entryP_ones _ | exact knownP_ones _ | exact stP_ones _ | exact ones1_int _ _ | exact bcs_ones _ | exact ones1.nil | (apply ones1.pl; simp [ones1, offP, sigP, headP, entryP, itemP, knownP]; done)) (by first | rfl | (simp [bcs_length, sb_length, numN_length, hL_length, sigP_len, headP_len, entryP_len, itemP_len, knownP_len, stP_len, Hash.h]; done) | omega | (simp [bcs_length, sb_length, numN_length, hL_length, sigP_len, headP_len, entryP_len, itemP_len, knownP_len, stP_len, Hash.h]; omega))) ?_
    rintro _ _ ⟨rfl, rfl⟩
    refine JL_nil ?_
    refine JQ_then ?_
    refine JC_ret ?_
    refine ret1 Try.results137 (RV_cell rfl Try.underlying23 rfl ti23 (List.Mem.head _) (by first | rfl | (simp [bcs_length, sb_length, numN_length, hL_length, sigP_len, headP_len, entryP_len, itemP_len, knownP_len, stP_len, Hash.h]; done) | omega | (simp [bcs_length, sb_length, numN_length, hL_length, sigP_len, headP_len, entryP_len, itemP_len, knownP_len, stP_len, Hash.h]; omega))) ⟨rfl, rfl⟩ (Picks.nil _) rfl
theorem ones_bit (i : Int) (h : 0 ≤ i ∧ i < 256) : bitI onesH i = 1 := by
  rw [bitI, if_pos h, bitH, if_pos (by omega)]
  have e : onesH.at (i.toNat / 8) = 255 := by
    show (List.replicate 32 (255 : UInt8)).getD (i.toNat / 8) 0 = 255
    rw [List.getD, List.getElem?_replicate_of_lt (by omega)]; rfl
  rw [e]
  have h7 : i.toNat % 8 < 8 := Nat.mod_lt _ (by decide)
  generalize i.toNat % 8 = k at h7
  match k, h7 with
  | 0, _ => rfl | 1, _ => rfl | 2, _ => rfl | 3, _ => rfl | 4, _ => rfl | 5, _ => rfl | 6, _ => rfl | 7, _ => rfl
theorem part_val (l : List Item) (i : Int) (h : 0 ≤ i ∧ i < 256) : fstV (l ++ [⟨onesH, Hash.zero⟩]) i = (fstI l i : Int) := by
  have e : fstI (l ++ [⟨onesH, Hash.zero⟩]) i = fstI l i := by
    unfold fstI
    rw [List.findIdx_append]
    split
    · rfl
    · rename_i hc
      have : l.findIdx (fun x => decide (bitI x.index i = 1)) = l.length := by
        have := List.findIdx_le_length (p := fun x : Item => decide (bitI x.index i = 1)) (xs := l); omega
      rw [List.findIdx_cons]
      simp [ones_bit i h, this]
  have hle : fstI l i ≤ l.length := List.findIdx_le_length
  rw [fstV, e, if_pos (by simp; omega)]
set_option maxRecDepth 100000 in
set_option maxHeartbeats 1000000 in
theorem c_Part (A : Option Addr) (n c : Nat) (l : List Item) (i : Int) (hn : l.length = n) (hN : n ≤ 1000000) (h : 0 ≤ i ∧ i < 256) : CT Try.prog 98 [.slice A n c, .int .i64 i] [] [rd A (fl iL l)] (pV (.int .i64 (fstI l i : Int))) := by
  refine CT_of Try.func98 rfl Try.ntmps98 rfl (fun w0 => ?_)
  refine JC_seq ?_
  refine JC_region ?_
  refine JL_E rfl (E_box1 rfl rfl) ?_
  rintro _ _ ⟨g1, rfl, rfl⟩
  refine JL_R rfl (R_assign rfl) ?_
  refine JL_nil ?_
  refine JQ_then ?_
  refine JC_seq ?_
  refine JC_region ?_
  refine JL_R rfl (R_move rfl) ?_
  refine JL_E rfl (E_callO ok136 rfl (ents_cons (rd_old (List.Mem.tail _ (List.Mem.head _))) ents_nil) (c_CloneI _ _ _ _ (by first | rfl | (simp [bcs_length, sb_length, numN_length, hL_length, sigP_len, headP_len, entryP_len, itemP_len, knownP_len, stP_len, Hash.h]; done) | omega | (simp [bcs_length, sb_length, numN_length, hL_length, sigP_len, headP_len, entryP_len, itemP_len, knownP_len, stP_len, Hash.h]; omega)) (by first | omega | (simp <;> omega)))) ?_
  rintro _ _ ⟨A2, c3, rfl, rfl⟩
  refine JL_E rfl (E_callV ok137 rfl ents_nil (c_ones)) ?_
  rintro _ _ ⟨rfl, rfl⟩
  refine JL_R rfl (R_buildP zo60 pl60 (LaysP.cons rfl rfl rfl (by first | rfl | (simp [bcs_length, sb_length, numN_length, hL_length, sigP_len, headP_len, entryP_len, itemP_len, knownP_len, stP_len, Hash.h]; done) | omega | (simp [bcs_length, sb_length, numN_length, hL_length, sigP_len, headP_len, entryP_len, itemP_len, knownP_len, stP_len, Hash.h]; omega)) (LaysP.nil _)) (rfl : _ = pl (itemP ⟨_, _⟩))) ?_
  refine JL_E rfl (E_row1 Try.underlying51 ti60 rfl rfl rfl rfl (by first | rfl | (simp [bcs_length, sb_length, numN_length, hL_length, sigP_len, headP_len, entryP_len, itemP_len, knownP_len, stP_len, Hash.h]; done) | omega | (simp [bcs_length, sb_length, numN_length, hL_length, sigP_len, headP_len, entryP_len, itemP_len, knownP_len, stP_len, Hash.h]; omega))) ?_
  rintro _ _ ⟨g4, rfl, rfl⟩
  refine JL_E rfl (E_append Try.underlying51 ti60 rfl (by decide) rfl rfl (Pick.there _ (Pick.here _ _)) (RngIn.own (List.Mem.head _)) (by first | rfl | (simp [bcs_length, sb_length, numN_length, hL_length, sigP_len, headP_len, entryP_len, itemP_len, knownP_len, stP_len, Hash.h]; done) | omega | (simp [bcs_length, sb_length, numN_length, hL_length, sigP_len, headP_len, entryP_len, itemP_len, knownP_len, stP_len, Hash.h]; omega)) (by first | exact bcs_one _ | exact fl_ones (fun a => itemP_ones _) _ | first | exact hL_ones _ | exact headP_ones _ | exact itemP_ones _ | exact sigP_ones _ | exact entryP_ones _ | exact knownP_ones _ | exact stP_ones _ | exact ones1_int _ _ | exact bcs_ones _ | exact ones1.nil | (apply ones1.pl; simp [ones1, offP, sigP, headP, entryP, itemP, knownP]; done)) (by first | omega | (simp [bcs_length, sb_length, numN_length, hL_length, sigP_len, headP_len, entryP_len, itemP_len, knownP_len, stP_len, Hash.h]; omega)) (by first | omega | (simp [bcs_length, sb_length, numN_length, hL_length, sigP_len, headP_len, entryP_len, itemP_len, knownP_len, stP_len, Hash.h]; omega))) ?_
  rintro _ _ ⟨A5, c6, rfl, rfl⟩
  refine JL_R rfl (R_makeFunc rfl) ?_
  refine JL_conv (y := Atom.own 60 64 (.slice A5 (n + 1) c6) (n + 1) (fl iL (l ++ [⟨onesH, Hash.zero⟩]))) (Pick.here _ _) (by first | (rw [fl_append, fl_one]; done) | (rw [fl_append, fl_one]; rfl)) ?_
  refine JL_E rfl (E_callV ok135 rfl (ents_cons (rd_own (List.Mem.head _)) (ents_cons (rd_blk (List.Mem.tail _ (List.Mem.tail _ (List.Mem.head _)))) ents_nil)) (c_IndexFunc _ _ _ (l ++ [⟨onesH, Hash.zero⟩]) _ i (by simp <;> omega) (by omega))) ?_
  rintro _ _ ⟨rfl, rfl⟩
  refine JL_R rfl (R_assign rfl) ?_
  refine JL_nil ?_
  refine JQ_then ?_
  refine JC_ret ?_
  refine ret1 Try.results98 (RV_tmp rfl) ⟨congrArg (Value.int .i64) (part_val l i h), rfl⟩ (Picks.nil _) rfl
end Go.Proofs.Ytkckakfkeooepaa
