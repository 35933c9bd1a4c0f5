/- The reference: the sponge. -/
import Derived.Test.YtkckakfkeooepaaJTy
import Derived.Test.YtkckakfkeooepaaJBits
import Derived.Test.YtkckakfkeooepaaRef4
import Derived.Test.YtkckakfkeooepaaJB1
namespace Go.Proofs.Ytkckakfkeooepaa
set_option linter.all false
set_option linter.unusedSimpArgs false
set_option linter.unusedVariables false
set_option linter.unnecessarySimpa false
open Go.RowKit
theorem c_rNum (n : Int) (h : 0 ≤ n) : CT Try.prog 61 [.int .u64 n] [] [] (pO 5 1 8 (bcs (numN n.toNat))) := CT_own fun W _ => rnum_any n h W
theorem c_rLump (A : Option Addr) (n c : Nat) (b : Bs) (hn : b.length = n) (hl : n ≤ 16777216) : CT Try.prog 158 [.slice A n c] [] [rd A (bcs b)] (pO 5 1 (lumpB b).length (bcs (lumpB b))) := CT_own fun W hφ => by
  subst hn
  exact rlump_any A c b W (rd.reads (hφ (rd A (bcs b)) (by simp))) hl
theorem c_rWord (A : Option Addr) (n c : Nat) (b : Bs) (hb : b.length = 8) (hn : n = 8) : CT Try.prog 142 [.slice A n c] [] [rd A (bcs b)] (pV (.int .u64 (unnum b))) := CT_pure fun W hφ => by
  subst hn
  have h := rd.reads (hφ (rd A (bcs b)) (by simp))
  rw [hb] at h
  exact rword_any A c b W hb h
theorem c_rPerm (s : St) : CT Try.prog 141 [.agg (pl (stP s)).toArray] [] [] (pV (.agg (pl (stP (permN s))).toArray)) := CT_val fun W _ => rperm_any s W
/-- The state behind n more permutations. -/
def sqN (b : Bs) (n : Nat) : St := Nat.repeat permN n (sponged b)
theorem sqN_succ (b : Bs) (n : Nat) : sqN b (n + 1) = permN (sqN b n) := rfl
theorem sumB_at (b : Bs) (h : Hash) (hh : ∀ j < 32, h.at j = (numN (sqN b (j / 8)).a).getD (j % 8) 0) : h = sumB b := Hash.ext_at fun k hk => by
  rw [hh k hk]
  have e : (sumB b).at k = (numN (sqN b 0).a ++ numN (sqN b 1).a ++ numN (sqN b 2).a ++ numN (sqN b 3).a).getD k 0 := rfl
  rw [e]
  have hl : ∀ n, (numN n).length = 8 := numN_length
  generalize hA : numN (sqN b 0).a = A0
  generalize hB : numN (sqN b 1).a = B0
  generalize hC : numN (sqN b 2).a = C0
  generalize hD : numN (sqN b 3).a = D0
  have lA : A0.length = 8 := hA ▸ hl _
  have lB : B0.length = 8 := hB ▸ hl _
  have lC : C0.length = 8 := hC ▸ hl _
  have lD : D0.length = 8 := hD ▸ hl _
  have hq : k / 8 = 0 ∨ k / 8 = 1 ∨ k / 8 = 2 ∨ k / 8 = 3 := by omega
  simp only [List.getD, List.getElem?_append, List.length_append, lA, lB, lC, lD]
  rcases hq with h | h | h | h
  · rw [h, hA, if_pos (by omega), if_pos (by omega), if_pos (by omega)]; congr 2; omega
  · rw [h, hB, if_pos (by omega), if_pos (by omega), if_neg (by omega)]; congr 2; omega
  · rw [h, hC, if_pos (by omega), if_neg (by omega)]; congr 2; omega
  · rw [h, hD, if_neg (by omega)]; congr 2; omega
theorem padB_length (b : Bs) : (padB b).length = 8 * (b.length / 8 + 1) := by simp [padB]; omega
theorem absorb_step (n : Nat) (s : St) (x : Bs) (j : Nat) : absorb (n + 1) s (x.drop (8 * j)) = absorb n (permN ⟨xorM s.a (unnum ((x.drop (8 * j)).take 8)), s.b, s.c, s.d, s.e⟩) (x.drop (8 * (j + 1))) := by
  rw [absorb, List.drop_drop]; rfl
theorem bcs_pad (b : Bs) (k : Nat) : bcs (b ++ 1 :: List.replicate k 0) ++ [Value.int .u8 0] = bcs (b ++ 1 :: List.replicate (k + 1) 0) := by
  rw [List.replicate_succ', show b ++ 1 :: (List.replicate k 0 ++ [0]) = (b ++ 1 :: List.replicate k 0) ++ [0] by simp]
  show bcs (b ++ 1 :: List.replicate k 0) ++ bcs [0] = _
  exact (bcs_append _ _).symm
set_option maxRecDepth 100000 in
set_option maxHeartbeats 1000000 in
theorem c_rSum (A : Option Addr) (n c : Nat) (b : Bs) (hn : b.length = n) (hl : n ≤ 16777216) : CT Try.prog 102 [.slice A n c] [] [rd A (bcs b)] (pV (.agg (hL (sumB b)).toArray)) := by
  refine CT_of Try.func102 rfl Try.ntmps102 rfl (fun w0 => ?_)
  subst hn
  refine JC_seq ?_
  refine JC_region ?_
  refine JL_E rfl (E_allocA ti23) ?_
  rintro _ _ ⟨g1, rfl, rfl⟩
  refine JL_nil ?_
  refine JQ_then ?_
  refine JC_seq ?_
  refine JC_region ?_
  refine JL_R rfl (R_move rfl) ?_
  refine JL_E rfl (E_append0 Try.underlying29 ti5 rfl (by decide) rfl rfl (RngIn.old (List.Mem.tail _ (List.Mem.head _))) (by first | rfl | (simp [bcs_length, sb_length, numN_length, hL_length, sigP_len, headP_len, entryP_len, itemP_len, knownP_len, stP_len, Hash.h]; done) | omega | (simp [bcs_length, sb_length, numN_length, hL_length, sigP_len, headP_len, entryP_len, itemP_len, knownP_len, stP_len, Hash.h]; omega)) (by first | exact bcs_one _ | exact fl_ones (fun a => hL_ones _) _ | first | exact hL_ones _ | exact headP_ones _ | exact itemP_ones _ | exact sigP_ones _ | exact entryP_ones _ | exact knownP_ones _ | exact stP_ones _ | exact ones1_int _ _ | exact bcs_ones _ | exact ones1.nil | (apply ones1.pl; simp [ones1, offP, sigP, headP, entryP, itemP, knownP]; done)) (by first | omega | (simp [bcs_length, sb_length, numN_length, hL_length, sigP_len, headP_len, entryP_len, itemP_len, knownP_len, stP_len, Hash.h]; omega)) (by first | omega | (simp [bcs_length, sb_length, numN_length, hL_length, sigP_len, headP_len, entryP_len, itemP_len, knownP_len, stP_len, Hash.h]; omega))) ?_
  rintro _ _ ⟨A2, c3, rfl, rfl⟩
  refine JL_E rfl (E_rowV Try.underlying29 ti5 rfl rfl (PartsV.cons rfl rfl (PartsV.nil _)) rfl) ?_
  rintro _ _ ⟨g4, rfl, rfl⟩
  refine JL_E rfl (E_append Try.underlying29 ti5 rfl (by decide) rfl rfl (Pick.there _ (Pick.here _ _)) (RngIn.own (List.Mem.head _)) (by first | rfl | (simp [bcs_length, sb_length, numN_length, hL_length, sigP_len, headP_len, entryP_len, itemP_len, knownP_len, stP_len, Hash.h]; done) | omega | (simp [bcs_length, sb_length, numN_length, hL_length, sigP_len, headP_len, entryP_len, itemP_len, knownP_len, stP_len, Hash.h]; omega)) (by first | exact bcs_one _ | exact fl_ones (fun a => hL_ones _) _ | first | exact hL_ones _ | exact headP_ones _ | exact itemP_ones _ | exact sigP_ones _ | exact entryP_ones _ | exact knownP_ones _ | exact stP_ones _ | exact ones1_int _ _ | exact bcs_ones _ | exact ones1.nil | (apply ones1.pl; simp [ones1, offP, sigP, headP, entryP, itemP, knownP]; done)) (by first | omega | (simp [bcs_length, sb_length, numN_length, hL_length, sigP_len, headP_len, entryP_len, itemP_len, knownP_len, stP_len, Hash.h]; omega)) (by first | omega | (simp [bcs_length, sb_length, numN_length, hL_length, sigP_len, headP_len, entryP_len, itemP_len, knownP_len, stP_len, Hash.h]; omega))) ?_
  rintro _ _ ⟨A5, c6, rfl, rfl⟩
  refine JL_conv (y := Atom.own 5 1 (.slice A5 (b.length + 1) c6) (b.length + 1) (bcs (b ++ 1 :: List.replicate 0 0))) (Pick.here _ _) (by first | (rw [bcs_append]; done) | (rw [bcs_append]; rfl)) ?_
  refine JL_R rfl (R_assign rfl) ?_
  refine JL_nil ?_
  refine JQ_then ?_
  refine JC_seq ?_
  refine JC_block ?_
  refine JC_loop3 (kp := [(0, _), (2, _)]) (fun (k : Nat) (X : Option Addr) (cx : Nat) => k ≤ 7 - b.length % 8) (fun kp_ (k : Nat) (X : Option Addr) (cx : Nat) => (3, .slice X (b.length + 1 + k) cx) :: kp_) (fun rs_ (k : Nat) (X : Option Addr) (cx : Nat) => Atom.own 5 1 (.slice X (b.length + 1 + k) cx) (b.length + 1 + k) (bcs (b ++ 1 :: List.replicate k 0)) :: rs_) (fun (k : Nat) (X : Option Addr) (cx : Nat) => 8 - k) (0) (A5) (c6) (Picks.cons (Pick.here _ _) (Picks.nil _)) (FrSub.cons rfl (by first | rfl | ((try dsimp only); congr 1; omega) | exact congrArg (Value.int _) (by (try dsimp only); omega)) (FrSub.cons rfl (by first | rfl | ((try dsimp only); congr 1; omega) | exact congrArg (Value.int _) (by (try dsimp only); omega)) (FrSub.cons rfl (by first | rfl | ((try dsimp only); congr 1; omega) | exact congrArg (Value.int _) (by (try dsimp only); omega)) FrSub.nil))) (fun _ _ _ _  => rfl) (Nat.zero_le _) ?_
  intro k X cx h1
  refine JC_seq ?_
  refine JC_seq ?_
  refine JC_region ?_
  refine JL_R rfl (R_move rfl) ?_
  refine JL_R rfl (R_len_slice Try.underlying29 rfl) ?_
  first
    | refine JL_R rfl ((R_rem rfl rfl (by omega)).eq (rem_in (by omega) (by omega))) ?_
    | refine JL_R rfl (R_rem rfl rfl (by omega)) ?_
  refine JL_R rfl (R_ne rfl rfl) ?_
  refine JL_nil ?_
  refine JQ_then ?_
  refine JC_cond rfl (fun hc17 => ?_) (fun hc17 => ?_)
  · try simp only [Bool.or_eq_true, Bool.and_eq_true, Bool.or_eq_false_iff, Bool.and_eq_false_iff, decide_eq_true_eq, decide_eq_false_iff_not, Bool.not_eq_true', Bool.not_eq_false', beq_iff_eq] at hc17
    refine JC_skip ?_
    refine JQ_then ?_
    refine JC_block ?_
    refine JC_region ?_
    refine JL_R rfl (R_move rfl) ?_
    refine JL_E rfl (E_rowV Try.underlying29 ti5 rfl rfl (PartsV.cons rfl rfl (PartsV.nil _)) rfl) ?_
    rintro _ _ ⟨g7, rfl, rfl⟩
    refine JL_E rfl (E_append Try.underlying29 ti5 rfl (by decide) rfl rfl (Pick.there _ (Pick.here _ _)) (RngIn.own (List.Mem.head _)) (by first | rfl | (simp [bcs_length, sb_length, numN_length, hL_length, sigP_len, headP_len, entryP_len, itemP_len, knownP_len, stP_len, Hash.h]; done) | omega | (simp [bcs_length, sb_length, numN_length, hL_length, sigP_len, headP_len, entryP_len, itemP_len, knownP_len, stP_len, Hash.h]; omega)) (by first | exact bcs_one _ | exact fl_ones (fun a => hL_ones _) _ | first | exact hL_ones _ | exact headP_ones _ | exact itemP_ones _ | exact sigP_ones _ | exact entryP_ones _ | exact knownP_ones _ | exact stP_ones _ | exact ones1_int _ _ | exact bcs_ones _ | exact ones1.nil | (apply ones1.pl; simp [ones1, offP, sigP, headP, entryP, itemP, knownP]; done)) (by first | omega | (simp [bcs_length, sb_length, numN_length, hL_length, sigP_len, headP_len, entryP_len, itemP_len, knownP_len, stP_len, Hash.h]; omega)) (by first | omega | (simp [bcs_length, sb_length, numN_length, hL_length, sigP_len, headP_len, entryP_len, itemP_len, knownP_len, stP_len, Hash.h]; omega))) ?_
    rintro _ _ ⟨A8, c9, rfl, rfl⟩
    refine JL_conv (y := Atom.own 5 1 (.slice A8 (b.length + 1 + k + 1) c9) (b.length + 1 + k + 1) (bcs (b ++ 1 :: List.replicate (k + 1) 0))) (Pick.here _ _) (by first | (rw [← bcs_pad]; done) | (rw [← bcs_pad]; rfl)) ?_
    refine JL_R rfl (R_assign rfl) ?_
    refine JL_nil ?_
    refine JQ_block ?_
    refine JQ_nxt3 (k + 1) (A8) (c9) (Picks.cons (Pick.here _ _) (Picks.cons (Pick.there _ (Pick.here _ _)) (Picks.cons (Pick.there _ (Pick.here _ _)) (Picks.cons (Pick.there _ (Pick.here _ _)) (Picks.nil _))))) (FrSub.cons rfl (by first | rfl | ((try dsimp only); congr 1; omega) | exact congrArg (Value.int _) (by (try dsimp only); omega)) (FrSub.cons rfl (by first | rfl | ((try dsimp only); congr 1; omega) | exact congrArg (Value.int _) (by (try dsimp only); omega)) (FrSub.cons rfl (by first | rfl | ((try dsimp only); congr 1; omega) | exact congrArg (Value.int _) (by (try dsimp only); omega)) FrSub.nil))) (by (try dsimp only); omega) (by first | exact (by omega) | (dsimp only; exact (by omega)))
  · try simp only [Bool.or_eq_true, Bool.and_eq_true, Bool.or_eq_false_iff, Bool.and_eq_false_iff, decide_eq_true_eq, decide_eq_false_iff_not, Bool.not_eq_true', Bool.not_eq_false', beq_iff_eq] at hc17
    refine JC_exit ?_
    refine JQ_then_exit ?_
    refine JQ_then_exit ?_
    refine JQ_block_exit ?_
    refine JQ_then ?_
    refine JC_seq ?_
    obtain rfl : k = 7 - b.length % 8 := by omega
    have hx : b.length + 1 + (7 - b.length % 8) = (padB b).length := by rw [padB_length]; omega
    have hpc := hx
    refine JC_ownle (List.Mem.head _) (fun hcap => ?_)
    refine JC_region ?_
    refine JL_R rfl (R_buildQ Try.underlying150 ti24 zo150 (by simp) (LaysP.cons rfl rfl rfl (by rfl) (LaysP.cons rfl rfl rfl (by rfl) (LaysP.cons rfl rfl rfl (by rfl) (LaysP.cons rfl rfl rfl (by rfl) (LaysP.cons rfl rfl rfl (by rfl) (LaysP.nil _)))))) (rfl : _ = pl (stP begin0))) ?_
    refine JL_E rfl (E_callV ok141 rfl ents_nil (c_rPerm _)) ?_
    rintro _ _ ⟨rfl, rfl⟩
    refine JL_E rfl (E_allocA ti150) ?_
    rintro _ _ ⟨g10, rfl, rfl⟩
    refine JL_E0 (E_storeA ti150 rfl rfl (Pick.here _ _) (by first | rfl | (simp [bcs_length, sb_length, numN_length, hL_length, sigP_len, headP_len, entryP_len, itemP_len, knownP_len, stP_len, Hash.h]; done) | omega | (simp [bcs_length, sb_length, numN_length, hL_length, sigP_len, headP_len, entryP_len, itemP_len, knownP_len, stP_len, Hash.h]; omega)) (by first | exact hL_ones _ | exact headP_ones _ | exact itemP_ones _ | exact sigP_ones _ | exact entryP_ones _ | exact knownP_ones _ | exact stP_ones _ | exact ones1_int _ _ | exact bcs_ones _ | exact ones1.nil | (apply ones1.pl; simp [ones1, offP, sigP, headP, entryP, itemP, knownP]; done)) (by first | rfl | (simp [bcs_length, sb_length, numN_length, hL_length, sigP_len, headP_len, entryP_len, itemP_len, knownP_len, stP_len, Hash.h]; done) | omega | (simp [bcs_length, sb_length, numN_length, hL_length, sigP_len, headP_len, entryP_len, itemP_len, knownP_len, stP_len, Hash.h]; omega))) ?_
    rintro _ _ ⟨rfl, rfl⟩
    refine JL_nil ?_
    refine JQ_then ?_
    refine JC_seq ?_
    refine JC_seq ?_
    refine JC_region ?_
    refine JL_R rfl (R_assign rfl) ?_
    refine JL_nil ?_
    refine JQ_then ?_
    refine JC_block ?_
    refine JC_loop2 (kp := [(0, _), (2, _), (3, _), (4, _)]) (fun (j : Nat) (s : St) => j ≤ b.length / 8 + 1 ∧ absorb (b.length / 8 + 1 - j) s ((padB b).drop (8 * j)) = sponged b) (fun kp_ (j : Nat) (s : St) => (5, .int .i64 ((8 * j : Nat) : Int)) :: kp_) (fun rs_ (j : Nat) (s : St) => Atom.blk g10 150 (pl (stP s)) :: rs_) (fun (j : Nat) (s : St) => b.length / 8 + 1 - j) (0) (permN begin0) (Picks.cons (Pick.here _ _) (Picks.nil _)) (FrSub.cons rfl (by first | rfl | ((try dsimp only); congr 1; omega) | exact congrArg (Value.int _) (by (try dsimp only); omega)) (FrSub.cons rfl (by first | rfl | ((try dsimp only); congr 1; omega) | exact congrArg (Value.int _) (by (try dsimp only); omega)) (FrSub.cons rfl (by first | rfl | ((try dsimp only); congr 1; omega) | exact congrArg (Value.int _) (by (try dsimp only); omega)) (FrSub.cons rfl (by first | rfl | ((try dsimp only); congr 1; omega) | exact congrArg (Value.int _) (by (try dsimp only); omega)) (FrSub.cons rfl (by first | rfl | ((try dsimp only); congr 1; omega) | exact congrArg (Value.int _) (by (try dsimp only); omega)) FrSub.nil))))) (fun _ _ _  => rfl) (⟨Nat.zero_le _, rfl⟩) ?_
    rintro j s ⟨h2, h3⟩
    have h4 := padB_length b
    refine JC_seq ?_
    refine JC_seq ?_
    refine JC_region ?_
    refine JL_R rfl (R_move rfl) ?_
    refine JL_R rfl (R_move rfl) ?_
    refine JL_R rfl (R_len_slice Try.underlying29 rfl) ?_
    refine JL_R rfl (R_lt rfl rfl) ?_
    refine JL_nil ?_
    refine JQ_then ?_
    refine JC_cond rfl (fun hc26 => ?_) (fun hc26 => ?_)
    · try simp only [Bool.or_eq_true, Bool.and_eq_true, Bool.or_eq_false_iff, Bool.and_eq_false_iff, decide_eq_true_eq, decide_eq_false_iff_not, Bool.not_eq_true', Bool.not_eq_false', beq_iff_eq] at hc26
      refine JC_skip ?_
      refine JQ_then ?_
      refine JC_seq ?_
      refine JC_block ?_
      refine JC_seq ?_
      refine JC_draw [] rfl (.take 0 (.take 1 (.take 2 (.take 3 (.take 4 (.take 5 (.take 6 (.exec 7 (.take 8 (.take 9 (.exec 10 (.done)))))))))))) _ (by kernel_rfl) (fun _ h => h) (by repeat (first | with_reducible exact Ret.noP | with_reducible apply NoP.block | with_reducible apply NoP.then)) ?_
      refine JP_R rfl rfl rfl (R_indexB (o' := 0) (i := 0) Try.underlying150 ti24 rfl rfl rfl (by omega) rfl) ?_
      refine JP_R rfl rfl rfl (R_loadP 0 Try.underlying24 rfl rfl (List.Mem.head _) rfl (by first | rfl | (simp [offP, sigP, headP, entryP, itemP, knownP]; done))) ?_
      refine JP_R rfl rfl rfl (R_move rfl) ?_
      refine JP_R rfl rfl rfl (R_move rfl) ?_
      refine JP_R rfl rfl rfl (R_move rfl) ?_
      first
        | refine JP_R rfl rfl rfl ((R_add rfl rfl).eq (i64_in (by omega))) ?_
        | refine JP_R rfl rfl rfl (R_add rfl rfl) ?_
      refine JP_R rfl rfl rfl (R_sliceMid (m := 8 * j) (k := 8) Try.underlying29 ti5 rfl rfl rfl (by first | rfl | omega) (by first | rfl | omega) (by omega)) ?_
      refine JP_E rfl rfl (E_callV ok142 rfl (ents_cons (rd_takeB (k := 8) (rd_cutB (k := 8 * j) (rd_own (List.Mem.tail _ (List.Mem.head _))) (by first | omega | (simp <;> omega)))) ents_nil) (c_rWord _ _ _ _ (by first | rfl | (simp [bcs_length, sb_length, numN_length, hL_length, sigP_len, headP_len, entryP_len, itemP_len, knownP_len, stP_len, Hash.h]; done) | omega | (simp [bcs_length, sb_length, numN_length, hL_length, sigP_len, headP_len, entryP_len, itemP_len, knownP_len, stP_len, Hash.h]; omega)) rfl)) ?_
      rintro _ _ ⟨rfl, rfl⟩
      refine JPn_all (fun _ h => h) ?_
      refine JP_R rfl rfl rfl ((R_bits rfl rfl (by simp)).eq (congrArg (Value.int .u64) (bits_xorM _ _))) ?_
      refine JP_R rfl rfl rfl (R_indexB (o' := 0) (i := 0) Try.underlying150 ti24 rfl rfl rfl (by omega) rfl) ?_
      refine JP_E0 rfl (E_storeF 0 ti24 rfl rfl (Pick.here _ _) rfl (by first | rfl | (simp [offP, sigP, headP, entryP, itemP, knownP]; done)) rfl rfl (rfl : _ = stP ⟨_, _, _, _, _⟩)) ?_
      rintro _ _ ⟨rfl, rfl⟩
      refine JPn_bar (by kernel_rfl) ?_
      refine JP_done ?_
      refine JQ_then ?_
      refine JC_region ?_
      refine JL_R rfl (R_load0 Try.underlying150 rfl ti150 rfl (List.Mem.head _) (by first | rfl | (simp [bcs_length, sb_length, numN_length, hL_length, sigP_len, headP_len, entryP_len, itemP_len, knownP_len, stP_len, Hash.h]; done) | omega | (simp [bcs_length, sb_length, numN_length, hL_length, sigP_len, headP_len, entryP_len, itemP_len, knownP_len, stP_len, Hash.h]; omega))) ?_
      refine JL_E rfl (E_callV ok141 rfl ents_nil (c_rPerm _)) ?_
      rintro _ _ ⟨rfl, rfl⟩
      refine JL_E0 (E_storeA ti150 rfl rfl (Pick.here _ _) (by first | rfl | (simp [bcs_length, sb_length, numN_length, hL_length, sigP_len, headP_len, entryP_len, itemP_len, knownP_len, stP_len, Hash.h]; done) | omega | (simp [bcs_length, sb_length, numN_length, hL_length, sigP_len, headP_len, entryP_len, itemP_len, knownP_len, stP_len, Hash.h]; omega)) (by first | exact hL_ones _ | exact headP_ones _ | exact itemP_ones _ | exact sigP_ones _ | exact entryP_ones _ | exact knownP_ones _ | exact stP_ones _ | exact ones1_int _ _ | exact bcs_ones _ | exact ones1.nil | (apply ones1.pl; simp [ones1, offP, sigP, headP, entryP, itemP, knownP]; done)) (by first | rfl | (simp [bcs_length, sb_length, numN_length, hL_length, sigP_len, headP_len, entryP_len, itemP_len, knownP_len, stP_len, Hash.h]; done) | omega | (simp [bcs_length, sb_length, numN_length, hL_length, sigP_len, headP_len, entryP_len, itemP_len, knownP_len, stP_len, Hash.h]; omega))) ?_
      rintro _ _ ⟨rfl, rfl⟩
      refine JL_nil ?_
      refine JQ_block ?_
      refine JQ_then ?_
      refine JC_region ?_
      refine JL_R rfl (R_move rfl) ?_
      first
        | refine JL_R rfl ((R_add rfl rfl).eq (i64_in (by omega))) ?_
        | refine JL_R rfl (R_add rfl rfl) ?_
      refine JL_R rfl (R_assign rfl) ?_
      refine JL_nil ?_
      refine JQ_nxt2 (j + 1) (permN ⟨xorM s.a (unnum (((padB b).drop (8 * j)).take 8)), s.b, s.c, s.d, s.e⟩) (Picks.cons (Pick.here _ _) (Picks.cons (Pick.here _ _) (Picks.cons (Pick.here _ _) (Picks.cons (Pick.here _ _) (Picks.cons (Pick.here _ _) (Picks.nil _)))))) (FrSub.cons rfl (by first | rfl | ((try dsimp only); congr 1; omega) | exact congrArg (Value.int _) (by (try dsimp only); omega)) (FrSub.cons rfl (by first | rfl | ((try dsimp only); congr 1; omega) | exact congrArg (Value.int _) (by (try dsimp only); omega)) (FrSub.cons rfl (by first | rfl | ((try dsimp only); congr 1; omega) | exact congrArg (Value.int _) (by (try dsimp only); omega)) (FrSub.cons rfl (by first | rfl | ((try dsimp only); congr 1; omega) | exact congrArg (Value.int _) (by (try dsimp only); omega)) (FrSub.cons rfl (by first | rfl | ((try dsimp only); congr 1; omega) | exact congrArg (Value.int _) (by (try dsimp only); omega)) FrSub.nil))))) (by (try dsimp only); omega) (by first | exact ⟨by omega, by rw [← h3, show b.length / 8 + 1 - j = (b.length / 8 + 1 - (j + 1)) + 1 by omega, absorb_step]⟩ | (dsimp only; exact ⟨by omega, by rw [← h3, show b.length / 8 + 1 - j = (b.length / 8 + 1 - (j + 1)) + 1 by omega, absorb_step]⟩))
    · try simp only [Bool.or_eq_true, Bool.and_eq_true, Bool.or_eq_false_iff, Bool.and_eq_false_iff, decide_eq_true_eq, decide_eq_false_iff_not, Bool.not_eq_true', Bool.not_eq_false', beq_iff_eq] at hc26
      refine JC_exit ?_
      refine JQ_then_exit ?_
      refine JQ_then_exit ?_
      refine JQ_block_exit ?_
      refine JQ_then ?_
      refine JC_seq ?_
      obtain rfl : j = b.length / 8 + 1 := by omega
      rw [Nat.sub_self] at h3
      have h5 : s = sqN b 0 := h3
      refine JC_region ?_
      refine JL_E rfl (E_allocA ti23) ?_
      rintro _ _ ⟨g11, rfl, rfl⟩
      refine JL_nil ?_
      refine JQ_then ?_
      refine JC_seq ?_
      refine JC_seq ?_
      refine JC_region ?_
      refine JL_R rfl (R_assign rfl) ?_
      refine JL_nil ?_
      refine JQ_then ?_
      refine JC_block ?_
      refine JC_loop3 (kp := [(2, _), (4, _), (6, _)]) (fun (i : Nat) (s : St) (h : Hash) => i ≤ 4 ∧ s = sqN b (i - 1) ∧ ∀ j < 8 * i, h.at j = (numN (sqN b (j / 8)).a).getD (j % 8) 0) (fun kp_ (i : Nat) (s : St) (h : Hash) => (7, .int .i64 (i : Int)) :: kp_) (fun rs_ (i : Nat) (s : St) (h : Hash) => Atom.blk g10 150 (pl (stP s)) :: Atom.blk g11 23 (hL h) :: rs_) (fun (i : Nat) (s : St) (h : Hash) => 4 - i) (0) (s) (Hash.zero) (Picks.cons (Pick.there _ (Pick.here _ _)) (Picks.cons (Pick.here _ _) (Picks.nil _))) (FrSub.cons rfl (by first | rfl | ((try dsimp only); congr 1; omega) | exact congrArg (Value.int _) (by (try dsimp only); omega)) (FrSub.cons rfl (by first | rfl | ((try dsimp only); congr 1; omega) | exact congrArg (Value.int _) (by (try dsimp only); omega)) (FrSub.cons rfl (by first | rfl | ((try dsimp only); congr 1; omega) | exact congrArg (Value.int _) (by (try dsimp only); omega)) (FrSub.cons rfl (by first | rfl | ((try dsimp only); congr 1; omega) | exact congrArg (Value.int _) (by (try dsimp only); omega)) FrSub.nil)))) (fun _ _ _ _  => rfl) (⟨by omega, h5, fun j hj => absurd hj (by omega)⟩) ?_
      rintro i s h ⟨h1', h6, h7⟩
      refine JC_seq ?_
      refine JC_seq ?_
      refine JC_region ?_
      refine JL_R rfl (R_move rfl) ?_
      refine JL_R rfl (R_lt rfl rfl) ?_
      refine JL_nil ?_
      refine JQ_then ?_
      refine JC_cond rfl (fun hc42 => ?_) (fun hc42 => ?_)
      · try simp only [Bool.or_eq_true, Bool.and_eq_true, Bool.or_eq_false_iff, Bool.and_eq_false_iff, decide_eq_true_eq, decide_eq_false_iff_not, Bool.not_eq_true', Bool.not_eq_false', beq_iff_eq] at hc42
        refine JC_skip ?_
        refine JQ_then ?_
        refine JC_seq ?_
        refine JC_block ?_
        refine JC_cut1 (kp := [(2, _), (4, _), (6, _), (7, _)]) (fun (s2 : St) => s2 = sqN b i) (fun kp_ (s2 : St) => kp_) (fun rs_ (s2 : St) => Atom.blk g10 150 (pl (stP s2)) :: rs_) (Picks.cons (Pick.here _ _) (Picks.nil _)) (FrSub.cons rfl (by first | rfl | ((try dsimp only); congr 1; omega) | exact congrArg (Value.int _) (by (try dsimp only); omega)) (FrSub.cons rfl (by first | rfl | ((try dsimp only); congr 1; omega) | exact congrArg (Value.int _) (by (try dsimp only); omega)) (FrSub.cons rfl (by first | rfl | ((try dsimp only); congr 1; omega) | exact congrArg (Value.int _) (by (try dsimp only); omega)) (FrSub.cons rfl (by first | rfl | ((try dsimp only); congr 1; omega) | exact congrArg (Value.int _) (by (try dsimp only); omega)) FrSub.nil)))) ?_ ?_
        · skip
          refine JC_seq ?_
          refine JC_region ?_
          refine JL_R rfl (R_move rfl) ?_
          refine JL_R rfl (R_gt rfl rfl) ?_
          refine JL_nil ?_
          refine JQ_then ?_
          refine JC_cond rfl (fun hc46 => ?_) (fun hc46 => ?_)
          · try simp only [Bool.or_eq_true, Bool.and_eq_true, Bool.or_eq_false_iff, Bool.and_eq_false_iff, decide_eq_true_eq, decide_eq_false_iff_not, Bool.not_eq_true', Bool.not_eq_false', beq_iff_eq] at hc46
            refine JC_region ?_
            refine JL_R rfl (R_load0 Try.underlying150 rfl ti150 rfl (List.Mem.head _) (by first | rfl | (simp [bcs_length, sb_length, numN_length, hL_length, sigP_len, headP_len, entryP_len, itemP_len, knownP_len, stP_len, Hash.h]; done) | omega | (simp [bcs_length, sb_length, numN_length, hL_length, sigP_len, headP_len, entryP_len, itemP_len, knownP_len, stP_len, Hash.h]; omega))) ?_
            refine JL_E rfl (E_callV ok141 rfl ents_nil (c_rPerm _)) ?_
            rintro _ _ ⟨rfl, rfl⟩
            refine JL_E0 (E_storeA ti150 rfl rfl (Pick.here _ _) (by first | rfl | (simp [bcs_length, sb_length, numN_length, hL_length, sigP_len, headP_len, entryP_len, itemP_len, knownP_len, stP_len, Hash.h]; done) | omega | (simp [bcs_length, sb_length, numN_length, hL_length, sigP_len, headP_len, entryP_len, itemP_len, knownP_len, stP_len, Hash.h]; omega)) (by first | exact hL_ones _ | exact headP_ones _ | exact itemP_ones _ | exact sigP_ones _ | exact entryP_ones _ | exact knownP_ones _ | exact stP_ones _ | exact ones1_int _ _ | exact bcs_ones _ | exact ones1.nil | (apply ones1.pl; simp [ones1, offP, sigP, headP, entryP, itemP, knownP]; done)) (by first | rfl | (simp [bcs_length, sb_length, numN_length, hL_length, sigP_len, headP_len, entryP_len, itemP_len, knownP_len, stP_len, Hash.h]; done) | omega | (simp [bcs_length, sb_length, numN_length, hL_length, sigP_len, headP_len, entryP_len, itemP_len, knownP_len, stP_len, Hash.h]; omega))) ?_
            rintro _ _ ⟨rfl, rfl⟩
            refine JL_nil ?_
            refine JQ_mid1 (permN s) (Picks.cons (Pick.here _ _) (Picks.cons (Pick.here _ _) (Picks.cons (Pick.here _ _) (Picks.cons (Pick.here _ _) (Picks.cons (Pick.here _ _) (Picks.cons (Pick.here _ _) (Picks.nil _))))))) (FrSub.cons rfl (by first | rfl | ((try dsimp only); congr 1; omega) | exact congrArg (Value.int _) (by (try dsimp only); omega)) (FrSub.cons rfl (by first | rfl | ((try dsimp only); congr 1; omega) | exact congrArg (Value.int _) (by (try dsimp only); omega)) (FrSub.cons rfl (by first | rfl | ((try dsimp only); congr 1; omega) | exact congrArg (Value.int _) (by (try dsimp only); omega)) (FrSub.cons rfl (by first | rfl | ((try dsimp only); congr 1; omega) | exact congrArg (Value.int _) (by (try dsimp only); omega)) FrSub.nil)))) (by first | exact (by rw [h6, ← sqN_succ, show i - 1 + 1 = i by omega]) | (dsimp only; exact (by rw [h6, ← sqN_succ, show i - 1 + 1 = i by omega])))
          · try simp only [Bool.or_eq_true, Bool.and_eq_true, Bool.or_eq_false_iff, Bool.and_eq_false_iff, decide_eq_true_eq, decide_eq_false_iff_not, Bool.not_eq_true', Bool.not_eq_false', beq_iff_eq] at hc46
            refine JC_skip ?_
            refine JQ_mid1 (s) (Picks.cons (Pick.here _ _) (Picks.cons (Pick.here _ _) (Picks.cons (Pick.here _ _) (Picks.cons (Pick.here _ _) (Picks.cons (Pick.here _ _) (Picks.cons (Pick.here _ _) (Picks.nil _))))))) (FrSub.cons rfl (by first | rfl | ((try dsimp only); congr 1; omega) | exact congrArg (Value.int _) (by (try dsimp only); omega)) (FrSub.cons rfl (by first | rfl | ((try dsimp only); congr 1; omega) | exact congrArg (Value.int _) (by (try dsimp only); omega)) (FrSub.cons rfl (by first | rfl | ((try dsimp only); congr 1; omega) | exact congrArg (Value.int _) (by (try dsimp only); omega)) (FrSub.cons rfl (by first | rfl | ((try dsimp only); congr 1; omega) | exact congrArg (Value.int _) (by (try dsimp only); omega)) FrSub.nil)))) (by first | exact (by rw [h6, show i - 1 = i by omega]) | (dsimp only; exact (by rw [h6, show i - 1 = i by omega])))
        · intro s2 h8
          refine JC_seq ?_
          refine JC_region ?_
          refine JL_R rfl (R_indexB (o' := 0) (i := 0) Try.underlying150 ti24 rfl rfl rfl (by omega) rfl) ?_
          refine JL_R rfl (R_loadP 0 Try.underlying24 rfl rfl (List.Mem.head _) rfl (by first | rfl | (simp [offP, sigP, headP, entryP, itemP, knownP]; done))) ?_
          refine JL_E rfl (E_callO ok61 rfl ents_nil (c_rNum _ (by first | omega | exact wrap_u64_nonneg _))) ?_
          rintro _ _ ⟨A12, c13, rfl, rfl⟩
          refine JL_R rfl (R_assign rfl) ?_
          refine JL_nil ?_
          refine JQ_then ?_
          refine JC_seq ?_
          refine JC_region ?_
          refine JL_R rfl (R_assign rfl) ?_
          refine JL_nil ?_
          refine JQ_then ?_
          refine JC_block ?_
          refine JC_loop2 (kp := [(2, _), (4, _), (6, _), (7, _), (8, _)]) (fun (k : Nat) (h2 : Hash) => k ≤ 8 ∧ ∀ j < 8 * i + k, h2.at j = (numN (sqN b (j / 8)).a).getD (j % 8) 0) (fun kp_ (k : Nat) (h2 : Hash) => (9, .int .i64 (k : Int)) :: kp_) (fun rs_ (k : Nat) (h2 : Hash) => Atom.blk g11 23 (hL h2) :: rs_) (fun (k : Nat) (h2 : Hash) => 8 - k) (0) (h) (Picks.cons (Pick.there _ (Pick.there _ (Pick.here _ _))) (Picks.nil _)) (FrSub.cons rfl (by first | rfl | ((try dsimp only); congr 1; omega) | exact congrArg (Value.int _) (by (try dsimp only); omega)) (FrSub.cons rfl (by first | rfl | ((try dsimp only); congr 1; omega) | exact congrArg (Value.int _) (by (try dsimp only); omega)) (FrSub.cons rfl (by first | rfl | ((try dsimp only); congr 1; omega) | exact congrArg (Value.int _) (by (try dsimp only); omega)) (FrSub.cons rfl (by first | rfl | ((try dsimp only); congr 1; omega) | exact congrArg (Value.int _) (by (try dsimp only); omega)) (FrSub.cons rfl (by first | rfl | ((try dsimp only); congr 1; omega) | exact congrArg (Value.int _) (by (try dsimp only); omega)) (FrSub.cons rfl (by first | rfl | ((try dsimp only); congr 1; omega) | exact congrArg (Value.int _) (by (try dsimp only); omega)) FrSub.nil)))))) (fun _ _ _  => rfl) (⟨by omega, fun j hj => h7 j (by omega)⟩) ?_
          rintro k h2 ⟨h9, h10⟩
          refine JC_seq ?_
          refine JC_seq ?_
          refine JC_region ?_
          refine JL_R rfl (R_move rfl) ?_
          refine JL_R rfl (R_lt rfl rfl) ?_
          refine JL_nil ?_
          refine JQ_then ?_
          refine JC_cond rfl (fun hc53 => ?_) (fun hc53 => ?_)
          · try simp only [Bool.or_eq_true, Bool.and_eq_true, Bool.or_eq_false_iff, Bool.and_eq_false_iff, decide_eq_true_eq, decide_eq_false_iff_not, Bool.not_eq_true', Bool.not_eq_false', beq_iff_eq] at hc53
            refine JC_skip ?_
            refine JQ_then ?_
            refine JC_seq ?_
            refine JC_block ?_
            refine JC_region ?_
            refine JL_R rfl (R_move rfl) ?_
            first
              | refine JL_R rfl ((R_mul rfl rfl).eq (i64_in (by omega))) ?_
              | refine JL_R rfl (R_mul rfl rfl) ?_
            refine JL_R rfl (R_move rfl) ?_
            first
              | refine JL_R rfl ((R_add rfl rfl).eq (i64_in (by omega))) ?_
              | refine JL_R rfl (R_add rfl rfl) ?_
            refine JL_R rfl (R_move rfl) ?_
            refine JL_R rfl (R_move rfl) ?_
            refine JL_R rfl (R_indexE (i := k) Try.underlying29 ti5 rfl rfl (RngIn.own (List.Mem.tail _ (List.Mem.head _))) (by omega) (by omega) (by first | (rw [fl_length (fun _ => rfl)]; omega) | (rw [fl_length (fun _ => rfl)]; simp only [List.length_set, List.length_drop, List.length_take]; omega) | (simp only [fl_length, bcs_length, List.length_map, List.length_cons]; omega) | omega | (simp [fl_length] <;> omega))) ?_
            first
              | refine JL_R rfl (R_el1 (enc := bc) 0 Try.underlying5 rfl rfl (RngIn.own (List.Mem.tail _ (List.Mem.head _))) (by first | omega | (simp [bcs_length, sb_length, numN_length, hL_length, sigP_len, headP_len, entryP_len, itemP_len, knownP_len, stP_len, Hash.h]; omega))) ?_
              | refine JL_R rfl (R_loadS Try.underlying5 rfl rfl (RngIn.own (List.Mem.tail _ (List.Mem.head _))) rfl) ?_
            refine JL_R rfl (R_indexHN (i := 8 * i + k) Try.underlying23 ti5 rfl rfl (by first | rfl | omega) (by omega)) ?_
            refine JL_E0 (E_storeH ((numN s2.a).getD k 0) ti5 rfl rfl rfl (Pick.here _ _) (by omega)) ?_
            rintro _ _ ⟨rfl, rfl⟩
            refine JL_nil ?_
            refine JQ_block ?_
            refine JQ_then ?_
            refine JC_region ?_
            refine JL_R rfl (R_move rfl) ?_
            first
              | refine JL_R rfl ((R_add rfl rfl).eq (i64_in (by omega))) ?_
              | refine JL_R rfl (R_add rfl rfl) ?_
            refine JL_R rfl (R_assign rfl) ?_
            refine JL_nil ?_
            refine JQ_nxt2 (k + 1) (h2.put (8 * i + k) ((numN s2.a).getD k 0)) (Picks.cons (Pick.here _ _) (Picks.cons (Pick.here _ _) (Picks.cons (Pick.here _ _) (Picks.cons (Pick.here _ _) (Picks.cons (Pick.here _ _) (Picks.cons (Pick.here _ _) (Picks.cons (Pick.here _ _) (Picks.nil _)))))))) (FrSub.cons rfl (by first | rfl | ((try dsimp only); congr 1; omega) | exact congrArg (Value.int _) (by (try dsimp only); omega)) (FrSub.cons rfl (by first | rfl | ((try dsimp only); congr 1; omega) | exact congrArg (Value.int _) (by (try dsimp only); omega)) (FrSub.cons rfl (by first | rfl | ((try dsimp only); congr 1; omega) | exact congrArg (Value.int _) (by (try dsimp only); omega)) (FrSub.cons rfl (by first | rfl | ((try dsimp only); congr 1; omega) | exact congrArg (Value.int _) (by (try dsimp only); omega)) (FrSub.cons rfl (by first | rfl | ((try dsimp only); congr 1; omega) | exact congrArg (Value.int _) (by (try dsimp only); omega)) (FrSub.cons rfl (by first | rfl | ((try dsimp only); congr 1; omega) | exact congrArg (Value.int _) (by (try dsimp only); omega)) FrSub.nil)))))) (by (try dsimp only); omega) (by first | exact ⟨by omega, fun j hj => by rw [Hash.put_at _ _ _ _ (by omega)]; by_cases e : j = 8 * i + k; rw [if_pos e, h8, show j / 8 = i by omega, show j % 8 = k by omega]; rw [if_neg e]; exact h10 j (by omega)⟩ | (dsimp only; exact ⟨by omega, fun j hj => by rw [Hash.put_at _ _ _ _ (by omega)]; by_cases e : j = 8 * i + k; rw [if_pos e, h8, show j / 8 = i by omega, show j % 8 = k by omega]; rw [if_neg e]; exact h10 j (by omega)⟩))
          · try simp only [Bool.or_eq_true, Bool.and_eq_true, Bool.or_eq_false_iff, Bool.and_eq_false_iff, decide_eq_true_eq, decide_eq_false_iff_not, Bool.not_eq_true', Bool.not_eq_false', beq_iff_eq] at hc53
            refine JC_exit ?_
            refine JQ_then_exit ?_
            refine JQ_then_exit ?_
            refine JQ_block_exit ?_
            refine JQ_block ?_
            refine JQ_then ?_
            refine JC_region ?_
            refine JL_R rfl (R_move rfl) ?_
            first
              | refine JL_R rfl ((R_add rfl rfl).eq (i64_in (by omega))) ?_
              | refine JL_R rfl (R_add rfl rfl) ?_
            refine JL_R rfl (R_assign rfl) ?_
            refine JL_nil ?_
            refine JQ_nxt3 (i + 1) (s2) (h2) (Picks.cons (Pick.there _ (Pick.there _ (Pick.here _ _))) (Picks.cons (Pick.here _ _) (Picks.cons (Pick.there _ (Pick.here _ _)) (Picks.cons (Pick.there _ (Pick.here _ _)) (Picks.cons (Pick.there _ (Pick.here _ _)) (Picks.cons (Pick.there _ (Pick.here _ _)) (Picks.nil _))))))) (FrSub.cons rfl (by first | rfl | ((try dsimp only); congr 1; omega) | exact congrArg (Value.int _) (by (try dsimp only); omega)) (FrSub.cons rfl (by first | rfl | ((try dsimp only); congr 1; omega) | exact congrArg (Value.int _) (by (try dsimp only); omega)) (FrSub.cons rfl (by first | rfl | ((try dsimp only); congr 1; omega) | exact congrArg (Value.int _) (by (try dsimp only); omega)) (FrSub.cons rfl (by first | rfl | ((try dsimp only); congr 1; omega) | exact congrArg (Value.int _) (by (try dsimp only); omega)) FrSub.nil)))) (by (try dsimp only); omega) (by first | exact ⟨by omega, h8, fun j hj => h10 j (by omega)⟩ | (dsimp only; exact ⟨by omega, h8, fun j hj => h10 j (by omega)⟩))
      · try simp only [Bool.or_eq_true, Bool.and_eq_true, Bool.or_eq_false_iff, Bool.and_eq_false_iff, decide_eq_true_eq, decide_eq_false_iff_not, Bool.not_eq_true', Bool.not_eq_false', beq_iff_eq] at hc42
        refine JC_exit ?_
        refine JQ_then_exit ?_
        refine JQ_then_exit ?_
        refine JQ_block_exit ?_
        refine JQ_then ?_
        refine JC_seq ?_
        obtain rfl : h = sumB b := sumB_at b h (fun j hj => h7 j (by omega))
        refine JC_region ?_
        refine JL_R rfl (R_load0 Try.underlying23 rfl ti23 rfl (List.Mem.tail _ (List.Mem.head _)) (by first | rfl | (simp [bcs_length, sb_length, numN_length, hL_length, sigP_len, headP_len, entryP_len, itemP_len, knownP_len, stP_len, Hash.h]; done) | omega | (simp [bcs_length, sb_length, numN_length, hL_length, sigP_len, headP_len, entryP_len, itemP_len, knownP_len, stP_len, Hash.h]; omega))) ?_
        refine JL_E0 (E_storeA ti23 rfl rfl (Pick.there _ (Pick.there _ (Pick.there _ (Pick.there _ (Pick.here _ _))))) (by first | rfl | (simp [bcs_length, sb_length, numN_length, hL_length, sigP_len, headP_len, entryP_len, itemP_len, knownP_len, stP_len, Hash.h]; done) | omega | (simp [bcs_length, sb_length, numN_length, hL_length, sigP_len, headP_len, entryP_len, itemP_len, knownP_len, stP_len, Hash.h]; omega)) (by first | exact hL_ones _ | exact headP_ones _ | exact itemP_ones _ | exact sigP_ones _ | exact entryP_ones _ | exact knownP_ones _ | exact stP_ones _ | exact ones1_int _ _ | exact bcs_ones _ | exact ones1.nil | (apply ones1.pl; simp [ones1, offP, sigP, headP, entryP, itemP, knownP]; done)) (by first | rfl | (simp [bcs_length, sb_length, numN_length, hL_length, sigP_len, headP_len, entryP_len, itemP_len, knownP_len, stP_len, Hash.h]; done) | omega | (simp [bcs_length, sb_length, numN_length, hL_length, sigP_len, headP_len, entryP_len, itemP_len, knownP_len, stP_len, Hash.h]; omega))) ?_
        rintro _ _ ⟨rfl, rfl⟩
        refine JL_nil ?_
        refine JQ_then ?_
        refine JC_ret ?_
        refine ret1 Try.results102 (RV_cell rfl Try.underlying23 rfl ti23 (List.Mem.head _) (by first | rfl | (simp [bcs_length, sb_length, numN_length, hL_length, sigP_len, headP_len, entryP_len, itemP_len, knownP_len, stP_len, Hash.h]; done) | omega | (simp [bcs_length, sb_length, numN_length, hL_length, sigP_len, headP_len, entryP_len, itemP_len, knownP_len, stP_len, Hash.h]; omega))) ⟨rfl, rfl⟩ (Picks.nil _) rfl
end Go.Proofs.Ytkckakfkeooepaa
