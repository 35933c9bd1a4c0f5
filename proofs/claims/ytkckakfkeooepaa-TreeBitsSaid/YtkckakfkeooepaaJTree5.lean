/- Package slices, of items: the merge in place. -/
import Derived.Test.YtkckakfkeooepaaJTree4
import Derived.Test.YtkckakfkeooepaaJSort3
namespace Go.Proofs.Ytkckakfkeooepaa
set_option linter.all false
set_option linter.unusedSimpArgs false
set_option linter.unusedVariables false
set_option linter.unnecessarySimpa false
open Go.RowKit
set_option maxRecDepth 100000 in
set_option maxHeartbeats 1000000 in
theorem c_mrg_step (A : Option Addr) (n c : Nat) (hN : n ≤ 1000000) (P L R S : List Item) (a m b : Nat) (a1 m1 b1 : Int) (b0 : Nat) (ea : a1 = a) (em : m1 = m) (eb : b1 = b) (ha : P.length = a) (hm : a + L.length = m) (hb : m + R.length = b) (hl : b + S.length = n) (hn0 : 0 < L.length) (hn1 : 0 < R.length) (hL : Srt key L) (hR : Srt key R) (ih : ∀ (P L R S : List Item) (a m b : Nat) (a1 m1 b1 : Int) (ea : a1 = a) (em : m1 = m) (eb : b1 = b) (ha : P.length = a) (hm : a + L.length = m) (hb : m + R.length = b) (hl : b + S.length = n) (hn0 : 0 < L.length) (hn1 : 0 < R.length) (hL : Srt key L) (hR : Srt key R), b - a < b0 → CT Try.prog 155 [.slice A n c, .int .i64 a1, .int .i64 m1, .int .i64 b1, .func (.func 89) #[] #[]] [Atom.own 60 64 (.slice A n c) n (fl iL (P ++ (L ++ (R ++ S))))] [] (pT fun y => ∃ ys, y = Atom.own 60 64 (.slice A n c) n (fl iL (ys)) ∧ ∃ M, ys = P ++ (M ++ S) ∧ SS key M (L ++ R))) (hb0 : b - a ≤ b0) (mid : Nat) (hmid : mid = (a + b) / 2) : CT Try.prog 155 [.slice A n c, .int .i64 a1, .int .i64 m1, .int .i64 b1, .func (.func 89) #[] #[]] [Atom.own 60 64 (.slice A n c) n (fl iL (P ++ (L ++ (R ++ S))))] [] (pT fun y => ∃ ys, y = Atom.own 60 64 (.slice A n c) n (fl iL (ys)) ∧ ∃ M, ys = P ++ (M ++ S) ∧ SS key M (L ++ R)) := by
  refine CT_of Try.func155 rfl Try.ntmps155 rfl (fun w0 => ?_)
  subst ea em eb
  have hX : (P ++ (L ++ (R ++ S))).length = n := by simp <;> omega
  refine JC_seq ?_
  refine JC_seq ?_
  refine JC_region ?_
  refine JL_R rfl (R_move rfl) ?_
  refine JL_R rfl (R_move rfl) ?_
  first
    | refine JL_R rfl ((R_sub rfl rfl).eq (i64_in (by omega))) ?_
    | refine JL_R rfl (R_sub rfl rfl) ?_
  refine JL_R rfl (R_eq rfl rfl) ?_
  refine JL_nil ?_
  refine JQ_then ?_
  refine JC_cond rfl (fun hc28 => ?_) (fun hc28 => ?_)
  · try simp only [Bool.or_eq_true, Bool.and_eq_true, Bool.or_eq_false_iff, Bool.and_eq_false_iff, decide_eq_true_eq, decide_eq_false_iff_not, Bool.not_eq_true', Bool.not_eq_false', beq_iff_eq] at hc28
    refine JC_seq ?_
    refine JC_region ?_
    refine JL_R rfl (R_move rfl) ?_
    refine JL_R rfl (R_assign rfl) ?_
    refine JL_nil ?_
    refine JQ_then ?_
    refine JC_seq ?_
    refine JC_region ?_
    refine JL_R rfl (R_move rfl) ?_
    refine JL_R rfl (R_assign rfl) ?_
    refine JL_nil ?_
    refine JQ_then ?_
    refine JC_seq ?_
    refine JC_block ?_
    refine JC_loop2 (kp := [(0, _), (1, _), (2, _), (3, _), (4, _)]) (fun (i : Nat) (j : Nat) => m ≤ i ∧ i ≤ j ∧ j ≤ b ∧ (i = m ∨ key ((P ++ (L ++ (R ++ S))).getD (i - 1) Item.zero) < key ((P ++ (L ++ (R ++ S))).getD a Item.zero)) ∧ (j = b ∨ key ((P ++ (L ++ (R ++ S))).getD a Item.zero) ≤ key ((P ++ (L ++ (R ++ S))).getD j Item.zero))) (fun kp_ (i : Nat) (j : Nat) => (10, .int .i64 (i : Int)) :: (11, .int .i64 (j : Int)) :: kp_) (fun rs_ (i : Nat) (j : Nat) => rs_) (fun (i : Nat) (j : Nat) => j - i) (m) (b) (Picks.nil _) (FrSub.cons rfl (by first | rfl | ((try dsimp only); congr 1; omega) | exact congrArg (Value.int _) (by (try dsimp only); omega)) (FrSub.cons rfl (by first | rfl | ((try dsimp only); congr 1; omega) | exact congrArg (Value.int _) (by (try dsimp only); omega)) (FrSub.cons rfl (by first | rfl | ((try dsimp only); congr 1; omega) | exact congrArg (Value.int _) (by (try dsimp only); omega)) (FrSub.cons rfl (by first | rfl | ((try dsimp only); congr 1; omega) | exact congrArg (Value.int _) (by (try dsimp only); omega)) (FrSub.cons rfl (by first | rfl | ((try dsimp only); congr 1; omega) | exact congrArg (Value.int _) (by (try dsimp only); omega)) (FrSub.cons rfl (by first | rfl | ((try dsimp only); congr 1; omega) | exact congrArg (Value.int _) (by (try dsimp only); omega)) (FrSub.cons rfl (by first | rfl | ((try dsimp only); congr 1; omega) | exact congrArg (Value.int _) (by (try dsimp only); omega)) FrSub.nil))))))) (fun _ _ _  => rfl) (⟨by omega, by omega, by omega, .inl rfl, .inl rfl⟩) ?_
    rintro i j ⟨h1, h2, h3, h4, h5⟩
    refine JC_seq ?_
    refine JC_seq ?_
    refine JC_region ?_
    refine JL_R rfl (R_move rfl) ?_
    refine JL_R rfl (R_move rfl) ?_
    refine JL_R rfl (R_lt rfl rfl) ?_
    refine JL_nil ?_
    refine JQ_then ?_
    refine JC_cond rfl (fun hc33 => ?_) (fun hc33 => ?_)
    · try simp only [Bool.or_eq_true, Bool.and_eq_true, Bool.or_eq_false_iff, Bool.and_eq_false_iff, decide_eq_true_eq, decide_eq_false_iff_not, Bool.not_eq_true', Bool.not_eq_false', beq_iff_eq] at hc33
      refine JC_skip ?_
      refine JQ_then ?_
      refine JC_block ?_
      refine JC_seq ?_
      refine JC_region ?_
      refine JL_R rfl (R_move rfl) ?_
      refine JL_R rfl (R_move rfl) ?_
      first
        | refine JL_R rfl ((R_add rfl rfl).eq (i64_in (by omega))) ?_
        | refine JL_R rfl (R_add rfl rfl) ?_
      first
        | refine JL_R rfl ((R_conv Try.underlying3 Try.underlying72 rfl).eq (u64_in (by omega))) ?_
        | refine JL_R rfl (R_conv Try.underlying3 Try.underlying72 rfl) ?_
      refine JL_R rfl ((R_shr rfl rfl (by omega)).eq (shr_one rfl)) ?_
      first
        | refine JL_R rfl ((R_conv Try.underlying72 Try.underlying3 rfl).eq (i64_in (by omega))) ?_
        | refine JL_R rfl (R_conv Try.underlying72 Try.underlying3 rfl) ?_
      refine JL_R rfl (R_assign rfl) ?_
      refine JL_nil ?_
      refine JQ_then ?_
      refine JC_seq ?_
      refine JC_draw [] rfl (.take 0 (.take 1 (.take 2 (.take 3 (.take 4 (.take 5 (.take 6 (.take 7 (.take 8 (.exec 9 (.take 10 (.done)))))))))))) _ (by kernel_rfl) (fun _ h => h) (by repeat (first | with_reducible exact Ret.noP | with_reducible apply NoP.block | with_reducible apply NoP.then)) ?_
      refine JP_R rfl rfl rfl (R_move rfl) ?_
      refine JP_R rfl rfl rfl (R_move rfl) ?_
      refine JP_R rfl rfl rfl (R_move rfl) ?_
      refine JP_R rfl rfl rfl (R_indexE (i := (i + j) / 2) Try.underlying51 ti60 rfl rfl (RngIn.own (List.Mem.head _)) (by omega) (by omega) (by first | (rw [fl_length itemP_len]; omega) | (rw [fl_length itemP_len]; simp only [List.length_set, List.length_drop, List.length_take]; omega) | (simp only [fl_length, bcs_length, List.length_map, List.length_cons]; omega) | omega | (simp [fl_length] <;> omega))) ?_
      refine JP_R rfl rfl rfl (R_elA Item.zero itemP_len Try.underlying60 rfl ti60 (by decide) rfl (RngIn.own (List.Mem.head _)) (by first | omega | (simp only [List.length_drop, List.length_take]; omega) | simpa using by omega)) ?_
      refine JP_R rfl rfl rfl (R_move rfl) ?_
      refine JP_R rfl rfl rfl (R_move rfl) ?_
      refine JP_R rfl rfl rfl (R_indexE (i := a) Try.underlying51 ti60 rfl rfl (RngIn.own (List.Mem.head _)) (by omega) (by omega) (by first | (rw [fl_length itemP_len]; omega) | (rw [fl_length itemP_len]; simp only [List.length_set, List.length_drop, List.length_take]; omega) | (simp only [fl_length, bcs_length, List.length_map, List.length_cons]; omega) | omega | (simp [fl_length] <;> omega))) ?_
      refine JP_R rfl rfl rfl (R_elA Item.zero itemP_len Try.underlying60 rfl ti60 (by decide) rfl (RngIn.own (List.Mem.head _)) (by first | omega | (simp only [List.length_drop, List.length_take]; omega) | simpa using by omega)) ?_
      refine JP_E rfl rfl (E_callFV ok89 rfl rfl rfl ents_nil (c_before _ _)) ?_
      rintro _ _ ⟨rfl, rfl⟩
      refine JPn_all (fun _ h => h) ?_
      refine JP_R rfl rfl rfl (R_lt rfl rfl) ?_
      refine JP_done ?_
      refine JQ_then ?_
      refine JC_cond rfl (fun hc50 => ?_) (fun hc50 => ?_)
      · rw [ncmp_neg] at hc50; simp only [Bool.not_eq_true', Bool.not_eq_false', decide_eq_true_eq, decide_eq_false_iff_not] at hc50
        refine JC_region ?_
        refine JL_R rfl (R_move rfl) ?_
        first
          | refine JL_R rfl ((R_add rfl rfl).eq (i64_in (by omega))) ?_
          | refine JL_R rfl (R_add rfl rfl) ?_
        refine JL_R rfl (R_assign rfl) ?_
        refine JL_nil ?_
        refine JQ_block ?_
        refine JQ_nxt2 ((i + j) / 2 + 1) (j) (Picks.cons (Pick.here _ _) (Picks.nil _)) (FrSub.cons rfl (by first | rfl | ((try dsimp only); congr 1; omega) | exact congrArg (Value.int _) (by (try dsimp only); omega)) (FrSub.cons rfl (by first | rfl | ((try dsimp only); congr 1; omega) | exact congrArg (Value.int _) (by (try dsimp only); omega)) (FrSub.cons rfl (by first | rfl | ((try dsimp only); congr 1; omega) | exact congrArg (Value.int _) (by (try dsimp only); omega)) (FrSub.cons rfl (by first | rfl | ((try dsimp only); congr 1; omega) | exact congrArg (Value.int _) (by (try dsimp only); omega)) (FrSub.cons rfl (by first | rfl | ((try dsimp only); congr 1; omega) | exact congrArg (Value.int _) (by (try dsimp only); omega)) (FrSub.cons rfl (by first | rfl | ((try dsimp only); congr 1; omega) | exact congrArg (Value.int _) (by (try dsimp only); omega)) (FrSub.cons rfl (by first | rfl | ((try dsimp only); congr 1; omega) | exact congrArg (Value.int _) (by (try dsimp only); omega)) FrSub.nil))))))) (by (try dsimp only); omega) (by first | exact ⟨by omega, by omega, by omega, .inr (by rw [Nat.add_sub_cancel]; exact hc50), h5⟩ | (dsimp only; exact ⟨by omega, by omega, by omega, .inr (by rw [Nat.add_sub_cancel]; exact hc50), h5⟩))
      · rw [ncmp_neg] at hc50; simp only [Bool.not_eq_true', Bool.not_eq_false', decide_eq_true_eq, decide_eq_false_iff_not] at hc50
        refine JC_region ?_
        refine JL_R rfl (R_move rfl) ?_
        refine JL_R rfl (R_assign rfl) ?_
        refine JL_nil ?_
        refine JQ_block ?_
        refine JQ_nxt2 (i) ((i + j) / 2) (Picks.cons (Pick.here _ _) (Picks.nil _)) (FrSub.cons rfl (by first | rfl | ((try dsimp only); congr 1; omega) | exact congrArg (Value.int _) (by (try dsimp only); omega)) (FrSub.cons rfl (by first | rfl | ((try dsimp only); congr 1; omega) | exact congrArg (Value.int _) (by (try dsimp only); omega)) (FrSub.cons rfl (by first | rfl | ((try dsimp only); congr 1; omega) | exact congrArg (Value.int _) (by (try dsimp only); omega)) (FrSub.cons rfl (by first | rfl | ((try dsimp only); congr 1; omega) | exact congrArg (Value.int _) (by (try dsimp only); omega)) (FrSub.cons rfl (by first | rfl | ((try dsimp only); congr 1; omega) | exact congrArg (Value.int _) (by (try dsimp only); omega)) (FrSub.cons rfl (by first | rfl | ((try dsimp only); congr 1; omega) | exact congrArg (Value.int _) (by (try dsimp only); omega)) (FrSub.cons rfl (by first | rfl | ((try dsimp only); congr 1; omega) | exact congrArg (Value.int _) (by (try dsimp only); omega)) FrSub.nil))))))) (by (try dsimp only); omega) (by first | exact ⟨by omega, by omega, by omega, h4, .inr (by omega)⟩ | (dsimp only; exact ⟨by omega, by omega, by omega, h4, .inr (by omega)⟩))
    · try simp only [Bool.or_eq_true, Bool.and_eq_true, Bool.or_eq_false_iff, Bool.and_eq_false_iff, decide_eq_true_eq, decide_eq_false_iff_not, Bool.not_eq_true', Bool.not_eq_false', beq_iff_eq] at hc33
      refine JC_exit ?_
      refine JQ_then_exit ?_
      refine JQ_then_exit ?_
      refine JQ_block_exit ?_
      refine JQ_then ?_
      refine JC_seq ?_
      refine JC_seq ?_
      obtain ⟨x, rfl⟩ : ∃ x, L = [x] := List.length_eq_one_iff.1 (by omega)
      obtain rfl : i = j := by omega
      refine JC_region ?_
      refine JL_R rfl (R_move rfl) ?_
      refine JL_R rfl (R_assign rfl) ?_
      refine JL_nil ?_
      refine JQ_then ?_
      refine JC_block ?_
      refine JC_loop2 (kp := [(0, _), (1, _), (2, _), (3, _), (4, _), (10, _)]) (fun (k : Nat) (cur : List Item) => a ≤ k ∧ k + 1 ≤ i ∧ cur.length = n ∧ cur = P ++ (R.take (k - a) ++ (x :: (R.drop (k - a) ++ S)))) (fun kp_ (k : Nat) (cur : List Item) => (13, .int .i64 (k : Int)) :: kp_) (fun rs_ (k : Nat) (cur : List Item) => Atom.own 60 64 (.slice A n c) n (fl iL (cur)) :: rs_) (fun (k : Nat) (cur : List Item) => i - k) (a) (P ++ ([x] ++ (R ++ S))) (Picks.cons (Pick.here _ _) (Picks.nil _)) (FrSub.cons rfl (by first | rfl | ((try dsimp only); congr 1; omega) | exact congrArg (Value.int _) (by (try dsimp only); omega)) (FrSub.cons rfl (by first | rfl | ((try dsimp only); congr 1; omega) | exact congrArg (Value.int _) (by (try dsimp only); omega)) (FrSub.cons rfl (by first | rfl | ((try dsimp only); congr 1; omega) | exact congrArg (Value.int _) (by (try dsimp only); omega)) (FrSub.cons rfl (by first | rfl | ((try dsimp only); congr 1; omega) | exact congrArg (Value.int _) (by (try dsimp only); omega)) (FrSub.cons rfl (by first | rfl | ((try dsimp only); congr 1; omega) | exact congrArg (Value.int _) (by (try dsimp only); omega)) (FrSub.cons rfl (by first | rfl | ((try dsimp only); congr 1; omega) | exact congrArg (Value.int _) (by (try dsimp only); omega)) (FrSub.cons rfl (by first | rfl | ((try dsimp only); congr 1; omega) | exact congrArg (Value.int _) (by (try dsimp only); omega)) FrSub.nil))))))) (fun _ _ _  => rfl) (⟨by omega, by simp at hm; omega, hX, by rw [Nat.sub_self]; rfl⟩) ?_
      rintro k cur ⟨h6, h7, h8, h9⟩
      have hm' : a + 1 = m := by simpa using hm
      refine JC_seq ?_
      refine JC_seq ?_
      refine JC_region ?_
      refine JL_R rfl (R_move rfl) ?_
      refine JL_R rfl (R_move rfl) ?_
      first
        | refine JL_R rfl ((R_sub rfl rfl).eq (i64_in (by omega))) ?_
        | refine JL_R rfl (R_sub rfl rfl) ?_
      refine JL_R rfl (R_lt rfl rfl) ?_
      refine JL_nil ?_
      refine JQ_then ?_
      refine JC_cond rfl (fun hc58 => ?_) (fun hc58 => ?_)
      · try simp only [Bool.or_eq_true, Bool.and_eq_true, Bool.or_eq_false_iff, Bool.and_eq_false_iff, decide_eq_true_eq, decide_eq_false_iff_not, Bool.not_eq_true', Bool.not_eq_false', beq_iff_eq] at hc58
        refine JC_skip ?_
        refine JQ_then ?_
        refine JC_seq ?_
        refine JC_block ?_
        refine JC_draw [2, 3, 4, 10, 11] rfl (.take 0 (.take 1 (.take 2 (.take 3 (.take 4 (.take 5 (.take 6 (.take 7 (.take 8 (.take 9 (.take 10 (.take 11 (.take 12 (.take 13 (.take 14 (.exec 15 (.take 16 (.exec 17 (.done))))))))))))))))))) _ (by kernel_rfl) (fun _ h => h) (by repeat (first | with_reducible exact Ret.noP | with_reducible apply NoP.block | with_reducible apply NoP.then)) ?_
        refine JP_R rfl rfl rfl (R_move rfl) ?_
        refine JP_R rfl rfl rfl (R_move rfl) ?_
        refine JP_RQ rfl rfl (R_move rfl) ?_
        refine JP_RQ rfl rfl (R_move rfl) ?_
        first
          | refine JP_RQ rfl rfl ((R_add rfl rfl).eq (i64_in (by omega))) ?_
          | refine JP_RQ rfl rfl (R_add rfl rfl) ?_
        refine JP_R rfl rfl rfl (R_move rfl) ?_
        refine JP_R rfl rfl rfl (R_move rfl) ?_
        first
          | refine JP_R rfl rfl rfl ((R_add rfl rfl).eq (i64_in (by omega))) ?_
          | refine JP_R rfl rfl rfl (R_add rfl rfl) ?_
        refine JP_R rfl rfl rfl (R_indexE (i := k + 1) Try.underlying51 ti60 rfl rfl (RngIn.own (List.Mem.head _)) (by omega) (by omega) (by first | (rw [fl_length itemP_len]; omega) | (rw [fl_length itemP_len]; simp only [List.length_set, List.length_drop, List.length_take]; omega) | (simp only [fl_length, bcs_length, List.length_map, List.length_cons]; omega) | omega | (simp [fl_length] <;> omega))) ?_
        refine JP_R rfl rfl rfl (R_elA Item.zero itemP_len Try.underlying60 rfl ti60 (by decide) rfl (RngIn.own (List.Mem.head _)) (by first | omega | (simp only [List.length_drop, List.length_take]; omega) | simpa using by omega)) ?_
        refine JP_RQ rfl rfl (R_move rfl) ?_
        refine JP_RQ rfl rfl (R_move rfl) ?_
        refine JP_R rfl rfl rfl (R_indexE (i := k) Try.underlying51 ti60 rfl rfl (RngIn.own (List.Mem.head _)) (by omega) (by omega) (by first | (rw [fl_length itemP_len]; omega) | (rw [fl_length itemP_len]; simp only [List.length_set, List.length_drop, List.length_take]; omega) | (simp only [fl_length, bcs_length, List.length_map, List.length_cons]; omega) | omega | (simp [fl_length] <;> omega))) ?_
        refine JP_R rfl rfl rfl (R_elA Item.zero itemP_len Try.underlying60 rfl ti60 (by decide) rfl (RngIn.own (List.Mem.head _)) (by first | omega | (simp only [List.length_drop, List.length_take]; omega) | simpa using by omega)) ?_
        refine JP_R rfl rfl rfl (R_indexE (i := k) Try.underlying51 ti60 rfl rfl (RngIn.own (List.Mem.head _)) (by omega) (by omega) (by first | (rw [fl_length itemP_len]; omega) | (rw [fl_length itemP_len]; simp only [List.length_set, List.length_drop, List.length_take]; omega) | (simp only [fl_length, bcs_length, List.length_map, List.length_cons]; omega) | omega | (simp [fl_length] <;> omega))) ?_
        refine JP_E0 rfl (E_storeEl itemP_len itemP_ones ti60 rfl rfl (Pick.here _ _) (by decide) (by first | omega | (simp; omega))) ?_
        rintro _ _ ⟨rfl, rfl⟩
        refine JPn_bar (by kernel_rfl) ?_
        refine JP_R rfl rfl rfl (R_indexE (i := k + 1) Try.underlying51 ti60 rfl rfl (RngIn.own (List.Mem.head _)) (by omega) (by omega) (by first | (rw [fl_length itemP_len]; omega) | (rw [fl_length itemP_len]; simp only [List.length_set, List.length_drop, List.length_take]; omega) | (simp only [fl_length, bcs_length, List.length_map, List.length_cons]; omega) | omega | (simp [fl_length] <;> omega))) ?_
        refine JP_E0 rfl (E_storeEl itemP_len itemP_ones ti60 rfl rfl (Pick.here _ _) (by decide) (by first | omega | (simp; omega))) ?_
        rintro _ _ ⟨rfl, rfl⟩
        refine JPn_bar (by kernel_rfl) ?_
        refine JP_done ?_
        refine JQ_block ?_
        refine JQ_then ?_
        refine JC_region ?_
        refine JL_R rfl (R_move rfl) ?_
        first
          | refine JL_R rfl ((R_add rfl rfl).eq (i64_in (by omega))) ?_
          | refine JL_R rfl (R_add rfl rfl) ?_
        refine JL_R rfl (R_assign rfl) ?_
        refine JL_nil ?_
        refine JQ_nxt2 (k + 1) (sw Item.zero cur k (k + 1)) (Picks.cons (Pick.here _ _) (Picks.nil _)) (FrSub.cons rfl (by first | rfl | ((try dsimp only); congr 1; omega) | exact congrArg (Value.int _) (by (try dsimp only); omega)) (FrSub.cons rfl (by first | rfl | ((try dsimp only); congr 1; omega) | exact congrArg (Value.int _) (by (try dsimp only); omega)) (FrSub.cons rfl (by first | rfl | ((try dsimp only); congr 1; omega) | exact congrArg (Value.int _) (by (try dsimp only); omega)) (FrSub.cons rfl (by first | rfl | ((try dsimp only); congr 1; omega) | exact congrArg (Value.int _) (by (try dsimp only); omega)) (FrSub.cons rfl (by first | rfl | ((try dsimp only); congr 1; omega) | exact congrArg (Value.int _) (by (try dsimp only); omega)) (FrSub.cons rfl (by first | rfl | ((try dsimp only); congr 1; omega) | exact congrArg (Value.int _) (by (try dsimp only); omega)) (FrSub.cons rfl (by first | rfl | ((try dsimp only); congr 1; omega) | exact congrArg (Value.int _) (by (try dsimp only); omega)) FrSub.nil))))))) (by (try dsimp only); omega) (by first | exact ⟨by omega, by omega, by simp [h8], by have := bub_right Item.zero P R S x (k - a) (by omega); rw [show P.length + (k - a) = k by omega, show k - a + 1 = k + 1 - a by omega, ← h9] at this; exact this⟩ | (dsimp only; exact ⟨by omega, by omega, by simp [h8], by have := bub_right Item.zero P R S x (k - a) (by omega); rw [show P.length + (k - a) = k by omega, show k - a + 1 = k + 1 - a by omega, ← h9] at this; exact this⟩))
      · try simp only [Bool.or_eq_true, Bool.and_eq_true, Bool.or_eq_false_iff, Bool.and_eq_false_iff, decide_eq_true_eq, decide_eq_false_iff_not, Bool.not_eq_true', Bool.not_eq_false', beq_iff_eq] at hc58
        refine JC_exit ?_
        refine JQ_then_exit ?_
        refine JQ_then_exit ?_
        refine JQ_block_exit ?_
        refine JQ_then ?_
        refine JC_ret ?_
        refine JQ_then_ret ?_
        exact ret0 Try.results155 ⟨rfl, _, ⟨_, rfl, R.take (i - m) ++ (x :: R.drop (i - m)), by rw [h9, show k - a = i - m by omega]; simp, left_done key Item.zero ha hm' hb hR (by omega) (by omega) h4 h5⟩, rfl⟩ (Picks.cons (Pick.here _ _) (Picks.nil _)) rfl
  · try simp only [Bool.or_eq_true, Bool.and_eq_true, Bool.or_eq_false_iff, Bool.and_eq_false_iff, decide_eq_true_eq, decide_eq_false_iff_not, Bool.not_eq_true', Bool.not_eq_false', beq_iff_eq] at hc28
    refine JC_skip ?_
    refine JQ_then ?_
    refine JC_seq ?_
    refine JC_seq ?_
    refine JC_region ?_
    refine JL_R rfl (R_move rfl) ?_
    refine JL_R rfl (R_move rfl) ?_
    first
      | refine JL_R rfl ((R_sub rfl rfl).eq (i64_in (by omega))) ?_
      | refine JL_R rfl (R_sub rfl rfl) ?_
    refine JL_R rfl (R_eq rfl rfl) ?_
    refine JL_nil ?_
    refine JQ_then ?_
    refine JC_cond rfl (fun hc80 => ?_) (fun hc80 => ?_)
    · try simp only [Bool.or_eq_true, Bool.and_eq_true, Bool.or_eq_false_iff, Bool.and_eq_false_iff, decide_eq_true_eq, decide_eq_false_iff_not, Bool.not_eq_true', Bool.not_eq_false', beq_iff_eq] at hc80
      refine JC_seq ?_
      refine JC_region ?_
      refine JL_R rfl (R_move rfl) ?_
      refine JL_R rfl (R_assign rfl) ?_
      refine JL_nil ?_
      refine JQ_then ?_
      refine JC_seq ?_
      refine JC_region ?_
      refine JL_R rfl (R_move rfl) ?_
      refine JL_R rfl (R_assign rfl) ?_
      refine JL_nil ?_
      refine JQ_then ?_
      refine JC_seq ?_
      refine JC_block ?_
      refine JC_loop2 (kp := [(0, _), (1, _), (2, _), (3, _), (4, _)]) (fun (i : Nat) (j : Nat) => a ≤ i ∧ i ≤ j ∧ j ≤ m ∧ (i = a ∨ key ((P ++ (L ++ (R ++ S))).getD (i - 1) Item.zero) ≤ key ((P ++ (L ++ (R ++ S))).getD m Item.zero)) ∧ (j = m ∨ key ((P ++ (L ++ (R ++ S))).getD m Item.zero) < key ((P ++ (L ++ (R ++ S))).getD j Item.zero))) (fun kp_ (i : Nat) (j : Nat) => (14, .int .i64 (i : Int)) :: (15, .int .i64 (j : Int)) :: kp_) (fun rs_ (i : Nat) (j : Nat) => rs_) (fun (i : Nat) (j : Nat) => j - i) (a) (m) (Picks.nil _) (FrSub.cons rfl (by first | rfl | ((try dsimp only); congr 1; omega) | exact congrArg (Value.int _) (by (try dsimp only); omega)) (FrSub.cons rfl (by first | rfl | ((try dsimp only); congr 1; omega) | exact congrArg (Value.int _) (by (try dsimp only); omega)) (FrSub.cons rfl (by first | rfl | ((try dsimp only); congr 1; omega) | exact congrArg (Value.int _) (by (try dsimp only); omega)) (FrSub.cons rfl (by first | rfl | ((try dsimp only); congr 1; omega) | exact congrArg (Value.int _) (by (try dsimp only); omega)) (FrSub.cons rfl (by first | rfl | ((try dsimp only); congr 1; omega) | exact congrArg (Value.int _) (by (try dsimp only); omega)) (FrSub.cons rfl (by first | rfl | ((try dsimp only); congr 1; omega) | exact congrArg (Value.int _) (by (try dsimp only); omega)) (FrSub.cons rfl (by first | rfl | ((try dsimp only); congr 1; omega) | exact congrArg (Value.int _) (by (try dsimp only); omega)) FrSub.nil))))))) (fun _ _ _  => rfl) (⟨by omega, by omega, by omega, .inl rfl, .inl rfl⟩) ?_
      rintro i j ⟨h1, h2, h3, h4, h5⟩
      refine JC_seq ?_
      refine JC_seq ?_
      refine JC_region ?_
      refine JL_R rfl (R_move rfl) ?_
      refine JL_R rfl (R_move rfl) ?_
      refine JL_R rfl (R_lt rfl rfl) ?_
      refine JL_nil ?_
      refine JQ_then ?_
      refine JC_cond rfl (fun hc85 => ?_) (fun hc85 => ?_)
      · try simp only [Bool.or_eq_true, Bool.and_eq_true, Bool.or_eq_false_iff, Bool.and_eq_false_iff, decide_eq_true_eq, decide_eq_false_iff_not, Bool.not_eq_true', Bool.not_eq_false', beq_iff_eq] at hc85
        refine JC_skip ?_
        refine JQ_then ?_
        refine JC_block ?_
        refine JC_seq ?_
        refine JC_region ?_
        refine JL_R rfl (R_move rfl) ?_
        refine JL_R rfl (R_move rfl) ?_
        first
          | refine JL_R rfl ((R_add rfl rfl).eq (i64_in (by omega))) ?_
          | refine JL_R rfl (R_add rfl rfl) ?_
        first
          | refine JL_R rfl ((R_conv Try.underlying3 Try.underlying72 rfl).eq (u64_in (by omega))) ?_
          | refine JL_R rfl (R_conv Try.underlying3 Try.underlying72 rfl) ?_
        refine JL_R rfl ((R_shr rfl rfl (by omega)).eq (shr_one rfl)) ?_
        first
          | refine JL_R rfl ((R_conv Try.underlying72 Try.underlying3 rfl).eq (i64_in (by omega))) ?_
          | refine JL_R rfl (R_conv Try.underlying72 Try.underlying3 rfl) ?_
        refine JL_R rfl (R_assign rfl) ?_
        refine JL_nil ?_
        refine JQ_then ?_
        refine JC_seq ?_
        refine JC_draw [] rfl (.take 0 (.take 1 (.take 2 (.take 3 (.take 4 (.take 5 (.take 6 (.take 7 (.take 8 (.exec 9 (.take 10 (.take 11 (.done))))))))))))) _ (by kernel_rfl) (fun _ h => h) (by repeat (first | with_reducible exact Ret.noP | with_reducible apply NoP.block | with_reducible apply NoP.then)) ?_
        refine JP_R rfl rfl rfl (R_move rfl) ?_
        refine JP_R rfl rfl rfl (R_move rfl) ?_
        refine JP_R rfl rfl rfl (R_move rfl) ?_
        refine JP_R rfl rfl rfl (R_indexE (i := m) Try.underlying51 ti60 rfl rfl (RngIn.own (List.Mem.head _)) (by omega) (by omega) (by first | (rw [fl_length itemP_len]; omega) | (rw [fl_length itemP_len]; simp only [List.length_set, List.length_drop, List.length_take]; omega) | (simp only [fl_length, bcs_length, List.length_map, List.length_cons]; omega) | omega | (simp [fl_length] <;> omega))) ?_
        refine JP_R rfl rfl rfl (R_elA Item.zero itemP_len Try.underlying60 rfl ti60 (by decide) rfl (RngIn.own (List.Mem.head _)) (by first | omega | (simp only [List.length_drop, List.length_take]; omega) | simpa using by omega)) ?_
        refine JP_R rfl rfl rfl (R_move rfl) ?_
        refine JP_R rfl rfl rfl (R_move rfl) ?_
        refine JP_R rfl rfl rfl (R_indexE (i := (i + j) / 2) Try.underlying51 ti60 rfl rfl (RngIn.own (List.Mem.head _)) (by omega) (by omega) (by first | (rw [fl_length itemP_len]; omega) | (rw [fl_length itemP_len]; simp only [List.length_set, List.length_drop, List.length_take]; omega) | (simp only [fl_length, bcs_length, List.length_map, List.length_cons]; omega) | omega | (simp [fl_length] <;> omega))) ?_
        refine JP_R rfl rfl rfl (R_elA Item.zero itemP_len Try.underlying60 rfl ti60 (by decide) rfl (RngIn.own (List.Mem.head _)) (by first | omega | (simp only [List.length_drop, List.length_take]; omega) | simpa using by omega)) ?_
        refine JP_E rfl rfl (E_callFV ok89 rfl rfl rfl ents_nil (c_before _ _)) ?_
        rintro _ _ ⟨rfl, rfl⟩
        refine JPn_all (fun _ h => h) ?_
        refine JP_R rfl rfl rfl (R_lt rfl rfl) ?_
        refine JP_R rfl rfl rfl (R_not rfl) ?_
        refine JP_done ?_
        refine JQ_then ?_
        refine JC_cond rfl (fun hc103 => ?_) (fun hc103 => ?_)
        · rw [ncmp_neg] at hc103; simp only [Bool.not_eq_true', Bool.not_eq_false', decide_eq_true_eq, decide_eq_false_iff_not] at hc103
          refine JC_region ?_
          refine JL_R rfl (R_move rfl) ?_
          first
            | refine JL_R rfl ((R_add rfl rfl).eq (i64_in (by omega))) ?_
            | refine JL_R rfl (R_add rfl rfl) ?_
          refine JL_R rfl (R_assign rfl) ?_
          refine JL_nil ?_
          refine JQ_block ?_
          refine JQ_nxt2 ((i + j) / 2 + 1) (j) (Picks.cons (Pick.here _ _) (Picks.nil _)) (FrSub.cons rfl (by first | rfl | ((try dsimp only); congr 1; omega) | exact congrArg (Value.int _) (by (try dsimp only); omega)) (FrSub.cons rfl (by first | rfl | ((try dsimp only); congr 1; omega) | exact congrArg (Value.int _) (by (try dsimp only); omega)) (FrSub.cons rfl (by first | rfl | ((try dsimp only); congr 1; omega) | exact congrArg (Value.int _) (by (try dsimp only); omega)) (FrSub.cons rfl (by first | rfl | ((try dsimp only); congr 1; omega) | exact congrArg (Value.int _) (by (try dsimp only); omega)) (FrSub.cons rfl (by first | rfl | ((try dsimp only); congr 1; omega) | exact congrArg (Value.int _) (by (try dsimp only); omega)) (FrSub.cons rfl (by first | rfl | ((try dsimp only); congr 1; omega) | exact congrArg (Value.int _) (by (try dsimp only); omega)) (FrSub.cons rfl (by first | rfl | ((try dsimp only); congr 1; omega) | exact congrArg (Value.int _) (by (try dsimp only); omega)) FrSub.nil))))))) (by (try dsimp only); omega) (by first | exact ⟨by omega, by omega, by omega, .inr (by rw [Nat.add_sub_cancel]; omega), h5⟩ | (dsimp only; exact ⟨by omega, by omega, by omega, .inr (by rw [Nat.add_sub_cancel]; omega), h5⟩))
        · rw [ncmp_neg] at hc103; simp only [Bool.not_eq_true', Bool.not_eq_false', decide_eq_true_eq, decide_eq_false_iff_not] at hc103
          refine JC_region ?_
          refine JL_R rfl (R_move rfl) ?_
          refine JL_R rfl (R_assign rfl) ?_
          refine JL_nil ?_
          refine JQ_block ?_
          refine JQ_nxt2 (i) ((i + j) / 2) (Picks.cons (Pick.here _ _) (Picks.nil _)) (FrSub.cons rfl (by first | rfl | ((try dsimp only); congr 1; omega) | exact congrArg (Value.int _) (by (try dsimp only); omega)) (FrSub.cons rfl (by first | rfl | ((try dsimp only); congr 1; omega) | exact congrArg (Value.int _) (by (try dsimp only); omega)) (FrSub.cons rfl (by first | rfl | ((try dsimp only); congr 1; omega) | exact congrArg (Value.int _) (by (try dsimp only); omega)) (FrSub.cons rfl (by first | rfl | ((try dsimp only); congr 1; omega) | exact congrArg (Value.int _) (by (try dsimp only); omega)) (FrSub.cons rfl (by first | rfl | ((try dsimp only); congr 1; omega) | exact congrArg (Value.int _) (by (try dsimp only); omega)) (FrSub.cons rfl (by first | rfl | ((try dsimp only); congr 1; omega) | exact congrArg (Value.int _) (by (try dsimp only); omega)) (FrSub.cons rfl (by first | rfl | ((try dsimp only); congr 1; omega) | exact congrArg (Value.int _) (by (try dsimp only); omega)) FrSub.nil))))))) (by (try dsimp only); omega) (by first | exact ⟨by omega, by omega, by omega, h4, .inr (by omega)⟩ | (dsimp only; exact ⟨by omega, by omega, by omega, h4, .inr (by omega)⟩))
      · try simp only [Bool.or_eq_true, Bool.and_eq_true, Bool.or_eq_false_iff, Bool.and_eq_false_iff, decide_eq_true_eq, decide_eq_false_iff_not, Bool.not_eq_true', Bool.not_eq_false', beq_iff_eq] at hc85
        refine JC_exit ?_
        refine JQ_then_exit ?_
        refine JQ_then_exit ?_
        refine JQ_block_exit ?_
        refine JQ_then ?_
        refine JC_seq ?_
        refine JC_seq ?_
        obtain ⟨y, rfl⟩ : ∃ y, R = [y] := List.length_eq_one_iff.1 (by omega)
        obtain rfl : i = j := by omega
        refine JC_region ?_
        refine JL_R rfl (R_move rfl) ?_
        refine JL_R rfl (R_assign rfl) ?_
        refine JL_nil ?_
        refine JQ_then ?_
        refine JC_block ?_
        refine JC_loop2 (kp := [(0, _), (1, _), (2, _), (3, _), (4, _), (14, _)]) (fun (k : Nat) (cur : List Item) => i ≤ k ∧ k ≤ m ∧ cur.length = n ∧ cur = P ++ (L.take (k - a) ++ (y :: (L.drop (k - a) ++ S)))) (fun kp_ (k : Nat) (cur : List Item) => (17, .int .i64 (k : Int)) :: kp_) (fun rs_ (k : Nat) (cur : List Item) => Atom.own 60 64 (.slice A n c) n (fl iL (cur)) :: rs_) (fun (k : Nat) (cur : List Item) => k) (m) (P ++ (L ++ ([y] ++ S))) (Picks.cons (Pick.here _ _) (Picks.nil _)) (FrSub.cons rfl (by first | rfl | ((try dsimp only); congr 1; omega) | exact congrArg (Value.int _) (by (try dsimp only); omega)) (FrSub.cons rfl (by first | rfl | ((try dsimp only); congr 1; omega) | exact congrArg (Value.int _) (by (try dsimp only); omega)) (FrSub.cons rfl (by first | rfl | ((try dsimp only); congr 1; omega) | exact congrArg (Value.int _) (by (try dsimp only); omega)) (FrSub.cons rfl (by first | rfl | ((try dsimp only); congr 1; omega) | exact congrArg (Value.int _) (by (try dsimp only); omega)) (FrSub.cons rfl (by first | rfl | ((try dsimp only); congr 1; omega) | exact congrArg (Value.int _) (by (try dsimp only); omega)) (FrSub.cons rfl (by first | rfl | ((try dsimp only); congr 1; omega) | exact congrArg (Value.int _) (by (try dsimp only); omega)) (FrSub.cons rfl (by first | rfl | ((try dsimp only); congr 1; omega) | exact congrArg (Value.int _) (by (try dsimp only); omega)) FrSub.nil))))))) (fun _ _ _  => rfl) (⟨by omega, by omega, hX, by rw [List.take_of_length_le (by omega), List.drop_eq_nil_of_le (by omega)]; rfl⟩) ?_
        rintro k cur ⟨h6, h7, h8, h9⟩
        have hb' : m + 1 = b := by simpa using hb
        refine JC_seq ?_
        refine JC_seq ?_
        refine JC_region ?_
        refine JL_R rfl (R_move rfl) ?_
        refine JL_R rfl (R_move rfl) ?_
        refine JL_R rfl (R_gt rfl rfl) ?_
        refine JL_nil ?_
        refine JQ_then ?_
        refine JC_cond rfl (fun hc110 => ?_) (fun hc110 => ?_)
        · try simp only [Bool.or_eq_true, Bool.and_eq_true, Bool.or_eq_false_iff, Bool.and_eq_false_iff, decide_eq_true_eq, decide_eq_false_iff_not, Bool.not_eq_true', Bool.not_eq_false', beq_iff_eq] at hc110
          refine JC_skip ?_
          refine JQ_then ?_
          refine JC_seq ?_
          refine JC_block ?_
          refine JC_draw [2, 3, 4, 10, 11] rfl (.take 0 (.take 1 (.take 2 (.take 3 (.take 4 (.take 5 (.take 6 (.take 7 (.take 8 (.take 9 (.take 10 (.take 11 (.take 12 (.take 13 (.take 14 (.exec 15 (.take 16 (.exec 17 (.done))))))))))))))))))) _ (by kernel_rfl) (fun _ h => h) (by repeat (first | with_reducible exact Ret.noP | with_reducible apply NoP.block | with_reducible apply NoP.then)) ?_
          refine JP_R rfl rfl rfl (R_move rfl) ?_
          refine JP_R rfl rfl rfl (R_move rfl) ?_
          refine JP_RQ rfl rfl (R_move rfl) ?_
          refine JP_RQ rfl rfl (R_move rfl) ?_
          first
            | refine JP_RQ rfl rfl ((R_sub rfl rfl).eq (i64_in (by omega))) ?_
            | refine JP_RQ rfl rfl (R_sub rfl rfl) ?_
          refine JP_R rfl rfl rfl (R_move rfl) ?_
          refine JP_R rfl rfl rfl (R_move rfl) ?_
          first
            | refine JP_R rfl rfl rfl ((R_sub rfl rfl).eq (i64_in (by omega))) ?_
            | refine JP_R rfl rfl rfl (R_sub rfl rfl) ?_
          refine JP_R rfl rfl rfl (R_indexE (i := k - 1) Try.underlying51 ti60 rfl rfl (RngIn.own (List.Mem.head _)) (by omega) (by omega) (by first | (rw [fl_length itemP_len]; omega) | (rw [fl_length itemP_len]; simp only [List.length_set, List.length_drop, List.length_take]; omega) | (simp only [fl_length, bcs_length, List.length_map, List.length_cons]; omega) | omega | (simp [fl_length] <;> omega))) ?_
          refine JP_R rfl rfl rfl (R_elA Item.zero itemP_len Try.underlying60 rfl ti60 (by decide) rfl (RngIn.own (List.Mem.head _)) (by first | omega | (simp only [List.length_drop, List.length_take]; omega) | simpa using by omega)) ?_
          refine JP_RQ rfl rfl (R_move rfl) ?_
          refine JP_RQ rfl rfl (R_move rfl) ?_
          refine JP_R rfl rfl rfl (R_indexE (i := k) Try.underlying51 ti60 rfl rfl (RngIn.own (List.Mem.head _)) (by omega) (by omega) (by first | (rw [fl_length itemP_len]; omega) | (rw [fl_length itemP_len]; simp only [List.length_set, List.length_drop, List.length_take]; omega) | (simp only [fl_length, bcs_length, List.length_map, List.length_cons]; omega) | omega | (simp [fl_length] <;> omega))) ?_
          refine JP_R rfl rfl rfl (R_elA Item.zero itemP_len Try.underlying60 rfl ti60 (by decide) rfl (RngIn.own (List.Mem.head _)) (by first | omega | (simp only [List.length_drop, List.length_take]; omega) | simpa using by omega)) ?_
          refine JP_R rfl rfl rfl (R_indexE (i := k) Try.underlying51 ti60 rfl rfl (RngIn.own (List.Mem.head _)) (by omega) (by omega) (by first | (rw [fl_length itemP_len]; omega) | (rw [fl_length itemP_len]; simp only [List.length_set, List.length_drop, List.length_take]; omega) | (simp only [fl_length, bcs_length, List.length_map, List.length_cons]; omega) | omega | (simp [fl_length] <;> omega))) ?_
          refine JP_E0 rfl (E_storeEl itemP_len itemP_ones ti60 rfl rfl (Pick.here _ _) (by decide) (by first | omega | (simp; omega))) ?_
          rintro _ _ ⟨rfl, rfl⟩
          refine JPn_bar (by kernel_rfl) ?_
          refine JP_R rfl rfl rfl (R_indexE (i := k - 1) Try.underlying51 ti60 rfl rfl (RngIn.own (List.Mem.head _)) (by omega) (by omega) (by first | (rw [fl_length itemP_len]; omega) | (rw [fl_length itemP_len]; simp only [List.length_set, List.length_drop, List.length_take]; omega) | (simp only [fl_length, bcs_length, List.length_map, List.length_cons]; omega) | omega | (simp [fl_length] <;> omega))) ?_
          refine JP_E0 rfl (E_storeEl itemP_len itemP_ones ti60 rfl rfl (Pick.here _ _) (by decide) (by first | omega | (simp; omega))) ?_
          rintro _ _ ⟨rfl, rfl⟩
          refine JPn_bar (by kernel_rfl) ?_
          refine JP_done ?_
          refine JQ_block ?_
          refine JQ_then ?_
          refine JC_region ?_
          refine JL_R rfl (R_move rfl) ?_
          first
            | refine JL_R rfl ((R_sub rfl rfl).eq (i64_in (by omega))) ?_
            | refine JL_R rfl (R_sub rfl rfl) ?_
          refine JL_R rfl (R_assign rfl) ?_
          refine JL_nil ?_
          refine JQ_nxt2 (k - 1) (sw Item.zero cur k (k - 1)) (Picks.cons (Pick.here _ _) (Picks.nil _)) (FrSub.cons rfl (by first | rfl | ((try dsimp only); congr 1; omega) | exact congrArg (Value.int _) (by (try dsimp only); omega)) (FrSub.cons rfl (by first | rfl | ((try dsimp only); congr 1; omega) | exact congrArg (Value.int _) (by (try dsimp only); omega)) (FrSub.cons rfl (by first | rfl | ((try dsimp only); congr 1; omega) | exact congrArg (Value.int _) (by (try dsimp only); omega)) (FrSub.cons rfl (by first | rfl | ((try dsimp only); congr 1; omega) | exact congrArg (Value.int _) (by (try dsimp only); omega)) (FrSub.cons rfl (by first | rfl | ((try dsimp only); congr 1; omega) | exact congrArg (Value.int _) (by (try dsimp only); omega)) (FrSub.cons rfl (by first | rfl | ((try dsimp only); congr 1; omega) | exact congrArg (Value.int _) (by (try dsimp only); omega)) (FrSub.cons rfl (by first | rfl | ((try dsimp only); congr 1; omega) | exact congrArg (Value.int _) (by (try dsimp only); omega)) FrSub.nil))))))) (by (try dsimp only); omega) (by first | exact ⟨by omega, by omega, by simp [h8], by have := bub_left Item.zero P L S y (k - 1 - a) (by omega); rw [show P.length + (k - 1 - a) + 1 = k by omega, show P.length + (k - 1 - a) = k - 1 by omega, show k - 1 - a + 1 = k - a by omega, ← h9] at this; exact this⟩ | (dsimp only; exact ⟨by omega, by omega, by simp [h8], by have := bub_left Item.zero P L S y (k - 1 - a) (by omega); rw [show P.length + (k - 1 - a) + 1 = k by omega, show P.length + (k - 1 - a) = k - 1 by omega, show k - 1 - a + 1 = k - a by omega, ← h9] at this; exact this⟩))
        · try simp only [Bool.or_eq_true, Bool.and_eq_true, Bool.or_eq_false_iff, Bool.and_eq_false_iff, decide_eq_true_eq, decide_eq_false_iff_not, Bool.not_eq_true', Bool.not_eq_false', beq_iff_eq] at hc110
          refine JC_exit ?_
          refine JQ_then_exit ?_
          refine JQ_then_exit ?_
          refine JQ_block_exit ?_
          refine JQ_then ?_
          refine JC_ret ?_
          refine JQ_then_ret ?_
          exact ret0 Try.results155 ⟨rfl, _, ⟨_, rfl, L.take (i - a) ++ (y :: L.drop (i - a)), by rw [h9, show k = i by omega]; simp, right_done key Item.zero ha hm hL (by omega) (by omega) h4 h5⟩, rfl⟩ (Picks.cons (Pick.here _ _) (Picks.nil _)) rfl
    · try simp only [Bool.or_eq_true, Bool.and_eq_true, Bool.or_eq_false_iff, Bool.and_eq_false_iff, decide_eq_true_eq, decide_eq_false_iff_not, Bool.not_eq_true', Bool.not_eq_false', beq_iff_eq] at hc80
      refine JC_skip ?_
      refine JQ_then ?_
      refine JC_seq ?_
      refine JC_region ?_
      refine JL_R rfl (R_move rfl) ?_
      refine JL_R rfl (R_move rfl) ?_
      first
        | refine JL_R rfl ((R_add rfl rfl).eq (i64_in (by omega))) ?_
        | refine JL_R rfl (R_add rfl rfl) ?_
      first
        | refine JL_R rfl ((R_conv Try.underlying3 Try.underlying72 rfl).eq (u64_in (by omega))) ?_
        | refine JL_R rfl (R_conv Try.underlying3 Try.underlying72 rfl) ?_
      refine JL_R rfl ((R_shr rfl rfl (by omega)).eq (shr_one rfl)) ?_
      first
        | refine JL_R rfl ((R_conv Try.underlying72 Try.underlying3 rfl).eq (i64_in (by omega))) ?_
        | refine JL_R rfl (R_conv Try.underlying72 Try.underlying3 rfl) ?_
      refine JL_R rfl (R_assign rfl) ?_
      refine JL_nil ?_
      refine JQ_then ?_
      refine JC_seq ?_
      refine JC_region ?_
      refine JL_R rfl (R_move rfl) ?_
      refine JL_R rfl (R_move rfl) ?_
      first
        | refine JL_R rfl ((R_add rfl rfl).eq (i64_in (by omega))) ?_
        | refine JL_R rfl (R_add rfl rfl) ?_
      refine JL_R rfl (R_assign rfl) ?_
      refine JL_nil ?_
      refine JQ_then ?_
      refine JC_seq ?_
      refine JC_region ?_
      refine JL_R rfl (R_assign rfl) ?_
      refine JL_R rfl (R_assign rfl) ?_
      refine JL_nil ?_
      refine JQ_then ?_
      refine JC_cut2 (kp := [(0, _), (1, _), (2, _), (3, _), (4, _)]) (fun (s : Nat) (r : Nat) => (mid + m = s + b ∧ r = mid ∧ mid < m) ∨ (s = a ∧ r = m ∧ m ≤ mid)) (fun kp_ (s : Nat) (r : Nat) => (18, .int .i64 (mid : Int)) :: (19, .int .i64 ((mid + m : Nat) : Int)) :: (20, .int .i64 (s : Int)) :: (21, .int .i64 (r : Int)) :: kp_) (fun rs_ (s : Nat) (r : Nat) => rs_) (Picks.nil _) (FrSub.cons rfl (by first | rfl | ((try dsimp only); congr 1; omega) | exact congrArg (Value.int _) (by (try dsimp only); omega)) (FrSub.cons rfl (by first | rfl | ((try dsimp only); congr 1; omega) | exact congrArg (Value.int _) (by (try dsimp only); omega)) (FrSub.cons rfl (by first | rfl | ((try dsimp only); congr 1; omega) | exact congrArg (Value.int _) (by (try dsimp only); omega)) (FrSub.cons rfl (by first | rfl | ((try dsimp only); congr 1; omega) | exact congrArg (Value.int _) (by (try dsimp only); omega)) (FrSub.cons rfl (by first | rfl | ((try dsimp only); congr 1; omega) | exact congrArg (Value.int _) (by (try dsimp only); omega)) FrSub.nil))))) ?_ ?_
      · skip
        refine JC_seq ?_
        refine JC_region ?_
        refine JL_R rfl (R_move rfl) ?_
        refine JL_R rfl (R_move rfl) ?_
        refine JL_R rfl (R_gt rfl rfl) ?_
        refine JL_nil ?_
        refine JQ_then ?_
        refine JC_cond rfl (fun hc140 => ?_) (fun hc140 => ?_)
        · try simp only [Bool.or_eq_true, Bool.and_eq_true, Bool.or_eq_false_iff, Bool.and_eq_false_iff, decide_eq_true_eq, decide_eq_false_iff_not, Bool.not_eq_true', Bool.not_eq_false', beq_iff_eq] at hc140
          refine JC_seq ?_
          refine JC_region ?_
          refine JL_R rfl (R_move rfl) ?_
          refine JL_R rfl (R_move rfl) ?_
          first
            | refine JL_R rfl ((R_sub rfl rfl).eq (i64_in (by omega))) ?_
            | refine JL_R rfl (R_sub rfl rfl) ?_
          refine JL_R rfl (R_assign rfl) ?_
          refine JL_nil ?_
          refine JQ_then ?_
          refine JC_region ?_
          refine JL_R rfl (R_move rfl) ?_
          refine JL_R rfl (R_assign rfl) ?_
          refine JL_nil ?_
          refine JQ_mid2 (mid + m - b) (mid) (Picks.cons (Pick.here _ _) (Picks.nil _)) (FrSub.cons rfl (by first | rfl | ((try dsimp only); congr 1; omega) | exact congrArg (Value.int _) (by (try dsimp only); omega)) (FrSub.cons rfl (by first | rfl | ((try dsimp only); congr 1; omega) | exact congrArg (Value.int _) (by (try dsimp only); omega)) (FrSub.cons rfl (by first | rfl | ((try dsimp only); congr 1; omega) | exact congrArg (Value.int _) (by (try dsimp only); omega)) (FrSub.cons rfl (by first | rfl | ((try dsimp only); congr 1; omega) | exact congrArg (Value.int _) (by (try dsimp only); omega)) (FrSub.cons rfl (by first | rfl | ((try dsimp only); congr 1; omega) | exact congrArg (Value.int _) (by (try dsimp only); omega)) (FrSub.cons rfl (by first | rfl | ((try dsimp only); congr 1; omega) | exact congrArg (Value.int _) (by (try dsimp only); omega)) (FrSub.cons rfl (by first | rfl | ((try dsimp only); congr 1; omega) | exact congrArg (Value.int _) (by (try dsimp only); omega)) (FrSub.cons rfl (by first | rfl | ((try dsimp only); congr 1; omega) | exact congrArg (Value.int _) (by (try dsimp only); omega)) (FrSub.cons rfl (by first | rfl | ((try dsimp only); congr 1; omega) | exact congrArg (Value.int _) (by (try dsimp only); omega)) FrSub.nil))))))))) (by first | exact (by omega) | (dsimp only; exact (by omega)))
        · try simp only [Bool.or_eq_true, Bool.and_eq_true, Bool.or_eq_false_iff, Bool.and_eq_false_iff, decide_eq_true_eq, decide_eq_false_iff_not, Bool.not_eq_true', Bool.not_eq_false', beq_iff_eq] at hc140
          refine JC_seq ?_
          refine JC_region ?_
          refine JL_R rfl (R_move rfl) ?_
          refine JL_R rfl (R_assign rfl) ?_
          refine JL_nil ?_
          refine JQ_then ?_
          refine JC_region ?_
          refine JL_R rfl (R_move rfl) ?_
          refine JL_R rfl (R_assign rfl) ?_
          refine JL_nil ?_
          refine JQ_mid2 (a) (m) (Picks.cons (Pick.here _ _) (Picks.nil _)) (FrSub.cons rfl (by first | rfl | ((try dsimp only); congr 1; omega) | exact congrArg (Value.int _) (by (try dsimp only); omega)) (FrSub.cons rfl (by first | rfl | ((try dsimp only); congr 1; omega) | exact congrArg (Value.int _) (by (try dsimp only); omega)) (FrSub.cons rfl (by first | rfl | ((try dsimp only); congr 1; omega) | exact congrArg (Value.int _) (by (try dsimp only); omega)) (FrSub.cons rfl (by first | rfl | ((try dsimp only); congr 1; omega) | exact congrArg (Value.int _) (by (try dsimp only); omega)) (FrSub.cons rfl (by first | rfl | ((try dsimp only); congr 1; omega) | exact congrArg (Value.int _) (by (try dsimp only); omega)) (FrSub.cons rfl (by first | rfl | ((try dsimp only); congr 1; omega) | exact congrArg (Value.int _) (by (try dsimp only); omega)) (FrSub.cons rfl (by first | rfl | ((try dsimp only); congr 1; omega) | exact congrArg (Value.int _) (by (try dsimp only); omega)) (FrSub.cons rfl (by first | rfl | ((try dsimp only); congr 1; omega) | exact congrArg (Value.int _) (by (try dsimp only); omega)) (FrSub.cons rfl (by first | rfl | ((try dsimp only); congr 1; omega) | exact congrArg (Value.int _) (by (try dsimp only); omega)) FrSub.nil))))))))) (by first | exact (by omega) | (dsimp only; exact (by omega)))
      · intro s r hp
        have hp2 : a ≤ s ∧ s ≤ r ∧ r ≤ m ∧ r ≤ mid ∧ mid + m ≤ s + b := by omega
        refine JC_seq ?_
        refine JC_region ?_
        refine JL_R rfl (R_move rfl) ?_
        first
          | refine JL_R rfl ((R_sub rfl rfl).eq (i64_in (by omega))) ?_
          | refine JL_R rfl (R_sub rfl rfl) ?_
        refine JL_R rfl (R_assign rfl) ?_
        refine JL_nil ?_
        refine JQ_then ?_
        refine JC_seq ?_
        refine JC_block ?_
        refine JC_loop2 (kp := [(0, _), (1, _), (2, _), (3, _), (4, _), (18, _), (19, _), (22, _)]) (fun (u : Nat) (v : Nat) => s ≤ u ∧ u ≤ v ∧ v ≤ r ∧ (u = s ∨ key ((P ++ (L ++ (R ++ S))).getD (u - 1) Item.zero) ≤ key ((P ++ (L ++ (R ++ S))).getD (mid + m - u) Item.zero)) ∧ (v = r ∨ key ((P ++ (L ++ (R ++ S))).getD (mid + m - 1 - v) Item.zero) < key ((P ++ (L ++ (R ++ S))).getD v Item.zero))) (fun kp_ (u : Nat) (v : Nat) => (20, .int .i64 (u : Int)) :: (21, .int .i64 (v : Int)) :: kp_) (fun rs_ (u : Nat) (v : Nat) => rs_) (fun (u : Nat) (v : Nat) => v - u) (s) (r) (Picks.nil _) (FrSub.cons rfl (by first | rfl | ((try dsimp only); congr 1; omega) | exact congrArg (Value.int _) (by (try dsimp only); omega)) (FrSub.cons rfl (by first | rfl | ((try dsimp only); congr 1; omega) | exact congrArg (Value.int _) (by (try dsimp only); omega)) (FrSub.cons rfl (by first | rfl | ((try dsimp only); congr 1; omega) | exact congrArg (Value.int _) (by (try dsimp only); omega)) (FrSub.cons rfl (by first | rfl | ((try dsimp only); congr 1; omega) | exact congrArg (Value.int _) (by (try dsimp only); omega)) (FrSub.cons rfl (by first | rfl | ((try dsimp only); congr 1; omega) | exact congrArg (Value.int _) (by (try dsimp only); omega)) (FrSub.cons rfl (by first | rfl | ((try dsimp only); congr 1; omega) | exact congrArg (Value.int _) (by (try dsimp only); omega)) (FrSub.cons rfl (by first | rfl | ((try dsimp only); congr 1; omega) | exact congrArg (Value.int _) (by (try dsimp only); omega)) (FrSub.cons rfl (by first | rfl | ((try dsimp only); congr 1; omega) | exact congrArg (Value.int _) (by (try dsimp only); omega)) (FrSub.cons rfl (by first | rfl | ((try dsimp only); congr 1; omega) | exact congrArg (Value.int _) (by (try dsimp only); omega)) (FrSub.cons rfl (by first | rfl | ((try dsimp only); congr 1; omega) | exact congrArg (Value.int _) (by (try dsimp only); omega)) FrSub.nil)))))))))) (fun _ _ _  => rfl) (⟨by omega, by omega, by omega, .inl rfl, .inl rfl⟩) ?_
        rintro u v ⟨h1, h2, h3, h4, h5⟩
        refine JC_seq ?_
        refine JC_seq ?_
        refine JC_region ?_
        refine JL_R rfl (R_move rfl) ?_
        refine JL_R rfl (R_move rfl) ?_
        refine JL_R rfl (R_lt rfl rfl) ?_
        refine JL_nil ?_
        refine JQ_then ?_
        refine JC_cond rfl (fun hc151 => ?_) (fun hc151 => ?_)
        · try simp only [Bool.or_eq_true, Bool.and_eq_true, Bool.or_eq_false_iff, Bool.and_eq_false_iff, decide_eq_true_eq, decide_eq_false_iff_not, Bool.not_eq_true', Bool.not_eq_false', beq_iff_eq] at hc151
          refine JC_skip ?_
          refine JQ_then ?_
          refine JC_block ?_
          refine JC_seq ?_
          refine JC_region ?_
          refine JL_R rfl (R_move rfl) ?_
          refine JL_R rfl (R_move rfl) ?_
          first
            | refine JL_R rfl ((R_add rfl rfl).eq (i64_in (by omega))) ?_
            | refine JL_R rfl (R_add rfl rfl) ?_
          first
            | refine JL_R rfl ((R_conv Try.underlying3 Try.underlying72 rfl).eq (u64_in (by omega))) ?_
            | refine JL_R rfl (R_conv Try.underlying3 Try.underlying72 rfl) ?_
          refine JL_R rfl ((R_shr rfl rfl (by omega)).eq (shr_one rfl)) ?_
          first
            | refine JL_R rfl ((R_conv Try.underlying72 Try.underlying3 rfl).eq (i64_in (by omega))) ?_
            | refine JL_R rfl (R_conv Try.underlying72 Try.underlying3 rfl) ?_
          refine JL_R rfl (R_assign rfl) ?_
          refine JL_nil ?_
          refine JQ_then ?_
          refine JC_seq ?_
          refine JC_draw [] rfl (.take 0 (.take 1 (.take 2 (.take 3 (.take 4 (.take 5 (.take 6 (.take 7 (.take 8 (.take 9 (.take 10 (.exec 11 (.take 12 (.take 13 (.done))))))))))))))) _ (by kernel_rfl) (fun _ h => h) (by repeat (first | with_reducible exact Ret.noP | with_reducible apply NoP.block | with_reducible apply NoP.then)) ?_
          refine JP_R rfl rfl rfl (R_move rfl) ?_
          refine JP_R rfl rfl rfl (R_move rfl) ?_
          refine JP_R rfl rfl rfl (R_move rfl) ?_
          refine JP_R rfl rfl rfl (R_move rfl) ?_
          first
            | refine JP_R rfl rfl rfl ((R_sub rfl rfl).eq (i64_in (by omega))) ?_
            | refine JP_R rfl rfl rfl (R_sub rfl rfl) ?_
          refine JP_R rfl rfl rfl (R_indexE (i := mid + m - 1 - (u + v) / 2) Try.underlying51 ti60 rfl rfl (RngIn.own (List.Mem.head _)) (by omega) (by omega) (by first | (rw [fl_length itemP_len]; omega) | (rw [fl_length itemP_len]; simp only [List.length_set, List.length_drop, List.length_take]; omega) | (simp only [fl_length, bcs_length, List.length_map, List.length_cons]; omega) | omega | (simp [fl_length] <;> omega))) ?_
          refine JP_R rfl rfl rfl (R_elA Item.zero itemP_len Try.underlying60 rfl ti60 (by decide) rfl (RngIn.own (List.Mem.head _)) (by first | omega | (simp only [List.length_drop, List.length_take]; omega) | simpa using by omega)) ?_
          refine JP_R rfl rfl rfl (R_move rfl) ?_
          refine JP_R rfl rfl rfl (R_move rfl) ?_
          refine JP_R rfl rfl rfl (R_indexE (i := (u + v) / 2) Try.underlying51 ti60 rfl rfl (RngIn.own (List.Mem.head _)) (by omega) (by omega) (by first | (rw [fl_length itemP_len]; omega) | (rw [fl_length itemP_len]; simp only [List.length_set, List.length_drop, List.length_take]; omega) | (simp only [fl_length, bcs_length, List.length_map, List.length_cons]; omega) | omega | (simp [fl_length] <;> omega))) ?_
          refine JP_R rfl rfl rfl (R_elA Item.zero itemP_len Try.underlying60 rfl ti60 (by decide) rfl (RngIn.own (List.Mem.head _)) (by first | omega | (simp only [List.length_drop, List.length_take]; omega) | simpa using by omega)) ?_
          refine JP_E rfl rfl (E_callFV ok89 rfl rfl rfl ents_nil (c_before _ _)) ?_
          rintro _ _ ⟨rfl, rfl⟩
          refine JPn_all (fun _ h => h) ?_
          refine JP_R rfl rfl rfl (R_lt rfl rfl) ?_
          refine JP_R rfl rfl rfl (R_not rfl) ?_
          refine JP_done ?_
          refine JQ_then ?_
          refine JC_cond rfl (fun hc171 => ?_) (fun hc171 => ?_)
          · rw [ncmp_neg] at hc171; simp only [Bool.not_eq_true', Bool.not_eq_false', decide_eq_true_eq, decide_eq_false_iff_not] at hc171
            refine JC_region ?_
            refine JL_R rfl (R_move rfl) ?_
            first
              | refine JL_R rfl ((R_add rfl rfl).eq (i64_in (by omega))) ?_
              | refine JL_R rfl (R_add rfl rfl) ?_
            refine JL_R rfl (R_assign rfl) ?_
            refine JL_nil ?_
            refine JQ_block ?_
            refine JQ_nxt2 ((u + v) / 2 + 1) (v) (Picks.cons (Pick.here _ _) (Picks.nil _)) (FrSub.cons rfl (by first | rfl | ((try dsimp only); congr 1; omega) | exact congrArg (Value.int _) (by (try dsimp only); omega)) (FrSub.cons rfl (by first | rfl | ((try dsimp only); congr 1; omega) | exact congrArg (Value.int _) (by (try dsimp only); omega)) (FrSub.cons rfl (by first | rfl | ((try dsimp only); congr 1; omega) | exact congrArg (Value.int _) (by (try dsimp only); omega)) (FrSub.cons rfl (by first | rfl | ((try dsimp only); congr 1; omega) | exact congrArg (Value.int _) (by (try dsimp only); omega)) (FrSub.cons rfl (by first | rfl | ((try dsimp only); congr 1; omega) | exact congrArg (Value.int _) (by (try dsimp only); omega)) (FrSub.cons rfl (by first | rfl | ((try dsimp only); congr 1; omega) | exact congrArg (Value.int _) (by (try dsimp only); omega)) (FrSub.cons rfl (by first | rfl | ((try dsimp only); congr 1; omega) | exact congrArg (Value.int _) (by (try dsimp only); omega)) (FrSub.cons rfl (by first | rfl | ((try dsimp only); congr 1; omega) | exact congrArg (Value.int _) (by (try dsimp only); omega)) (FrSub.cons rfl (by first | rfl | ((try dsimp only); congr 1; omega) | exact congrArg (Value.int _) (by (try dsimp only); omega)) (FrSub.cons rfl (by first | rfl | ((try dsimp only); congr 1; omega) | exact congrArg (Value.int _) (by (try dsimp only); omega)) FrSub.nil)))))))))) (by (try dsimp only); omega) (by first | exact ⟨by omega, by omega, by omega, .inr (by rw [Nat.add_sub_cancel, show mid + m - ((u + v) / 2 + 1) = mid + m - 1 - (u + v) / 2 by omega]; omega), h5⟩ | (dsimp only; exact ⟨by omega, by omega, by omega, .inr (by rw [Nat.add_sub_cancel, show mid + m - ((u + v) / 2 + 1) = mid + m - 1 - (u + v) / 2 by omega]; omega), h5⟩))
          · rw [ncmp_neg] at hc171; simp only [Bool.not_eq_true', Bool.not_eq_false', decide_eq_true_eq, decide_eq_false_iff_not] at hc171
            refine JC_region ?_
            refine JL_R rfl (R_move rfl) ?_
            refine JL_R rfl (R_assign rfl) ?_
            refine JL_nil ?_
            refine JQ_block ?_
            refine JQ_nxt2 (u) ((u + v) / 2) (Picks.cons (Pick.here _ _) (Picks.nil _)) (FrSub.cons rfl (by first | rfl | ((try dsimp only); congr 1; omega) | exact congrArg (Value.int _) (by (try dsimp only); omega)) (FrSub.cons rfl (by first | rfl | ((try dsimp only); congr 1; omega) | exact congrArg (Value.int _) (by (try dsimp only); omega)) (FrSub.cons rfl (by first | rfl | ((try dsimp only); congr 1; omega) | exact congrArg (Value.int _) (by (try dsimp only); omega)) (FrSub.cons rfl (by first | rfl | ((try dsimp only); congr 1; omega) | exact congrArg (Value.int _) (by (try dsimp only); omega)) (FrSub.cons rfl (by first | rfl | ((try dsimp only); congr 1; omega) | exact congrArg (Value.int _) (by (try dsimp only); omega)) (FrSub.cons rfl (by first | rfl | ((try dsimp only); congr 1; omega) | exact congrArg (Value.int _) (by (try dsimp only); omega)) (FrSub.cons rfl (by first | rfl | ((try dsimp only); congr 1; omega) | exact congrArg (Value.int _) (by (try dsimp only); omega)) (FrSub.cons rfl (by first | rfl | ((try dsimp only); congr 1; omega) | exact congrArg (Value.int _) (by (try dsimp only); omega)) (FrSub.cons rfl (by first | rfl | ((try dsimp only); congr 1; omega) | exact congrArg (Value.int _) (by (try dsimp only); omega)) (FrSub.cons rfl (by first | rfl | ((try dsimp only); congr 1; omega) | exact congrArg (Value.int _) (by (try dsimp only); omega)) FrSub.nil)))))))))) (by (try dsimp only); omega) (by first | exact ⟨by omega, by omega, by omega, h4, .inr hc171⟩ | (dsimp only; exact ⟨by omega, by omega, by omega, h4, .inr hc171⟩))
        · try simp only [Bool.or_eq_true, Bool.and_eq_true, Bool.or_eq_false_iff, Bool.and_eq_false_iff, decide_eq_true_eq, decide_eq_false_iff_not, Bool.not_eq_true', Bool.not_eq_false', beq_iff_eq] at hc151
          refine JC_exit ?_
          refine JQ_then_exit ?_
          refine JQ_then_exit ?_
          refine JQ_block_exit ?_
          refine JQ_then ?_
          refine JC_seq ?_
          obtain rfl : u = v := by omega
          have hu : u ≤ mid ∧ u ≤ m ∧ a ≤ u ∧ mid + m ≤ u + b := by omega
          refine JC_region ?_
          refine JL_R rfl (R_move rfl) ?_
          refine JL_R rfl (R_move rfl) ?_
          first
            | refine JL_R rfl ((R_sub rfl rfl).eq (i64_in (by omega))) ?_
            | refine JL_R rfl (R_sub rfl rfl) ?_
          refine JL_R rfl (R_assign rfl) ?_
          refine JL_nil ?_
          refine JQ_then ?_
          refine JC_cut1 (kp := [(0, _), (1, _), (2, _), (3, _), (4, _), (18, _), (20, _), (24, _)]) (fun (cur : List Item) => cur = P ++ (L.take (u - a) ++ (R.take (mid - u) ++ (L.drop (u - a) ++ (R.drop (mid - u) ++ S))))) (fun kp_ (cur : List Item) => kp_) (fun rs_ (cur : List Item) => Atom.own 60 64 (.slice A n c) n (fl iL (cur)) :: rs_) (Picks.cons (Pick.here _ _) (Picks.nil _)) (FrSub.cons rfl (by first | rfl | ((try dsimp only); congr 1; omega) | exact congrArg (Value.int _) (by (try dsimp only); omega)) (FrSub.cons rfl (by first | rfl | ((try dsimp only); congr 1; omega) | exact congrArg (Value.int _) (by (try dsimp only); omega)) (FrSub.cons rfl (by first | rfl | ((try dsimp only); congr 1; omega) | exact congrArg (Value.int _) (by (try dsimp only); omega)) (FrSub.cons rfl (by first | rfl | ((try dsimp only); congr 1; omega) | exact congrArg (Value.int _) (by (try dsimp only); omega)) (FrSub.cons rfl (by first | rfl | ((try dsimp only); congr 1; omega) | exact congrArg (Value.int _) (by (try dsimp only); omega)) (FrSub.cons rfl (by first | rfl | ((try dsimp only); congr 1; omega) | exact congrArg (Value.int _) (by (try dsimp only); omega)) (FrSub.cons rfl (by first | rfl | ((try dsimp only); congr 1; omega) | exact congrArg (Value.int _) (by (try dsimp only); omega)) (FrSub.cons rfl (by first | rfl | ((try dsimp only); congr 1; omega) | exact congrArg (Value.int _) (by (try dsimp only); omega)) FrSub.nil)))))))) ?_ ?_
          · skip
            refine JC_seq ?_
            refine JC_region ?_
            refine JL_R rfl (R_move rfl) ?_
            refine JL_R rfl (R_move rfl) ?_
            refine JL_R rfl (R_lt rfl rfl) ?_
            refine JL_R rfl (R_move rfl) ?_
            first
              | refine JL_RS rfl rfl rfl (fun hg => R_move rfl) ?_
            first
              | refine JL_RS rfl rfl rfl (fun hg => R_move rfl) ?_
            first
              | refine JL_RS rfl rfl rfl (fun hg => R_lt (gv_yes hg rfl) (gv_yes hg rfl)) ?_
            refine JL_R rfl (R_pick_andG rfl rfl) ?_
            refine JL_nil ?_
            refine JQ_then ?_
            refine JC_cond rfl (fun hc185 => ?_) (fun hc185 => ?_)
            · try simp only [Bool.or_eq_true, Bool.and_eq_true, Bool.or_eq_false_iff, Bool.and_eq_false_iff, decide_eq_true_eq, decide_eq_false_iff_not, Bool.not_eq_true', Bool.not_eq_false', beq_iff_eq] at hc185
              refine JC_region ?_
              refine JL_R rfl (R_move rfl) ?_
              refine JL_R rfl (R_move rfl) ?_
              refine JL_R rfl (R_move rfl) ?_
              refine JL_R rfl (R_move rfl) ?_
              refine JL_R rfl (R_move rfl) ?_
              refine JL_E rfl (E_callT ok168 rfl (Pick.here _ _) rfl ents_nil (c_rot A n c (P ++ (L.take (u - a) ++ (R.take (mid - u) ++ (L.drop (u - a) ++ (R.drop (mid - u) ++ S))))) (P ++ (L ++ (R ++ S))) u m (mid + m - u) _ _ _ rfl rfl (by omega) hX hN (rot_cut ha hm hb (by omega) (by omega) (by omega) (by omega)))) ?_
              rintro _ _ ⟨_, rfl, rfl, rfl⟩
              refine JL_nil ?_
              refine JQ_mid1 (_) (Picks.cons (Pick.here _ _) (Picks.nil _)) (FrSub.cons rfl (by first | rfl | ((try dsimp only); congr 1; omega) | exact congrArg (Value.int _) (by (try dsimp only); omega)) (FrSub.cons rfl (by first | rfl | ((try dsimp only); congr 1; omega) | exact congrArg (Value.int _) (by (try dsimp only); omega)) (FrSub.cons rfl (by first | rfl | ((try dsimp only); congr 1; omega) | exact congrArg (Value.int _) (by (try dsimp only); omega)) (FrSub.cons rfl (by first | rfl | ((try dsimp only); congr 1; omega) | exact congrArg (Value.int _) (by (try dsimp only); omega)) (FrSub.cons rfl (by first | rfl | ((try dsimp only); congr 1; omega) | exact congrArg (Value.int _) (by (try dsimp only); omega)) (FrSub.cons rfl (by first | rfl | ((try dsimp only); congr 1; omega) | exact congrArg (Value.int _) (by (try dsimp only); omega)) (FrSub.cons rfl (by first | rfl | ((try dsimp only); congr 1; omega) | exact congrArg (Value.int _) (by (try dsimp only); omega)) (FrSub.cons rfl (by first | rfl | ((try dsimp only); congr 1; omega) | exact congrArg (Value.int _) (by (try dsimp only); omega)) FrSub.nil)))))))) (by first | exact rfl | (dsimp only; exact rfl))
            · try simp only [Bool.or_eq_true, Bool.and_eq_true, Bool.or_eq_false_iff, Bool.and_eq_false_iff, decide_eq_true_eq, decide_eq_false_iff_not, Bool.not_eq_true', Bool.not_eq_false', beq_iff_eq] at hc185
              refine JC_skip ?_
              refine JQ_mid1 (_) (Picks.cons (Pick.here _ _) (Picks.nil _)) (FrSub.cons rfl (by first | rfl | ((try dsimp only); congr 1; omega) | exact congrArg (Value.int _) (by (try dsimp only); omega)) (FrSub.cons rfl (by first | rfl | ((try dsimp only); congr 1; omega) | exact congrArg (Value.int _) (by (try dsimp only); omega)) (FrSub.cons rfl (by first | rfl | ((try dsimp only); congr 1; omega) | exact congrArg (Value.int _) (by (try dsimp only); omega)) (FrSub.cons rfl (by first | rfl | ((try dsimp only); congr 1; omega) | exact congrArg (Value.int _) (by (try dsimp only); omega)) (FrSub.cons rfl (by first | rfl | ((try dsimp only); congr 1; omega) | exact congrArg (Value.int _) (by (try dsimp only); omega)) (FrSub.cons rfl (by first | rfl | ((try dsimp only); congr 1; omega) | exact congrArg (Value.int _) (by (try dsimp only); omega)) (FrSub.cons rfl (by first | rfl | ((try dsimp only); congr 1; omega) | exact congrArg (Value.int _) (by (try dsimp only); omega)) (FrSub.cons rfl (by first | rfl | ((try dsimp only); congr 1; omega) | exact congrArg (Value.int _) (by (try dsimp only); omega)) FrSub.nil)))))))) (by first | exact cut_none hm hb hu.2.2.1 hu.2.1 hu.1 hu.2.2.2 (by omega) | (dsimp only; exact cut_none hm hb hu.2.2.1 hu.2.1 hu.1 hu.2.2.2 (by omega)))
          · rintro cur rfl
            refine JC_cut1 (kp := [(0, _), (1, _), (2, _), (3, _), (4, _), (18, _), (20, _), (24, _)]) (fun (M1 : List Item) => SS key M1 (L.take (u - a) ++ R.take (mid - u))) (fun kp_ (M1 : List Item) => kp_) (fun rs_ (M1 : List Item) => Atom.own 60 64 (.slice A n c) n (fl iL (P ++ (M1 ++ (L.drop (u - a) ++ (R.drop (mid - u) ++ S))))) :: rs_) (Picks.cons (Pick.here _ _) (Picks.nil _)) (FrSub.cons rfl (by first | rfl | ((try dsimp only); congr 1; omega) | exact congrArg (Value.int _) (by (try dsimp only); omega)) (FrSub.cons rfl (by first | rfl | ((try dsimp only); congr 1; omega) | exact congrArg (Value.int _) (by (try dsimp only); omega)) (FrSub.cons rfl (by first | rfl | ((try dsimp only); congr 1; omega) | exact congrArg (Value.int _) (by (try dsimp only); omega)) (FrSub.cons rfl (by first | rfl | ((try dsimp only); congr 1; omega) | exact congrArg (Value.int _) (by (try dsimp only); omega)) (FrSub.cons rfl (by first | rfl | ((try dsimp only); congr 1; omega) | exact congrArg (Value.int _) (by (try dsimp only); omega)) (FrSub.cons rfl (by first | rfl | ((try dsimp only); congr 1; omega) | exact congrArg (Value.int _) (by (try dsimp only); omega)) (FrSub.cons rfl (by first | rfl | ((try dsimp only); congr 1; omega) | exact congrArg (Value.int _) (by (try dsimp only); omega)) (FrSub.cons rfl (by first | rfl | ((try dsimp only); congr 1; omega) | exact congrArg (Value.int _) (by (try dsimp only); omega)) FrSub.nil)))))))) ?_ ?_
            · skip
              refine JC_seq ?_
              refine JC_region ?_
              refine JL_R rfl (R_move rfl) ?_
              refine JL_R rfl (R_move rfl) ?_
              refine JL_R rfl (R_lt rfl rfl) ?_
              refine JL_R rfl (R_move rfl) ?_
              first
                | refine JL_RS rfl rfl rfl (fun hg => R_move rfl) ?_
              first
                | refine JL_RS rfl rfl rfl (fun hg => R_move rfl) ?_
              first
                | refine JL_RS rfl rfl rfl (fun hg => R_lt (gv_yes hg rfl) (gv_yes hg rfl)) ?_
              refine JL_R rfl (R_pick_andG rfl rfl) ?_
              refine JL_nil ?_
              refine JQ_then ?_
              refine JC_cond rfl (fun hc199 => ?_) (fun hc199 => ?_)
              · try simp only [Bool.or_eq_true, Bool.and_eq_true, Bool.or_eq_false_iff, Bool.and_eq_false_iff, decide_eq_true_eq, decide_eq_false_iff_not, Bool.not_eq_true', Bool.not_eq_false', beq_iff_eq] at hc199
                refine JC_region ?_
                refine JL_R rfl (R_move rfl) ?_
                refine JL_R rfl (R_move rfl) ?_
                refine JL_R rfl (R_move rfl) ?_
                refine JL_R rfl (R_move rfl) ?_
                refine JL_R rfl (R_move rfl) ?_
                refine JL_E rfl (E_callT ok155 rfl (Pick.here _ _) rfl ents_nil (ih P (L.take (u - a)) (R.take (mid - u)) (L.drop (u - a) ++ (R.drop (mid - u) ++ S)) a u mid _ _ _ rfl rfl rfl ha (by simp <;> omega) (by simp <;> omega) (by simp <;> omega) (by simp <;> omega) (by simp <;> omega) (srt_take key hL _) (srt_take key hR _) (by omega))) ?_
                rintro _ _ ⟨_, ⟨_, rfl, M1, rfl, hM1⟩, rfl, rfl⟩
                refine JL_nil ?_
                skip
                refine JQ_mid1 (_) (Picks.cons (Pick.here _ _) (Picks.nil _)) (FrSub.cons rfl (by first | rfl | ((try dsimp only); congr 1; omega) | exact congrArg (Value.int _) (by (try dsimp only); omega)) (FrSub.cons rfl (by first | rfl | ((try dsimp only); congr 1; omega) | exact congrArg (Value.int _) (by (try dsimp only); omega)) (FrSub.cons rfl (by first | rfl | ((try dsimp only); congr 1; omega) | exact congrArg (Value.int _) (by (try dsimp only); omega)) (FrSub.cons rfl (by first | rfl | ((try dsimp only); congr 1; omega) | exact congrArg (Value.int _) (by (try dsimp only); omega)) (FrSub.cons rfl (by first | rfl | ((try dsimp only); congr 1; omega) | exact congrArg (Value.int _) (by (try dsimp only); omega)) (FrSub.cons rfl (by first | rfl | ((try dsimp only); congr 1; omega) | exact congrArg (Value.int _) (by (try dsimp only); omega)) (FrSub.cons rfl (by first | rfl | ((try dsimp only); congr 1; omega) | exact congrArg (Value.int _) (by (try dsimp only); omega)) (FrSub.cons rfl (by first | rfl | ((try dsimp only); congr 1; omega) | exact congrArg (Value.int _) (by (try dsimp only); omega)) FrSub.nil)))))))) (by first | exact hM1 | (dsimp only; exact hM1))
              · try simp only [Bool.or_eq_true, Bool.and_eq_true, Bool.or_eq_false_iff, Bool.and_eq_false_iff, decide_eq_true_eq, decide_eq_false_iff_not, Bool.not_eq_true', Bool.not_eq_false', beq_iff_eq] at hc199
                refine JC_skip ?_
                refine JQ_conv (y := Atom.own 60 64 (.slice A n c) n (fl iL (P ++ ((L.take (u - a) ++ R.take (mid - u)) ++ (L.drop (u - a) ++ (R.drop (mid - u) ++ S)))))) (Pick.here _ _) (by simp only [List.append_assoc]) ?_
                refine JQ_mid1 (_) (Picks.cons (Pick.here _ _) (Picks.nil _)) (FrSub.cons rfl (by first | rfl | ((try dsimp only); congr 1; omega) | exact congrArg (Value.int _) (by (try dsimp only); omega)) (FrSub.cons rfl (by first | rfl | ((try dsimp only); congr 1; omega) | exact congrArg (Value.int _) (by (try dsimp only); omega)) (FrSub.cons rfl (by first | rfl | ((try dsimp only); congr 1; omega) | exact congrArg (Value.int _) (by (try dsimp only); omega)) (FrSub.cons rfl (by first | rfl | ((try dsimp only); congr 1; omega) | exact congrArg (Value.int _) (by (try dsimp only); omega)) (FrSub.cons rfl (by first | rfl | ((try dsimp only); congr 1; omega) | exact congrArg (Value.int _) (by (try dsimp only); omega)) (FrSub.cons rfl (by first | rfl | ((try dsimp only); congr 1; omega) | exact congrArg (Value.int _) (by (try dsimp only); omega)) (FrSub.cons rfl (by first | rfl | ((try dsimp only); congr 1; omega) | exact congrArg (Value.int _) (by (try dsimp only); omega)) (FrSub.cons rfl (by first | rfl | ((try dsimp only); congr 1; omega) | exact congrArg (Value.int _) (by (try dsimp only); omega)) FrSub.nil)))))))) (by first | exact SS.sorted key (srt_nil1 key (srt_take key hL _) (srt_take key hR _) (by simp <;> omega)) | (dsimp only; exact SS.sorted key (srt_nil1 key (srt_take key hL _) (srt_take key hR _) (by simp <;> omega))))
            · intro M1 hM1
              refine JC_seq ?_
              refine JC_region ?_
              refine JL_R rfl (R_move rfl) ?_
              refine JL_R rfl (R_move rfl) ?_
              refine JL_R rfl (R_lt rfl rfl) ?_
              refine JL_R rfl (R_move rfl) ?_
              first
                | refine JL_RS rfl rfl rfl (fun hg => R_move rfl) ?_
              first
                | refine JL_RS rfl rfl rfl (fun hg => R_move rfl) ?_
              first
                | refine JL_RS rfl rfl rfl (fun hg => R_lt (gv_yes hg rfl) (gv_yes hg rfl)) ?_
              refine JL_R rfl (R_pick_andG rfl rfl) ?_
              refine JL_nil ?_
              refine JQ_then ?_
              refine JC_cond rfl (fun hc213 => ?_) (fun hc213 => ?_)
              · try simp only [Bool.or_eq_true, Bool.and_eq_true, Bool.or_eq_false_iff, Bool.and_eq_false_iff, decide_eq_true_eq, decide_eq_false_iff_not, Bool.not_eq_true', Bool.not_eq_false', beq_iff_eq] at hc213
                refine JC_conv (y := Atom.own 60 64 (.slice A n c) n (fl iL ((P ++ M1) ++ (L.drop (u - a) ++ (R.drop (mid - u) ++ S))))) (Pick.here _ _) (by simp only [List.append_assoc]) ?_
                refine JC_region ?_
                refine JL_R rfl (R_move rfl) ?_
                refine JL_R rfl (R_move rfl) ?_
                refine JL_R rfl (R_move rfl) ?_
                refine JL_R rfl (R_move rfl) ?_
                refine JL_R rfl (R_move rfl) ?_
                refine JL_E rfl (E_callT ok155 rfl (Pick.here _ _) rfl ents_nil (ih (P ++ M1) (L.drop (u - a)) (R.drop (mid - u)) S mid (mid + m - u) b _ _ _ rfl (by omega) rfl (by have := hM1.2.1; simp at this; simp; omega) (by simp <;> omega) (by simp <;> omega) (by omega) (by simp <;> omega) (by simp <;> omega) (srt_drop key hL _) (srt_drop key hR _) (by omega))) ?_
                rintro _ _ ⟨_, ⟨_, rfl, M2, rfl, hM2⟩, rfl, rfl⟩
                refine JL_nil ?_
                refine end_of_ret ?_
                have g1 := mrg_h1 key Item.zero (S := S) ha hm hb hL hR (s := u) (e := mid + m - u) (by omega) (by omega) (by omega)
                have g2 := mrg_h2 key Item.zero (S := S) ha hm hb hL hR (s := u) (e := mid + m - u) (by omega) (by omega) (by rw [show mid + m - u - 1 = mid + m - 1 - u by omega]; omega)
                rw [show mid + m - u - m = mid - u by omega] at g1 g2
                have g3 := merge_cut key (by rw [List.take_append_drop]; exact hL) (by rw [List.take_append_drop]; exact hR) g1 g2 hM1 hM2
                rw [List.take_append_drop, List.take_append_drop] at g3
                exact ret0 Try.results155 ⟨rfl, _, ⟨_, rfl, M1 ++ M2, by simp only [List.append_assoc], g3⟩, rfl⟩ (Picks.cons (Pick.here _ _) (Picks.nil _)) rfl
              · try simp only [Bool.or_eq_true, Bool.and_eq_true, Bool.or_eq_false_iff, Bool.and_eq_false_iff, decide_eq_true_eq, decide_eq_false_iff_not, Bool.not_eq_true', Bool.not_eq_false', beq_iff_eq] at hc213
                refine JC_skip ?_
                refine end_of_ret ?_
                have g1 := mrg_h1 key Item.zero (S := S) ha hm hb hL hR (s := u) (e := mid + m - u) (by omega) (by omega) (by omega)
                have g2 := mrg_h2 key Item.zero (S := S) ha hm hb hL hR (s := u) (e := mid + m - u) (by omega) (by omega) (by rw [show mid + m - u - 1 = mid + m - 1 - u by omega]; omega)
                rw [show mid + m - u - m = mid - u by omega] at g1 g2
                refine JQ_conv (y := Atom.own 60 64 (.slice A n c) n (fl iL ((P ++ M1) ++ ((L.drop (u - a) ++ R.drop (mid - u)) ++ S)))) (Pick.here _ _) (by simp only [List.append_assoc]) ?_
                have hM2 : SS key (L.drop (u - a) ++ R.drop (mid - u)) (L.drop (u - a) ++ R.drop (mid - u)) := SS.sorted key (srt_nil1 key (srt_drop key hL _) (srt_drop key hR _) (by simp <;> omega))
                have g3 := merge_cut key (by rw [List.take_append_drop]; exact hL) (by rw [List.take_append_drop]; exact hR) g1 g2 hM1 hM2
                rw [List.take_append_drop, List.take_append_drop] at g3
                exact ret0 Try.results155 ⟨rfl, _, ⟨_, rfl, M1 ++ (L.drop (u - a) ++ R.drop (mid - u)), by simp only [List.append_assoc], g3⟩, rfl⟩ (Picks.cons (Pick.here _ _) (Picks.nil _)) rfl
end Go.Proofs.Ytkckakfkeooepaa
