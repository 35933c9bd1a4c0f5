/- Package slices, of items: exchanges, rotations, insertion. -/
import Derived.Test.YtkckakfkeooepaaJTree3
namespace Go.Proofs.Ytkckakfkeooepaa
set_option linter.all false
set_option linter.unusedSimpArgs false
set_option linter.unusedVariables false
set_option linter.unnecessarySimpa false
open Go.RowKit
set_option maxRecDepth 100000 in
set_option maxHeartbeats 1000000 in
theorem c_swap (A : Option Addr) (n c : Nat) (xs : List Item) (a b k : Nat) (a1 b1 k1 : Int) (ea : a1 = a) (eb : b1 = b) (ek : k1 = k) (hl : xs.length = n) (hN : n ≤ 1000000) (h1 : a + k ≤ b) (h2 : b + k ≤ n) : CT Try.prog 172 [.slice A n c, .int .i64 a1, .int .i64 b1, .int .i64 k1, .func (.func 89) #[] #[]] [Atom.own 60 64 (.slice A n c) n (fl iL (xs))] [] (pT fun y => ∃ ys, y = Atom.own 60 64 (.slice A n c) n (fl iL (ys)) ∧ Swp xs a b k ys) := by
  refine CT_of Try.func172 rfl Try.ntmps172 rfl (fun w0 => ?_)
  subst ea eb ek
  refine JC_seq ?_
  refine JC_region ?_
  refine JL_R rfl (R_assign rfl) ?_
  refine JL_nil ?_
  refine JQ_then ?_
  refine JC_block ?_
  refine JC_loop2 (kp := [(0, _), (1, _), (2, _), (3, _)]) (fun (i : Nat) (cur : List Item) => i ≤ k ∧ cur.length = n ∧ Swp xs a b i cur) (fun kp_ (i : Nat) (cur : List Item) => (10, .int .i64 (i : Int)) :: kp_) (fun rs_ (i : Nat) (cur : List Item) => Atom.own 60 64 (.slice A n c) n (fl iL (cur)) :: rs_) (fun (i : Nat) (cur : List Item) => k - i) (0) (xs) (Picks.cons (Pick.here _ _) (Picks.nil _)) (FrSub.cons rfl (by first | rfl | ((try dsimp only); congr 1; omega) | exact congrArg (Value.int _) (by (try dsimp only); omega)) (FrSub.cons rfl (by first | rfl | ((try dsimp only); congr 1; omega) | exact congrArg (Value.int _) (by (try dsimp only); omega)) (FrSub.cons rfl (by first | rfl | ((try dsimp only); congr 1; omega) | exact congrArg (Value.int _) (by (try dsimp only); omega)) (FrSub.cons rfl (by first | rfl | ((try dsimp only); congr 1; omega) | exact congrArg (Value.int _) (by (try dsimp only); omega)) (FrSub.cons rfl (by first | rfl | ((try dsimp only); congr 1; omega) | exact congrArg (Value.int _) (by (try dsimp only); omega)) FrSub.nil))))) (fun _ _ _  => rfl) (⟨by omega, hl, Swp.zero xs a b⟩) ?_
  rintro i cur ⟨h3, h4, h5⟩
  refine JC_seq ?_
  refine JC_seq ?_
  refine JC_region ?_
  refine JL_R rfl (R_move rfl) ?_
  refine JL_R rfl (R_move rfl) ?_
  refine JL_R rfl (R_lt rfl rfl) ?_
  refine JL_nil ?_
  refine JQ_then ?_
  refine JC_cond rfl (fun hc13 => ?_) (fun hc13 => ?_)
  · try simp only [Bool.or_eq_true, Bool.and_eq_true, Bool.or_eq_false_iff, Bool.and_eq_false_iff, decide_eq_true_eq, decide_eq_false_iff_not, Bool.not_eq_true', Bool.not_eq_false', beq_iff_eq] at hc13
    refine JC_skip ?_
    refine JQ_then ?_
    refine JC_seq ?_
    refine JC_block ?_
    refine JC_draw [4, 5, 6, 7, 14, 15, 16, 17] rfl (.take 0 (.take 1 (.take 2 (.take 3 (.take 4 (.take 5 (.take 6 (.take 7 (.take 8 (.take 9 (.take 10 (.take 11 (.take 12 (.take 13 (.take 14 (.take 15 (.take 16 (.take 17 (.take 18 (.take 19 (.take 20 (.exec 21 (.take 22 (.exec 23 (.done))))))))))))))))))))))))) _ (by kernel_rfl) (fun _ h => h) (by repeat (first | with_reducible exact Ret.noP | with_reducible apply NoP.block | with_reducible apply NoP.then)) ?_
    refine JP_R rfl rfl rfl (R_move rfl) ?_
    refine JP_R rfl rfl rfl (R_move rfl) ?_
    refine JP_R rfl rfl rfl (R_move rfl) ?_
    first
      | refine JP_R rfl rfl rfl ((R_add rfl rfl).eq (i64_in (by omega))) ?_
      | refine JP_R rfl rfl rfl (R_add rfl rfl) ?_
    refine JP_RQ rfl rfl (R_move rfl) ?_
    refine JP_RQ rfl rfl (R_move rfl) ?_
    refine JP_RQ rfl rfl (R_move rfl) ?_
    first
      | refine JP_RQ rfl rfl ((R_add rfl rfl).eq (i64_in (by omega))) ?_
      | refine JP_RQ rfl rfl (R_add rfl rfl) ?_
    refine JP_R rfl rfl rfl (R_move rfl) ?_
    refine JP_R rfl rfl rfl (R_move rfl) ?_
    refine JP_R rfl rfl rfl (R_move rfl) ?_
    first
      | refine JP_R rfl rfl rfl ((R_add rfl rfl).eq (i64_in (by omega))) ?_
      | refine JP_R rfl rfl rfl (R_add rfl rfl) ?_
    refine JP_R rfl rfl rfl (R_indexE (i := b + i) Try.underlying51 ti60 rfl rfl (RngIn.own (List.Mem.head _)) (by omega) (by omega) (by first | (rw [fl_length itemP_len]; omega) | (rw [fl_length itemP_len]; simp only [List.length_set, List.length_drop, List.length_take]; omega) | (simp only [fl_length, bcs_length, List.length_map, List.length_cons]; omega) | omega | (simp [fl_length] <;> omega))) ?_
    refine JP_R rfl rfl rfl (R_elA Item.zero itemP_len Try.underlying60 rfl ti60 (by decide) rfl (RngIn.own (List.Mem.head _)) (by first | omega | (simp only [List.length_drop, List.length_take]; omega) | simpa using by omega)) ?_
    refine JP_RQ rfl rfl (R_move rfl) ?_
    refine JP_RQ rfl rfl (R_move rfl) ?_
    refine JP_RQ rfl rfl (R_move rfl) ?_
    first
      | refine JP_RQ rfl rfl ((R_add rfl rfl).eq (i64_in (by omega))) ?_
      | refine JP_RQ rfl rfl (R_add rfl rfl) ?_
    refine JP_R rfl rfl rfl (R_indexE (i := a + i) Try.underlying51 ti60 rfl rfl (RngIn.own (List.Mem.head _)) (by omega) (by omega) (by first | (rw [fl_length itemP_len]; omega) | (rw [fl_length itemP_len]; simp only [List.length_set, List.length_drop, List.length_take]; omega) | (simp only [fl_length, bcs_length, List.length_map, List.length_cons]; omega) | omega | (simp [fl_length] <;> omega))) ?_
    refine JP_R rfl rfl rfl (R_elA Item.zero itemP_len Try.underlying60 rfl ti60 (by decide) rfl (RngIn.own (List.Mem.head _)) (by first | omega | (simp only [List.length_drop, List.length_take]; omega) | simpa using by omega)) ?_
    refine JP_R rfl rfl rfl (R_indexE (i := a + i) Try.underlying51 ti60 rfl rfl (RngIn.own (List.Mem.head _)) (by omega) (by omega) (by first | (rw [fl_length itemP_len]; omega) | (rw [fl_length itemP_len]; simp only [List.length_set, List.length_drop, List.length_take]; omega) | (simp only [fl_length, bcs_length, List.length_map, List.length_cons]; omega) | omega | (simp [fl_length] <;> omega))) ?_
    refine JP_E0 rfl (E_storeEl itemP_len itemP_ones ti60 rfl rfl (Pick.here _ _) (by decide) (by first | omega | (simp; omega))) ?_
    rintro _ _ ⟨rfl, rfl⟩
    refine JPn_bar (by kernel_rfl) ?_
    refine JP_R rfl rfl rfl (R_indexE (i := b + i) Try.underlying51 ti60 rfl rfl (RngIn.own (List.Mem.head _)) (by omega) (by omega) (by first | (rw [fl_length itemP_len]; omega) | (rw [fl_length itemP_len]; simp only [List.length_set, List.length_drop, List.length_take]; omega) | (simp only [fl_length, bcs_length, List.length_map, List.length_cons]; omega) | omega | (simp [fl_length] <;> omega))) ?_
    refine JP_E0 rfl (E_storeEl itemP_len itemP_ones ti60 rfl rfl (Pick.here _ _) (by decide) (by first | omega | (simp; omega))) ?_
    rintro _ _ ⟨rfl, rfl⟩
    refine JPn_bar (by kernel_rfl) ?_
    refine JP_done ?_
    refine JQ_block ?_
    refine JQ_then ?_
    refine JC_region ?_
    refine JL_R rfl (R_move rfl) ?_
    first
      | refine JL_R rfl ((R_add rfl rfl).eq (i64_in (by omega))) ?_
      | refine JL_R rfl (R_add rfl rfl) ?_
    refine JL_R rfl (R_assign rfl) ?_
    refine JL_nil ?_
    refine JQ_nxt2 (i + 1) (sw Item.zero cur (a + i) (b + i)) (Picks.cons (Pick.here _ _) (Picks.nil _)) (FrSub.cons rfl (by first | rfl | ((try dsimp only); congr 1; omega) | exact congrArg (Value.int _) (by (try dsimp only); omega)) (FrSub.cons rfl (by first | rfl | ((try dsimp only); congr 1; omega) | exact congrArg (Value.int _) (by (try dsimp only); omega)) (FrSub.cons rfl (by first | rfl | ((try dsimp only); congr 1; omega) | exact congrArg (Value.int _) (by (try dsimp only); omega)) (FrSub.cons rfl (by first | rfl | ((try dsimp only); congr 1; omega) | exact congrArg (Value.int _) (by (try dsimp only); omega)) (FrSub.cons rfl (by first | rfl | ((try dsimp only); congr 1; omega) | exact congrArg (Value.int _) (by (try dsimp only); omega)) FrSub.nil))))) (by (try dsimp only); omega) (by first | exact ⟨by omega, by simp [h4], Swp.step Item.zero h5 h1 (by omega) (by omega)⟩ | (dsimp only; exact ⟨by omega, by simp [h4], Swp.step Item.zero h5 h1 (by omega) (by omega)⟩))
  · try simp only [Bool.or_eq_true, Bool.and_eq_true, Bool.or_eq_false_iff, Bool.and_eq_false_iff, decide_eq_true_eq, decide_eq_false_iff_not, Bool.not_eq_true', Bool.not_eq_false', beq_iff_eq] at hc13
    refine JC_exit ?_
    refine JQ_then_exit ?_
    refine JQ_then_exit ?_
    refine JQ_block_exit ?_
    refine end_of_ret ?_
    exact ret0 Try.results172 ⟨rfl, _, ⟨_, rfl, by rw [show k = i by omega]; exact h5⟩, rfl⟩ (Picks.cons (Pick.here _ _) (Picks.nil _)) rfl
set_option maxRecDepth 100000 in
set_option maxHeartbeats 1000000 in
theorem c_rot (A : Option Addr) (n c : Nat) (T xs : List Item) (a m b : Nat) (a1 m1 b1 : Int) (ea : a1 = a) (em : m1 = m) (eb : b1 = b) (hl : xs.length = n) (hN : n ≤ 1000000) (hr : Rot T m (m - a) (b - m) xs) : CT Try.prog 168 [.slice A n c, .int .i64 a1, .int .i64 m1, .int .i64 b1, .func (.func 89) #[] #[]] [Atom.own 60 64 (.slice A n c) n (fl iL (xs))] [] (pT fun y => y = Atom.own 60 64 (.slice A n c) n (fl iL (T))) := by
  refine CT_of Try.func168 rfl Try.ntmps168 rfl (fun w0 => ?_)
  subst ea em eb
  have hr0 := hr.le
  refine JC_seq ?_
  refine JC_region ?_
  refine JL_R rfl (R_move rfl) ?_
  refine JL_R rfl (R_move rfl) ?_
  first
    | refine JL_R rfl ((R_sub rfl rfl).eq (i64_in (by omega))) ?_
    | refine JL_R rfl (R_sub rfl rfl) ?_
  refine JL_R rfl (R_assign rfl) ?_
  refine JL_nil ?_
  refine JQ_then ?_
  refine JC_seq ?_
  refine JC_region ?_
  refine JL_R rfl (R_move rfl) ?_
  refine JL_R rfl (R_move rfl) ?_
  first
    | refine JL_R rfl ((R_sub rfl rfl).eq (i64_in (by omega))) ?_
    | refine JL_R rfl (R_sub rfl rfl) ?_
  refine JL_R rfl (R_assign rfl) ?_
  refine JL_nil ?_
  refine JQ_then ?_
  refine JC_seq ?_
  refine JC_block ?_
  refine JC_loop3 (kp := [(0, _), (2, _), (4, _)]) (fun (i : Nat) (j : Nat) (cur : List Item) => Rot T m i j cur ∧ cur.length = n) (fun kp_ (i : Nat) (j : Nat) (cur : List Item) => (10, .int .i64 (i : Int)) :: (11, .int .i64 (j : Int)) :: kp_) (fun rs_ (i : Nat) (j : Nat) (cur : List Item) => Atom.own 60 64 (.slice A n c) n (fl iL (cur)) :: rs_) (fun (i : Nat) (j : Nat) (cur : List Item) => i + j) (m - a) (b - m) (xs) (Picks.cons (Pick.here _ _) (Picks.nil _)) (FrSub.cons rfl (by first | rfl | ((try dsimp only); congr 1; omega) | exact congrArg (Value.int _) (by (try dsimp only); omega)) (FrSub.cons rfl (by first | rfl | ((try dsimp only); congr 1; omega) | exact congrArg (Value.int _) (by (try dsimp only); omega)) (FrSub.cons rfl (by first | rfl | ((try dsimp only); congr 1; omega) | exact congrArg (Value.int _) (by (try dsimp only); omega)) (FrSub.cons rfl (by first | rfl | ((try dsimp only); congr 1; omega) | exact congrArg (Value.int _) (by (try dsimp only); omega)) (FrSub.cons rfl (by first | rfl | ((try dsimp only); congr 1; omega) | exact congrArg (Value.int _) (by (try dsimp only); omega)) FrSub.nil))))) (fun _ _ _ _  => rfl) (⟨hr, hl⟩) ?_
  rintro i j cur ⟨h1, h2⟩
  have h3 := h1.le
  refine JC_seq ?_
  refine JC_seq ?_
  refine JC_region ?_
  refine JL_R rfl (R_move rfl) ?_
  refine JL_R rfl (R_move rfl) ?_
  refine JL_R rfl (R_ne rfl rfl) ?_
  refine JL_nil ?_
  refine JQ_then ?_
  refine JC_cond rfl (fun hc20 => ?_) (fun hc20 => ?_)
  · try simp only [Bool.or_eq_true, Bool.and_eq_true, Bool.or_eq_false_iff, Bool.and_eq_false_iff, decide_eq_true_eq, decide_eq_false_iff_not, Bool.not_eq_true', Bool.not_eq_false', beq_iff_eq] at hc20
    refine JC_skip ?_
    refine JQ_then ?_
    refine JC_block ?_
    refine JC_seq ?_
    refine JC_region ?_
    refine JL_R rfl (R_move rfl) ?_
    refine JL_R rfl (R_move rfl) ?_
    refine JL_R rfl (R_gt rfl rfl) ?_
    refine JL_nil ?_
    refine JQ_then ?_
    refine JC_cond rfl (fun hc23 => ?_) (fun hc23 => ?_)
    · try simp only [Bool.or_eq_true, Bool.and_eq_true, Bool.or_eq_false_iff, Bool.and_eq_false_iff, decide_eq_true_eq, decide_eq_false_iff_not, Bool.not_eq_true', Bool.not_eq_false', beq_iff_eq] at hc23
      refine JC_seq ?_
      refine JC_region ?_
      refine JL_R rfl (R_move rfl) ?_
      refine JL_R rfl (R_move rfl) ?_
      refine JL_R rfl (R_move rfl) ?_
      first
        | refine JL_R rfl ((R_sub rfl rfl).eq (i64_in (by omega))) ?_
        | refine JL_R rfl (R_sub rfl rfl) ?_
      refine JL_R rfl (R_move rfl) ?_
      refine JL_R rfl (R_move rfl) ?_
      refine JL_R rfl (R_move rfl) ?_
      refine JL_E rfl (E_callT ok172 rfl (Pick.here _ _) rfl ents_nil (c_swap _ _ _ _ (m - i) m j _ _ _ (by omega) rfl rfl h2 hN (h1.left (by omega)).1 (by have := (h1.left (by omega)).2.1; omega))) ?_
      rintro _ _ ⟨_, ⟨ys, rfl, hs⟩, rfl, rfl⟩
      refine JL_nil ?_
      refine JQ_then ?_
      refine JC_region ?_
      refine JL_R rfl (R_move rfl) ?_
      refine JL_R rfl (R_move rfl) ?_
      first
        | refine JL_R rfl ((R_sub rfl rfl).eq (i64_in (by omega))) ?_
        | refine JL_R rfl (R_sub rfl rfl) ?_
      refine JL_R rfl (R_assign rfl) ?_
      refine JL_nil ?_
      refine JQ_block ?_
      refine JQ_nxt3 (i - j) (j) (ys) (Picks.cons (Pick.here _ _) (Picks.nil _)) (FrSub.cons rfl (by first | rfl | ((try dsimp only); congr 1; omega) | exact congrArg (Value.int _) (by (try dsimp only); omega)) (FrSub.cons rfl (by first | rfl | ((try dsimp only); congr 1; omega) | exact congrArg (Value.int _) (by (try dsimp only); omega)) (FrSub.cons rfl (by first | rfl | ((try dsimp only); congr 1; omega) | exact congrArg (Value.int _) (by (try dsimp only); omega)) (FrSub.cons rfl (by first | rfl | ((try dsimp only); congr 1; omega) | exact congrArg (Value.int _) (by (try dsimp only); omega)) (FrSub.cons rfl (by first | rfl | ((try dsimp only); congr 1; omega) | exact congrArg (Value.int _) (by (try dsimp only); omega)) FrSub.nil))))) (by (try dsimp only); omega) (by first | exact by have := (h1.left (by omega)).2.2 _ hs; exact ⟨this.1, by omega⟩ | (dsimp only; exact by have := (h1.left (by omega)).2.2 _ hs; exact ⟨this.1, by omega⟩))
    · try simp only [Bool.or_eq_true, Bool.and_eq_true, Bool.or_eq_false_iff, Bool.and_eq_false_iff, decide_eq_true_eq, decide_eq_false_iff_not, Bool.not_eq_true', Bool.not_eq_false', beq_iff_eq] at hc23
      refine JC_seq ?_
      refine JC_region ?_
      refine JL_R rfl (R_move rfl) ?_
      refine JL_R rfl (R_move rfl) ?_
      refine JL_R rfl (R_move rfl) ?_
      first
        | refine JL_R rfl ((R_sub rfl rfl).eq (i64_in (by omega))) ?_
        | refine JL_R rfl (R_sub rfl rfl) ?_
      refine JL_R rfl (R_move rfl) ?_
      refine JL_R rfl (R_move rfl) ?_
      first
        | refine JL_R rfl ((R_add rfl rfl).eq (i64_in (by omega))) ?_
        | refine JL_R rfl (R_add rfl rfl) ?_
      refine JL_R rfl (R_move rfl) ?_
      first
        | refine JL_R rfl ((R_sub rfl rfl).eq (i64_in (by omega))) ?_
        | refine JL_R rfl (R_sub rfl rfl) ?_
      refine JL_R rfl (R_move rfl) ?_
      refine JL_R rfl (R_move rfl) ?_
      refine JL_E rfl (E_callT ok172 rfl (Pick.here _ _) rfl ents_nil (c_swap _ _ _ _ (m - i) (m + j - i) i _ _ _ (by omega) (by omega) rfl h2 hN (h1.right (by omega)).1 (by have := (h1.right (by omega)).2.1; omega))) ?_
      rintro _ _ ⟨_, ⟨ys, rfl, hs⟩, rfl, rfl⟩
      refine JL_nil ?_
      refine JQ_then ?_
      refine JC_region ?_
      refine JL_R rfl (R_move rfl) ?_
      refine JL_R rfl (R_move rfl) ?_
      first
        | refine JL_R rfl ((R_sub rfl rfl).eq (i64_in (by omega))) ?_
        | refine JL_R rfl (R_sub rfl rfl) ?_
      refine JL_R rfl (R_assign rfl) ?_
      refine JL_nil ?_
      refine JQ_block ?_
      refine JQ_nxt3 (i) (j - i) (ys) (Picks.cons (Pick.here _ _) (Picks.nil _)) (FrSub.cons rfl (by first | rfl | ((try dsimp only); congr 1; omega) | exact congrArg (Value.int _) (by (try dsimp only); omega)) (FrSub.cons rfl (by first | rfl | ((try dsimp only); congr 1; omega) | exact congrArg (Value.int _) (by (try dsimp only); omega)) (FrSub.cons rfl (by first | rfl | ((try dsimp only); congr 1; omega) | exact congrArg (Value.int _) (by (try dsimp only); omega)) (FrSub.cons rfl (by first | rfl | ((try dsimp only); congr 1; omega) | exact congrArg (Value.int _) (by (try dsimp only); omega)) (FrSub.cons rfl (by first | rfl | ((try dsimp only); congr 1; omega) | exact congrArg (Value.int _) (by (try dsimp only); omega)) FrSub.nil))))) (by (try dsimp only); omega) (by first | exact by have := (h1.right (by omega)).2.2 _ hs; exact ⟨this.1, by omega⟩ | (dsimp only; exact by have := (h1.right (by omega)).2.2 _ hs; exact ⟨this.1, by omega⟩))
  · try simp only [Bool.or_eq_true, Bool.and_eq_true, Bool.or_eq_false_iff, Bool.and_eq_false_iff, decide_eq_true_eq, decide_eq_false_iff_not, Bool.not_eq_true', Bool.not_eq_false', beq_iff_eq] at hc20
    refine JC_exit ?_
    refine JQ_then_exit ?_
    refine JQ_then_exit ?_
    refine JQ_block_exit ?_
    refine JQ_then ?_
    obtain rfl : i = j := by omega
    have h6 := h1.last
    refine JC_region ?_
    refine JL_R rfl (R_move rfl) ?_
    refine JL_R rfl (R_move rfl) ?_
    refine JL_R rfl (R_move rfl) ?_
    first
      | refine JL_R rfl ((R_sub rfl rfl).eq (i64_in (by omega))) ?_
      | refine JL_R rfl (R_sub rfl rfl) ?_
    refine JL_R rfl (R_move rfl) ?_
    refine JL_R rfl (R_move rfl) ?_
    refine JL_R rfl (R_move rfl) ?_
    refine JL_E rfl (E_callT ok172 rfl (Pick.here _ _) rfl ents_nil (c_swap _ _ _ _ (m - i) m i _ _ _ (by omega) rfl rfl h2 hN h6.1 (by have := h6.2.1; omega))) ?_
    rintro _ _ ⟨_, ⟨ys, rfl, hs⟩, rfl, rfl⟩
    refine JL_nil ?_
    refine end_of_ret ?_
    exact ret0 Try.results168 ⟨rfl, _, by rw [h6.2.2 _ hs], rfl⟩ (Picks.cons (Pick.here _ _) (Picks.nil _)) rfl
set_option maxRecDepth 100000 in
set_option maxHeartbeats 1000000 in
theorem c_ins (A : Option Addr) (n c : Nat) (P W S : List Item) (a b : Nat) (a1 b1 : Int) (ea : a1 = a) (eb : b1 = b) (ha : P.length = a) (hb : a + W.length = b) (hl : b + S.length = n) (hN : n ≤ 1000000) : CT Try.prog 154 [.slice A n c, .int .i64 a1, .int .i64 b1, .func (.func 89) #[] #[]] [Atom.own 60 64 (.slice A n c) n (fl iL (P ++ (W ++ S)))] [] (pT fun y => ∃ ys, y = Atom.own 60 64 (.slice A n c) n (fl iL (ys)) ∧ ∃ M, ys = P ++ (M ++ S) ∧ SS key M W) := by
  refine CT_of Try.func154 rfl Try.ntmps154 rfl (fun w0 => ?_)
  subst ea eb
  rw [show W ++ S = List.take 1 W ++ (List.drop 1 W ++ S) by rw [← List.append_assoc, List.take_append_drop]]
  refine JC_seq ?_
  refine JC_region ?_
  refine JL_R rfl (R_move rfl) ?_
  first
    | refine JL_R rfl ((R_add rfl rfl).eq (i64_in (by omega))) ?_
    | refine JL_R rfl (R_add rfl rfl) ?_
  refine JL_R rfl (R_assign rfl) ?_
  refine JL_nil ?_
  refine JQ_then ?_
  refine JC_block ?_
  refine JC_loop2 (kp := [(0, _), (1, _), (2, _), (3, _)]) (fun (k : Nat) (M : List Item) => 1 ≤ k ∧ (k ≤ W.length ∨ k = 1) ∧ SS key M (W.take k)) (fun kp_ (k : Nat) (M : List Item) => (8, .int .i64 ((a + k : Nat) : Int)) :: kp_) (fun rs_ (k : Nat) (M : List Item) => Atom.own 60 64 (.slice A n c) n (fl iL (P ++ (M ++ (W.drop k ++ S)))) :: rs_) (fun (k : Nat) (M : List Item) => n - k) (1) (W.take 1) (Picks.cons (Pick.here _ _) (Picks.nil _)) (FrSub.cons rfl (by first | rfl | ((try dsimp only); congr 1; omega) | exact congrArg (Value.int _) (by (try dsimp only); omega)) (FrSub.cons rfl (by first | rfl | ((try dsimp only); congr 1; omega) | exact congrArg (Value.int _) (by (try dsimp only); omega)) (FrSub.cons rfl (by first | rfl | ((try dsimp only); congr 1; omega) | exact congrArg (Value.int _) (by (try dsimp only); omega)) (FrSub.cons rfl (by first | rfl | ((try dsimp only); congr 1; omega) | exact congrArg (Value.int _) (by (try dsimp only); omega)) (FrSub.cons rfl (by first | rfl | ((try dsimp only); congr 1; omega) | exact congrArg (Value.int _) (by (try dsimp only); omega)) FrSub.nil))))) (fun _ _ _  => rfl) (⟨by omega, .inr rfl, SS.sorted key (by rcases W with _ | ⟨x, W⟩ <;> simp [Srt])⟩) ?_
  rintro k M ⟨h1, h2, h3⟩
  refine JC_seq ?_
  refine JC_seq ?_
  refine JC_region ?_
  refine JL_R rfl (R_move rfl) ?_
  refine JL_R rfl (R_move rfl) ?_
  refine JL_R rfl (R_lt rfl rfl) ?_
  refine JL_nil ?_
  refine JQ_then ?_
  refine JC_cond rfl (fun hc14 => ?_) (fun hc14 => ?_)
  · try simp only [Bool.or_eq_true, Bool.and_eq_true, Bool.or_eq_false_iff, Bool.and_eq_false_iff, decide_eq_true_eq, decide_eq_false_iff_not, Bool.not_eq_true', Bool.not_eq_false', beq_iff_eq] at hc14
    refine JC_skip ?_
    refine JQ_then ?_
    refine JC_seq ?_
    refine JC_block ?_
    refine JC_seq ?_
    refine JC_region ?_
    refine JL_R rfl (R_move rfl) ?_
    refine JL_R rfl (R_assign rfl) ?_
    refine JL_nil ?_
    refine JQ_then ?_
    refine JC_block ?_
    refine JC_loop2 (kp := [(0, _), (1, _), (2, _), (3, _), (8, _)]) (fun (j : Nat) (cur : List Item) => Ins key P (W.take k) (W.getD k Item.zero) (W.drop (k + 1) ++ S) j cur ∧ cur.length = n ∧ a ≤ j ∧ j < n) (fun kp_ (j : Nat) (cur : List Item) => (9, .int .i64 (j : Int)) :: kp_) (fun rs_ (j : Nat) (cur : List Item) => Atom.own 60 64 (.slice A n c) n (fl iL (cur)) :: rs_) (fun (j : Nat) (cur : List Item) => j) (a + k) (P ++ (M ++ (W.drop k ++ S))) (Picks.cons (Pick.here _ _) (Picks.nil _)) (FrSub.cons rfl (by first | rfl | ((try dsimp only); congr 1; omega) | exact congrArg (Value.int _) (by (try dsimp only); omega)) (FrSub.cons rfl (by first | rfl | ((try dsimp only); congr 1; omega) | exact congrArg (Value.int _) (by (try dsimp only); omega)) (FrSub.cons rfl (by first | rfl | ((try dsimp only); congr 1; omega) | exact congrArg (Value.int _) (by (try dsimp only); omega)) (FrSub.cons rfl (by first | rfl | ((try dsimp only); congr 1; omega) | exact congrArg (Value.int _) (by (try dsimp only); omega)) (FrSub.cons rfl (by first | rfl | ((try dsimp only); congr 1; omega) | exact congrArg (Value.int _) (by (try dsimp only); omega)) (FrSub.cons rfl (by first | rfl | ((try dsimp only); congr 1; omega) | exact congrArg (Value.int _) (by (try dsimp only); omega)) FrSub.nil)))))) (fun _ _ _  => rfl) (by have := Ins.start key (P := P) (R := W.drop (k + 1) ++ S) (x := W.getD k Item.zero) h3; have hq := h3.2.1; rw [List.length_take, Nat.min_eq_left (by omega)] at hq; rw [drop_getD Item.zero W k (by omega)]; refine ⟨by rw [show a + k = P.length + M.length by omega]; exact this, ?_, by omega, by omega⟩; simp; omega) ?_
    rintro j cur ⟨h4, h5, h6, h7⟩
    refine JC_seq ?_
    refine JC_seq ?_
    refine JC_draw [] rfl (.take 0 (.take 1 (.take 2 (.take 3 (.alt (.take 4 (.take 5 (.take 6 (.take 7 (.take 8 (.take 9 (.take 10 (.take 11 (.take 12 (.take 13 (.exec 14 (.take 15 (.take 16 (.done)))))))))))))) (.take 4 (.take 5 (.take 6 (.take 7 (.take 8 (.take 9 (.take 10 (.take 11 (.take 12 (.take 13 (.take 14 (.take 15 (.take 16 (.done))))))))))))))))))) _ (by kernel_rfl) (fun _ h => h) (by repeat (first | with_reducible exact Ret.noP | with_reducible apply NoP.block | with_reducible apply NoP.then)) ?_
    refine JP_R rfl rfl rfl (R_move rfl) ?_
    refine JP_R rfl rfl rfl (R_move rfl) ?_
    refine JP_R rfl rfl rfl (R_gt rfl rfl) ?_
    refine JP_R rfl rfl rfl (R_move rfl) ?_
    refine JP_case (t := 21) rfl (fun hb => ?_) (fun hb => ?_)
    · simp only [decide_eq_true_eq] at hb
      refine JP_left ?_
      refine JP_RG rfl rfl rfl rfl rfl rfl (R_move rfl) ?_
      refine JP_RG rfl rfl rfl rfl rfl rfl (R_move rfl) ?_
      refine JP_RG rfl rfl rfl rfl rfl rfl (R_move rfl) ?_
      refine JP_RG rfl rfl rfl rfl rfl rfl (R_indexE (i := j) Try.underlying51 ti60 rfl rfl (RngIn.own (List.Mem.head _)) (by omega) (by omega) (by first | (rw [fl_length itemP_len]; omega) | (rw [fl_length itemP_len]; simp only [List.length_set, List.length_drop, List.length_take]; omega) | (simp only [fl_length, bcs_length, List.length_map, List.length_cons]; omega) | omega | (simp [fl_length] <;> omega))) ?_
      refine JP_RG rfl rfl rfl rfl rfl rfl (R_elA Item.zero itemP_len Try.underlying60 rfl ti60 (by decide) rfl (RngIn.own (List.Mem.head _)) (by first | omega | (simp only [List.length_drop, List.length_take]; omega) | simpa using by omega)) ?_
      refine JP_RG rfl rfl rfl rfl rfl rfl (R_move rfl) ?_
      refine JP_RG rfl rfl rfl rfl rfl rfl (R_move rfl) ?_
      first
        | refine JP_RG rfl rfl rfl rfl rfl rfl ((R_sub rfl rfl).eq (i64_in (by omega))) ?_
        | refine JP_RG rfl rfl rfl rfl rfl rfl (R_sub rfl rfl) ?_
      refine JP_RG rfl rfl rfl rfl rfl rfl (R_indexE (i := j - 1) Try.underlying51 ti60 rfl rfl (RngIn.own (List.Mem.head _)) (by omega) (by omega) (by first | (rw [fl_length itemP_len]; omega) | (rw [fl_length itemP_len]; simp only [List.length_set, List.length_drop, List.length_take]; omega) | (simp only [fl_length, bcs_length, List.length_map, List.length_cons]; omega) | omega | (simp [fl_length] <;> omega))) ?_
      refine JP_RG rfl rfl rfl rfl rfl rfl (R_elA Item.zero itemP_len Try.underlying60 rfl ti60 (by decide) rfl (RngIn.own (List.Mem.head _)) (by first | omega | (simp only [List.length_drop, List.length_take]; omega) | simpa using by omega)) ?_
      refine JP_EG rfl rfl rfl rfl rfl (E_callFV ok89 rfl rfl rfl ents_nil (c_before _ _)) ?_
      rintro _ _ ⟨rfl, rfl⟩
      refine JPn_all (fun _ h => h) ?_
      refine JP_RG rfl rfl rfl rfl rfl rfl (R_lt rfl rfl) ?_
      first
        | refine JP_R rfl rfl rfl (R_pick_true rfl rfl) ?_
        | refine JP_R rfl rfl rfl (R_pick_false rfl rfl) ?_
        | refine JP_R rfl rfl rfl (R_pick_and rfl rfl) ?_
        | refine JP_R rfl rfl rfl (R_pick_or rfl rfl) ?_
        | refine JP_R rfl rfl rfl (R_pick rfl rfl rfl) ?_
      refine JP_done ?_
      refine JQ_then ?_
      refine JC_cond rfl (fun hc34 => ?_) (fun hc34 => ?_)
      · rw [ncmp_neg] at hc34; simp only [decide_eq_true_eq] at hc34
        refine JC_skip ?_
        refine JQ_then ?_
        refine JC_seq ?_
        refine JC_block ?_
        refine JC_draw [2, 3, 4, 10, 11] rfl (.take 0 (.take 1 (.take 2 (.take 3 (.take 4 (.take 5 (.take 6 (.take 7 (.take 8 (.take 9 (.take 10 (.take 11 (.take 12 (.take 13 (.take 14 (.exec 15 (.take 16 (.exec 17 (.done))))))))))))))))))) _ (by kernel_rfl) (fun _ h => h) (by repeat (first | with_reducible exact Ret.noP | with_reducible apply NoP.block | with_reducible apply NoP.then)) ?_
        refine JP_R rfl rfl rfl (R_move rfl) ?_
        refine JP_R rfl rfl rfl (R_move rfl) ?_
        refine JP_RQ rfl rfl (R_move rfl) ?_
        refine JP_RQ rfl rfl (R_move rfl) ?_
        first
          | refine JP_RQ rfl rfl ((R_sub rfl rfl).eq (i64_in (by omega))) ?_
          | refine JP_RQ rfl rfl (R_sub rfl rfl) ?_
        refine JP_R rfl rfl rfl (R_move rfl) ?_
        refine JP_R rfl rfl rfl (R_move rfl) ?_
        first
          | refine JP_R rfl rfl rfl ((R_sub rfl rfl).eq (i64_in (by omega))) ?_
          | refine JP_R rfl rfl rfl (R_sub rfl rfl) ?_
        refine JP_R rfl rfl rfl (R_indexE (i := j - 1) Try.underlying51 ti60 rfl rfl (RngIn.own (List.Mem.head _)) (by omega) (by omega) (by first | (rw [fl_length itemP_len]; omega) | (rw [fl_length itemP_len]; simp only [List.length_set, List.length_drop, List.length_take]; omega) | (simp only [fl_length, bcs_length, List.length_map, List.length_cons]; omega) | omega | (simp [fl_length] <;> omega))) ?_
        refine JP_R rfl rfl rfl (R_elA Item.zero itemP_len Try.underlying60 rfl ti60 (by decide) rfl (RngIn.own (List.Mem.head _)) (by first | omega | (simp only [List.length_drop, List.length_take]; omega) | simpa using by omega)) ?_
        refine JP_RQ rfl rfl (R_move rfl) ?_
        refine JP_RQ rfl rfl (R_move rfl) ?_
        refine JP_R rfl rfl rfl (R_indexE (i := j) Try.underlying51 ti60 rfl rfl (RngIn.own (List.Mem.head _)) (by omega) (by omega) (by first | (rw [fl_length itemP_len]; omega) | (rw [fl_length itemP_len]; simp only [List.length_set, List.length_drop, List.length_take]; omega) | (simp only [fl_length, bcs_length, List.length_map, List.length_cons]; omega) | omega | (simp [fl_length] <;> omega))) ?_
        refine JP_R rfl rfl rfl (R_elA Item.zero itemP_len Try.underlying60 rfl ti60 (by decide) rfl (RngIn.own (List.Mem.head _)) (by first | omega | (simp only [List.length_drop, List.length_take]; omega) | simpa using by omega)) ?_
        refine JP_R rfl rfl rfl (R_indexE (i := j) Try.underlying51 ti60 rfl rfl (RngIn.own (List.Mem.head _)) (by omega) (by omega) (by first | (rw [fl_length itemP_len]; omega) | (rw [fl_length itemP_len]; simp only [List.length_set, List.length_drop, List.length_take]; omega) | (simp only [fl_length, bcs_length, List.length_map, List.length_cons]; omega) | omega | (simp [fl_length] <;> omega))) ?_
        refine JP_E0 rfl (E_storeEl itemP_len itemP_ones ti60 rfl rfl (Pick.here _ _) (by decide) (by first | omega | (simp; omega))) ?_
        rintro _ _ ⟨rfl, rfl⟩
        refine JPn_bar (by kernel_rfl) ?_
        refine JP_R rfl rfl rfl (R_indexE (i := j - 1) Try.underlying51 ti60 rfl rfl (RngIn.own (List.Mem.head _)) (by omega) (by omega) (by first | (rw [fl_length itemP_len]; omega) | (rw [fl_length itemP_len]; simp only [List.length_set, List.length_drop, List.length_take]; omega) | (simp only [fl_length, bcs_length, List.length_map, List.length_cons]; omega) | omega | (simp [fl_length] <;> omega))) ?_
        refine JP_E0 rfl (E_storeEl itemP_len itemP_ones ti60 rfl rfl (Pick.here _ _) (by decide) (by first | omega | (simp; omega))) ?_
        rintro _ _ ⟨rfl, rfl⟩
        refine JPn_bar (by kernel_rfl) ?_
        refine JP_done ?_
        refine JQ_block ?_
        refine JQ_then ?_
        refine JC_region ?_
        refine JL_R rfl (R_move rfl) ?_
        first
          | refine JL_R rfl ((R_sub rfl rfl).eq (i64_in (by omega))) ?_
          | refine JL_R rfl (R_sub rfl rfl) ?_
        refine JL_R rfl (R_assign rfl) ?_
        refine JL_nil ?_
        refine JQ_nxt2 (j - 1) (sw Item.zero cur j (j - 1)) (Picks.cons (Pick.here _ _) (Picks.nil _)) (FrSub.cons rfl (by first | rfl | ((try dsimp only); congr 1; omega) | exact congrArg (Value.int _) (by (try dsimp only); omega)) (FrSub.cons rfl (by first | rfl | ((try dsimp only); congr 1; omega) | exact congrArg (Value.int _) (by (try dsimp only); omega)) (FrSub.cons rfl (by first | rfl | ((try dsimp only); congr 1; omega) | exact congrArg (Value.int _) (by (try dsimp only); omega)) (FrSub.cons rfl (by first | rfl | ((try dsimp only); congr 1; omega) | exact congrArg (Value.int _) (by (try dsimp only); omega)) (FrSub.cons rfl (by first | rfl | ((try dsimp only); congr 1; omega) | exact congrArg (Value.int _) (by (try dsimp only); omega)) (FrSub.cons rfl (by first | rfl | ((try dsimp only); congr 1; omega) | exact congrArg (Value.int _) (by (try dsimp only); omega)) FrSub.nil)))))) (by (try dsimp only); omega) (by first | exact ⟨Ins.step key Item.zero h4 (by omega) hc34, by simp [h5], by omega, by omega⟩ | (dsimp only; exact ⟨Ins.step key Item.zero h4 (by omega) hc34, by simp [h5], by omega, by omega⟩))
      · rw [ncmp_neg] at hc34; simp only [decide_eq_false_iff_not] at hc34
        refine JC_exit ?_
        refine JQ_then_exit ?_
        refine JQ_then_exit ?_
        refine JQ_block_exit ?_
        refine JQ_block ?_
        refine JQ_then ?_
        obtain ⟨M, rfl, hM⟩ := Ins.done key Item.zero h4 (.inr (by omega))
        refine JC_region ?_
        refine JL_R rfl (R_move rfl) ?_
        first
          | refine JL_R rfl ((R_add rfl rfl).eq (i64_in (by omega))) ?_
          | refine JL_R rfl (R_add rfl rfl) ?_
        refine JL_R rfl (R_assign rfl) ?_
        refine JL_nil ?_
        refine JQ_nxt2 (k + 1) (M) (Picks.cons (Pick.here _ _) (Picks.nil _)) (FrSub.cons rfl (by first | rfl | ((try dsimp only); congr 1; omega) | exact congrArg (Value.int _) (by (try dsimp only); omega)) (FrSub.cons rfl (by first | rfl | ((try dsimp only); congr 1; omega) | exact congrArg (Value.int _) (by (try dsimp only); omega)) (FrSub.cons rfl (by first | rfl | ((try dsimp only); congr 1; omega) | exact congrArg (Value.int _) (by (try dsimp only); omega)) (FrSub.cons rfl (by first | rfl | ((try dsimp only); congr 1; omega) | exact congrArg (Value.int _) (by (try dsimp only); omega)) (FrSub.cons rfl (by first | rfl | ((try dsimp only); congr 1; omega) | exact congrArg (Value.int _) (by (try dsimp only); omega)) FrSub.nil))))) (by (try dsimp only); omega) (by first | exact ⟨by omega, by omega, by rw [take_getD Item.zero W k (by omega)]; exact hM⟩ | (dsimp only; exact ⟨by omega, by omega, by rw [take_getD Item.zero W k (by omega)]; exact hM⟩))
    · simp only [decide_eq_false_iff_not] at hb
      refine JP_right ?_
      refine JP_skip rfl rfl rfl rfl rfl rfl ?_
      refine JP_skip rfl rfl rfl rfl rfl rfl ?_
      refine JP_skip rfl rfl rfl rfl rfl rfl ?_
      refine JP_skip rfl rfl rfl rfl rfl rfl ?_
      refine JP_skip rfl rfl rfl rfl rfl rfl ?_
      refine JP_skip rfl rfl rfl rfl rfl rfl ?_
      refine JP_skip rfl rfl rfl rfl rfl rfl ?_
      refine JP_skip rfl rfl rfl rfl rfl rfl ?_
      refine JP_skip rfl rfl rfl rfl rfl rfl ?_
      refine JP_skip rfl rfl rfl rfl rfl rfl ?_
      refine JP_skip rfl rfl rfl rfl rfl rfl ?_
      refine JP_skip rfl rfl rfl rfl rfl rfl ?_
      first
        | refine JP_R rfl rfl rfl (R_pick_true rfl rfl) ?_
        | refine JP_R rfl rfl rfl (R_pick_false rfl rfl) ?_
        | refine JP_R rfl rfl rfl (R_pick_and rfl rfl) ?_
        | refine JP_R rfl rfl rfl (R_pick_or rfl rfl) ?_
        | refine JP_R rfl rfl rfl (R_pick rfl rfl rfl) ?_
      refine JP_done ?_
      refine JQ_then ?_
      refine JC_else rfl rfl ?_
      refine JC_exit ?_
      refine JQ_then_exit ?_
      refine JQ_then_exit ?_
      refine JQ_block_exit ?_
      refine JQ_block ?_
      refine JQ_then ?_
      obtain ⟨M, rfl, hM⟩ := Ins.done key Item.zero h4 (.inl (by omega))
      refine JC_region ?_
      refine JL_R rfl (R_move rfl) ?_
      first
        | refine JL_R rfl ((R_add rfl rfl).eq (i64_in (by omega))) ?_
        | refine JL_R rfl (R_add rfl rfl) ?_
      refine JL_R rfl (R_assign rfl) ?_
      refine JL_nil ?_
      refine JQ_nxt2 (k + 1) (M) (Picks.cons (Pick.here _ _) (Picks.nil _)) (FrSub.cons rfl (by first | rfl | ((try dsimp only); congr 1; omega) | exact congrArg (Value.int _) (by (try dsimp only); omega)) (FrSub.cons rfl (by first | rfl | ((try dsimp only); congr 1; omega) | exact congrArg (Value.int _) (by (try dsimp only); omega)) (FrSub.cons rfl (by first | rfl | ((try dsimp only); congr 1; omega) | exact congrArg (Value.int _) (by (try dsimp only); omega)) (FrSub.cons rfl (by first | rfl | ((try dsimp only); congr 1; omega) | exact congrArg (Value.int _) (by (try dsimp only); omega)) (FrSub.cons rfl (by first | rfl | ((try dsimp only); congr 1; omega) | exact congrArg (Value.int _) (by (try dsimp only); omega)) FrSub.nil))))) (by (try dsimp only); omega) (by first | exact ⟨by omega, by omega, by rw [take_getD Item.zero W k (by omega)]; exact hM⟩ | (dsimp only; exact ⟨by omega, by omega, by rw [take_getD Item.zero W k (by omega)]; exact hM⟩))
  · try simp only [Bool.or_eq_true, Bool.and_eq_true, Bool.or_eq_false_iff, Bool.and_eq_false_iff, decide_eq_true_eq, decide_eq_false_iff_not, Bool.not_eq_true', Bool.not_eq_false', beq_iff_eq] at hc14
    refine JC_exit ?_
    refine JQ_then_exit ?_
    refine JQ_then_exit ?_
    refine JQ_block_exit ?_
    refine end_of_ret ?_
    exact ret0 Try.results154 ⟨rfl, _, ⟨_, rfl, M, by rw [List.drop_eq_nil_of_le (by omega)]; rfl, by rw [List.take_of_length_le (by omega)] at h3; exact h3⟩, rfl⟩ (Picks.cons (Pick.here _ _) (Picks.nil _)) rfl
end Go.Proofs.Ytkckakfkeooepaa
