/- Package slices, of items: sort, reverse, compact, clip, concat. -/
import Derived.Test.YtkckakfkeooepaaJTree6
namespace Go.Proofs.Ytkckakfkeooepaa
set_option linter.all false
set_option linter.unusedSimpArgs false
set_option linter.unusedVariables false
set_option linter.unnecessarySimpa false
open Go.RowKit
theorem c_ConcatI (A : Option Addr) (n c : Nat) (ps : List (EPart Item)) (hn : ps.length = n) (hl : n ≤ 65536) (hs : ((ps.map EPart.l).flatten).length ≤ 16777216) :
    CT Try.prog 86 [.slice A n c] [] [rdE iL A ps] (pO 60 64 ((ps.map EPart.l).flatten).length (fl iL (ps.map EPart.l).flatten)) := CT_own fun W hφ => by
  subst hn
  have h := hφ (rdE iL A ps) (by simp)
  have e1 : (ps.map fun p : EPart Item => (⟨p.A, p.l.length, p.c, fl iL p.l⟩ : Part)).map Part.v = ps.map EPart.v := by simp [Part.v, EPart.v]
  have e2 : ((ps.map fun p : EPart Item => (⟨p.A, p.l.length, p.c, fl iL p.l⟩ : Part)).map Part.n).sum = (ps.map EPart.l).flatten.length := by
    rw [List.length_flatten]; simp [Function.comp_def]
  have e3 : ∀ ps : List (EPart Item), ((ps.map fun p : EPart Item => (⟨p.A, p.l.length, p.c, fl iL p.l⟩ : Part)).map Part.xs).flatten = fl iL (ps.map EPart.l).flatten := by
    intro ps
    induction ps with
    | nil => rfl
    | cons p ps ih => simp only [List.map_cons, List.flatten_cons, fl_append, ih]
  have hr : Reads W W.heap.size 1 A ps.length (ps.map EPart.v) := Rng.reads h.1 (by simp) (by omega)
  have := item_concat A c (ps.map fun p : EPart Item => (⟨p.A, p.l.length, p.c, fl iL p.l⟩ : Part)) W (by rw [e1]; simpa using hr) (fun p hp => by
    simp only [List.mem_map] at hp
    obtain ⟨q, hq, rfl⟩ := hp
    exact ⟨Rng.reads (h.2 q hq) (fl_length itemP_len _) (by omega), fl_ones itemP_ones _⟩) (by simp; omega) (by rw [e2]; exact hs)
  rw [e2, e3] at this
  simpa using this
theorem freeze_pre {e : TypeId} {size : Nat} {A : Option Addr} {n c : Nat} {xs ys zs : List Value} {L1 : List Atom} (h : xs = ys ++ zs) : ∀ w0 G w, Mem w0 G (.own e size (.slice A n c) n xs :: L1) w → Mem w0 G (.new (rd A ys) :: L1) w := fun w0 G w hM => by
  have h1 := freeze_own w0 G w hM
  have hm := h1.more' (ψ := rd A ys) (List.mem_cons_self) (fun w hw => by have := Rng.take hw ys.length; rw [h, List.take_left] at this; exact this)
  exact (hm.perm (L' := [.new (rd A ys)] ++ L1 ++ [.new (rd A xs)]) (by
    rw [List.append_assoc]
    exact List.Perm.cons _ (List.perm_append_comm (l₁ := [Atom.new (rd A xs)]))
    )).drop
theorem cpt_next (xs : List Item) (i : Nat) (h1 : 1 ≤ i) (hi : i < xs.length) (h : cpt key (xs.take i) = xs.take i) (he : ¬ key (xs.getD i Item.zero) = key (xs.getD (i - 1) Item.zero)) : cpt key (xs.take (i + 1)) = xs.take (i + 1) := by
  have := cpt_step key Item.zero xs (i - 1) (by omega)
  rw [show i - 1 + 1 = i by omega, show i - 1 + 2 = i + 1 by omega, if_neg he] at this
  rw [this, h, take_getD Item.zero xs i hi]
theorem Cpt.len {xs cur : List Item} {i j : Nat} (h : Cpt key xs i j cur) : cur.length = xs.length ∧ i < j ∧ j ≤ xs.length := ⟨h.1, h.2.2.1, h.2.2.2.1⟩
set_option maxRecDepth 100000 in
set_option maxHeartbeats 1000000 in
theorem c_sort (A : Option Addr) (n c : Nat) (xs : List Item) (hl : xs.length = n) (hN : n ≤ 1000000) : CT Try.prog 88 [.slice A n c, .func (.func 89) #[] #[]] [Atom.own 60 64 (.slice A n c) n (fl iL (xs))] [] (pT fun y => ∃ ys, y = Atom.own 60 64 (.slice A n c) n (fl iL (ys)) ∧ SS key ys xs) := by
  refine CT_of Try.func88 rfl Try.ntmps88 rfl (fun w0 => ?_)
  refine JC_region ?_
  refine JL_R rfl (R_move rfl) ?_
  refine JL_R rfl (R_move rfl) ?_
  refine JL_R rfl (R_len_slice Try.underlying51 rfl) ?_
  refine JL_R rfl (R_move rfl) ?_
  refine JL_E rfl (E_callT ok131 rfl (Pick.here _ _) rfl ents_nil (c_stable _ _ _ _ hl hN)) ?_
  rintro _ _ ⟨_, ⟨ys, rfl, hs⟩, rfl, rfl⟩
  refine JL_nil ?_
  refine end_of_ret ?_
  exact ret0 Try.results88 ⟨rfl, _, ⟨_, rfl, hs⟩, rfl⟩ (Picks.cons (Pick.here _ _) (Picks.nil _)) rfl
set_option maxRecDepth 100000 in
set_option maxHeartbeats 1000000 in
theorem c_Reverse (A : Option Addr) (n c : Nat) (xs : List Item) (hl : xs.length = n) (hN : n ≤ 1000000) : CT Try.prog 87 [.slice A n c] [Atom.own 60 64 (.slice A n c) n (fl iL (xs))] [] (pT fun y => y = Atom.own 60 64 (.slice A n c) n (fl iL (xs.reverse))) := by
  refine CT_of Try.func87 rfl Try.ntmps87 rfl (fun w0 => ?_)
  refine JC_seq ?_
  refine JC_region ?_
  refine JL_R rfl (R_move rfl) ?_
  refine JL_R rfl (R_len_slice Try.underlying51 rfl) ?_
  first
    | refine JL_R rfl ((R_sub rfl rfl).eq (i64_in (by omega))) ?_
    | refine JL_R rfl (R_sub rfl rfl) ?_
  refine JL_R rfl (R_assign rfl) ?_
  refine JL_R rfl (R_assign rfl) ?_
  refine JL_nil ?_
  refine JQ_then ?_
  refine JC_block ?_
  refine JC_loop2 (kp := [(0, _)]) (fun (i : Nat) (cur : List Item) => RevI xs i cur) (fun kp_ (i : Nat) (cur : List Item) => (2, .int .i64 (i : Int)) :: (3, .int .i64 ((n : Int) - 1 - i)) :: kp_) (fun rs_ (i : Nat) (cur : List Item) => Atom.own 60 64 (.slice A n c) n (fl iL (cur)) :: rs_) (fun (i : Nat) (cur : List Item) => n - i) (0) (xs) (Picks.cons (Pick.here _ _) (Picks.nil _)) (FrSub.cons rfl (by first | rfl | ((try dsimp only); congr 1; omega) | exact congrArg (Value.int _) (by (try dsimp only); omega)) (FrSub.cons rfl (by first | rfl | ((try dsimp only); congr 1; omega) | exact congrArg (Value.int _) (by (try dsimp only); omega)) (FrSub.cons rfl (by first | rfl | ((try dsimp only); congr 1; omega) | exact congrArg (Value.int _) (by (try dsimp only); omega)) FrSub.nil))) (fun _ _ _  => rfl) (RevI.zero xs) ?_
  rintro i cur h
  have h1 : cur.length = n := by rw [h.1, hl]
  refine JC_seq ?_
  refine JC_seq ?_
  refine JC_region ?_
  refine JL_R rfl (R_move rfl) ?_
  refine JL_R rfl (R_move rfl) ?_
  refine JL_R rfl (R_lt rfl rfl) ?_
  refine JL_nil ?_
  refine JQ_then ?_
  refine JC_cond rfl (fun hc9 => ?_) (fun hc9 => ?_)
  · try simp only [Bool.or_eq_true, Bool.and_eq_true, Bool.or_eq_false_iff, Bool.and_eq_false_iff, decide_eq_true_eq, decide_eq_false_iff_not, Bool.not_eq_true', Bool.not_eq_false', beq_iff_eq] at hc9
    refine JC_skip ?_
    refine JQ_then ?_
    refine JC_seq ?_
    refine JC_block ?_
    refine JC_draw [2, 3, 8, 9] rfl (.take 0 (.take 1 (.take 2 (.take 3 (.take 4 (.take 5 (.take 6 (.take 7 (.take 8 (.take 9 (.take 10 (.take 11 (.take 12 (.exec 13 (.take 14 (.exec 15 (.done))))))))))))))))) _ (by kernel_rfl) (fun _ h => h) (by repeat (first | with_reducible exact Ret.noP | with_reducible apply NoP.block | with_reducible apply NoP.then)) ?_
    refine JP_R rfl rfl rfl (R_move rfl) ?_
    refine JP_R rfl rfl rfl (R_move rfl) ?_
    refine JP_RQ rfl rfl (R_move rfl) ?_
    refine JP_RQ rfl rfl (R_move rfl) ?_
    refine JP_R rfl rfl rfl (R_move rfl) ?_
    refine JP_R rfl rfl rfl (R_move rfl) ?_
    refine JP_R rfl rfl rfl (R_indexE (i := n - 1 - i) Try.underlying51 ti60 rfl rfl (RngIn.own (List.Mem.head _)) (by omega) (by omega) (by first | (rw [fl_length itemP_len]; omega) | (rw [fl_length itemP_len]; simp only [List.length_set, List.length_drop, List.length_take]; omega) | (simp only [fl_length, bcs_length, List.length_map, List.length_cons]; omega) | omega | (simp [fl_length] <;> omega))) ?_
    refine JP_R rfl rfl rfl (R_elA Item.zero itemP_len Try.underlying60 rfl ti60 (by decide) rfl (RngIn.own (List.Mem.head _)) (by first | omega | (simp only [List.length_drop, List.length_take]; omega) | simpa using by omega)) ?_
    refine JP_RQ rfl rfl (R_move rfl) ?_
    refine JP_RQ rfl rfl (R_move rfl) ?_
    refine JP_R rfl rfl rfl (R_indexE (i := i) Try.underlying51 ti60 rfl rfl (RngIn.own (List.Mem.head _)) (by omega) (by omega) (by first | (rw [fl_length itemP_len]; omega) | (rw [fl_length itemP_len]; simp only [List.length_set, List.length_drop, List.length_take]; omega) | (simp only [fl_length, bcs_length, List.length_map, List.length_cons]; omega) | omega | (simp [fl_length] <;> omega))) ?_
    refine JP_R rfl rfl rfl (R_elA Item.zero itemP_len Try.underlying60 rfl ti60 (by decide) rfl (RngIn.own (List.Mem.head _)) (by first | omega | (simp only [List.length_drop, List.length_take]; omega) | simpa using by omega)) ?_
    refine JP_R rfl rfl rfl (R_indexE (i := i) Try.underlying51 ti60 rfl rfl (RngIn.own (List.Mem.head _)) (by omega) (by omega) (by first | (rw [fl_length itemP_len]; omega) | (rw [fl_length itemP_len]; simp only [List.length_set, List.length_drop, List.length_take]; omega) | (simp only [fl_length, bcs_length, List.length_map, List.length_cons]; omega) | omega | (simp [fl_length] <;> omega))) ?_
    refine JP_E0 rfl (E_storeEl itemP_len itemP_ones ti60 rfl rfl (Pick.here _ _) (by decide) (by first | omega | (simp; omega))) ?_
    rintro _ _ ⟨rfl, rfl⟩
    refine JPn_bar (by kernel_rfl) ?_
    refine JP_R rfl rfl rfl (R_indexE (i := n - 1 - i) Try.underlying51 ti60 rfl rfl (RngIn.own (List.Mem.head _)) (by omega) (by omega) (by first | (rw [fl_length itemP_len]; omega) | (rw [fl_length itemP_len]; simp only [List.length_set, List.length_drop, List.length_take]; omega) | (simp only [fl_length, bcs_length, List.length_map, List.length_cons]; omega) | omega | (simp [fl_length] <;> omega))) ?_
    refine JP_E0 rfl (E_storeEl itemP_len itemP_ones ti60 rfl rfl (Pick.here _ _) (by decide) (by first | omega | (simp; omega))) ?_
    rintro _ _ ⟨rfl, rfl⟩
    refine JPn_bar (by kernel_rfl) ?_
    refine JP_done ?_
    refine JQ_block ?_
    refine JQ_then ?_
    refine JC_region ?_
    refine JL_R rfl (R_move rfl) ?_
    first
      | refine JL_R rfl ((R_add rfl rfl).eq (i64_in (by omega))) ?_
      | refine JL_R rfl (R_add rfl rfl) ?_
    refine JL_R rfl (R_move rfl) ?_
    first
      | refine JL_R rfl ((R_sub rfl rfl).eq (i64_in (by omega))) ?_
      | refine JL_R rfl (R_sub rfl rfl) ?_
    refine JL_R rfl (R_assign rfl) ?_
    refine JL_R rfl (R_assign rfl) ?_
    refine JL_nil ?_
    refine JQ_nxt2 (i + 1) (sw Item.zero cur i (n - 1 - i)) (Picks.cons (Pick.here _ _) (Picks.nil _)) (FrSub.cons rfl (by first | rfl | ((try dsimp only); congr 1; omega) | exact congrArg (Value.int _) (by (try dsimp only); omega)) (FrSub.cons rfl (by first | rfl | ((try dsimp only); congr 1; omega) | exact congrArg (Value.int _) (by (try dsimp only); omega)) (FrSub.cons rfl (by first | rfl | ((try dsimp only); congr 1; omega) | exact congrArg (Value.int _) (by (try dsimp only); omega)) FrSub.nil))) (by (try dsimp only); omega) (by first | exact RevI.step Item.zero h (by omega) (by omega) | (dsimp only; exact RevI.step Item.zero h (by omega) (by omega)))
  · try simp only [Bool.or_eq_true, Bool.and_eq_true, Bool.or_eq_false_iff, Bool.and_eq_false_iff, decide_eq_true_eq, decide_eq_false_iff_not, Bool.not_eq_true', Bool.not_eq_false', beq_iff_eq] at hc9
    refine JC_exit ?_
    refine JQ_then_exit ?_
    refine JQ_then_exit ?_
    refine JQ_block_exit ?_
    refine end_of_ret ?_
    exact ret0 Try.results87 ⟨rfl, _, by rw [h.done (by omega)], rfl⟩ (Picks.cons (Pick.here _ _) (Picks.nil _)) rfl
set_option maxRecDepth 100000 in
set_option maxHeartbeats 1000000 in
theorem c_ClipI (A : Option Addr) (n c : Nat) (hc : n ≤ c) : CT Try.prog 90 [.slice A n c] [] [] (pV (.slice A n n)) := by
  refine CT_of Try.func90 rfl Try.ntmps90 rfl (fun w0 => ?_)
  refine JC_seq ?_
  refine JC_region ?_
  refine JL_R rfl (R_assign rfl) ?_
  refine JL_nil ?_
  refine JQ_then ?_
  refine JC_seq ?_
  refine JC_region ?_
  refine JL_R rfl (R_move rfl) ?_
  refine JL_R rfl (R_move rfl) ?_
  refine JL_R rfl (R_len_slice Try.underlying51 rfl) ?_
  refine JL_R rfl (R_move rfl) ?_
  refine JL_R rfl (R_len_slice Try.underlying51 rfl) ?_
  refine JL_R rfl (R_slice3 Try.underlying51 ti60 rfl rfl rfl (by first | rfl | omega) (by first | rfl | omega) (by omega)) ?_
  refine JL_R rfl (R_assign rfl) ?_
  refine JL_nil ?_
  refine JQ_then ?_
  refine JC_ret ?_
  refine ret1 Try.results90 (RV_tmp rfl) ⟨rfl, rfl⟩ (Picks.nil _) rfl
set_option maxRecDepth 100000 in
set_option maxHeartbeats 1000000 in
theorem c_Compact (A : Option Addr) (n c : Nat) (xs : List Item) (hl : xs.length = n) (hN : n ≤ 1000000) (hc : n ≤ c) : CT Try.prog 91 [.slice A n c, .func (.func 92) #[] #[]] [Atom.own 60 64 (.slice A n c) n (fl iL (xs))] [] (pR iL (cpt key xs)) := by
  refine CT_of Try.func91 rfl Try.ntmps91 rfl (fun w0 => ?_)
  refine JC_seq ?_
  refine JC_region ?_
  refine JL_R rfl (R_assign rfl) ?_
  refine JL_nil ?_
  refine JQ_then ?_
  refine JC_seq ?_
  refine JC_seq ?_
  refine JC_region ?_
  refine JL_R rfl (R_move rfl) ?_
  refine JL_R rfl (R_len_slice Try.underlying51 rfl) ?_
  refine JL_R rfl (R_lt rfl rfl) ?_
  refine JL_nil ?_
  refine JQ_then ?_
  refine JC_cond rfl (fun hc10 => ?_) (fun hc10 => ?_)
  · try simp only [Bool.or_eq_true, Bool.and_eq_true, Bool.or_eq_false_iff, Bool.and_eq_false_iff, decide_eq_true_eq, decide_eq_false_iff_not, Bool.not_eq_true', Bool.not_eq_false', beq_iff_eq] at hc10
    refine JC_seq ?_
    refine JC_region ?_
    refine JL_R rfl (R_move rfl) ?_
    refine JL_R rfl (R_assign rfl) ?_
    refine JL_nil ?_
    refine JQ_then ?_
    refine JC_ret ?_
    refine JQ_then_ret ?_
    refine JQ_freeze (φ := rd A (fl iL (cpt key xs))) (Pick.here _ _) (by rw [cpt_short key xs (by omega)]; exact freeze_own) ?_
    refine ret1 Try.results91 (RV_tmp rfl) ⟨A, c, by rw [cpt_short key xs (by omega), hl], by rw [cpt_short key xs (by omega), hl]; exact hc, rfl⟩ (Picks.cons (Pick.here _ _) (Picks.nil _)) rfl
  · try simp only [Bool.or_eq_true, Bool.and_eq_true, Bool.or_eq_false_iff, Bool.and_eq_false_iff, decide_eq_true_eq, decide_eq_false_iff_not, Bool.not_eq_true', Bool.not_eq_false', beq_iff_eq] at hc10
    refine JC_skip ?_
    refine JQ_then ?_
    refine JC_seq ?_
    refine JC_seq ?_
    refine JC_region ?_
    refine JL_R rfl (R_assign rfl) ?_
    refine JL_nil ?_
    refine JQ_then ?_
    refine JC_block ?_
    refine JC_loop1 (kp := [(0, _), (1, _)]) (fun (i : Nat) => 1 ≤ i ∧ i ≤ n ∧ cpt key (xs.take i) = xs.take i) (fun kp_ (i : Nat) => (5, .int .i64 (i : Int)) :: kp_) (fun rs_ (i : Nat) => rs_) (fun (i : Nat) => n - i) (1) (Picks.nil _) (FrSub.cons rfl (by first | rfl | ((try dsimp only); congr 1; omega) | exact congrArg (Value.int _) (by (try dsimp only); omega)) (FrSub.cons rfl (by first | rfl | ((try dsimp only); congr 1; omega) | exact congrArg (Value.int _) (by (try dsimp only); omega)) (FrSub.cons rfl (by first | rfl | ((try dsimp only); congr 1; omega) | exact congrArg (Value.int _) (by (try dsimp only); omega)) FrSub.nil))) (fun _ _  => rfl) (⟨by omega, by omega, cpt_one key xs (by omega)⟩) ?_
    rintro i ⟨h1, h2, h3⟩
    refine JC_seq ?_
    refine JC_seq ?_
    refine JC_region ?_
    refine JL_R rfl (R_move rfl) ?_
    refine JL_R rfl (R_move rfl) ?_
    refine JL_R rfl (R_len_slice Try.underlying51 rfl) ?_
    refine JL_R rfl (R_lt rfl rfl) ?_
    refine JL_nil ?_
    refine JQ_then ?_
    refine JC_cond rfl (fun hc15 => ?_) (fun hc15 => ?_)
    · try simp only [Bool.or_eq_true, Bool.and_eq_true, Bool.or_eq_false_iff, Bool.and_eq_false_iff, decide_eq_true_eq, decide_eq_false_iff_not, Bool.not_eq_true', Bool.not_eq_false', beq_iff_eq] at hc15
      refine JC_skip ?_
      refine JQ_then ?_
      refine JC_seq ?_
      refine JC_block ?_
      refine JC_seq ?_
      refine JC_draw [] rfl (.take 0 (.take 1 (.take 2 (.take 3 (.take 4 (.take 5 (.take 6 (.take 7 (.take 8 (.take 9 (.exec 10 (.done)))))))))))) _ (by kernel_rfl) (fun _ h => h) (by repeat (first | with_reducible exact Ret.noP | with_reducible apply NoP.block | with_reducible apply NoP.then)) ?_
      refine JP_R rfl rfl rfl (R_move rfl) ?_
      refine JP_R rfl rfl rfl (R_move rfl) ?_
      refine JP_R rfl rfl rfl (R_move rfl) ?_
      refine JP_R rfl rfl rfl (R_indexE (i := i) Try.underlying51 ti60 rfl rfl (RngIn.own (List.Mem.head _)) (by omega) (by omega) (by first | (rw [fl_length itemP_len]; omega) | (rw [fl_length itemP_len]; simp only [List.length_set, List.length_drop, List.length_take]; omega) | (simp only [fl_length, bcs_length, List.length_map, List.length_cons]; omega) | omega | (simp [fl_length] <;> omega))) ?_
      refine JP_R rfl rfl rfl (R_elA Item.zero itemP_len Try.underlying60 rfl ti60 (by decide) rfl (RngIn.own (List.Mem.head _)) (by first | omega | (simp only [List.length_drop, List.length_take]; omega) | simpa using by omega)) ?_
      refine JP_R rfl rfl rfl (R_move rfl) ?_
      refine JP_R rfl rfl rfl (R_move rfl) ?_
      first
        | refine JP_R rfl rfl rfl ((R_sub rfl rfl).eq (i64_in (by omega))) ?_
        | refine JP_R rfl rfl rfl (R_sub rfl rfl) ?_
      refine JP_R rfl rfl rfl (R_indexE (i := i - 1) Try.underlying51 ti60 rfl rfl (RngIn.own (List.Mem.head _)) (by omega) (by omega) (by first | (rw [fl_length itemP_len]; omega) | (rw [fl_length itemP_len]; simp only [List.length_set, List.length_drop, List.length_take]; omega) | (simp only [fl_length, bcs_length, List.length_map, List.length_cons]; omega) | omega | (simp [fl_length] <;> omega))) ?_
      refine JP_R rfl rfl rfl (R_elA Item.zero itemP_len Try.underlying60 rfl ti60 (by decide) rfl (RngIn.own (List.Mem.head _)) (by first | omega | (simp only [List.length_drop, List.length_take]; omega) | simpa using by omega)) ?_
      refine JP_E rfl rfl (E_callFV ok92 rfl rfl rfl ents_nil (c_Set1 _ _)) ?_
      rintro _ _ ⟨rfl, rfl⟩
      refine JPn_all (fun _ h => h) ?_
      refine JP_done ?_
      refine JQ_then ?_
      refine JC_cond rfl (fun hc28 => ?_) (fun hc28 => ?_)
      · rw [index_eq] at hc28; simp only [decide_eq_true_eq] at hc28
        refine JC_seq ?_
        refine JC_region ?_
        refine JL_R rfl (R_move rfl) ?_
        refine JL_R rfl (R_move rfl) ?_
        refine JL_R rfl (R_sliceFrom (m := i) Try.underlying51 ti60 rfl rfl (by first | rfl | omega) (by omega) (by omega)) ?_
        refine JL_R rfl (R_assign rfl) ?_
        refine JL_nil ?_
        refine JQ_then ?_
        refine JC_seq ?_
        refine JC_seq ?_
        refine JC_region ?_
        refine JL_R rfl (R_assign rfl) ?_
        refine JL_nil ?_
        refine JQ_then ?_
        refine JC_block ?_
        refine JC_loop3 (kp := [(0, _), (1, _), (6, _)]) (fun (q : Nat) (j : Nat) (cur : List Item) => i < j ∧ Cpt key xs q j cur) (fun kp_ (q : Nat) (j : Nat) (cur : List Item) => (5, .int .i64 (q : Int)) :: (7, .int .i64 ((j - i : Nat) : Int)) :: kp_) (fun rs_ (q : Nat) (j : Nat) (cur : List Item) => Atom.own 60 64 (.slice A n c) n (fl iL (cur)) :: rs_) (fun (q : Nat) (j : Nat) (cur : List Item) => n - j) (i) (i + 1) (xs) (Picks.cons (Pick.here _ _) (Picks.nil _)) (FrSub.cons rfl (by first | rfl | ((try dsimp only); congr 1; omega) | exact congrArg (Value.int _) (by (try dsimp only); omega)) (FrSub.cons rfl (by first | rfl | ((try dsimp only); congr 1; omega) | exact congrArg (Value.int _) (by (try dsimp only); omega)) (FrSub.cons rfl (by first | rfl | ((try dsimp only); congr 1; omega) | exact congrArg (Value.int _) (by (try dsimp only); omega)) (FrSub.cons rfl (by first | rfl | ((try dsimp only); congr 1; omega) | exact congrArg (Value.int _) (by (try dsimp only); omega)) (FrSub.cons rfl (by first | rfl | ((try dsimp only); congr 1; omega) | exact congrArg (Value.int _) (by (try dsimp only); omega)) FrSub.nil))))) (fun _ _ _ _  => rfl) (⟨by omega, Cpt.start key Item.zero h1 (by omega) h3 hc28⟩) ?_
        rintro q j cur ⟨h4, h5⟩
        have h6 := h5.len
        rw [hl] at h6
        refine JC_seq ?_
        refine JC_seq ?_
        refine JC_region ?_
        refine JL_R rfl (R_move rfl) ?_
        refine JL_R rfl (R_move rfl) ?_
        refine JL_R rfl (R_len_slice Try.underlying51 rfl) ?_
        refine JL_R rfl (R_lt rfl rfl) ?_
        refine JL_nil ?_
        refine JQ_then ?_
        refine JC_cond rfl (fun hc35 => ?_) (fun hc35 => ?_)
        · try simp only [Bool.or_eq_true, Bool.and_eq_true, Bool.or_eq_false_iff, Bool.and_eq_false_iff, decide_eq_true_eq, decide_eq_false_iff_not, Bool.not_eq_true', Bool.not_eq_false', beq_iff_eq] at hc35
          refine JC_skip ?_
          refine JQ_then ?_
          refine JC_seq ?_
          refine JC_block ?_
          refine JC_seq ?_
          refine JC_draw [] rfl (.take 0 (.take 1 (.take 2 (.take 3 (.take 4 (.take 5 (.take 6 (.take 7 (.take 8 (.take 9 (.exec 10 (.take 11 (.done))))))))))))) _ (by kernel_rfl) (fun _ h => h) (by repeat (first | with_reducible exact Ret.noP | with_reducible apply NoP.block | with_reducible apply NoP.then)) ?_
          refine JP_R rfl rfl rfl (R_move rfl) ?_
          refine JP_R rfl rfl rfl (R_move rfl) ?_
          refine JP_R rfl rfl rfl (R_move rfl) ?_
          refine JP_R rfl rfl rfl (R_indexE (i := j - i) Try.underlying51 ti60 rfl rfl (RngIn.cutE (k := i) itemP_len (RngIn.own (List.Mem.head _)) (by first | omega | (simp <;> omega))) (by omega) (by omega) (by first | (rw [fl_length itemP_len]; omega) | (rw [fl_length itemP_len]; simp only [List.length_set, List.length_drop, List.length_take]; omega) | (simp only [fl_length, bcs_length, List.length_map, List.length_cons]; omega) | omega | (simp [fl_length] <;> omega))) ?_
          refine JP_R rfl rfl rfl (R_elA Item.zero itemP_len Try.underlying60 rfl ti60 (by decide) rfl (RngIn.cutE (k := i) itemP_len (RngIn.own (List.Mem.head _)) (by first | omega | (simp <;> omega))) (by first | omega | (simp only [List.length_drop, List.length_take]; omega) | simpa using by omega)) ?_
          refine JP_R rfl rfl rfl (R_move rfl) ?_
          refine JP_R rfl rfl rfl (R_move rfl) ?_
          first
            | refine JP_R rfl rfl rfl ((R_sub rfl rfl).eq (i64_in (by omega))) ?_
            | refine JP_R rfl rfl rfl (R_sub rfl rfl) ?_
          refine JP_R rfl rfl rfl (R_indexE (i := j - i - 1) Try.underlying51 ti60 rfl rfl (RngIn.cutE (k := i) itemP_len (RngIn.own (List.Mem.head _)) (by first | omega | (simp <;> omega))) (by omega) (by omega) (by first | (rw [fl_length itemP_len]; omega) | (rw [fl_length itemP_len]; simp only [List.length_set, List.length_drop, List.length_take]; omega) | (simp only [fl_length, bcs_length, List.length_map, List.length_cons]; omega) | omega | (simp [fl_length] <;> omega))) ?_
          refine JP_R rfl rfl rfl (R_elA Item.zero itemP_len Try.underlying60 rfl ti60 (by decide) rfl (RngIn.cutE (k := i) itemP_len (RngIn.own (List.Mem.head _)) (by first | omega | (simp <;> omega))) (by first | omega | (simp only [List.length_drop, List.length_take]; omega) | simpa using by omega)) ?_
          refine JP_E rfl rfl (E_callFV ok92 rfl rfl rfl ents_nil (c_Set1 _ _)) ?_
          rintro _ _ ⟨rfl, rfl⟩
          refine JPn_all (fun _ h => h) ?_
          refine JP_R rfl rfl rfl (R_not rfl) ?_
          refine JP_done ?_
          refine JQ_then ?_
          refine JC_cond rfl (fun hc49 => ?_) (fun hc49 => ?_)
          · rw [index_eq, getD_drop, getD_drop, show i + (j - i) = j by omega, show i + (j - i - 1) = j - 1 by omega] at hc49; simp only [Bool.not_eq_true', decide_eq_false_iff_not] at hc49
            refine JC_seq ?_
            refine JC_region ?_
            refine JL_R rfl (R_move rfl) ?_
            refine JL_R rfl (R_move rfl) ?_
            refine JL_R rfl (R_move rfl) ?_
            refine JL_R rfl (R_move rfl) ?_
            refine JL_R rfl (R_indexE (i := j - i) Try.underlying51 ti60 rfl rfl (RngIn.cutE (k := i) itemP_len (RngIn.own (List.Mem.head _)) (by first | omega | (simp <;> omega))) (by omega) (by omega) (by first | (rw [fl_length itemP_len]; omega) | (rw [fl_length itemP_len]; simp only [List.length_set, List.length_drop, List.length_take]; omega) | (simp only [fl_length, bcs_length, List.length_map, List.length_cons]; omega) | omega | (simp [fl_length] <;> omega))) ?_
            refine JL_R rfl (R_elA Item.zero itemP_len Try.underlying60 rfl ti60 (by decide) rfl (RngIn.cutE (k := i) itemP_len (RngIn.own (List.Mem.head _)) (by first | omega | (simp <;> omega))) (by first | omega | (simp only [List.length_drop, List.length_take]; omega) | simpa using by omega)) ?_
            refine JL_R rfl (R_indexE (i := q) Try.underlying51 ti60 rfl rfl (RngIn.own (List.Mem.head _)) (by omega) (by omega) (by first | (rw [fl_length itemP_len]; omega) | (rw [fl_length itemP_len]; simp only [List.length_set, List.length_drop, List.length_take]; omega) | (simp only [fl_length, bcs_length, List.length_map, List.length_cons]; omega) | omega | (simp [fl_length] <;> omega))) ?_
            refine JL_E0 (E_storeEl itemP_len itemP_ones ti60 rfl rfl (Pick.here _ _) (by decide) (by first | omega | (simp; omega))) ?_
            rintro _ _ ⟨rfl, rfl⟩
            refine JL_nil ?_
            refine JQ_then ?_
            refine JC_region ?_
            refine JL_R rfl (R_move rfl) ?_
            first
              | refine JL_R rfl ((R_add rfl rfl).eq (i64_in (by omega))) ?_
              | refine JL_R rfl (R_add rfl rfl) ?_
            refine JL_R rfl (R_assign rfl) ?_
            refine JL_nil ?_
            refine JQ_block ?_
            refine JQ_then ?_
            refine JC_region ?_
            refine JL_R rfl (R_move rfl) ?_
            first
              | refine JL_R rfl ((R_add rfl rfl).eq (i64_in (by omega))) ?_
              | refine JL_R rfl (R_add rfl rfl) ?_
            refine JL_R rfl (R_assign rfl) ?_
            refine JL_nil ?_
            refine JQ_nxt3 (q + 1) (j + 1) (cur.set q ((cur.drop i).getD (j - i) Item.zero)) (Picks.cons (Pick.here _ _) (Picks.nil _)) (FrSub.cons rfl (by first | rfl | ((try dsimp only); congr 1; omega) | exact congrArg (Value.int _) (by (try dsimp only); omega)) (FrSub.cons rfl (by first | rfl | ((try dsimp only); congr 1; omega) | exact congrArg (Value.int _) (by (try dsimp only); omega)) (FrSub.cons rfl (by first | rfl | ((try dsimp only); congr 1; omega) | exact congrArg (Value.int _) (by (try dsimp only); omega)) (FrSub.cons rfl (by first | rfl | ((try dsimp only); congr 1; omega) | exact congrArg (Value.int _) (by (try dsimp only); omega)) (FrSub.cons rfl (by first | rfl | ((try dsimp only); congr 1; omega) | exact congrArg (Value.int _) (by (try dsimp only); omega)) FrSub.nil))))) (by (try dsimp only); omega) (by first | exact ⟨by omega, by rw [getD_drop, show i + (j - i) = j by omega]; exact Cpt.keep key Item.zero h5 (by omega) hc49⟩ | (dsimp only; exact ⟨by omega, by rw [getD_drop, show i + (j - i) = j by omega]; exact Cpt.keep key Item.zero h5 (by omega) hc49⟩))
          · rw [index_eq, getD_drop, getD_drop, show i + (j - i) = j by omega, show i + (j - i - 1) = j - 1 by omega] at hc49; simp only [Bool.not_eq_false', decide_eq_true_eq] at hc49
            refine JC_skip ?_
            refine JQ_block ?_
            refine JQ_then ?_
            refine JC_region ?_
            refine JL_R rfl (R_move rfl) ?_
            first
              | refine JL_R rfl ((R_add rfl rfl).eq (i64_in (by omega))) ?_
              | refine JL_R rfl (R_add rfl rfl) ?_
            refine JL_R rfl (R_assign rfl) ?_
            refine JL_nil ?_
            refine JQ_nxt3 (q) (j + 1) (cur) (Picks.cons (Pick.here _ _) (Picks.nil _)) (FrSub.cons rfl (by first | rfl | ((try dsimp only); congr 1; omega) | exact congrArg (Value.int _) (by (try dsimp only); omega)) (FrSub.cons rfl (by first | rfl | ((try dsimp only); congr 1; omega) | exact congrArg (Value.int _) (by (try dsimp only); omega)) (FrSub.cons rfl (by first | rfl | ((try dsimp only); congr 1; omega) | exact congrArg (Value.int _) (by (try dsimp only); omega)) (FrSub.cons rfl (by first | rfl | ((try dsimp only); congr 1; omega) | exact congrArg (Value.int _) (by (try dsimp only); omega)) (FrSub.cons rfl (by first | rfl | ((try dsimp only); congr 1; omega) | exact congrArg (Value.int _) (by (try dsimp only); omega)) FrSub.nil))))) (by (try dsimp only); omega) (by first | exact ⟨by omega, Cpt.skip key Item.zero h5 (by omega) hc49⟩ | (dsimp only; exact ⟨by omega, Cpt.skip key Item.zero h5 (by omega) hc49⟩))
        · try simp only [Bool.or_eq_true, Bool.and_eq_true, Bool.or_eq_false_iff, Bool.and_eq_false_iff, decide_eq_true_eq, decide_eq_false_iff_not, Bool.not_eq_true', Bool.not_eq_false', beq_iff_eq] at hc35
          refine JC_exit ?_
          refine JQ_then_exit ?_
          refine JQ_then_exit ?_
          refine JQ_block_exit ?_
          refine JQ_then ?_
          refine JC_seq ?_
          refine JC_region ?_
          refine JL_R rfl (R_move rfl) ?_
          refine JL_R rfl (R_move rfl) ?_
          refine JL_R rfl (R_sliceFrom (m := q) Try.underlying51 ti60 rfl rfl (by first | rfl | omega) (by omega) (by omega)) ?_
          refine JL_E0 (E_clear (k := q) Try.underlying51 ti60 rfl (itemP_ones Item.zero) (by decide) rfl (Pick.here _ _) (by omega) (by omega) (by rw [fl_length itemP_len]; omega)) ?_
          rintro _ _ ⟨zs, rfl, rfl⟩
          refine JL_nil ?_
          refine JQ_then ?_
          refine JC_seq ?_
          refine JC_region ?_
          refine JL_R rfl (R_move rfl) ?_
          refine JL_R rfl (R_move rfl) ?_
          refine JL_R rfl (R_sliceTo (m := q) Try.underlying51 ti60 rfl rfl (by first | rfl | omega) (by omega)) ?_
          refine JL_R rfl (R_assign rfl) ?_
          refine JL_nil ?_
          refine JQ_then ?_
          refine JC_ret ?_
          refine JQ_block_ret ?_
          refine JQ_then_ret ?_
          refine JQ_then_ret ?_
          refine JQ_block_ret ?_
          refine JQ_then_ret ?_
          have hq : fl iL cur = fl iL (cpt key xs) ++ fl iL (cur.drop q) := by rw [← fl_append]; congr 1; have := h5.2.2.2.2.1; rw [show j = xs.length by omega, List.take_length] at this; rw [← this, List.take_append_drop]
          have hq2 : (cpt key xs).length = q := by have := congrArg List.length h5.2.2.2.2.1; rw [show j = xs.length by omega, List.take_length, List.length_take] at this; omega
          refine JQ_freeze (φ := rd A (fl iL (cpt key xs))) (Pick.here _ _) (freeze_pre (by rw [hq, List.take_left' (by rw [fl_length itemP_len, hq2])])) ?_
          refine ret1 Try.results91 (RV_tmp rfl) ⟨A, c, by rw [hq2], by omega, rfl⟩ (Picks.cons (Pick.here _ _) (Picks.nil _)) rfl
      · rw [index_eq] at hc28; simp only [decide_eq_false_iff_not] at hc28
        refine JC_skip ?_
        refine JQ_block ?_
        refine JQ_then ?_
        refine JC_region ?_
        refine JL_R rfl (R_move rfl) ?_
        first
          | refine JL_R rfl ((R_add rfl rfl).eq (i64_in (by omega))) ?_
          | refine JL_R rfl (R_add rfl rfl) ?_
        refine JL_R rfl (R_assign rfl) ?_
        refine JL_nil ?_
        refine JQ_nxt1 (i + 1) (Picks.cons (Pick.here _ _) (Picks.nil _)) (FrSub.cons rfl (by first | rfl | ((try dsimp only); congr 1; omega) | exact congrArg (Value.int _) (by (try dsimp only); omega)) (FrSub.cons rfl (by first | rfl | ((try dsimp only); congr 1; omega) | exact congrArg (Value.int _) (by (try dsimp only); omega)) (FrSub.cons rfl (by first | rfl | ((try dsimp only); congr 1; omega) | exact congrArg (Value.int _) (by (try dsimp only); omega)) FrSub.nil))) (by (try dsimp only); omega) (by first | exact ⟨by omega, by omega, cpt_next xs i h1 (by omega) h3 hc28⟩ | (dsimp only; exact ⟨by omega, by omega, cpt_next xs i h1 (by omega) h3 hc28⟩))
    · try simp only [Bool.or_eq_true, Bool.and_eq_true, Bool.or_eq_false_iff, Bool.and_eq_false_iff, decide_eq_true_eq, decide_eq_false_iff_not, Bool.not_eq_true', Bool.not_eq_false', beq_iff_eq] at hc15
      refine JC_exit ?_
      refine JQ_then_exit ?_
      refine JQ_then_exit ?_
      refine JQ_block_exit ?_
      refine JQ_then ?_
      refine JC_seq ?_
      refine JC_region ?_
      refine JL_R rfl (R_move rfl) ?_
      refine JL_R rfl (R_assign rfl) ?_
      refine JL_nil ?_
      refine JQ_then ?_
      refine JC_ret ?_
      have hq : cpt key xs = xs := by rw [show i = xs.length by omega, List.take_length] at h3; exact h3
      refine JQ_freeze (φ := rd A (fl iL (cpt key xs))) (Pick.here _ _) (by rw [hq]; exact freeze_own) ?_
      refine ret1 Try.results91 (RV_tmp rfl) ⟨A, c, by rw [hq, hl], by rw [hq, hl]; exact hc, rfl⟩ (Picks.cons (Pick.here _ _) (Picks.nil _)) rfl
end Go.Proofs.Ytkckakfkeooepaa
