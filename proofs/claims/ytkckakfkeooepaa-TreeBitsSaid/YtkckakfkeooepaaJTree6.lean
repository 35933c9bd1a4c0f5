/- Package slices, of items: the stable sort. -/
import Derived.Test.YtkckakfkeooepaaJTree5
import Derived.Test.YtkckakfkeooepaaJSort4
import Derived.Test.YtkckakfkeooepaaJSlice
namespace Go.Proofs.Ytkckakfkeooepaa
set_option linter.all false
set_option linter.unusedSimpArgs false
set_option linter.unusedVariables false
set_option linter.unnecessarySimpa false
open Go.RowKit
theorem c_mrg (A : Option Addr) (n c : Nat) (hN : n ≤ 1000000) : ∀ (P L R S : List Item) (a m b : Nat) (a1 m1 b1 : Int) (ea : a1 = a) (em : m1 = m) (eb : b1 = b) (ha : P.length = a) (hm : a + L.length = m) (hb : m + R.length = b) (hl : b + S.length = n) (hn0 : 0 < L.length) (hn1 : 0 < R.length) (hL : Srt key L) (hR : Srt key R),
    CT Try.prog 155 [.slice A n c, .int .i64 a1, .int .i64 m1, .int .i64 b1, .func (.func 89) #[] #[]] [Atom.own 60 64 (.slice A n c) n (fl iL (P ++ (L ++ (R ++ S))))] [] (pT fun y => ∃ ys, y = Atom.own 60 64 (.slice A n c) n (fl iL (ys)) ∧ ∃ M, ys = P ++ (M ++ S) ∧ SS key M (L ++ R)) := by
  have H : ∀ b0 : Nat, ∀ (P L R S : List Item) (a m b : Nat) (a1 m1 b1 : Int) (ea : a1 = a) (em : m1 = m) (eb : b1 = b) (ha : P.length = a) (hm : a + L.length = m) (hb : m + R.length = b) (hl : b + S.length = n) (hn0 : 0 < L.length) (hn1 : 0 < R.length) (hL : Srt key L) (hR : Srt key R), b - a < b0 →
    CT Try.prog 155 [.slice A n c, .int .i64 a1, .int .i64 m1, .int .i64 b1, .func (.func 89) #[] #[]] [Atom.own 60 64 (.slice A n c) n (fl iL (P ++ (L ++ (R ++ S))))] [] (pT fun y => ∃ ys, y = Atom.own 60 64 (.slice A n c) n (fl iL (ys)) ∧ ∃ M, ys = P ++ (M ++ S) ∧ SS key M (L ++ R)) := by
    intro b0
    induction b0 with
    | zero => intros; omega
    | succ b0 ih =>
      intro P L R S a m b a1 m1 b1 ea em eb ha hm hb hl hn0 hn1 hL hR hlt
      exact c_mrg_step A n c hN P L R S a m b a1 m1 b1 b0 ea em eb ha hm hb hl hn0 hn1 hL hR ih (by omega) _ rfl
  intro P L R S a m b a1 m1 b1 ea em eb ha hm hb hl hn0 hn1 hL hR
  exact H (b - a + 1) P L R S a m b a1 m1 b1 ea em eb ha hm hb hl hn0 hn1 hL hR (by omega)
set_option maxRecDepth 100000 in
set_option maxHeartbeats 1000000 in
theorem c_stable (A : Option Addr) (n c : Nat) (xs : List Item) (hl : xs.length = n) (hN : n ≤ 1000000) : CT Try.prog 131 [.slice A n c, .int .i64 (n : Int), .func (.func 89) #[] #[]] [Atom.own 60 64 (.slice A n c) n (fl iL (xs))] [] (pT fun y => ∃ ys, y = Atom.own 60 64 (.slice A n c) n (fl iL (ys)) ∧ SS key ys xs) := by
  refine CT_of Try.func131 rfl Try.ntmps131 rfl (fun w0 => ?_)
  refine JC_seq ?_
  refine JC_region ?_
  refine JL_R rfl (R_assign rfl) ?_
  refine JL_nil ?_
  refine JQ_then ?_
  refine JC_seq ?_
  refine JC_region ?_
  refine JL_R rfl (R_move rfl) ?_
  refine JL_R rfl (R_assign rfl) ?_
  refine JL_R rfl (R_assign rfl) ?_
  refine JL_nil ?_
  refine JQ_then ?_
  refine JC_seq ?_
  refine JC_block ?_
  refine JC_loop3 (kp := [(0, _), (1, _), (2, _)]) (fun (a : Nat) (P : List Item) (T : List Item) => P.length = a ∧ a + T.length = n ∧ ChF key 20 P ∧ Eqv key (P ++ T) xs) (fun kp_ (a : Nat) (P : List Item) (T : List Item) => (6, .int .i64 20) :: (7, .int .i64 (a : Int)) :: (8, .int .i64 ((a + 20 : Nat) : Int)) :: kp_) (fun rs_ (a : Nat) (P : List Item) (T : List Item) => Atom.own 60 64 (.slice A n c) n (fl iL (P ++ T)) :: rs_) (fun (a : Nat) (P : List Item) (T : List Item) => n - a) (0) ([]) (xs) (Picks.cons (Pick.here _ _) (Picks.nil _)) (FrSub.cons rfl (by first | rfl | ((try dsimp only); congr 1; omega) | exact congrArg (Value.int _) (by (try dsimp only); omega)) (FrSub.cons rfl (by first | rfl | ((try dsimp only); congr 1; omega) | exact congrArg (Value.int _) (by (try dsimp only); omega)) (FrSub.cons rfl (by first | rfl | ((try dsimp only); congr 1; omega) | exact congrArg (Value.int _) (by (try dsimp only); omega)) (FrSub.cons rfl (by first | rfl | ((try dsimp only); congr 1; omega) | exact congrArg (Value.int _) (by (try dsimp only); omega)) (FrSub.cons rfl (by first | rfl | ((try dsimp only); congr 1; omega) | exact congrArg (Value.int _) (by (try dsimp only); omega)) (FrSub.cons rfl (by first | rfl | ((try dsimp only); congr 1; omega) | exact congrArg (Value.int _) (by (try dsimp only); omega)) FrSub.nil)))))) (fun _ _ _ _  => rfl) (⟨rfl, by omega, .nil, Eqv.refl key xs⟩) ?_
  rintro a P T ⟨h1, h2, h3, h4⟩
  refine JC_seq ?_
  refine JC_seq ?_
  refine JC_region ?_
  refine JL_R rfl (R_move rfl) ?_
  refine JL_R rfl (R_move rfl) ?_
  refine JL_R rfl (R_le rfl rfl) ?_
  refine JL_nil ?_
  refine JQ_then ?_
  refine JC_cond rfl (fun hc13 => ?_) (fun hc13 => ?_)
  · try simp only [Bool.or_eq_true, Bool.and_eq_true, Bool.or_eq_false_iff, Bool.and_eq_false_iff, decide_eq_true_eq, decide_eq_false_iff_not, Bool.not_eq_true', Bool.not_eq_false', beq_iff_eq] at hc13
    refine JC_skip ?_
    refine JQ_then ?_
    refine JC_block ?_
    refine JC_seq ?_
    refine JC_conv (y := Atom.own 60 64 (.slice A n c) n (fl iL (P ++ (T.take 20 ++ T.drop 20)))) (Pick.here _ _) (by rw [List.take_append_drop]) ?_
    refine JC_region ?_
    refine JL_R rfl (R_move rfl) ?_
    refine JL_R rfl (R_move rfl) ?_
    refine JL_R rfl (R_move rfl) ?_
    refine JL_R rfl (R_move rfl) ?_
    refine JL_E rfl (E_callT ok154 rfl (Pick.here _ _) rfl ents_nil (c_ins _ _ _ (P) (T.take 20) (T.drop 20) (a) (a + 20) _ _ (by first | rfl | omega) (by first | rfl | omega) (by omega) (by first | omega | (simp <;> omega)) (by first | omega | (simp <;> omega)) hN)) ?_
    rintro _ _ ⟨_, ⟨_, rfl, M, rfl, hM⟩, rfl, rfl⟩
    refine JL_nil ?_
    refine JQ_then ?_
    refine JC_seq ?_
    refine JC_region ?_
    refine JL_R rfl (R_move rfl) ?_
    refine JL_R rfl (R_assign rfl) ?_
    refine JL_nil ?_
    refine JQ_then ?_
    refine JC_region ?_
    refine JL_R rfl (R_move rfl) ?_
    refine JL_R rfl (R_move rfl) ?_
    first
      | refine JL_R rfl ((R_add rfl rfl).eq (i64_in (by omega))) ?_
      | refine JL_R rfl (R_add rfl rfl) ?_
    refine JL_R rfl (R_assign rfl) ?_
    refine JL_nil ?_
    refine JQ_block ?_
    refine JQ_conv (y := Atom.own 60 64 (.slice A n c) n (fl iL ((P ++ M) ++ T.drop 20))) (Pick.here _ _) (by simp only [List.append_assoc, List.append_nil]) ?_
    refine JQ_nxt3 (a + 20) (P ++ M) (T.drop 20) (Picks.cons (Pick.here _ _) (Picks.nil _)) (FrSub.cons rfl (by first | rfl | ((try dsimp only); congr 1; omega) | exact congrArg (Value.int _) (by (try dsimp only); omega)) (FrSub.cons rfl (by first | rfl | ((try dsimp only); congr 1; omega) | exact congrArg (Value.int _) (by (try dsimp only); omega)) (FrSub.cons rfl (by first | rfl | ((try dsimp only); congr 1; omega) | exact congrArg (Value.int _) (by (try dsimp only); omega)) (FrSub.cons rfl (by first | rfl | ((try dsimp only); congr 1; omega) | exact congrArg (Value.int _) (by (try dsimp only); omega)) (FrSub.cons rfl (by first | rfl | ((try dsimp only); congr 1; omega) | exact congrArg (Value.int _) (by (try dsimp only); omega)) (FrSub.cons rfl (by first | rfl | ((try dsimp only); congr 1; omega) | exact congrArg (Value.int _) (by (try dsimp only); omega)) FrSub.nil)))))) (by (try dsimp only); omega) (by first | exact (by have hq := hM.2.1; rw [List.length_take] at hq; have e := Eqv.append key (Eqv.refl key P) (Eqv.append key hM.2 (Eqv.refl key (T.drop 20))); rw [List.take_append_drop] at e; exact ⟨by simp; omega, by simp; omega, .snoc _ _ h3 (by omega) hM.1, by rw [List.append_assoc]; exact e.trans key h4⟩) | (dsimp only; exact (by have hq := hM.2.1; rw [List.length_take] at hq; have e := Eqv.append key (Eqv.refl key P) (Eqv.append key hM.2 (Eqv.refl key (T.drop 20))); rw [List.take_append_drop] at e; exact ⟨by simp; omega, by simp; omega, .snoc _ _ h3 (by omega) hM.1, by rw [List.append_assoc]; exact e.trans key h4⟩)))
  · try simp only [Bool.or_eq_true, Bool.and_eq_true, Bool.or_eq_false_iff, Bool.and_eq_false_iff, decide_eq_true_eq, decide_eq_false_iff_not, Bool.not_eq_true', Bool.not_eq_false', beq_iff_eq] at hc13
    refine JC_exit ?_
    refine JQ_then_exit ?_
    refine JQ_then_exit ?_
    refine JQ_block_exit ?_
    refine JQ_then ?_
    refine JC_seq ?_
    refine JC_conv (y := Atom.own 60 64 (.slice A n c) n (fl iL (P ++ (T ++ [])))) (Pick.here _ _) (by simp only [List.append_assoc, List.append_nil]) ?_
    refine JC_region ?_
    refine JL_R rfl (R_move rfl) ?_
    refine JL_R rfl (R_move rfl) ?_
    refine JL_R rfl (R_move rfl) ?_
    refine JL_R rfl (R_move rfl) ?_
    refine JL_E rfl (E_callT ok154 rfl (Pick.here _ _) rfl ents_nil (c_ins _ _ _ (P) (T) ([]) (a) (n) _ _ (by first | rfl | omega) (by first | rfl | omega) (by omega) (by first | omega | (simp <;> omega)) (by first | omega | (simp <;> omega)) hN)) ?_
    rintro _ _ ⟨_, ⟨_, rfl, M, rfl, hM⟩, rfl, rfl⟩
    refine JL_nil ?_
    refine JQ_then ?_
    refine JC_block ?_
    refine JC_loop2 (kp := [(0, _), (1, _), (2, _)]) (fun (bs : Nat) (cur : List Item) => 20 ≤ bs ∧ cur.length = n ∧ Chs key bs cur ∧ Eqv key cur xs ∧ bs ≤ 2000000) (fun kp_ (bs : Nat) (cur : List Item) => (6, .int .i64 (bs : Int)) :: kp_) (fun rs_ (bs : Nat) (cur : List Item) => Atom.own 60 64 (.slice A n c) n (fl iL (cur)) :: rs_) (fun (bs : Nat) (cur : List Item) => n - bs) (20) (P ++ (M ++ [])) (Picks.cons (Pick.here _ _) (Picks.nil _)) (FrSub.cons rfl (by first | rfl | ((try dsimp only); congr 1; omega) | exact congrArg (Value.int _) (by (try dsimp only); omega)) (FrSub.cons rfl (by first | rfl | ((try dsimp only); congr 1; omega) | exact congrArg (Value.int _) (by (try dsimp only); omega)) (FrSub.cons rfl (by first | rfl | ((try dsimp only); congr 1; omega) | exact congrArg (Value.int _) (by (try dsimp only); omega)) (FrSub.cons rfl (by first | rfl | ((try dsimp only); congr 1; omega) | exact congrArg (Value.int _) (by (try dsimp only); omega)) FrSub.nil)))) (fun _ _ _  => rfl) ((by have hq := hM.2.1; rw [List.append_nil]; exact ⟨by omega, by simp; omega, ChF.chs key h3 (.last _ (by omega) hM.1), (Eqv.append key (Eqv.refl key P) hM.2).trans key h4, by omega⟩)) ?_
    rintro bs cur ⟨h5, h6, h7, h8, h8'⟩
    refine JC_seq ?_
    refine JC_seq ?_
    refine JC_region ?_
    skip
    refine JL_R rfl (R_move rfl) ?_
    refine JL_R rfl (R_move rfl) ?_
    refine JL_R rfl (R_lt rfl rfl) ?_
    refine JL_nil ?_
    refine JQ_then ?_
    refine JC_cond rfl (fun hc30 => ?_) (fun hc30 => ?_)
    · try simp only [Bool.or_eq_true, Bool.and_eq_true, Bool.or_eq_false_iff, Bool.and_eq_false_iff, decide_eq_true_eq, decide_eq_false_iff_not, Bool.not_eq_true', Bool.not_eq_false', beq_iff_eq] at hc30
      refine JC_skip ?_
      refine JQ_then ?_
      refine JC_block ?_
      refine JC_seq ?_
      refine JC_region ?_
      refine JL_R rfl (R_move rfl) ?_
      first
        | refine JL_R rfl ((R_mul rfl rfl).eq (i64_in (by omega))) ?_
        | refine JL_R rfl (R_mul rfl rfl) ?_
      refine JL_R rfl (R_assign rfl) ?_
      refine JL_R rfl (R_assign rfl) ?_
      refine JL_nil ?_
      refine JQ_then ?_
      refine JC_seq ?_
      refine JC_block ?_
      refine JC_loop3 (kp := [(0, _), (1, _), (2, _), (6, _)]) (fun (a : Nat) (P : List Item) (T : List Item) => P.length = a ∧ a + T.length = n ∧ ChF key (2 * bs) P ∧ Chs key bs T ∧ Eqv key (P ++ T) xs) (fun kp_ (a : Nat) (P : List Item) (T : List Item) => (7, .int .i64 (a : Int)) :: (8, .int .i64 ((a + 2 * bs : Nat) : Int)) :: kp_) (fun rs_ (a : Nat) (P : List Item) (T : List Item) => Atom.own 60 64 (.slice A n c) n (fl iL (P ++ T)) :: rs_) (fun (a : Nat) (P : List Item) (T : List Item) => n - a) (0) ([]) (cur) (Picks.cons (Pick.here _ _) (Picks.nil _)) (FrSub.cons rfl (by first | rfl | ((try dsimp only); congr 1; omega) | exact congrArg (Value.int _) (by (try dsimp only); omega)) (FrSub.cons rfl (by first | rfl | ((try dsimp only); congr 1; omega) | exact congrArg (Value.int _) (by (try dsimp only); omega)) (FrSub.cons rfl (by first | rfl | ((try dsimp only); congr 1; omega) | exact congrArg (Value.int _) (by (try dsimp only); omega)) (FrSub.cons rfl (by first | rfl | ((try dsimp only); congr 1; omega) | exact congrArg (Value.int _) (by (try dsimp only); omega)) (FrSub.cons rfl (by first | rfl | ((try dsimp only); congr 1; omega) | exact congrArg (Value.int _) (by (try dsimp only); omega)) (FrSub.cons rfl (by first | rfl | ((try dsimp only); congr 1; omega) | exact congrArg (Value.int _) (by (try dsimp only); omega)) FrSub.nil)))))) (fun _ _ _ _  => rfl) (⟨rfl, by omega, .nil, h7, h8⟩) ?_
      rintro a P T ⟨h1, h2, h3, h4, h9⟩
      refine JC_seq ?_
      refine JC_seq ?_
      refine JC_region ?_
      refine JL_R rfl (R_move rfl) ?_
      refine JL_R rfl (R_move rfl) ?_
      refine JL_R rfl (R_le rfl rfl) ?_
      refine JL_nil ?_
      refine JQ_then ?_
      refine JC_cond rfl (fun hc35 => ?_) (fun hc35 => ?_)
      · try simp only [Bool.or_eq_true, Bool.and_eq_true, Bool.or_eq_false_iff, Bool.and_eq_false_iff, decide_eq_true_eq, decide_eq_false_iff_not, Bool.not_eq_true', Bool.not_eq_false', beq_iff_eq] at hc35
        refine JC_skip ?_
        refine JQ_then ?_
        refine JC_block ?_
        refine JC_seq ?_
        obtain ⟨w, v, T, rfl, hw3, hv3, hw1, hw2, ht⟩ := h4.two key (by omega) (by omega)
        simp only [List.length_append] at h2
        refine JC_region ?_
        refine JL_R rfl (R_move rfl) ?_
        refine JL_R rfl (R_move rfl) ?_
        refine JL_R rfl (R_move rfl) ?_
        refine JL_R rfl (R_move rfl) ?_
        first
          | refine JL_R rfl ((R_add rfl rfl).eq (i64_in (by omega))) ?_
          | refine JL_R rfl (R_add rfl rfl) ?_
        refine JL_R rfl (R_move rfl) ?_
        refine JL_R rfl (R_move rfl) ?_
        refine JL_E rfl (E_callT ok155 rfl (Pick.here _ _) rfl ents_nil (c_mrg _ _ _ hN (P) (w) (v) (T) (a) (a + bs) (a + 2 * bs) _ _ _ (by first | rfl | omega) (by first | rfl | omega) (by first | rfl | omega) (by omega) (by omega) (by omega) (by first | omega | (simp <;> omega)) (by omega) (by omega) hw1 hw2)) ?_
        rintro _ _ ⟨_, ⟨_, rfl, M, rfl, hM⟩, rfl, rfl⟩
        refine JL_nil ?_
        refine JQ_then ?_
        refine JC_seq ?_
        refine JC_region ?_
        refine JL_R rfl (R_move rfl) ?_
        refine JL_R rfl (R_assign rfl) ?_
        refine JL_nil ?_
        refine JQ_then ?_
        refine JC_region ?_
        refine JL_R rfl (R_move rfl) ?_
        refine JL_R rfl (R_move rfl) ?_
        first
          | refine JL_R rfl ((R_mul rfl rfl).eq (i64_in (by omega))) ?_
          | refine JL_R rfl (R_mul rfl rfl) ?_
        first
          | refine JL_R rfl ((R_add rfl rfl).eq (i64_in (by omega))) ?_
          | refine JL_R rfl (R_add rfl rfl) ?_
        refine JL_R rfl (R_assign rfl) ?_
        refine JL_nil ?_
        refine JQ_block ?_
        refine JQ_conv (y := Atom.own 60 64 (.slice A n c) n (fl iL ((P ++ M) ++ T))) (Pick.here _ _) (by simp only [List.append_assoc, List.append_nil]) ?_
        refine JQ_nxt3 (a + 2 * bs) (P ++ M) (T) (Picks.cons (Pick.here _ _) (Picks.nil _)) (FrSub.cons rfl (by first | rfl | ((try dsimp only); congr 1; omega) | exact congrArg (Value.int _) (by (try dsimp only); omega)) (FrSub.cons rfl (by first | rfl | ((try dsimp only); congr 1; omega) | exact congrArg (Value.int _) (by (try dsimp only); omega)) (FrSub.cons rfl (by first | rfl | ((try dsimp only); congr 1; omega) | exact congrArg (Value.int _) (by (try dsimp only); omega)) (FrSub.cons rfl (by first | rfl | ((try dsimp only); congr 1; omega) | exact congrArg (Value.int _) (by (try dsimp only); omega)) (FrSub.cons rfl (by first | rfl | ((try dsimp only); congr 1; omega) | exact congrArg (Value.int _) (by (try dsimp only); omega)) (FrSub.cons rfl (by first | rfl | ((try dsimp only); congr 1; omega) | exact congrArg (Value.int _) (by (try dsimp only); omega)) FrSub.nil)))))) (by (try dsimp only); omega) (by first | exact (by have hq := hM.2.1; rw [List.length_append] at hq; have e := Eqv.append key (Eqv.refl key P) (Eqv.append key hM.2 (Eqv.refl key T)); rw [List.append_assoc w v T] at e; exact ⟨by simp; omega, by omega, .snoc _ _ h3 (by omega) hM.1, ht, by rw [List.append_assoc]; exact e.trans key h9⟩) | (dsimp only; exact (by have hq := hM.2.1; rw [List.length_append] at hq; have e := Eqv.append key (Eqv.refl key P) (Eqv.append key hM.2 (Eqv.refl key T)); rw [List.append_assoc w v T] at e; exact ⟨by simp; omega, by omega, .snoc _ _ h3 (by omega) hM.1, ht, by rw [List.append_assoc]; exact e.trans key h9⟩)))
      · try simp only [Bool.or_eq_true, Bool.and_eq_true, Bool.or_eq_false_iff, Bool.and_eq_false_iff, decide_eq_true_eq, decide_eq_false_iff_not, Bool.not_eq_true', Bool.not_eq_false', beq_iff_eq] at hc35
        refine JC_exit ?_
        refine JQ_then_exit ?_
        refine JQ_then_exit ?_
        refine JQ_block_exit ?_
        refine JQ_then ?_
        refine JC_cut1 (kp := [(0, _), (1, _), (2, _), (6, _)]) (fun (cur2 : List Item) => cur2.length = n ∧ Chs key (2 * bs) cur2 ∧ Eqv key cur2 xs) (fun kp_ (cur2 : List Item) => kp_) (fun rs_ (cur2 : List Item) => Atom.own 60 64 (.slice A n c) n (fl iL (cur2)) :: rs_) (Picks.cons (Pick.here _ _) (Picks.nil _)) (FrSub.cons rfl (by first | rfl | ((try dsimp only); congr 1; omega) | exact congrArg (Value.int _) (by (try dsimp only); omega)) (FrSub.cons rfl (by first | rfl | ((try dsimp only); congr 1; omega) | exact congrArg (Value.int _) (by (try dsimp only); omega)) (FrSub.cons rfl (by first | rfl | ((try dsimp only); congr 1; omega) | exact congrArg (Value.int _) (by (try dsimp only); omega)) (FrSub.cons rfl (by first | rfl | ((try dsimp only); congr 1; omega) | exact congrArg (Value.int _) (by (try dsimp only); omega)) FrSub.nil)))) ?_ ?_
        · skip
          refine JC_seq ?_
          refine JC_region ?_
          refine JL_R rfl (R_move rfl) ?_
          refine JL_R rfl (R_move rfl) ?_
          first
            | refine JL_R rfl ((R_add rfl rfl).eq (i64_in (by omega))) ?_
            | refine JL_R rfl (R_add rfl rfl) ?_
          refine JL_R rfl (R_assign rfl) ?_
          refine JL_nil ?_
          refine JQ_then ?_
          refine JC_seq ?_
          refine JC_region ?_
          refine JL_R rfl (R_move rfl) ?_
          refine JL_R rfl (R_move rfl) ?_
          refine JL_R rfl (R_lt rfl rfl) ?_
          refine JL_nil ?_
          refine JQ_then ?_
          refine JC_cond rfl (fun hc54 => ?_) (fun hc54 => ?_)
          · try simp only [Bool.or_eq_true, Bool.and_eq_true, Bool.or_eq_false_iff, Bool.and_eq_false_iff, decide_eq_true_eq, decide_eq_false_iff_not, Bool.not_eq_true', Bool.not_eq_false', beq_iff_eq] at hc54
            obtain ⟨w, v, rfl, hw3, hw1, hw2⟩ := h4.mid key (by omega) (by omega)
            simp only [List.length_append] at h2
            refine JC_conv (y := Atom.own 60 64 (.slice A n c) n (fl iL (P ++ (w ++ (v ++ []))))) (Pick.here _ _) (by simp only [List.append_assoc, List.append_nil]) ?_
            refine JC_region ?_
            refine JL_R rfl (R_move rfl) ?_
            refine JL_R rfl (R_move rfl) ?_
            refine JL_R rfl (R_move rfl) ?_
            refine JL_R rfl (R_move rfl) ?_
            refine JL_R rfl (R_move rfl) ?_
            refine JL_E rfl (E_callT ok155 rfl (Pick.here _ _) rfl ents_nil (c_mrg _ _ _ hN (P) (w) (v) ([]) (a) (a + bs) (n) _ _ _ (by first | rfl | omega) (by first | rfl | omega) (by first | rfl | omega) (by omega) (by omega) (by omega) (by first | omega | (simp <;> omega)) (by omega) (by omega) hw1 hw2)) ?_
            rintro _ _ ⟨_, ⟨_, rfl, M, rfl, hM⟩, rfl, rfl⟩
            refine JL_nil ?_
            refine JQ_mid1 (_) (Picks.cons (Pick.here _ _) (Picks.nil _)) (FrSub.cons rfl (by first | rfl | ((try dsimp only); congr 1; omega) | exact congrArg (Value.int _) (by (try dsimp only); omega)) (FrSub.cons rfl (by first | rfl | ((try dsimp only); congr 1; omega) | exact congrArg (Value.int _) (by (try dsimp only); omega)) (FrSub.cons rfl (by first | rfl | ((try dsimp only); congr 1; omega) | exact congrArg (Value.int _) (by (try dsimp only); omega)) (FrSub.cons rfl (by first | rfl | ((try dsimp only); congr 1; omega) | exact congrArg (Value.int _) (by (try dsimp only); omega)) FrSub.nil)))) (by first | exact (by have hq := hM.2.1; simp only [List.length_append] at hq; exact ⟨by simp; omega, by rw [List.append_nil]; exact ChF.chs key h3 (.last _ (by omega) hM.1), by rw [List.append_nil]; exact (Eqv.append key (Eqv.refl key P) hM.2).trans key h9⟩) | (dsimp only; exact (by have hq := hM.2.1; simp only [List.length_append] at hq; exact ⟨by simp; omega, by rw [List.append_nil]; exact ChF.chs key h3 (.last _ (by omega) hM.1), by rw [List.append_nil]; exact (Eqv.append key (Eqv.refl key P) hM.2).trans key h9⟩)))
          · try simp only [Bool.or_eq_true, Bool.and_eq_true, Bool.or_eq_false_iff, Bool.and_eq_false_iff, decide_eq_true_eq, decide_eq_false_iff_not, Bool.not_eq_true', Bool.not_eq_false', beq_iff_eq] at hc54
            refine JC_skip ?_
            refine JQ_mid1 (_) (Picks.cons (Pick.here _ _) (Picks.nil _)) (FrSub.cons rfl (by first | rfl | ((try dsimp only); congr 1; omega) | exact congrArg (Value.int _) (by (try dsimp only); omega)) (FrSub.cons rfl (by first | rfl | ((try dsimp only); congr 1; omega) | exact congrArg (Value.int _) (by (try dsimp only); omega)) (FrSub.cons rfl (by first | rfl | ((try dsimp only); congr 1; omega) | exact congrArg (Value.int _) (by (try dsimp only); omega)) (FrSub.cons rfl (by first | rfl | ((try dsimp only); congr 1; omega) | exact congrArg (Value.int _) (by (try dsimp only); omega)) FrSub.nil)))) (by first | exact ⟨by simp; omega, ChF.chs key h3 (.last _ (by omega) (h4.one key (by omega))), h9⟩ | (dsimp only; exact ⟨by simp; omega, ChF.chs key h3 (.last _ (by omega) (h4.one key (by omega))), h9⟩))
        · rintro cur2 ⟨h13, h14, h15⟩
          refine JC_region ?_
          refine JL_R rfl (R_move rfl) ?_
          first
            | refine JL_R rfl ((R_mul rfl rfl).eq (i64_in (by omega))) ?_
            | refine JL_R rfl (R_mul rfl rfl) ?_
          refine JL_R rfl (R_assign rfl) ?_
          refine JL_nil ?_
          refine JQ_block ?_
          refine JQ_nxt2 (bs * 2) (cur2) (Picks.cons (Pick.here _ _) (Picks.nil _)) (FrSub.cons rfl (by first | rfl | ((try dsimp only); congr 1; omega) | exact congrArg (Value.int _) (by (try dsimp only); omega)) (FrSub.cons rfl (by first | rfl | ((try dsimp only); congr 1; omega) | exact congrArg (Value.int _) (by (try dsimp only); omega)) (FrSub.cons rfl (by first | rfl | ((try dsimp only); congr 1; omega) | exact congrArg (Value.int _) (by (try dsimp only); omega)) (FrSub.cons rfl (by first | rfl | ((try dsimp only); congr 1; omega) | exact congrArg (Value.int _) (by (try dsimp only); omega)) FrSub.nil)))) (by (try dsimp only); omega) (by first | exact ⟨by omega, h13, by rw [Nat.mul_comm]; exact h14, h15, by omega⟩ | (dsimp only; exact ⟨by omega, h13, by rw [Nat.mul_comm]; exact h14, h15, by omega⟩))
    · try simp only [Bool.or_eq_true, Bool.and_eq_true, Bool.or_eq_false_iff, Bool.and_eq_false_iff, decide_eq_true_eq, decide_eq_false_iff_not, Bool.not_eq_true', Bool.not_eq_false', beq_iff_eq] at hc30
      refine JC_exit ?_
      refine JQ_then_exit ?_
      refine JQ_then_exit ?_
      refine JQ_block_exit ?_
      refine end_of_ret ?_
      exact ret0 Try.results131 ⟨rfl, _, ⟨_, rfl, h7.one key (by omega), h8⟩, rfl⟩ (Picks.cons (Pick.here _ _) (Picks.nil _)) rfl
end Go.Proofs.Ytkckakfkeooepaa
