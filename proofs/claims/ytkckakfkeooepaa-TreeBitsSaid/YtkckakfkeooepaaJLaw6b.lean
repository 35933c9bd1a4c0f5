/- Law 6: TreeBits. -/
import Derived.Test.YtkckakfkeooepaaJLaw6a
namespace Go.Proofs.Ytkckakfkeooepaa
set_option linter.all false
set_option linter.unusedSimpArgs false
set_option linter.unusedVariables false
set_option linter.unnecessarySimpa false
open Go.RowKit
def BitsI (h g : Hash) (i : Nat) : Prop := ∀ j < 32, (g.at j).toNat = (h.at j).toNat / 2 ^ (8 * j + 8 - i)
theorem BitsI.zero (h : Hash) : BitsI h Hash.zero 0 := fun j hj => by
  have e : Hash.zero.at j = 0 := by
    show (List.replicate 32 (0 : UInt8)).getD j 0 = 0
    rw [List.getD, List.getElem?_replicate_of_lt hj]; rfl
  rw [e]
  have := (h.at j).toNat_lt
  rw [Nat.div_eq_of_lt (Nat.lt_of_lt_of_le this (Nat.pow_le_pow_right (n := 2) (by decide) (show 8 ≤ 8 * j + 8 - 0 by omega)))]; rfl
theorem or_bit : ∀ q : Nat, q < 128 → ∀ b : Nat, b < 2 → bits .or .u8 (IntKind.u8.wrap ((q : Int) * 2)) (b : Int) = ((2 * q + b : Nat) : Int) := by decide +kernel
theorem BitsI.step {h g : Hash} {i : Nat} (hi : i < 256) (hg : BitsI h g i) : (g.at (i / 8)).toNat < 128 ∧ BitsI h (g.put (i / 8) (UInt8.ofNat (2 * (g.at (i / 8)).toNat + bitH h i))) (i + 1) := by
  have h0 := hg (i / 8) (by omega)
  have hlt := (h.at (i / 8)).toNat_lt
  have he : 8 * (i / 8) + 8 - i = (7 - i % 8) + 1 := by omega
  rw [he, Nat.pow_succ] at h0
  have hq : (g.at (i / 8)).toNat < 128 := by
    rw [h0, Nat.div_lt_iff_lt_mul (Nat.mul_pos (Nat.pow_pos (by decide)) (by decide))]
    have : 0 < 2 ^ (7 - i % 8) := Nat.pow_pos (by decide)
    omega
  refine ⟨hq, fun j hj => ?_⟩
  rw [Hash.put_at _ _ _ _ (by omega)]
  have hb : bitH h i = (h.at (i / 8)).toNat / 2 ^ (7 - i % 8) % 2 := by rw [bitH, if_pos hi]
  by_cases e : j = i / 8
  · subst e
    rw [if_pos rfl, show 8 * (i / 8) + 8 - (i + 1) = 7 - i % 8 by omega, hb]
    have e2 : (g.at (i / 8)).toNat = (h.at (i / 8)).toNat / 2 ^ (7 - i % 8) / 2 := by rw [h0, Nat.div_div_eq_div_mul]
    have h2 : ((h.at (i / 8)).toNat / 2 ^ (7 - i % 8)) < 256 := Nat.lt_of_le_of_lt (Nat.div_le_self _ _) hlt
    rw [UInt8.toNat_ofNat', e2, Nat.mod_eq_of_lt (by omega)]
    omega
  · rw [if_neg e, hg j hj]
    have hl := (h.at j).toNat_lt
    rcases Nat.lt_or_ge j (i / 8) with hlt' | hge
    · rw [show 8 * j + 8 - i = 0 by omega, show 8 * j + 8 - (i + 1) = 0 by omega]
    · rw [Nat.div_eq_of_lt (Nat.lt_of_lt_of_le hl (Nat.pow_le_pow_right (n := 2) (by decide) (show 8 ≤ 8 * j + 8 - i by omega))), Nat.div_eq_of_lt (Nat.lt_of_lt_of_le hl (Nat.pow_le_pow_right (n := 2) (by decide) (show 8 ≤ 8 * j + 8 - (i + 1) by omega)))]
theorem BitsI.done {h g : Hash} (hg : BitsI h g 256) : g = h := Hash.ext_at fun k hk => by
  have := hg k hk
  rw [show 8 * k + 8 - 256 = 0 by omega, Nat.pow_zero, Nat.div_one] at this
  exact UInt8.toNat_inj.1 this
theorem bitH_lt (h : Hash) (i : Nat) : bitH h i < 2 := by unfold bitH; split <;> omega
theorem bitI_nat (h : Hash) (i : Nat) (hi : i < 256) : bitI h (i : Int) = (bitH h i : Nat) := by rw [bitI, if_pos (by omega), Int.toNat_natCast]
theorem byte_new {h g : Hash} {i : Nat} (hi : i < 256) (hg : BitsI h g i) : bits .or .u8 (IntKind.u8.wrap (((g.at (i / 8)).toNat : Int) * 2 ^ (min (1 : Int).toNat IntKind.u8.bits))) (IntKind.u8.wrap (bitI h (i : Int))) = ((UInt8.ofNat (2 * (g.at (i / 8)).toNat + bitH h i)).toNat : Int) := by
  have h1 := (hg.step hi).1
  have h2 := bitH_lt h i
  rw [bitI_nat h i hi]
  have e : IntKind.u8.wrap ((bitH h i : Nat) : Int) = ((bitH h i : Nat) : Int) := IntWalk.u8_in _ (by omega)
  rw [e, show (2 : Int) ^ (min (1 : Int).toNat IntKind.u8.bits) = 2 by rfl, or_bit _ h1 _ h2, UInt8.toNat_ofNat', Nat.mod_eq_of_lt (by omega)]
theorem bit_out1 (h : Hash) : decide (bitI h (-1) = 0) = true := by rw [bitI_out h _ (by omega)]; rfl
theorem bit_out2 (h : Hash) : decide (bitI h 256 = 0) = true := by rw [bitI_out h _ (by omega)]; rfl
set_option maxRecDepth 100000 in
set_option maxHeartbeats 1000000 in
theorem c_TreeBits (h : Hash) : CT Try.prog 7 [.agg (hL h).toArray] [] [] (pV (.bool true)) := by
  refine CT_of Try.func7 rfl Try.ntmps7 rfl (fun w0 => ?_)
  refine JC_seq ?_
  refine JC_region ?_
  refine JL_E rfl (E_boxA rfl) ?_
  rintro _ _ ⟨g1, rfl, rfl⟩
  refine JL_R rfl (R_assign rfl) ?_
  refine JL_nil ?_
  refine JQ_then ?_
  refine JC_seq ?_
  refine JC_seq ?_
  refine JC_region ?_
  refine JL_E rfl (E_callV ok29 rfl ents_nil (c_known6)) ?_
  rintro _ _ ⟨rfl, rfl⟩
  refine JL_R rfl (R_not rfl) ?_
  refine JL_nil ?_
  refine JQ_then ?_
  refine JC_else rfl (by rfl) ?_
  refine JC_skip ?_
  refine JQ_then ?_
  refine JC_seq ?_
  refine JC_region ?_
  refine JL_E rfl (E_allocA ti23) ?_
  rintro _ _ ⟨g2, rfl, rfl⟩
  refine JL_nil ?_
  refine JQ_then ?_
  refine JC_seq ?_
  refine JC_seq ?_
  refine JC_region ?_
  refine JL_R rfl (R_assign rfl) ?_
  refine JL_nil ?_
  refine JQ_then ?_
  refine JC_block ?_
  refine JC_loop2 (kp := [(1, _), (3, _)]) (fun (i : Nat) (q : Hash) => i ≤ 256 ∧ BitsI h q i) (fun kp_ (i : Nat) (q : Hash) => (4, .int .i64 (i : Int)) :: kp_) (fun rs_ (i : Nat) (q : Hash) => Atom.blk g2 23 (hL q) :: rs_) (fun (i : Nat) (q : Hash) => 256 - i) (0) (Hash.zero) (Picks.cons (Pick.here _ _) (Picks.nil _)) (FrSub.cons rfl (by first | rfl | ((try dsimp only); congr 1; omega) | exact congrArg (Value.int _) (by (try dsimp only); omega)) (FrSub.cons rfl (by first | rfl | ((try dsimp only); congr 1; omega) | exact congrArg (Value.int _) (by (try dsimp only); omega)) (FrSub.cons rfl (by first | rfl | ((try dsimp only); congr 1; omega) | exact congrArg (Value.int _) (by (try dsimp only); omega)) FrSub.nil))) (fun _ _ _  => rfl) (⟨by omega, BitsI.zero h⟩) ?_
  rintro i q ⟨h1, h2⟩
  refine JC_seq ?_
  refine JC_seq ?_
  refine JC_region ?_
  refine JL_R rfl (R_move rfl) ?_
  refine JL_R rfl (R_lt rfl rfl) ?_
  refine JL_nil ?_
  refine JQ_then ?_
  refine JC_cond rfl (fun hc9 => ?_) (fun hc9 => ?_)
  · try simp only [Bool.or_eq_true, Bool.and_eq_true, Bool.or_eq_false_iff, Bool.and_eq_false_iff, decide_eq_true_eq, decide_eq_false_iff_not, Bool.not_eq_true', Bool.not_eq_false', beq_iff_eq] at hc9
    refine JC_skip ?_
    refine JQ_then ?_
    refine JC_seq ?_
    refine JC_block ?_
    refine JC_seq ?_
    refine JC_region ?_
    refine JL_R rfl (R_load0 Try.underlying23 rfl ti23 rfl (List.Mem.tail _ (List.Mem.head _)) (by first | rfl | (simp [bcs_length, sb_length, numN_length, hL_length, sigP_len, headP_len, entryP_len, itemP_len, knownP_len, stP_len, Hash.h]; done) | omega | (simp [bcs_length, sb_length, numN_length, hL_length, sigP_len, headP_len, entryP_len, itemP_len, knownP_len, stP_len, Hash.h]; omega))) ?_
    refine JL_R rfl (R_move rfl) ?_
    refine JL_E rfl (E_callV ok46 rfl ents_nil (c_Bit _ _)) ?_
    rintro _ _ ⟨rfl, rfl⟩
    refine JL_R rfl (R_assign rfl) ?_
    refine JL_nil ?_
    refine JQ_then ?_
    refine JC_seq ?_
    refine JC_seq ?_
    refine JC_region ?_
    refine JL_R rfl (R_move rfl) ?_
    refine JL_R rfl (R_ne rfl rfl) ?_
    refine JL_R rfl (R_move rfl) ?_
    first
      | refine JL_RS rfl rfl rfl (fun hg => R_move rfl) ?_
    first
      | refine JL_RS rfl rfl rfl (fun hg => R_ne (gv_yes hg rfl) rfl) ?_
    refine JL_R rfl (R_pick_andG rfl rfl) ?_
    refine JL_nil ?_
    refine JQ_then ?_
    refine JC_cond rfl (fun hc20 => ?_) (fun hc20 => ?_)
    · exfalso; revert hc20; simp only [Bool.and_eq_true, Bool.not_eq_true', decide_eq_false_iff_not]; rcases bitI_01 h (i : Int) with h3 | h3 <;> rw [h3] <;> simp
    · try simp only [Bool.or_eq_true, Bool.and_eq_true, Bool.or_eq_false_iff, Bool.and_eq_false_iff, decide_eq_true_eq, decide_eq_false_iff_not, Bool.not_eq_true', Bool.not_eq_false', beq_iff_eq] at hc20
      refine JC_skip ?_
      refine JQ_then ?_
      refine JC_region ?_
      refine JL_R rfl (R_move rfl) ?_
      first
        | refine JL_R rfl ((R_quo rfl rfl (by omega)).eq (quo_i64 (by omega) (by omega) (by omega))) ?_
        | refine JL_R rfl (R_quo rfl rfl (by omega)) ?_
      refine JL_R rfl (R_move rfl) ?_
      first
        | refine JL_R rfl ((R_quo rfl rfl (by omega)).eq (quo_i64 (by omega) (by omega) (by omega))) ?_
        | refine JL_R rfl (R_quo rfl rfl (by omega)) ?_
      refine JL_R rfl (R_indexHN (i := i / 8) Try.underlying23 ti5 rfl rfl (by first | rfl | omega) (by omega)) ?_
      refine JL_R rfl (R_loadH Try.underlying5 rfl rfl (List.Mem.head _) (by omega)) ?_
      refine JL_R rfl (R_shl rfl rfl (by omega)) ?_
      refine JL_R rfl (R_move rfl) ?_
      refine JL_R rfl (R_conv Try.underlying3 Try.underlying5 rfl) ?_
      refine JL_R rfl (R_bits rfl rfl (by simp)) ?_
      refine JL_R rfl (R_indexHN (i := i / 8) Try.underlying23 ti5 rfl rfl (by first | rfl | omega) (by omega)) ?_
      refine JL_E0 (E_storeH (UInt8.ofNat (2 * (q.at (i / 8)).toNat + bitH h i)) ti5 rfl rfl (byte_new (by omega) h2) (Pick.here _ _) (by omega)) ?_
      rintro _ _ ⟨rfl, rfl⟩
      refine JL_nil ?_
      refine JQ_block ?_
      refine JQ_then ?_
      refine JC_region ?_
      refine JL_R rfl (R_move rfl) ?_
      first
        | refine JL_R rfl ((R_add rfl rfl).eq (i64_in (by omega))) ?_
        | refine JL_R rfl (R_add rfl rfl) ?_
      refine JL_R rfl (R_assign rfl) ?_
      refine JL_nil ?_
      refine JQ_nxt2 (i + 1) (q.put (i / 8) (UInt8.ofNat (2 * (q.at (i / 8)).toNat + bitH h i))) (Picks.cons (Pick.here _ _) (Picks.cons (Pick.here _ _) (Picks.nil _))) (FrSub.cons rfl (by first | rfl | ((try dsimp only); congr 1; omega) | exact congrArg (Value.int _) (by (try dsimp only); omega)) (FrSub.cons rfl (by first | rfl | ((try dsimp only); congr 1; omega) | exact congrArg (Value.int _) (by (try dsimp only); omega)) (FrSub.cons rfl (by first | rfl | ((try dsimp only); congr 1; omega) | exact congrArg (Value.int _) (by (try dsimp only); omega)) FrSub.nil))) (by (try dsimp only); omega) (by first | exact ⟨by omega, (h2.step (by omega)).2⟩ | (dsimp only; exact ⟨by omega, (h2.step (by omega)).2⟩))
  · try simp only [Bool.or_eq_true, Bool.and_eq_true, Bool.or_eq_false_iff, Bool.and_eq_false_iff, decide_eq_true_eq, decide_eq_false_iff_not, Bool.not_eq_true', Bool.not_eq_false', beq_iff_eq] at hc9
    refine JC_exit ?_
    refine JQ_then_exit ?_
    refine JQ_then_exit ?_
    refine JQ_block_exit ?_
    refine JQ_then ?_
    refine JC_seq ?_
    obtain rfl : i = 256 := by omega
    obtain rfl : q = h := h2.done
    refine JC_region ?_
    refine JL_R rfl (R_load0 Try.underlying23 rfl ti23 rfl (List.Mem.head _) (by first | rfl | (simp [bcs_length, sb_length, numN_length, hL_length, sigP_len, headP_len, entryP_len, itemP_len, knownP_len, stP_len, Hash.h]; done) | omega | (simp [bcs_length, sb_length, numN_length, hL_length, sigP_len, headP_len, entryP_len, itemP_len, knownP_len, stP_len, Hash.h]; omega))) ?_
    refine JL_R rfl (R_load0 Try.underlying23 rfl ti23 rfl (List.Mem.tail _ (List.Mem.head _)) (by first | rfl | (simp [bcs_length, sb_length, numN_length, hL_length, sigP_len, headP_len, entryP_len, itemP_len, knownP_len, stP_len, Hash.h]; done) | omega | (simp [bcs_length, sb_length, numN_length, hL_length, sigP_len, headP_len, entryP_len, itemP_len, knownP_len, stP_len, Hash.h]; omega))) ?_
    refine JL_R rfl ((R_eqV rfl rfl (eqv23 _ _) gd23 rfl).eq (congrArg Value.bool (decide_eq_true rfl))) ?_
    refine JL_R rfl (R_move rfl) ?_
    refine JL_RG rfl rfl rfl rfl (R_load0 Try.underlying23 rfl ti23 rfl (List.Mem.tail _ (List.Mem.head _)) (by first | rfl | (simp [bcs_length, sb_length, numN_length, hL_length, sigP_len, headP_len, entryP_len, itemP_len, knownP_len, stP_len, Hash.h]; done) | omega | (simp [bcs_length, sb_length, numN_length, hL_length, sigP_len, headP_len, entryP_len, itemP_len, knownP_len, stP_len, Hash.h]; omega))) ?_
    refine JL_EG rfl rfl rfl rfl (E_callV ok46 rfl ents_nil (c_Bit _ _)) ?_
    rintro _ _ ⟨rfl, rfl⟩
    refine JL_RG rfl rfl rfl rfl ((R_eq rfl rfl).eq (congrArg Value.bool (bit_out1 _))) ?_
    first
      | refine JL_R rfl (R_pick_true rfl rfl) ?_
      | refine JL_R rfl (R_pick_false rfl rfl) ?_
      | refine JL_R rfl (R_pick_and rfl rfl) ?_
      | refine JL_R rfl (R_pick_or rfl rfl) ?_
      | refine JL_R rfl (R_pick rfl rfl rfl) ?_
    refine JL_R rfl (R_move rfl) ?_
    refine JL_RG rfl rfl rfl rfl (R_load0 Try.underlying23 rfl ti23 rfl (List.Mem.tail _ (List.Mem.head _)) (by first | rfl | (simp [bcs_length, sb_length, numN_length, hL_length, sigP_len, headP_len, entryP_len, itemP_len, knownP_len, stP_len, Hash.h]; done) | omega | (simp [bcs_length, sb_length, numN_length, hL_length, sigP_len, headP_len, entryP_len, itemP_len, knownP_len, stP_len, Hash.h]; omega))) ?_
    refine JL_EG rfl rfl rfl rfl (E_callV ok46 rfl ents_nil (c_Bit _ _)) ?_
    rintro _ _ ⟨rfl, rfl⟩
    refine JL_RG rfl rfl rfl rfl ((R_eq rfl rfl).eq (congrArg Value.bool (bit_out2 _))) ?_
    first
      | refine JL_R rfl (R_pick_true rfl rfl) ?_
      | refine JL_R rfl (R_pick_false rfl rfl) ?_
      | refine JL_R rfl (R_pick_and rfl rfl) ?_
      | refine JL_R rfl (R_pick_or rfl rfl) ?_
      | refine JL_R rfl (R_pick rfl rfl rfl) ?_
    refine JL_R rfl (R_assign rfl) ?_
    refine JL_nil ?_
    refine JQ_then ?_
    refine JC_ret ?_
    refine ret1 Try.results7 (RV_tmp rfl) ⟨rfl, rfl⟩ (Picks.nil _) rfl
end Go.Proofs.Ytkckakfkeooepaa
