/- sponge.Sum: the hash of bytes. -/
import Derived.Test.YtkckakfkeooepaaSponge2
import Derived.Laws.CopyOwn
import Derived.Deep.RegionLaw
namespace Go.Proofs.Ytkckakfkeooepaa
set_option linter.all false
set_option linter.unusedSimpArgs false
set_option linter.unusedVariables false
set_option linter.unnecessarySimpa false
open Go.RowKit
theorem hash_info : (Try.prog.info? 23).map (·.size) = some 32 := by kernel_rfl
attribute [local go_sem] bits_xorM
theorem u8_one : (Try.prog.info? 5).map (·.size) = some 1 := by kernel_rfl
def zero32 : Array Value := Array.replicate 32 (.int .u8 0)
theorem run_build_begin (w : World) : (Instr.build 150 #[(0, .int .u64 8800401358850)]).run Try.prog w = .ok (.agg (stA begin0)) w := by kernel_rfl
theorem absorb_last (k : Nat) : ∀ (s : St) (b : Bs), absorb (k + 1) s b = permN { absorb k s b with a := xorM (absorb k s b).a (unnum ((b.drop (8 * k)).take 8)) } := by
  induction k with
  | zero => intro s b; simp [absorb]
  | succ k ih =>
    intro s b
    rw [absorb, ih, absorb]
    simp only [List.drop_drop, Nat.mul_add, Nat.mul_one, Nat.add_comm 8 (8 * k)]
theorem hA_one (h : Hash) : (hA h).all (·.oneCell') = true := by
  have := bcs_one h.l
  simp only [hA, Array.all_eq_true_iff_forall_mem]
  intro x hx
  exact this x (by simpa using hx)
/-- A block of n cells. -/
def HasRow (w : World) (g : Nat) (t : TypeId) (n : Nat) : Prop := ∃ Z : Array Value, Z.size = n ∧ Blk w g t Z
section
variable {w w' : World} {g n : Nat} {t : TypeId}
theorem HasRow.lt (h : HasRow w g t n) : g < w.heap.size := by obtain ⟨_, _, h⟩ := h; exact h.lt
theorem HasRow.alloc (h : HasRow w g t n) (o : Obj) : HasRow (w.alloc o) g t n := by obtain ⟨Z, hz, h⟩ := h; exact ⟨Z, hz, h.alloc o⟩
theorem HasRow.drew (h : HasRow w g t n) : HasRow w.drew g t n := h
theorem HasRow.below {B : Nat} (h : HasRow w g t n) (hb : Below B w w') (hg : g < B) : HasRow w' g t n := by obtain ⟨Z, hz, h⟩ := h; exact ⟨Z, hz, h.below hb hg⟩
theorem HasRow.grown {row : Option Nat} (h : HasRow w g t n) (hb : w.grownBy w' row) (hg : some g ≠ row) : HasRow w' g t n := by obtain ⟨Z, hz, h⟩ := h; exact ⟨Z, hz, h.grown hb hg⟩
theorem HasRow.far (h : HasRow w g t n) {p : Addr} (hp : g ≠ p.block) (u : Value) : HasRow (w.setCell p u) g t n := by obtain ⟨Z, hz, h⟩ := h; exact ⟨Z, hz, h.far hp u⟩
theorem HasRow.own_ne {base : Nat} {e : TypeId} {size m : Nat} {v : Value} {xs : List Value} (hr : HasRow w g t n) (h : w.ownsRow base e size v m xs) (hne : e ≠ t) : some g ≠ v.ownBlock := by
  obtain ⟨Z, hz, hb⟩ := hr
  exact Ne.symm (own_blk_ne h hb hne)
end
/-- The state behind m permutations more. -/
def sqz (s : St) : Nat → St
  | 0 => s
  | m + 1 => permN (sqz s m)
/-- The hash as far as it is laid out. -/
def outL (l : Bs) (m : Nat) : List Value := bcs ((sumB l).l.take (8 * m)) ++ List.replicate (32 - 8 * m) (.int .u8 0)
theorem outL_length (l : Bs) (m : Nat) (h : m ≤ 4) : (outL l m).length = 32 := by
  have := (sumB l).h
  simp [outL, this]; omega
theorem outL_succ (l : Bs) (m : Nat) (h : m < 4) : splice (outL l m) (8 * m) (bcs (numN (sqz (sponged l) m).a)) = outL l (m + 1) := by
  obtain rfl | rfl | rfl | rfl : m = 0 ∨ m = 1 ∨ m = 2 ∨ m = 3 := by omega
  · rfl
  · rfl
  · rfl
  · rfl
theorem outL_all (l : Bs) : (outL l 4).toArray = hA (sumB l) := by rfl
theorem word8 (A : Option Addr) (c : Nat) (l : Bs) (w : World) (hl : l.length = 8) (hr : Reads w w.heap.size 1 A 8 (bcs l)) :
    Calls Try.prog 111 #[.slice A 8 c] w fun e w' => e = .returned (.int .u64 (unnum l)) ∧ w' = w := by
  have := word_any A c l w (by rw [hl]; exact hr) (by omega)
  rw [hl] at this
  exact this
set_option maxRecDepth 100000 in
set_option maxHeartbeats 1000000 in
theorem sum_any (A : Option Addr) (c : Nat) (l : Bs) (w : World) (hr : Reads w w.heap.size 1 A l.length (bcs l)) (hl : l.length ≤ 16777216) :
    Calls Try.prog 66 #[.slice A l.length c] w fun e w' => e = .returned (.agg (hA (sumB l))) ∧ Below w.heap.size w w' := by
  obtain ⟨i0, hi0, hz0, hz1, hz2⟩ := info_parts byte_info
  have HZ2 := Lib.hid hz2
  have HZ1 := Lib.hid hz1
  have HZ0 := Lib.hid hz0
  clear hz0 hz1 hz2
  go_enter Try.func66, Try.ntmps66
  go_wp2_with (first
    | ((with_reducible refine wpList_build_run rfl 150 [(0, .const (.int .u64 8800401358850))] rfl (.agg (stA begin0)) ?_ ?_); exact run_build_begin _)
    | (go_at_call 110; refine (perm_any _ _).mono ?_; rintro e w1 ⟨rfl, hbw1⟩)
    | ((with_reducible refine wpList_store_blk rfl 150 _ _ rfl w1.heap.size (stA (permN begin0)) ?_ ?_ 150 _ (Blk.new w1 _ _) ?_ ?_ ?_ ?_); exact rfl; exact rfl; exact st_info; exact rfl; exact stA_one _; intro w2 k2 kg2 kz2; have hz1 : w.heap.size + 1 ≤ w1.heap.size := by have := hbw1.size; simpa using this
       have hb2 : Below w.heap.size w w2 := ((((Below.refl _ _).alloc (Nat.le_refl _) _).trans (hbw1.mono (by simp))).alloc (by omega) _).grown kg2 (by simp; omega) (fun q hq => by simp at hq; omega)
       have hz2 : w2.heap.size = w1.heap.size + 1 := by simpa using kz2
       have r2 : HasRow w2 w.heap.size 23 32 := ((((HasRow.below (⟨_, rfl, Blk.new w _ _⟩) hbw1 (by simp)).alloc _).grown kg2 (by simp; omega)))
       clear kz2)
    | (at_builtin; refine wpList_append_any _ rfl (.const (.slice none 0 0)) (.tmp 9) 29 rfl w.heap.size 5 i0 _ 1 1 Try.underlying29 hi0 HZ0.out HZ1.out HZ2.out rfl (by omega) (.slice none 0 0) 0 [] rfl (World.ownsRow_nil _ _ _ _) w.heap.size A l.length c (bcs l) rfl (hr.below hb2) (bcs_one l) (by unfold maxLen; omega) (by omega) (by omega) ?_
       intro v3 w3 hown3 hg3 _
       have k3 := k2.grown hg3 (by simp [Value.ownBlock])
       have r3 := r2.grown hg3 (by simp [Value.ownBlock])
       have hb3 := hb2.grown hg3 (by omega) (by simp [Value.ownBlock])
       have hz3 := hg3.size
       simp only [Nat.zero_add, List.nil_append] at hown3)
    | (at_builtin; refine wpList_append_any _ rfl (.tmp 10) (.tmp 11) 29 rfl w.heap.size 5 i0 _ 1 1 Try.underlying29 hi0 HZ0.out HZ1.out HZ2.out rfl (by omega) v3 l.length (bcs l) rfl (hown3.alloc _) (w3.heap.size + 1) (some ⟨w3.heap.size, 0, none⟩) 1 1 [.int .u8 1] rfl (reads_lit w3 _ [.int .u8 1] 1 1 rfl) (by simp [Value.oneCell']) (by unfold maxLen; omega) (by omega) (by simp; omega) ?_
       intro v4 w4 hown4 hg4 _
       have r4 := (r3.alloc (.cells #[.int .u8 1] 5)).grown hg4 (r3.own_ne hown3 (by decide))
       have k4 := (k3.alloc _).grown hg4 (Ne.symm (own_blk_ne hown3 k3 (by decide)))
       have hb4 := (hb3.alloc (by omega) _).grown hg4 (by simp; omega) (fun q hq => (hown3.lt q hq).1)
       have hz4 : w3.heap.size < w4.heap.size := by have := hg4.size; simp at this; omega))
  obtain ⟨A4, c4, rfl⟩ := own_slice hown4
  have hn8 := Nat.mod_lt l.length (show 0 < 8 by decide)
  go_loopw [0] (fun v wr => ∃ (j : Nat) (A' : Option Addr) (c' : Nat), j ≤ 7 - l.length % 8 ∧ v = .slice A' (l.length + 1 + j) c' ∧ wr.ownsRow w.heap.size 5 1 (.slice A' (l.length + 1 + j) c') (l.length + 1 + j) (bcs (l ++ 1 :: List.replicate j 0)) ∧
    Blk wr w1.heap.size 150 (stA (permN begin0)) ∧ Below w.heap.size w wr ∧ w4.heap.size ≤ wr.heap.size ∧ HasRow wr w.heap.size 23 32) (fun v _ => l.length + 16 - vlen v)
  case atStart => exact ⟨0, A4, c4, by omega, rfl, by simpa [bcs_append, bcs, bc] using hown4, k4, hb4, Nat.le_refl _, r4⟩
  case round =>
    rename_i wr
    obtain ⟨j, A', c', hj, rfl, hown, k, hbw, hz, rr⟩ := hrel
    by_cases hlt : (l.length + 1 + j) % 8 = 0
    · obtain rfl : j = 7 - l.length % 8 := by omega
      have hlen : l.length + 1 + (7 - l.length % 8) = 8 * (l.length / 8 + 1) := by omega
      have hown' : wr.ownsRow w.heap.size 5 1 (.slice A' (8 * (l.length / 8 + 1)) c') (8 * (l.length / 8 + 1)) (bcs (padB l)) := by rw [← hlen]; exact hown
      have hpl : (padB l).length = 8 * (l.length / 8 + 1) := by have := hown'.1; simpa using this
      clear hown hlt hj
      rw [hlen]
      clear hlen
      have hnb : l.length / 8 + 1 ≤ 2097153 := by omega
      generalize hnbd : l.length / 8 + 1 = nb at *
      have Hnbd := Lib.hid hnbd
      have Hpl := Lib.hid hpl
      clear hnbd hpl hn8
      obtain ⟨g, rfl, hgb, hgs, hcap⟩ := own_head hown' (by have := hown'.1; have := Hnbd.out; omega)
      have ht : ((8 * (nb : Int)) % 8 != 0) = false := by simp
      have hs3 := k.lt
      go_wp2
      go_loopw [4] (fun i wx => ∃ q : Nat, q ≤ nb ∧ i = .int .i64 (8 * (q : Int)) ∧ wx.ownsRow w.heap.size 5 1 (.slice (some ⟨g, 0, none⟩) (8 * nb) c') (8 * nb) (bcs (padB l)) ∧
        Blk wx w1.heap.size 150 (stA (absorb q (permN begin0) (padB l))) ∧ Below w.heap.size w wx ∧ wr.heap.size ≤ wx.heap.size ∧ HasRow wx w.heap.size 23 32) (fun i _ => 8 * nb + 8 - (intOf i).toNat)
      case atStart => exact ⟨0, by omega, by simp, hown', k, hbw, Nat.le_refl _, rr⟩
      case round =>
        rename World => wx
        obtain ⟨q, hq, rfl, ho, kx, hbx, hzx, rx⟩ := hrel
        by_cases hlt : q < nb
        · have hc0 := kx.cell 0
          have hc0' : wx.cell? ⟨w1.heap.size, 0, none⟩ = some (.int .u64 ((absorb q (permN begin0) (padB l)).a : Int)) := hc0
          have hf0 := kx.frozen 0
          clear hc0
          have hne : ¬ c' = 8 * q := by omega
          have hblk : ((padB l).drop (8 * q)).take 8 = ((padB l).drop (8 * q)).take 8 := rfl
          generalize hbk : ((padB l).drop (8 * q)).take 8 = bk at hblk
          clear hblk
          have hbl : bk.length = 8 := by rw [← hbk, List.length_take, List.length_drop, Hpl.out]; omega
          have Hbk := Lib.hid hbk
          have Hbl := Lib.hid hbl
          have hrd : Reads wx wx.heap.size 1 (some ⟨g, 8 * q, none⟩) 8 (bcs bk) := by
            refine ⟨by simp [hbl], fun _ => ⟨_, rfl, by show g < _; omega, fun j u hj => ?_⟩⟩
            have e1 : (⟨g, 8 * q, none⟩ : Addr).add j = ⟨g, 8 * q + j, none⟩ := by unfold Addr.add; split <;> simp_all
            have hj8 : j < 8 := by
              have := (List.getElem?_eq_some_iff.1 hj).1
              simpa [hbl] using this
            rw [e1, ho.cellAt (8 * q + j) (by omega)]
            rw [← hbk] at hj
            simp only [bcs, List.map_take, List.map_drop] at hj
            rw [List.getElem?_take_of_lt hj8, List.getElem?_drop] at hj
            exact hj
          clear hbk hbl
          have i1 : (8 * (q : Int) + 8) ≤ (c' : Int) := by omega
          have i2 : 0 ≤ (8 * (q : Int) + 8) := by omega
          have i3 : 8 * (q : Int) ≤ max (8 * (q : Int) + 8) 0 := by omega
          have i4 : 0 ≤ 8 * (q : Int) := by omega
          have i5 : 8 * (q : Int) ≤ 8 * (q : Int) + 8 := by omega
          have e8 : IntKind.i64.wrap (8 * (q : Int) + 8) = 8 * (q : Int) + 8 := IntWalk.i64_in _ (by omega)
          have t1 : (8 * (q : Int)).toNat = 8 * q := by omega
          have t2 : (8 * (q : Int) + 8).toNat = 8 * q + 8 := by omega
          have t3 : 8 * q + 8 - 8 * q = 8 := by omega
          go_wp2
          refine region_still_tail 10 (by kernel_rfl) (by kernel_rfl) ?_
          simp only [List.take_succ_cons, List.take_zero, List.drop_succ_cons, List.drop_zero]
          iterate 7 still_step
          still_call (word8 _ _ bk _ Hbl.out (hrd.drew))
          iterate 2 still_step
          refine wpStill_nil ?_
          have ky : Blk (wx.setCell ⟨w1.heap.size, 0, none⟩ (.int .u64 ((xorM (absorb q (permN begin0) (padB l)).a (unnum bk) : Nat) : Int))).drew w1.heap.size 150 (stA { absorb q (permN begin0) (padB l) with a := xorM (absorb q (permN begin0) (padB l)).a (unnum bk) }) := (kx.set_ 0 _).drew
          have hgx := hgb
          clear hrd
          go_wp2_with (first
            | ((with_reducible refine wpList_load_blk rfl 150 _ rfl w1.heap.size ?_ 150 _ _ ky Try.underlying150 ?_ ?_ ?_); exact rfl; exact rfl; exact st_info)
            | (go_at_call 110; refine (perm_any _ _).mono ?_; rintro e w5 ⟨rfl, hbw5⟩; have k5 := ky.below hbw5 ky.lt; have hz5 := hbw5.size)
            | ((with_reducible refine wpList_store_blk rfl 150 _ _ rfl w1.heap.size (stA (permN { absorb q (permN begin0) (padB l) with a := xorM (absorb q (permN begin0) (padB l)).a (unnum bk) })) ?_ ?_ 150 _ k5 ?_ ?_ ?_ ?_); exact rfl; exact rfl; exact st_info; exact rfl; exact stA_one _; intro w6 k6 kg6 kz6))
          have hgne := own_blk_ne ho kx (by decide)
          have ho1 := ho.kept (only_drew (only_setCell (only_of_below (Below.refl wx.heap.size wx) (some w1.heap.size)) (p := ⟨w1.heap.size, 0, none⟩) (.inl rfl) (.int .u64 ((xorM (absorb q (permN begin0) (padB l)).a (unnum bk) : Nat) : Int)))) (.inr hgne)
          have ho2 := ho1.kept (only_of_below hbw5 none) (.inr (by simp [Value.ownBlock]))
          have ho3 := ho2.kept kg6 (.inr hgne)
          have hb5 := (((hbx.setCell (p := ⟨w1.heap.size, 0, none⟩) (by show w.heap.size ≤ w1.heap.size; omega) (.int .u64 ((xorM (absorb q (permN begin0) (padB l)).a (unnum bk) : Nat) : Int))).drew).trans (hbw5.mono (by simp [World.setCell]; exact hbx.size)))
          have hb6 := hb5.grown kg6 (by have := hb5.size; omega) (fun z hz => by simp at hz; omega)
          have r6 := (((rx.far (p := ⟨w1.heap.size, 0, none⟩) (by show w.heap.size ≠ w1.heap.size; omega) (.int .u64 ((xorM (absorb q (permN begin0) (padB l)).a (unnum bk) : Nat) : Int))).drew).below hbw5 (by have := rx.lt; simpa [World.setCell] using this)).grown kg6 (by simp; omega)
          refine ⟨⟨q + 1, by omega, by simp; omega, ho3, ?_, hb6, ?_, r6⟩, by simp [intOf]; omega⟩
          · rw [absorb_last, Hbk.out]; exact k6
          · rw [kz6]; simp [World.setCell] at hz5; omega
        · obtain rfl : q = nb := by omega
          have hS : absorb q (permN begin0) (padB l) = sponged l := by rw [sponged, Hnbd.out]
          rw [hS] at kx
          clear hS
          have kb : Blk (wx.alloc (.cells (outL l 0).toArray 23)) wx.heap.size 23 (outL l 0).toArray := Blk.new _ _ _
          go_wp2
          have kx1 := kx.alloc (.cells (outL l 0).toArray 23)
          have hbx1 := hbx.alloc hbx.size (.cells (outL l 0).toArray 23)
          have hxs := hbx.size
          have hs31 := kx.lt
          have hs30 := rx.lt
          go_loopw [6] (fun i wy => ∃ m : Nat, m ≤ 4 ∧ i = .int .i64 (8 * (m : Int)) ∧ Blk wy w1.heap.size 150 (stA (sqz (sponged l) (m - 1))) ∧ Blk wy wx.heap.size 23 (outL l m).toArray ∧ Below w.heap.size w wy ∧ HasRow wy w.heap.size 23 32) (fun i _ => 40 - (intOf i).toNat)
          case atStart => exact ⟨0, by omega, by simp, kx1, kb, hbx1, rx.alloc _⟩
          case round =>
            rename World => wy
            obtain ⟨m, hm, rfl, ks, ko, hby, ry⟩ := hrel
            clear kx1 hbx1 kb hgb
            have hsy := ks.lt
            have hoy := ko.lt
            by_cases hlt : m < 4
            · have j1 : 8 * (m : Int) ≤ 32 := by omega
              have j2 : 0 ≤ 8 * (m : Int) := by omega
              have j3 : (8 * (m : Int)).toNat = 8 * m := by omega
              have j4 : ¬ (32 = 8 * m) := by omega
              have j5 : 8 * (m : Int) < 32 := by omega
              have HCL := Lib.hid (show (bcs (numN (sqz (sponged l) m).a)).length = Nat.min 8 (32 - 8 * m) by rw [bcs_length, numN_length]; show 8 = min 8 (32 - 8 * m); omega)
              have HCF := Lib.hid (show 8 * m + (bcs (numN (sqz (sponged l) m).a)).length ≤ (outL l m).length by rw [outL_length l m (by omega), bcs_length, numN_length]; omega)
              by_cases h0 : m = 0
              · have ks' : Blk wy w1.heap.size 150 (stA (sqz (sponged l) m)) := by rw [show m - 1 = m by omega] at ks; exact ks
                have n0 : ¬ (0 < 8 * (m : Int)) := by omega
                clear h0
                go_wp2
                have hc0 : wy.cell? ⟨w1.heap.size, 0, none⟩ = some (.int .u64 ((sqz (sponged l) m).a : Int)) := ks'.cell 0
                have hsx : w1.heap.size < wy.heap.size := ks'.lt
                have hoy0 : w.heap.size < wy.heap.size := ry.lt
                have hox : wx.heap.size < wy.heap.size := ko.lt
                go_region_law (first | ((refine step_copy_splice rfl (.tmp 47) (.tmp 50) 29 29 rfl 5 Try.underlying29 u8_one (some ⟨wx.heap.size, 8 * m, none⟩) _ (32 - 8 * m) (32 - 8 * m) 8 _ rfl rfl wx.heap.size (8 * m) (outL l m) 23 (ko7) (bcs (numN (sqz (sponged l) m).a)) HCL.out (fun _ => ⟨rfl, _, rfl, hsrc⟩) HCF.out (bcs_one _) wx.heap.size w7 (Below.refl _ _) (Nat.le_refl _) ?_); intro w8 hg8 hb8) | (go_simp; go_at_call 75; refine (num_any _ (by omega) _).mono ?_; rintro e w7 ⟨v7, rfl, hown7, hbw7⟩; obtain ⟨A7, c7, rfl⟩ := own_slice hown7; have ko7 := ko.drew.below hbw7 (by simpa using hox); have ks7 := ks'.drew.below hbw7 (by simpa using hsx); have hb7 := (hby.drew).trans (hbw7.mono hby.size); obtain ⟨g7, rfl, _, _, _⟩ := own_head hown7 (by omega); have r7 := ry.drew.below hbw7 (by simpa using hoy0); have hsrc := hown7.cells (g := g7) rfl))
                go_wp2
                go_roundw
                case rel =>
                  have HG := hg8.out
                  rw [outL_succ l m (by omega)] at HG
                  exact ⟨m + 1, by omega, by simp; omega, ks7.below hb8 hs31, HG, hb7.trans (hb8.mono hxs), r7.below hb8 hs30⟩
                case measure => simp [intOf]; omega
              · have n0 : 0 < 8 * (m : Int) := by omega
                have Hm := Lib.hid (show sqz (sponged l) m = permN (sqz (sponged l) (m - 1)) by obtain ⟨m', rfl⟩ : ∃ m', m = m' + 1 := ⟨m - 1, by omega⟩; rfl)
                clear h0
                go_wp2_with (first
                  | ((with_reducible refine wpList_load_blk rfl 150 _ rfl w1.heap.size ?_ 150 _ _ ks Try.underlying150 ?_ ?_ ?_); exact rfl; exact rfl; exact st_info)
                  | (go_at_call 110; refine (perm_any _ _).mono ?_; rintro e w5 ⟨rfl, hbw5⟩; have k5 := ks.below hbw5 hsy; have ko5 := ko.below hbw5 hoy; have r5' := ry.below hbw5 ry.lt; have hb5' := hby.trans (hbw5.mono hby.size))
                  | ((with_reducible refine wpList_store_blk rfl 150 _ _ rfl w1.heap.size (stA (permN (sqz (sponged l) (m - 1)))) ?_ ?_ 150 _ k5 ?_ ?_ ?_ ?_); exact rfl; exact rfl; exact st_info; exact rfl; exact stA_one _; intro w6 k6 kg6 kz6))
                rw [← Hm.out] at k6
                have ko6 := ko5.grown kg6 (by simp; omega)
                have r6 := r5'.grown kg6 (by simp; omega)
                have hb6 := hb5'.grown kg6 (by have := hb5'.size; omega) (fun z hz => by simp at hz; omega)
                have hc0 : w6.cell? ⟨w1.heap.size, 0, none⟩ = some (.int .u64 ((sqz (sponged l) m).a : Int)) := k6.cell 0
                have hsx : w1.heap.size < w6.heap.size := k6.lt
                have hoy0 : w.heap.size < w6.heap.size := r6.lt
                have hox : wx.heap.size < w6.heap.size := ko6.lt
                go_region_law (first | ((refine step_copy_splice rfl (.tmp 47) (.tmp 50) 29 29 rfl 5 Try.underlying29 u8_one (some ⟨wx.heap.size, 8 * m, none⟩) _ (32 - 8 * m) (32 - 8 * m) 8 _ rfl rfl wx.heap.size (8 * m) (outL l m) 23 (ko7) (bcs (numN (sqz (sponged l) m).a)) HCL.out (fun _ => ⟨rfl, _, rfl, hsrc⟩) HCF.out (bcs_one _) wx.heap.size w7 (Below.refl _ _) (Nat.le_refl _) ?_); intro w8 hg8 hb8) | (go_simp; go_at_call 75; refine (num_any _ (by omega) _).mono ?_; rintro e w7 ⟨v7, rfl, hown7, hbw7⟩; obtain ⟨A7, c7, rfl⟩ := own_slice hown7; have ko7 := ko6.drew.below hbw7 (by simpa using hox); have ks7 := k6.drew.below hbw7 (by simpa using hsx); have hb7 := (hb6.drew).trans (hbw7.mono hb6.size); obtain ⟨g7, rfl, _, _, _⟩ := own_head hown7 (by omega); have r7 := r6.drew.below hbw7 (by simpa using hoy0); have hsrc := hown7.cells (g := g7) rfl))
                go_wp2
                go_roundw
                case rel =>
                  have HG := hg8.out
                  rw [outL_succ l m (by omega)] at HG
                  exact ⟨m + 1, by omega, by simp; omega, ks7.below hb8 hs31, HG, hb7.trans (hb8.mono hxs), r7.below hb8 hs30⟩
                case measure => simp [intOf]; omega
            · obtain rfl : m = 4 := by omega
              obtain ⟨ZZ, hZ, rZ⟩ := ry
              have HZ' := Lib.hid hZ
              go_wp2_with (first
                | ((with_reducible refine wpList_load_blk rfl 23 _ rfl wx.heap.size ?_ 23 _ _ ko Try.underlying23 ?_ ?_ ?_); exact rfl; exact rfl; exact hash_info)
                | ((with_reducible refine wpList_store_blk rfl 23 _ _ rfl w.heap.size (hA (sumB l)) ?_ ?_ 23 ZZ rZ ?_ ?_ ?_ ?_); exact rfl; exact rfl; exact hash_info; exact hZ; exact hA_one _; intro w6 k6 kg6 kz6))
              refine bodyPost_ret (v := .agg (hA (sumB l))) ?_ rfl ⟨rfl, hby.grown kg6 hby.size (fun z hz => by simp at hz; omega)⟩
              exact results_cell_row rfl _ _ w.heap.size 23 _ (0, 0) _ rfl k6 Try.underlying23 rfl hash_info
    · have ht : (((l.length + 1 + j : Nat) : Int) % 8 != 0) = true := by simp; omega
      go_wp2_with (at_builtin; refine wpList_append_any _ rfl (.tmp 17) (.tmp 18) 29 rfl w.heap.size 5 i0 _ 1 1 Try.underlying29 hi0 HZ0.out HZ1.out HZ2.out rfl (by omega) _ _ _ rfl (hown.alloc _) (wr.heap.size + 1) (some ⟨wr.heap.size, 0, none⟩) 1 1 [.int .u8 0] rfl (reads_lit wr _ [.int .u8 0] 1 1 rfl) (by simp [Value.oneCell']) (by unfold maxLen; omega) (by omega) (by simp; omega) ?_; intro v5 w5 hown5 hg5 _; have r5 := (rr.alloc (.cells #[.int .u8 0] 5)).grown hg5 (rr.own_ne hown (by decide)); have k5 := (k.alloc _).grown hg5 (Ne.symm (own_blk_ne hown k (by decide))); have hb5 := (hbw.alloc (by omega) _).grown hg5 (by simp; omega) (fun q hq => (hown.lt q hq).1); have hz5 : wr.heap.size < w5.heap.size := by have := hg5.size; simp at this; omega)
      obtain ⟨A5, c5, rfl⟩ := own_slice hown5
      go_roundw
      case rel => exact ⟨j + 1, A5, c5, by omega, rfl, by simpa [bcs_append, bcs, bc, List.replicate_succ', Nat.add_assoc] using hown5, k5, hb5, by omega, r5⟩
      case measure => simp [vlen]; omega
end Go.Proofs.Ytkckakfkeooepaa
