/- The base: numbers, bytes, the sponge. -/
import Derived.Test.YtkckakfkeooepaaJTy
namespace Go.Proofs.Ytkckakfkeooepaa
set_option linter.all false
set_option linter.unusedSimpArgs false
set_option linter.unusedVariables false
set_option linter.unnecessarySimpa false
open Go.RowKit
theorem c_Num (n : Int) (h : 0 ≤ n) : CT Try.prog 75 [.int .u64 n] [] [] (pO 5 1 8 (bcs (numN n.toNat))) := CT_own fun W _ => num_any n h W
theorem rd.reads {A : Option Addr} {b : Bs} {W : World} (h : rd A (bcs b) W) : Reads W W.heap.size 1 A b.length (bcs b) := Rng.reads h (by simp) (by omega)
theorem c_Lump (A : Option Addr) (n c : Nat) (b : Bs) (hn : b.length = n) (hl : n ≤ 16777216) : CT Try.prog 157 [.slice A n c] [] [rd A (bcs b)] (pO 5 1 (lumpB b).length (bcs (lumpB b))) := CT_own fun W hφ => by
  subst hn
  exact lump_any A c b W (rd.reads (hφ (rd A (bcs b)) (by simp))) hl
theorem c_Sum (A : Option Addr) (n c : Nat) (b : Bs) (hn : b.length = n) (hl : n ≤ 16777216) : CT Try.prog 66 [.slice A n c] [] [rd A (bcs b)] (pV (.agg (hL (sumB b)).toArray)) := CT_val fun W hφ => by
  subst hn
  exact sum_any A c b W (rd.reads (hφ (rd A (bcs b)) (by simp))) hl
theorem c_Text (t : Int) (ht : 0 ≤ t ∧ t < 256) (A : Option Addr) (n c : Nat) (ps : List BPart) (hn : ps.length = n) (hl : n ≤ 65536) (hs : (ps.map fun p => p.l.length + 8).sum ≤ 16777000) :
    CT Try.prog 133 [.int .u8 t, .slice A n c] [] [rdB A ps] (pO 5 1 (textB (UInt8.ofNat t.toNat) (ps.map BPart.l)).length (bcs (textB (UInt8.ofNat t.toNat) (ps.map BPart.l)))) := CT_own fun W hφ => by
  subst hn
  have e : ((UInt8.ofNat t.toNat).toNat : Int) = t := by simp; omega
  have h := rdB.ok (hφ (rdB A ps) (by simp))
  have := text_any (UInt8.ofNat t.toNat) A c ps W h.1 h.2 hl hs
  rw [e] at this
  exact this
theorem c_Tag (t : Int) (ht : 0 ≤ t ∧ t < 256) (A : Option Addr) (n c : Nat) (ps : List BPart) (hn : ps.length = n) (hl : n ≤ 65536) (hs : (ps.map fun p => p.l.length + 8).sum ≤ 16777000) :
    CT Try.prog 96 [.int .u8 t, .slice A n c] [] [rdB A ps] (pV (.agg (hL (tagB (UInt8.ofNat t.toNat) (ps.map BPart.l))).toArray)) := CT_val fun W hφ => by
  subst hn
  have e : ((UInt8.ofNat t.toNat).toNat : Int) = t := by simp; omega
  have h := rdB.ok (hφ (rdB A ps) (by simp))
  have := tag_any (UInt8.ofNat t.toNat) A c ps W h.1 h.2 hl hs
  rw [e] at this
  exact this
theorem c_Join (A : Option Addr) (n c m : Nat) (ps : List BPart) (b : Bs) (hn : ps.length = n) (hb : (ps.map BPart.l).flatten = b) (hm : b.length = m) (hl : n ≤ 65536) (hs : m ≤ 16777216) :
    CT Try.prog 72 [.slice A n c] [] [rdB A ps] (pO 5 1 m (bcs b)) := CT_own fun W hφ => by
  subst hn; subst hb; subst hm
  have h := rdB.ok (hφ (rdB A ps) (by simp))
  have e1 : (ps.map fun p : BPart => (⟨p.A, p.l.length, p.c, bcs p.l⟩ : Part)).map Part.v = ps.map BPart.v := by simp [Part.v, BPart.v]
  have e2 : ((ps.map fun p : BPart => (⟨p.A, p.l.length, p.c, bcs p.l⟩ : Part)).map Part.n).sum = (ps.map BPart.l).flatten.length := by
    rw [List.length_flatten]; simp [Function.comp_def]
  have e3 : ∀ ps : List BPart, ((ps.map fun p : BPart => (⟨p.A, p.l.length, p.c, bcs p.l⟩ : Part)).map Part.xs).flatten = bcs (ps.map BPart.l).flatten := by
    intro ps
    induction ps with
    | nil => rfl
    | cons p ps ih =>
      simp only [List.map_cons, List.flatten_cons, bcs_append, ih]
  have := join_any A c (ps.map fun p : BPart => (⟨p.A, p.l.length, p.c, bcs p.l⟩ : Part)) W (by rw [e1]; simpa using h.1) (fun p hp => by
    simp only [List.mem_map] at hp
    obtain ⟨q, hq, rfl⟩ := hp
    exact ⟨h.2 q hq, bcs_one _⟩) (by simp; omega) (by rw [e2]; exact hs)
  rw [e2, e3] at this
  simpa using this
end Go.Proofs.Ytkckakfkeooepaa
