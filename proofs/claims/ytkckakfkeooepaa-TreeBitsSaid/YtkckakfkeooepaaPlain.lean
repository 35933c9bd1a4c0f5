/- Plain words, no program in sight: bytes of numbers, the permutation, the sponge's sum, tagged texts. -/
namespace Go.Proofs.Ytkckakfkeooepaa
set_option linter.all false
set_option linter.unusedSimpArgs false
set_option linter.unusedVariables false
set_option linter.unnecessarySimpa false
/-- A string of bytes. -/
abbrev Bs := List UInt8
/-- 2^64. -/
def M64 : Nat := 18446744073709551616
theorem M64_eq : M64 = 2 ^ 64 := by decide
/-- Byte i of a number, the lowest first. -/
def byteN (n i : Nat) : UInt8 := UInt8.ofNat (n / 256 ^ i)
/-- The eight bytes of a number, the lowest first. -/
def numN (n : Nat) : Bs := [byteN n 0, byteN n 1, byteN n 2, byteN n 3, byteN n 4, byteN n 5, byteN n 6, byteN n 7]
@[simp] theorem numN_length (n : Nat) : (numN n).length = 8 := rfl
/-- The number of some bytes, the lowest first. -/
def unnum : Bs → Nat
  | [] => 0
  | c :: l => c.toNat + 256 * unnum l
theorem byteN_toNat (n i : Nat) : (byteN n i).toNat = n / 256 ^ i % 256 := by simp [byteN]
theorem unnum_numN (n : Nat) (h : n < M64) : unnum (numN n) = n := by
  simp only [numN, unnum, byteN_toNat]
  unfold M64 at h
  simp only [Nat.reducePow]; omega
theorem unnum_lt (b : Bs) : unnum b < 256 ^ b.length := by
  induction b with
  | nil => simp [unnum]
  | cons c l ih =>
    have := c.toNat_lt
    simp only [unnum, List.length_cons, Nat.pow_succ]
    omega
/-- A byte string with its length ahead. -/
def lumpB (b : Bs) : Bs := numN b.length ++ b
/-- A hash: 32 bytes. -/
structure Hash where
  l : Bs
  h : l.length = 32
  deriving DecidableEq
theorem Hash.ext' {a b : Hash} (h : a.l = b.l) : a = b := by cases a; cases b; simp_all
/-- The state of the permutation. -/
structure St where
  a : Nat
  b : Nat
  c : Nat
  d : Nat
  e : Nat
def xorM (a b : Nat) : Nat := (a ^^^ b) % M64
def andM (a b : Nat) : Nat := (a &&& b) % M64
def notM (a : Nat) : Nat := xorM 18446744073709551615 a
/-- Turned to the right by n, n from 1 to 63. -/
def rotM (a n : Nat) : Nat := (a / 2 ^ n ||| a * 2 ^ (64 - n) % M64) % M64
def turnM (x p q : Nat) : Nat := xorM (xorM x (rotM x p)) (rotM x q)
/-- One round with a constant. -/
def roundN (s : St) (k : Nat) : St :=
  let s2 := xorM s.c k
  let s0 := xorM s.a s.e
  let s4 := xorM s.e s.d
  let s2 := xorM s2 s.b
  let s1 := s.b
  let s3 := s.d
  let t0 := xorM s0 (andM (notM s1) s2)
  let t1 := xorM s1 (andM (notM s2) s3)
  let t2 := xorM s2 (andM (notM s3) s4)
  let t3 := xorM s3 (andM (notM s4) s0)
  let t4 := xorM s4 (andM (notM s0) s1)
  let t1 := xorM t1 t0
  let t0 := xorM t0 t4
  let t3 := xorM t3 t2
  let t2 := notM t2
  ⟨turnM t0 19 28, turnM t1 61 39, turnM t2 1 6, turnM t3 10 17, turnM t4 7 41⟩
/-- The constants of the twelve rounds. -/
def roundKs : List Nat := [0xf0, 0xe1, 0xd2, 0xc3, 0xb4, 0xa5, 0x96, 0x87, 0x78, 0x69, 0x5a, 0x4b]
def permN (s : St) : St := roundKs.foldl roundN s
/-- The state behind k blocks of eight bytes. -/
def absorb : Nat → St → Bs → St
  | 0, s, _ => s
  | k + 1, s, b => absorb k (permN { s with a := xorM s.a (unnum (b.take 8)) }) (b.drop 8)
/-- Behind the bytes: a one, then zeros up to a multiple of eight. -/
def padB (b : Bs) : Bs := b ++ 1 :: List.replicate (7 - b.length % 8) 0
def begin0 : St := ⟨0x0000080100cc0002, 0, 0, 0, 0⟩
/-- The state behind all bytes. -/
def sponged (b : Bs) : St := absorb (b.length / 8 + 1) (permN begin0) (padB b)
/-- The hash of bytes. -/
def sumB (b : Bs) : Hash :=
  let s := sponged b
  let t := permN s
  let u := permN t
  let v := permN u
  ⟨numN s.a ++ numN t.a ++ numN u.a ++ numN v.a, rfl⟩
/-- A tag and lumps as bytes. -/
def textB (tag : UInt8) (l : List Bs) : Bs := tag :: (l.map lumpB).flatten
def tagB (tag : UInt8) (l : List Bs) : Hash := sumB (textB tag l)
/-- Byte k of a hash. -/
def Hash.at (h : Hash) (k : Nat) : UInt8 := h.l.getD k 0
/-- Bit k of a hash, the highest of the first byte first. -/
def bitH (h : Hash) (k : Nat) : Nat := if k < 256 then (h.at (k / 8)).toNat / 2 ^ (7 - k % 8) % 2 else 0
end Go.Proofs.Ytkckakfkeooepaa
