import Derived.Test.YtldpnmebjnkjeaaDoorShaP
namespace Go.Proofs.YtldpnmebjnkjeaaDoor.Sha
set_option linter.unusedVariables false
set_option linter.unusedSimpArgs false

/-! What the program's functions compute, without Go: bytes and words. -/
def kT : List UInt32 := [
  0x428a2f98, 0x71374491, 0xb5c0fbcf, 0xe9b5dba5, 0x3956c25b, 0x59f111f1, 0x923f82a4, 0xab1c5ed5,
  0xd807aa98, 0x12835b01, 0x243185be, 0x550c7dc3, 0x72be5d74, 0x80deb1fe, 0x9bdc06a7, 0xc19bf174,
  0xe49b69c1, 0xefbe4786, 0x0fc19dc6, 0x240ca1cc, 0x2de92c6f, 0x4a7484aa, 0x5cb0a9dc, 0x76f988da,
  0x983e5152, 0xa831c66d, 0xb00327c8, 0xbf597fc7, 0xc6e00bf3, 0xd5a79147, 0x06ca6351, 0x14292967,
  0x27b70a85, 0x2e1b2138, 0x4d2c6dfc, 0x53380d13, 0x650a7354, 0x766a0abb, 0x81c2c92e, 0x92722c85,
  0xa2bfe8a1, 0xa81a664b, 0xc24b8b70, 0xc76c51a3, 0xd192e819, 0xd6990624, 0xf40e3585, 0x106aa070,
  0x19a4c116, 0x1e376c08, 0x2748774c, 0x34b0bcb5, 0x391c0cb3, 0x4ed8aa4a, 0x5b9cca4f, 0x682e6ff3,
  0x748f82ee, 0x78a5636f, 0x84c87814, 0x8cc70208, 0x90befffa, 0xa4506ceb, 0xbef9a3f7, 0xc67178f2]
def v0 : V8 := ⟨0x6a09e667, 0xbb67ae85, 0x3c6ef372, 0xa54ff53a, 0x510e527f, 0x9b05688c, 0x1f83d9ab, 0x5be0cd19⟩
/-- A block taken. -/
def takeP (v : V8) (b : List UInt8) : V8 := vadd v (rnds kT (sched b 48) v 64)
def blks : Nat → V8 → List UInt8 → V8 × List UInt8
  | 0, v, l => (v, l)
  | n + 1, v, l => blks n (takeP v (l.take 64)) (l.drop 64)
/-- All blocks taken, and what is left. -/
def feedP (v : V8) (l : List UInt8) : V8 × List UInt8 := blks (l.length / 64) v l
theorem feedP_lt (v : V8) (l : List UInt8) (h : l.length < 64) : feedP v l = (v, l) := by
  unfold feedP; rw [Nat.div_eq_of_lt h]; rfl
theorem feedP_ge (v : V8) (l : List UInt8) (h : 64 ≤ l.length) : feedP v l = feedP (takeP v (l.take 64)) (l.drop 64) := by
  unfold feedP
  rw [show l.length / 64 = (l.drop 64).length / 64 + 1 by rw [List.length_drop]; omega]
  rfl
theorem feedP_app : ∀ (n : Nat) (v : V8) (a b : List UInt8), a.length ≤ n → feedP v (a ++ b) = feedP (feedP v a).1 ((feedP v a).2 ++ b) := by
  intro n
  induction n with
  | zero => intro v a b h; rw [feedP_lt v a (by omega)]
  | succ n ih =>
    intro v a b h
    by_cases h64 : a.length < 64
    · rw [feedP_lt v a h64]
    · have h64' : 64 ≤ a.length := by omega
      rw [feedP_ge v (a ++ b) (by rw [List.length_append]; omega), feedP_ge v a h64', List.take_append_of_le_length h64', List.drop_append_of_le_length h64']
      exact ih _ _ _ (by rw [List.length_drop]; omega)
theorem feedP_len : ∀ (n : Nat) (v : V8) (a : List UInt8), a.length ≤ n → (feedP v a).2.length = a.length % 64 := by
  intro n
  induction n with
  | zero => intro v a h; rw [feedP_lt v a (by omega)]; show a.length = _; omega
  | succ n ih =>
    intro v a h
    by_cases h64 : a.length < 64
    · rw [feedP_lt v a h64]; show a.length = _; omega
    · rw [feedP_ge v a (by omega), ih _ _ (by rw [List.length_drop]; omega), List.length_drop]; omega
/-- Eight bytes of a number. -/
def be8 (n : Nat) : List UInt8 := (List.range 8).map fun i => UInt8.ofNat (n / 2 ^ (56 - 8 * i))
/-- What comes behind so many bytes. -/
def tailL (n : Nat) : List UInt8 := 128 :: (List.replicate ((119 - n % 64) % 64) 0 ++ be8 (8 * n))
theorem tailL_len (n : Nat) : (tailL n).length = 9 + (119 - n % 64) % 64 := by simp [tailL, be8]; omega
/-- A byte of the digest. -/
def dig (v : V8) (i : Nat) : UInt8 := UInt8.ofNat ((v.list.getD (i / 4) 0).toNat / 2 ^ (24 - 8 * (i % 4)))
def digL (v : V8) : List UInt8 := (List.range 32).map (dig v)
theorem digL_len (v : V8) : (digL v).length = 32 := by simp [digL]
/-- The end of a hash. -/
def endP (v : V8) (rest : List UInt8) (n : Nat) : List UInt8 := digL (feedP v (rest ++ tailL n)).1
theorem endP_len (v : V8) (rest : List UInt8) (n : Nat) : (endP v rest n).length = 32 := digL_len _
/-- The digest of bytes. -/
def sumL (l : List UInt8) : List UInt8 := endP (feedP v0 l).1 (feedP v0 l).2 l.length
theorem sumL_len (l : List UInt8) : (sumL l).length = 32 := endP_len _ _ _
/-- The same, in one. -/
theorem sumL_all (l : List UInt8) : sumL l = digL (feedP v0 (l ++ tailL l.length)).1 := by
  unfold sumL endP
  rw [feedP_app l.length v0 l (tailL l.length) (Nat.le_refl _)]
end Go.Proofs.YtldpnmebjnkjeaaDoor.Sha
