import Derived.Test.YtldpnmebjnkjeaaDoorShaH
namespace Go.Proofs.YtldpnmebjnkjeaaDoor.Sha
open Go.RowKit Go.Proofs.YtldpnmebjnkjeaaDoorW.PrintWords
set_option linter.unusedVariables false
set_option linter.unusedSimpArgs false

/-- What a digit counts; below 0: it is none. -/
def val (b : UInt8) : Int := Lib.indexByte digitsL b
theorem val_bd (b : UInt8) : -1 ≤ val b ∧ val b < 16 := by
  have all : ∀ m : Fin 256, -1 ≤ val (UInt8.ofNat m.val) ∧ val (UInt8.ofNat m.val) < 16 := by decide +kernel
  have h := all ⟨b.toNat, b.toNat_lt⟩
  rwa [UInt8.ofNat_toNat] at h
def vb (b : UInt8) : UInt8 := UInt8.ofNat (val b).toNat
/-- The bytes that the first i digits make. -/
def dpAt (s : List UInt8) (i k : Nat) : UInt8 :=
  if 2 * k + 1 < i then UInt8.ofNat (16 * (val (s.getD (2 * k) 0)).toNat + (val (s.getD (2 * k + 1) 0)).toNat) else if 2 * k < i then vb (s.getD (2 * k) 0) else 0
def dp (s : List UInt8) (i : Nat) : List UInt8 := (List.range 32).map (dpAt s i)
theorem dp_len (s : List UInt8) (i : Nat) : (dp s i).length = 32 := by simp [dp]
theorem dp_get (s : List UInt8) (i k : Nat) (h : k < 32) : (dp s i)[k]? = some (dpAt s i k) := by simp [dp, h]
theorem dp_zero (s : List UInt8) : dp s 0 = List.replicate 32 0 := by
  apply List.ext_getElem?
  intro k
  by_cases h : k < 32
  · rw [dp_get s 0 k h, List.getElem?_replicate, if_pos h]; simp [dpAt]
  · rw [List.getElem?_eq_none (by rw [dp_len]; omega), List.getElem?_eq_none (by simp; omega)]
theorem dp_step (s : List UInt8) (i : Nat) (h : i < 64) (y : UInt8) (hy : y = dpAt s (i + 1) (i / 2)) : (dp s i).set (i / 2) y = dp s (i + 1) := by
  apply List.ext_getElem?
  intro k
  rw [List.getElem?_set]
  by_cases hk : i / 2 = k
  · subst hk
    rw [if_pos rfl, if_pos (by rw [dp_len]; omega), dp_get s (i + 1) _ (by omega), hy]
  · rw [if_neg hk]
    by_cases h32 : k < 32
    · rw [dp_get s i k h32, dp_get s (i + 1) k h32]
      congr 1
      unfold dpAt
      by_cases h1 : 2 * k + 1 < i
      · rw [if_pos h1, if_pos (by omega)]
      · rw [if_neg h1, if_neg (by omega : ¬ 2 * k + 1 < i + 1)]
        by_cases h2 : 2 * k < i
        · rw [if_pos h2, if_pos (by omega)]
        · rw [if_neg h2, if_neg (by omega)]
    · rw [List.getElem?_eq_none (by rw [dp_len]; omega), List.getElem?_eq_none (by rw [dp_len]; omega)]
theorem or_bits (a b : Nat) (ha : a < 16) (hb : b < 16) : bits .or .u8 ((a : Int) * 16 % 256) (b : Int) = ((16 * a + b : Nat) : Int) := by
  have all : ∀ m n : Fin 16, bits .or .u8 ((m.val : Int) * 16 % 256) (n.val : Int) = ((16 * m.val + n.val : Nat) : Int) := by decide +kernel
  exact all ⟨a, ha⟩ ⟨b, hb⟩
theorem dp_value (s : List UInt8) (i : Nat) (h : i < 64) (b : UInt8) (hb : s.getD i 0 = b) (hv : 0 ≤ val b) :
    bits .or .u8 (((dpAt s i (i / 2)).toNat : Int) * 16 % 256) (val b) = ((dpAt s (i + 1) (i / 2)).toNat : Int) := by
  obtain ⟨n, hn⟩ : ∃ n : Nat, val b = n := ⟨(val b).toNat, by omega⟩
  have hn16 : n < 16 := by have := (val_bd b).2; omega
  by_cases he : i % 2 = 0
  · have h1 : dpAt s i (i / 2) = 0 := by unfold dpAt; rw [if_neg (by omega), if_neg (by omega)]
    have h2 : dpAt s (i + 1) (i / 2) = UInt8.ofNat n := by
      unfold dpAt vb
      rw [if_neg (by omega), if_pos (by omega), show 2 * (i / 2) = i by omega, hb, hn]; rfl
    rw [h1, h2, hn]
    have := or_bits 0 n (by omega) hn16
    rw [show (((0 : UInt8).toNat : Int)) = ((0 : Nat) : Int) from rfl, this, UInt8.toNat_ofNat']
    omega
  · have h1 : dpAt s i (i / 2) = vb (s.getD (i - 1) 0) := by unfold dpAt; rw [if_neg (by omega), if_pos (by omega), show 2 * (i / 2) = i - 1 by omega]
    have h2 : dpAt s (i + 1) (i / 2) = UInt8.ofNat (16 * (val (s.getD (i - 1) 0)).toNat + n) := by
      unfold dpAt
      rw [if_pos (by omega), show 2 * (i / 2) = i - 1 by omega, show i - 1 + 1 = i by omega, hb, hn]; rfl
    have hc := val_bd (s.getD (i - 1) 0)
    have ho := or_bits (val (s.getD (i - 1) 0)).toNat n (by omega) hn16
    rw [h1, h2, hn]
    have e1 : ((vb (s.getD (i - 1) 0)).toNat : Int) = ((val (s.getD (i - 1) 0)).toNat : Int) := by
      unfold vb; rw [UInt8.toNat_ofNat']; omega
    rw [e1, ho, UInt8.toNat_ofNat']
    omega
/-- Are all digits? -/
def allDigits (s : List UInt8) : Bool := s.all fun b => decide (0 ≤ val b)
def parseV (s : ByteArray) : Value := .tuple (if s.size = 64 ∧ allDigits s.data.toList = true then #[.agg (Lib.byteCells (dp s.data.toList 64)).toArray, .int .i64 0] else #[zeroDig, .int .i64 3])
end Go.Proofs.YtldpnmebjnkjeaaDoor.Sha
