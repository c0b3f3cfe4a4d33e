import Derived.Test.YtamfbfhkojnafaaDoorDateU
namespace Go.Proofs.YtamfbfhkojnafaaDoor.PD4
open Go.RowKit Go.Proofs.YtamfbfhkojnafaaDoorW.PrintWords
set_option linter.unusedVariables false
set_option linter.unusedSimpArgs false

theorem split_f (x : Int) (h1 : -50000 ≤ x) (h2 : x ≤ 50000) : ∃ y m d, date_Split.f x = some (y, m, d, 0) ∧ Civ x y m d := by
  refine ⟨(spRes x).1, (spRes x).2.1, (spRes x).2.2, ?_, sp_civ x⟩
  unfold date_Split.f Go.Proofs.YtamfbfhkojnafaaDoor.date_Split.f
  rw [if_pos ((dayB_iff x).2 ⟨h1, h2⟩)]
theorem itoa_4 (a b c d : Nat) (ha : 1 ≤ a ∧ a ≤ 9) (hb : b ≤ 9) (hc : c ≤ 9) (hd : d ≤ 9) : Lib.itoa ((1000 * a + 100 * b + 10 * c + d : Nat) : Int) = [UInt8.ofNat (48 + a), UInt8.ofNat (48 + b), UInt8.ofNat (48 + c), UInt8.ofNat (48 + d)] := by
  rw [Lib.itoa, if_neg (by omega), Int.toNat_natCast, Lib.decDigits, dif_neg (by omega), Lib.decDigits, dif_neg (by omega), Lib.decDigits, dif_neg (by omega), Lib.decDigits, dif_pos (by omega)]
  rw [show (1000 * a + 100 * b + 10 * c + d) / 10 / 10 / 10 = a by omega, show (1000 * a + 100 * b + 10 * c + d) / 10 / 10 % 10 = b by omega, show (1000 * a + 100 * b + 10 * c + d) / 10 % 10 = c by omega, show (1000 * a + 100 * b + 10 * c + d) % 10 = d by omega]
  rfl
theorem itoa_2 (a b : Nat) (ha : 1 ≤ a ∧ a ≤ 9) (hb : b ≤ 9) : Lib.itoa ((10 * a + b : Nat) : Int) = [UInt8.ofNat (48 + a), UInt8.ofNat (48 + b)] := by
  rw [Lib.itoa, if_neg (by omega), Int.toNat_natCast, Lib.decDigits, dif_neg (by omega), Lib.decDigits, dif_pos (by omega)]
  rw [show (10 * a + b) / 10 = a by omega, show (10 * a + b) % 10 = b by omega]
  rfl
theorem itoa_1 (a : Nat) (ha : a ≤ 9) : Lib.itoa ((a : Nat) : Int) = [UInt8.ofNat (48 + a)] := by
  rw [Lib.itoa, if_neg (by omega), Int.toNat_natCast, Lib.decDigits, dif_pos (by omega)]

/-- Two digits. -/
def d2 (n : Nat) : List UInt8 := [UInt8.ofNat (48 + n / 10), UInt8.ofNat (48 + n % 10)]
theorem size_l (l : List UInt8) : (⟨l.toArray⟩ : ByteArray).size = l.length := by simp [ByteArray.size]
theorem rep_0 : ∀ n : Nat, Lib.repeatL [48] n = List.replicate n 48
  | 0 => rfl
  | n + 1 => by rw [Lib.repeatL, rep_0 n, List.replicate_succ]; rfl
theorem pad_gen (L : List UInt8) (w : Nat) (hw : L.length ≤ w) (hw2 : w ≤ 10) (n : Int) (hI : strconv_Itoa_67.f n = some ⟨L.toArray⟩) : date_padded.f n (w : Int) = some ⟨(List.replicate (w - L.length) 48 ++ L).toArray⟩ := by
  unfold date_padded.f
  rw [hI, Option.bind_some, size_l, w64_s (by omega) (by omega), strings_Repeat.f, if_pos ⟨⟨by omega, by omega⟩, by rw [size_lit1]; decide⟩, Option.bind_some]
  have e : (⟨#[48]⟩ : ByteArray).data.toList = [48] := rfl
  rw [e, rep_0, size_l, List.length_replicate, if_pos (by omega)]
  congr 1
  rw [show ((w : Int) - (L.length : Int)).toNat = w - L.length by omega]
  apply ByteArray.ext
  simp
theorem pad_2 (n : Nat) (h : n ≤ 99) : date_padded.f (n : Int) 2 = some ⟨(d2 n).toArray⟩ := by
  by_cases h9 : n ≤ 9
  · have hI : strconv_Itoa_67.f (n : Int) = some ⟨[UInt8.ofNat (48 + n)].toArray⟩ := by
      rw [strconv_Itoa_67.f, if_pos (by omega), itoa_1 n h9]
    have := pad_gen _ 2 (by simp) (by omega) _ hI
    rw [show ((2 : Nat) : Int) = 2 from rfl] at this
    rw [this, d2, show n / 10 = 0 by omega, show n % 10 = n by omega]
    rfl
  · have hI : strconv_Itoa_67.f (n : Int) = some ⟨(d2 n).toArray⟩ := by
      rw [strconv_Itoa_67.f, if_pos (by omega)]
      rw [show (n : Int) = ((10 * (n / 10) + n % 10 : Nat) : Int) by omega, itoa_2 (n / 10) (n % 10) (by omega) (by omega), d2]
    exact pad_gen _ 2 (by simp [d2]) (by omega) _ hI
theorem pad_4 (n : Nat) (h0 : 1000 ≤ n) (h : n ≤ 9999) : date_padded.f (n : Int) 4 = some ⟨(d2 (n / 100) ++ d2 (n % 100)).toArray⟩ := by
  have hI : strconv_Itoa_67.f (n : Int) = some ⟨(d2 (n / 100) ++ d2 (n % 100)).toArray⟩ := by
    rw [strconv_Itoa_67.f, if_pos (by omega)]
    rw [show (n : Int) = ((1000 * (n / 1000) + 100 * (n / 100 % 10) + 10 * (n / 10 % 10) + n % 10 : Nat) : Int) by omega, itoa_4 (n / 1000) (n / 100 % 10) (n / 10 % 10) (n % 10) (by omega) (by omega) (by omega) (by omega), d2, d2]
    rw [show n / 100 / 10 = n / 1000 by omega, show n % 100 / 10 = n / 10 % 10 by omega, show n % 100 % 10 = n % 10 by omega]
    rfl
  exact pad_gen _ 4 (by simp [d2]) (by omega) _ hI
/-- A date's text. -/
def textL (y m d : Nat) : List UInt8 := d2 (y / 100) ++ d2 (y % 100) ++ [45] ++ d2 m ++ [45] ++ d2 d
theorem print_f (x : Int) (h1 : -50000 ≤ x) (h2 : x ≤ 50000) (y m d : Nat) (hc : Civ x y m d) (hy : 1000 ≤ y ∧ y ≤ 9999) : date_Print.f x = some (⟨(textL y m d).toArray⟩, 0) := by
  obtain ⟨y', m', d', hs, hc'⟩ := split_f x h1 h2
  obtain ⟨rfl, rfl, rfl⟩ := civ_unique hc' hc
  have hd : d ≤ 31 := by
    have := ml_bd y m hc.1 hc.2.1
    have := hc.2.2.2.1
    omega
  have hm : m ≤ 12 := by have := hc.2.1; omega
  unfold date_Print.f
  simp only [hs, Option.bind_some, if_true, pad_4 y hy.1 hy.2, pad_2 m (by omega), pad_2 d (by omega)]
  rfl
theorem alive_f (k : Nat) : cashbooklaw04_alive.f (k + 1) = some true := by
  unfold cashbooklaw04_alive.f
  have hp := print_f (-1) (by decide) (by decide) 1999 12 31 (by unfold Civ; decide +kernel) ⟨by decide, by decide⟩
  rw [join_f, hp]
  decide +kernel
theorem i32_bd {a : Int} (h : (Lit.int .i32 a).wf = true) : -2147483648 ≤ a ∧ a ≤ 2147483647 := by
  have e1 : IntKind.i32.min = -2147483648 := by decide
  have e2 : IntKind.i32.max = 2147483647 := by decide
  have h2 : IntKind.i32.min ≤ a ∧ a ≤ IntKind.i32.max := by simpa [Lit.wf] using h
  rw [e1, e2] at h2; exact h2
theorem tmod_r (a b : Int) : a.tmod b = if 0 ≤ a then a % b else -((-a) % b) := by
  by_cases h : 0 ≤ a
  · rw [if_pos h, Int.tmod_eq_emod_of_nonneg h]
  · rw [if_neg h]
    have := Int.neg_tmod (-a) b
    rw [Int.neg_neg] at this
    rw [this, Int.tmod_eq_emod_of_nonneg (by omega)]
theorem mayd_f (a : Int) (h : (Lit.int .i32 a).wf = true) : ∃ v, cashbooklaw04_may.f a = some v ∧ -50000 ≤ v ∧ v ≤ 50000 := by
  have hw := i32_bd h
  unfold cashbooklaw04_may.f
  rw [w64_s (i := a) (by omega) (by omega)]
  have hb : ∃ b : Int, Go.bits .and .i64 a 1 = b ∧ 0 ≤ b ∧ b ≤ 1 := by
    refine ⟨_, rfl, ?_⟩
    have e : (BitVec.ofInt 64 a &&& BitVec.ofInt 64 1).toNat = (BitVec.ofInt 64 a).toNat % 2 := by
      rw [BitVec.toNat_and, show (BitVec.ofInt 64 1).toNat = 1 from rfl, Nat.and_one_is_mod]
    have e2 : Go.bits .and .i64 a 1 = IntKind.i64.wrap (((BitVec.ofInt 64 a &&& BitVec.ofInt 64 1).toNat : Nat) : Int) := rfl
    rw [e2, e, IntKind.wrap_i64]
    omega
  obtain ⟨b, hb, b0, b1⟩ := hb
  rw [hb]
  have hq : ∃ q : Int, (wrap64 ((Int.tmod a 50001) + 50001)).tmod 50001 = q ∧ 0 ≤ q ∧ q ≤ 50000 := by
    rw [tmod_r a 50001]
    by_cases h0 : 0 ≤ a
    · rw [if_pos h0, w64_s (by omega) (by omega), tmod_r, if_pos (by omega)]
      exact ⟨_, rfl, by omega, by omega⟩
    · rw [if_neg h0, w64_s (by omega) (by omega), tmod_r, if_pos (by omega)]
      exact ⟨_, rfl, by omega, by omega⟩
  obtain ⟨q, hq, q0, q1⟩ := hq
  rw [hq]
  rcases (show b = 0 ∨ b = 1 by omega) with rfl | rfl
  · rw [show wrap64 (1 - wrap64 (2 * 0)) = 1 by decide +kernel, w64_s (by omega) (by omega), w32_s (by omega) (by omega)]
    exact ⟨_, rfl, by omega, by omega⟩
  · rw [show wrap64 (1 - wrap64 (2 * 1)) = -1 by decide +kernel, w64_s (by omega) (by omega), w32_s (by omega) (by omega)]
    exact ⟨_, rfl, by omega, by omega⟩
end Go.Proofs.YtamfbfhkojnafaaDoor.PD4
