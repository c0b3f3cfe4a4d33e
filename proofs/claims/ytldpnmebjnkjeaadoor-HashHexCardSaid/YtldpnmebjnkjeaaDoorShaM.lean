import Derived.Test.YtldpnmebjnkjeaaDoorShaI
namespace Go.Proofs.YtldpnmebjnkjeaaDoor.Sha
set_option linter.unusedVariables false
set_option linter.unusedSimpArgs false

/-! Digits there and back. -/
theorem val_hd (n : Nat) (h : n < 16) : val (hd n) = n := by
  have all : ∀ m : Fin 16, val (hd m.val) = m.val := by decide +kernel
  exact all ⟨n, h⟩
theorem hd_val (b : UInt8) (h : 0 ≤ val b) : hd (val b).toNat = b := by
  have all : ∀ m : Fin 256, 0 ≤ val (UInt8.ofNat m.val) → hd (val (UInt8.ofNat m.val)).toNat = UInt8.ofNat m.val := by decide +kernel
  have h1 := all ⟨b.toNat, b.toNat_lt⟩
  rw [UInt8.ofNat_toNat] at h1
  exact h1 h
theorem hexL_get : ∀ (l : List UInt8) (k : Nat) (h : k < l.length), (hexL l)[2 * k]? = some (hd (l[k].toNat / 16)) ∧ (hexL l)[2 * k + 1]? = some (hd (l[k].toNat % 16))
  | a :: l, 0, _ => ⟨rfl, rfl⟩
  | a :: l, k + 1, h => by
    have ih := hexL_get l k (by simpa using h)
    have e : hexL (a :: l) = hd (a.toNat / 16) :: hd (a.toNat % 16) :: hexL l := rfl
    rw [e, show 2 * (k + 1) = 2 * k + 1 + 1 by omega, show 2 * k + 1 + 1 + 1 = (2 * k + 1) + 1 + 1 by omega]
    simpa using ih
theorem hexL_digits (l : List UInt8) : allDigits (hexL l) = true := by
  unfold allDigits
  rw [List.all_eq_true]
  intro x hx
  unfold hexL at hx
  rw [List.mem_flatMap] at hx
  obtain ⟨y, _, hy⟩ := hx
  have h1 : y.toNat / 16 < 16 := by have := y.toNat_lt; omega
  have h2 : y.toNat % 16 < 16 := by omega
  simp only [List.mem_cons, List.not_mem_nil, or_false] at hy
  rcases hy with rfl | rfl
  · rw [val_hd _ h1]; simp; omega
  · rw [val_hd _ h2]; simp; omega
theorem dp_hex (l : List UInt8) (h : l.length = 32) : dp (hexL l) 64 = l := by
  apply List.ext_getElem?
  intro k
  by_cases hk : k < 32
  · have hkl : k < l.length := by omega
    obtain ⟨g1, g2⟩ := hexL_get l k hkl
    rw [dp_get _ _ _ hk, List.getElem?_eq_getElem hkl]
    congr 1
    unfold dpAt
    rw [if_pos (by omega), List.getD_eq_getElem?_getD, List.getD_eq_getElem?_getD, g1, g2, Option.getD_some, Option.getD_some]
    have h1 : l[k].toNat / 16 < 16 := by have := l[k].toNat_lt; omega
    have h2 : l[k].toNat % 16 < 16 := by omega
    rw [val_hd _ h1, val_hd _ h2, Int.toNat_natCast, Int.toNat_natCast, show 16 * (l[k].toNat / 16) + l[k].toNat % 16 = l[k].toNat by omega]
    exact UInt8.ofNat_toNat
  · rw [List.getElem?_eq_none (by rw [dp_len]; omega), List.getElem?_eq_none (by omega)]
theorem hex_dp (s : List UInt8) (h : s.length = 64) (hd_ : allDigits s = true) : hexL (dp s 64) = s := by
  have hv : ∀ j (hj : j < s.length), 0 ≤ val s[j] := by
    intro j hj
    unfold allDigits at hd_
    rw [List.all_eq_true] at hd_
    have := hd_ s[j] (List.getElem_mem _)
    simpa using this
  apply List.ext_getElem?
  intro i
  by_cases hi : i < 64
  · have hk : i / 2 < 32 := by omega
    have hkl : i / 2 < (dp s 64).length := by rw [dp_len]; omega
    obtain ⟨g1, g2⟩ := hexL_get (dp s 64) (i / 2) hkl
    have hget : (dp s 64)[i / 2] = dpAt s 64 (i / 2) := by
      have := dp_get s 64 (i / 2) hk
      rw [List.getElem?_eq_getElem hkl] at this
      exact Option.some.inj this
    have e1 : s.getD (2 * (i / 2)) 0 = s[2 * (i / 2)]'(by omega) := by rw [List.getD_eq_getElem?_getD, List.getElem?_eq_getElem (by omega)]; rfl
    have e2 : s.getD (2 * (i / 2) + 1) 0 = s[2 * (i / 2) + 1]'(by omega) := by rw [List.getD_eq_getElem?_getD, List.getElem?_eq_getElem (by omega)]; rfl
    have v1 := hv (2 * (i / 2)) (by omega)
    have v2 := hv (2 * (i / 2) + 1) (by omega)
    have b1 := val_bd (s[2 * (i / 2)]'(by omega))
    have b2 := val_bd (s[2 * (i / 2) + 1]'(by omega))
    have hn : (dpAt s 64 (i / 2)).toNat = 16 * (val (s[2 * (i / 2)]'(by omega))).toNat + (val (s[2 * (i / 2) + 1]'(by omega))).toNat := by
      unfold dpAt
      rw [if_pos (by omega), e1, e2, UInt8.toNat_ofNat']
      omega
    rw [hget, hn] at g1 g2
    rw [show (16 * (val (s[2 * (i / 2)]'(by omega))).toNat + (val (s[2 * (i / 2) + 1]'(by omega))).toNat) / 16 = (val (s[2 * (i / 2)]'(by omega))).toNat by omega, hd_val _ v1] at g1
    rw [show (16 * (val (s[2 * (i / 2)]'(by omega))).toNat + (val (s[2 * (i / 2) + 1]'(by omega))).toNat) % 16 = (val (s[2 * (i / 2) + 1]'(by omega))).toNat by omega, hd_val _ v2] at g2
    by_cases he : i % 2 = 0
    · rw [show i = 2 * (i / 2) by omega, g1, List.getElem?_eq_getElem]
    · rw [show i = 2 * (i / 2) + 1 by omega, g2, List.getElem?_eq_getElem]
  · rw [List.getElem?_eq_none (by rw [hexL_len, dp_len]; omega), List.getElem?_eq_none (by omega)]
/-- What Parse makes of the digits of a digest. -/
theorem parseV_hex (l : List UInt8) (h : l.length = 32) : parseV ⟨(hexL l).toArray⟩ = .tuple #[.agg (Lib.byteCells l).toArray, .int .i64 0] := by
  have hs : (⟨(hexL l).toArray⟩ : ByteArray).size = 64 := by
    show (hexL l).toArray.size = 64
    rw [List.size_toArray, hexL_len, h]
  unfold parseV
  rw [if_pos ⟨hs, hexL_digits l⟩]
  rw [show (⟨(hexL l).toArray⟩ : ByteArray).data.toList = hexL l from rfl, dp_hex l h]
end Go.Proofs.YtldpnmebjnkjeaaDoor.Sha
