namespace Go.Proofs.YtamfbfhkojnafaaDoor

def bef : List Int := [0, 31, 61, 92, 122, 153, 184, 214, 245, 275, 306, 337]
def befN (k : Nat) : Int := bef.getD k 0

/-! the plain side of Split -/
def spN (a : Int) : Int := (a + 730425) % 146097
def spY (a : Int) : Int := (spN a - spN a / 1460 + spN a / 36524 - spN a / 146096) / 365
def spD (a : Int) : Int := spN a - (spY a * 365 + spY a / 4 - spY a / 100)
/-- the last month of which no more days than n lie ahead. -/
def spM : Nat → Int → Nat
  | 0, _ => 0
  | k + 1, n => if befN (k + 1) > n then spM k n else k + 1

def allR (p : Nat → Bool) : Nat → Nat → Bool
  | 0, lo => p lo
  | k + 1, lo => allR p k lo && allR p k (lo + 2 ^ k)
theorem allR_at (p : Nat → Bool) : ∀ k lo n, allR p k lo = true → lo ≤ n → n < lo + 2 ^ k → p n = true
  | 0, lo, n, h, h1, h2 => by
    have : n = lo := by simp at h2; omega
    subst this; exact h
  | k + 1, lo, n, h, h1, h2 => by
    simp only [allR, Bool.and_eq_true] at h
    by_cases hn : n < lo + 2 ^ k
    · exact allR_at p k lo n h.1 h1 hn
    · exact allR_at p k _ n h.2 (by omega) (by rw [Nat.pow_succ] at h2; omega)
/-- days ahead of 1 March of a year of the cycle. -/
def marN (y : Nat) : Nat := y * 365 + y / 4 - y / 100
def spOk (n : Nat) : Bool :=
  Nat.ble 146097 n || (let y := (n - n / 1460 + n / 36524 - n / 146096) / 365
    Nat.ble (y + 1) 400 && (Nat.ble (marN y) n && Nat.ble (n + 1) (marN (y + 1) + (y + 1) / 400)))
theorem sp_all : allR spOk 18 0 = true := by decide +kernel

theorem marN_cast (y : Nat) : ((marN y : Nat) : Int) = (y : Int) * 365 + (y : Int) / 4 - (y : Int) / 100 := by unfold marN; omega
theorem sp_bd2 (a : Int) : 0 ≤ spN a ∧ spN a < 146097 ∧ 0 ≤ spY a ∧ spY a < 400 ∧ 0 ≤ spD a ∧ spN a < (spY a + 1) * 365 + (spY a + 1) / 4 - (spY a + 1) / 100 + (spY a + 1) / 400 := by
  have hN : 0 ≤ spN a ∧ spN a < 146097 := by unfold spN; omega
  obtain ⟨n, hn⟩ := Int.eq_ofNat_of_zero_le hN.1
  have h := allR_at spOk 18 0 n sp_all (Nat.zero_le _) (by omega)
  unfold spOk at h
  have hb : Nat.ble 146097 n = false := by
    rw [← Bool.not_eq_true, Nat.ble_eq]; omega
  rw [hb] at h
  simp only [Bool.false_or, Bool.and_eq_true, Nat.ble_eq] at h
  obtain ⟨h1, h2, h3⟩ := h
  have hy : spY a = (((n - n / 1460 + n / 36524 - n / 146096) / 365 : Nat) : Int) := by
    unfold spY
    rw [hn]
    omega
  unfold spD
  rw [hy, hn]
  generalize (n - n / 1460 + n / 36524 - n / 146096) / 365 = y at *
  have c1 := marN_cast y
  have c2 := marN_cast (y + 1)
  have c3 : (((y + 1) / 400 : Nat) : Int) = ((y : Int) + 1) / 400 := by omega
  have e : ((y + 1 : Nat) : Int) = (y : Int) + 1 := by omega
  rw [e] at c2
  generalize marN y = M at *
  generalize marN (y + 1) = M' at *
  generalize (y + 1) / 400 = q at *
  rw [← c2, ← c3, ← c1]
  omega
theorem sp_bd (a : Int) : 0 ≤ spN a ∧ spN a < 146097 ∧ 0 ≤ spY a ∧ spY a < 400 ∧ 0 ≤ spD a ∧ spD a ≤ 365 := by
  obtain ⟨h1, h2, h3, h4, h5, h6⟩ := sp_bd2 a
  refine ⟨h1, h2, h3, h4, h5, ?_⟩
  have e : spD a = spN a - (spY a * 365 + spY a / 4 - spY a / 100) := rfl
  generalize spD a = D at *
  generalize spN a = n at *
  generalize spY a = y at *
  have a1 : (y + 1) / 4 ≤ y / 4 + 1 := by omega
  have a2 : (y + 1) / 400 ≤ (y + 1) / 100 - y / 100 := by
    by_cases h : y = 399
    · subst h; decide
    · have e1 : (y + 1) / 400 = 0 := by omega
      have e2 : y / 100 ≤ (y + 1) / 100 := by omega
      omega
  omega

theorem spM_le (n : Int) (k : Nat) : spM k n ≤ k := by
  induction k with
  | zero => simp [spM]
  | succ k ih =>
    unfold spM
    split
    · omega
    · omega

def spRes (a : Int) : Int × Int × Int :=
  let k := spM 11 (spD a)
  let y := spY a + 400 * ((a + 730425) / 146097)
  let d := spD a - befN k + 1
  if (k : Int) + 3 > 12 then (y + 1, k + 3 - 12, d) else (y, k + 3, d)

theorem bef_bd (k : Nat) : 0 ≤ befN k ∧ befN k ≤ 337 := by
  by_cases h : k < 12
  · have : k = 0 ∨ k = 1 ∨ k = 2 ∨ k = 3 ∨ k = 4 ∨ k = 5 ∨ k = 6 ∨ k = 7 ∨ k = 8 ∨ k = 9 ∨ k = 10 ∨ k = 11 := by omega
    rcases this with h|h|h|h|h|h|h|h|h|h|h|h <;> subst h <;> decide
  · have : befN k = 0 := by
      unfold befN; rw [List.getD_eq_getElem?_getD, List.getElem?_eq_none (by simp [bef]; omega)]; rfl
    omega

end Go.Proofs.YtamfbfhkojnafaaDoor
