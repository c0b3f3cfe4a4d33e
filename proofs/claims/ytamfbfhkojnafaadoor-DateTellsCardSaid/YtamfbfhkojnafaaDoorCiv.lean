import Derived.Test.YtamfbfhkojnafaaDoorCal
namespace Go.Proofs.YtamfbfhkojnafaaDoor

/-! the civil calendar, by closed forms. -/
def lng (y : Int) : Int := y / 4 - (y - 1) / 4 - (y / 100 - (y - 1) / 100) + (y / 400 - (y - 1) / 400)
/-- days from 1 January 2000 to 1 January of a year. -/
def yd (y : Int) : Int := 365 * (y - 2000) + (y - 1) / 4 - (y - 1) / 100 + (y - 1) / 400 - 484
def cumF : Int → Int := fun m => if m ≤ 1 then 0 else if m = 2 then 31 else if m = 3 then 59 else if m = 4 then 90 else if m = 5 then 120 else if m = 6 then 151 else if m = 7 then 181 else if m = 8 then 212 else if m = 9 then 243 else if m = 10 then 273 else if m = 11 then 304 else if m = 12 then 334 else 365
def mcum (y m : Int) : Int := cumF m + if 3 ≤ m then lng y else 0
def ml (y m : Int) : Int := mcum y (m + 1) - mcum y m

theorem lng_01 (y : Int) : 0 ≤ lng y ∧ lng y ≤ 1 := by unfold lng; omega
theorem yd_succ (y : Int) : yd (y + 1) = yd y + 365 + lng y := by
  unfold yd lng
  rw [show y + 1 - 1 = y by omega]
  omega
theorem yd_mono {a b : Int} (h : a ≤ b) : yd a ≤ yd b := by unfold yd; omega
theorem yd_le {a b : Int} (h : a < b) : yd a + 365 + lng a ≤ yd b := by
  rw [← yd_succ]; exact yd_mono (by omega)

/-- a day's parts. -/
def Civ (x y m d : Int) : Prop := 1 ≤ m ∧ m ≤ 12 ∧ 1 ≤ d ∧ d ≤ ml y m ∧ yd y + mcum y m + d - 1 = x

theorem m12 {m : Int} (h1 : 1 ≤ m) (h2 : m ≤ 12) : m = 1 ∨ m = 2 ∨ m = 3 ∨ m = 4 ∨ m = 5 ∨ m = 6 ∨ m = 7 ∨ m = 8 ∨ m = 9 ∨ m = 10 ∨ m = 11 ∨ m = 12 := by omega
theorem civ_year {x y m d : Int} (h : Civ x y m d) : yd y ≤ x ∧ x < yd y + 365 + lng y := by
  obtain ⟨h1, h2, h3, h4, h5⟩ := h
  have hl := lng_01 y
  unfold ml mcum at h4
  unfold mcum at h5
  rcases m12 h1 h2 with h|h|h|h|h|h|h|h|h|h|h|h <;> subst h <;> simp [cumF] at h4 h5 <;> omega
theorem civ_unique {x y m d y' m' d' : Int} (h : Civ x y m d) (h' : Civ x y' m' d') : y = y' ∧ m = m' ∧ d = d' := by
  have a := civ_year h
  have b := civ_year h'
  have hy : y = y' := by
    rcases Int.lt_trichotomy y y' with c | c | c
    · have := yd_le c; omega
    · exact c
    · have := yd_le c; omega
  subst hy
  obtain ⟨h1, h2, h3, h4, h5⟩ := h
  obtain ⟨g1, g2, g3, g4, g5⟩ := h'
  have hl := lng_01 y
  have mono : ∀ a b : Int, 1 ≤ a → a < b → b ≤ 12 → mcum y (a + 1) ≤ mcum y b := by
    intro a b ha hab hb
    unfold mcum
    rcases m12 ha (by omega) with h|h|h|h|h|h|h|h|h|h|h|h <;> subst h <;> rcases m12 (m := b) (by omega) hb with h|h|h|h|h|h|h|h|h|h|h|h <;> subst h <;> first | omega | (simp [cumF]; done) | (simp [cumF]; omega)
  unfold ml at h4 g4
  have hm : m = m' := by
    rcases Int.lt_trichotomy m m' with c | c | c
    · have := mono m m' h1 c g2; omega
    · exact c
    · have := mono m' m g1 c h2; omega
  subst hm
  exact ⟨rfl, rfl, by omega⟩

/-- the code's own split is a day's parts. -/
theorem sp_civ (a : Int) : Civ a (spRes a).1 (spRes a).2.1 (spRes a).2.2 := by
  obtain ⟨n1, n2, y1, y2, d1, hup⟩ := sp_bd2 a
  have hN : spN a = (a + 730425) % 146097 := rfl
  have hD : spD a = spN a - (spY a * 365 + spY a / 4 - spY a / 100) := rfl
  have hk : befN (spM 11 (spD a)) ≤ spD a ∧ (spM 11 (spD a) < 11 → spD a < befN (spM 11 (spD a) + 1)) ∧ spM 11 (spD a) ≤ 11 := by
    refine ⟨?_, ?_, spM_le _ _⟩
    · have : ∀ k, befN (spM k (spD a)) ≤ spD a := by
        intro k
        induction k with
        | zero => simp [spM, befN, bef]; omega
        | succ k ih =>
          unfold spM
          split
          · exact ih
          · omega
      exact this 11
    · have : ∀ k, spM k (spD a) < k → spD a < befN (spM k (spD a) + 1) := by
        intro k
        induction k with
        | zero => intro h; omega
        | succ k ih =>
          intro h
          unfold spM at h ⊢
          split
          · rename_i hc
            rw [if_pos hc] at h
            by_cases e : spM k (spD a) = k
            · rw [e]; omega
            · have := spM_le (spD a) k
              exact ih (by omega)
          · rename_i hc
            rw [if_neg hc] at h; omega
      exact this 11
  obtain ⟨k1, k2, k3⟩ := hk
  unfold spRes
  generalize spM 11 (spD a) = k at *
  generalize spD a = D at *
  generalize spY a = Y at *
  generalize spN a = n at *
  have hc : a + 730425 = 146097 * ((a + 730425) / 146097) + n := by omega
  generalize (a + 730425) / 146097 = c at *
  have z1 : (Y + 400 * c) / 4 = Y / 4 + 100 * c := by omega
  have z2 : (Y + 400 * c) / 100 = Y / 100 + 4 * c := by omega
  have z3 : (Y + 400 * c) / 400 = c := by omega
  have z4 : (Y + 400 * c + 1) / 4 = (Y + 1) / 4 + 100 * c := by omega
  have z5 : (Y + 400 * c + 1) / 100 = (Y + 1) / 100 + 4 * c := by omega
  have z6 : (Y + 400 * c + 1) / 400 = (Y + 1) / 400 + c := by omega
  have fA : a + 730425 = D + 365 * (Y + 400 * c) + (Y + 400 * c) / 4 - (Y + 400 * c) / 100 + (Y + 400 * c) / 400 := by rw [z1, z2, z3]; omega
  have fB : D < 365 + ((Y + 400 * c + 1) / 4 - (Y + 400 * c) / 4 - ((Y + 400 * c + 1) / 100 - (Y + 400 * c) / 100) + ((Y + 400 * c + 1) / 400 - (Y + 400 * c) / 400)) := by rw [z1, z2, z3, z4, z5, z6]; omega
  clear z1 z2 z3 z4 z5 z6 hup hD hN hc n1 n2 y1 y2
  generalize Y + 400 * c = Z at *
  have hlZ : lng (Z + 1) = (Z + 1) / 4 - Z / 4 - ((Z + 1) / 100 - Z / 100) + ((Z + 1) / 400 - Z / 400) := by
    unfold lng; rw [show Z + 1 - 1 = Z by omega]
  have hyd : yd Z + 59 + lng Z + 730425 = 365 * Z + Z / 4 - Z / 100 + Z / 400 := by unfold yd lng; omega
  have hyd1 : yd (Z + 1) = yd Z + 365 + lng Z := yd_succ Z
  have hl0 := lng_01 Z
  have hl1 := lng_01 (Z + 1)
  rw [← hlZ] at fB
  have hk' : k = 0 ∨ k = 1 ∨ k = 2 ∨ k = 3 ∨ k = 4 ∨ k = 5 ∨ k = 6 ∨ k = 7 ∨ k = 8 ∨ k = 9 ∨ k = 10 ∨ k = 11 := by omega
  rcases hk' with h|h|h|h|h|h|h|h|h|h|h|h <;> subst h <;> simp [befN, bef] at k1 k2 ⊢ <;> (unfold Civ ml mcum; simp [cumF]; omega)
end Go.Proofs.YtamfbfhkojnafaaDoor
