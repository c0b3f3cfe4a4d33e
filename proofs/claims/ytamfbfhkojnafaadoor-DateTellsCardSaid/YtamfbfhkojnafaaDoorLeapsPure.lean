import Derived.Test.YtamfbfhkojnafaaDoorDateV
import Derived.Test.YtamfbfhkojnafaaDoorPD4x2
namespace Go.Proofs.YtamfbfhkojnafaaDoor.PD4
open Go.RowKit Go.Proofs.YtamfbfhkojnafaaDoorW.PrintWords
set_option linter.unusedVariables false
set_option linter.unusedSimpArgs false

theorem year_bd {x y m d : Int} (h : Civ x y m d) (h1 : -60000 ≤ x) (h2 : x ≤ 60000) : 1800 ≤ y ∧ y ≤ 2200 := by
  have a := civ_year h
  have b := lng_01 y
  unfold yd at a
  omega
theorem leaps_pure (a0 a1 : Int) (w1 : (Lit.int .i32 a1).wf = true) : cashbooklaw04_DateLeaps.f 5 a0 a1 = some true := by
  unfold cashbooklaw04_DateLeaps.f
  rw [leap_f, long_f]
  simp only [Option.bind_some, bne_self_eq_false, Bool.false_eq_true, if_false, alive_f, Bool.not_true]
  obtain ⟨v, hv, v1, v2⟩ := mayd_f a1 w1
  obtain ⟨y, m, d, hs, hc⟩ := split_f v v1 v2
  have hy := year_bd hc (by omega) (by omega)
  have hl := lng_01 y
  have m2 : ml y 2 = 28 + lng y := by simp [ml, mcum, cumF]; omega
  have m1 : ml y 1 = 31 := by simp [ml, mcum, cumF]
  have m12 : ml y 12 = 31 := by simp [ml, mcum, cumF]; omega
  have n2 : dayN y 2 29 = yd y + 59 := by simp [dayN, mcum, cumF]; omega
  have n1 : dayN y 1 1 = yd y := by simp [dayN, mcum, cumF]
  have n12 : dayN y 12 31 = yd y + 364 + lng y := by simp [dayN, mcum, cumF]; omega
  have J1 : joinR y 2 29 = if lng y = 1 ∧ -50000 ≤ yd y + 59 ∧ yd y + 59 ≤ 50000 then (yd y + 59, 0) else (0, 11) := by
    unfold joinR
    rw [m2, n2]
    by_cases h : lng y = 1 ∧ -50000 ≤ yd y + 59 ∧ yd y + 59 ≤ 50000
    · rw [if_pos h, if_pos (by omega)]
    · rw [if_neg h, if_neg (by omega)]
  have J2 : joinR y 1 1 = if -50000 ≤ yd y ∧ yd y ≤ 50000 then (yd y, 0) else (0, 11) := by
    unfold joinR
    rw [m1, n1]
    by_cases h : -50000 ≤ yd y ∧ yd y ≤ 50000
    · rw [if_pos h, if_pos (by omega)]
    · rw [if_neg h, if_neg (by omega)]
  have J3 : joinR y 12 31 = if -50000 ≤ yd y + 364 + lng y ∧ yd y + 364 + lng y ≤ 50000 then (yd y + 364 + lng y, 0) else (0, 11) := by
    unfold joinR
    rw [m12, n12]
    by_cases h : -50000 ≤ yd y + 364 + lng y ∧ yd y + 364 + lng y ≤ 50000
    · rw [if_pos h, if_pos (by omega)]
    · rw [if_neg h, if_neg (by omega)]
  have wr : ∀ q : Int, 0 ≤ q → q ≤ 1000 → wrap32 q = q := fun q h1 h2 => w32_s (by omega) (by omega)
  rw [cashbooklaw04_DateLeaps.j0]
  simp only [Bool.false_eq_true, if_false, hv, hs, join_f, J1, J2, J3, Option.bind_some, if_true, leap_f]
  generalize yd y = Y
  rcases (show lng y = 0 ∨ lng y = 1 by omega) with h0 | h0
  · rw [h0]
    by_cases c2 : -50000 ≤ Y ∧ Y ≤ 50000
    · by_cases c3 : -50000 ≤ Y + 364 ∧ Y + 364 ≤ 50000
      · have e : wrap32 (Y + 364 - Y) = 364 := by rw [wr _ (by omega) (by omega)]; omega
        simp [cashbooklaw04_DateLeaps.j1, cashbooklaw04_DateLeaps.j2, leap_f, h0, c2, c3, e]
      · simp [cashbooklaw04_DateLeaps.j1, cashbooklaw04_DateLeaps.j2, leap_f, h0, c2, c3]
    · simp [cashbooklaw04_DateLeaps.j1, cashbooklaw04_DateLeaps.j2, leap_f, h0, c2]
  · rw [h0]
    by_cases c1 : -50000 ≤ Y + 59 ∧ Y + 59 ≤ 50000
    · by_cases c2 : -50000 ≤ Y ∧ Y ≤ 50000
      · by_cases c3 : -50000 ≤ Y + 364 + 1 ∧ Y + 364 + 1 ≤ 50000
        · have e : wrap32 (Y + 364 + 1 - Y) = 365 := by rw [wr _ (by omega) (by omega)]; omega
          simp [cashbooklaw04_DateLeaps.j1, cashbooklaw04_DateLeaps.j2, leap_f, h0, c1, c2, c3, e]
        · simp [cashbooklaw04_DateLeaps.j1, cashbooklaw04_DateLeaps.j2, leap_f, h0, c1, c2, c3]
      · simp [cashbooklaw04_DateLeaps.j1, cashbooklaw04_DateLeaps.j2, leap_f, h0, c1, c2]
    · by_cases c2 : -50000 ≤ Y ∧ Y ≤ 50000
      · have c3 : ¬ (-50000 ≤ Y + 364 + 1 ∧ Y + 364 + 1 ≤ 50000) := by omega
        simp [cashbooklaw04_DateLeaps.j1, cashbooklaw04_DateLeaps.j2, leap_f, h0, c1, c2, c3]
      · simp [cashbooklaw04_DateLeaps.j1, cashbooklaw04_DateLeaps.j2, leap_f, h0, c1, c2]
end Go.Proofs.YtamfbfhkojnafaaDoor.PD4
