import Derived.Test.YtamfbfhkojnafaaDoorPD4x1
import Derived.Test.YtamfbfhkojnafaaDoorCiv
namespace Go.Proofs.YtamfbfhkojnafaaDoor.PD4
open Go.RowKit Go.Proofs.YtamfbfhkojnafaaDoorW.PrintWords
set_option linter.unusedVariables false
set_option linter.unusedSimpArgs false

theorem w64_s {i : Int} (h0 : -9223372036854775808 ≤ i) (h : i ≤ 9223372036854775807) : wrap64 i = i := by unfold wrap64; omega
theorem w32_s {i : Int} (h0 : -2147483648 ≤ i) (h : i ≤ 2147483647) : wrap32 i = i := by unfold wrap32; omega
theorem tmod0 (a b : Int) : a.tmod b = 0 ↔ a % b = 0 := by
  rw [← Int.dvd_iff_tmod_eq_zero, Int.dvd_iff_emod_eq_zero]

theorem leap_f (y : Int) : date_Leap.f y = some (decide (lng y = 1)) := by
  unfold date_Leap.f lng
  simp only [tmod0]
  by_cases h4 : y % 4 = 0
  · rw [if_pos h4]
    by_cases h1 : y % 100 = 0
    · rw [if_pos h1]
      congr 1
      rw [Bool.eq_iff_iff, beq_iff_eq, decide_eq_true_eq, tmod0]
      omega
    · rw [if_neg h1]
      congr 1
      rw [eq_comm, decide_eq_true_eq]
      omega
  · rw [if_neg h4]
    congr 1
    rw [eq_comm, decide_eq_false_iff_not]
    omega
theorem long_f (y : Int) : cashbookref04_Long.f y = some (decide (lng y = 1)) := by
  unfold cashbookref04_Long.f lng
  simp only [tmod0]
  by_cases h4 : y % 4 = 0
  · rw [if_pos h4]
    by_cases h1 : y % 100 = 0
    · rw [if_pos h1]
      congr 1
      rw [Bool.eq_iff_iff, beq_iff_eq, decide_eq_true_eq, tmod0]
      omega
    · rw [if_neg h1]
      congr 1
      rw [eq_comm, decide_eq_true_eq]
      omega
  · rw [if_neg h4]
    congr 1
    rw [Bool.eq_iff_iff, beq_iff_eq, decide_eq_true_eq, tmod0]
    omega
theorem length_f (y m : Int) (h1 : 1 ≤ m) (h2 : m ≤ 12) : date_length.f y m = some (ml y m) := by
  unfold date_length.f
  rw [leap_f]
  have hl := lng_01 y
  rcases m12 h1 h2 with rfl | rfl | rfl | rfl | rfl | rfl | rfl | rfl | rfl | rfl | rfl | rfl
  case inr.inl =>
    simp only [if_true, Option.bind_some, decide_eq_true_eq, ml, mcum, cumF]
    by_cases h : lng y = 1
    · rw [if_pos h, h]; rfl
    · have : lng y = 0 := by omega
      rw [if_neg h, this]; rfl
  all_goals simp [ml, mcum, cumF] <;> omega
theorem days_eq (y m d : Int) (h1 : 1 ≤ m) (h2 : m ≤ 12) : daysF y m d - 730425 = yd y + mcum y m + d - 1 := by
  rcases m12 h1 h2 with rfl | rfl | rfl | rfl | rfl | rfl | rfl | rfl | rfl | rfl | rfl | rfl <;> simp [daysF, befN, bef, yd, mcum, cumF, lng] <;> omega

/-- The day of a year, a month and a day. -/
def dayN (y m d : Int) : Int := yd y + mcum y m + d - 1
def joinR (y m d : Int) : Int × Int :=
  if ((1 ≤ y ∧ y ≤ 9999) ∧ (1 ≤ m ∧ m ≤ 12) ∧ (1 ≤ d ∧ d ≤ ml y m)) ∧ (-50000 ≤ dayN y m d ∧ dayN y m d ≤ 50000) then (dayN y m d, 0) else (0, 11)
theorem ml_bd (y m : Int) (h1 : 1 ≤ m) (h2 : m ≤ 12) : 28 ≤ ml y m ∧ ml y m ≤ 31 := by
  have hl := lng_01 y
  rcases m12 h1 h2 with rfl | rfl | rfl | rfl | rfl | rfl | rfl | rfl | rfl | rfl | rfl | rfl <;> simp [ml, mcum, cumF] <;> omega
theorem join_no (k : Nat) (y m d : Int) : date_Join.j0 (k + 1) y m d true = some (0, 11) := by simp [date_Join.j0]
theorem join_f (k : Nat) (y m d : Int) : date_Join.f (k + 1) y m d = some (joinR y m d) := by
  unfold date_Join.f
  simp only [join_no]
  by_cases a1 : y < 1
  · rw [if_pos a1, joinR, if_neg (by omega)]
  rw [if_neg a1]
  by_cases a2 : y ≥ 10000
  · rw [if_pos a2, joinR, if_neg (by omega)]
  rw [if_neg a2]
  by_cases a3 : m < 1
  · rw [if_pos a3, joinR, if_neg (by omega)]
  rw [if_neg a3]
  by_cases a4 : m > 12
  · rw [if_pos a4, joinR, if_neg (by omega)]
  rw [if_neg a4]
  by_cases a5 : d < 1
  · rw [if_pos a5, joinR, if_neg (by omega)]
  rw [if_neg a5, length_f y m (by omega) (by omega), Option.bind_some]
  have hb := ml_bd y m (by omega) (by omega)
  by_cases a6 : d > ml y m
  · rw [decide_eq_true a6, join_no, joinR, if_neg (by omega)]
  rw [decide_eq_false a6, date_Join.j0, if_neg (by decide), date_days.f, if_pos ⟨⟨by omega, by omega⟩, ⟨by omega, by omega⟩, by omega, by omega⟩, Option.bind_some, days_eq y m d (by omega) (by omega)]
  show (if wrap64 (dayN y m d) < -50000 then some ((0 : Int), (11 : Int)) else if wrap64 (dayN y m d) > 50000 then some (0, 11) else some (wrap32 (wrap64 (dayN y m d)), 0)) = _
  have hbig : -10000000 ≤ dayN y m d ∧ dayN y m d ≤ 10000000 := by
    have hl := lng_01 y
    have hm : 0 ≤ mcum y m ∧ mcum y m ≤ 366 := by
      rcases m12 (show 1 ≤ m by omega) (show m ≤ 12 by omega) with rfl | rfl | rfl | rfl | rfl | rfl | rfl | rfl | rfl | rfl | rfl | rfl <;> simp [mcum, cumF] <;> omega
    unfold dayN yd
    omega
  rw [w64_s (by omega) (by omega)]
  by_cases a7 : dayN y m d < -50000
  · rw [if_pos a7, joinR, if_neg (by omega)]
  rw [if_neg a7]
  by_cases a8 : dayN y m d > 50000
  · rw [if_pos a8, joinR, if_neg (by omega)]
  rw [if_neg a8, w32_s (by omega) (by omega), joinR, if_pos (by omega)]
end Go.Proofs.YtamfbfhkojnafaaDoor.PD4
