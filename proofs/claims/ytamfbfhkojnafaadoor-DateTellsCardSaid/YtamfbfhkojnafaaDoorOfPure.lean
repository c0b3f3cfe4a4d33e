import Derived.Test.YtamfbfhkojnafaaDoorGoesPure
import Derived.Test.YtamfbfhkojnafaaDoorCalRf
import Derived.Test.YtamfbfhkojnafaaDoorPD4x4
namespace Go.Proofs.YtamfbfhkojnafaaDoor.PD4
open Go.RowKit Go.Proofs.YtamfbfhkojnafaaDoorW.PrintWords
set_option linter.unusedVariables false
set_option linter.unusedSimpArgs false

theorem rlong_f (y : Int) : PD4.cashbookref04_Long.f y = some (longB y) := by
  unfold PD4.cashbookref04_Long.f longB
  by_cases h1 : Int.tmod y 4 = 0 <;> by_cases h2 : Int.tmod y 100 = 0 <;> simp [h1, h2]
theorem ryear_f (y : Int) : PD4.cashbookref04_year.f y = some (365 + lng y) := by
  rw [← ylen_lng]
  unfold PD4.cashbookref04_year.f ylen
  rw [rlong_f]; simp only [Option.bind_some]; cases longB y <;> rfl
theorem rdays_f (y m : Int) (h1 : 1 ≤ m) (h2 : m ≤ 12) : PD4.cashbookref04_Days.f y m = some (ml y m) := by
  rw [← mlen_ml y m h1 h2]
  unfold PD4.cashbookref04_Days.f mlen
  rw [rlong_f]; simp only [Option.bind_some]
  by_cases h1 : m = 2
  · simp only [h1, if_true]; cases longB y <;> rfl
  · simp only [if_neg h1]
    by_cases h2 : m = 4
    · simp [h2]
    · by_cases h3 : m = 6
      · simp [h3]
      · by_cases h4 : m = 9
        · simp [h4]
        · by_cases h5 : m = 11
          · simp [h5]
          · simp [h2, h3, h4, h5]

theorem yd_rng (y : Int) (h1 : 1800 ≤ y) (h2 : y ≤ 2200) : -80000 ≤ yd y ∧ yd y ≤ 80000 := by unfold yd; omega
theorem mcum_rng (y m : Int) (h1 : 1 ≤ m) (h2 : m ≤ 13) : 0 ≤ mcum y m ∧ mcum y m ≤ 366 := by
  have := lng_01 y
  rcases (show m = 1 ∨ m = 2 ∨ m = 3 ∨ m = 4 ∨ m = 5 ∨ m = 6 ∨ m = 7 ∨ m = 8 ∨ m = 9 ∨ m = 10 ∨ m = 11 ∨ m = 12 ∨ m = 13 by omega) with h|h|h|h|h|h|h|h|h|h|h|h|h <;> subst h <;> simp [mcum, cumF] <;> omega
theorem of_l2 (k0 : Int) (B : Int) (hB : -1000000 ≤ B ∧ B ≤ 1000000) : ∀ (n : Nat) (j : Int), 2000 - j = n → 1800 ≤ j → Ev (fun k => cashbookref04_Of.l2 k (B + (-(yd j))) j) (if j < 2000 then B - (yd j) - (yd 2000 - yd j) else B - yd j) := by
  intro n
  induction n with
  | zero =>
    intro j hj h1
    refine Ev.step (f := fun _ => some (B + (-(yd j)))) (fun k => ?_) (by rw [if_neg (by omega), show B + (-(yd j)) = B - yd j by omega]; exact Ev.now _)
    simp only [cashbookref04_Of.l2]
    rw [if_neg (by omega)]
  | succ n ih =>
    intro j hj h1
    have hr := yd_rng j h1 (by omega)
    have hs := yd_succ j
    have hl := lng_01 j
    refine Ev.step (f := fun k => cashbookref04_Of.l2 k (B + (-(yd (j + 1)))) (j + 1)) (fun k => ?_) ?_
    · simp only [cashbookref04_Of.l2]
      rw [if_pos (by omega), ryear_f, Option.bind_some, w64_s (by omega) (by omega), w64_s (by omega) (by omega), show B + -yd j - (365 + lng j) = B + -yd (j + 1) by omega]
    · have h2 := ih (j + 1) (by omega) (by omega)
      rw [if_pos (by omega)]
      by_cases hj2 : j + 1 < 2000
      · rw [if_pos hj2] at h2
        rw [show B - yd j - (yd 2000 - yd j) = B - yd (j + 1) - (yd 2000 - yd (j + 1)) by omega]
        exact h2
      · rw [if_neg hj2] at h2
        have e : j + 1 = 2000 := by omega
        rw [show B - yd j - (yd 2000 - yd j) = B - yd 2000 by omega, ← e]
        exact h2
theorem yd2000 : yd 2000 = 0 := by decide
theorem of_l2' (y : Int) (h1 : 1800 ≤ y) (h2 : y ≤ 2200) (C : Int) (hC : 0 ≤ C ∧ C ≤ 1000) (hy : y < 2000) : Ev (fun k => cashbookref04_Of.l2 k C y) (C + yd y) := by
  have hr := yd_rng y h1 h2
  have := of_l2 0 (C + yd y) ⟨by omega, by omega⟩ (2000 - y).toNat y (by omega) h1
  rw [if_pos hy, yd2000, show C + yd y + -yd y = C by omega, show C + yd y - yd y - (0 - yd y) = C + yd y by omega] at this
  exact this
theorem of_l1 (y : Int) (h1 : 1800 ≤ y) (h2 : y ≤ 2200) (C : Int) (hC : 0 ≤ C ∧ C ≤ 1000) : ∀ (n : Nat) (j : Int), (y - j).toNat = n → 2000 ≤ j → (2000 ≤ y → j ≤ y) → (y < 2000 → j = 2000) →
    Ev (fun k => cashbookref04_Of.l1 k y (C + yd j) j) (C + yd y) := by
  intro n
  induction n with
  | zero =>
    intro j hj hj1 hj2 hj3
    refine Ev.step (f := fun k => cashbookref04_Of.l2 k (C + yd j) y) (fun k => ?_) ?_
    · simp only [cashbookref04_Of.l1]
      rw [if_neg (by omega)]
    · by_cases hy : y < 2000
      · rw [hj3 hy, yd2000, Int.add_zero]
        exact of_l2' y h1 h2 C hC hy
      · obtain rfl : j = y := by omega
        refine Ev.step (f := fun _ => some (C + yd j)) (fun k => ?_) (Ev.now _)
        simp only [cashbookref04_Of.l2]
        rw [if_neg (by omega)]
  | succ n ih =>
    intro j hj hj1 hj2 hj3
    have hr := yd_rng j (by omega) (by omega)
    have hs := yd_succ j
    have hl := lng_01 j
    refine Ev.step (f := fun k => cashbookref04_Of.l1 k y (C + yd (j + 1)) (j + 1)) (fun k => ?_) (ih (j + 1) (by omega) (by omega) (fun _ => by omega) (fun _ => by omega))
    simp only [cashbookref04_Of.l1]
    rw [if_pos (by omega), ryear_f, Option.bind_some, w64_s (by omega) (by omega), w64_s (by omega) (by omega), show C + yd j + (365 + lng j) = C + yd (j + 1) by omega]
theorem of_l0 (y m d : Int) (h1 : 1800 ≤ y) (h2 : y ≤ 2200) (m1 : 1 ≤ m) (m2 : m ≤ 12) (d1 : 1 ≤ d) (d2 : d ≤ 31) : ∀ (n : Nat) (j : Int), m - j = n → 1 ≤ j →
    Ev (fun k => cashbookref04_Of.l0 k y m (d - 1 + mcum y j) j) (d - 1 + mcum y m + yd y) := by
  intro n
  induction n with
  | zero =>
    intro j hj hj1
    obtain rfl : j = m := by omega
    have hr := mcum_rng y j m1 (by omega)
    refine Ev.step (f := fun k => cashbookref04_Of.l1 k y (d - 1 + mcum y j + yd 2000) 2000) (fun k => ?_) (of_l1 y h1 h2 (d - 1 + mcum y j) ⟨by omega, by omega⟩ (y - 2000).toNat 2000 rfl (by omega) (fun h => h) (fun _ => rfl))
    simp only [cashbookref04_Of.l0]
    rw [if_neg (by omega), yd2000, Int.add_zero]
  | succ n ih =>
    intro j hj hj1
    have hr := mcum_rng y j hj1 (by omega)
    have hb := ml_bd y j hj1 (by omega)
    have hml : ml y j = mcum y (j + 1) - mcum y j := rfl
    refine Ev.step (f := fun k => cashbookref04_Of.l0 k y m (d - 1 + mcum y (j + 1)) (j + 1)) (fun k => ?_) (ih (j + 1) (by omega) (by omega))
    simp only [cashbookref04_Of.l0]
    rw [if_pos (by omega), rdays_f y j hj1 (by omega), Option.bind_some, w64_s (by omega) (by omega), w64_s (by omega) (by omega), show d - 1 + mcum y j + ml y j = d - 1 + mcum y (j + 1) by omega]
theorem of_ev (y m d : Int) (h1 : 1800 ≤ y) (h2 : y ≤ 2200) (m1 : 1 ≤ m) (m2 : m ≤ 12) (d1 : 1 ≤ d) (d2 : d ≤ 31) : Ev (fun k => cashbookref04_Of.f k y m d) (dayN y m d) := by
  have h := of_l0 y m d h1 h2 m1 m2 d1 d2 (m - 1).toNat 1 (by omega) (by omega)
  have e0 : mcum y 1 = 0 := by simp [mcum, cumF]
  rw [e0, Int.add_zero, show d - 1 + mcum y m + yd y = dayN y m d by unfold dayN; omega] at h
  refine Ev.congr (fun k => ?_) h
  unfold cashbookref04_Of.f
  rw [w64_s (by omega) (by omega)]
theorem dayN_bd (y m d : Int) (m1 : 1 ≤ m) (m2 : m ≤ 12) (d1 : 1 ≤ d) (d2 : d ≤ ml y m) : yd y ≤ dayN y m d ∧ dayN y m d < yd (y + 1) := by
  have := civ_year (show Civ (dayN y m d) y m d from ⟨m1, m2, d1, d2, rfl⟩)
  rw [yd_succ]; unfold dayN at *; omega
theorem joinR_out (y m d : Int) (h : y < 1800 ∨ 2200 < y) (m1 : 1 ≤ m) (m2 : m ≤ 12) (d1 : 1 ≤ d) (d2 : d ≤ ml y m) : joinR y m d = (0, 11) := by
  have hb := dayN_bd y m d m1 m2 d1 d2
  unfold joinR
  rw [if_neg]
  rintro ⟨_, h2⟩
  rcases h with h | h
  · have : yd (y + 1) ≤ -60000 := by unfold yd; omega
    omega
  · have : 60000 ≤ yd y := by unfold yd; omega
    omega
/-- May's answer. -/
def mayR (y m d : Int) : Int × Bool := if (joinR y m d).2 = 0 then ((joinR y m d).1, true) else (0, false)
theorem is_f (y m d : Int) : cashbookref04_Is.f y m d = some (decide ((1800 ≤ y ∧ y ≤ 2200) ∧ (1 ≤ m ∧ m ≤ 12) ∧ (1 ≤ d ∧ d ≤ ml y m))) := by
  unfold cashbookref04_Is.f
  by_cases a1 : y ≥ 1800
  · rw [if_pos a1]
    by_cases a2 : y ≤ 2200
    · rw [if_pos a2]
      by_cases a3 : m ≥ 1
      · rw [if_pos a3]
        by_cases a4 : m ≤ 12
        · rw [if_pos a4]
          by_cases a5 : d ≥ 1
          · rw [if_pos a5, rdays_f y m a3 a4, Option.bind_some]
            congr 1
            rw [decide_eq_decide]
            omega
          · rw [if_neg a5, decide_eq_false (by omega)]
        · rw [if_neg a4, decide_eq_false (by omega)]
      · rw [if_neg a3, decide_eq_false (by omega)]
    · rw [if_neg a2, decide_eq_false (by omega)]
  · rw [if_neg a1, decide_eq_false (by omega)]
theorem joinR_snd (y m d : Int) : (joinR y m d).2 = 0 ∧ -50000 ≤ (joinR y m d).1 ∧ (joinR y m d).1 ≤ 50000 ∨ joinR y m d = (0, 11) := by
  unfold joinR
  split
  · rename_i h; left; exact ⟨rfl, h.2⟩
  · right; rfl
theorem may_ev (y m d : Int) : Ev (fun k => cashbookref04_May.f k y m d) (mayR y m d) := by
  by_cases hi : (1800 ≤ y ∧ y ≤ 2200) ∧ (1 ≤ m ∧ m ≤ 12) ∧ (1 ≤ d ∧ d ≤ ml y m)
  · have hb := ml_bd y m hi.2.1.1 hi.2.1.2
    have ho := of_ev y m d hi.1.1 hi.1.2 hi.2.1.1 hi.2.1.2 hi.2.2.1 (by omega)
    have h2 : Ev (fun k => (cashbookref04_Of.f k y m d).bind fun t182 => (if t182 < (-50000) then (some (0, false)) else (if t182 > 50000 then (some (0, false)) else (some (wrap32 (t182), true))))) (mayR y m d) := by
      refine Ev.bind ho ?_
      by_cases hr : -50000 ≤ dayN y m d ∧ dayN y m d ≤ 50000
      · have hj : joinR y m d = (dayN y m d, 0) := by unfold joinR; rw [if_pos ⟨⟨⟨by omega, by omega⟩, hi.2⟩, hr⟩]
        unfold mayR
        rw [hj, if_neg (by omega), if_neg (by omega), w32_s (by omega) (by omega)]
        exact Ev.now _
      · have hj : joinR y m d = (0, 11) := by unfold joinR; rw [if_neg (fun h => hr h.2)]
        unfold mayR
        rw [hj]
        show Ev _ (0, false)
        by_cases h1 : dayN y m d < -50000
        · rw [if_pos h1]; exact Ev.now _
        · rw [if_neg h1, if_pos (by omega)]; exact Ev.now _
    refine Ev.congr (fun k => ?_) h2
    unfold cashbookref04_May.f
    rw [is_f, decide_eq_true hi, Option.bind_some, if_pos rfl]
  · have hm : mayR y m d = (0, false) := by
      unfold mayR
      have : joinR y m d = (0, 11) := by
        by_cases hmd : (1 ≤ m ∧ m ≤ 12) ∧ (1 ≤ d ∧ d ≤ ml y m)
        · exact joinR_out y m d (by omega) hmd.1.1 hmd.1.2 hmd.2.1 hmd.2.2
        · unfold joinR; rw [if_neg (by rintro ⟨⟨_, h⟩, _⟩; exact hmd h)]
      rw [this]; rfl
    rw [hm]
    refine Ev.congr (fun k => ?_) (Ev.now _)
    unfold cashbookref04_May.f
    rw [is_f, decide_eq_false hi, Option.bind_some]
    rfl
end Go.Proofs.YtamfbfhkojnafaaDoor.PD4
