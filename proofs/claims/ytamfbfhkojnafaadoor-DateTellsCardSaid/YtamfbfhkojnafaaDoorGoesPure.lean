import Derived.Test.YtamfbfhkojnafaaDoorLeapsPure
import Derived.Test.YtamfbfhkojnafaaDoorPD4x3
namespace Go.Proofs.YtamfbfhkojnafaaDoor.PD4
open Go.RowKit Go.Proofs.YtamfbfhkojnafaaDoorW.PrintWords
set_option linter.unusedVariables false
set_option linter.unusedSimpArgs false

theorem mn_min (a b : Int) : mn a b = min a b := by unfold mn; split <;> omega
/-- So many months behind a day. -/
def addR (y m d n : Int) : Int × Int :=
  if 12 * y + m - 1 + n < 12 then (0, 11) else
  joinR ((12 * y + m - 1 + n) / 12) ((12 * y + m - 1 + n) % 12 + 1) (min d (ml ((12 * y + m - 1 + n) / 12) ((12 * y + m - 1 + n) % 12 + 1)))
theorem add_f (k : Nat) (x n y m d : Int) (h1 : -50000 ≤ x) (h2 : x ≤ 50000) (hc : Civ x y m d) (n1 : -120000 ≤ n) (n2 : n ≤ 120000) : date_AddMonths.f (k + 2) x n = some (addR y m d n) := by
  obtain ⟨y', m', d', hs, hc'⟩ := split_f x h1 h2
  obtain ⟨rfl, rfl, rfl⟩ := civ_unique hc' hc
  have hy := year_bd hc (by omega) (by omega)
  have hm := hc.2.1
  have hm1 := hc.1
  unfold date_AddMonths.f addR
  simp only [hs, Option.bind_some, if_true]
  rw [if_neg (by omega), decide_eq_false (show ¬ n > 120000 by omega), date_AddMonths.j0, if_neg (by decide)]
  rw [w64_s (i := 12 * y') (by omega) (by omega), w64_s (i := 12 * y' + m') (by omega) (by omega), w64_s (i := 12 * y' + m' - 1) (by omega) (by omega), w64_s (i := 12 * y' + m' - 1 + n) (by omega) (by omega)]
  generalize hA : 12 * y' + m' - 1 + n = A
  by_cases hlt : A < 12
  · rw [if_pos hlt, if_pos hlt]
  · rw [if_neg hlt, if_neg hlt, tmod_r, if_pos (by omega), Int.tdiv_eq_ediv_of_nonneg (by omega), w64_s (i := A / 12) (by omega) (by omega), w64_s (i := A % 12 + 1) (by omega) (by omega), length_f _ _ (by omega) (by omega), Option.bind_some, join_f, Option.bind_some, mn_min]
theorem end_f (k : Nat) (x y m d : Int) (h1 : -50000 ≤ x) (h2 : x ≤ 50000) (hc : Civ x y m d) : date_MonthEnd.f (k + 1) x = some (joinR y m (ml y m)) := by
  obtain ⟨y', m', d', hs, hc'⟩ := split_f x h1 h2
  obtain ⟨rfl, rfl, rfl⟩ := civ_unique hc' hc
  unfold date_MonthEnd.f
  simp only [hs, Option.bind_some, if_true]
  rw [length_f _ _ hc.1 hc.2.1, Option.bind_some, join_f, Option.bind_some]
theorem joinR_cases (y m d : Int) (hm : 1 ≤ m ∧ m ≤ 12) (hd : 1 ≤ d ∧ d ≤ ml y m) (hy : 1 ≤ y ∧ y ≤ 9999) :
    (joinR y m d = (dayN y m d, 0) ∧ Civ (dayN y m d) y m d ∧ -50000 ≤ dayN y m d ∧ dayN y m d ≤ 50000) ∨ (joinR y m d = (0, 11) ∧ ¬ (-50000 ≤ dayN y m d ∧ dayN y m d ≤ 50000)) := by
  unfold joinR
  by_cases h : -50000 ≤ dayN y m d ∧ dayN y m d ≤ 50000
  · rw [if_pos ⟨⟨hy, hm, hd⟩, h⟩]
    exact .inl ⟨rfl, ⟨hm.1, hm.2, hd.1, hd.2, rfl⟩, h⟩
  · rw [if_neg (by omega)]
    exact .inr ⟨rfl, h⟩
theorem mod400 (a : Int) (h : (Lit.int .i64 a).wf = true) : ∃ q : Int, Int.tmod (wrap64 ((Int.tmod a 400) + 400)) 400 = q ∧ 0 ≤ q ∧ q < 400 := by
  have e : ∀ q : Int, 0 < q → q < 800 → Int.tmod (wrap64 q) 400 = q % 400 := by
    intro q h1 h2
    rw [w64_s (by omega) (by omega), tmod_r, if_pos (by omega)]
  rw [tmod_r a 400]
  by_cases h0 : 0 ≤ a
  · rw [if_pos h0, e _ (by omega) (by omega)]
    exact ⟨_, rfl, by omega, by omega⟩
  · rw [if_neg h0, e _ (by omega) (by omega)]
    exact ⟨_, rfl, by omega, by omega⟩

/-- An early day is none of the last of a month. -/
theorem early (x y m d : Int) (hc : Civ x y m d) (h1 : -50000 ≤ x) (h2 : x ≤ -49998) : d ≤ 10 := by
  have c0 : Civ (-50000) 1863 2 8 := by unfold Civ; decide +kernel
  have c1 : Civ (-49999) 1863 2 9 := by unfold Civ; decide +kernel
  have c2 : Civ (-49998) 1863 2 10 := by unfold Civ; decide +kernel
  rcases (show x = -50000 ∨ x = -49999 ∨ x = -49998 by omega) with rfl | rfl | rfl
  · have := (civ_unique hc c0).2.2; omega
  · have := (civ_unique hc c1).2.2; omega
  · have := (civ_unique hc c2).2.2; omega
/-- Behind a month's last day comes a first. -/
theorem next_first (x y m : Int) (hc : Civ x y m (ml y m)) : ∃ y' m', Civ (x + 1) y' m' 1 := by
  obtain ⟨h1, h2, h3, h4, h5⟩ := hc
  by_cases h : m = 12
  · subst h
    refine ⟨y + 1, 1, by omega, by omega, by omega, by have := ml_bd (y + 1) 1 (by omega) (by omega); omega, ?_⟩
    rw [yd_succ]
    have e1 : mcum y 12 = 334 + lng y := by simp [mcum, cumF]
    have e2 : ml y 12 = 31 := by simp [ml, mcum, cumF]; omega
    have e3 : mcum (y + 1) 1 = 0 := by simp [mcum, cumF]
    omega
  · refine ⟨y, m + 1, by omega, by omega, by omega, by have := ml_bd y (m + 1) (by omega) (by omega); omega, ?_⟩
    have e : ml y m = mcum y (m + 1) - mcum y m := rfl
    omega

theorem goes_pure (a0 a1 a2 : Int) (w0 : (Lit.int .i32 a0).wf = true) (w1 : (Lit.int .i64 a1).wf = true) (w2 : (Lit.int .i64 a2).wf = true) : cashbooklaw04_DateGoes.f 8 a0 a1 a2 = some true := by
  obtain ⟨v, hv, v1, v2⟩ := mayd_f a0 w0
  obtain ⟨a, ha, a1', a2'⟩ := mod400 a1 w1
  obtain ⟨b, hb, b1', b2'⟩ := mod400 a2 w2
  obtain ⟨y, m, d, hs, hc⟩ := split_f v v1 v2
  have hy := year_bd hc (by omega) (by omega)
  have hc1 := hc.1
  have hc2 := hc.2.1
  have hc3 := hc.2.2.1
  have hc4 := hc.2.2.2.1
  have hc5 := hc.2.2.2.2
  have hmlb := ml_bd y m hc1 hc2
  unfold cashbooklaw04_DateGoes.f
  rw [ha, hb, hv, Option.bind_some, add_f 6 v a y m d v1 v2 hc (by omega) (by omega), Option.bind_some]
  have hX : addR y m d a = joinR ((12 * y + m - 1 + a) / 12) ((12 * y + m - 1 + a) % 12 + 1) (min d (ml ((12 * y + m - 1 + a) / 12) ((12 * y + m - 1 + a) % 12 + 1))) := by
    unfold addR; rw [if_neg (by omega)]
  obtain ⟨y1, hy1⟩ : ∃ y1, (12 * y + m - 1 + a) / 12 = y1 := ⟨_, rfl⟩
  obtain ⟨m1, hm1⟩ : ∃ m1, (12 * y + m - 1 + a) % 12 + 1 = m1 := ⟨_, rfl⟩
  rw [hy1, hm1] at hX
  have hm1b : 1 ≤ m1 ∧ m1 ≤ 12 := by omega
  have hml1 := ml_bd y1 m1 hm1b.1 hm1b.2
  have hi1 : 12 * y1 + m1 - 1 = 12 * y + m - 1 + a := by omega
  obtain ⟨d1, hd1⟩ : ∃ d1, min d (ml y1 m1) = d1 := ⟨_, rfl⟩
  rw [hd1] at hX
  rcases joinR_cases y1 m1 d1 hm1b (by omega) (by omega) with ⟨hj, hcx, x1, x2⟩ | ⟨hj, _⟩
  · rw [hX, hj]
    obtain ⟨x, hx⟩ : ∃ x, dayN y1 m1 d1 = x := ⟨_, rfl⟩
    rw [hx] at hcx x1 x2
    simp only [hx, if_true]
    have key : cashbooklaw04_DateGoes.j0 8 v a x = some true := by
      rw [cashbooklaw04_DateGoes.j0, w64_s (i := -a) (by omega) (by omega), add_f 5 x (-a) y1 m1 d1 x1 x2 hcx (by omega) (by omega), Option.bind_some]
      have hB : addR y1 m1 d1 (-a) = joinR y m (min d1 (ml y m)) := by
        unfold addR
        rw [if_neg (by omega), show (12 * y1 + m1 - 1 + -a) / 12 = y by omega, show (12 * y1 + m1 - 1 + -a) % 12 + 1 = m by omega]
      have hdn : dayN y m (min d1 (ml y m)) = v - d + min d1 (ml y m) := by unfold dayN; omega
      have hlow : v ≤ -49998 → d ≤ 10 := fun h => early v y m d hc v1 h
      rcases joinR_cases y m (min d1 (ml y m)) ⟨hc1, hc2⟩ (by omega) (by omega) with ⟨hk, hcb, b1, b2⟩ | ⟨hk, hno⟩
      · rw [hB, hk, hdn]
        simp only [if_true]
        rw [if_neg (by omega), w32_s (by omega) (by omega), if_neg (by omega), alive_f, Option.bind_some, cashbooklaw04_DateGoes.j1, Bool.not_true, if_neg (by decide), end_f 5 x y1 m1 d1 x1 x2 hcx, Option.bind_some]
        have hdl : dayN y1 m1 (ml y1 m1) = x - d1 + ml y1 m1 := by
          have := hcx.2.2.2.2
          unfold dayN; omega
        rcases joinR_cases y1 m1 (ml y1 m1) hm1b (by omega) (by omega) with ⟨hl, hcl, l1, l2⟩ | ⟨hl, _⟩
        · rw [hl]
          obtain ⟨last, hlast⟩ : ∃ z, dayN y1 m1 (ml y1 m1) = z := ⟨_, rfl⟩
          rw [hlast] at hcl l1 l2 hdl
          simp only [hlast, if_true]
          by_cases hmax : last = 50000
          · subst hmax
            rw [cashbooklaw04_DateGoes.j2]
            simp
          · have hne : (last == 50000) = false := by simpa using hmax
            rw [hne, cashbooklaw04_DateGoes.j2, if_neg (by decide), w32_s (by omega) (by omega), w32_s (by omega) (by omega)]
            obtain ⟨y', m', hcn⟩ := next_first last y1 m1 hcl
            obtain ⟨p, q, r, hsn, hcn'⟩ := split_f (last + 1) (by omega) (by omega)
            obtain ⟨rfl, rfl, rfl⟩ := civ_unique hcn' hcn
            rw [hsn, Option.bind_some, end_f 4 last y1 m1 _ l1 l2 hcl, Option.bind_some, hl]
            simp only [if_true, hlast]
            rw [if_pos (by omega), if_pos (by omega)]
            simp
        · rw [hl, cashbooklaw04_DateGoes.j2.eq_def]
          simp [cashbooklaw04_DateGoes.j2]
      · exfalso
        rw [hdn] at hno
        omega
    rw [add_f 6 x b y1 m1 d1 x1 x2 hcx (by omega) (by omega), Option.bind_some]
    obtain ⟨y2, hy2⟩ : ∃ y2, (12 * y1 + m1 - 1 + b) / 12 = y2 := ⟨_, rfl⟩
    obtain ⟨m2, hm2⟩ : ∃ m2, (12 * y1 + m1 - 1 + b) % 12 + 1 = m2 := ⟨_, rfl⟩
    have hm2b : 1 ≤ m2 ∧ m2 ≤ 12 := by omega
    have hml2 := ml_bd y2 m2 hm2b.1 hm2b.2
    have hY : addR y1 m1 d1 b = joinR y2 m2 (min d1 (ml y2 m2)) := by
      unfold addR; rw [if_neg (by omega), hy2, hm2]
    have hZ : addR y m d (a + b) = joinR y2 m2 (min d (ml y2 m2)) := by
      unfold addR
      rw [if_neg (by omega), show (12 * y + m - 1 + (a + b)) / 12 = y2 by omega, show (12 * y + m - 1 + (a + b)) % 12 + 1 = m2 by omega]
    rcases joinR_cases y2 m2 (min d1 (ml y2 m2)) hm2b (by omega) (by omega) with ⟨hk, _, p1, p2⟩ | ⟨hk, _⟩
    · rw [hY, hk, w64_s (i := a + b) (by omega) (by omega), add_f 6 v (a + b) y m d v1 v2 hc (by omega) (by omega), Option.bind_some, hZ]
      simp only [if_true]
      rcases joinR_cases y2 m2 (min d (ml y2 m2)) hm2b (by omega) (by omega) with ⟨hk2, _, q1, q2⟩ | ⟨hk2, _⟩
      · rw [hk2]
        simp only [if_true]
        have e1 : dayN y2 m2 (min d1 (ml y2 m2)) - min d1 (ml y2 m2) = dayN y2 m2 (min d (ml y2 m2)) - min d (ml y2 m2) := by unfold dayN; omega
        rw [if_neg (by omega), w32_s (by omega) (by omega), if_neg (by omega)]
        exact key
      · rw [hk2]
        simpa using key
    · rw [hY, hk]
      simpa using key
  · rw [hX, hj]
    simp [alive_f]
end Go.Proofs.YtamfbfhkojnafaaDoor.PD4
