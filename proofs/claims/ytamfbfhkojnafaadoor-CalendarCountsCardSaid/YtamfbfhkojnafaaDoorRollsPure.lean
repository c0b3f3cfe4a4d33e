import Derived.Test.YtamfbfhkojnafaaDoorCalV
import Derived.Test.YtamfbfhkojnafaaDoorPC6x4
import Derived.Test.YtamfbfhkojnafaaDoorTellsPure
namespace Go.Proofs.YtamfbfhkojnafaaDoor
open Go.RowKit Go.Proofs.YtamfbfhkojnafaaDoor.PC6 Go.Proofs.YtamfbfhkojnafaaDoorW.PrintWords
set_option linter.unusedVariables false
set_option linter.unusedSimpArgs false
set_option linter.unusedSectionVars false

theorem may_f (a : Int) (h : (Lit.int .i32 a).wf = true) : ∃ v, cashbooklaw06_may.f a = some v ∧ 0 ≤ v ∧ v < 40000 := by
  have hw : -2147483648 ≤ a ∧ a ≤ 2147483647 := by
    have e1 : IntKind.i32.min = -2147483648 := by decide
    have e2 : IntKind.i32.max = 2147483647 := by decide
    have h2 : IntKind.i32.min ≤ a ∧ a ≤ IntKind.i32.max := by simpa [Lit.wf] using h
    rw [e1, e2] at h2; exact h2
  unfold cashbooklaw06_may.f
  rw [wrap64_s (i := a) (by omega) (by omega), tmod_s a 40000]
  have e : ∀ q : Int, 0 < q → q < 80000 → wrap32 (Int.tmod (wrap64 q) 40000) = q % 40000 := by
    intro q h1 h2
    rw [wrap64_s (by omega) (by omega), tmod_s, if_pos (by omega), wrap32_s (by omega) (by omega)]
  by_cases h0 : 0 ≤ a
  · rw [if_pos h0, e _ (by omega) (by omega)]
    exact ⟨_, rfl, by omega, by omega⟩
  · rw [if_neg h0, e _ (by omega) (by omega)]
    exact ⟨_, rfl, by omega, by omega⟩
theorem calB_len {t : List S44} (h : calB t = true) : t.length ≤ 64 := by
  unfold calB at h
  simp at h
  exact h.2
theorem mayE0 {t : List S44} (h : calB t = true) {ds : List Int} (hd : ∀ d ∈ ds, -50000 ≤ d ∧ d ≤ 50000) : mayE t ds = 0 := by
  unfold mayE
  rw [h]
  have : ds.any (fun d => !dayB d) = false := by
    rw [List.any_eq_false]
    intro d hm
    simp [(dayB_iff d).2 (hd d hm)]
  rw [this]; rfl
theorem split_f (a : Int) (h1 : -50000 ≤ a) (h2 : a ≤ 50000) : date_Split.f a = some ((spRes a).1, monthOf a, (spRes a).2.2, 0) := by
  unfold date_Split.f
  rw [if_pos ((dayB_iff a).2 ⟨h1, h2⟩)]; rfl
theorem countF_nonneg (o : Int → Bool) (k : Nat) (d : Int) : 0 ≤ countF o k d := (countF_bd o k d).1

theorem rolls_pure (l : List S44) (a1 a2 : Int) (w1 : (Lit.int .i32 a1).wf = true) (w2 : (Lit.int .i32 a2).wf = true) : ∃ k, cashbooklaw06_CalendarRolls.f k l a1 a2 = some true := by
  obtain ⟨t, ht⟩ : ∃ t, t = l.take 70 := ⟨_, rfl⟩
  have hm70 : t.length ≤ 70 := by rw [ht, List.length_take]; omega
  have hm : t.length ≤ 1000 := by omega
  have hf : cashbooklaw06_few.f l = some t := by rw [ht]; rfl
  obtain ⟨known, hk, k1, k2⟩ := may_f a1 w1
  obtain ⟨day, hd, d1, d2⟩ := may_f a2 w2
  have hR : ∀ x how, calendar_Roll.f t known x how = some (rollRes t known x how) := fun x how => by unfold calendar_Roll.f; rw [if_pos hm]
  have hO : ∀ x, calendar_Open.f t known x = some (openRes t known x) := fun x => by unfold calendar_Open.f; rw [if_pos hm]
  have hC : ∀ x y, calendar_Count.f t known x y = some (countRes t known x y) := fun x y => by unfold calendar_Count.f; rw [if_pos hm]
  cases hc : calB t with
  | false =>
    have e : ∀ ds, mayE t ds = 1 := fun ds => by unfold mayE; rw [hc]; rfl
    have r : ∀ how, 0 ≤ how ∧ how ≤ 2 → rollRes t known day how = (0, 1) := fun how h => by unfold rollRes; rw [if_pos h, e]; rfl
    refine ⟨10, ?_⟩
    unfold cashbooklaw06_CalendarRolls.f
    simp [hf, hk, hd, hR, r, alive6]
  | true =>
    have hl := calB_len hc
    have e : ∀ x, -50000 ≤ x → x ≤ 50000 → mayE t [known, x] = 0 := fun x h1 h2 => mayE0 hc (by intro d hd; simp at hd; rcases hd with rfl | rfl <;> omega)
    obtain ⟨f, hf1, f1, f2, f3, f4⟩ := fwd t hm70 known day (by omega) (by omega)
    obtain ⟨p, hp1, p1, p2, p3, p4⟩ := bwd t hm70 known day (by omega) (by omega)
    have rf : rollRes t known day 0 = (f, 0) := by
      unfold rollRes; rw [if_pos (by omega), if_pos (e _ (by omega) (by omega))]
      show optP (nextD (openB t known) 1 day) = _
      rw [hf1]; rfl
    have rp : rollRes t known day 2 = (p, 0) := by
      unfold rollRes; rw [if_pos (by omega), if_pos (e _ (by omega) (by omega))]
      show optP (nextD (openB t known) (-1) day) = _
      rw [hp1]; rfl
    obtain ⟨m, hmm⟩ : ∃ m, m = if monthOf day = monthOf f then f else p := ⟨_, rfl⟩
    have rm : rollRes t known day 1 = (m, 0) := by
      unfold rollRes; rw [if_pos (by omega), if_pos (e _ (by omega) (by omega))]
      unfold rollF
      rw [if_neg (by decide), if_neg (by decide), hf1]
      simp only
      rw [hmm]
      by_cases h : monthOf day = monthOf f
      · rw [if_pos h, if_pos h]; rfl
      · rw [if_neg h, if_neg h, hp1]; rfl
    have hself : ∀ x, -50000 ≤ x → x ≤ 50000 → openB t known x = true → openRes t known x = (true, 0) ∧ rollRes t known x 1 = (x, 0) := by
      intro x h1 h2 h3
      refine ⟨by unfold openRes; rw [if_pos (e _ h1 h2), h3], ?_⟩
      unfold rollRes; rw [if_pos (by omega), if_pos (e _ h1 h2)]
      unfold rollF
      have hn : nextD (openB t known) 1 x = some x := by
        show nextF _ 1 (100009 + 1) x = _
        rw [nextF_spec, if_pos ((dayB_iff x).2 ⟨h1, h2⟩), if_pos h3]
      rw [if_neg (by decide), if_neg (by decide), hn]
      simp [optP]
    have mfp : m = f ∨ m = p := by rw [hmm]; split <;> simp
    have m3 : openB t known m = true := by rcases mfp with h | h <;> rw [h] <;> assumption
    have hcnt : ∃ c, countRes t known (p + 1) f = (c, 0) ∧ (p < f → c = 0) := by
      unfold countRes
      rw [if_pos (mayE0 hc (by intro d hd; simp at hd; rcases hd with rfl | rfl | rfl <;> omega))]
      have hfar : farB (p + 1) f = false := by unfold farB; simp; omega
      rw [hfar]
      refine ⟨_, rfl, fun h => ?_⟩
      by_cases hdf : day = f
      · rw [show (f - (p + 1)).toNat = (day - p).toNat - 1 by omega]
        have : countF (openB t known) (day - p).toNat (p + 1) = countF (openB t known) ((day - p).toNat - 1) (p + 1) + countF (openB t known) 1 (p + 1 + ((day - p).toNat - 1 : Nat)) := by
          rw [← countF_add]; congr 1; omega
        have n1 := countF_nonneg (openB t known) ((day - p).toNat - 1) (p + 1)
        have n2 := countF_nonneg (openB t known) 1 (p + 1 + ((day - p).toNat - 1 : Nat))
        omega
      · have a := countF_add (openB t known) (day - p).toNat (f - day - 1).toNat (p + 1)
        have b := countF_add (openB t known) 1 (f - day - 1).toNat day
        rw [show (1 + (f - day - 1).toNat) = (f - day).toNat by omega, f4] at b
        rw [p4, show p + 1 + ((day - p).toNat : Int) = day + ((1 : Nat) : Int) by omega] at a
        have n1 := countF_nonneg (openB t known) 1 day
        have n2 := countF_nonneg (openB t known) (f - day - 1).toNat (day + ((1 : Nat) : Int))
        rw [show (f - (p + 1)).toNat = (day - p).toNat + (f - day - 1).toNat by omega]
        omega
    obtain ⟨c, hc1, hc2⟩ := hcnt
    obtain ⟨s1, s2⟩ := hself f (by omega) (by omega) f3
    obtain ⟨s3, s4⟩ := hself p (by omega) (by omega) p3
    obtain ⟨s5, s6⟩ := hself m (by rcases mfp with h | h <;> omega) (by rcases mfp with h | h <;> omega) m3
    have hsp1 := split_f day (by omega) (by omega)
    have hsp2 := split_f f (by omega) (by omega)
    have fin : ∀ k, cashbooklaw06_CalendarRolls.j2 (k + 1) day f p m false = some true := by
      intro k
      simp only [cashbooklaw06_CalendarRolls.j2, Bool.false_eq_true, if_false, hsp1, hsp2, Option.bind_some, if_true]
      by_cases h : monthOf day = monthOf f
      · rw [if_pos h]; rw [hmm, if_pos h]; simp
      · rw [if_neg h]; rw [hmm, if_neg h]; simp
    have lend : ∀ k, cashbooklaw06_CalendarRolls.l0 (k + 2) t known day f p m [f, p, m] 3 3 = some true := by
      intro k
      simp only [cashbooklaw06_CalendarRolls.l0]
      rw [if_neg (by omega), wrap32_s (by omega) (by omega), hC, hc1]
      simp only [Option.bind_some, if_true]
      by_cases h : p < f
      · rw [if_pos h, hc2 h]; exact fin k
      · rw [if_neg h]; exact fin k
    have step : ∀ (k : Nat) (i x : Int), 0 ≤ i → i < 3 → rd [f, p, m] i = x → openRes t known x = (true, 0) → rollRes t known x 1 = (x, 0) →
        cashbooklaw06_CalendarRolls.l0 (k + 1) t known day f p m [f, p, m] 3 i = cashbooklaw06_CalendarRolls.l0 k t known day f p m [f, p, m] 3 (i + 1) := by
      intro k i x i1 i2 hx h1 h2
      simp only [cashbooklaw06_CalendarRolls.l0]
      rw [if_pos i2, if_pos i1, if_pos (by simpa using i2), hx, hO, h1, hR, h2, wrap64_s (by omega) (by omega)]
      simp
    have hl0 : ∀ k, cashbooklaw06_CalendarRolls.j0 (k + 6) t known day f p m false = some true := by
      intro k
      simp only [cashbooklaw06_CalendarRolls.j0, Bool.false_eq_true, if_false, Option.bind_some]
      show cashbooklaw06_CalendarRolls.l0 (k + 5) t known day f p m [f, p, m] 3 0 = some true
      rw [step (k + 4) 0 f (by omega) (by omega) rfl s1 s2, show (0 : Int) + 1 = 1 from rfl, step (k + 3) 1 p (by omega) (by omega) rfl s3 s4, show (1 : Int) + 1 = 2 from rfl, step (k + 2) 2 m (by omega) (by omega) rfl s5 s6, show (2 : Int) + 1 = 3 from rfl]
      exact lend k
    refine ⟨6, ?_⟩
    unfold cashbooklaw06_CalendarRolls.f
    simp only [hf, hk, hd, hR, rf, rp, rm, Option.bind_some, if_true, alive6, Bool.not_true]
    rw [if_neg (by omega), if_neg (by omega)]
    rcases mfp with h | h
    · rw [if_pos h]; exact hl0 0
    · by_cases h2 : m = f
      · rw [if_pos h2]; exact hl0 0
      · rw [if_neg h2, if_pos h]; exact hl0 0
end Go.Proofs.YtamfbfhkojnafaaDoor
