import Derived.Test.YtamfbfhkojnafaaDoorCalRg
import Derived.Test.YtamfbfhkojnafaaDoorPC6x3
namespace Go.Proofs.YtamfbfhkojnafaaDoor
open Go.RowKit Go.Proofs.YtamfbfhkojnafaaDoor.PC6 Go.Proofs.YtamfbfhkojnafaaDoorW.PrintWords
set_option linter.unusedVariables false
set_option linter.unusedSimpArgs false
set_option linter.unusedSectionVars false

theorem alive6 : cashbooklaw06_alive.f = some true := by
  have h1 : calendar_Roll.f [⟨3, 7, true⟩] 2 7 0 = some (9, 0) := by decide +kernel
  have h2 : calendar_Roll.f [⟨3, 7, true⟩] 3 7 0 = some (7, 0) := by decide +kernel
  unfold cashbooklaw06_alive.f
  simp [h1, h2]

theorem tells_pure (l : List S44) (known d how : Int) : ∃ k, cashbooklaw06_CalendarTells.f k l known d how = some true := by
  obtain ⟨t, ht⟩ : ∃ t, t = l.take 70 := ⟨_, rfl⟩
  have hm : t.length ≤ 1000 := by rw [ht, List.length_take]; omega
  obtain ⟨K1, h1⟩ := refRight_ev t hm
  replace h1 : ∀ k, K1 ≤ k → cashbookref06_Right.f k t = some (calB t) := h1
  have hf : cashbooklaw06_few.f l = some t := by rw [ht]; rfl
  have hR : calendar_Right.f t = some (calB t) := by unfold calendar_Right.f; rw [if_pos hm]
  have hO : calendar_Open.f t known d = some (openRes t known d) := by unfold calendar_Open.f; rw [if_pos hm]
  have hW : calendar_Roll.f t known d how = some (rollRes t known d how) := by unfold calendar_Roll.f; rw [if_pos hm]
  cases hc : calB t with
  | false =>
    have e : mayE t [known, d] = 1 := by unfold mayE; rw [hc]; rfl
    have o : openRes t known d = (false, 1) := by unfold openRes; rw [e]; rfl
    have r : rollRes t known d how = (0, 1) := by unfold rollRes; rw [e]; simp
    refine ⟨K1 + 10, ?_⟩
    unfold cashbooklaw06_CalendarTells.f
    rw [hf, Option.bind_some, hO, o, Option.bind_some, hW, r, Option.bind_some, hR, hc, Option.bind_some, h1 (K1 + 10) (by omega), hc, Option.bind_some, alive6]
    simp only [bne_self_eq_false, Bool.false_eq_true, if_false, Option.bind_some, cashbooklaw06_CalendarTells.j0, Bool.not_true]
    rw [h1 (K1 + 9) (by omega), hc]
    simp [cashbooklaw06_CalendarTells.j1]
  | true =>
    by_cases hk : dayB known = true ∧ dayB d = true
    · obtain ⟨hk1, hk2⟩ := hk
      have hd := (dayB_iff d).1 hk2
      obtain ⟨K2, h2⟩ := refOpen_ev t hm known d hd.1 hd.2
      replace h2 : ∀ k, K2 ≤ k → cashbookref06_Open.f k t known d = some (openB t known d) := h2
      have e : mayE t [known, d] = 0 := by unfold mayE; rw [hc]; simp [hk1, hk2]
      have o : openRes t known d = (openB t known d, 0) := by unfold openRes; rw [e]; rfl
      have hRR : cashbookref06_Roll.f t known d how = some (optS (rollF (openB t known) d how)) := by unfold cashbookref06_Roll.f; rw [if_pos ⟨hm, hk2⟩]
      refine ⟨K1 + K2 + 10, ?_⟩
      unfold cashbooklaw06_CalendarTells.f
      rw [hf, Option.bind_some, hO, o, Option.bind_some, hW, Option.bind_some, hR, hc, Option.bind_some, h1 (K1 + K2 + 10) (by omega), hc, Option.bind_some, alive6]
      simp only [bne_self_eq_false, Bool.false_eq_true, if_false, Option.bind_some, cashbooklaw06_CalendarTells.j0, Bool.not_true]
      rw [h1 (K1 + K2 + 9) (by omega), hc, right_f, hk1, right_f, hk2]
      simp only [Option.bind_some, if_true, cashbooklaw06_CalendarTells.j1]
      rw [h2 (K1 + K2 + 8) (by omega)]
      simp only [Option.bind_some, bne_self_eq_false, cashbooklaw06_CalendarTells.j2, Bool.false_eq_true, if_false]
      by_cases hw0 : how < 0
      · have r : rollRes t known d how = (0, 1) := by unfold rollRes; rw [if_neg (by omega)]
        simp [hw0, r, cashbooklaw06_CalendarTells.j3]
      · by_cases hw2 : how > 2
        · have r : rollRes t known d how = (0, 1) := by unfold rollRes; rw [if_neg (by omega)]
          simp [hw0, hw2, r, cashbooklaw06_CalendarTells.j3]
        · have r : rollRes t known d how = optP (rollF (openB t known) d how) := by unfold rollRes; rw [if_pos (by omega), if_pos e]
          rw [if_neg hw0, r]
          simp only [hw2, decide_false, cashbooklaw06_CalendarTells.j3, Bool.false_eq_true, if_false, hRR, Option.bind_some]
          cases rollF (openB t known) d how <;> simp [optS, optP]
    · have e : mayE t [known, d] = 11 := by
        unfold mayE; rw [hc]
        have : [known, d].any (fun d => !dayB d) = true := by
          simp only [List.any_cons, List.any_nil, Bool.or_false, Bool.or_eq_true, Bool.not_eq_true']
          by_cases h : dayB known = true
          · right; simpa using fun h2 => hk ⟨h, h2⟩
          · left; simpa using h
        rw [this]; rfl
      have o : openRes t known d = (false, 11) := by unfold openRes; rw [e]; rfl
      refine ⟨K1 + 10, ?_⟩
      unfold cashbooklaw06_CalendarTells.f
      rw [hf, Option.bind_some, hO, o, Option.bind_some, hW, Option.bind_some, hR, hc, Option.bind_some, h1 (K1 + 10) (by omega), hc, Option.bind_some, alive6]
      simp only [bne_self_eq_false, Bool.false_eq_true, if_false, Option.bind_some, cashbooklaw06_CalendarTells.j0, Bool.not_true]
      rw [h1 (K1 + 9) (by omega), hc]
      simp only [Option.bind_some, if_true, right_f]
      have fin : ∀ k, cashbooklaw06_CalendarTells.j1 (k + 1) t known d how false 11 (rollRes t known d how).1 (rollRes t known d how).2 11 = some true := by
        intro k
        simp only [cashbooklaw06_CalendarTells.j1]
        by_cases hw : 0 ≤ how ∧ how ≤ 2
        · have r : rollRes t known d how = (0, 11) := by unfold rollRes; rw [if_pos hw, e]; rfl
          simp [r]
        · have r : rollRes t known d how = (0, 1) := by unfold rollRes; rw [if_neg hw]
          simp only [r]
          by_cases hw0 : how < 0
          · simp [hw0]
          · have hw2 : how > 2 := by omega
            simp [hw0, hw2]
      by_cases h : dayB known = true
      · have h2 : dayB d = false := by simpa using fun h2 => hk ⟨h, h2⟩
        simp only [h, h2, if_true, Bool.false_eq_true, if_false]
        exact fin _
      · have h2 : dayB known = false := by simpa using h
        simp only [h2, Bool.false_eq_true, if_false]
        exact fin _
end Go.Proofs.YtamfbfhkojnafaaDoor
