import Derived.Test.YtamfbfhkojnafaaDoorCalRf
namespace Go.Proofs.YtamfbfhkojnafaaDoor
open Go.RowKit Go.Proofs.YtamfbfhkojnafaaDoor.PC6 Go.Proofs.YtamfbfhkojnafaaDoorW.PrintWords
set_option linter.unusedVariables false
set_option linter.unusedSimpArgs false
set_option linter.unusedSectionVars false

theorem wrap64_s {i : Int} (h0 : -9223372036854775808 ≤ i) (h : i ≤ 9223372036854775807) : wrap64 i = i := by unfold wrap64; omega
theorem wrap32_s {i : Int} (h0 : -2147483648 ≤ i) (h : i ≤ 2147483647) : wrap32 i = i := by unfold wrap32; omega
theorem right_f (a : Int) : cashbookref04_Right.f a = some (dayB a) := by
  unfold cashbookref04_Right.f dayB
  by_cases h : a ≥ -50000
  · rw [if_pos h]; congr 1; rw [decide_eq_decide]; omega
  · rw [if_neg h]; congr 1; symm; rw [decide_eq_false_iff_not]; omega

theorem tmod_s (a b : Int) : a.tmod b = if 0 ≤ a then a % b else -((-a) % b) := by
  by_cases h : 0 ≤ a
  · rw [if_pos h, Int.tmod_eq_emod_of_nonneg h]
  · rw [if_neg h]
    have := Int.neg_tmod (-a) b
    rw [Int.neg_neg] at this
    rw [this, Int.tmod_eq_emod_of_nonneg (by omega)]
theorem wday_f (d : Int) (h1 : -50000 ≤ d) (h2 : d ≤ 50000) : cashbookref04_Weekday.f d = some (wd d) := by
  unfold cashbookref04_Weekday.f wd
  congr 1
  rw [wrap64_s (i := d) (by omega) (by omega), tmod_s d 7]
  by_cases h : 0 ≤ d
  · rw [if_pos h, wrap64_s (i := d % 7 + 7) (by omega) (by omega), wrap64_s (i := d % 7 + 7 + 5) (by omega) (by omega), tmod_s, if_pos (by omega)]; omega
  · rw [if_neg h, wrap64_s (i := -(-d % 7) + 7) (by omega) (by omega), wrap64_s (i := -(-d % 7) + 7 + 5) (by omega) (by omega), tmod_s, if_pos (by omega)]; omega

section
variable (l : List S44) (hl : l.length ≤ 1000)
include hl

theorem refRight_l1 (i : Nat) (hi : i < l.length) (R : Bool) (hR : Ev (fun k => cashbookref06_Right.l0 k l l (l.length : Int) (i + 1 : Nat)) R) (o : Bool) :
    ∀ (n j : Nat), i - j = n → j ≤ i → Ev (fun k => cashbookref06_Right.l1 k l i j l (l.length : Int) i (rd_T44 l i).f0 (rd_T44 l i).f1 o) (!(((l.take i).drop j).map keyOf).contains (keyOf (rd_T44 l i)) && R) := by
  intro n
  induction n with
  | zero =>
    intro j hn hj
    obtain rfl : j = i := by omega
    have e : (l.take j).drop j = [] := List.drop_eq_nil_of_le (by rw [List.length_take]; omega)
    rw [e]
    refine Ev.step (f := fun k => cashbookref06_Right.l0 k l l (l.length : Int) (j + 1 : Nat)) (fun k => ?_) (by simpa using hR)
    simp only [cashbookref06_Right.l1]
    rw [if_neg (by omega), wrap64_s (by omega) (by omega)]
    rfl
  | succ n ih =>
    intro j hn hj
    have hjl : j < l.length := by omega
    have e : (l.take i).drop j = rd_T44 l j :: (l.take i).drop (j + 1) := by
      rw [List.drop_eq_getElem_cons (by rw [List.length_take]; omega)]
      congr 1
      unfold rd_T44
      simp [hjl]
    rw [e]
    by_cases hk : keyOf (rd_T44 l i) = keyOf (rd_T44 l j)
    · have h0 : (rd_T44 l j).f0 = (rd_T44 l i).f0 := (congrArg Prod.fst hk).symm
      have h1 : (rd_T44 l j).f1 = (rd_T44 l i).f1 := (congrArg Prod.snd hk).symm
      refine Ev.step (f := fun _ => some false) (fun k => ?_) (by simp [hk]; exact Ev.now _)
      simp only [cashbookref06_Right.l1]
      rw [if_pos (by omega), if_pos (by omega), if_pos (by omega), if_pos h0, if_pos h1]
    · refine Ev.step (f := fun k => cashbookref06_Right.l1 k l i (j + 1 : Nat) l (l.length : Int) i (rd_T44 l i).f0 (rd_T44 l i).f1 o) (fun k => ?_) (by have := ih (j + 1) (by omega) (by omega); simpa [hk] using this)
      simp only [cashbookref06_Right.l1]
      rw [if_pos (by omega), if_pos (by omega), if_pos (by omega), wrap64_s (by omega) (by omega)]
      by_cases h0 : (rd_T44 l j).f0 = (rd_T44 l i).f0
      · have h1 : ¬ (rd_T44 l j).f1 = (rd_T44 l i).f1 := fun h1 => hk (by unfold keyOf; rw [h0, h1])
        rw [if_pos h0, if_neg h1]; rfl
      · rw [if_neg h0]; rfl

theorem refRight_l0 : ∀ (n i : Nat), l.length - i = n → i ≤ l.length → Ev (fun k => cashbookref06_Right.l0 k l l (l.length : Int) i) (calSome (l.take i) (l.drop i) && decide (l.length ≤ 64)) := by
  intro n
  induction n with
  | zero =>
    intro i hn hi
    obtain rfl : i = l.length := by omega
    rw [List.drop_length, calSome, Bool.true_and]
    refine Ev.step (f := fun _ => some (decide (l.length ≤ 64))) (fun k => ?_) (Ev.now _)
    simp only [cashbookref06_Right.l0]
    rw [if_neg (by omega)]
    congr 1
    rw [decide_eq_decide]; omega
  | succ n ih =>
    intro i hn hi
    have hil : i < l.length := by omega
    have h1 := ih (i + 1) (by omega) (by omega)
    rw [take_rd l i hil] at h1
    rw [drop_rd l i hil, calSome]
    generalize hh : rd_T44 l i = h at *
    cases h0 : dayB h.f0 with
    | false =>
      refine Ev.step (f := fun k => cashbookref06_Right.j1 k l i l (l.length : Int) i true h.f0 h.f1 h.f2) (fun k => ?_) (Ev.step (f := fun _ => some false) (fun k => ?_) (by simp [holB, h0]; exact Ev.now _))
      · simp only [cashbookref06_Right.l0]
        rw [if_pos (by omega), if_pos (by omega), if_pos (by omega), hh, right_f, h0]; rfl
      · simp only [cashbookref06_Right.j1]; rfl
    | true =>
      cases h2 : dayB h.f1 with
      | false =>
        refine Ev.step (f := fun k => cashbookref06_Right.j1 k l i l (l.length : Int) i true h.f0 h.f1 h.f2) (fun k => ?_) (Ev.step (f := fun _ => some false) (fun k => ?_) (by simp [holB, h2]; exact Ev.now _))
        · simp only [cashbookref06_Right.l0]
          rw [if_pos (by omega), if_pos (by omega), if_pos (by omega), hh, right_f, h0, right_f, h2]; rfl
        · simp only [cashbookref06_Right.j1]; rfl
      | true =>
        refine Ev.step (f := fun k => cashbookref06_Right.j1 k l i l (l.length : Int) i false h.f0 h.f1 h.f2) (fun k => ?_) (Ev.step (f := fun k => cashbookref06_Right.l1 k l i (0 : Nat) l (l.length : Int) i h.f0 h.f1 h.f2) (fun k => ?_) ?_)
        · simp only [cashbookref06_Right.l0]
          rw [if_pos (by omega), if_pos (by omega), if_pos (by omega), hh, right_f, h0, right_f, h2]; rfl
        · simp only [cashbookref06_Right.j1]; rfl
        · have := refRight_l1 l hl i hil _ h1 h.f2 i 0 (by omega) (by omega)
          rw [hh] at this
          simpa [holB, h0, h2, Bool.and_assoc] using this
theorem refRight_ev : Ev (fun k => cashbookref06_Right.f k l) (calB l) := by
  have := refRight_l0 l hl l.length 0 (by omega) (by omega)
  simpa [cashbookref06_Right.f, calB] using this

def bst (o : Option S44) : S44 := match o with | some h => h | none => ⟨0, 0, false⟩
theorem refOpen_l0 (known d : Int) (h1 : -50000 ≤ d) (h2 : d ≤ 50000) : ∀ (n i : Nat) (o : Option S44), l.length - i = n → i ≤ l.length →
    Ev (fun k => cashbookref06_Open.l0 k known d o.isSome l (l.length : Int) i (bst o).f0 (bst o).f1 (bst o).f2) (match bestGo known (l.drop i) d o with | some h => h.f2 | none => decide (wd d < 5)) := by
  intro n
  induction n with
  | zero =>
    intro i o hn hi
    obtain rfl : i = l.length := by omega
    rw [List.drop_length, bestGo]
    cases o with
    | none =>
      refine Ev.step (f := fun _ => some (decide (wd d < 5))) (fun k => ?_) (Ev.now _)
      simp only [cashbookref06_Open.l0]
      rw [if_neg (by omega), wday_f d h1 h2]; rfl
    | some h =>
      refine Ev.step (f := fun _ => some h.f2) (fun k => ?_) (Ev.now _)
      simp only [cashbookref06_Open.l0]
      rw [if_neg (by omega)]; rfl
  | succ n ih =>
    intro i o hn hi
    have hil : i < l.length := by omega
    rw [drop_rd l i hil, bestGo]
    refine Ev.step (f := fun k => cashbookref06_Open.l0 k known d (if (rd_T44 l i).f1 = d ∧ better known o (rd_T44 l i) = true then some (rd_T44 l i) else o).isSome l (l.length : Int) (i + 1 : Nat) (bst (if (rd_T44 l i).f1 = d ∧ better known o (rd_T44 l i) = true then some (rd_T44 l i) else o)).f0 (bst (if (rd_T44 l i).f1 = d ∧ better known o (rd_T44 l i) = true then some (rd_T44 l i) else o)).f1 (bst (if (rd_T44 l i).f1 = d ∧ better known o (rd_T44 l i) = true then some (rd_T44 l i) else o)).f2) (fun k => ?_) (ih (i + 1) _ (by omega) (by omega))
    simp only [cashbookref06_Open.l0]
    rw [if_pos (by omega), if_pos (by omega), if_pos (by omega), wrap64_s (by omega) (by omega)]
    generalize rd_T44 l i = h
    by_cases c1 : h.f1 = d
    · rw [if_pos c1]
      by_cases c2 : h.f0 ≤ known
      · rw [if_pos c2]
        cases o with
        | none => simp [better, c1, c2, bst]
        | some q =>
          by_cases c3 : q.f0 < h.f0
          · simp [better, c1, c2, c3, bst]
          · simp [better, c1, c2, c3, bst]
      · rw [if_neg c2]
        simp [better, c2]
    · rw [if_neg c1]
      simp [c1]
theorem refOpen_ev (known d : Int) (h1 : -50000 ≤ d) (h2 : d ≤ 50000) : Ev (fun k => cashbookref06_Open.f k l known d) (openB l known d) := by
  have := refOpen_l0 l hl known d h1 h2 l.length 0 none (by omega) (by omega)
  exact this

def optS (x : Option Int) : Int × Bool := match x with | some d => (d, true) | none => (0, false)
theorem refStep_l0 (known b : Int) (hb : b = 1 ∨ b = -1) : ∀ (n : Nat) (d : Int), -50001 ≤ d → d ≤ 50001 → (b = 1 → 50001 - d < n) → (b = -1 → d + 50001 < n) →
    Ev (fun k => cashbookref06_step.l0 k l known d b) (optS (nextF (openB l known) b n d)) := by
  intro n
  induction n with
  | zero =>
    intro d a1 a2 a3 a4
    exfalso
    rcases hb with h | h
    · have := a3 h; omega
    · have := a4 h; omega
  | succ n ih =>
    intro d a1 a2 a3 a4
    rw [nextF_spec]
    cases hd : dayB d with
    | false =>
      refine Ev.step (f := fun _ => some (0, false)) (fun k => ?_) (Ev.now _)
      simp only [cashbookref06_step.l0]
      rw [right_f, hd]; rfl
    | true =>
      have hr := (dayB_iff d).1 hd
      have ho := refOpen_ev l hl known d hr.1 hr.2
      cases hx : openB l known d with
      | true =>
        rw [hx] at ho
        refine Ev.step (f := fun k => (cashbookref06_Open.f k l known d).bind fun t => if t = true then some (d, true) else cashbookref06_step.l0 k l known (wrap32 (d + b)) b) (fun k => ?_) (Ev.bind ho (Ev.now _))
        simp only [cashbookref06_step.l0]
        rw [right_f, hd]; rfl
      | false =>
        rw [hx] at ho
        refine Ev.step (f := fun k => (cashbookref06_Open.f k l known d).bind fun t => if t = true then some (d, true) else cashbookref06_step.l0 k l known (wrap32 (d + b)) b) (fun k => ?_) (Ev.bind ho ?_)
        · simp only [cashbookref06_step.l0]
          rw [right_f, hd]; rfl
        · have := ih (d + b) (by omega) (by omega) (fun h => by have := a3 h; omega) (fun h => by have := a4 h; omega)
          rw [wrap32_s (by omega) (by omega)]
          exact this
omit hl in
theorem nextF_more (o : Int → Bool) (b : Int) (hb : b = 1 ∨ b = -1) : ∀ (n m : Nat) (d : Int), (b = 1 → 50001 - d < n) → (b = -1 → d + 50001 < n) → n ≤ m → nextF o b n d = nextF o b m d := by
  intro n
  induction n with
  | zero =>
    intro m d a3 a4 hm
    have hd : dayB d = false := by
      rw [← Bool.not_eq_true, dayB_iff]
      rcases hb with h | h
      · have := a3 h; omega
      · have := a4 h; omega
    cases m with
    | zero => rfl
    | succ m => rw [nextF_spec, hd]; rfl
  | succ n ih =>
    intro m d a3 a4 hm
    obtain ⟨m, rfl⟩ : ∃ j, m = j + 1 := ⟨m - 1, by omega⟩
    rw [nextF_spec, nextF_spec, ih m (d + b) (fun h => by have := a3 h; omega) (fun h => by have := a4 h; omega) (by omega)]
theorem refStep_ev (known b d : Int) (hb : b = 1 ∨ b = -1) (h1 : -50001 ≤ d) (h2 : d ≤ 50001) : Ev (fun k => cashbookref06_step.f k l known d b) (optS (nextD (openB l known) b d)) := by
  have := refStep_l0 l hl known b hb 100010 d h1 h2 (fun _ => by omega) (fun _ => by omega)
  exact this

end
end Go.Proofs.YtamfbfhkojnafaaDoor
