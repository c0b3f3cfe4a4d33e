import Derived.Test.YtamfbfhkojnafaaDoorCalRg
namespace Go.Proofs.YtamfbfhkojnafaaDoor
open Go.RowKit Go.Proofs.YtamfbfhkojnafaaDoor.PC6 Go.Proofs.YtamfbfhkojnafaaDoorW.PrintWords
set_option linter.unusedVariables false
set_option linter.unusedSimpArgs false
set_option linter.unusedSectionVars false

/-! How many days have business: enough of them. -/
theorem bestGo_mem (known d : Int) (l : List S44) : ∀ (o : Option S44) (h : S44), bestGo known l d o = some h → o = some h ∨ (h ∈ l ∧ h.f1 = d ∧ h.f0 ≤ known) := by
  induction l with
  | nil => intro o h e; exact .inl e
  | cons x l ih =>
    intro o h e
    rw [bestGo] at e
    rcases ih _ h e with e1 | ⟨e1, e2, e3⟩
    · split at e1
      · rename_i hc
        cases e1
        refine .inr ⟨by simp, hc.1, ?_⟩
        have := hc.2
        unfold better at this
        simp at this
        exact this.1
      · exact .inl e1
    · exact .inr ⟨by simp [e1], e2, e3⟩
theorem bestF_mem {known d : Int} {l : List S44} {h : S44} (e : bestF known l d = some h) : h ∈ l ∧ h.f1 = d ∧ h.f0 ≤ known := by
  rcases bestGo_mem known d l none h e with e | e
  · cases e
  · exact e
theorem open_no {known d : Int} {l : List S44} (h : openB l known d = false) : 5 ≤ wd d ∨ d ∈ l.map (·.f1) := by
  unfold openB at h
  cases hb : bestF known l d with
  | none => rw [hb] at h; left; simp at h; exact h
  | some q =>
    right
    obtain ⟨h1, h2, _⟩ := bestF_mem hb
    exact List.mem_map.2 ⟨q, h1, h2⟩

def wkF : Nat → Int → Int
  | 0, _ => 0
  | k + 1, d => (if 5 ≤ wd d then 1 else 0) + wkF k (d + 1)
def inF (L : List Int) : Nat → Int → Int
  | 0, _ => 0
  | k + 1, d => (if d ∈ L then 1 else 0) + inF L k (d + 1)
def wkS (d : Int) : Int := 2 * ((d + 50006) / 7) + (if 5 ≤ (d + 50006) % 7 then (d + 50006) % 7 - 5 else 0)
theorem wkF_S (k : Nat) : ∀ d, wkF k d = wkS (d + k) - wkS d := by
  induction k with
  | zero => intro d; simp [wkF]
  | succ k ih =>
    intro d
    rw [wkF, ih]
    rw [show d + 1 + (k : Int) = d + ((k + 1 : Nat) : Int) by omega]
    have : (if 5 ≤ wd d then (1 : Int) else 0) = wkS (d + 1) - wkS d := by
      unfold wkS wd
      split <;> split <;> split <;> omega
    omega
theorem wkF_le (k : Nat) (d : Int) : wkF k d ≤ 2 * ((k : Int) / 7) + 2 := by
  rw [wkF_S]
  unfold wkS
  split <;> split <;> omega
theorem inF_nil (k : Nat) : ∀ d, inF [] k d = 0 := by
  induction k with
  | zero => intro d; rfl
  | succ k ih => intro d; simp [inF, ih]
theorem inF_one (a : Int) (k : Nat) : ∀ d, inF [a] k d = if d ≤ a ∧ a < d + k then 1 else 0 := by
  induction k with
  | zero => intro d; rw [inF, if_neg (by omega)]
  | succ k ih =>
    intro d
    rw [inF, ih]
    by_cases h : d = a
    · subst h; rw [if_pos (by simp), if_neg (by omega), if_pos (by omega)]; rfl
    · rw [if_neg (by simpa using h)]
      by_cases h2 : d + 1 ≤ a ∧ a < d + 1 + k
      · rw [if_pos h2, if_pos (by omega)]; rfl
      · rw [if_neg h2, if_neg (by omega)]; rfl
theorem inF_cons (a : Int) (L : List Int) (k : Nat) : ∀ d, inF (a :: L) k d ≤ inF [a] k d + inF L k d := by
  induction k with
  | zero => intro d; simp [inF]
  | succ k ih =>
    intro d
    have := ih (d + 1)
    have e : (if d ∈ a :: L then (1 : Int) else 0) ≤ (if d ∈ [a] then 1 else 0) + (if d ∈ L then 1 else 0) := by
      by_cases h2 : d ∈ L
      · rw [if_pos (List.mem_cons_of_mem _ h2), if_pos h2]; split <;> omega
      · by_cases h1 : d = a
        · rw [if_pos (by simp [h1]), if_pos (by simp [h1]), if_neg h2]; omega
        · rw [if_neg (by simp [h1, h2]), if_neg (by simp [h1]), if_neg h2]; omega
    simp only [inF]
    omega
theorem inF_le (L : List Int) (k : Nat) (d : Int) : inF L k d ≤ L.length := by
  induction L with
  | nil => rw [inF_nil]; simp
  | cons a L ih =>
    have h1 := inF_cons a L k d
    have h2 : inF [a] k d ≤ 1 := by rw [inF_one]; split <;> omega
    simp only [List.length_cons]
    omega
theorem count_ge (l : List S44) (known : Int) (k : Nat) : ∀ d, (k : Int) ≤ countF (openB l known) k d + wkF k d + inF (l.map (·.f1)) k d := by
  induction k with
  | zero => intro d; simp [countF, wkF, inF]
  | succ k ih =>
    intro d
    have := ih (d + 1)
    simp only [countF, wkF, inF]
    cases ho : openB l known d with
    | true =>
      simp only [if_true]
      split <;> split <;> omega
    | false =>
      simp only [Bool.false_eq_true, if_false]
      rcases open_no ho with h | h
      · rw [if_pos h]; split <;> omega
      · rw [if_pos h]; split <;> omega
theorem count_big (l : List S44) (hl : l.length ≤ 70) (known : Int) (k : Nat) (d : Int) : (k : Int) - 2 * ((k : Int) / 7) - 72 ≤ countF (openB l known) k d := by
  have h1 := count_ge l known k d
  have h2 := wkF_le k d
  have h3 := inF_le (l.map (·.f1)) k d
  simp only [List.length_map] at h3
  omega

theorem countF_add (o : Int → Bool) (a b : Nat) : ∀ d, countF o (a + b) d = countF o a d + countF o b (d + a) := by
  induction a with
  | zero => intro d; simp [countF]
  | succ a ih =>
    intro d
    rw [show a + 1 + b = (a + b) + 1 by omega, countF, ih (d + 1), countF]
    rw [show d + 1 + (a : Int) = d + ((a + 1 : Nat) : Int) by omega]
    omega
/-- forth: the first day with business. -/
theorem nextF_fwd (o : Int → Bool) : ∀ (k : Nat) (d : Int), 0 < countF o k d → -50000 ≤ d → d + k ≤ 50001 → ∀ m, k ≤ m →
    ∃ x, nextF o 1 m d = some x ∧ d ≤ x ∧ x < d + k ∧ o x = true ∧ countF o (x - d).toNat d = 0 := by
  intro k
  induction k with
  | zero => intro d h; simp [countF] at h
  | succ k ih =>
    intro d h h1 h2 m hm
    obtain ⟨m, rfl⟩ : ∃ j, m = j + 1 := ⟨m - 1, by omega⟩
    have hd : dayB d = true := (dayB_iff d).2 (by omega)
    rw [nextF_spec, if_pos hd]
    cases ho : o d with
    | true => exact ⟨d, by simp, by omega, by omega, ho, by rw [Int.sub_self]; rfl⟩
    | false =>
      rw [countF, ho] at h
      obtain ⟨x, hx, x1, x2, x3, x4⟩ := ih (d + 1) (by simpa using h) (by omega) (by omega) m (by omega)
      refine ⟨x, by simpa using hx, by omega, by omega, x3, ?_⟩
      obtain ⟨j, hj⟩ : ∃ j : Nat, (x - d).toNat = j + 1 := ⟨(x - d).toNat - 1, by omega⟩
      rw [hj, countF, ho, show j = (x - (d + 1)).toNat by omega, x4]
      rfl
/-- back. -/
theorem nextF_bwd (o : Int → Bool) : ∀ (k : Nat) (d : Int), 0 < countF o k (d - k + 1) → d ≤ 50000 → -50001 ≤ d - k → ∀ m, k ≤ m →
    ∃ x, nextF o (-1) m d = some x ∧ x ≤ d ∧ d - k < x ∧ o x = true ∧ countF o (d - x).toNat (x + 1) = 0 := by
  intro k
  induction k with
  | zero => intro d h; simp [countF] at h
  | succ k ih =>
    intro d h h1 h2 m hm
    obtain ⟨m, rfl⟩ : ∃ j, m = j + 1 := ⟨m - 1, by omega⟩
    have hd : dayB d = true := (dayB_iff d).2 (by omega)
    rw [nextF_spec, if_pos hd]
    cases ho : o d with
    | true => exact ⟨d, by simp, by omega, by omega, ho, by rw [Int.sub_self]; rfl⟩
    | false =>
      have e : countF o (k + 1) (d - ((k + 1 : Nat) : Int) + 1) = countF o k (d - 1 - k + 1) + (if o d then 1 else 0) := by
        rw [countF_add o k 1]
        rw [show d - ((k + 1 : Nat) : Int) + 1 = d - 1 - k + 1 by omega, show d - 1 - (k : Int) + 1 + k = d by omega]
        simp [countF]
      rw [e, ho] at h
      obtain ⟨x, hx, x1, x2, x3, x4⟩ := ih (d - 1) (by simpa using h) (by omega) (by omega) m (by omega)
      refine ⟨x, by rw [if_neg (by decide)]; exact hx, by omega, by omega, x3, ?_⟩
      have e2 : countF o (d - x).toNat (x + 1) = countF o (d - 1 - x).toNat (x + 1) + (if o d then 1 else 0) := by
        rw [show (d - x).toNat = (d - 1 - x).toNat + 1 by omega, countF_add o _ 1]
        rw [show x + 1 + ((d - 1 - x).toNat : Int) = d by omega]
        simp [countF]
      rw [e2, x4, ho]; rfl

variable (l : List S44) (hl : l.length ≤ 70) (known : Int)
include hl
theorem fwd (d : Int) (h1 : -50000 ≤ d) (h2 : d ≤ 49800) : ∃ x, nextD (openB l known) 1 d = some x ∧ d ≤ x ∧ x < d + 200 ∧ openB l known x = true ∧ countF (openB l known) (x - d).toNat d = 0 := by
  have := count_big l hl known 200 d
  exact nextF_fwd _ 200 d (by omega) h1 (by omega) _ (by omega)
theorem bwd (d : Int) (h1 : -49800 ≤ d) (h2 : d ≤ 50000) : ∃ x, nextD (openB l known) (-1) d = some x ∧ x ≤ d ∧ d - 200 < x ∧ openB l known x = true ∧ countF (openB l known) (d - x).toNat (x + 1) = 0 := by
  have := count_big l hl known 200 (d - (200 : Nat) + 1)
  exact nextF_bwd _ 200 d (by omega) h2 (by omega) _ (by omega)
end Go.Proofs.YtamfbfhkojnafaaDoor
