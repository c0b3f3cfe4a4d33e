import Derived.Test.YtamfbfhkojnafaaDoorRollsPure
import Derived.Test.YtamfbfhkojnafaaDoorPC6x5
namespace Go.Proofs.YtamfbfhkojnafaaDoor
open Go.RowKit Go.Proofs.YtamfbfhkojnafaaDoor.PC6 Go.Proofs.YtamfbfhkojnafaaDoorW.PrintWords
set_option linter.unusedVariables false
set_option linter.unusedSimpArgs false
set_option linter.unusedSectionVars false

section
variable (l : List S44) (hl : l.length ≤ 1000)
include hl
theorem refAdd_l0 (known b : Int) (n : Int) (hb : b = 1 ∨ b = -1) (hn : n ≤ 10000) : ∀ (j : Nat) (i d : Int), n - i = j → 0 ≤ i → -50000 ≤ d → d ≤ 50000 →
    Ev (fun k => cashbookref06_Add.l0 k l known d n b i) (optS (addF (openB l known) b j d)) := by
  intro j
  induction j with
  | zero =>
    intro i d hj hi h1 h2
    refine Ev.step (f := fun _ => some (d, true)) (fun k => ?_) (Ev.now _)
    simp only [cashbookref06_Add.l0]
    rw [if_neg (by omega)]
  | succ j ih =>
    intro i d hj hi h1 h2
    have hs := refStep_ev l hl known b (d + b) hb (by omega) (by omega)
    refine Ev.step (f := fun k => (cashbookref06_step.f k l known (d + b) b).bind fun t => if t.2 = true then cashbookref06_Add.l0 k l known t.1 n b (i + 1) else some (0, false)) (fun k => ?_) ?_
    · simp only [cashbookref06_Add.l0]
      rw [if_pos (by omega), wrap32_s (by omega) (by omega), wrap64_s (by omega) (by omega)]
    · show Ev _ (optS (match nextD (openB l known) b (d + b) with | none => none | some x => addF (openB l known) b j x))
      cases hx : nextD (openB l known) b (d + b) with
      | none => rw [hx] at hs; exact Ev.bind hs (Ev.now _)
      | some x =>
        rw [hx] at hs
        have hin := nextD_in hx
        exact Ev.bind hs (ih (i + 1) x (by omega) (by omega) hin.1 hin.2)
theorem refAdd_ev (known d n : Int) (h1 : -50000 ≤ d) (h2 : d ≤ 50000) (n1 : -2000 ≤ n) (n2 : n ≤ 2000) :
    Ev (fun k => cashbookref06_Add.f k l known d n) (optS (if n < 0 then addF (openB l known) (-1) (-n).toNat d else addF (openB l known) 1 n.toNat d)) := by
  by_cases h : n < 0
  · rw [if_pos h]
    refine Ev.step (f := fun k => cashbookref06_Add.l0 k l known d (-n) (-1) 0) (fun k => ?_) (refAdd_l0 l hl known (-1) (-n) (Or.inr rfl) (by omega) (-n).toNat 0 d (by omega) (by omega) h1 h2)
    unfold cashbookref06_Add.f
    rw [if_pos h, wrap64_s (by omega) (by omega)]
    simp only [cashbookref06_Add.j0]
  · rw [if_neg h]
    refine Ev.step (f := fun k => cashbookref06_Add.l0 k l known d n 1 0) (fun k => ?_) (refAdd_l0 l hl known 1 n (Or.inl rfl) (by omega) n.toNat 0 d (by omega) (by omega) h1 h2)
    unfold cashbookref06_Add.f
    rw [if_neg h]
    simp only [cashbookref06_Add.j0]
theorem refCount_l0 (known b : Int) (hb2 : b ≤ 50000) : ∀ (j : Nat) (n d : Int), (b - d).toNat = j → -50000 ≤ d → d ≤ 50000 → 0 ≤ n → n ≤ 200000 - j →
    Ev (fun k => cashbookref06_Count.l0 k l known b n d) (n + countF (openB l known) j d) := by
  intro j
  induction j with
  | zero =>
    intro n d hj h1 h2 n1 n2
    refine Ev.step (f := fun _ => some n) (fun k => ?_) (by rw [show n + countF (openB l known) 0 d = n by simp [countF]]; exact Ev.now _)
    simp only [cashbookref06_Count.l0]
    rw [if_neg (by omega)]
  | succ j ih =>
    intro n d hj h1 h2 n1 n2
    have ho := refOpen_ev l hl known d h1 h2
    refine Ev.step (f := fun k => (cashbookref06_Open.f k l known d).bind fun t => if t = true then cashbookref06_Count.l0 k l known b (n + 1) (d + 1) else cashbookref06_Count.l0 k l known b n (d + 1)) (fun k => ?_) (Ev.bind ho ?_)
    · simp only [cashbookref06_Count.l0]
      rw [if_pos (by omega), wrap32_s (by omega) (by omega), wrap64_s (by omega) (by omega)]
    · cases hx : openB l known d with
      | true =>
        have e : n + countF (openB l known) (j + 1) d = (n + 1) + countF (openB l known) j (d + 1) := by simp [countF, hx]; omega
        rw [e]
        by_cases hd : d + 1 ≤ 50000
        · exact ih (n + 1) (d + 1) (by omega) (by omega) hd (by omega) (by omega)
        · omega
      | false =>
        have e : n + countF (openB l known) (j + 1) d = n + countF (openB l known) j (d + 1) := by simp [countF, hx]
        rw [e]
        by_cases hd : d + 1 ≤ 50000
        · exact ih n (d + 1) (by omega) (by omega) hd (by omega) (by omega)
        · omega
theorem refCount_ev (known a b : Int) (h1 : -50000 ≤ a) (h2 : a ≤ 50000) (hb2 : b ≤ 50000) : Ev (fun k => cashbookref06_Count.f k l known a b) (countF (openB l known) (b - a).toNat a) := by
  have := refCount_l0 l hl known b hb2 (b - a).toNat 0 a rfl h1 h2 (by omega) (by omega)
  rwa [Int.zero_add] at this
theorem refChanged_l0 (u v b : Int) (hb2 : b ≤ 50000) : ∀ (j : Nat) (out : List Int) (d : Int), (b - d).toNat = j → -50000 ≤ d → d ≤ 50000 → out.length ≤ 200000 - j →
    Ev (fun k => cashbookref06_Changed.l0 k l u v b out d) (out ++ chgF (openB l u) (openB l v) j d) := by
  intro j
  induction j with
  | zero =>
    intro n d hj h1 h2 n1
    refine Ev.step (f := fun _ => some n) (fun k => ?_) (by rw [show n ++ chgF (openB l u) (openB l v) 0 d = n by simp [chgF]]; exact Ev.now _)
    simp only [cashbookref06_Changed.l0]
    rw [if_neg (by omega)]
  | succ j ih =>
    intro n d hj h1 h2 n1
    have ho := refOpen_ev l hl u d h1 h2
    have hp := refOpen_ev l hl v d h1 h2
    refine Ev.step (f := fun k => (cashbookref06_Open.f k l u d).bind fun t => (cashbookref06_Open.f k l v d).bind fun s => if (t != s) = true then cashbookref06_Changed.l0 k l u v b (n ++ [d]) (d + 1) else cashbookref06_Changed.l0 k l u v b n (d + 1)) (fun k => ?_) (Ev.bind ho (Ev.bind hp ?_))
    · simp only [cashbookref06_Changed.l0]
      rw [if_pos (by omega), wrap32_s (by omega) (by omega), if_pos (by omega)]
    · by_cases hx : (openB l u d != openB l v d) = true
      · have e : n ++ chgF (openB l u) (openB l v) (j + 1) d = (n ++ [d]) ++ chgF (openB l u) (openB l v) j (d + 1) := by simp only [chgF, if_pos hx, List.append_assoc, List.singleton_append]
        rw [e]; simp only [if_pos hx]
        by_cases hd : d + 1 ≤ 50000
        · exact ih (n ++ [d]) (d + 1) (by omega) (by omega) hd (by rw [List.length_append, List.length_singleton]; omega)
        · omega
      · have e : n ++ chgF (openB l u) (openB l v) (j + 1) d = n ++ chgF (openB l u) (openB l v) j (d + 1) := by simp only [chgF, if_neg hx]
        rw [e]; simp only [if_neg hx]
        by_cases hd : d + 1 ≤ 50000
        · exact ih n (d + 1) (by omega) (by omega) hd (by omega)
        · omega
theorem refChanged_ev (u v a b : Int) (h1 : -50000 ≤ a) (h2 : a ≤ 50000) (hb2 : b ≤ 50000) : Ev (fun k => cashbookref06_Changed.f k l u v a b) (chgF (openB l u) (openB l v) (b - a).toNat a) := by
  have := refChanged_l0 l hl u v b hb2 (b - a).toNat [] a rfl h1 h2 (by rw [List.length_nil]; omega)
  rwa [List.nil_append] at this
end

theorem refSame_l0 (m : List Int) (hm : m.length ≤ 1000000) : ∀ (j : Nat) (i : Nat), m.length - i = j → Ev (fun k => cashbookref06_Same.l0 k m m (m.length : Int) i) true := by
  intro j
  induction j with
  | zero =>
    intro i hj
    refine Ev.step (f := fun _ => some true) (fun k => ?_) (Ev.now _)
    simp only [cashbookref06_Same.l0]
    rw [if_neg (by omega)]
  | succ j ih =>
    intro i hj
    refine Ev.step (f := fun k => cashbookref06_Same.l0 k m m (m.length : Int) (i + 1 : Nat)) (fun k => ?_) (ih (i + 1) (by omega))
    simp only [cashbookref06_Same.l0]
    rw [if_pos (by omega), if_pos (by omega), if_pos (by omega), if_pos (by omega), if_pos (by trivial), wrap64_s (by omega) (by omega)]
    rfl
theorem refSame_ev (m : List Int) (hm : m.length ≤ 1000000) : Ev (fun k => cashbookref06_Same.f k m m) true := by
  refine Ev.congr (f := fun k => cashbookref06_Same.l0 k m m (m.length : Int) (0 : Nat)) (fun k => ?_) (refSame_l0 m hm m.length 0 (by omega))
  unfold cashbookref06_Same.f
  rw [if_pos rfl]
  rfl
theorem chgF_length (o p : Int → Bool) (j : Nat) : ∀ d, (chgF o p j d).length ≤ j := by
  induction j with
  | zero => intro d; simp [chgF]
  | succ j ih => intro d; have := ih (d + 1); unfold chgF; split <;> simp <;> omega
end Go.Proofs.YtamfbfhkojnafaaDoor
