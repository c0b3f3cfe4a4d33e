import Derived.Test.YtamfbfhkojnafaaDoorRollsPure
namespace Go.Proofs.YtamfbfhkojnafaaDoor
open Go.RowKit Go.Proofs.YtamfbfhkojnafaaDoor.PC6 Go.Proofs.YtamfbfhkojnafaaDoorW.PrintWords
set_option linter.unusedVariables false
set_option linter.unusedSimpArgs false

theorem addF_succ (o : Int → Bool) (b : Int) (k : Nat) : ∀ d, addF o b (k + 1) d = (addF o b k d).bind fun x => nextD o b (x + b) := by
  induction k with
  | zero =>
    intro d
    show (match nextD o b (d + b) with | none => none | some x => addF o b 0 x) = _
    simp only [addF, Option.bind_some]
    cases nextD o b (d + b) <;> rfl
  | succ k ih =>
    intro d
    show (match nextD o b (d + b) with | none => none | some x => addF o b (k + 1) x) = (match nextD o b (d + b) with | none => none | some x => addF o b k x).bind _
    cases nextD o b (d + b) with
    | none => rfl
    | some x => exact ih x
theorem addF_plus (o : Int → Bool) (b : Int) (i : Nat) (j : Nat) : ∀ d, addF o b (i + j) d = (addF o b i d).bind fun x => addF o b j x := by
  induction i with
  | zero => intro d; rw [Nat.zero_add]; rfl
  | succ i ih =>
    intro d
    rw [show i + 1 + j = (i + j) + 1 by omega]
    show (match nextD o b (d + b) with | none => none | some x => addF o b (i + j) x) = (match nextD o b (d + b) with | none => none | some x => addF o b i x).bind _
    cases nextD o b (d + b) with
    | none => rfl
    | some x => exact ih x

section
variable (l : List S44) (hl : l.length ≤ 70) (known : Int)
include hl
/-- forth from a day with business, and back again. -/
theorem add_there (d : Int) (h1 : 0 ≤ d) (h2 : d ≤ 41000) (ho : openB l known d = true) : ∀ k : Nat, k ≤ 400 →
    ∃ x, addF (openB l known) 1 k d = some x ∧ d ≤ x ∧ x ≤ d + 800 ∧ openB l known x = true ∧ countF (openB l known) (x - d).toNat d = k ∧ addF (openB l known) (-1) k x = some d := by
  intro k
  induction k with
  | zero => intro _; exact ⟨d, rfl, by omega, by omega, ho, by rw [Int.sub_self]; rfl, rfl⟩
  | succ k ih =>
    intro hk
    obtain ⟨x, hx, x1, x2, x3, x4, x5⟩ := ih (by omega)
    obtain ⟨y, hy, y1, y2, y3, y4⟩ := fwd l hl known (x + 1) (by omega) (by omega)
    have hcount : countF (openB l known) (y - d).toNat d = ((k + 1 : Nat) : Int) := by
      have a := countF_add (openB l known) (x - d).toNat 1 d
      have b := countF_add (openB l known) ((x - d).toNat + 1) (y - (x + 1)).toNat d
      rw [show d + ((x - d).toNat : Int) = x by omega, x4] at a
      rw [show d + (((x - d).toNat + 1 : Nat) : Int) = x + 1 by omega, y4, a] at b
      rw [show (y - d).toNat = (x - d).toNat + 1 + (y - (x + 1)).toNat by omega, b]
      simp [countF, x3]
    have hbig := count_big l hl known (y - d).toNat d
    rw [hcount] at hbig
    refine ⟨y, by rw [addF_succ, hx]; exact hy, by omega, by omega, y3, hcount, ?_⟩
    show (match nextD (openB l known) (-1) (y + -1) with | none => none | some z => addF (openB l known) (-1) k z) = some d
    have hback : nextD (openB l known) (-1) (y + -1) = some x := by
      obtain ⟨z, hz, z1, z2, z3, z4⟩ := bwd l hl known (y + -1) (by omega) (by omega)
      rw [hz]
      congr 1
      rcases Int.lt_trichotomy z x with c | c | c
      · exfalso
        have a := countF_add (openB l known) (x - (z + 1)).toNat 1 (z + 1)
        have b := countF_add (openB l known) ((x - (z + 1)).toNat + 1) (y + -1 - x).toNat (z + 1)
        rw [show z + 1 + ((x - (z + 1)).toNat : Int) = x by omega] at a
        rw [show ((x - (z + 1)).toNat + 1 + (y + -1 - x).toNat) = (y + -1 - z).toNat by omega, z4] at b
        have n1 := countF_nonneg (openB l known) (x - (z + 1)).toNat (z + 1)
        have n2 := countF_nonneg (openB l known) (y + -1 - x).toNat (z + 1 + (((x - (z + 1)).toNat + 1 : Nat) : Int))
        have c1 : countF (openB l known) 1 x = 1 := by simp [countF, x3]
        rw [c1] at a
        omega
      · exact c
      · exfalso
        have a := countF_add (openB l known) (z - (x + 1)).toNat 1 (x + 1)
        have b := countF_add (openB l known) ((z - (x + 1)).toNat + 1) (y - (z + 1)).toNat (x + 1)
        rw [show x + 1 + ((z - (x + 1)).toNat : Int) = z by omega] at a
        rw [show ((z - (x + 1)).toNat + 1 + (y - (z + 1)).toNat) = (y - (x + 1)).toNat by omega, y4] at b
        have n1 := countF_nonneg (openB l known) (z - (x + 1)).toNat (x + 1)
        have n2 := countF_nonneg (openB l known) (y - (z + 1)).toNat (x + 1 + (((z - (x + 1)).toNat + 1 : Nat) : Int))
        have c1 : countF (openB l known) 1 z = 1 := by simp [countF, z3]
        rw [c1] at a
        omega
    rw [hback]
    exact x5
end

theorem mod200 (a : Int) (h : (Lit.int .i64 a).wf = true) : ∃ q : Nat, Int.tmod (wrap64 ((Int.tmod a 200) + 200)) 200 = q ∧ q < 200 := by
  rw [tmod_s a 200]
  have e : ∀ q : Int, 0 < q → q < 400 → Int.tmod (wrap64 q) 200 = q % 200 := by
    intro q h1 h2
    rw [wrap64_s (by omega) (by omega), tmod_s, if_pos (by omega)]
  by_cases h0 : 0 ≤ a
  · rw [if_pos h0, e _ (by omega) (by omega)]
    exact ⟨((a % 200 + 200) % 200).toNat, by omega, by omega⟩
  · rw [if_neg h0, e _ (by omega) (by omega)]
    exact ⟨((-(-a % 200) + 200) % 200).toNat, by omega, by omega⟩

theorem adds_pure (l : List S44) (a1 a2 a3 a4 : Int) (w1 : (Lit.int .i32 a1).wf = true) (w2 : (Lit.int .i32 a2).wf = true) (w3 : (Lit.int .i64 a3).wf = true) (w4 : (Lit.int .i64 a4).wf = true) : cashbooklaw06_CalendarAdds.f l a1 a2 a3 a4 = some true := by
  obtain ⟨t, ht⟩ : ∃ t, t = l.take 70 := ⟨_, rfl⟩
  have hm70 : t.length ≤ 70 := by rw [ht, List.length_take]; omega
  have hm : t.length ≤ 1000 := by omega
  have hf : cashbooklaw06_few.f l = some t := by rw [ht]; rfl
  obtain ⟨known, hk, k1, k2⟩ := may_f a1 w1
  obtain ⟨day, hd, d1, d2⟩ := may_f a2 w2
  obtain ⟨a, ha, a5⟩ := mod200 a3 w3
  obtain ⟨b, hb, b5⟩ := mod200 a4 w4
  have hR : ∀ x how, calendar_Roll.f t known x how = some (rollRes t known x how) := fun x how => by unfold calendar_Roll.f; rw [if_pos hm]
  have hA : ∀ x n, calendar_Add.f t known x n = some (addRes t known x n) := fun x n => by unfold calendar_Add.f; rw [if_pos hm]
  have hC : ∀ x y, calendar_Count.f t known x y = some (countRes t known x y) := fun x y => by unfold calendar_Count.f; rw [if_pos hm]
  unfold cashbooklaw06_CalendarAdds.f
  rw [hf, ha, hb]
  simp only [Option.bind_some, hk, hd, hR, hA, hC]
  cases hc : calB t with
  | false =>
    have e : ∀ ds, mayE t ds = 1 := fun ds => by unfold mayE; rw [hc]; rfl
    have r : rollRes t known day 0 = (0, 1) := by unfold rollRes; rw [if_pos (by omega), e]; rfl
    simp [r, alive6]
  | true =>
    have e : ∀ x, -50000 ≤ x → x ≤ 50000 → mayE t [known, x] = 0 := fun x h1 h2 => mayE0 hc (by intro d hd; simp at hd; rcases hd with rfl | rfl <;> omega)
    obtain ⟨f, hf1, f1, f2, f3, f4⟩ := fwd t hm70 known day (by omega) (by omega)
    have rf : rollRes t known day 0 = (f, 0) := by
      unfold rollRes; rw [if_pos (by omega), if_pos (e _ (by omega) (by omega))]
      show optP (nextD (openB t known) 1 day) = _
      rw [hf1]; rfl
    obtain ⟨x, hx, x1, x2, x3, x4, x5⟩ := add_there t hm70 known f (by omega) (by omega) f3 a (by omega)
    obtain ⟨z, hz, z1, z2, z3, z4, z5⟩ := add_there t hm70 known f (by omega) (by omega) f3 (a + b) (by omega)
    have hxz : addF (openB t known) 1 b x = some z := by
      have := addF_plus (openB t known) 1 a b f
      rw [hz, hx] at this
      exact this.symm
    have hadd : ∀ (y : Int) (n : Nat), -50000 ≤ y → y ≤ 50000 → n ≤ 400 → addRes t known y (n : Int) = optP (addF (openB t known) 1 n y) := by
      intro y n h1 h2 h3
      unfold addRes
      rw [if_pos (e y h1 h2), if_neg (by omega), if_neg (by omega), Int.toNat_natCast]
    have r1 : addRes t known f (a : Int) = (x, 0) := by rw [hadd f a (by omega) (by omega) (by omega), hx]; rfl
    have r2 : addRes t known x (b : Int) = (z, 0) := by rw [hadd x b (by omega) (by omega) (by omega), hxz]; rfl
    have r3 : addRes t known f (wrap64 ((a : Int) + b)) = (z, 0) := by
      rw [wrap64_s (by omega) (by omega), show (a : Int) + b = ((a + b : Nat) : Int) by omega, hadd f (a + b) (by omega) (by omega) (by omega), hz]; rfl
    have r4 : addRes t known x (wrap64 (-(a : Int))) = (f, 0) := by
      rw [wrap64_s (by omega) (by omega)]
      unfold addRes
      rw [if_pos (e x (by omega) (by omega)), if_neg (by omega)]
      by_cases h : -(a : Int) < 0
      · rw [if_pos h, show (- -(a : Int)).toNat = a by omega, x5]; rfl
      · have ha0 : a = 0 := by omega
        subst ha0
        rw [if_neg h]
        simp only [addF, Option.some.injEq] at hx
        subst hx
        rfl
    have r5 : countRes t known f x = ((a : Int), 0) := by
      unfold countRes
      rw [if_pos (mayE0 hc (by intro d hd; simp at hd; rcases hd with rfl | rfl | rfl <;> omega))]
      have hfar : farB f x = false := by unfold farB; simp; omega
      rw [hfar, x4]; rfl
    simp [rf, r1, r2, r3, r4, r5, alive6]
end Go.Proofs.YtamfbfhkojnafaaDoor
