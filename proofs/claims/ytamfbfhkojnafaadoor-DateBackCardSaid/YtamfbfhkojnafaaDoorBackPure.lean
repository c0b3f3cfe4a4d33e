import Derived.Test.YtamfbfhkojnafaaDoorGoesPure
import Derived.Test.YtamfbfhkojnafaaDoorPD4x6
namespace Go.Proofs.YtamfbfhkojnafaaDoor.PD4
open Go.RowKit Go.Proofs.YtamfbfhkojnafaaDoorW.PrintWords
set_option linter.unusedVariables false
set_option linter.unusedSimpArgs false

theorem ext_list (t : ByteArray) (a b : Nat) : (t.extract a b).data.toList = (t.data.toList.take b).drop a := by
  rw [ByteArray.data_extract, Array.toList_extract]
  simp [List.extract_eq_take_drop, List.drop_take]
theorem dig_n (n : Nat) (h : n ≤ 9) : digB (UInt8.ofNat (48 + n)) = true ∧ (UInt8.ofNat (48 + n)).toNat - 48 = n := by
  have : (UInt8.ofNat (48 + n)).toNat = 48 + n := by rw [UInt8.toNat_ofNat']; omega
  unfold digB; rw [this]; simp; omega
theorem num_d2 (n : Nat) (h : n ≤ 99) : (d2 n).all digB = true ∧ numL (d2 n) = n := by
  have h1 := dig_n (n / 10) (by omega)
  have h2 := dig_n (n % 10) (by omega)
  unfold d2 numL
  simp only [List.all_cons, List.all_nil, List.foldl_cons, List.foldl_nil, h1.1, h2.1, h1.2, h2.2]
  refine ⟨rfl, by omega⟩
theorem num_d4 (n : Nat) (h : n ≤ 9999) : (d2 (n / 100) ++ d2 (n % 100)).all digB = true ∧ numL (d2 (n / 100) ++ d2 (n % 100)) = n := by
  have h1 := num_d2 (n / 100) (by omega)
  have a1 := dig_n (n / 100 / 10) (by omega)
  have a2 := dig_n (n / 100 % 10) (by omega)
  have a3 := dig_n (n % 100 / 10) (by omega)
  have a4 := dig_n (n % 100 % 10) (by omega)
  unfold d2 numL
  simp only [List.cons_append, List.nil_append, List.all_cons, List.all_nil, List.foldl_cons, List.foldl_nil, a1.1, a2.1, a1.2, a2.2, a3.1, a4.1, a3.2, a4.2]
  refine ⟨rfl, by omega⟩
theorem parse_text (y m d : Nat) (hy : y ≤ 9999) (hm : m ≤ 99) (hd : d ≤ 99) : parseR ⟨(textL y m d).toArray⟩ = joinR y m d := by
  have hl : (textL y m d).length = 10 := by simp [textL, d2]
  have hf : formD ⟨(textL y m d).toArray⟩ = true := by
    unfold formD
    rw [Bool.and_eq_true_iff, Bool.and_eq_true_iff, decide_eq_true_eq, decide_eq_true_eq, decide_eq_true_eq]
    exact ⟨hl, rfl, rfl⟩
  unfold parseR
  rw [hf, if_pos rfl]
  have e0 : ((⟨(textL y m d).toArray⟩ : ByteArray).extract 0 4).data.toList = d2 (y / 100) ++ d2 (y % 100) := by rw [ext_list]; rfl
  have e1 : ((⟨(textL y m d).toArray⟩ : ByteArray).extract 5 7).data.toList = d2 m := by rw [ext_list]; rfl
  have e2 : ((⟨(textL y m d).toArray⟩ : ByteArray).extract 8 (⟨(textL y m d).toArray⟩ : ByteArray).size).data.toList = d2 d := by rw [ext_list]; rfl
  unfold parse3 segs
  rw [e0, e1, e2, (num_d4 y hy).1, (num_d2 m hm).1, (num_d2 d hd).1, (num_d4 y hy).2, (num_d2 m hm).2, (num_d2 d hd).2]
  rfl
theorem join_civ {x y m d : Int} (hc : Civ x y m d) (h1 : -50000 ≤ x) (h2 : x ≤ 50000) : joinR y m d = (x, 0) := by
  have hy := year_bd hc (by omega) (by omega)
  obtain ⟨c1, c2, c3, c4, c5⟩ := hc
  have : dayN y m d = x := c5
  unfold joinR
  rw [this, if_pos ⟨⟨by omega, ⟨c1, c2⟩, c3, c4⟩, h1, h2⟩]
theorem wday_f2 (d : Int) (h1 : -50000 ≤ d) (h2 : d ≤ 50000) : date_Weekday.f d = some ((d + 50006) % 7, 0) := by
  unfold date_Weekday.f
  have hr : date_Right.f d = some true := by
    unfold date_Right.f
    rw [if_pos (by omega), decide_eq_true (show d ≤ 50000 by omega)]
  rw [hr, Option.bind_some, if_pos rfl, w32_s (by omega) (by omega), w64_s (i := d - -50000) (by omega) (by omega), w64_s (by omega) (by omega), tmod_r, if_pos (by omega)]
  congr 2; omega
theorem next_civ (x y m d : Int) (hc : Civ x y m d) (a b c : Int) (hn : Civ (x + 1) a b c) : (a = y ∧ b = m ∧ c = d + 1) ∨ (c = 1 ∧ 28 ≤ d ∧ ((a = y ∧ b = m + 1) ∨ (a = y + 1 ∧ b = 1 ∧ m = 12))) := by
  have hb := ml_bd y m hc.1 hc.2.1
  by_cases hd : d + 1 ≤ ml y m
  · left
    have : Civ (x + 1) y m (d + 1) := ⟨hc.1, hc.2.1, by have := hc.2.2.1; omega, hd, by have := hc.2.2.2.2; omega⟩
    exact civ_unique hn this
  · right
    have hdm : d = ml y m := by have := hc.2.2.2.1; omega
    have c5 := hc.2.2.2.2
    by_cases h12 : m = 12
    · subst h12
      have h13 : mcum y 12 + ml y 12 = 365 + lng y := by unfold ml mcum cumF; simp; have := lng_01 y; omega
      have hy := yd_succ y
      have : Civ (x + 1) (y + 1) 1 1 := ⟨by omega, by omega, by omega, by have := ml_bd (y + 1) 1 (by omega) (by omega); omega, by rw [hy]; simp [mcum, cumF]; omega⟩
      obtain ⟨rfl, rfl, rfl⟩ := civ_unique hn this
      exact ⟨rfl, by omega, Or.inr ⟨rfl, rfl, rfl⟩⟩
    · have hm1 := hc.1
      have hm2 := hc.2.1
      have hml : ml y m = mcum y (m + 1) - mcum y m := rfl
      have : Civ (x + 1) y (m + 1) 1 := ⟨by omega, by omega, by omega, by have := ml_bd y (m + 1) (by omega) (by omega); omega, by omega⟩
      obtain ⟨rfl, rfl, rfl⟩ := civ_unique hn this
      exact ⟨rfl, by omega, Or.inl ⟨rfl, rfl⟩⟩
theorem back_pure (a0 : Int) (w0 : (Lit.int .i32 a0).wf = true) : cashbooklaw04_DateBack.f 3 a0 = some true := by
  obtain ⟨v, hv, v1, v2⟩ := mayd_f a0 w0
  obtain ⟨y, m, d, hs, hc⟩ := split_f v v1 v2
  have hy := year_bd hc (by omega) (by omega)
  have hmb := ml_bd y m hc.1 hc.2.1
  obtain ⟨c1, c2, c3, c4, c5⟩ := hc
  have hc : Civ v y m d := ⟨c1, c2, c3, c4, c5⟩
  obtain ⟨yn, rfl⟩ := Int.eq_ofNat_of_zero_le (show 0 ≤ y by omega)
  obtain ⟨mn, rfl⟩ := Int.eq_ofNat_of_zero_le (show 0 ≤ m by omega)
  obtain ⟨dn, rfl⟩ := Int.eq_ofNat_of_zero_le (show 0 ≤ d by omega)
  have hp := print_f v v1 v2 yn mn dn hc ⟨by omega, by omega⟩
  have hpa : date_Parse.f ⟨(textL yn mn dn).toArray⟩ = some (v, 0) := by
    unfold date_Parse.f
    rw [parse_text yn mn dn (by omega) (by omega) (by omega), join_civ hc v1 v2]
  unfold cashbooklaw04_DateBack.f
  simp only [hv, hs, hp, Option.bind_some, hpa, wday_f2 v v1 v2, join_f, join_civ hc v1 v2, alive_f, if_true]
  rw [if_neg (by omega), if_neg (by omega), if_neg (by omega), if_neg (by omega)]
  simp only [cashbooklaw04_DateBack.j0, Bool.not_true, Bool.false_eq_true, if_false]
  by_cases hv5 : v = 50000
  · rw [if_pos hv5]
  · rw [if_neg hv5, w32_s (i := v + 1) (by omega) (by omega)]
    obtain ⟨a, b, c, hs2, hc2⟩ := split_f (v + 1) (by omega) (by omega)
    have hw : (v + 1 + 50006) % 7 = Int.tmod (wrap64 ((v + 50006) % 7 + 1)) 7 := by
      rw [w64_s (by omega) (by omega), tmod_r, if_pos (by omega)]; omega
    simp only [hs2, Option.bind_some, wday_f2 (v + 1) (by omega) (by omega), if_true, hw]
    rw [w64_s (i := (dn : Int) + 1) (by omega) (by omega), w64_s (i := (mn : Int) + 1) (by omega) (by omega), w64_s (i := (yn : Int) + 1) (by omega) (by omega)]
    rcases next_civ v yn mn dn hc a b c hc2 with ⟨rfl, rfl, rfl⟩ | ⟨rfl, h28, ⟨rfl, rfl⟩ | ⟨rfl, rfl, h12⟩⟩
    · simp
    · have e1 : ¬ ((mn : Int) + 1 = mn) := by omega
      simp [e1, h28]
    · have e1 : ¬ ((yn : Int) + 1 = yn) := by omega
      have e2 : mn = 12 := by omega
      subst e2
      simp [e1, h28]
end Go.Proofs.YtamfbfhkojnafaaDoor.PD4
