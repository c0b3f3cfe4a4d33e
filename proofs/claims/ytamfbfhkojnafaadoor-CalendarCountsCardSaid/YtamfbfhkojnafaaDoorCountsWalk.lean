import Derived.Test.YtamfbfhkojnafaaDoorCountsPure
import Derived.Lib.Hide
import Derived.Deep.QuietTactic
import Derived.BigQuiet
import Derived.Outline
namespace Go.Proofs.YtamfbfhkojnafaaDoor
open Go.RowKit Go.Proofs.YtamfbfhkojnafaaDoor.PC6 Go.Proofs.YtamfbfhkojnafaaDoorW.PrintWords Go.Proofs.YtamfbfhkojnafaaDoorW.PrintLast Go.Proofs.YtamfbfhkojnafaaDoorW.PrintMore
set_option linter.unusedVariables false
set_option linter.unusedSimpArgs false

/-- n as it is asked. -/
def cutN (n : Int) : Int := if (300 < n ∨ n < -300) ∧ -2000 ≤ n ∧ n ≤ 2000 then n.tmod 300 else n

def CountsPost (w : World) (e : Ending) (w' : World) : Prop := e = .returned (.bool true) ∧ Below w.heap.size w w'

theorem n_cases (n : Int) : (-300 ≤ n ∧ n ≤ 300) ∨ (300 < n ∧ n ≤ 2000) ∨ 2000 < n ∨ (-2000 ≤ n ∧ n < -300) ∨ n < -2000 := by omega

set_option maxHeartbeats 4000000 in
set_option maxRecDepth 100000 in
/-- What is refused at once. -/
theorem counts_bad (A0 : Option Addr) (c0 : Nat) (l0 : List S44) (a1 a2 a3 a4 : Int) (w : World) (hr0 : Kd.C k44 w A0 l0.length l0) (hc0 : l0.length ≤ c0) (hT : BefAt w)
    (hbad : calB (l0.take 70) = false) :
    Calls Tryd.prog 7 #[.slice A0 l0.length c0, .int .i32 a1, .int .i32 a2, .int .i32 a3, .int .i64 a4] w (CountsPost w) := by
  obtain ⟨t, ht⟩ : ∃ t, t = l0.take 70 := ⟨_, rfl⟩
  have hfew := cashbooklaw06_few.calls A0 c0 l0 t w hr0 hc0 (by rw [ht]; rfl)
  rw [← ht] at hbad
  have hm : t.length ≤ 1000 := by rw [ht, List.length_take]; omega
  clear ht hr0
  have HT := Lib.hid hT
  clear hT
  have hmay : ∀ ds, mayE t ds = 1 := fun ds => by unfold mayE; rw [hbad]; rfl
  have HA : Hid (∀ n, calendar_Add.f t a1 a2 n = some (0, 1)) := Lib.hid fun n => by unfold calendar_Add.f addRes; rw [if_pos hm, hmay]; rfl
  have HB1 : Hid (calendar_Count.f t a1 a2 a3 = some (0, 1)) := by unfold calendar_Count.f countRes; rw [if_pos hm, hmay]; exact Lib.hid rfl
  have HC : Hid (calendar_Changed.f t a1 a3 a2 a3 = some ([], 1)) := by unfold calendar_Changed.f chgRes; rw [if_pos hm, hmay]; exact Lib.hid rfl
  obtain ⟨K, hK⟩ := (refRight_ev t hm).rounds
  rw [hbad] at hK
  replace hK := Lib.hid hK
  clear hmay
  replace hbad := Lib.hid hbad
  replace hm := Lib.hid hm
  rcases n_cases a4 with ⟨n1, n2⟩ | ⟨n1, n2⟩ | n1 | ⟨n1, n2⟩ | n1
  all_goals
    have HB := Lib.hid (Below.refl w.heap.size w)
    go_enter Tryd.func7, Tryd.ntmps7
    go_wp2_with fail
    refine (hfew).mono ?_
    rintro e w1 ⟨v, rfl, ⟨At, ct, rfl, hct, hC⟩, hb_⟩
    try replace hb_ := Drawn0.below hb_
    replace HT := Lib.hid (BefAt.below HT.out hb_)
    replace HB := Lib.hid (HB.out.trans (Below.mono hb_ HB.out.size))
    clear hb_
    clear hfew
    replace hC := Lib.hid hC
    go_wp2_with fail
    refine (calendar_Add.calls At ct t _ _ _ _ _ _ hC.out hct (HA.out _)).mono ?_
    rintro e w2 ⟨rfl, hb_⟩
    try replace hb_ := Drawn0.below hb_
    replace HT := Lib.hid (BefAt.below HT.out hb_)
    replace hC := Lib.hid (Kd.C_below hC.out hb_)
    replace HB := Lib.hid (HB.out.trans (Below.mono hb_ HB.out.size))
    clear hb_
    go_wp2_with fail
    refine (calendar_Count.calls At ct t _ _ _ _ _ _ hC.out hct HB1.out).mono ?_
    rintro e w3 ⟨rfl, hb_⟩
    try replace hb_ := Drawn0.below hb_
    replace HT := Lib.hid (BefAt.below HT.out hb_)
    replace hC := Lib.hid (Kd.C_below hC.out hb_)
    replace HB := Lib.hid (HB.out.trans (Below.mono hb_ HB.out.size))
    clear hb_
    go_wp2_with fail
    refine (calendar_Changed.calls At ct t _ _ _ _ _ _ _ hC.out hct HC.out).mono ?_
    rintro e w4 ⟨v4, rfl, hR4, hb_⟩
    try replace hb_ := Drawn0.below hb_
    replace HT := Lib.hid (BefAt.below HT.out hb_)
    replace hC := Lib.hid (Kd.C_below hC.out hb_)
    replace HB := Lib.hid (HB.out.trans (Below.mono hb_ HB.out.size))
    clear hb_
    obtain ⟨A4, c4, rfl⟩ := Kd.R_slice hR4
    replace hR4 := Lib.hid hR4
    go_wp2_with fail
    refine (cashbookref06_Right.calls K At ct t _ _ hC.out hct hK.out).mono ?_
    rintro e w5 ⟨rfl, hb_⟩
    try replace hb_ := Drawn0.below hb_
    replace HT := Lib.hid (BefAt.below HT.out hb_)
    replace hC := Lib.hid (Kd.C_below hC.out hb_)
    replace HB := Lib.hid (HB.out.trans (Below.mono hb_ HB.out.size))
    clear hb_
    go_wp2_with fail
    refine (cashbooklaw06_alive.calls true _ HT.out alive6).mono ?_
    rintro e w6 ⟨rfl, hb_⟩
    try replace hb_ := Drawn0.below hb_
    replace HT := Lib.hid (BefAt.below HT.out hb_)
    replace hC := Lib.hid (Kd.C_below hC.out hb_)
    replace HB := Lib.hid (HB.out.trans (Below.mono hb_ HB.out.size))
    clear hb_
    go_wp2_with fail
    go_ret
    exact ⟨rfl, HB.out⟩

set_option maxHeartbeats 4000000 in
set_option maxRecDepth 100000 in
/-- Dates that may not be. -/
theorem counts_date (A0 : Option Addr) (c0 : Nat) (l0 : List S44) (a1 a2 a3 a4 : Int) (w : World) (hr0 : Kd.C k44 w A0 l0.length l0) (hc0 : l0.length ≤ c0) (hT : BefAt w)
    (hcal : calB (l0.take 70) = true) (hbad : dayB a1 = false ∨ (dayB a1 = true ∧ dayB a2 = false)) :
    Calls Tryd.prog 7 #[.slice A0 l0.length c0, .int .i32 a1, .int .i32 a2, .int .i32 a3, .int .i64 a4] w (CountsPost w) := by
  obtain ⟨t, ht⟩ : ∃ t, t = l0.take 70 := ⟨_, rfl⟩
  have hfew := cashbooklaw06_few.calls A0 c0 l0 t w hr0 hc0 (by rw [ht]; rfl)
  rw [← ht] at hcal
  have hm : t.length ≤ 1000 := by rw [ht, List.length_take]; omega
  clear ht hr0
  have HT := Lib.hid hT
  clear hT
  have hmay : ∀ ds, mayE t (a1 :: ds) = 11 ∨ (dayB a1 = true ∧ dayB a2 = false) := fun ds => by
    rcases hbad with h | h
    · left; unfold mayE; rw [hcal]; simp [h]
    · exact Or.inr h
  have hmay2 : mayE t [a1, a2] = 11 ∧ mayE t [a1, a2, a3] = 11 ∧ mayE t [a1, a3, a2, a3] = 11 := by
    unfold mayE; rw [hcal]
    rcases hbad with h | h <;> simp [h]
  have HA : Hid (∀ n, calendar_Add.f t a1 a2 n = some (0, 11)) := Lib.hid fun n => by unfold calendar_Add.f addRes; rw [if_pos hm, hmay2.1]; rfl
  have HB1 : Hid (calendar_Count.f t a1 a2 a3 = some (0, 11)) := by unfold calendar_Count.f countRes; rw [if_pos hm, hmay2.2.1]; exact Lib.hid rfl
  have HC : Hid (calendar_Changed.f t a1 a3 a2 a3 = some ([], 11)) := by unfold calendar_Changed.f chgRes; rw [if_pos hm, hmay2.2.2]; exact Lib.hid rfl
  obtain ⟨K, hK⟩ := (refRight_ev t hm).rounds
  rw [hcal] at hK
  replace hK := Lib.hid hK
  clear hmay hmay2
  replace hcal := Lib.hid hcal
  replace hm := Lib.hid hm
  have H1 : Hid (cashbookref04_Right.f a1 = some (dayB a1)) := Lib.hid (right_f a1)
  have H2 : Hid (cashbookref04_Right.f a2 = some (dayB a2)) := Lib.hid (right_f a2)
  rcases hbad with hd1 | ⟨hd1, hd2⟩
  · rw [hd1] at H1
    clear hd1
    rcases n_cases a4 with ⟨n1, n2⟩ | ⟨n1, n2⟩ | n1 | ⟨n1, n2⟩ | n1
    all_goals
      have HB := Lib.hid (Below.refl w.heap.size w)
      go_enter Tryd.func7, Tryd.ntmps7
      go_wp2_with fail
      refine (hfew).mono ?_
      rintro e w1 ⟨v, rfl, ⟨At, ct, rfl, hct, hC⟩, hb_⟩
      try replace hb_ := Drawn0.below hb_
      replace HT := Lib.hid (BefAt.below HT.out hb_)
      replace HB := Lib.hid (HB.out.trans (Below.mono hb_ HB.out.size))
      clear hb_
      clear hfew
      replace hC := Lib.hid hC
      go_wp2_with fail
      refine (calendar_Add.calls At ct t _ _ _ _ _ _ hC.out hct (HA.out _)).mono ?_
      rintro e w2 ⟨rfl, hb_⟩
      try replace hb_ := Drawn0.below hb_
      replace HT := Lib.hid (BefAt.below HT.out hb_)
      replace hC := Lib.hid (Kd.C_below hC.out hb_)
      replace HB := Lib.hid (HB.out.trans (Below.mono hb_ HB.out.size))
      clear hb_
      go_wp2_with fail
      refine (calendar_Count.calls At ct t _ _ _ _ _ _ hC.out hct HB1.out).mono ?_
      rintro e w3 ⟨rfl, hb_⟩
      try replace hb_ := Drawn0.below hb_
      replace HT := Lib.hid (BefAt.below HT.out hb_)
      replace hC := Lib.hid (Kd.C_below hC.out hb_)
      replace HB := Lib.hid (HB.out.trans (Below.mono hb_ HB.out.size))
      clear hb_
      go_wp2_with fail
      refine (calendar_Changed.calls At ct t _ _ _ _ _ _ _ hC.out hct HC.out).mono ?_
      rintro e w4 ⟨v4, rfl, hR4, hb_⟩
      try replace hb_ := Drawn0.below hb_
      replace HT := Lib.hid (BefAt.below HT.out hb_)
      replace hC := Lib.hid (Kd.C_below hC.out hb_)
      replace HB := Lib.hid (HB.out.trans (Below.mono hb_ HB.out.size))
      clear hb_
      obtain ⟨A4, c4, rfl⟩ := Kd.R_slice hR4
      replace hR4 := Lib.hid hR4
      go_wp2_with fail
      refine (cashbookref06_Right.calls K At ct t _ _ hC.out hct hK.out).mono ?_
      rintro e w5 ⟨rfl, hb_⟩
      try replace hb_ := Drawn0.below hb_
      replace HT := Lib.hid (BefAt.below HT.out hb_)
      replace hC := Lib.hid (Kd.C_below hC.out hb_)
      replace HB := Lib.hid (HB.out.trans (Below.mono hb_ HB.out.size))
      clear hb_
      go_wp2_with fail
      refine (cashbookref04_Right.calls _ _ _ H1.out).mono ?_
      rintro e w6 ⟨rfl, hb_⟩
      try replace hb_ := Drawn0.below hb_
      replace HT := Lib.hid (BefAt.below HT.out hb_)
      replace hC := Lib.hid (Kd.C_below hC.out hb_)
      replace HB := Lib.hid (HB.out.trans (Below.mono hb_ HB.out.size))
      clear hb_
      go_wp2_with fail
      refine (cashbooklaw06_alive.calls true _ HT.out alive6).mono ?_
      rintro e w7 ⟨rfl, hb_⟩
      try replace hb_ := Drawn0.below hb_
      replace HT := Lib.hid (BefAt.below HT.out hb_)
      replace hC := Lib.hid (Kd.C_below hC.out hb_)
      replace HB := Lib.hid (HB.out.trans (Below.mono hb_ HB.out.size))
      clear hb_
      go_wp2_with fail
      go_ret
      exact ⟨rfl, HB.out⟩
  · rw [hd1] at H1
    rw [hd2] at H2
    clear hd1 hd2
    rcases n_cases a4 with ⟨n1, n2⟩ | ⟨n1, n2⟩ | n1 | ⟨n1, n2⟩ | n1
    all_goals
      have HB := Lib.hid (Below.refl w.heap.size w)
      go_enter Tryd.func7, Tryd.ntmps7
      go_wp2_with fail
      refine (hfew).mono ?_
      rintro e w1 ⟨v, rfl, ⟨At, ct, rfl, hct, hC⟩, hb_⟩
      try replace hb_ := Drawn0.below hb_
      replace HT := Lib.hid (BefAt.below HT.out hb_)
      replace HB := Lib.hid (HB.out.trans (Below.mono hb_ HB.out.size))
      clear hb_
      clear hfew
      replace hC := Lib.hid hC
      go_wp2_with fail
      refine (calendar_Add.calls At ct t _ _ _ _ _ _ hC.out hct (HA.out _)).mono ?_
      rintro e w2 ⟨rfl, hb_⟩
      try replace hb_ := Drawn0.below hb_
      replace HT := Lib.hid (BefAt.below HT.out hb_)
      replace hC := Lib.hid (Kd.C_below hC.out hb_)
      replace HB := Lib.hid (HB.out.trans (Below.mono hb_ HB.out.size))
      clear hb_
      go_wp2_with fail
      refine (calendar_Count.calls At ct t _ _ _ _ _ _ hC.out hct HB1.out).mono ?_
      rintro e w3 ⟨rfl, hb_⟩
      try replace hb_ := Drawn0.below hb_
      replace HT := Lib.hid (BefAt.below HT.out hb_)
      replace hC := Lib.hid (Kd.C_below hC.out hb_)
      replace HB := Lib.hid (HB.out.trans (Below.mono hb_ HB.out.size))
      clear hb_
      go_wp2_with fail
      refine (calendar_Changed.calls At ct t _ _ _ _ _ _ _ hC.out hct HC.out).mono ?_
      rintro e w4 ⟨v4, rfl, hR4, hb_⟩
      try replace hb_ := Drawn0.below hb_
      replace HT := Lib.hid (BefAt.below HT.out hb_)
      replace hC := Lib.hid (Kd.C_below hC.out hb_)
      replace HB := Lib.hid (HB.out.trans (Below.mono hb_ HB.out.size))
      clear hb_
      obtain ⟨A4, c4, rfl⟩ := Kd.R_slice hR4
      replace hR4 := Lib.hid hR4
      go_wp2_with fail
      refine (cashbookref06_Right.calls K At ct t _ _ hC.out hct hK.out).mono ?_
      rintro e w5 ⟨rfl, hb_⟩
      try replace hb_ := Drawn0.below hb_
      replace HT := Lib.hid (BefAt.below HT.out hb_)
      replace hC := Lib.hid (Kd.C_below hC.out hb_)
      replace HB := Lib.hid (HB.out.trans (Below.mono hb_ HB.out.size))
      clear hb_
      go_wp2_with fail
      refine (cashbookref04_Right.calls _ _ _ H1.out).mono ?_
      rintro e w6 ⟨rfl, hb_⟩
      try replace hb_ := Drawn0.below hb_
      replace HT := Lib.hid (BefAt.below HT.out hb_)
      replace hC := Lib.hid (Kd.C_below hC.out hb_)
      replace HB := Lib.hid (HB.out.trans (Below.mono hb_ HB.out.size))
      clear hb_
      go_wp2_with fail
      refine (cashbookref04_Right.calls _ _ _ H2.out).mono ?_
      rintro e w7 ⟨rfl, hb_⟩
      try replace hb_ := Drawn0.below hb_
      replace HT := Lib.hid (BefAt.below HT.out hb_)
      replace hC := Lib.hid (Kd.C_below hC.out hb_)
      replace HB := Lib.hid (HB.out.trans (Below.mono hb_ HB.out.size))
      clear hb_
      go_wp2_with fail
      refine (cashbooklaw06_alive.calls true _ HT.out alive6).mono ?_
      rintro e w8 ⟨rfl, hb_⟩
      try replace hb_ := Drawn0.below hb_
      replace HT := Lib.hid (BefAt.below HT.out hb_)
      replace hC := Lib.hid (Kd.C_below hC.out hb_)
      replace HB := Lib.hid (HB.out.trans (Below.mono hb_ HB.out.size))
      clear hb_
      go_wp2_with fail
      go_ret
      exact ⟨rfl, HB.out⟩

set_option maxHeartbeats 8000000 in
set_option maxRecDepth 100000 in
/-- What is counted. -/
theorem counts_ok (A0 : Option Addr) (c0 : Nat) (l0 : List S44) (a1 a2 a3 a4 : Int) (w : World) (hr0 : Kd.C k44 w A0 l0.length l0) (hc0 : l0.length ≤ c0) (hT : BefAt w)
    (hcal : calB (l0.take 70) = true) (hd1 : dayB a1 = true) (hd2 : dayB a2 = true) :
    Calls Tryd.prog 7 #[.slice A0 l0.length c0, .int .i32 a1, .int .i32 a2, .int .i32 a3, .int .i64 a4] w (CountsPost w) := by
  obtain ⟨t, ht⟩ : ∃ t, t = l0.take 70 := ⟨_, rfl⟩
  have hfew := cashbooklaw06_few.calls A0 c0 l0 t w hr0 hc0 (by rw [ht]; rfl)
  rw [← ht] at hcal
  have hm : t.length ≤ 1000 := by rw [ht, List.length_take]; omega
  clear ht hr0
  have HT := Lib.hid hT
  clear hT
  have hmay2 : mayE t [a1, a2] = 0 := by unfold mayE; rw [hcal]; simp [hd1, hd2]
  have hr1 := (dayB_iff a1).1 hd1
  have hr2 := (dayB_iff a2).1 hd2
  have HAo : Hid (∀ n, n < -2000 ∨ 2000 < n → calendar_Add.f t a1 a2 n = some (0, 9)) := Lib.hid fun n hn => by unfold calendar_Add.f addRes; rw [if_pos hm, if_pos hmay2, if_pos hn]
  have HAi : Hid (∀ n, -2000 ≤ n → n ≤ 2000 → ∃ K, (∃ x, calendar_Add.f t a1 a2 n = some (x, 0) ∧ cashbookref06_Add.f K t a1 a2 n = some (x, true)) ∨ (calendar_Add.f t a1 a2 n = some (0, 11) ∧ cashbookref06_Add.f K t a1 a2 n = some (0, false))) := Lib.hid fun n n1 n2 => by
    obtain ⟨K, hK⟩ := (refAdd_ev t hm a1 a2 n hr2.1 hr2.2 n1 n2).rounds
    have hA : calendar_Add.f t a1 a2 n = some (optP (if n < 0 then addF (openB t a1) (-1) (-n).toNat a2 else addF (openB t a1) 1 n.toNat a2)) := by
      unfold calendar_Add.f addRes; rw [if_pos hm, if_pos hmay2, if_neg (by omega)]
    refine ⟨K, ?_⟩
    rw [hA, hK]
    cases (if n < 0 then addF (openB t a1) (-1) (-n).toNat a2 else addF (openB t a1) 1 n.toNat a2) with
    | none => exact Or.inr ⟨rfl, rfl⟩
    | some x => exact Or.inl ⟨x, rfl, rfl⟩
  obtain ⟨K, hK⟩ := (refRight_ev t hm).rounds
  rw [hcal] at hK
  replace hK := Lib.hid hK
  have H1 : Hid (cashbookref04_Right.f a1 = some true) := Lib.hid (by rw [right_f, hd1])
  have H2 : Hid (cashbookref04_Right.f a2 = some true) := Lib.hid (by rw [right_f, hd2])
  have hX : (dayB a3 = false ∧ ∃ b, b = 11 ∧ calendar_Count.f t a1 a2 a3 = some (0, b) ∧ calendar_Changed.f t a1 a3 a2 a3 = some ([], b)) ∨
      (dayB a3 = true ∧ farB a2 a3 = true ∧ ∃ b, b = 9 ∧ calendar_Count.f t a1 a2 a3 = some (0, b) ∧ calendar_Changed.f t a1 a3 a2 a3 = some ([], b)) ∨
      (dayB a3 = true ∧ farB a2 a3 = false ∧ ∃ x L K1, L.length ≤ 1000000 ∧ calendar_Count.f t a1 a2 a3 = some (x, 0) ∧ calendar_Changed.f t a1 a3 a2 a3 = some (L, 0) ∧ cashbookref06_Count.f K1 t a1 a2 a3 = some x ∧
        (∃ K2, cashbookref06_Changed.f K2 t a1 a3 a2 a3 = some L) ∧ ∃ K3, cashbookref06_Same.f K3 L L = some true) := by
    cases hd3 : dayB a3 with
    | false =>
      left
      have e1 : mayE t [a1, a2, a3] = 11 := by unfold mayE; rw [hcal]; simp [hd1, hd2, hd3]
      have e2 : mayE t [a1, a3, a2, a3] = 11 := by unfold mayE; rw [hcal]; simp [hd1, hd2, hd3]
      refine ⟨rfl, 11, rfl, ?_, ?_⟩
      · unfold calendar_Count.f countRes; rw [if_pos hm, e1]; rfl
      · unfold calendar_Changed.f chgRes; rw [if_pos hm, e2]; rfl
    | true =>
      right
      have e1 : mayE t [a1, a2, a3] = 0 := by unfold mayE; rw [hcal]; simp [hd1, hd2, hd3]
      have e2 : mayE t [a1, a3, a2, a3] = 0 := by unfold mayE; rw [hcal]; simp [hd1, hd2, hd3]
      have hr3 := (dayB_iff a3).1 hd3
      cases hf : farB a2 a3 with
      | true =>
        left
        refine ⟨rfl, rfl, 9, rfl, ?_, ?_⟩
        · unfold calendar_Count.f countRes; rw [if_pos hm, if_pos e1, hf]; rfl
        · unfold calendar_Changed.f chgRes; rw [if_pos hm, if_pos e2, hf]; rfl
      | false =>
        right
        obtain ⟨K1, h1⟩ := (refCount_ev t hm a1 a2 a3 hr2.1 hr2.2 hr3.2).rounds
        obtain ⟨K2, h2⟩ := (refChanged_ev t hm a1 a3 a2 a3 hr2.1 hr2.2 hr3.2).rounds
        have hlen := chgF_length (openB t a1) (openB t a3) (a3 - a2).toNat a2
        obtain ⟨K3, h3⟩ := (refSame_ev (chgF (openB t a1) (openB t a3) (a3 - a2).toNat a2) (by omega)).rounds
        refine ⟨rfl, rfl, _, _, K1, by omega, ?_, ?_, h1, ⟨K2, h2⟩, K3, h3⟩
        · unfold calendar_Count.f countRes; rw [if_pos hm, if_pos e1, hf]; rfl
        · unfold calendar_Changed.f chgRes; rw [if_pos hm, if_pos e2, hf]; rfl
  clear hmay2
  replace hcal := Lib.hid hcal
  replace hm := Lib.hid hm
  replace hd1 := Lib.hid hd1
  replace hd2 := Lib.hid hd2
  have H3 : Hid (cashbookref04_Right.f a3 = some (dayB a3)) := Lib.hid (right_f a3)
  have H4 : Hid (dayB a3 = true → cashbookref06_Far.f a2 a3 = some (farB a2 a3)) := Lib.hid fun h => by
    have hr3 := (dayB_iff a3).1 h
    unfold cashbookref06_Far.f farB
    rw [wrap32_s (by omega) (by omega), wrap32_s (by omega) (by omega)]
    by_cases h4 : a3 - a2 > 4000
    · rw [if_pos h4]; simp; omega
    · rw [if_neg h4]; simp; omega
  rcases n_cases a4 with ⟨n1, n2⟩ | ⟨n1, n2⟩ | n1 | ⟨n1, n2⟩ | n1
  · obtain ⟨KA, ⟨x, hAx, hAr⟩ | ⟨hAx, hAr⟩⟩ := HAi.out a4 (by omega) (by omega)
    all_goals
      replace hAx := Lib.hid hAx
      replace hAr := Lib.hid hAr
      rcases hX with ⟨hd3, b, hb9, hCx, hGx⟩ | ⟨hd3, hf3, b, hb9, hCx, hGx⟩ | ⟨hd3, hf3, k, L, K1, hL, hCx, hGx, hCr, ⟨K2, hGr⟩, K3, hSr⟩
      · replace hCx := Lib.hid hCx
        replace hGx := Lib.hid hGx
        subst hb9
        rw [hd3] at H3
        clear H4 hd3
        have HB := Lib.hid (Below.refl w.heap.size w)
        go_enter Tryd.func7, Tryd.ntmps7
        go_wp2_with fail
        refine (hfew).mono ?_
        rintro e w1 ⟨v, rfl, ⟨At, ct, rfl, hct, hC⟩, hb_⟩
        try replace hb_ := Drawn0.below hb_
        replace HT := Lib.hid (BefAt.below HT.out hb_)
        replace HB := Lib.hid (HB.out.trans (Below.mono hb_ HB.out.size))
        clear hb_
        clear hfew
        replace hC := Lib.hid hC
        go_wp2_with fail
        refine (calendar_Add.calls At ct t _ _ _ _ _ _ hC.out hct hAx.out).mono ?_
        rintro e w2 ⟨rfl, hb_⟩
        try replace hb_ := Drawn0.below hb_
        replace HT := Lib.hid (BefAt.below HT.out hb_)
        replace hC := Lib.hid (Kd.C_below hC.out hb_)
        replace HB := Lib.hid (HB.out.trans (Below.mono hb_ HB.out.size))
        clear hb_
        go_wp2_with fail
        refine (calendar_Count.calls At ct t _ _ _ _ _ _ hC.out hct hCx.out).mono ?_
        rintro e w3 ⟨rfl, hb_⟩
        try replace hb_ := Drawn0.below hb_
        replace HT := Lib.hid (BefAt.below HT.out hb_)
        replace hC := Lib.hid (Kd.C_below hC.out hb_)
        replace HB := Lib.hid (HB.out.trans (Below.mono hb_ HB.out.size))
        clear hb_
        go_wp2_with fail
        refine (calendar_Changed.calls At ct t _ _ _ _ _ _ _ hC.out hct hGx.out).mono ?_
        rintro e w4 ⟨v4, rfl, hR4, hb_⟩
        try replace hb_ := Drawn0.below hb_
        replace HT := Lib.hid (BefAt.below HT.out hb_)
        replace hC := Lib.hid (Kd.C_below hC.out hb_)
        replace HB := Lib.hid (HB.out.trans (Below.mono hb_ HB.out.size))
        clear hb_
        obtain ⟨A4, c4, rfl⟩ := Kd.R_slice hR4
        replace hR4 := Lib.hid hR4
        go_wp2_with fail
        refine (cashbookref06_Right.calls K At ct t _ _ hC.out hct hK.out).mono ?_
        rintro e w5 ⟨rfl, hb_⟩
        try replace hb_ := Drawn0.below hb_
        replace HT := Lib.hid (BefAt.below HT.out hb_)
        replace hC := Lib.hid (Kd.C_below hC.out hb_)
        replace hR4 := Lib.hid (Kd.R_below hR4.out hb_)
        replace HB := Lib.hid (HB.out.trans (Below.mono hb_ HB.out.size))
        clear hb_
        go_wp2_with fail
        refine (cashbookref04_Right.calls _ _ _ H1.out).mono ?_
        rintro e w6 ⟨rfl, hb_⟩
        try replace hb_ := Drawn0.below hb_
        replace HT := Lib.hid (BefAt.below HT.out hb_)
        replace hC := Lib.hid (Kd.C_below hC.out hb_)
        replace hR4 := Lib.hid (Kd.R_below hR4.out hb_)
        replace HB := Lib.hid (HB.out.trans (Below.mono hb_ HB.out.size))
        clear hb_
        go_wp2_with fail
        refine (cashbookref04_Right.calls _ _ _ H2.out).mono ?_
        rintro e w7 ⟨rfl, hb_⟩
        try replace hb_ := Drawn0.below hb_
        replace HT := Lib.hid (BefAt.below HT.out hb_)
        replace hC := Lib.hid (Kd.C_below hC.out hb_)
        replace hR4 := Lib.hid (Kd.R_below hR4.out hb_)
        replace HB := Lib.hid (HB.out.trans (Below.mono hb_ HB.out.size))
        clear hb_
        go_wp2_with fail
        refine (cashbookref06_Add.calls KA At ct t _ _ _ _ _ _ hC.out hct hAr.out).mono ?_
        rintro e w8 ⟨rfl, hb_⟩
        try replace hb_ := Drawn0.below hb_
        replace HT := Lib.hid (BefAt.below HT.out hb_)
        replace hC := Lib.hid (Kd.C_below hC.out hb_)
        replace hR4 := Lib.hid (Kd.R_below hR4.out hb_)
        replace HB := Lib.hid (HB.out.trans (Below.mono hb_ HB.out.size))
        clear hb_
        go_wp2_with fail
        refine (cashbookref04_Right.calls _ _ _ H3.out).mono ?_
        rintro e w9 ⟨rfl, hb_⟩
        try replace hb_ := Drawn0.below hb_
        replace HT := Lib.hid (BefAt.below HT.out hb_)
        replace hC := Lib.hid (Kd.C_below hC.out hb_)
        replace hR4 := Lib.hid (Kd.R_below hR4.out hb_)
        replace HB := Lib.hid (HB.out.trans (Below.mono hb_ HB.out.size))
        clear hb_
        go_wp2_with fail
        refine (cashbooklaw06_alive.calls true _ HT.out alive6).mono ?_
        rintro e w10 ⟨rfl, hb_⟩
        try replace hb_ := Drawn0.below hb_
        replace HT := Lib.hid (BefAt.below HT.out hb_)
        replace hC := Lib.hid (Kd.C_below hC.out hb_)
        replace hR4 := Lib.hid (Kd.R_below hR4.out hb_)
        replace HB := Lib.hid (HB.out.trans (Below.mono hb_ HB.out.size))
        clear hb_
        go_wp2_with fail
        go_ret
        exact ⟨rfl, HB.out⟩
      · replace hCx := Lib.hid hCx
        replace hGx := Lib.hid hGx
        subst hb9
        rw [hd3] at H3
        have H5 := Lib.hid (H4.out hd3)
        rw [hf3] at H5
        clear H4 hd3 hf3
        have HB := Lib.hid (Below.refl w.heap.size w)
        go_enter Tryd.func7, Tryd.ntmps7
        go_wp2_with fail
        refine (hfew).mono ?_
        rintro e w1 ⟨v, rfl, ⟨At, ct, rfl, hct, hC⟩, hb_⟩
        try replace hb_ := Drawn0.below hb_
        replace HT := Lib.hid (BefAt.below HT.out hb_)
        replace HB := Lib.hid (HB.out.trans (Below.mono hb_ HB.out.size))
        clear hb_
        clear hfew
        replace hC := Lib.hid hC
        go_wp2_with fail
        refine (calendar_Add.calls At ct t _ _ _ _ _ _ hC.out hct hAx.out).mono ?_
        rintro e w2 ⟨rfl, hb_⟩
        try replace hb_ := Drawn0.below hb_
        replace HT := Lib.hid (BefAt.below HT.out hb_)
        replace hC := Lib.hid (Kd.C_below hC.out hb_)
        replace HB := Lib.hid (HB.out.trans (Below.mono hb_ HB.out.size))
        clear hb_
        go_wp2_with fail
        refine (calendar_Count.calls At ct t _ _ _ _ _ _ hC.out hct hCx.out).mono ?_
        rintro e w3 ⟨rfl, hb_⟩
        try replace hb_ := Drawn0.below hb_
        replace HT := Lib.hid (BefAt.below HT.out hb_)
        replace hC := Lib.hid (Kd.C_below hC.out hb_)
        replace HB := Lib.hid (HB.out.trans (Below.mono hb_ HB.out.size))
        clear hb_
        go_wp2_with fail
        refine (calendar_Changed.calls At ct t _ _ _ _ _ _ _ hC.out hct hGx.out).mono ?_
        rintro e w4 ⟨v4, rfl, hR4, hb_⟩
        try replace hb_ := Drawn0.below hb_
        replace HT := Lib.hid (BefAt.below HT.out hb_)
        replace hC := Lib.hid (Kd.C_below hC.out hb_)
        replace HB := Lib.hid (HB.out.trans (Below.mono hb_ HB.out.size))
        clear hb_
        obtain ⟨A4, c4, rfl⟩ := Kd.R_slice hR4
        replace hR4 := Lib.hid hR4
        go_wp2_with fail
        refine (cashbookref06_Right.calls K At ct t _ _ hC.out hct hK.out).mono ?_
        rintro e w5 ⟨rfl, hb_⟩
        try replace hb_ := Drawn0.below hb_
        replace HT := Lib.hid (BefAt.below HT.out hb_)
        replace hC := Lib.hid (Kd.C_below hC.out hb_)
        replace hR4 := Lib.hid (Kd.R_below hR4.out hb_)
        replace HB := Lib.hid (HB.out.trans (Below.mono hb_ HB.out.size))
        clear hb_
        go_wp2_with fail
        refine (cashbookref04_Right.calls _ _ _ H1.out).mono ?_
        rintro e w6 ⟨rfl, hb_⟩
        try replace hb_ := Drawn0.below hb_
        replace HT := Lib.hid (BefAt.below HT.out hb_)
        replace hC := Lib.hid (Kd.C_below hC.out hb_)
        replace hR4 := Lib.hid (Kd.R_below hR4.out hb_)
        replace HB := Lib.hid (HB.out.trans (Below.mono hb_ HB.out.size))
        clear hb_
        go_wp2_with fail
        refine (cashbookref04_Right.calls _ _ _ H2.out).mono ?_
        rintro e w7 ⟨rfl, hb_⟩
        try replace hb_ := Drawn0.below hb_
        replace HT := Lib.hid (BefAt.below HT.out hb_)
        replace hC := Lib.hid (Kd.C_below hC.out hb_)
        replace hR4 := Lib.hid (Kd.R_below hR4.out hb_)
        replace HB := Lib.hid (HB.out.trans (Below.mono hb_ HB.out.size))
        clear hb_
        go_wp2_with fail
        refine (cashbookref06_Add.calls KA At ct t _ _ _ _ _ _ hC.out hct hAr.out).mono ?_
        rintro e w8 ⟨rfl, hb_⟩
        try replace hb_ := Drawn0.below hb_
        replace HT := Lib.hid (BefAt.below HT.out hb_)
        replace hC := Lib.hid (Kd.C_below hC.out hb_)
        replace hR4 := Lib.hid (Kd.R_below hR4.out hb_)
        replace HB := Lib.hid (HB.out.trans (Below.mono hb_ HB.out.size))
        clear hb_
        go_wp2_with fail
        refine (cashbookref04_Right.calls _ _ _ H3.out).mono ?_
        rintro e w9 ⟨rfl, hb_⟩
        try replace hb_ := Drawn0.below hb_
        replace HT := Lib.hid (BefAt.below HT.out hb_)
        replace hC := Lib.hid (Kd.C_below hC.out hb_)
        replace hR4 := Lib.hid (Kd.R_below hR4.out hb_)
        replace HB := Lib.hid (HB.out.trans (Below.mono hb_ HB.out.size))
        clear hb_
        go_wp2_with fail
        refine (cashbookref06_Far.calls _ _ _ _ H5.out).mono ?_
        rintro e w10 ⟨rfl, hb_⟩
        try replace hb_ := Drawn0.below hb_
        replace HT := Lib.hid (BefAt.below HT.out hb_)
        replace hC := Lib.hid (Kd.C_below hC.out hb_)
        replace hR4 := Lib.hid (Kd.R_below hR4.out hb_)
        replace HB := Lib.hid (HB.out.trans (Below.mono hb_ HB.out.size))
        clear hb_
        go_wp2_with fail
        refine (cashbooklaw06_alive.calls true _ HT.out alive6).mono ?_
        rintro e w11 ⟨rfl, hb_⟩
        try replace hb_ := Drawn0.below hb_
        replace HT := Lib.hid (BefAt.below HT.out hb_)
        replace hC := Lib.hid (Kd.C_below hC.out hb_)
        replace hR4 := Lib.hid (Kd.R_below hR4.out hb_)
        replace HB := Lib.hid (HB.out.trans (Below.mono hb_ HB.out.size))
        clear hb_
        go_wp2_with fail
        go_ret
        exact ⟨rfl, HB.out⟩
      · replace hCx := Lib.hid hCx
        replace hGx := Lib.hid hGx
        replace hCr := Lib.hid hCr
        replace hGr := Lib.hid hGr
        replace hSr := Lib.hid hSr
        rw [hd3] at H3
        have H5 := Lib.hid (H4.out hd3)
        rw [hf3] at H5
        clear H4 hd3 hf3
        have HB := Lib.hid (Below.refl w.heap.size w)
        go_enter Tryd.func7, Tryd.ntmps7
        go_wp2_with fail
        refine (hfew).mono ?_
        rintro e w1 ⟨v, rfl, ⟨At, ct, rfl, hct, hC⟩, hb_⟩
        try replace hb_ := Drawn0.below hb_
        replace HT := Lib.hid (BefAt.below HT.out hb_)
        replace HB := Lib.hid (HB.out.trans (Below.mono hb_ HB.out.size))
        clear hb_
        clear hfew
        replace hC := Lib.hid hC
        go_wp2_with fail
        refine (calendar_Add.calls At ct t _ _ _ _ _ _ hC.out hct hAx.out).mono ?_
        rintro e w2 ⟨rfl, hb_⟩
        try replace hb_ := Drawn0.below hb_
        replace HT := Lib.hid (BefAt.below HT.out hb_)
        replace hC := Lib.hid (Kd.C_below hC.out hb_)
        replace HB := Lib.hid (HB.out.trans (Below.mono hb_ HB.out.size))
        clear hb_
        go_wp2_with fail
        refine (calendar_Count.calls At ct t _ _ _ _ _ _ hC.out hct hCx.out).mono ?_
        rintro e w3 ⟨rfl, hb_⟩
        try replace hb_ := Drawn0.below hb_
        replace HT := Lib.hid (BefAt.below HT.out hb_)
        replace hC := Lib.hid (Kd.C_below hC.out hb_)
        replace HB := Lib.hid (HB.out.trans (Below.mono hb_ HB.out.size))
        clear hb_
        go_wp2_with fail
        refine (calendar_Changed.calls At ct t _ _ _ _ _ _ _ hC.out hct hGx.out).mono ?_
        rintro e w4 ⟨v4, rfl, hR4, hb_⟩
        try replace hb_ := Drawn0.below hb_
        replace HT := Lib.hid (BefAt.below HT.out hb_)
        replace hC := Lib.hid (Kd.C_below hC.out hb_)
        replace HB := Lib.hid (HB.out.trans (Below.mono hb_ HB.out.size))
        clear hb_
        obtain ⟨A4, c4, rfl⟩ := Kd.R_slice hR4
        replace hR4 := Lib.hid hR4
        go_wp2_with fail
        refine (cashbookref06_Right.calls K At ct t _ _ hC.out hct hK.out).mono ?_
        rintro e w5 ⟨rfl, hb_⟩
        try replace hb_ := Drawn0.below hb_
        replace HT := Lib.hid (BefAt.below HT.out hb_)
        replace hC := Lib.hid (Kd.C_below hC.out hb_)
        replace hR4 := Lib.hid (Kd.R_below hR4.out hb_)
        replace HB := Lib.hid (HB.out.trans (Below.mono hb_ HB.out.size))
        clear hb_
        go_wp2_with fail
        refine (cashbookref04_Right.calls _ _ _ H1.out).mono ?_
        rintro e w6 ⟨rfl, hb_⟩
        try replace hb_ := Drawn0.below hb_
        replace HT := Lib.hid (BefAt.below HT.out hb_)
        replace hC := Lib.hid (Kd.C_below hC.out hb_)
        replace hR4 := Lib.hid (Kd.R_below hR4.out hb_)
        replace HB := Lib.hid (HB.out.trans (Below.mono hb_ HB.out.size))
        clear hb_
        go_wp2_with fail
        refine (cashbookref04_Right.calls _ _ _ H2.out).mono ?_
        rintro e w7 ⟨rfl, hb_⟩
        try replace hb_ := Drawn0.below hb_
        replace HT := Lib.hid (BefAt.below HT.out hb_)
        replace hC := Lib.hid (Kd.C_below hC.out hb_)
        replace hR4 := Lib.hid (Kd.R_below hR4.out hb_)
        replace HB := Lib.hid (HB.out.trans (Below.mono hb_ HB.out.size))
        clear hb_
        go_wp2_with fail
        refine (cashbookref06_Add.calls KA At ct t _ _ _ _ _ _ hC.out hct hAr.out).mono ?_
        rintro e w8 ⟨rfl, hb_⟩
        try replace hb_ := Drawn0.below hb_
        replace HT := Lib.hid (BefAt.below HT.out hb_)
        replace hC := Lib.hid (Kd.C_below hC.out hb_)
        replace hR4 := Lib.hid (Kd.R_below hR4.out hb_)
        replace HB := Lib.hid (HB.out.trans (Below.mono hb_ HB.out.size))
        clear hb_
        go_wp2_with fail
        refine (cashbookref04_Right.calls _ _ _ H3.out).mono ?_
        rintro e w9 ⟨rfl, hb_⟩
        try replace hb_ := Drawn0.below hb_
        replace HT := Lib.hid (BefAt.below HT.out hb_)
        replace hC := Lib.hid (Kd.C_below hC.out hb_)
        replace hR4 := Lib.hid (Kd.R_below hR4.out hb_)
        replace HB := Lib.hid (HB.out.trans (Below.mono hb_ HB.out.size))
        clear hb_
        go_wp2_with fail
        refine (cashbookref06_Far.calls _ _ _ _ H5.out).mono ?_
        rintro e w10 ⟨rfl, hb_⟩
        try replace hb_ := Drawn0.below hb_
        replace HT := Lib.hid (BefAt.below HT.out hb_)
        replace hC := Lib.hid (Kd.C_below hC.out hb_)
        replace hR4 := Lib.hid (Kd.R_below hR4.out hb_)
        replace HB := Lib.hid (HB.out.trans (Below.mono hb_ HB.out.size))
        clear hb_
        go_wp2_with fail
        refine (cashbooklaw06_alive.calls true _ HT.out alive6).mono ?_
        rintro e w11 ⟨rfl, hb_⟩
        try replace hb_ := Drawn0.below hb_
        replace HT := Lib.hid (BefAt.below HT.out hb_)
        replace hC := Lib.hid (Kd.C_below hC.out hb_)
        replace hR4 := Lib.hid (Kd.R_below hR4.out hb_)
        replace HB := Lib.hid (HB.out.trans (Below.mono hb_ HB.out.size))
        clear hb_
        go_wp2_with fail
        refine (cashbookref06_Count.calls K1 At ct t _ _ _ _ _ hC.out hct hCr.out).mono ?_
        rintro e w12 ⟨rfl, hb_⟩
        try replace hb_ := Drawn0.below hb_
        replace HT := Lib.hid (BefAt.below HT.out hb_)
        replace hC := Lib.hid (Kd.C_below hC.out hb_)
        replace hR4 := Lib.hid (Kd.R_below hR4.out hb_)
        replace HB := Lib.hid (HB.out.trans (Below.mono hb_ HB.out.size))
        clear hb_
        go_wp2_with fail
        refine (cashbookref06_Changed.calls K2 At ct t _ _ _ _ _ _ hC.out hct hGr.out).mono ?_
        rintro e w13 ⟨v5, rfl, hR5, hb_⟩
        try replace hb_ := Drawn0.below hb_
        replace HT := Lib.hid (BefAt.below HT.out hb_)
        replace hC := Lib.hid (Kd.C_below hC.out hb_)
        replace hR4 := Lib.hid (Kd.R_below hR4.out hb_)
        replace HB := Lib.hid (HB.out.trans (Below.mono hb_ HB.out.size))
        clear hb_
        obtain ⟨A5, c5, rfl⟩ := Kd.R_slice hR5
        obtain ⟨-, hc4, hC4⟩ := Kd.R_reads' hR4.out
        obtain ⟨-, hc5, hC5⟩ := Kd.R_reads' hR5
        replace hR5 := Lib.hid hR5
        replace hC4 := Lib.hid hC4
        replace hC5 := Lib.hid hC5
        go_wp2_with fail
        refine (cashbookref06_Same.calls K3 A4 c4 L A5 c5 L _ _ hC4.out hc4 hC5.out hc5 hSr.out).mono ?_
        rintro e w14 ⟨rfl, hb_⟩
        try replace hb_ := Drawn0.below hb_
        replace HT := Lib.hid (BefAt.below HT.out hb_)
        replace hC := Lib.hid (Kd.C_below hC.out hb_)
        replace hR4 := Lib.hid (Kd.R_below hR4.out hb_)
        replace HB := Lib.hid (HB.out.trans (Below.mono hb_ HB.out.size))
        clear hb_
        go_wp2_with fail
        go_ret
        exact ⟨rfl, HB.out⟩
  · have e : a4.tmod 300 = a4 % 300 := Int.tmod_eq_emod_of_nonneg (by omega)
    have m1 : 0 ≤ a4 % 300 := by omega
    have m2 : a4 % 300 < 300 := by omega
    obtain ⟨KA, ⟨x, hAx, hAr⟩ | ⟨hAx, hAr⟩⟩ := HAi.out (a4 % 300) (by omega) (by omega)
    all_goals clear e
    all_goals
      replace hAx := Lib.hid hAx
      replace hAr := Lib.hid hAr
      rcases hX with ⟨hd3, b, hb9, hCx, hGx⟩ | ⟨hd3, hf3, b, hb9, hCx, hGx⟩ | ⟨hd3, hf3, k, L, K1, hL, hCx, hGx, hCr, ⟨K2, hGr⟩, K3, hSr⟩
      · replace hCx := Lib.hid hCx
        replace hGx := Lib.hid hGx
        subst hb9
        rw [hd3] at H3
        clear H4 hd3
        have HB := Lib.hid (Below.refl w.heap.size w)
        go_enter Tryd.func7, Tryd.ntmps7
        go_wp2_with fail
        refine (hfew).mono ?_
        rintro e w1 ⟨v, rfl, ⟨At, ct, rfl, hct, hC⟩, hb_⟩
        try replace hb_ := Drawn0.below hb_
        replace HT := Lib.hid (BefAt.below HT.out hb_)
        replace HB := Lib.hid (HB.out.trans (Below.mono hb_ HB.out.size))
        clear hb_
        clear hfew
        replace hC := Lib.hid hC
        go_wp2_with fail
        refine (calendar_Add.calls At ct t _ _ _ _ _ _ hC.out hct hAx.out).mono ?_
        rintro e w2 ⟨rfl, hb_⟩
        try replace hb_ := Drawn0.below hb_
        replace HT := Lib.hid (BefAt.below HT.out hb_)
        replace hC := Lib.hid (Kd.C_below hC.out hb_)
        replace HB := Lib.hid (HB.out.trans (Below.mono hb_ HB.out.size))
        clear hb_
        go_wp2_with fail
        refine (calendar_Count.calls At ct t _ _ _ _ _ _ hC.out hct hCx.out).mono ?_
        rintro e w3 ⟨rfl, hb_⟩
        try replace hb_ := Drawn0.below hb_
        replace HT := Lib.hid (BefAt.below HT.out hb_)
        replace hC := Lib.hid (Kd.C_below hC.out hb_)
        replace HB := Lib.hid (HB.out.trans (Below.mono hb_ HB.out.size))
        clear hb_
        go_wp2_with fail
        refine (calendar_Changed.calls At ct t _ _ _ _ _ _ _ hC.out hct hGx.out).mono ?_
        rintro e w4 ⟨v4, rfl, hR4, hb_⟩
        try replace hb_ := Drawn0.below hb_
        replace HT := Lib.hid (BefAt.below HT.out hb_)
        replace hC := Lib.hid (Kd.C_below hC.out hb_)
        replace HB := Lib.hid (HB.out.trans (Below.mono hb_ HB.out.size))
        clear hb_
        obtain ⟨A4, c4, rfl⟩ := Kd.R_slice hR4
        replace hR4 := Lib.hid hR4
        go_wp2_with fail
        refine (cashbookref06_Right.calls K At ct t _ _ hC.out hct hK.out).mono ?_
        rintro e w5 ⟨rfl, hb_⟩
        try replace hb_ := Drawn0.below hb_
        replace HT := Lib.hid (BefAt.below HT.out hb_)
        replace hC := Lib.hid (Kd.C_below hC.out hb_)
        replace hR4 := Lib.hid (Kd.R_below hR4.out hb_)
        replace HB := Lib.hid (HB.out.trans (Below.mono hb_ HB.out.size))
        clear hb_
        go_wp2_with fail
        refine (cashbookref04_Right.calls _ _ _ H1.out).mono ?_
        rintro e w6 ⟨rfl, hb_⟩
        try replace hb_ := Drawn0.below hb_
        replace HT := Lib.hid (BefAt.below HT.out hb_)
        replace hC := Lib.hid (Kd.C_below hC.out hb_)
        replace hR4 := Lib.hid (Kd.R_below hR4.out hb_)
        replace HB := Lib.hid (HB.out.trans (Below.mono hb_ HB.out.size))
        clear hb_
        go_wp2_with fail
        refine (cashbookref04_Right.calls _ _ _ H2.out).mono ?_
        rintro e w7 ⟨rfl, hb_⟩
        try replace hb_ := Drawn0.below hb_
        replace HT := Lib.hid (BefAt.below HT.out hb_)
        replace hC := Lib.hid (Kd.C_below hC.out hb_)
        replace hR4 := Lib.hid (Kd.R_below hR4.out hb_)
        replace HB := Lib.hid (HB.out.trans (Below.mono hb_ HB.out.size))
        clear hb_
        go_wp2_with fail
        refine (cashbookref06_Add.calls KA At ct t _ _ _ _ _ _ hC.out hct hAr.out).mono ?_
        rintro e w8 ⟨rfl, hb_⟩
        try replace hb_ := Drawn0.below hb_
        replace HT := Lib.hid (BefAt.below HT.out hb_)
        replace hC := Lib.hid (Kd.C_below hC.out hb_)
        replace hR4 := Lib.hid (Kd.R_below hR4.out hb_)
        replace HB := Lib.hid (HB.out.trans (Below.mono hb_ HB.out.size))
        clear hb_
        go_wp2_with fail
        refine (cashbookref04_Right.calls _ _ _ H3.out).mono ?_
        rintro e w9 ⟨rfl, hb_⟩
        try replace hb_ := Drawn0.below hb_
        replace HT := Lib.hid (BefAt.below HT.out hb_)
        replace hC := Lib.hid (Kd.C_below hC.out hb_)
        replace hR4 := Lib.hid (Kd.R_below hR4.out hb_)
        replace HB := Lib.hid (HB.out.trans (Below.mono hb_ HB.out.size))
        clear hb_
        go_wp2_with fail
        refine (cashbooklaw06_alive.calls true _ HT.out alive6).mono ?_
        rintro e w10 ⟨rfl, hb_⟩
        try replace hb_ := Drawn0.below hb_
        replace HT := Lib.hid (BefAt.below HT.out hb_)
        replace hC := Lib.hid (Kd.C_below hC.out hb_)
        replace hR4 := Lib.hid (Kd.R_below hR4.out hb_)
        replace HB := Lib.hid (HB.out.trans (Below.mono hb_ HB.out.size))
        clear hb_
        go_wp2_with fail
        go_ret
        exact ⟨rfl, HB.out⟩
      · replace hCx := Lib.hid hCx
        replace hGx := Lib.hid hGx
        subst hb9
        rw [hd3] at H3
        have H5 := Lib.hid (H4.out hd3)
        rw [hf3] at H5
        clear H4 hd3 hf3
        have HB := Lib.hid (Below.refl w.heap.size w)
        go_enter Tryd.func7, Tryd.ntmps7
        go_wp2_with fail
        refine (hfew).mono ?_
        rintro e w1 ⟨v, rfl, ⟨At, ct, rfl, hct, hC⟩, hb_⟩
        try replace hb_ := Drawn0.below hb_
        replace HT := Lib.hid (BefAt.below HT.out hb_)
        replace HB := Lib.hid (HB.out.trans (Below.mono hb_ HB.out.size))
        clear hb_
        clear hfew
        replace hC := Lib.hid hC
        go_wp2_with fail
        refine (calendar_Add.calls At ct t _ _ _ _ _ _ hC.out hct hAx.out).mono ?_
        rintro e w2 ⟨rfl, hb_⟩
        try replace hb_ := Drawn0.below hb_
        replace HT := Lib.hid (BefAt.below HT.out hb_)
        replace hC := Lib.hid (Kd.C_below hC.out hb_)
        replace HB := Lib.hid (HB.out.trans (Below.mono hb_ HB.out.size))
        clear hb_
        go_wp2_with fail
        refine (calendar_Count.calls At ct t _ _ _ _ _ _ hC.out hct hCx.out).mono ?_
        rintro e w3 ⟨rfl, hb_⟩
        try replace hb_ := Drawn0.below hb_
        replace HT := Lib.hid (BefAt.below HT.out hb_)
        replace hC := Lib.hid (Kd.C_below hC.out hb_)
        replace HB := Lib.hid (HB.out.trans (Below.mono hb_ HB.out.size))
        clear hb_
        go_wp2_with fail
        refine (calendar_Changed.calls At ct t _ _ _ _ _ _ _ hC.out hct hGx.out).mono ?_
        rintro e w4 ⟨v4, rfl, hR4, hb_⟩
        try replace hb_ := Drawn0.below hb_
        replace HT := Lib.hid (BefAt.below HT.out hb_)
        replace hC := Lib.hid (Kd.C_below hC.out hb_)
        replace HB := Lib.hid (HB.out.trans (Below.mono hb_ HB.out.size))
        clear hb_
        obtain ⟨A4, c4, rfl⟩ := Kd.R_slice hR4
        replace hR4 := Lib.hid hR4
        go_wp2_with fail
        refine (cashbookref06_Right.calls K At ct t _ _ hC.out hct hK.out).mono ?_
        rintro e w5 ⟨rfl, hb_⟩
        try replace hb_ := Drawn0.below hb_
        replace HT := Lib.hid (BefAt.below HT.out hb_)
        replace hC := Lib.hid (Kd.C_below hC.out hb_)
        replace hR4 := Lib.hid (Kd.R_below hR4.out hb_)
        replace HB := Lib.hid (HB.out.trans (Below.mono hb_ HB.out.size))
        clear hb_
        go_wp2_with fail
        refine (cashbookref04_Right.calls _ _ _ H1.out).mono ?_
        rintro e w6 ⟨rfl, hb_⟩
        try replace hb_ := Drawn0.below hb_
        replace HT := Lib.hid (BefAt.below HT.out hb_)
        replace hC := Lib.hid (Kd.C_below hC.out hb_)
        replace hR4 := Lib.hid (Kd.R_below hR4.out hb_)
        replace HB := Lib.hid (HB.out.trans (Below.mono hb_ HB.out.size))
        clear hb_
        go_wp2_with fail
        refine (cashbookref04_Right.calls _ _ _ H2.out).mono ?_
        rintro e w7 ⟨rfl, hb_⟩
        try replace hb_ := Drawn0.below hb_
        replace HT := Lib.hid (BefAt.below HT.out hb_)
        replace hC := Lib.hid (Kd.C_below hC.out hb_)
        replace hR4 := Lib.hid (Kd.R_below hR4.out hb_)
        replace HB := Lib.hid (HB.out.trans (Below.mono hb_ HB.out.size))
        clear hb_
        go_wp2_with fail
        refine (cashbookref06_Add.calls KA At ct t _ _ _ _ _ _ hC.out hct hAr.out).mono ?_
        rintro e w8 ⟨rfl, hb_⟩
        try replace hb_ := Drawn0.below hb_
        replace HT := Lib.hid (BefAt.below HT.out hb_)
        replace hC := Lib.hid (Kd.C_below hC.out hb_)
        replace hR4 := Lib.hid (Kd.R_below hR4.out hb_)
        replace HB := Lib.hid (HB.out.trans (Below.mono hb_ HB.out.size))
        clear hb_
        go_wp2_with fail
        refine (cashbookref04_Right.calls _ _ _ H3.out).mono ?_
        rintro e w9 ⟨rfl, hb_⟩
        try replace hb_ := Drawn0.below hb_
        replace HT := Lib.hid (BefAt.below HT.out hb_)
        replace hC := Lib.hid (Kd.C_below hC.out hb_)
        replace hR4 := Lib.hid (Kd.R_below hR4.out hb_)
        replace HB := Lib.hid (HB.out.trans (Below.mono hb_ HB.out.size))
        clear hb_
        go_wp2_with fail
        refine (cashbookref06_Far.calls _ _ _ _ H5.out).mono ?_
        rintro e w10 ⟨rfl, hb_⟩
        try replace hb_ := Drawn0.below hb_
        replace HT := Lib.hid (BefAt.below HT.out hb_)
        replace hC := Lib.hid (Kd.C_below hC.out hb_)
        replace hR4 := Lib.hid (Kd.R_below hR4.out hb_)
        replace HB := Lib.hid (HB.out.trans (Below.mono hb_ HB.out.size))
        clear hb_
        go_wp2_with fail
        refine (cashbooklaw06_alive.calls true _ HT.out alive6).mono ?_
        rintro e w11 ⟨rfl, hb_⟩
        try replace hb_ := Drawn0.below hb_
        replace HT := Lib.hid (BefAt.below HT.out hb_)
        replace hC := Lib.hid (Kd.C_below hC.out hb_)
        replace hR4 := Lib.hid (Kd.R_below hR4.out hb_)
        replace HB := Lib.hid (HB.out.trans (Below.mono hb_ HB.out.size))
        clear hb_
        go_wp2_with fail
        go_ret
        exact ⟨rfl, HB.out⟩
      · replace hCx := Lib.hid hCx
        replace hGx := Lib.hid hGx
        replace hCr := Lib.hid hCr
        replace hGr := Lib.hid hGr
        replace hSr := Lib.hid hSr
        rw [hd3] at H3
        have H5 := Lib.hid (H4.out hd3)
        rw [hf3] at H5
        clear H4 hd3 hf3
        have HB := Lib.hid (Below.refl w.heap.size w)
        go_enter Tryd.func7, Tryd.ntmps7
        go_wp2_with fail
        refine (hfew).mono ?_
        rintro e w1 ⟨v, rfl, ⟨At, ct, rfl, hct, hC⟩, hb_⟩
        try replace hb_ := Drawn0.below hb_
        replace HT := Lib.hid (BefAt.below HT.out hb_)
        replace HB := Lib.hid (HB.out.trans (Below.mono hb_ HB.out.size))
        clear hb_
        clear hfew
        replace hC := Lib.hid hC
        go_wp2_with fail
        refine (calendar_Add.calls At ct t _ _ _ _ _ _ hC.out hct hAx.out).mono ?_
        rintro e w2 ⟨rfl, hb_⟩
        try replace hb_ := Drawn0.below hb_
        replace HT := Lib.hid (BefAt.below HT.out hb_)
        replace hC := Lib.hid (Kd.C_below hC.out hb_)
        replace HB := Lib.hid (HB.out.trans (Below.mono hb_ HB.out.size))
        clear hb_
        go_wp2_with fail
        refine (calendar_Count.calls At ct t _ _ _ _ _ _ hC.out hct hCx.out).mono ?_
        rintro e w3 ⟨rfl, hb_⟩
        try replace hb_ := Drawn0.below hb_
        replace HT := Lib.hid (BefAt.below HT.out hb_)
        replace hC := Lib.hid (Kd.C_below hC.out hb_)
        replace HB := Lib.hid (HB.out.trans (Below.mono hb_ HB.out.size))
        clear hb_
        go_wp2_with fail
        refine (calendar_Changed.calls At ct t _ _ _ _ _ _ _ hC.out hct hGx.out).mono ?_
        rintro e w4 ⟨v4, rfl, hR4, hb_⟩
        try replace hb_ := Drawn0.below hb_
        replace HT := Lib.hid (BefAt.below HT.out hb_)
        replace hC := Lib.hid (Kd.C_below hC.out hb_)
        replace HB := Lib.hid (HB.out.trans (Below.mono hb_ HB.out.size))
        clear hb_
        obtain ⟨A4, c4, rfl⟩ := Kd.R_slice hR4
        replace hR4 := Lib.hid hR4
        go_wp2_with fail
        refine (cashbookref06_Right.calls K At ct t _ _ hC.out hct hK.out).mono ?_
        rintro e w5 ⟨rfl, hb_⟩
        try replace hb_ := Drawn0.below hb_
        replace HT := Lib.hid (BefAt.below HT.out hb_)
        replace hC := Lib.hid (Kd.C_below hC.out hb_)
        replace hR4 := Lib.hid (Kd.R_below hR4.out hb_)
        replace HB := Lib.hid (HB.out.trans (Below.mono hb_ HB.out.size))
        clear hb_
        go_wp2_with fail
        refine (cashbookref04_Right.calls _ _ _ H1.out).mono ?_
        rintro e w6 ⟨rfl, hb_⟩
        try replace hb_ := Drawn0.below hb_
        replace HT := Lib.hid (BefAt.below HT.out hb_)
        replace hC := Lib.hid (Kd.C_below hC.out hb_)
        replace hR4 := Lib.hid (Kd.R_below hR4.out hb_)
        replace HB := Lib.hid (HB.out.trans (Below.mono hb_ HB.out.size))
        clear hb_
        go_wp2_with fail
        refine (cashbookref04_Right.calls _ _ _ H2.out).mono ?_
        rintro e w7 ⟨rfl, hb_⟩
        try replace hb_ := Drawn0.below hb_
        replace HT := Lib.hid (BefAt.below HT.out hb_)
        replace hC := Lib.hid (Kd.C_below hC.out hb_)
        replace hR4 := Lib.hid (Kd.R_below hR4.out hb_)
        replace HB := Lib.hid (HB.out.trans (Below.mono hb_ HB.out.size))
        clear hb_
        go_wp2_with fail
        refine (cashbookref06_Add.calls KA At ct t _ _ _ _ _ _ hC.out hct hAr.out).mono ?_
        rintro e w8 ⟨rfl, hb_⟩
        try replace hb_ := Drawn0.below hb_
        replace HT := Lib.hid (BefAt.below HT.out hb_)
        replace hC := Lib.hid (Kd.C_below hC.out hb_)
        replace hR4 := Lib.hid (Kd.R_below hR4.out hb_)
        replace HB := Lib.hid (HB.out.trans (Below.mono hb_ HB.out.size))
        clear hb_
        go_wp2_with fail
        refine (cashbookref04_Right.calls _ _ _ H3.out).mono ?_
        rintro e w9 ⟨rfl, hb_⟩
        try replace hb_ := Drawn0.below hb_
        replace HT := Lib.hid (BefAt.below HT.out hb_)
        replace hC := Lib.hid (Kd.C_below hC.out hb_)
        replace hR4 := Lib.hid (Kd.R_below hR4.out hb_)
        replace HB := Lib.hid (HB.out.trans (Below.mono hb_ HB.out.size))
        clear hb_
        go_wp2_with fail
        refine (cashbookref06_Far.calls _ _ _ _ H5.out).mono ?_
        rintro e w10 ⟨rfl, hb_⟩
        try replace hb_ := Drawn0.below hb_
        replace HT := Lib.hid (BefAt.below HT.out hb_)
        replace hC := Lib.hid (Kd.C_below hC.out hb_)
        replace hR4 := Lib.hid (Kd.R_below hR4.out hb_)
        replace HB := Lib.hid (HB.out.trans (Below.mono hb_ HB.out.size))
        clear hb_
        go_wp2_with fail
        refine (cashbooklaw06_alive.calls true _ HT.out alive6).mono ?_
        rintro e w11 ⟨rfl, hb_⟩
        try replace hb_ := Drawn0.below hb_
        replace HT := Lib.hid (BefAt.below HT.out hb_)
        replace hC := Lib.hid (Kd.C_below hC.out hb_)
        replace hR4 := Lib.hid (Kd.R_below hR4.out hb_)
        replace HB := Lib.hid (HB.out.trans (Below.mono hb_ HB.out.size))
        clear hb_
        go_wp2_with fail
        refine (cashbookref06_Count.calls K1 At ct t _ _ _ _ _ hC.out hct hCr.out).mono ?_
        rintro e w12 ⟨rfl, hb_⟩
        try replace hb_ := Drawn0.below hb_
        replace HT := Lib.hid (BefAt.below HT.out hb_)
        replace hC := Lib.hid (Kd.C_below hC.out hb_)
        replace hR4 := Lib.hid (Kd.R_below hR4.out hb_)
        replace HB := Lib.hid (HB.out.trans (Below.mono hb_ HB.out.size))
        clear hb_
        go_wp2_with fail
        refine (cashbookref06_Changed.calls K2 At ct t _ _ _ _ _ _ hC.out hct hGr.out).mono ?_
        rintro e w13 ⟨v5, rfl, hR5, hb_⟩
        try replace hb_ := Drawn0.below hb_
        replace HT := Lib.hid (BefAt.below HT.out hb_)
        replace hC := Lib.hid (Kd.C_below hC.out hb_)
        replace hR4 := Lib.hid (Kd.R_below hR4.out hb_)
        replace HB := Lib.hid (HB.out.trans (Below.mono hb_ HB.out.size))
        clear hb_
        obtain ⟨A5, c5, rfl⟩ := Kd.R_slice hR5
        obtain ⟨-, hc4, hC4⟩ := Kd.R_reads' hR4.out
        obtain ⟨-, hc5, hC5⟩ := Kd.R_reads' hR5
        replace hR5 := Lib.hid hR5
        replace hC4 := Lib.hid hC4
        replace hC5 := Lib.hid hC5
        go_wp2_with fail
        refine (cashbookref06_Same.calls K3 A4 c4 L A5 c5 L _ _ hC4.out hc4 hC5.out hc5 hSr.out).mono ?_
        rintro e w14 ⟨rfl, hb_⟩
        try replace hb_ := Drawn0.below hb_
        replace HT := Lib.hid (BefAt.below HT.out hb_)
        replace hC := Lib.hid (Kd.C_below hC.out hb_)
        replace hR4 := Lib.hid (Kd.R_below hR4.out hb_)
        replace HB := Lib.hid (HB.out.trans (Below.mono hb_ HB.out.size))
        clear hb_
        go_wp2_with fail
        go_ret
        exact ⟨rfl, HB.out⟩
  · skip
    have hAx := Lib.hid (HAo.out a4 (by omega))
    rcases hX with ⟨hd3, b, hb9, hCx, hGx⟩ | ⟨hd3, hf3, b, hb9, hCx, hGx⟩ | ⟨hd3, hf3, k, L, K1, hL, hCx, hGx, hCr, ⟨K2, hGr⟩, K3, hSr⟩
    · replace hCx := Lib.hid hCx
      replace hGx := Lib.hid hGx
      subst hb9
      rw [hd3] at H3
      clear H4 hd3
      have HB := Lib.hid (Below.refl w.heap.size w)
      go_enter Tryd.func7, Tryd.ntmps7
      go_wp2_with fail
      refine (hfew).mono ?_
      rintro e w1 ⟨v, rfl, ⟨At, ct, rfl, hct, hC⟩, hb_⟩
      try replace hb_ := Drawn0.below hb_
      replace HT := Lib.hid (BefAt.below HT.out hb_)
      replace HB := Lib.hid (HB.out.trans (Below.mono hb_ HB.out.size))
      clear hb_
      clear hfew
      replace hC := Lib.hid hC
      go_wp2_with fail
      refine (calendar_Add.calls At ct t _ _ _ _ _ _ hC.out hct hAx.out).mono ?_
      rintro e w2 ⟨rfl, hb_⟩
      try replace hb_ := Drawn0.below hb_
      replace HT := Lib.hid (BefAt.below HT.out hb_)
      replace hC := Lib.hid (Kd.C_below hC.out hb_)
      replace HB := Lib.hid (HB.out.trans (Below.mono hb_ HB.out.size))
      clear hb_
      go_wp2_with fail
      refine (calendar_Count.calls At ct t _ _ _ _ _ _ hC.out hct hCx.out).mono ?_
      rintro e w3 ⟨rfl, hb_⟩
      try replace hb_ := Drawn0.below hb_
      replace HT := Lib.hid (BefAt.below HT.out hb_)
      replace hC := Lib.hid (Kd.C_below hC.out hb_)
      replace HB := Lib.hid (HB.out.trans (Below.mono hb_ HB.out.size))
      clear hb_
      go_wp2_with fail
      refine (calendar_Changed.calls At ct t _ _ _ _ _ _ _ hC.out hct hGx.out).mono ?_
      rintro e w4 ⟨v4, rfl, hR4, hb_⟩
      try replace hb_ := Drawn0.below hb_
      replace HT := Lib.hid (BefAt.below HT.out hb_)
      replace hC := Lib.hid (Kd.C_below hC.out hb_)
      replace HB := Lib.hid (HB.out.trans (Below.mono hb_ HB.out.size))
      clear hb_
      obtain ⟨A4, c4, rfl⟩ := Kd.R_slice hR4
      replace hR4 := Lib.hid hR4
      go_wp2_with fail
      refine (cashbookref06_Right.calls K At ct t _ _ hC.out hct hK.out).mono ?_
      rintro e w5 ⟨rfl, hb_⟩
      try replace hb_ := Drawn0.below hb_
      replace HT := Lib.hid (BefAt.below HT.out hb_)
      replace hC := Lib.hid (Kd.C_below hC.out hb_)
      replace hR4 := Lib.hid (Kd.R_below hR4.out hb_)
      replace HB := Lib.hid (HB.out.trans (Below.mono hb_ HB.out.size))
      clear hb_
      go_wp2_with fail
      refine (cashbookref04_Right.calls _ _ _ H1.out).mono ?_
      rintro e w6 ⟨rfl, hb_⟩
      try replace hb_ := Drawn0.below hb_
      replace HT := Lib.hid (BefAt.below HT.out hb_)
      replace hC := Lib.hid (Kd.C_below hC.out hb_)
      replace hR4 := Lib.hid (Kd.R_below hR4.out hb_)
      replace HB := Lib.hid (HB.out.trans (Below.mono hb_ HB.out.size))
      clear hb_
      go_wp2_with fail
      refine (cashbookref04_Right.calls _ _ _ H2.out).mono ?_
      rintro e w7 ⟨rfl, hb_⟩
      try replace hb_ := Drawn0.below hb_
      replace HT := Lib.hid (BefAt.below HT.out hb_)
      replace hC := Lib.hid (Kd.C_below hC.out hb_)
      replace hR4 := Lib.hid (Kd.R_below hR4.out hb_)
      replace HB := Lib.hid (HB.out.trans (Below.mono hb_ HB.out.size))
      clear hb_
      go_wp2_with fail
      refine (cashbookref04_Right.calls _ _ _ H3.out).mono ?_
      rintro e w8 ⟨rfl, hb_⟩
      try replace hb_ := Drawn0.below hb_
      replace HT := Lib.hid (BefAt.below HT.out hb_)
      replace hC := Lib.hid (Kd.C_below hC.out hb_)
      replace hR4 := Lib.hid (Kd.R_below hR4.out hb_)
      replace HB := Lib.hid (HB.out.trans (Below.mono hb_ HB.out.size))
      clear hb_
      go_wp2_with fail
      refine (cashbooklaw06_alive.calls true _ HT.out alive6).mono ?_
      rintro e w9 ⟨rfl, hb_⟩
      try replace hb_ := Drawn0.below hb_
      replace HT := Lib.hid (BefAt.below HT.out hb_)
      replace hC := Lib.hid (Kd.C_below hC.out hb_)
      replace hR4 := Lib.hid (Kd.R_below hR4.out hb_)
      replace HB := Lib.hid (HB.out.trans (Below.mono hb_ HB.out.size))
      clear hb_
      go_wp2_with fail
      go_ret
      exact ⟨rfl, HB.out⟩
    · replace hCx := Lib.hid hCx
      replace hGx := Lib.hid hGx
      subst hb9
      rw [hd3] at H3
      have H5 := Lib.hid (H4.out hd3)
      rw [hf3] at H5
      clear H4 hd3 hf3
      have HB := Lib.hid (Below.refl w.heap.size w)
      go_enter Tryd.func7, Tryd.ntmps7
      go_wp2_with fail
      refine (hfew).mono ?_
      rintro e w1 ⟨v, rfl, ⟨At, ct, rfl, hct, hC⟩, hb_⟩
      try replace hb_ := Drawn0.below hb_
      replace HT := Lib.hid (BefAt.below HT.out hb_)
      replace HB := Lib.hid (HB.out.trans (Below.mono hb_ HB.out.size))
      clear hb_
      clear hfew
      replace hC := Lib.hid hC
      go_wp2_with fail
      refine (calendar_Add.calls At ct t _ _ _ _ _ _ hC.out hct hAx.out).mono ?_
      rintro e w2 ⟨rfl, hb_⟩
      try replace hb_ := Drawn0.below hb_
      replace HT := Lib.hid (BefAt.below HT.out hb_)
      replace hC := Lib.hid (Kd.C_below hC.out hb_)
      replace HB := Lib.hid (HB.out.trans (Below.mono hb_ HB.out.size))
      clear hb_
      go_wp2_with fail
      refine (calendar_Count.calls At ct t _ _ _ _ _ _ hC.out hct hCx.out).mono ?_
      rintro e w3 ⟨rfl, hb_⟩
      try replace hb_ := Drawn0.below hb_
      replace HT := Lib.hid (BefAt.below HT.out hb_)
      replace hC := Lib.hid (Kd.C_below hC.out hb_)
      replace HB := Lib.hid (HB.out.trans (Below.mono hb_ HB.out.size))
      clear hb_
      go_wp2_with fail
      refine (calendar_Changed.calls At ct t _ _ _ _ _ _ _ hC.out hct hGx.out).mono ?_
      rintro e w4 ⟨v4, rfl, hR4, hb_⟩
      try replace hb_ := Drawn0.below hb_
      replace HT := Lib.hid (BefAt.below HT.out hb_)
      replace hC := Lib.hid (Kd.C_below hC.out hb_)
      replace HB := Lib.hid (HB.out.trans (Below.mono hb_ HB.out.size))
      clear hb_
      obtain ⟨A4, c4, rfl⟩ := Kd.R_slice hR4
      replace hR4 := Lib.hid hR4
      go_wp2_with fail
      refine (cashbookref06_Right.calls K At ct t _ _ hC.out hct hK.out).mono ?_
      rintro e w5 ⟨rfl, hb_⟩
      try replace hb_ := Drawn0.below hb_
      replace HT := Lib.hid (BefAt.below HT.out hb_)
      replace hC := Lib.hid (Kd.C_below hC.out hb_)
      replace hR4 := Lib.hid (Kd.R_below hR4.out hb_)
      replace HB := Lib.hid (HB.out.trans (Below.mono hb_ HB.out.size))
      clear hb_
      go_wp2_with fail
      refine (cashbookref04_Right.calls _ _ _ H1.out).mono ?_
      rintro e w6 ⟨rfl, hb_⟩
      try replace hb_ := Drawn0.below hb_
      replace HT := Lib.hid (BefAt.below HT.out hb_)
      replace hC := Lib.hid (Kd.C_below hC.out hb_)
      replace hR4 := Lib.hid (Kd.R_below hR4.out hb_)
      replace HB := Lib.hid (HB.out.trans (Below.mono hb_ HB.out.size))
      clear hb_
      go_wp2_with fail
      refine (cashbookref04_Right.calls _ _ _ H2.out).mono ?_
      rintro e w7 ⟨rfl, hb_⟩
      try replace hb_ := Drawn0.below hb_
      replace HT := Lib.hid (BefAt.below HT.out hb_)
      replace hC := Lib.hid (Kd.C_below hC.out hb_)
      replace hR4 := Lib.hid (Kd.R_below hR4.out hb_)
      replace HB := Lib.hid (HB.out.trans (Below.mono hb_ HB.out.size))
      clear hb_
      go_wp2_with fail
      refine (cashbookref04_Right.calls _ _ _ H3.out).mono ?_
      rintro e w8 ⟨rfl, hb_⟩
      try replace hb_ := Drawn0.below hb_
      replace HT := Lib.hid (BefAt.below HT.out hb_)
      replace hC := Lib.hid (Kd.C_below hC.out hb_)
      replace hR4 := Lib.hid (Kd.R_below hR4.out hb_)
      replace HB := Lib.hid (HB.out.trans (Below.mono hb_ HB.out.size))
      clear hb_
      go_wp2_with fail
      refine (cashbookref06_Far.calls _ _ _ _ H5.out).mono ?_
      rintro e w9 ⟨rfl, hb_⟩
      try replace hb_ := Drawn0.below hb_
      replace HT := Lib.hid (BefAt.below HT.out hb_)
      replace hC := Lib.hid (Kd.C_below hC.out hb_)
      replace hR4 := Lib.hid (Kd.R_below hR4.out hb_)
      replace HB := Lib.hid (HB.out.trans (Below.mono hb_ HB.out.size))
      clear hb_
      go_wp2_with fail
      refine (cashbooklaw06_alive.calls true _ HT.out alive6).mono ?_
      rintro e w10 ⟨rfl, hb_⟩
      try replace hb_ := Drawn0.below hb_
      replace HT := Lib.hid (BefAt.below HT.out hb_)
      replace hC := Lib.hid (Kd.C_below hC.out hb_)
      replace hR4 := Lib.hid (Kd.R_below hR4.out hb_)
      replace HB := Lib.hid (HB.out.trans (Below.mono hb_ HB.out.size))
      clear hb_
      go_wp2_with fail
      go_ret
      exact ⟨rfl, HB.out⟩
    · replace hCx := Lib.hid hCx
      replace hGx := Lib.hid hGx
      replace hCr := Lib.hid hCr
      replace hGr := Lib.hid hGr
      replace hSr := Lib.hid hSr
      rw [hd3] at H3
      have H5 := Lib.hid (H4.out hd3)
      rw [hf3] at H5
      clear H4 hd3 hf3
      have HB := Lib.hid (Below.refl w.heap.size w)
      go_enter Tryd.func7, Tryd.ntmps7
      go_wp2_with fail
      refine (hfew).mono ?_
      rintro e w1 ⟨v, rfl, ⟨At, ct, rfl, hct, hC⟩, hb_⟩
      try replace hb_ := Drawn0.below hb_
      replace HT := Lib.hid (BefAt.below HT.out hb_)
      replace HB := Lib.hid (HB.out.trans (Below.mono hb_ HB.out.size))
      clear hb_
      clear hfew
      replace hC := Lib.hid hC
      go_wp2_with fail
      refine (calendar_Add.calls At ct t _ _ _ _ _ _ hC.out hct hAx.out).mono ?_
      rintro e w2 ⟨rfl, hb_⟩
      try replace hb_ := Drawn0.below hb_
      replace HT := Lib.hid (BefAt.below HT.out hb_)
      replace hC := Lib.hid (Kd.C_below hC.out hb_)
      replace HB := Lib.hid (HB.out.trans (Below.mono hb_ HB.out.size))
      clear hb_
      go_wp2_with fail
      refine (calendar_Count.calls At ct t _ _ _ _ _ _ hC.out hct hCx.out).mono ?_
      rintro e w3 ⟨rfl, hb_⟩
      try replace hb_ := Drawn0.below hb_
      replace HT := Lib.hid (BefAt.below HT.out hb_)
      replace hC := Lib.hid (Kd.C_below hC.out hb_)
      replace HB := Lib.hid (HB.out.trans (Below.mono hb_ HB.out.size))
      clear hb_
      go_wp2_with fail
      refine (calendar_Changed.calls At ct t _ _ _ _ _ _ _ hC.out hct hGx.out).mono ?_
      rintro e w4 ⟨v4, rfl, hR4, hb_⟩
      try replace hb_ := Drawn0.below hb_
      replace HT := Lib.hid (BefAt.below HT.out hb_)
      replace hC := Lib.hid (Kd.C_below hC.out hb_)
      replace HB := Lib.hid (HB.out.trans (Below.mono hb_ HB.out.size))
      clear hb_
      obtain ⟨A4, c4, rfl⟩ := Kd.R_slice hR4
      replace hR4 := Lib.hid hR4
      go_wp2_with fail
      refine (cashbookref06_Right.calls K At ct t _ _ hC.out hct hK.out).mono ?_
      rintro e w5 ⟨rfl, hb_⟩
      try replace hb_ := Drawn0.below hb_
      replace HT := Lib.hid (BefAt.below HT.out hb_)
      replace hC := Lib.hid (Kd.C_below hC.out hb_)
      replace hR4 := Lib.hid (Kd.R_below hR4.out hb_)
      replace HB := Lib.hid (HB.out.trans (Below.mono hb_ HB.out.size))
      clear hb_
      go_wp2_with fail
      refine (cashbookref04_Right.calls _ _ _ H1.out).mono ?_
      rintro e w6 ⟨rfl, hb_⟩
      try replace hb_ := Drawn0.below hb_
      replace HT := Lib.hid (BefAt.below HT.out hb_)
      replace hC := Lib.hid (Kd.C_below hC.out hb_)
      replace hR4 := Lib.hid (Kd.R_below hR4.out hb_)
      replace HB := Lib.hid (HB.out.trans (Below.mono hb_ HB.out.size))
      clear hb_
      go_wp2_with fail
      refine (cashbookref04_Right.calls _ _ _ H2.out).mono ?_
      rintro e w7 ⟨rfl, hb_⟩
      try replace hb_ := Drawn0.below hb_
      replace HT := Lib.hid (BefAt.below HT.out hb_)
      replace hC := Lib.hid (Kd.C_below hC.out hb_)
      replace hR4 := Lib.hid (Kd.R_below hR4.out hb_)
      replace HB := Lib.hid (HB.out.trans (Below.mono hb_ HB.out.size))
      clear hb_
      go_wp2_with fail
      refine (cashbookref04_Right.calls _ _ _ H3.out).mono ?_
      rintro e w8 ⟨rfl, hb_⟩
      try replace hb_ := Drawn0.below hb_
      replace HT := Lib.hid (BefAt.below HT.out hb_)
      replace hC := Lib.hid (Kd.C_below hC.out hb_)
      replace hR4 := Lib.hid (Kd.R_below hR4.out hb_)
      replace HB := Lib.hid (HB.out.trans (Below.mono hb_ HB.out.size))
      clear hb_
      go_wp2_with fail
      refine (cashbookref06_Far.calls _ _ _ _ H5.out).mono ?_
      rintro e w9 ⟨rfl, hb_⟩
      try replace hb_ := Drawn0.below hb_
      replace HT := Lib.hid (BefAt.below HT.out hb_)
      replace hC := Lib.hid (Kd.C_below hC.out hb_)
      replace hR4 := Lib.hid (Kd.R_below hR4.out hb_)
      replace HB := Lib.hid (HB.out.trans (Below.mono hb_ HB.out.size))
      clear hb_
      go_wp2_with fail
      refine (cashbooklaw06_alive.calls true _ HT.out alive6).mono ?_
      rintro e w10 ⟨rfl, hb_⟩
      try replace hb_ := Drawn0.below hb_
      replace HT := Lib.hid (BefAt.below HT.out hb_)
      replace hC := Lib.hid (Kd.C_below hC.out hb_)
      replace hR4 := Lib.hid (Kd.R_below hR4.out hb_)
      replace HB := Lib.hid (HB.out.trans (Below.mono hb_ HB.out.size))
      clear hb_
      go_wp2_with fail
      refine (cashbookref06_Count.calls K1 At ct t _ _ _ _ _ hC.out hct hCr.out).mono ?_
      rintro e w11 ⟨rfl, hb_⟩
      try replace hb_ := Drawn0.below hb_
      replace HT := Lib.hid (BefAt.below HT.out hb_)
      replace hC := Lib.hid (Kd.C_below hC.out hb_)
      replace hR4 := Lib.hid (Kd.R_below hR4.out hb_)
      replace HB := Lib.hid (HB.out.trans (Below.mono hb_ HB.out.size))
      clear hb_
      go_wp2_with fail
      refine (cashbookref06_Changed.calls K2 At ct t _ _ _ _ _ _ hC.out hct hGr.out).mono ?_
      rintro e w12 ⟨v5, rfl, hR5, hb_⟩
      try replace hb_ := Drawn0.below hb_
      replace HT := Lib.hid (BefAt.below HT.out hb_)
      replace hC := Lib.hid (Kd.C_below hC.out hb_)
      replace hR4 := Lib.hid (Kd.R_below hR4.out hb_)
      replace HB := Lib.hid (HB.out.trans (Below.mono hb_ HB.out.size))
      clear hb_
      obtain ⟨A5, c5, rfl⟩ := Kd.R_slice hR5
      obtain ⟨-, hc4, hC4⟩ := Kd.R_reads' hR4.out
      obtain ⟨-, hc5, hC5⟩ := Kd.R_reads' hR5
      replace hR5 := Lib.hid hR5
      replace hC4 := Lib.hid hC4
      replace hC5 := Lib.hid hC5
      go_wp2_with fail
      refine (cashbookref06_Same.calls K3 A4 c4 L A5 c5 L _ _ hC4.out hc4 hC5.out hc5 hSr.out).mono ?_
      rintro e w13 ⟨rfl, hb_⟩
      try replace hb_ := Drawn0.below hb_
      replace HT := Lib.hid (BefAt.below HT.out hb_)
      replace hC := Lib.hid (Kd.C_below hC.out hb_)
      replace hR4 := Lib.hid (Kd.R_below hR4.out hb_)
      replace HB := Lib.hid (HB.out.trans (Below.mono hb_ HB.out.size))
      clear hb_
      go_wp2_with fail
      go_ret
      exact ⟨rfl, HB.out⟩
  · have e := tmod_s a4 300
    have m1 : -300 < a4.tmod 300 := by rw [e, if_neg (by omega)]; omega
    have m2 : a4.tmod 300 ≤ 0 := by rw [e, if_neg (by omega)]; omega
    obtain ⟨KA, ⟨x, hAx, hAr⟩ | ⟨hAx, hAr⟩⟩ := HAi.out (a4.tmod 300) (by omega) (by omega)
    all_goals clear e
    all_goals
      replace hAx := Lib.hid hAx
      replace hAr := Lib.hid hAr
      rcases hX with ⟨hd3, b, hb9, hCx, hGx⟩ | ⟨hd3, hf3, b, hb9, hCx, hGx⟩ | ⟨hd3, hf3, k, L, K1, hL, hCx, hGx, hCr, ⟨K2, hGr⟩, K3, hSr⟩
      · replace hCx := Lib.hid hCx
        replace hGx := Lib.hid hGx
        subst hb9
        rw [hd3] at H3
        clear H4 hd3
        have HB := Lib.hid (Below.refl w.heap.size w)
        go_enter Tryd.func7, Tryd.ntmps7
        go_wp2_with fail
        refine (hfew).mono ?_
        rintro e w1 ⟨v, rfl, ⟨At, ct, rfl, hct, hC⟩, hb_⟩
        try replace hb_ := Drawn0.below hb_
        replace HT := Lib.hid (BefAt.below HT.out hb_)
        replace HB := Lib.hid (HB.out.trans (Below.mono hb_ HB.out.size))
        clear hb_
        clear hfew
        replace hC := Lib.hid hC
        go_wp2_with fail
        refine (calendar_Add.calls At ct t _ _ _ _ _ _ hC.out hct hAx.out).mono ?_
        rintro e w2 ⟨rfl, hb_⟩
        try replace hb_ := Drawn0.below hb_
        replace HT := Lib.hid (BefAt.below HT.out hb_)
        replace hC := Lib.hid (Kd.C_below hC.out hb_)
        replace HB := Lib.hid (HB.out.trans (Below.mono hb_ HB.out.size))
        clear hb_
        go_wp2_with fail
        refine (calendar_Count.calls At ct t _ _ _ _ _ _ hC.out hct hCx.out).mono ?_
        rintro e w3 ⟨rfl, hb_⟩
        try replace hb_ := Drawn0.below hb_
        replace HT := Lib.hid (BefAt.below HT.out hb_)
        replace hC := Lib.hid (Kd.C_below hC.out hb_)
        replace HB := Lib.hid (HB.out.trans (Below.mono hb_ HB.out.size))
        clear hb_
        go_wp2_with fail
        refine (calendar_Changed.calls At ct t _ _ _ _ _ _ _ hC.out hct hGx.out).mono ?_
        rintro e w4 ⟨v4, rfl, hR4, hb_⟩
        try replace hb_ := Drawn0.below hb_
        replace HT := Lib.hid (BefAt.below HT.out hb_)
        replace hC := Lib.hid (Kd.C_below hC.out hb_)
        replace HB := Lib.hid (HB.out.trans (Below.mono hb_ HB.out.size))
        clear hb_
        obtain ⟨A4, c4, rfl⟩ := Kd.R_slice hR4
        replace hR4 := Lib.hid hR4
        go_wp2_with fail
        refine (cashbookref06_Right.calls K At ct t _ _ hC.out hct hK.out).mono ?_
        rintro e w5 ⟨rfl, hb_⟩
        try replace hb_ := Drawn0.below hb_
        replace HT := Lib.hid (BefAt.below HT.out hb_)
        replace hC := Lib.hid (Kd.C_below hC.out hb_)
        replace hR4 := Lib.hid (Kd.R_below hR4.out hb_)
        replace HB := Lib.hid (HB.out.trans (Below.mono hb_ HB.out.size))
        clear hb_
        go_wp2_with fail
        refine (cashbookref04_Right.calls _ _ _ H1.out).mono ?_
        rintro e w6 ⟨rfl, hb_⟩
        try replace hb_ := Drawn0.below hb_
        replace HT := Lib.hid (BefAt.below HT.out hb_)
        replace hC := Lib.hid (Kd.C_below hC.out hb_)
        replace hR4 := Lib.hid (Kd.R_below hR4.out hb_)
        replace HB := Lib.hid (HB.out.trans (Below.mono hb_ HB.out.size))
        clear hb_
        go_wp2_with fail
        refine (cashbookref04_Right.calls _ _ _ H2.out).mono ?_
        rintro e w7 ⟨rfl, hb_⟩
        try replace hb_ := Drawn0.below hb_
        replace HT := Lib.hid (BefAt.below HT.out hb_)
        replace hC := Lib.hid (Kd.C_below hC.out hb_)
        replace hR4 := Lib.hid (Kd.R_below hR4.out hb_)
        replace HB := Lib.hid (HB.out.trans (Below.mono hb_ HB.out.size))
        clear hb_
        go_wp2_with fail
        refine (cashbookref06_Add.calls KA At ct t _ _ _ _ _ _ hC.out hct hAr.out).mono ?_
        rintro e w8 ⟨rfl, hb_⟩
        try replace hb_ := Drawn0.below hb_
        replace HT := Lib.hid (BefAt.below HT.out hb_)
        replace hC := Lib.hid (Kd.C_below hC.out hb_)
        replace hR4 := Lib.hid (Kd.R_below hR4.out hb_)
        replace HB := Lib.hid (HB.out.trans (Below.mono hb_ HB.out.size))
        clear hb_
        go_wp2_with fail
        refine (cashbookref04_Right.calls _ _ _ H3.out).mono ?_
        rintro e w9 ⟨rfl, hb_⟩
        try replace hb_ := Drawn0.below hb_
        replace HT := Lib.hid (BefAt.below HT.out hb_)
        replace hC := Lib.hid (Kd.C_below hC.out hb_)
        replace hR4 := Lib.hid (Kd.R_below hR4.out hb_)
        replace HB := Lib.hid (HB.out.trans (Below.mono hb_ HB.out.size))
        clear hb_
        go_wp2_with fail
        refine (cashbooklaw06_alive.calls true _ HT.out alive6).mono ?_
        rintro e w10 ⟨rfl, hb_⟩
        try replace hb_ := Drawn0.below hb_
        replace HT := Lib.hid (BefAt.below HT.out hb_)
        replace hC := Lib.hid (Kd.C_below hC.out hb_)
        replace hR4 := Lib.hid (Kd.R_below hR4.out hb_)
        replace HB := Lib.hid (HB.out.trans (Below.mono hb_ HB.out.size))
        clear hb_
        go_wp2_with fail
        go_ret
        exact ⟨rfl, HB.out⟩
      · replace hCx := Lib.hid hCx
        replace hGx := Lib.hid hGx
        subst hb9
        rw [hd3] at H3
        have H5 := Lib.hid (H4.out hd3)
        rw [hf3] at H5
        clear H4 hd3 hf3
        have HB := Lib.hid (Below.refl w.heap.size w)
        go_enter Tryd.func7, Tryd.ntmps7
        go_wp2_with fail
        refine (hfew).mono ?_
        rintro e w1 ⟨v, rfl, ⟨At, ct, rfl, hct, hC⟩, hb_⟩
        try replace hb_ := Drawn0.below hb_
        replace HT := Lib.hid (BefAt.below HT.out hb_)
        replace HB := Lib.hid (HB.out.trans (Below.mono hb_ HB.out.size))
        clear hb_
        clear hfew
        replace hC := Lib.hid hC
        go_wp2_with fail
        refine (calendar_Add.calls At ct t _ _ _ _ _ _ hC.out hct hAx.out).mono ?_
        rintro e w2 ⟨rfl, hb_⟩
        try replace hb_ := Drawn0.below hb_
        replace HT := Lib.hid (BefAt.below HT.out hb_)
        replace hC := Lib.hid (Kd.C_below hC.out hb_)
        replace HB := Lib.hid (HB.out.trans (Below.mono hb_ HB.out.size))
        clear hb_
        go_wp2_with fail
        refine (calendar_Count.calls At ct t _ _ _ _ _ _ hC.out hct hCx.out).mono ?_
        rintro e w3 ⟨rfl, hb_⟩
        try replace hb_ := Drawn0.below hb_
        replace HT := Lib.hid (BefAt.below HT.out hb_)
        replace hC := Lib.hid (Kd.C_below hC.out hb_)
        replace HB := Lib.hid (HB.out.trans (Below.mono hb_ HB.out.size))
        clear hb_
        go_wp2_with fail
        refine (calendar_Changed.calls At ct t _ _ _ _ _ _ _ hC.out hct hGx.out).mono ?_
        rintro e w4 ⟨v4, rfl, hR4, hb_⟩
        try replace hb_ := Drawn0.below hb_
        replace HT := Lib.hid (BefAt.below HT.out hb_)
        replace hC := Lib.hid (Kd.C_below hC.out hb_)
        replace HB := Lib.hid (HB.out.trans (Below.mono hb_ HB.out.size))
        clear hb_
        obtain ⟨A4, c4, rfl⟩ := Kd.R_slice hR4
        replace hR4 := Lib.hid hR4
        go_wp2_with fail
        refine (cashbookref06_Right.calls K At ct t _ _ hC.out hct hK.out).mono ?_
        rintro e w5 ⟨rfl, hb_⟩
        try replace hb_ := Drawn0.below hb_
        replace HT := Lib.hid (BefAt.below HT.out hb_)
        replace hC := Lib.hid (Kd.C_below hC.out hb_)
        replace hR4 := Lib.hid (Kd.R_below hR4.out hb_)
        replace HB := Lib.hid (HB.out.trans (Below.mono hb_ HB.out.size))
        clear hb_
        go_wp2_with fail
        refine (cashbookref04_Right.calls _ _ _ H1.out).mono ?_
        rintro e w6 ⟨rfl, hb_⟩
        try replace hb_ := Drawn0.below hb_
        replace HT := Lib.hid (BefAt.below HT.out hb_)
        replace hC := Lib.hid (Kd.C_below hC.out hb_)
        replace hR4 := Lib.hid (Kd.R_below hR4.out hb_)
        replace HB := Lib.hid (HB.out.trans (Below.mono hb_ HB.out.size))
        clear hb_
        go_wp2_with fail
        refine (cashbookref04_Right.calls _ _ _ H2.out).mono ?_
        rintro e w7 ⟨rfl, hb_⟩
        try replace hb_ := Drawn0.below hb_
        replace HT := Lib.hid (BefAt.below HT.out hb_)
        replace hC := Lib.hid (Kd.C_below hC.out hb_)
        replace hR4 := Lib.hid (Kd.R_below hR4.out hb_)
        replace HB := Lib.hid (HB.out.trans (Below.mono hb_ HB.out.size))
        clear hb_
        go_wp2_with fail
        refine (cashbookref06_Add.calls KA At ct t _ _ _ _ _ _ hC.out hct hAr.out).mono ?_
        rintro e w8 ⟨rfl, hb_⟩
        try replace hb_ := Drawn0.below hb_
        replace HT := Lib.hid (BefAt.below HT.out hb_)
        replace hC := Lib.hid (Kd.C_below hC.out hb_)
        replace hR4 := Lib.hid (Kd.R_below hR4.out hb_)
        replace HB := Lib.hid (HB.out.trans (Below.mono hb_ HB.out.size))
        clear hb_
        go_wp2_with fail
        refine (cashbookref04_Right.calls _ _ _ H3.out).mono ?_
        rintro e w9 ⟨rfl, hb_⟩
        try replace hb_ := Drawn0.below hb_
        replace HT := Lib.hid (BefAt.below HT.out hb_)
        replace hC := Lib.hid (Kd.C_below hC.out hb_)
        replace hR4 := Lib.hid (Kd.R_below hR4.out hb_)
        replace HB := Lib.hid (HB.out.trans (Below.mono hb_ HB.out.size))
        clear hb_
        go_wp2_with fail
        refine (cashbookref06_Far.calls _ _ _ _ H5.out).mono ?_
        rintro e w10 ⟨rfl, hb_⟩
        try replace hb_ := Drawn0.below hb_
        replace HT := Lib.hid (BefAt.below HT.out hb_)
        replace hC := Lib.hid (Kd.C_below hC.out hb_)
        replace hR4 := Lib.hid (Kd.R_below hR4.out hb_)
        replace HB := Lib.hid (HB.out.trans (Below.mono hb_ HB.out.size))
        clear hb_
        go_wp2_with fail
        refine (cashbooklaw06_alive.calls true _ HT.out alive6).mono ?_
        rintro e w11 ⟨rfl, hb_⟩
        try replace hb_ := Drawn0.below hb_
        replace HT := Lib.hid (BefAt.below HT.out hb_)
        replace hC := Lib.hid (Kd.C_below hC.out hb_)
        replace hR4 := Lib.hid (Kd.R_below hR4.out hb_)
        replace HB := Lib.hid (HB.out.trans (Below.mono hb_ HB.out.size))
        clear hb_
        go_wp2_with fail
        go_ret
        exact ⟨rfl, HB.out⟩
      · replace hCx := Lib.hid hCx
        replace hGx := Lib.hid hGx
        replace hCr := Lib.hid hCr
        replace hGr := Lib.hid hGr
        replace hSr := Lib.hid hSr
        rw [hd3] at H3
        have H5 := Lib.hid (H4.out hd3)
        rw [hf3] at H5
        clear H4 hd3 hf3
        have HB := Lib.hid (Below.refl w.heap.size w)
        go_enter Tryd.func7, Tryd.ntmps7
        go_wp2_with fail
        refine (hfew).mono ?_
        rintro e w1 ⟨v, rfl, ⟨At, ct, rfl, hct, hC⟩, hb_⟩
        try replace hb_ := Drawn0.below hb_
        replace HT := Lib.hid (BefAt.below HT.out hb_)
        replace HB := Lib.hid (HB.out.trans (Below.mono hb_ HB.out.size))
        clear hb_
        clear hfew
        replace hC := Lib.hid hC
        go_wp2_with fail
        refine (calendar_Add.calls At ct t _ _ _ _ _ _ hC.out hct hAx.out).mono ?_
        rintro e w2 ⟨rfl, hb_⟩
        try replace hb_ := Drawn0.below hb_
        replace HT := Lib.hid (BefAt.below HT.out hb_)
        replace hC := Lib.hid (Kd.C_below hC.out hb_)
        replace HB := Lib.hid (HB.out.trans (Below.mono hb_ HB.out.size))
        clear hb_
        go_wp2_with fail
        refine (calendar_Count.calls At ct t _ _ _ _ _ _ hC.out hct hCx.out).mono ?_
        rintro e w3 ⟨rfl, hb_⟩
        try replace hb_ := Drawn0.below hb_
        replace HT := Lib.hid (BefAt.below HT.out hb_)
        replace hC := Lib.hid (Kd.C_below hC.out hb_)
        replace HB := Lib.hid (HB.out.trans (Below.mono hb_ HB.out.size))
        clear hb_
        go_wp2_with fail
        refine (calendar_Changed.calls At ct t _ _ _ _ _ _ _ hC.out hct hGx.out).mono ?_
        rintro e w4 ⟨v4, rfl, hR4, hb_⟩
        try replace hb_ := Drawn0.below hb_
        replace HT := Lib.hid (BefAt.below HT.out hb_)
        replace hC := Lib.hid (Kd.C_below hC.out hb_)
        replace HB := Lib.hid (HB.out.trans (Below.mono hb_ HB.out.size))
        clear hb_
        obtain ⟨A4, c4, rfl⟩ := Kd.R_slice hR4
        replace hR4 := Lib.hid hR4
        go_wp2_with fail
        refine (cashbookref06_Right.calls K At ct t _ _ hC.out hct hK.out).mono ?_
        rintro e w5 ⟨rfl, hb_⟩
        try replace hb_ := Drawn0.below hb_
        replace HT := Lib.hid (BefAt.below HT.out hb_)
        replace hC := Lib.hid (Kd.C_below hC.out hb_)
        replace hR4 := Lib.hid (Kd.R_below hR4.out hb_)
        replace HB := Lib.hid (HB.out.trans (Below.mono hb_ HB.out.size))
        clear hb_
        go_wp2_with fail
        refine (cashbookref04_Right.calls _ _ _ H1.out).mono ?_
        rintro e w6 ⟨rfl, hb_⟩
        try replace hb_ := Drawn0.below hb_
        replace HT := Lib.hid (BefAt.below HT.out hb_)
        replace hC := Lib.hid (Kd.C_below hC.out hb_)
        replace hR4 := Lib.hid (Kd.R_below hR4.out hb_)
        replace HB := Lib.hid (HB.out.trans (Below.mono hb_ HB.out.size))
        clear hb_
        go_wp2_with fail
        refine (cashbookref04_Right.calls _ _ _ H2.out).mono ?_
        rintro e w7 ⟨rfl, hb_⟩
        try replace hb_ := Drawn0.below hb_
        replace HT := Lib.hid (BefAt.below HT.out hb_)
        replace hC := Lib.hid (Kd.C_below hC.out hb_)
        replace hR4 := Lib.hid (Kd.R_below hR4.out hb_)
        replace HB := Lib.hid (HB.out.trans (Below.mono hb_ HB.out.size))
        clear hb_
        go_wp2_with fail
        refine (cashbookref06_Add.calls KA At ct t _ _ _ _ _ _ hC.out hct hAr.out).mono ?_
        rintro e w8 ⟨rfl, hb_⟩
        try replace hb_ := Drawn0.below hb_
        replace HT := Lib.hid (BefAt.below HT.out hb_)
        replace hC := Lib.hid (Kd.C_below hC.out hb_)
        replace hR4 := Lib.hid (Kd.R_below hR4.out hb_)
        replace HB := Lib.hid (HB.out.trans (Below.mono hb_ HB.out.size))
        clear hb_
        go_wp2_with fail
        refine (cashbookref04_Right.calls _ _ _ H3.out).mono ?_
        rintro e w9 ⟨rfl, hb_⟩
        try replace hb_ := Drawn0.below hb_
        replace HT := Lib.hid (BefAt.below HT.out hb_)
        replace hC := Lib.hid (Kd.C_below hC.out hb_)
        replace hR4 := Lib.hid (Kd.R_below hR4.out hb_)
        replace HB := Lib.hid (HB.out.trans (Below.mono hb_ HB.out.size))
        clear hb_
        go_wp2_with fail
        refine (cashbookref06_Far.calls _ _ _ _ H5.out).mono ?_
        rintro e w10 ⟨rfl, hb_⟩
        try replace hb_ := Drawn0.below hb_
        replace HT := Lib.hid (BefAt.below HT.out hb_)
        replace hC := Lib.hid (Kd.C_below hC.out hb_)
        replace hR4 := Lib.hid (Kd.R_below hR4.out hb_)
        replace HB := Lib.hid (HB.out.trans (Below.mono hb_ HB.out.size))
        clear hb_
        go_wp2_with fail
        refine (cashbooklaw06_alive.calls true _ HT.out alive6).mono ?_
        rintro e w11 ⟨rfl, hb_⟩
        try replace hb_ := Drawn0.below hb_
        replace HT := Lib.hid (BefAt.below HT.out hb_)
        replace hC := Lib.hid (Kd.C_below hC.out hb_)
        replace hR4 := Lib.hid (Kd.R_below hR4.out hb_)
        replace HB := Lib.hid (HB.out.trans (Below.mono hb_ HB.out.size))
        clear hb_
        go_wp2_with fail
        refine (cashbookref06_Count.calls K1 At ct t _ _ _ _ _ hC.out hct hCr.out).mono ?_
        rintro e w12 ⟨rfl, hb_⟩
        try replace hb_ := Drawn0.below hb_
        replace HT := Lib.hid (BefAt.below HT.out hb_)
        replace hC := Lib.hid (Kd.C_below hC.out hb_)
        replace hR4 := Lib.hid (Kd.R_below hR4.out hb_)
        replace HB := Lib.hid (HB.out.trans (Below.mono hb_ HB.out.size))
        clear hb_
        go_wp2_with fail
        refine (cashbookref06_Changed.calls K2 At ct t _ _ _ _ _ _ hC.out hct hGr.out).mono ?_
        rintro e w13 ⟨v5, rfl, hR5, hb_⟩
        try replace hb_ := Drawn0.below hb_
        replace HT := Lib.hid (BefAt.below HT.out hb_)
        replace hC := Lib.hid (Kd.C_below hC.out hb_)
        replace hR4 := Lib.hid (Kd.R_below hR4.out hb_)
        replace HB := Lib.hid (HB.out.trans (Below.mono hb_ HB.out.size))
        clear hb_
        obtain ⟨A5, c5, rfl⟩ := Kd.R_slice hR5
        obtain ⟨-, hc4, hC4⟩ := Kd.R_reads' hR4.out
        obtain ⟨-, hc5, hC5⟩ := Kd.R_reads' hR5
        replace hR5 := Lib.hid hR5
        replace hC4 := Lib.hid hC4
        replace hC5 := Lib.hid hC5
        go_wp2_with fail
        refine (cashbookref06_Same.calls K3 A4 c4 L A5 c5 L _ _ hC4.out hc4 hC5.out hc5 hSr.out).mono ?_
        rintro e w14 ⟨rfl, hb_⟩
        try replace hb_ := Drawn0.below hb_
        replace HT := Lib.hid (BefAt.below HT.out hb_)
        replace hC := Lib.hid (Kd.C_below hC.out hb_)
        replace hR4 := Lib.hid (Kd.R_below hR4.out hb_)
        replace HB := Lib.hid (HB.out.trans (Below.mono hb_ HB.out.size))
        clear hb_
        go_wp2_with fail
        go_ret
        exact ⟨rfl, HB.out⟩
  · skip
    have hAx := Lib.hid (HAo.out a4 (by omega))
    rcases hX with ⟨hd3, b, hb9, hCx, hGx⟩ | ⟨hd3, hf3, b, hb9, hCx, hGx⟩ | ⟨hd3, hf3, k, L, K1, hL, hCx, hGx, hCr, ⟨K2, hGr⟩, K3, hSr⟩
    · replace hCx := Lib.hid hCx
      replace hGx := Lib.hid hGx
      subst hb9
      rw [hd3] at H3
      clear H4 hd3
      have HB := Lib.hid (Below.refl w.heap.size w)
      go_enter Tryd.func7, Tryd.ntmps7
      go_wp2_with fail
      refine (hfew).mono ?_
      rintro e w1 ⟨v, rfl, ⟨At, ct, rfl, hct, hC⟩, hb_⟩
      try replace hb_ := Drawn0.below hb_
      replace HT := Lib.hid (BefAt.below HT.out hb_)
      replace HB := Lib.hid (HB.out.trans (Below.mono hb_ HB.out.size))
      clear hb_
      clear hfew
      replace hC := Lib.hid hC
      go_wp2_with fail
      refine (calendar_Add.calls At ct t _ _ _ _ _ _ hC.out hct hAx.out).mono ?_
      rintro e w2 ⟨rfl, hb_⟩
      try replace hb_ := Drawn0.below hb_
      replace HT := Lib.hid (BefAt.below HT.out hb_)
      replace hC := Lib.hid (Kd.C_below hC.out hb_)
      replace HB := Lib.hid (HB.out.trans (Below.mono hb_ HB.out.size))
      clear hb_
      go_wp2_with fail
      refine (calendar_Count.calls At ct t _ _ _ _ _ _ hC.out hct hCx.out).mono ?_
      rintro e w3 ⟨rfl, hb_⟩
      try replace hb_ := Drawn0.below hb_
      replace HT := Lib.hid (BefAt.below HT.out hb_)
      replace hC := Lib.hid (Kd.C_below hC.out hb_)
      replace HB := Lib.hid (HB.out.trans (Below.mono hb_ HB.out.size))
      clear hb_
      go_wp2_with fail
      refine (calendar_Changed.calls At ct t _ _ _ _ _ _ _ hC.out hct hGx.out).mono ?_
      rintro e w4 ⟨v4, rfl, hR4, hb_⟩
      try replace hb_ := Drawn0.below hb_
      replace HT := Lib.hid (BefAt.below HT.out hb_)
      replace hC := Lib.hid (Kd.C_below hC.out hb_)
      replace HB := Lib.hid (HB.out.trans (Below.mono hb_ HB.out.size))
      clear hb_
      obtain ⟨A4, c4, rfl⟩ := Kd.R_slice hR4
      replace hR4 := Lib.hid hR4
      go_wp2_with fail
      refine (cashbookref06_Right.calls K At ct t _ _ hC.out hct hK.out).mono ?_
      rintro e w5 ⟨rfl, hb_⟩
      try replace hb_ := Drawn0.below hb_
      replace HT := Lib.hid (BefAt.below HT.out hb_)
      replace hC := Lib.hid (Kd.C_below hC.out hb_)
      replace hR4 := Lib.hid (Kd.R_below hR4.out hb_)
      replace HB := Lib.hid (HB.out.trans (Below.mono hb_ HB.out.size))
      clear hb_
      go_wp2_with fail
      refine (cashbookref04_Right.calls _ _ _ H1.out).mono ?_
      rintro e w6 ⟨rfl, hb_⟩
      try replace hb_ := Drawn0.below hb_
      replace HT := Lib.hid (BefAt.below HT.out hb_)
      replace hC := Lib.hid (Kd.C_below hC.out hb_)
      replace hR4 := Lib.hid (Kd.R_below hR4.out hb_)
      replace HB := Lib.hid (HB.out.trans (Below.mono hb_ HB.out.size))
      clear hb_
      go_wp2_with fail
      refine (cashbookref04_Right.calls _ _ _ H2.out).mono ?_
      rintro e w7 ⟨rfl, hb_⟩
      try replace hb_ := Drawn0.below hb_
      replace HT := Lib.hid (BefAt.below HT.out hb_)
      replace hC := Lib.hid (Kd.C_below hC.out hb_)
      replace hR4 := Lib.hid (Kd.R_below hR4.out hb_)
      replace HB := Lib.hid (HB.out.trans (Below.mono hb_ HB.out.size))
      clear hb_
      go_wp2_with fail
      refine (cashbookref04_Right.calls _ _ _ H3.out).mono ?_
      rintro e w8 ⟨rfl, hb_⟩
      try replace hb_ := Drawn0.below hb_
      replace HT := Lib.hid (BefAt.below HT.out hb_)
      replace hC := Lib.hid (Kd.C_below hC.out hb_)
      replace hR4 := Lib.hid (Kd.R_below hR4.out hb_)
      replace HB := Lib.hid (HB.out.trans (Below.mono hb_ HB.out.size))
      clear hb_
      go_wp2_with fail
      refine (cashbooklaw06_alive.calls true _ HT.out alive6).mono ?_
      rintro e w9 ⟨rfl, hb_⟩
      try replace hb_ := Drawn0.below hb_
      replace HT := Lib.hid (BefAt.below HT.out hb_)
      replace hC := Lib.hid (Kd.C_below hC.out hb_)
      replace hR4 := Lib.hid (Kd.R_below hR4.out hb_)
      replace HB := Lib.hid (HB.out.trans (Below.mono hb_ HB.out.size))
      clear hb_
      go_wp2_with fail
      go_ret
      exact ⟨rfl, HB.out⟩
    · replace hCx := Lib.hid hCx
      replace hGx := Lib.hid hGx
      subst hb9
      rw [hd3] at H3
      have H5 := Lib.hid (H4.out hd3)
      rw [hf3] at H5
      clear H4 hd3 hf3
      have HB := Lib.hid (Below.refl w.heap.size w)
      go_enter Tryd.func7, Tryd.ntmps7
      go_wp2_with fail
      refine (hfew).mono ?_
      rintro e w1 ⟨v, rfl, ⟨At, ct, rfl, hct, hC⟩, hb_⟩
      try replace hb_ := Drawn0.below hb_
      replace HT := Lib.hid (BefAt.below HT.out hb_)
      replace HB := Lib.hid (HB.out.trans (Below.mono hb_ HB.out.size))
      clear hb_
      clear hfew
      replace hC := Lib.hid hC
      go_wp2_with fail
      refine (calendar_Add.calls At ct t _ _ _ _ _ _ hC.out hct hAx.out).mono ?_
      rintro e w2 ⟨rfl, hb_⟩
      try replace hb_ := Drawn0.below hb_
      replace HT := Lib.hid (BefAt.below HT.out hb_)
      replace hC := Lib.hid (Kd.C_below hC.out hb_)
      replace HB := Lib.hid (HB.out.trans (Below.mono hb_ HB.out.size))
      clear hb_
      go_wp2_with fail
      refine (calendar_Count.calls At ct t _ _ _ _ _ _ hC.out hct hCx.out).mono ?_
      rintro e w3 ⟨rfl, hb_⟩
      try replace hb_ := Drawn0.below hb_
      replace HT := Lib.hid (BefAt.below HT.out hb_)
      replace hC := Lib.hid (Kd.C_below hC.out hb_)
      replace HB := Lib.hid (HB.out.trans (Below.mono hb_ HB.out.size))
      clear hb_
      go_wp2_with fail
      refine (calendar_Changed.calls At ct t _ _ _ _ _ _ _ hC.out hct hGx.out).mono ?_
      rintro e w4 ⟨v4, rfl, hR4, hb_⟩
      try replace hb_ := Drawn0.below hb_
      replace HT := Lib.hid (BefAt.below HT.out hb_)
      replace hC := Lib.hid (Kd.C_below hC.out hb_)
      replace HB := Lib.hid (HB.out.trans (Below.mono hb_ HB.out.size))
      clear hb_
      obtain ⟨A4, c4, rfl⟩ := Kd.R_slice hR4
      replace hR4 := Lib.hid hR4
      go_wp2_with fail
      refine (cashbookref06_Right.calls K At ct t _ _ hC.out hct hK.out).mono ?_
      rintro e w5 ⟨rfl, hb_⟩
      try replace hb_ := Drawn0.below hb_
      replace HT := Lib.hid (BefAt.below HT.out hb_)
      replace hC := Lib.hid (Kd.C_below hC.out hb_)
      replace hR4 := Lib.hid (Kd.R_below hR4.out hb_)
      replace HB := Lib.hid (HB.out.trans (Below.mono hb_ HB.out.size))
      clear hb_
      go_wp2_with fail
      refine (cashbookref04_Right.calls _ _ _ H1.out).mono ?_
      rintro e w6 ⟨rfl, hb_⟩
      try replace hb_ := Drawn0.below hb_
      replace HT := Lib.hid (BefAt.below HT.out hb_)
      replace hC := Lib.hid (Kd.C_below hC.out hb_)
      replace hR4 := Lib.hid (Kd.R_below hR4.out hb_)
      replace HB := Lib.hid (HB.out.trans (Below.mono hb_ HB.out.size))
      clear hb_
      go_wp2_with fail
      refine (cashbookref04_Right.calls _ _ _ H2.out).mono ?_
      rintro e w7 ⟨rfl, hb_⟩
      try replace hb_ := Drawn0.below hb_
      replace HT := Lib.hid (BefAt.below HT.out hb_)
      replace hC := Lib.hid (Kd.C_below hC.out hb_)
      replace hR4 := Lib.hid (Kd.R_below hR4.out hb_)
      replace HB := Lib.hid (HB.out.trans (Below.mono hb_ HB.out.size))
      clear hb_
      go_wp2_with fail
      refine (cashbookref04_Right.calls _ _ _ H3.out).mono ?_
      rintro e w8 ⟨rfl, hb_⟩
      try replace hb_ := Drawn0.below hb_
      replace HT := Lib.hid (BefAt.below HT.out hb_)
      replace hC := Lib.hid (Kd.C_below hC.out hb_)
      replace hR4 := Lib.hid (Kd.R_below hR4.out hb_)
      replace HB := Lib.hid (HB.out.trans (Below.mono hb_ HB.out.size))
      clear hb_
      go_wp2_with fail
      refine (cashbookref06_Far.calls _ _ _ _ H5.out).mono ?_
      rintro e w9 ⟨rfl, hb_⟩
      try replace hb_ := Drawn0.below hb_
      replace HT := Lib.hid (BefAt.below HT.out hb_)
      replace hC := Lib.hid (Kd.C_below hC.out hb_)
      replace hR4 := Lib.hid (Kd.R_below hR4.out hb_)
      replace HB := Lib.hid (HB.out.trans (Below.mono hb_ HB.out.size))
      clear hb_
      go_wp2_with fail
      refine (cashbooklaw06_alive.calls true _ HT.out alive6).mono ?_
      rintro e w10 ⟨rfl, hb_⟩
      try replace hb_ := Drawn0.below hb_
      replace HT := Lib.hid (BefAt.below HT.out hb_)
      replace hC := Lib.hid (Kd.C_below hC.out hb_)
      replace hR4 := Lib.hid (Kd.R_below hR4.out hb_)
      replace HB := Lib.hid (HB.out.trans (Below.mono hb_ HB.out.size))
      clear hb_
      go_wp2_with fail
      go_ret
      exact ⟨rfl, HB.out⟩
    · replace hCx := Lib.hid hCx
      replace hGx := Lib.hid hGx
      replace hCr := Lib.hid hCr
      replace hGr := Lib.hid hGr
      replace hSr := Lib.hid hSr
      rw [hd3] at H3
      have H5 := Lib.hid (H4.out hd3)
      rw [hf3] at H5
      clear H4 hd3 hf3
      have HB := Lib.hid (Below.refl w.heap.size w)
      go_enter Tryd.func7, Tryd.ntmps7
      go_wp2_with fail
      refine (hfew).mono ?_
      rintro e w1 ⟨v, rfl, ⟨At, ct, rfl, hct, hC⟩, hb_⟩
      try replace hb_ := Drawn0.below hb_
      replace HT := Lib.hid (BefAt.below HT.out hb_)
      replace HB := Lib.hid (HB.out.trans (Below.mono hb_ HB.out.size))
      clear hb_
      clear hfew
      replace hC := Lib.hid hC
      go_wp2_with fail
      refine (calendar_Add.calls At ct t _ _ _ _ _ _ hC.out hct hAx.out).mono ?_
      rintro e w2 ⟨rfl, hb_⟩
      try replace hb_ := Drawn0.below hb_
      replace HT := Lib.hid (BefAt.below HT.out hb_)
      replace hC := Lib.hid (Kd.C_below hC.out hb_)
      replace HB := Lib.hid (HB.out.trans (Below.mono hb_ HB.out.size))
      clear hb_
      go_wp2_with fail
      refine (calendar_Count.calls At ct t _ _ _ _ _ _ hC.out hct hCx.out).mono ?_
      rintro e w3 ⟨rfl, hb_⟩
      try replace hb_ := Drawn0.below hb_
      replace HT := Lib.hid (BefAt.below HT.out hb_)
      replace hC := Lib.hid (Kd.C_below hC.out hb_)
      replace HB := Lib.hid (HB.out.trans (Below.mono hb_ HB.out.size))
      clear hb_
      go_wp2_with fail
      refine (calendar_Changed.calls At ct t _ _ _ _ _ _ _ hC.out hct hGx.out).mono ?_
      rintro e w4 ⟨v4, rfl, hR4, hb_⟩
      try replace hb_ := Drawn0.below hb_
      replace HT := Lib.hid (BefAt.below HT.out hb_)
      replace hC := Lib.hid (Kd.C_below hC.out hb_)
      replace HB := Lib.hid (HB.out.trans (Below.mono hb_ HB.out.size))
      clear hb_
      obtain ⟨A4, c4, rfl⟩ := Kd.R_slice hR4
      replace hR4 := Lib.hid hR4
      go_wp2_with fail
      refine (cashbookref06_Right.calls K At ct t _ _ hC.out hct hK.out).mono ?_
      rintro e w5 ⟨rfl, hb_⟩
      try replace hb_ := Drawn0.below hb_
      replace HT := Lib.hid (BefAt.below HT.out hb_)
      replace hC := Lib.hid (Kd.C_below hC.out hb_)
      replace hR4 := Lib.hid (Kd.R_below hR4.out hb_)
      replace HB := Lib.hid (HB.out.trans (Below.mono hb_ HB.out.size))
      clear hb_
      go_wp2_with fail
      refine (cashbookref04_Right.calls _ _ _ H1.out).mono ?_
      rintro e w6 ⟨rfl, hb_⟩
      try replace hb_ := Drawn0.below hb_
      replace HT := Lib.hid (BefAt.below HT.out hb_)
      replace hC := Lib.hid (Kd.C_below hC.out hb_)
      replace hR4 := Lib.hid (Kd.R_below hR4.out hb_)
      replace HB := Lib.hid (HB.out.trans (Below.mono hb_ HB.out.size))
      clear hb_
      go_wp2_with fail
      refine (cashbookref04_Right.calls _ _ _ H2.out).mono ?_
      rintro e w7 ⟨rfl, hb_⟩
      try replace hb_ := Drawn0.below hb_
      replace HT := Lib.hid (BefAt.below HT.out hb_)
      replace hC := Lib.hid (Kd.C_below hC.out hb_)
      replace hR4 := Lib.hid (Kd.R_below hR4.out hb_)
      replace HB := Lib.hid (HB.out.trans (Below.mono hb_ HB.out.size))
      clear hb_
      go_wp2_with fail
      refine (cashbookref04_Right.calls _ _ _ H3.out).mono ?_
      rintro e w8 ⟨rfl, hb_⟩
      try replace hb_ := Drawn0.below hb_
      replace HT := Lib.hid (BefAt.below HT.out hb_)
      replace hC := Lib.hid (Kd.C_below hC.out hb_)
      replace hR4 := Lib.hid (Kd.R_below hR4.out hb_)
      replace HB := Lib.hid (HB.out.trans (Below.mono hb_ HB.out.size))
      clear hb_
      go_wp2_with fail
      refine (cashbookref06_Far.calls _ _ _ _ H5.out).mono ?_
      rintro e w9 ⟨rfl, hb_⟩
      try replace hb_ := Drawn0.below hb_
      replace HT := Lib.hid (BefAt.below HT.out hb_)
      replace hC := Lib.hid (Kd.C_below hC.out hb_)
      replace hR4 := Lib.hid (Kd.R_below hR4.out hb_)
      replace HB := Lib.hid (HB.out.trans (Below.mono hb_ HB.out.size))
      clear hb_
      go_wp2_with fail
      refine (cashbooklaw06_alive.calls true _ HT.out alive6).mono ?_
      rintro e w10 ⟨rfl, hb_⟩
      try replace hb_ := Drawn0.below hb_
      replace HT := Lib.hid (BefAt.below HT.out hb_)
      replace hC := Lib.hid (Kd.C_below hC.out hb_)
      replace hR4 := Lib.hid (Kd.R_below hR4.out hb_)
      replace HB := Lib.hid (HB.out.trans (Below.mono hb_ HB.out.size))
      clear hb_
      go_wp2_with fail
      refine (cashbookref06_Count.calls K1 At ct t _ _ _ _ _ hC.out hct hCr.out).mono ?_
      rintro e w11 ⟨rfl, hb_⟩
      try replace hb_ := Drawn0.below hb_
      replace HT := Lib.hid (BefAt.below HT.out hb_)
      replace hC := Lib.hid (Kd.C_below hC.out hb_)
      replace hR4 := Lib.hid (Kd.R_below hR4.out hb_)
      replace HB := Lib.hid (HB.out.trans (Below.mono hb_ HB.out.size))
      clear hb_
      go_wp2_with fail
      refine (cashbookref06_Changed.calls K2 At ct t _ _ _ _ _ _ hC.out hct hGr.out).mono ?_
      rintro e w12 ⟨v5, rfl, hR5, hb_⟩
      try replace hb_ := Drawn0.below hb_
      replace HT := Lib.hid (BefAt.below HT.out hb_)
      replace hC := Lib.hid (Kd.C_below hC.out hb_)
      replace hR4 := Lib.hid (Kd.R_below hR4.out hb_)
      replace HB := Lib.hid (HB.out.trans (Below.mono hb_ HB.out.size))
      clear hb_
      obtain ⟨A5, c5, rfl⟩ := Kd.R_slice hR5
      obtain ⟨-, hc4, hC4⟩ := Kd.R_reads' hR4.out
      obtain ⟨-, hc5, hC5⟩ := Kd.R_reads' hR5
      replace hR5 := Lib.hid hR5
      replace hC4 := Lib.hid hC4
      replace hC5 := Lib.hid hC5
      go_wp2_with fail
      refine (cashbookref06_Same.calls K3 A4 c4 L A5 c5 L _ _ hC4.out hc4 hC5.out hc5 hSr.out).mono ?_
      rintro e w13 ⟨rfl, hb_⟩
      try replace hb_ := Drawn0.below hb_
      replace HT := Lib.hid (BefAt.below HT.out hb_)
      replace hC := Lib.hid (Kd.C_below hC.out hb_)
      replace hR4 := Lib.hid (Kd.R_below hR4.out hb_)
      replace HB := Lib.hid (HB.out.trans (Below.mono hb_ HB.out.size))
      clear hb_
      go_wp2_with fail
      go_ret
      exact ⟨rfl, HB.out⟩
end Go.Proofs.YtamfbfhkojnafaaDoor
