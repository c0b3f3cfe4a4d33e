import Derived.Test.YtamfbfhkojnafaaDoorOfPure
import Derived.Test.YtamfbfhkojnafaaDoorDateQ
import Derived.Test.YtamfbfhkojnafaaDoorDateD
import Derived.Test.YtamfbfhkojnafaaDoorWMore
import Derived.Lib.Hide
import Derived.Deep.QuietTactic
import Derived.BigQuiet
import Derived.Outline
namespace Go.Proofs.YtamfbfhkojnafaaDoor.PD4
open Go.RowKit Go.Proofs.YtamfbfhkojnafaaDoorW.PrintWords
set_option linter.unusedVariables false
set_option linter.unusedSimpArgs false

theorem ext_l (t : ByteArray) (a b : Nat) : (t.extract a b).data.toList = (t.data.toList.take b).drop a := by
  rw [ByteArray.data_extract, Array.toList_extract]
  simp [List.extract_eq_take_drop, List.drop_take]
theorem bt_list (t : ByteArray) (i : Nat) (h : i < t.size) : bt t (i : Int) = ((t.data.toList.getD i 0).toNat : Int) := by
  unfold bt
  rw [dif_pos (by simpa using h), getD_b t i h]
  simp
/-- What a byte of a date's text is to be. -/
def formC (t : ByteArray) (i : Nat) : Bool := if i = 4 ∨ i = 7 then decide ((t.data.toList.getD i 0).toNat = 45) else digB (t.data.toList.getD i 0)
theorem form_l0 (t : ByteArray) (ht : t.size = 10) : ∀ (n i : Nat), 10 - i = n → i ≤ 10 → Ev (fun k => cashbookref04_Form.l0 k t i) (((List.range 10).drop i).all (formC t)) := by
  intro n
  induction n with
  | zero =>
    intro i hi h10
    obtain rfl : i = 10 := by omega
    refine Ev.step (f := fun _ => some true) (fun k => ?_) (Ev.now _)
    simp only [cashbookref04_Form.l0]
    rw [if_neg (by decide)]
  | succ n ih =>
    intro i hi h10
    have hlt : i < 10 := by omega
    have hb := bt_list t i (by omega)
    have hdrop : (List.range 10).drop i = i :: (List.range 10).drop (i + 1) := by
      rw [List.drop_eq_getElem_cons (by simpa using hlt)]; simp
    rw [hdrop, List.all_cons]
    have hn := ih (i + 1) (by omega) (by omega)
    generalize ((List.range 10).drop (i + 1)).all (formC t) = R at hn ⊢
    by_cases h47 : i = 4 ∨ i = 7
    · have hc : formC t i = decide ((t.data.toList.getD i 0).toNat = 45) := by unfold formC; rw [if_pos h47]
      have h1 : ∀ k, cashbookref04_Form.l0 (k + 1) t i = cashbookref04_Form.j1 k t i true := by
        intro k
        simp only [cashbookref04_Form.l0]
        rw [if_pos (by omega)]
        rcases h47 with rfl | rfl
        · rw [if_pos (by decide)]
        · rw [if_neg (by decide)]; rfl
      refine Ev.step h1 ?_
      by_cases h45 : (t.data.toList.getD i 0).toNat = 45
      · rw [hc, decide_eq_true h45, Bool.true_and]
        refine Ev.step (f := fun k => cashbookref04_Form.l0 k t (i + 1 : Nat)) (fun k => ?_) hn
        simp only [cashbookref04_Form.j1]
        rw [if_pos (by trivial), if_pos (by omega), if_pos (by omega), hb, if_pos (by omega), w64_s (by omega) (by omega)]
        rfl
      · rw [hc, decide_eq_false h45, Bool.false_and]
        refine Ev.step (f := fun _ => some false) (fun k => ?_) (Ev.now _)
        simp only [cashbookref04_Form.j1]
        rw [if_pos (by trivial), if_pos (by omega), if_pos (by omega), hb, if_neg (by omega)]
    · have hc : formC t i = digB (t.data.toList.getD i 0) := by unfold formC; rw [if_neg h47]
      have h1 : ∀ k, cashbookref04_Form.l0 (k + 1) t i = cashbookref04_Form.j1 k t i false := by
        intro k
        simp only [cashbookref04_Form.l0]
        rw [if_pos (by omega), if_neg (by omega), beq_eq_false_iff_ne.2 (by omega)]
      refine Ev.step h1 ?_
      rw [hc]
      unfold digB
      by_cases h48 : (t.data.toList.getD i 0).toNat < 48
      · rw [decide_eq_false (show ¬ 48 ≤ (t.data.toList.getD i 0).toNat by omega), Bool.false_and, Bool.false_and]
        refine Ev.step (f := fun _ => some false) (fun k => ?_) (Ev.now _)
        simp only [cashbookref04_Form.j1]
        rw [if_neg (by decide), if_pos (by omega), if_pos (by omega), hb, if_pos (by omega)]
      · rw [decide_eq_true (show 48 ≤ (t.data.toList.getD i 0).toNat by omega), Bool.true_and]
        by_cases h57 : 57 < (t.data.toList.getD i 0).toNat
        · rw [decide_eq_false (show ¬ (t.data.toList.getD i 0).toNat ≤ 57 by omega), Bool.false_and]
          refine Ev.step (f := fun _ => some false) (fun k => ?_) (Ev.now _)
          simp only [cashbookref04_Form.j1]
          rw [if_neg (by decide), if_pos (by omega), if_pos (by omega), hb, if_neg (by omega), if_pos (by omega)]
        · rw [decide_eq_true (show (t.data.toList.getD i 0).toNat ≤ 57 by omega), Bool.true_and]
          refine Ev.step (f := fun k => cashbookref04_Form.l0 k t (i + 1 : Nat)) (fun k => ?_) hn
          simp only [cashbookref04_Form.j1]
          rw [if_neg (by decide), if_pos (by omega), if_pos (by omega), hb, if_neg (by omega), if_neg (by omega), w64_s (by omega) (by omega)]
          rfl
def formB (t : ByteArray) : Bool := formD t && segs (t.extract 0 4) (t.extract 5 7) (t.extract 8 t.size)
theorem form_ten (t : ByteArray) (ht : t.size = 10) : (List.range 10).all (formC t) = formB t := by
  unfold formB formD segs
  rw [ext_l, ext_l, ext_l, ht]
  have hl : t.data.toList.length = 10 := by rw [Array.length_toList]; exact ht
  generalize hL : t.data.toList = L at hl
  obtain ⟨b0, b1, b2, b3, b4, b5, b6, b7, b8, b9, rfl⟩ : ∃ b0 b1 b2 b3 b4 b5 b6 b7 b8 b9, L = [b0, b1, b2, b3, b4, b5, b6, b7, b8, b9] := by
    match L, hl with
    | [b0, b1, b2, b3, b4, b5, b6, b7, b8, b9], _ => exact ⟨_, _, _, _, _, _, _, _, _, _, rfl⟩
  simp only [List.range, List.range.loop, List.all_cons, List.all_nil, formC, hL]
  simp
  generalize digB b0 = d0
  generalize digB b1 = d1
  generalize digB b2 = d2
  generalize digB b3 = d3
  generalize digB b5 = d5
  generalize digB b6 = d6
  generalize digB b8 = d8
  generalize digB b9 = d9
  generalize decide (b4.toNat = 45) = c4
  generalize decide (b7.toNat = 45) = c7
  revert d0 d1 d2 d3 d5 d6 d8 d9 c4 c7
  decide
theorem form_ev (t : ByteArray) : Ev (fun k => cashbookref04_Form.f k t) (formB t) := by
  by_cases ht : t.size = 10
  · have h := form_l0 t ht 10 0 rfl (by omega)
    rw [List.drop_zero, form_ten t ht] at h
    refine Ev.congr (fun k => ?_) h
    unfold cashbookref04_Form.f
    rw [if_pos (by omega)]
    rfl
  · have hf : formB t = false := by unfold formB formD; rw [decide_eq_false ht]; rfl
    rw [hf]
    refine Ev.congr (fun k => ?_) (Ev.now _)
    unfold cashbookref04_Form.f
    rw [if_neg (by omega)]
theorem number_l0 (t : ByteArray) (hd : t.data.toList.all digB = true) (h4 : t.size ≤ 4) : ∀ (n i : Nat), t.size - i = n → i ≤ t.size → Ev (fun k => cashbookref04_Number.l0 k t (numL (t.data.toList.take i) : Int) i) (numL t.data.toList : Int) := by
  have hlen : t.data.toList.length = t.size := by rw [Array.length_toList]; rfl
  intro n
  induction n with
  | zero =>
    intro i hi h10
    obtain rfl : i = t.size := by omega
    rw [List.take_of_length_le (by omega)]
    refine Ev.step (f := fun _ => some (numL t.data.toList : Int)) (fun k => ?_) (Ev.now _)
    simp only [cashbookref04_Number.l0]
    rw [if_neg (by omega)]
  | succ n ih =>
    intro i hi h10
    have hlt : i < t.size := by omega
    have hb := bt_list t i hlt
    have hts := take_snoc_b t i hlt
    have hg := getD_b t i hlt
    have hdi : digB t[i] = true := by
      rw [List.all_eq_true] at hd
      exact hd _ (by rw [ByteArray.getElem_eq_getElem_data]; simp)
    have hdt : (t.data.toList.take i).all digB = true := by
      rw [List.all_eq_true] at hd ⊢
      exact fun x hx => hd x (List.mem_of_mem_take hx)
    have hnb := numL_lt _ hdt
    have hnl : numL (t.data.toList.take i) < 10000 := Nat.lt_of_lt_of_le hnb (Nat.le_trans (Nat.pow_le_pow_right (by omega) (show (t.data.toList.take i).length ≤ 4 by rw [List.length_take]; omega)) (by decide))
    unfold digB at hdi
    simp at hdi
    have hsn := numL_snoc (t.data.toList.take i) t[i]
    rw [← hts] at hsn
    refine Ev.step (f := fun k => cashbookref04_Number.l0 k t (numL (t.data.toList.take (i + 1)) : Int) (i + 1 : Nat)) (fun k => ?_) (ih (i + 1) (by omega) (by omega))
    simp only [cashbookref04_Number.l0]
    rw [if_pos (by omega), if_pos (by omega), hb, hg, w64_s (i := 10 * (numL (t.data.toList.take i) : Int)) (by omega) (by omega), show ((t[i].toNat : Int) - 48) % 256 = (t[i].toNat : Int) - 48 by omega, w64_s (by omega) (by omega), w64_s (by omega) (by omega), hsn]
    congr 1
    omega
theorem number_ev (t : ByteArray) (hd : t.data.toList.all digB = true) (h4 : t.size ≤ 4) : Ev (fun k => cashbookref04_Number.f k t) (numL t.data.toList : Int) := number_l0 t hd h4 t.size 0 rfl (by omega)
theorem parse_form (t : ByteArray) : parseR t = if formB t then joinR (numL (t.extract 0 4).data.toList) (numL (t.extract 5 7).data.toList) (numL (t.extract 8 t.size).data.toList) else (0, 3) := by
  unfold parseR formB parse3
  cases formD t <;> simp
theorem form_all (t : ByteArray) (h : formB t = true) : t.size = 10 ∧ ∃ a b c : Int, (∃ K, cashbookref04_Number.f K (t.extract 0 4) = some a) ∧ (∃ K, cashbookref04_Number.f K (t.extract 5 7) = some b) ∧ (∃ K, cashbookref04_Number.f K (t.extract 8 t.size) = some c) ∧
    parseR t = joinR a b c ∧ ∃ K, cashbookref04_May.f K a b c = some (mayR a b c) := by
  have hpf := parse_form t
  rw [h, if_pos rfl] at hpf
  have h2 := h
  unfold formB at h2
  have h3 := (Bool.and_eq_true_iff.1 h2).1
  have h4 := (Bool.and_eq_true_iff.1 h2).2
  unfold formD at h3
  have h10 : t.size = 10 := of_decide_eq_true (Bool.and_eq_true_iff.1 h3).1
  unfold segs at h4
  have g0 := (Bool.and_eq_true_iff.1 h4).1
  have g1 := (Bool.and_eq_true_iff.1 (Bool.and_eq_true_iff.1 h4).2).1
  have g2 := (Bool.and_eq_true_iff.1 (Bool.and_eq_true_iff.1 h4).2).2
  refine ⟨h10, _, _, _, (number_ev _ g0 ?_).rounds, (number_ev _ g1 ?_).rounds, (number_ev _ g2 ?_).rounds, hpf, (may_ev _ _ _).rounds⟩
  · rw [ByteArray.size_extract]; omega
  · rw [ByteArray.size_extract]; omega
  · rw [ByteArray.size_extract]; omega
end Go.Proofs.YtamfbfhkojnafaaDoor.PD4
namespace Go.Proofs.YtamfbfhkojnafaaDoor
open Go.RowKit Go.Proofs.YtamfbfhkojnafaaDoor.PD4 Go.Proofs.YtamfbfhkojnafaaDoorW.PrintWords Go.Proofs.YtamfbfhkojnafaaDoorW.PrintLast Go.Proofs.YtamfbfhkojnafaaDoorW.PrintMore
set_option linter.unusedVariables false
set_option linter.unusedSimpArgs false
theorem quiet_d {P : Program} {f : FuncId} {args : Array Value} {v : Value} (h : ∀ W, Calls P f args W fun e w' => e = .returned v ∧ Drawn0 W w') {w : World} {n : Nat} : Calls P f args (w.drewN n) fun e w'' => e = .returned v ∧ ∃ m, w'' = w.drewN m :=
  Calls.quiet_of ((h _).mono fun e w' ⟨he, hd⟩ => ⟨he, by obtain ⟨m, rfl⟩ := hd; exact ⟨m, rfl⟩⟩)
def TruePost (w : World) (e : Ending) (w' : World) : Prop := e = .returned (.bool true) ∧ Below w.heap.size w w'

set_option maxHeartbeats 1000000 in
set_option maxRecDepth 100000 in
/-- The parts make a day, or do not; the text has no date's form. -/
theorem of_noform (a0 a1 a2 : Int) (s : ByteArray) (w : World) (hT : TabsAt w) (hf : formB (s.extract 0 (min (s.size : Int) 20).toNat) = false) :
    Calls Tryd.prog 11 #[.int .i64 a0, .int .i64 a1, .int .i64 a2, .string s] w (TruePost w) := by
  have HT := Lib.hid hT
  clear hT
  have hP : Hid (date_Parse.f (s.extract 0 (min (s.size : Int) 20).toNat) = some (0, 3)) := Lib.hid (by unfold date_Parse.f; rw [parse_form, hf]; rfl)
  obtain ⟨KF, hF⟩ := (form_ev (s.extract 0 (min (s.size : Int) 20).toNat)).rounds
  rw [hf] at hF
  replace hF := Lib.hid hF
  replace hf := Lib.hid hf
  have hN : True := trivial
  obtain ⟨KM, hM⟩ := (may_ev a0 a1 a2).rounds
  unfold mayR at hM
  rcases joinR_snd a0 a1 a2 with ⟨j2, j3, j4⟩ | hj
  · obtain ⟨j, hJ⟩ : ∃ j, joinR a0 a1 a2 = (j, 0) := ⟨(joinR a0 a1 a2).1, by rw [← j2]⟩
    rw [hJ] at hM
    replace hM : Hid (cashbookref04_May.f KM a0 a1 a2 = some (j, true)) := Lib.hid hM
    replace hJ := Lib.hid hJ
    clear j2 j3 j4
    have HB := Lib.hid (Below.refl w.heap.size w)
    go_enter Tryd.func11, Tryd.ntmps11
    go_wp2_with fail
    refine (date_Join.calls 1 a0 a1 a2 _ _ _ HT.out ((join_f 0 a0 a1 a2).trans (congrArg some hJ.out))).mono ?_
    rintro e w1 ⟨rfl, hb_⟩
    try replace hb_ := Drawn0.below hb_
    replace HT := Lib.hid (TabsAt.below HT.out hb_)
    replace HB := Lib.hid (HB.out.trans (Below.mono hb_ HB.out.size))
    clear hb_
    go_wp2_with fail
    generalize s.extract 0 (min (s.size : Int) 20).toNat = t at hP hF hN ⊢
    refine (date_Parse.calls t _ _ _ HT.out hP.out).mono ?_
    rintro e w2 ⟨rfl, hb_⟩
    try replace hb_ := Drawn0.below hb_
    replace HT := Lib.hid (TabsAt.below HT.out hb_)
    replace HB := Lib.hid (HB.out.trans (Below.mono hb_ HB.out.size))
    clear hb_
    go_wp2_with fail
    refine (cashbookref04_May.calls KM a0 a1 a2 _ _ _ hM.out).mono ?_
    rintro e w3 ⟨rfl, hb_⟩
    try replace hb_ := Drawn0.below hb_
    replace HT := Lib.hid (TabsAt.below HT.out hb_)
    replace HB := Lib.hid (HB.out.trans (Below.mono hb_ HB.out.size))
    clear hb_
    go_wp2_with fail
    refine (cashbooklaw04_alive.calls 1 true _ HT.out (alive_f 0)).mono ?_
    rintro e w4 ⟨rfl, hb_⟩
    try replace hb_ := Drawn0.below hb_
    replace HT := Lib.hid (TabsAt.below HT.out hb_)
    replace HB := Lib.hid (HB.out.trans (Below.mono hb_ HB.out.size))
    clear hb_
    go_wp2_with fail
    refine (cashbookref04_Form.calls KF t _ _ hF.out).mono ?_
    rintro e w5 ⟨rfl, hb_⟩
    try replace hb_ := Drawn0.below hb_
    replace HT := Lib.hid (TabsAt.below HT.out hb_)
    replace HB := Lib.hid (HB.out.trans (Below.mono hb_ HB.out.size))
    clear hb_
    go_wp2_with fail
    go_ret
    exact ⟨rfl, HB.out⟩
  · rw [hj] at hM
    replace hM : Hid (cashbookref04_May.f KM a0 a1 a2 = some (0, false)) := Lib.hid hM
    have hJ := Lib.hid hj
    clear hj
    have HB := Lib.hid (Below.refl w.heap.size w)
    go_enter Tryd.func11, Tryd.ntmps11
    go_wp2_with fail
    refine (date_Join.calls 1 a0 a1 a2 _ _ _ HT.out ((join_f 0 a0 a1 a2).trans (congrArg some hJ.out))).mono ?_
    rintro e w1 ⟨rfl, hb_⟩
    try replace hb_ := Drawn0.below hb_
    replace HT := Lib.hid (TabsAt.below HT.out hb_)
    replace HB := Lib.hid (HB.out.trans (Below.mono hb_ HB.out.size))
    clear hb_
    go_wp2_with fail
    generalize s.extract 0 (min (s.size : Int) 20).toNat = t at hP hF hN ⊢
    refine (date_Parse.calls t _ _ _ HT.out hP.out).mono ?_
    rintro e w2 ⟨rfl, hb_⟩
    try replace hb_ := Drawn0.below hb_
    replace HT := Lib.hid (TabsAt.below HT.out hb_)
    replace HB := Lib.hid (HB.out.trans (Below.mono hb_ HB.out.size))
    clear hb_
    go_wp2_with fail
    refine (cashbookref04_May.calls KM a0 a1 a2 _ _ _ hM.out).mono ?_
    rintro e w3 ⟨rfl, hb_⟩
    try replace hb_ := Drawn0.below hb_
    replace HT := Lib.hid (TabsAt.below HT.out hb_)
    replace HB := Lib.hid (HB.out.trans (Below.mono hb_ HB.out.size))
    clear hb_
    go_wp2_with fail
    refine (cashbooklaw04_alive.calls 1 true _ HT.out (alive_f 0)).mono ?_
    rintro e w4 ⟨rfl, hb_⟩
    try replace hb_ := Drawn0.below hb_
    replace HT := Lib.hid (TabsAt.below HT.out hb_)
    replace HB := Lib.hid (HB.out.trans (Below.mono hb_ HB.out.size))
    clear hb_
    go_wp2_with fail
    refine (cashbookref04_Form.calls KF t _ _ hF.out).mono ?_
    rintro e w5 ⟨rfl, hb_⟩
    try replace hb_ := Drawn0.below hb_
    replace HT := Lib.hid (TabsAt.below HT.out hb_)
    replace HB := Lib.hid (HB.out.trans (Below.mono hb_ HB.out.size))
    clear hb_
    go_wp2_with fail
    go_ret
    exact ⟨rfl, HB.out⟩
set_option maxHeartbeats 1000000 in
set_option maxRecDepth 100000 in
/-- The text has a date's form. -/
theorem of_form (a0 a1 a2 : Int) (s : ByteArray) (w : World) (hT : TabsAt w) (KF K0 K1 K2 KX : Nat) (b0 b1 b2 p1 p2 m1 : Int) (m2 : Bool)
    (h10 : (s.extract 0 (min (s.size : Int) 20).toNat).size = 10) (hF0 : cashbookref04_Form.f KF (s.extract 0 (min (s.size : Int) 20).toNat) = some true)
    (hn0 : cashbookref04_Number.f K0 ((s.extract 0 (min (s.size : Int) 20).toNat).extract 0 4) = some b0) (hn1 : cashbookref04_Number.f K1 ((s.extract 0 (min (s.size : Int) 20).toNat).extract 5 7) = some b1)
    (hn2 : cashbookref04_Number.f K2 ((s.extract 0 (min (s.size : Int) 20).toNat).extract 8 (s.extract 0 (min (s.size : Int) 20).toNat).size) = some b2)
    (hp : date_Parse.f (s.extract 0 (min (s.size : Int) 20).toNat) = some (p1, p2)) (hmx : cashbookref04_May.f KX b0 b1 b2 = some (m1, m2))
    (hc : (m2 = true ∧ p2 = 0 ∧ m1 = p1) ∨ (m2 = false ∧ p2 = 11 ∧ p1 = 0)) :
    Calls Tryd.prog 11 #[.int .i64 a0, .int .i64 a1, .int .i64 a2, .string s] w (TruePost w) := by
  have HT := Lib.hid hT
  clear hT
  have hP := Lib.hid hp
  have hF := Lib.hid hF0
  have hN := Lib.hid h10
  have hN0 := Lib.hid hn0
  have hN1 := Lib.hid hn1
  have hN2 := Lib.hid hn2
  have hMX := Lib.hid hmx
  clear hp hF0 h10 hn0 hn1 hn2 hmx
  rcases hc with ⟨rfl, rfl, rfl⟩ | ⟨rfl, rfl, rfl⟩
  · skip
    obtain ⟨KM, hM⟩ := (may_ev a0 a1 a2).rounds
    unfold mayR at hM
    rcases joinR_snd a0 a1 a2 with ⟨j2, j3, j4⟩ | hj
    · obtain ⟨j, hJ⟩ : ∃ j, joinR a0 a1 a2 = (j, 0) := ⟨(joinR a0 a1 a2).1, by rw [← j2]⟩
      rw [hJ] at hM
      replace hM : Hid (cashbookref04_May.f KM a0 a1 a2 = some (j, true)) := Lib.hid hM
      replace hJ := Lib.hid hJ
      clear j2 j3 j4
      have HB := Lib.hid (Below.refl w.heap.size w)
      go_enter Tryd.func11, Tryd.ntmps11
      go_wp2_with fail
      refine (date_Join.calls 1 a0 a1 a2 _ _ _ HT.out ((join_f 0 a0 a1 a2).trans (congrArg some hJ.out))).mono ?_
      rintro e w1 ⟨rfl, hb_⟩
      try replace hb_ := Drawn0.below hb_
      replace HT := Lib.hid (TabsAt.below HT.out hb_)
      replace HB := Lib.hid (HB.out.trans (Below.mono hb_ HB.out.size))
      clear hb_
      go_wp2_with fail
      generalize s.extract 0 (min (s.size : Int) 20).toNat = t at hP hF hN hN0 hN1 hN2 ⊢
      have h04 : 4 ≤ t.size := by have := hN.out; omega
      have h07 : 7 ≤ t.size := by have := hN.out; omega
      have h08 : 8 ≤ t.size := by have := hN.out; omega
      refine (date_Parse.calls t _ _ _ HT.out hP.out).mono ?_
      rintro e w2 ⟨rfl, hb_⟩
      try replace hb_ := Drawn0.below hb_
      replace HT := Lib.hid (TabsAt.below HT.out hb_)
      replace HB := Lib.hid (HB.out.trans (Below.mono hb_ HB.out.size))
      clear hb_
      go_wp2_with fail
      refine (cashbookref04_May.calls KM a0 a1 a2 _ _ _ hM.out).mono ?_
      rintro e w3 ⟨rfl, hb_⟩
      try replace hb_ := Drawn0.below hb_
      replace HT := Lib.hid (TabsAt.below HT.out hb_)
      replace HB := Lib.hid (HB.out.trans (Below.mono hb_ HB.out.size))
      clear hb_
      go_wp2_with fail
      refine (cashbooklaw04_alive.calls 1 true _ HT.out (alive_f 0)).mono ?_
      rintro e w4 ⟨rfl, hb_⟩
      try replace hb_ := Drawn0.below hb_
      replace HT := Lib.hid (TabsAt.below HT.out hb_)
      replace HB := Lib.hid (HB.out.trans (Below.mono hb_ HB.out.size))
      clear hb_
      go_wp2_with fail
      refine (cashbookref04_Form.calls KF t _ _ hF.out).mono ?_
      rintro e w5 ⟨rfl, hb_⟩
      try replace hb_ := Drawn0.below hb_
      replace HT := Lib.hid (TabsAt.below HT.out hb_)
      replace HB := Lib.hid (HB.out.trans (Below.mono hb_ HB.out.size))
      clear hb_
      go_wp2_with fail
      have e0 : ∀ w : World, (Instr.slice 9 (.string t) none (some (.int .i64 4)) none).run Tryd.prog w = .ok (.string (t.extract 0 4)) w := fun w => by rw [run_slice_string_to_if _ _ _ _ _ (by kernel_rfl), if_pos (by omega)]; rfl
      have e1 : ∀ w : World, (Instr.slice 9 (.string t) (some (.int .i64 5)) (some (.int .i64 7)) none).run Tryd.prog w = .ok (.string (t.extract 5 7)) w := fun w => run_slice_string w 9 t .i64 .i64 5 7 (by kernel_rfl) (by omega) (by omega) (by omega)
      have e2 : ∀ w : World, (Instr.slice 9 (.string t) (some (.int .i64 8)) none none).run Tryd.prog w = .ok (.string (t.extract 8 t.size)) w := fun w => by rw [run_slice_string_from_if _ _ _ _ _ (by kernel_rfl), if_pos (by omega)]; rfl
      generalize t.extract 0 4 = s0 at hN0 e0
      generalize t.extract 5 7 = s1 at hN1 e1
      generalize t.extract 8 t.size = s2 at hN2 e2
      have hQ0 := Lib.hid (fun W => cashbookref04_Number.calls K0 s0 b0 W hN0.out)
      have hQ1 := Lib.hid (fun W => cashbookref04_Number.calls K1 s1 b1 W hN1.out)
      have hQ2 := Lib.hid (fun W => cashbookref04_Number.calls K2 s2 b2 W hN2.out)
      have hQ3 := Lib.hid (fun W => cashbookref04_May.calls KX b0 b1 b2 _ _ W hMX.out)
      go_quiet ((first | (go_at_call_of 51 (Value.string s0); exact quiet_d hQ0.out) | (go_at_call_of 51 (Value.string s1); exact quiet_d hQ1.out) | (go_at_call_of 51 (Value.string s2); exact quiet_d hQ2.out) | (go_at_call 47; exact quiet_d hQ3.out)))
      clear e0 e1 e2
      go_wp2_with fail
      go_ret
      exact ⟨rfl, pw_below_drewN HB.out _⟩
    · rw [hj] at hM
      replace hM : Hid (cashbookref04_May.f KM a0 a1 a2 = some (0, false)) := Lib.hid hM
      have hJ := Lib.hid hj
      clear hj
      have HB := Lib.hid (Below.refl w.heap.size w)
      go_enter Tryd.func11, Tryd.ntmps11
      go_wp2_with fail
      refine (date_Join.calls 1 a0 a1 a2 _ _ _ HT.out ((join_f 0 a0 a1 a2).trans (congrArg some hJ.out))).mono ?_
      rintro e w1 ⟨rfl, hb_⟩
      try replace hb_ := Drawn0.below hb_
      replace HT := Lib.hid (TabsAt.below HT.out hb_)
      replace HB := Lib.hid (HB.out.trans (Below.mono hb_ HB.out.size))
      clear hb_
      go_wp2_with fail
      generalize s.extract 0 (min (s.size : Int) 20).toNat = t at hP hF hN hN0 hN1 hN2 ⊢
      have h04 : 4 ≤ t.size := by have := hN.out; omega
      have h07 : 7 ≤ t.size := by have := hN.out; omega
      have h08 : 8 ≤ t.size := by have := hN.out; omega
      refine (date_Parse.calls t _ _ _ HT.out hP.out).mono ?_
      rintro e w2 ⟨rfl, hb_⟩
      try replace hb_ := Drawn0.below hb_
      replace HT := Lib.hid (TabsAt.below HT.out hb_)
      replace HB := Lib.hid (HB.out.trans (Below.mono hb_ HB.out.size))
      clear hb_
      go_wp2_with fail
      refine (cashbookref04_May.calls KM a0 a1 a2 _ _ _ hM.out).mono ?_
      rintro e w3 ⟨rfl, hb_⟩
      try replace hb_ := Drawn0.below hb_
      replace HT := Lib.hid (TabsAt.below HT.out hb_)
      replace HB := Lib.hid (HB.out.trans (Below.mono hb_ HB.out.size))
      clear hb_
      go_wp2_with fail
      refine (cashbooklaw04_alive.calls 1 true _ HT.out (alive_f 0)).mono ?_
      rintro e w4 ⟨rfl, hb_⟩
      try replace hb_ := Drawn0.below hb_
      replace HT := Lib.hid (TabsAt.below HT.out hb_)
      replace HB := Lib.hid (HB.out.trans (Below.mono hb_ HB.out.size))
      clear hb_
      go_wp2_with fail
      refine (cashbookref04_Form.calls KF t _ _ hF.out).mono ?_
      rintro e w5 ⟨rfl, hb_⟩
      try replace hb_ := Drawn0.below hb_
      replace HT := Lib.hid (TabsAt.below HT.out hb_)
      replace HB := Lib.hid (HB.out.trans (Below.mono hb_ HB.out.size))
      clear hb_
      go_wp2_with fail
      have e0 : ∀ w : World, (Instr.slice 9 (.string t) none (some (.int .i64 4)) none).run Tryd.prog w = .ok (.string (t.extract 0 4)) w := fun w => by rw [run_slice_string_to_if _ _ _ _ _ (by kernel_rfl), if_pos (by omega)]; rfl
      have e1 : ∀ w : World, (Instr.slice 9 (.string t) (some (.int .i64 5)) (some (.int .i64 7)) none).run Tryd.prog w = .ok (.string (t.extract 5 7)) w := fun w => run_slice_string w 9 t .i64 .i64 5 7 (by kernel_rfl) (by omega) (by omega) (by omega)
      have e2 : ∀ w : World, (Instr.slice 9 (.string t) (some (.int .i64 8)) none none).run Tryd.prog w = .ok (.string (t.extract 8 t.size)) w := fun w => by rw [run_slice_string_from_if _ _ _ _ _ (by kernel_rfl), if_pos (by omega)]; rfl
      generalize t.extract 0 4 = s0 at hN0 e0
      generalize t.extract 5 7 = s1 at hN1 e1
      generalize t.extract 8 t.size = s2 at hN2 e2
      have hQ0 := Lib.hid (fun W => cashbookref04_Number.calls K0 s0 b0 W hN0.out)
      have hQ1 := Lib.hid (fun W => cashbookref04_Number.calls K1 s1 b1 W hN1.out)
      have hQ2 := Lib.hid (fun W => cashbookref04_Number.calls K2 s2 b2 W hN2.out)
      have hQ3 := Lib.hid (fun W => cashbookref04_May.calls KX b0 b1 b2 _ _ W hMX.out)
      go_quiet ((first | (go_at_call_of 51 (Value.string s0); exact quiet_d hQ0.out) | (go_at_call_of 51 (Value.string s1); exact quiet_d hQ1.out) | (go_at_call_of 51 (Value.string s2); exact quiet_d hQ2.out) | (go_at_call 47; exact quiet_d hQ3.out)))
      clear e0 e1 e2
      go_wp2_with fail
      go_ret
      exact ⟨rfl, pw_below_drewN HB.out _⟩
  · skip
    obtain ⟨KM, hM⟩ := (may_ev a0 a1 a2).rounds
    unfold mayR at hM
    rcases joinR_snd a0 a1 a2 with ⟨j2, j3, j4⟩ | hj
    · obtain ⟨j, hJ⟩ : ∃ j, joinR a0 a1 a2 = (j, 0) := ⟨(joinR a0 a1 a2).1, by rw [← j2]⟩
      rw [hJ] at hM
      replace hM : Hid (cashbookref04_May.f KM a0 a1 a2 = some (j, true)) := Lib.hid hM
      replace hJ := Lib.hid hJ
      clear j2 j3 j4
      have HB := Lib.hid (Below.refl w.heap.size w)
      go_enter Tryd.func11, Tryd.ntmps11
      go_wp2_with fail
      refine (date_Join.calls 1 a0 a1 a2 _ _ _ HT.out ((join_f 0 a0 a1 a2).trans (congrArg some hJ.out))).mono ?_
      rintro e w1 ⟨rfl, hb_⟩
      try replace hb_ := Drawn0.below hb_
      replace HT := Lib.hid (TabsAt.below HT.out hb_)
      replace HB := Lib.hid (HB.out.trans (Below.mono hb_ HB.out.size))
      clear hb_
      go_wp2_with fail
      generalize s.extract 0 (min (s.size : Int) 20).toNat = t at hP hF hN hN0 hN1 hN2 ⊢
      have h04 : 4 ≤ t.size := by have := hN.out; omega
      have h07 : 7 ≤ t.size := by have := hN.out; omega
      have h08 : 8 ≤ t.size := by have := hN.out; omega
      refine (date_Parse.calls t _ _ _ HT.out hP.out).mono ?_
      rintro e w2 ⟨rfl, hb_⟩
      try replace hb_ := Drawn0.below hb_
      replace HT := Lib.hid (TabsAt.below HT.out hb_)
      replace HB := Lib.hid (HB.out.trans (Below.mono hb_ HB.out.size))
      clear hb_
      go_wp2_with fail
      refine (cashbookref04_May.calls KM a0 a1 a2 _ _ _ hM.out).mono ?_
      rintro e w3 ⟨rfl, hb_⟩
      try replace hb_ := Drawn0.below hb_
      replace HT := Lib.hid (TabsAt.below HT.out hb_)
      replace HB := Lib.hid (HB.out.trans (Below.mono hb_ HB.out.size))
      clear hb_
      go_wp2_with fail
      refine (cashbooklaw04_alive.calls 1 true _ HT.out (alive_f 0)).mono ?_
      rintro e w4 ⟨rfl, hb_⟩
      try replace hb_ := Drawn0.below hb_
      replace HT := Lib.hid (TabsAt.below HT.out hb_)
      replace HB := Lib.hid (HB.out.trans (Below.mono hb_ HB.out.size))
      clear hb_
      go_wp2_with fail
      refine (cashbookref04_Form.calls KF t _ _ hF.out).mono ?_
      rintro e w5 ⟨rfl, hb_⟩
      try replace hb_ := Drawn0.below hb_
      replace HT := Lib.hid (TabsAt.below HT.out hb_)
      replace HB := Lib.hid (HB.out.trans (Below.mono hb_ HB.out.size))
      clear hb_
      go_wp2_with fail
      have e0 : ∀ w : World, (Instr.slice 9 (.string t) none (some (.int .i64 4)) none).run Tryd.prog w = .ok (.string (t.extract 0 4)) w := fun w => by rw [run_slice_string_to_if _ _ _ _ _ (by kernel_rfl), if_pos (by omega)]; rfl
      have e1 : ∀ w : World, (Instr.slice 9 (.string t) (some (.int .i64 5)) (some (.int .i64 7)) none).run Tryd.prog w = .ok (.string (t.extract 5 7)) w := fun w => run_slice_string w 9 t .i64 .i64 5 7 (by kernel_rfl) (by omega) (by omega) (by omega)
      have e2 : ∀ w : World, (Instr.slice 9 (.string t) (some (.int .i64 8)) none none).run Tryd.prog w = .ok (.string (t.extract 8 t.size)) w := fun w => by rw [run_slice_string_from_if _ _ _ _ _ (by kernel_rfl), if_pos (by omega)]; rfl
      generalize t.extract 0 4 = s0 at hN0 e0
      generalize t.extract 5 7 = s1 at hN1 e1
      generalize t.extract 8 t.size = s2 at hN2 e2
      have hQ0 := Lib.hid (fun W => cashbookref04_Number.calls K0 s0 b0 W hN0.out)
      have hQ1 := Lib.hid (fun W => cashbookref04_Number.calls K1 s1 b1 W hN1.out)
      have hQ2 := Lib.hid (fun W => cashbookref04_Number.calls K2 s2 b2 W hN2.out)
      have hQ3 := Lib.hid (fun W => cashbookref04_May.calls KX b0 b1 b2 _ _ W hMX.out)
      go_quiet ((first | (go_at_call_of 51 (Value.string s0); exact quiet_d hQ0.out) | (go_at_call_of 51 (Value.string s1); exact quiet_d hQ1.out) | (go_at_call_of 51 (Value.string s2); exact quiet_d hQ2.out) | (go_at_call 47; exact quiet_d hQ3.out)))
      clear e0 e1 e2
      go_wp2_with fail
      go_ret
      exact ⟨rfl, pw_below_drewN HB.out _⟩
    · rw [hj] at hM
      replace hM : Hid (cashbookref04_May.f KM a0 a1 a2 = some (0, false)) := Lib.hid hM
      have hJ := Lib.hid hj
      clear hj
      have HB := Lib.hid (Below.refl w.heap.size w)
      go_enter Tryd.func11, Tryd.ntmps11
      go_wp2_with fail
      refine (date_Join.calls 1 a0 a1 a2 _ _ _ HT.out ((join_f 0 a0 a1 a2).trans (congrArg some hJ.out))).mono ?_
      rintro e w1 ⟨rfl, hb_⟩
      try replace hb_ := Drawn0.below hb_
      replace HT := Lib.hid (TabsAt.below HT.out hb_)
      replace HB := Lib.hid (HB.out.trans (Below.mono hb_ HB.out.size))
      clear hb_
      go_wp2_with fail
      generalize s.extract 0 (min (s.size : Int) 20).toNat = t at hP hF hN hN0 hN1 hN2 ⊢
      have h04 : 4 ≤ t.size := by have := hN.out; omega
      have h07 : 7 ≤ t.size := by have := hN.out; omega
      have h08 : 8 ≤ t.size := by have := hN.out; omega
      refine (date_Parse.calls t _ _ _ HT.out hP.out).mono ?_
      rintro e w2 ⟨rfl, hb_⟩
      try replace hb_ := Drawn0.below hb_
      replace HT := Lib.hid (TabsAt.below HT.out hb_)
      replace HB := Lib.hid (HB.out.trans (Below.mono hb_ HB.out.size))
      clear hb_
      go_wp2_with fail
      refine (cashbookref04_May.calls KM a0 a1 a2 _ _ _ hM.out).mono ?_
      rintro e w3 ⟨rfl, hb_⟩
      try replace hb_ := Drawn0.below hb_
      replace HT := Lib.hid (TabsAt.below HT.out hb_)
      replace HB := Lib.hid (HB.out.trans (Below.mono hb_ HB.out.size))
      clear hb_
      go_wp2_with fail
      refine (cashbooklaw04_alive.calls 1 true _ HT.out (alive_f 0)).mono ?_
      rintro e w4 ⟨rfl, hb_⟩
      try replace hb_ := Drawn0.below hb_
      replace HT := Lib.hid (TabsAt.below HT.out hb_)
      replace HB := Lib.hid (HB.out.trans (Below.mono hb_ HB.out.size))
      clear hb_
      go_wp2_with fail
      refine (cashbookref04_Form.calls KF t _ _ hF.out).mono ?_
      rintro e w5 ⟨rfl, hb_⟩
      try replace hb_ := Drawn0.below hb_
      replace HT := Lib.hid (TabsAt.below HT.out hb_)
      replace HB := Lib.hid (HB.out.trans (Below.mono hb_ HB.out.size))
      clear hb_
      go_wp2_with fail
      have e0 : ∀ w : World, (Instr.slice 9 (.string t) none (some (.int .i64 4)) none).run Tryd.prog w = .ok (.string (t.extract 0 4)) w := fun w => by rw [run_slice_string_to_if _ _ _ _ _ (by kernel_rfl), if_pos (by omega)]; rfl
      have e1 : ∀ w : World, (Instr.slice 9 (.string t) (some (.int .i64 5)) (some (.int .i64 7)) none).run Tryd.prog w = .ok (.string (t.extract 5 7)) w := fun w => run_slice_string w 9 t .i64 .i64 5 7 (by kernel_rfl) (by omega) (by omega) (by omega)
      have e2 : ∀ w : World, (Instr.slice 9 (.string t) (some (.int .i64 8)) none none).run Tryd.prog w = .ok (.string (t.extract 8 t.size)) w := fun w => by rw [run_slice_string_from_if _ _ _ _ _ (by kernel_rfl), if_pos (by omega)]; rfl
      generalize t.extract 0 4 = s0 at hN0 e0
      generalize t.extract 5 7 = s1 at hN1 e1
      generalize t.extract 8 t.size = s2 at hN2 e2
      have hQ0 := Lib.hid (fun W => cashbookref04_Number.calls K0 s0 b0 W hN0.out)
      have hQ1 := Lib.hid (fun W => cashbookref04_Number.calls K1 s1 b1 W hN1.out)
      have hQ2 := Lib.hid (fun W => cashbookref04_Number.calls K2 s2 b2 W hN2.out)
      have hQ3 := Lib.hid (fun W => cashbookref04_May.calls KX b0 b1 b2 _ _ W hMX.out)
      go_quiet ((first | (go_at_call_of 51 (Value.string s0); exact quiet_d hQ0.out) | (go_at_call_of 51 (Value.string s1); exact quiet_d hQ1.out) | (go_at_call_of 51 (Value.string s2); exact quiet_d hQ2.out) | (go_at_call 47; exact quiet_d hQ3.out)))
      clear e0 e1 e2
      go_wp2_with fail
      go_ret
      exact ⟨rfl, pw_below_drewN HB.out _⟩
theorem of_calls (a0 a1 a2 : Int) (s : ByteArray) (r : Bool) (w : World) (hT : TabsAt w) (h : true = r) :
    Calls Tryd.prog 11 #[.int .i64 a0, .int .i64 a1, .int .i64 a2, .string s] w fun e w' => e = .returned (.bool r) ∧ Below w.heap.size w w' := by
  subst h
  cases hf : formB (s.extract 0 (min (s.size : Int) 20).toNat) with
  | false => exact of_noform a0 a1 a2 s w hT hf
  | true =>
    obtain ⟨h10, b0, b1, b2, ⟨K0, n0⟩, ⟨K1, n1⟩, ⟨K2, n2⟩, hp, KX, hm⟩ := form_all _ hf
    obtain ⟨KF, hF⟩ := (form_ev (s.extract 0 (min (s.size : Int) 20).toNat)).rounds
    rw [hf] at hF
    have hP : date_Parse.f (s.extract 0 (min (s.size : Int) 20).toNat) = some ((joinR b0 b1 b2).1, (joinR b0 b1 b2).2) := by unfold date_Parse.f; rw [hp]
    have hc : ((mayR b0 b1 b2).2 = true ∧ (joinR b0 b1 b2).2 = 0 ∧ (mayR b0 b1 b2).1 = (joinR b0 b1 b2).1) ∨ ((mayR b0 b1 b2).2 = false ∧ (joinR b0 b1 b2).2 = 11 ∧ (joinR b0 b1 b2).1 = 0) := by
      rcases joinR_snd b0 b1 b2 with ⟨j2, _⟩ | hj
      · have e : mayR b0 b1 b2 = ((joinR b0 b1 b2).1, true) := by unfold mayR; rw [if_pos j2]
        left; rw [e]; exact ⟨rfl, j2, rfl⟩
      · have e : mayR b0 b1 b2 = (0, false) := by unfold mayR; rw [hj]; rfl
        right; rw [e, hj]; exact ⟨rfl, rfl, rfl⟩
    exact of_form a0 a1 a2 s w hT KF K0 K1 K2 KX b0 b1 b2 _ _ _ _ h10 hF n0 n1 n2 hP hm hc
end Go.Proofs.YtamfbfhkojnafaaDoor
