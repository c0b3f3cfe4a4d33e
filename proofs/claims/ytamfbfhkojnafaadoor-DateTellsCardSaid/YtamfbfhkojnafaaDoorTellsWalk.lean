import Derived.Test.YtamfbfhkojnafaaDoorDateF
import Derived.Test.YtamfbfhkojnafaaDoorDateQ
import Derived.Lib.Hide
import Derived.Deep.QuietTactic
import Derived.BigQuiet
import Derived.Outline
namespace Go.Proofs.YtamfbfhkojnafaaDoor
open Go.RowKit Go.Proofs.YtamfbfhkojnafaaDoor.PD4 Go.Proofs.YtamfbfhkojnafaaDoorW.PrintWords
set_option linter.unusedVariables false
set_option linter.unusedSimpArgs false
theorem quiet_d {P : Program} {f : FuncId} {args : Array Value} {v : Value} (h : ∀ W, Calls P f args W fun e w' => e = .returned v ∧ Drawn0 W w') {w : World} {n : Nat} : Calls P f args (w.drewN n) fun e w'' => e = .returned v ∧ ∃ m, w'' = w.drewN m :=
  Calls.quiet_of ((h _).mono fun e w' ⟨he, hd⟩ => ⟨he, by obtain ⟨m, rfl⟩ := hd; exact ⟨m, rfl⟩⟩)
def TruePost (w : World) (e : Ending) (w' : World) : Prop := e = .returned (.bool true) ∧ Below w.heap.size w w'
theorem dright_f (a : Int) : date_Right.f a = some (decide (-50000 ≤ a ∧ a ≤ 50000)) := by
  unfold date_Right.f
  by_cases h : a ≥ -50000
  · rw [if_pos h]; congr 1; rw [decide_eq_decide]; omega
  · rw [if_neg h]; congr 1; symm; rw [decide_eq_false_iff_not]; omega
theorem rright_g (a : Int) : PD4.cashbookref04_Right.f a = some (decide (-50000 ≤ a ∧ a ≤ 50000)) := by
  unfold PD4.cashbookref04_Right.f
  by_cases h : a ≥ -50000
  · rw [if_pos h]; congr 1; rw [decide_eq_decide]; omega
  · rw [if_neg h]; congr 1; symm; rw [decide_eq_false_iff_not]; omega
theorem spl_no (x : Int) (h : ¬ (-50000 ≤ x ∧ x ≤ 50000)) : PD4.date_Split.f x = some (0, 0, 0, 11) := by
  show Go.Proofs.YtamfbfhkojnafaaDoor.date_Split.f x = _
  unfold Go.Proofs.YtamfbfhkojnafaaDoor.date_Split.f dayB
  rw [decide_eq_false h]; rfl
theorem HeldP.carry {w V V1 : World} {g : Nat} {y m d : Int} (h : HeldP w g y m d V) (hb : Below V.heap.size V V1) : HeldP w g y m d V1 :=
  ⟨by rw [hb.cell (p := ⟨g, 0, none⟩) h.lt]; exact h.c0, by rw [hb.cell (p := ⟨g, 1, none⟩) h.lt]; exact h.c1, by rw [hb.cell (p := ⟨g, 2, none⟩) h.lt]; exact h.c2, Nat.lt_of_lt_of_le h.lt hb.size, h.below.trans (Below.mono hb h.below.size)⟩
theorem heldP_new {w V : World} {y m d : Int} (h : Below w.heap.size w V) : HeldP w V.heap.size y m d (V.alloc (.cells #[.int .i64 y, .int .i64 m, .int .i64 d] 64)) :=
  ⟨by go_simp, by go_simp, by go_simp, by simp, h.alloc h.size _⟩
theorem text_eq (y m d : Nat) : refText y m d = ⟨(textL y m d).toArray⟩ := by
  unfold refText twoS textL
  have e1 : ((y : Int) / 100).toNat = y / 100 := by omega
  have e2 : ((y : Int) % 100).toNat = y % 100 := by omega
  rw [e1, e2, Int.toNat_natCast, Int.toNat_natCast]
  apply ByteArray.ext
  simp [ByteArray.data_append]
set_option maxHeartbeats 1000000 in
set_option maxRecDepth 100000 in
theorem tellsD_no (x : Int) (w : World) (hT : TabsAt w) (h : ¬ (-50000 ≤ x ∧ x ≤ 50000)) :
    Calls Tryd.prog 10 #[.int .i32 x] w (TruePost w) := by
  have HT := Lib.hid hT
  clear hT
  have h1 := Lib.hid (spl_no x h)
  have h2 : Hid (PD4.date_Weekday.f x = some (0, 11)) := Lib.hid (by unfold PD4.date_Weekday.f; rw [dright_f, decide_eq_false h]; rfl)
  have h3 : Hid (PD4.date_MonthEnd.f 1 x = some (0, 11)) := Lib.hid (by unfold PD4.date_MonthEnd.f; rw [spl_no x h]; rfl)
  have h4 : Hid (PD4.date_Print.f x = some (⟨#[]⟩, 11)) := Lib.hid (by unfold PD4.date_Print.f; rw [spl_no x h]; rfl)
  have h5 : Hid (PD4.date_Right.f x = some false) := Lib.hid (by rw [dright_f, decide_eq_false h])
  have h6 : Hid (PD4.cashbookref04_Right.f x = some false) := Lib.hid (by rw [rright_g, decide_eq_false h])
  clear h
  have HB := Lib.hid (Below.refl w.heap.size w)
  go_enter Tryd.func10, Tryd.ntmps10
  go_wp2_with fail
  refine (PD4.date_Split.calls x _ _ _ _ _ HT.out h1.out).mono ?_
  rintro e w1 ⟨rfl, hb_⟩
  try replace hb_ := Drawn0.below hb_
  replace HT := Lib.hid (TabsAt.below HT.out hb_)
  replace HB := Lib.hid (HB.out.trans (Below.mono hb_ HB.out.size))
  clear hb_
  go_wp2_with fail
  refine (PD4.date_Weekday.calls x _ _ _ h2.out).mono ?_
  rintro e w2 ⟨rfl, hb_⟩
  try replace hb_ := Drawn0.below hb_
  replace HT := Lib.hid (TabsAt.below HT.out hb_)
  replace HB := Lib.hid (HB.out.trans (Below.mono hb_ HB.out.size))
  clear hb_
  go_wp2_with fail
  refine (PD4.date_MonthEnd.calls 1 x _ _ _ HT.out h3.out).mono ?_
  rintro e w3 ⟨rfl, hb_⟩
  try replace hb_ := Drawn0.below hb_
  replace HT := Lib.hid (TabsAt.below HT.out hb_)
  replace HB := Lib.hid (HB.out.trans (Below.mono hb_ HB.out.size))
  clear hb_
  go_wp2_with fail
  refine (PD4.date_Print.calls x _ _ _ HT.out h4.out).mono ?_
  rintro e w4 ⟨rfl, hb_⟩
  try replace hb_ := Drawn0.below hb_
  replace HT := Lib.hid (TabsAt.below HT.out hb_)
  replace HB := Lib.hid (HB.out.trans (Below.mono hb_ HB.out.size))
  clear hb_
  go_wp2_with fail
  refine (PD4.date_Right.calls x _ _ h5.out).mono ?_
  rintro e w5 ⟨rfl, hb_⟩
  try replace hb_ := Drawn0.below hb_
  replace HT := Lib.hid (TabsAt.below HT.out hb_)
  replace HB := Lib.hid (HB.out.trans (Below.mono hb_ HB.out.size))
  clear hb_
  go_wp2_with fail
  refine (PD4.cashbookref04_Right.calls x _ _ h6.out).mono ?_
  rintro e w6 ⟨rfl, hb_⟩
  try replace hb_ := Drawn0.below hb_
  replace HT := Lib.hid (TabsAt.below HT.out hb_)
  replace HB := Lib.hid (HB.out.trans (Below.mono hb_ HB.out.size))
  clear hb_
  go_wp2_with fail
  refine (PD4.cashbooklaw04_alive.calls 1 true _ HT.out (alive_f 0)).mono ?_
  rintro e w7 ⟨rfl, hb_⟩
  try replace hb_ := Drawn0.below hb_
  replace HT := Lib.hid (TabsAt.below HT.out hb_)
  replace HB := Lib.hid (HB.out.trans (Below.mono hb_ HB.out.size))
  clear hb_
  go_wp2_with fail
  refine (PD4.cashbookref04_Right.calls x _ _ h6.out).mono ?_
  rintro e w8 ⟨rfl, hb_⟩
  try replace hb_ := Drawn0.below hb_
  replace HT := Lib.hid (TabsAt.below HT.out hb_)
  replace HB := Lib.hid (HB.out.trans (Below.mono hb_ HB.out.size))
  clear hb_
  go_wp2_with fail
  go_ret
  exact ⟨rfl, HB.out⟩

theorem rwday_f (d : Int) (h1 : -50000 ≤ d) (h2 : d ≤ 50000) : PD4.cashbookref04_Weekday.f d = some ((d + 50006) % 7) := by
  unfold PD4.cashbookref04_Weekday.f
  congr 1
  rw [w64_s (i := d) (by omega) (by omega), tmod_r d 7]
  by_cases h : 0 ≤ d
  · rw [if_pos h, w64_s (i := d % 7 + 7) (by omega) (by omega), w64_s (i := d % 7 + 7 + 5) (by omega) (by omega), tmod_r, if_pos (by omega)]; omega
  · rw [if_neg h, w64_s (i := -(-d % 7) + 7) (by omega) (by omega), w64_s (i := -(-d % 7) + 7 + 5) (by omega) (by omega), tmod_r, if_pos (by omega)]; omega
theorem pwday_f (d : Int) (h1 : -50000 ≤ d) (h2 : d ≤ 50000) : PD4.date_Weekday.f d = some ((d + 50006) % 7, 0) := by
  unfold PD4.date_Weekday.f
  rw [dright_f, decide_eq_true ⟨h1, h2⟩, Option.bind_some, if_pos rfl, w32_s (by omega) (by omega), w64_s (i := d - -50000) (by omega) (by omega), w64_s (by omega) (by omega), tmod_r, if_pos (by omega)]
  congr 2; omega
theorem rdays_drawn (y m : Int) (w : World) (h1 : 1 ≤ m) (h2 : m ≤ 12) : Calls Tryd.prog 48 #[.int .i64 y, .int .i64 m] w fun e w' => e = .returned (.int .i64 (ml y m)) ∧ Drawn0 w w' :=
  PD4.cashbookref04_Days.calls y m _ w (rdays_f y m h1 h2)
set_option maxHeartbeats 1000000 in
set_option maxRecDepth 100000 in
theorem tellsD_yes (x y m k : Int) (w : World) (hT : TabsAt w) (x1 : -50000 ≤ x) (x2 : x ≤ 50000) (hc : Civ x y m k) :
    Calls Tryd.prog 10 #[.int .i32 x] w (TruePost w) := by
  have HT := Lib.hid hT
  clear hT
  have hy := PD4.year_bd hc (by omega) (by omega)
  have hmb := PD4.ml_bd y m hc.1 hc.2.1
  have hparts : Hid (∀ W, Calls Tryd.prog 44 #[.int .i32 x] W fun e w' => e = .returned (.agg #[.int .i64 y, .int .i64 m, .int .i64 k]) ∧ Below W.heap.size W w') := Lib.hid (fun W => (parts_calls x W x1 x2).mono (by
    rintro e w' ⟨y', m', d', he, hc', hb⟩
    obtain ⟨rfl, rfl, rfl⟩ := civ_unique hc'.out hc
    exact ⟨he, hb⟩))
  have hsp : PD4.date_Split.f x = some (y, m, k, 0) := by
    obtain ⟨y', m', d', hs, hc'⟩ := PD4.split_f x x1 x2
    obtain ⟨rfl, rfl, rfl⟩ := civ_unique hc' hc
    exact hs
  have h1 := Lib.hid hsp
  have h2 := Lib.hid (pwday_f x x1 x2)
  have h5 : Hid (PD4.date_Right.f x = some true) := Lib.hid (by rw [dright_f, decide_eq_true ⟨x1, x2⟩])
  have h6 : Hid (PD4.cashbookref04_Right.f x = some true) := Lib.hid (by rw [rright_g, decide_eq_true ⟨x1, x2⟩])
  have h7 := Lib.hid (rwday_f x x1 x2)
  have hpt : PD4.date_Print.f x = some (refText y m k, 0) := by
    obtain ⟨yn, rfl⟩ := Int.eq_ofNat_of_zero_le (show 0 ≤ y by omega)
    obtain ⟨mn, rfl⟩ := Int.eq_ofNat_of_zero_le (show 0 ≤ m by have := hc.1; omega)
    obtain ⟨kn, rfl⟩ := Int.eq_ofNat_of_zero_le (show 0 ≤ k by have := hc.2.2.1; omega)
    rw [text_eq]
    exact PD4.print_f x x1 x2 yn mn kn hc ⟨by omega, by omega⟩
  have h4 := Lib.hid hpt
  have h8 := Lib.hid (fun W => refPrint_calls x y m k W x1 x2 hc)
  generalize refText y m k = TT at h4 h8
  generalize (x + 50006) % 7 = WD at h2 h7
  obtain ⟨KM, hM⟩ := (may_ev y m (ml y m)).rounds
  unfold mayR at hM
  have he := PD4.end_f 0 x y m k x1 x2 hc
  have m1 := hc.1
  have m2 := hc.2.1
  have h9 := Lib.hid (fun W => rdays_drawn y m W m1 m2)
  generalize ml y m = E at hM he h9
  clear hc hsp hpt hmb hy x1 x2
  rcases PD4.joinR_snd y m E with ⟨j2, j3, j4⟩ | hj
  · obtain ⟨j, hJ⟩ : ∃ j, joinR y m E = (j, 0) := ⟨(joinR y m E).1, by rw [← j2]⟩
    rw [hJ] at hM he
    have h3 := Lib.hid he
    have h10 : Hid (∀ W, Calls Tryd.prog 47 #[.int .i64 y, .int .i64 m, .int .i64 E] W fun e w' => e = .returned (.tuple #[.int .i32 j, .bool true]) ∧ Drawn0 W w') := Lib.hid (fun W => PD4.cashbookref04_May.calls KM y m E _ _ W hM)
    clear he hM hJ j2 j3 j4 m1 m2
    have HB := Lib.hid (Below.refl w.heap.size w)
    go_enter Tryd.func10, Tryd.ntmps10
    go_wp2_with fail
    refine (PD4.date_Split.calls x _ _ _ _ _ HT.out h1.out).mono ?_
    rintro e w1 ⟨rfl, hb_⟩
    try replace hb_ := Drawn0.below hb_
    replace HT := Lib.hid (TabsAt.below HT.out hb_)
    replace HB := Lib.hid (HB.out.trans (Below.mono hb_ HB.out.size))
    clear hb_
    go_wp2_with fail
    refine (PD4.date_Weekday.calls x _ _ _ h2.out).mono ?_
    rintro e w2 ⟨rfl, hb_⟩
    try replace hb_ := Drawn0.below hb_
    replace HT := Lib.hid (TabsAt.below HT.out hb_)
    replace HB := Lib.hid (HB.out.trans (Below.mono hb_ HB.out.size))
    clear hb_
    go_wp2_with fail
    refine (PD4.date_MonthEnd.calls 1 x _ _ _ HT.out h3.out).mono ?_
    rintro e w3 ⟨rfl, hb_⟩
    try replace hb_ := Drawn0.below hb_
    replace HT := Lib.hid (TabsAt.below HT.out hb_)
    replace HB := Lib.hid (HB.out.trans (Below.mono hb_ HB.out.size))
    clear hb_
    go_wp2_with fail
    refine (PD4.date_Print.calls x _ _ _ HT.out h4.out).mono ?_
    rintro e w4 ⟨rfl, hb_⟩
    try replace hb_ := Drawn0.below hb_
    replace HT := Lib.hid (TabsAt.below HT.out hb_)
    replace HB := Lib.hid (HB.out.trans (Below.mono hb_ HB.out.size))
    clear hb_
    go_wp2_with fail
    refine (PD4.date_Right.calls x _ _ h5.out).mono ?_
    rintro e w5 ⟨rfl, hb_⟩
    try replace hb_ := Drawn0.below hb_
    replace HT := Lib.hid (TabsAt.below HT.out hb_)
    replace HB := Lib.hid (HB.out.trans (Below.mono hb_ HB.out.size))
    clear hb_
    go_wp2_with fail
    refine (PD4.cashbookref04_Right.calls x _ _ h6.out).mono ?_
    rintro e w6 ⟨rfl, hb_⟩
    try replace hb_ := Drawn0.below hb_
    replace HT := Lib.hid (TabsAt.below HT.out hb_)
    replace HB := Lib.hid (HB.out.trans (Below.mono hb_ HB.out.size))
    clear hb_
    go_wp2_with fail
    refine (PD4.cashbooklaw04_alive.calls 1 true _ HT.out (alive_f 0)).mono ?_
    rintro e w7 ⟨rfl, hb_⟩
    try replace hb_ := Drawn0.below hb_
    replace HT := Lib.hid (TabsAt.below HT.out hb_)
    replace HB := Lib.hid (HB.out.trans (Below.mono hb_ HB.out.size))
    clear hb_
    go_wp2_with fail
    refine (PD4.cashbookref04_Right.calls x _ _ h6.out).mono ?_
    rintro e w8 ⟨rfl, hb_⟩
    try replace hb_ := Drawn0.below hb_
    replace HT := Lib.hid (TabsAt.below HT.out hb_)
    replace HB := Lib.hid (HB.out.trans (Below.mono hb_ HB.out.size))
    clear hb_
    go_wp2_with fail
    refine (hparts.out _).mono ?_
    rintro e w9 ⟨rfl, hb_⟩
    try replace hb_ := Drawn0.below hb_
    replace HT := Lib.hid (TabsAt.below HT.out hb_)
    replace HB := Lib.hid (HB.out.trans (Below.mono hb_ HB.out.size))
    clear hb_
    go_wp2_with fail
    have hH := Lib.hid (heldP_new HB.out (y := y) (m := m) (d := k))
    generalize (w9.alloc (.cells #[.int .i64 y, .int .i64 m, .int .i64 k] 64)) = V at hH ⊢
    generalize w9.heap.size = g at hH ⊢
    clear HB
    refine (PD4.cashbookref04_Weekday.calls x _ _ h7.out).mono ?_
    rintro e w10 ⟨rfl, hd_⟩
    replace hH := Lib.hid (hH.out.carry hd_.below)
    clear hd_
    go_wp2_with fail
    refine (h8.out _).mono ?_
    rintro e w11 ⟨rfl, hb_⟩
    replace hH := Lib.hid (hH.out.carry hb_)
    clear hb_
    have q0 := hH.out.c0
    have q1 := hH.out.c1
    have q2 := hH.out.c2
    go_wp2_with fail
    go_quiet ((first | (go_at_call 48; exact quiet_d h9.out) | (go_at_call 47; exact quiet_d h10.out)))
    go_wp2_with fail
    go_ret
    exact ⟨rfl, pw_below_drewN hH.out.below _⟩
  · rw [hj] at hM he
    have h3 := Lib.hid he
    have h10 : Hid (∀ W, Calls Tryd.prog 47 #[.int .i64 y, .int .i64 m, .int .i64 E] W fun e w' => e = .returned (.tuple #[.int .i32 0, .bool false]) ∧ Drawn0 W w') := Lib.hid (fun W => PD4.cashbookref04_May.calls KM y m E _ _ W hM)
    clear he hM hj m1 m2
    have HB := Lib.hid (Below.refl w.heap.size w)
    go_enter Tryd.func10, Tryd.ntmps10
    go_wp2_with fail
    refine (PD4.date_Split.calls x _ _ _ _ _ HT.out h1.out).mono ?_
    rintro e w1 ⟨rfl, hb_⟩
    try replace hb_ := Drawn0.below hb_
    replace HT := Lib.hid (TabsAt.below HT.out hb_)
    replace HB := Lib.hid (HB.out.trans (Below.mono hb_ HB.out.size))
    clear hb_
    go_wp2_with fail
    refine (PD4.date_Weekday.calls x _ _ _ h2.out).mono ?_
    rintro e w2 ⟨rfl, hb_⟩
    try replace hb_ := Drawn0.below hb_
    replace HT := Lib.hid (TabsAt.below HT.out hb_)
    replace HB := Lib.hid (HB.out.trans (Below.mono hb_ HB.out.size))
    clear hb_
    go_wp2_with fail
    refine (PD4.date_MonthEnd.calls 1 x _ _ _ HT.out h3.out).mono ?_
    rintro e w3 ⟨rfl, hb_⟩
    try replace hb_ := Drawn0.below hb_
    replace HT := Lib.hid (TabsAt.below HT.out hb_)
    replace HB := Lib.hid (HB.out.trans (Below.mono hb_ HB.out.size))
    clear hb_
    go_wp2_with fail
    refine (PD4.date_Print.calls x _ _ _ HT.out h4.out).mono ?_
    rintro e w4 ⟨rfl, hb_⟩
    try replace hb_ := Drawn0.below hb_
    replace HT := Lib.hid (TabsAt.below HT.out hb_)
    replace HB := Lib.hid (HB.out.trans (Below.mono hb_ HB.out.size))
    clear hb_
    go_wp2_with fail
    refine (PD4.date_Right.calls x _ _ h5.out).mono ?_
    rintro e w5 ⟨rfl, hb_⟩
    try replace hb_ := Drawn0.below hb_
    replace HT := Lib.hid (TabsAt.below HT.out hb_)
    replace HB := Lib.hid (HB.out.trans (Below.mono hb_ HB.out.size))
    clear hb_
    go_wp2_with fail
    refine (PD4.cashbookref04_Right.calls x _ _ h6.out).mono ?_
    rintro e w6 ⟨rfl, hb_⟩
    try replace hb_ := Drawn0.below hb_
    replace HT := Lib.hid (TabsAt.below HT.out hb_)
    replace HB := Lib.hid (HB.out.trans (Below.mono hb_ HB.out.size))
    clear hb_
    go_wp2_with fail
    refine (PD4.cashbooklaw04_alive.calls 1 true _ HT.out (alive_f 0)).mono ?_
    rintro e w7 ⟨rfl, hb_⟩
    try replace hb_ := Drawn0.below hb_
    replace HT := Lib.hid (TabsAt.below HT.out hb_)
    replace HB := Lib.hid (HB.out.trans (Below.mono hb_ HB.out.size))
    clear hb_
    go_wp2_with fail
    refine (PD4.cashbookref04_Right.calls x _ _ h6.out).mono ?_
    rintro e w8 ⟨rfl, hb_⟩
    try replace hb_ := Drawn0.below hb_
    replace HT := Lib.hid (TabsAt.below HT.out hb_)
    replace HB := Lib.hid (HB.out.trans (Below.mono hb_ HB.out.size))
    clear hb_
    go_wp2_with fail
    refine (hparts.out _).mono ?_
    rintro e w9 ⟨rfl, hb_⟩
    try replace hb_ := Drawn0.below hb_
    replace HT := Lib.hid (TabsAt.below HT.out hb_)
    replace HB := Lib.hid (HB.out.trans (Below.mono hb_ HB.out.size))
    clear hb_
    go_wp2_with fail
    have hH := Lib.hid (heldP_new HB.out (y := y) (m := m) (d := k))
    generalize (w9.alloc (.cells #[.int .i64 y, .int .i64 m, .int .i64 k] 64)) = V at hH ⊢
    generalize w9.heap.size = g at hH ⊢
    clear HB
    refine (PD4.cashbookref04_Weekday.calls x _ _ h7.out).mono ?_
    rintro e w10 ⟨rfl, hd_⟩
    replace hH := Lib.hid (hH.out.carry hd_.below)
    clear hd_
    go_wp2_with fail
    refine (h8.out _).mono ?_
    rintro e w11 ⟨rfl, hb_⟩
    replace hH := Lib.hid (hH.out.carry hb_)
    clear hb_
    have q0 := hH.out.c0
    have q1 := hH.out.c1
    have q2 := hH.out.c2
    go_wp2_with fail
    go_quiet ((first | (go_at_call 48; exact quiet_d h9.out) | (go_at_call 47; exact quiet_d h10.out)))
    go_wp2_with fail
    go_ret
    exact ⟨rfl, pw_below_drewN hH.out.below _⟩
theorem tellsD_calls (x : Int) (r : Bool) (w : World) (hT : TabsAt w) (h : true = r) :
    Calls Tryd.prog 10 #[.int .i32 x] w fun e w' => e = .returned (.bool r) ∧ Below w.heap.size w w' := by
  subst h
  by_cases hr : -50000 ≤ x ∧ x ≤ 50000
  · exact tellsD_yes x _ _ _ w hT hr.1 hr.2 (sp_civ x)
  · exact tellsD_no x w hT hr
end Go.Proofs.YtamfbfhkojnafaaDoor
