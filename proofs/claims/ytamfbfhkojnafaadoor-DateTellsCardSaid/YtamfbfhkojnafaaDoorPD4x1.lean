-- PRINTED by print.py (a twelfth state) out of the translation. Not trusted: Lean checks it.
import Derived.Test.YtamfbfhkojnafaaDoorPD4x0
import Derived.Test.YtamfbfhkojnafaaDoorDateC
namespace Go.Proofs.YtamfbfhkojnafaaDoor.PD4
open Go.RowKit Go.Proofs.YtamfbfhkojnafaaDoorW.PrintWords Go.Proofs.YtamfbfhkojnafaaDoorW.PrintLast Go.Proofs.YtamfbfhkojnafaaDoorW.PrintMore
attribute [local go_sem] max2_int min2_int max_two min_two max_three min_three max_four min_four   -- for this text's walks alone
set_option linter.unusedVariables false
set_option linter.unusedSimpArgs false

-- BY HAND: function 25 (date_Split)
-- BY HAND: function 59 (date_days)
-- BY HAND: function 67 (strconv_Itoa_67)
-- BY HAND: function 68 (strings_Repeat)
-- BY HAND: function 39 (cashbookref04_Months)
-- BY HAND: function 49 (date_Parse)
-- BY HAND: function 46 (cashbookref04_Print)
/-! ### date_Right: function 43 -/
def date_Right.f (a0 : Int) : Option (Bool) := if a0 ≥ (-50000) then (some (decide (a0 ≤ 50000))) else (some false)
set_option maxHeartbeats 8000000 in
set_option maxRecDepth 100000 in
theorem date_Right.calls (a0 : Int) (r : Bool) (w : World) (h : date_Right.f a0 = some r) :
    Calls Tryd.prog 43 #[.int .i32 a0] w fun e w' => e = .returned (.bool r) ∧ Drawn0 w w' := by
  have H : (if a0 ≥ (-50000) then (some (decide (a0 ≤ 50000))) else (some false)) = some r := h
  clear h
  by_cases c2 : a0 ≥ (-50000)
  · rw [if_pos c2] at H
    have c2b0 : decide ((-50000) ≤ a0) = true := decide_eq_true c2
    clear c2
    obtain rfl := Option.some.inj H
    go_enter Tryd.func43, Tryd.ntmps43
    go_wp2
    go_ret
    exact ⟨by first | rfl | (simp; done) | (simp [*]; done), by repeat (first | exact Drawn0.refl _ | apply Drawn0.step)⟩
  · rw [if_neg c2] at H
    have c2b0 : decide ((-50000) ≤ a0) = false := decide_eq_false c2
    clear c2
    obtain rfl := Option.some.inj H
    go_enter Tryd.func43, Tryd.ntmps43
    go_wp2
    go_ret
    exact ⟨by first | rfl | (simp; done) | (simp [*]; done), by repeat (first | exact Drawn0.refl _ | apply Drawn0.step)⟩

/-! ### date_Leap: function 33 -/
def date_Leap.f (a0 : Int) : Option (Bool) := if (Int.tmod a0 4) = 0 then (if (Int.tmod a0 100) = 0 then (some ((Int.tmod a0 400) == 0)) else (some true)) else (some false)
set_option maxHeartbeats 8000000 in
set_option maxRecDepth 100000 in
theorem date_Leap.calls (a0 : Int) (r : Bool) (w : World) (h : date_Leap.f a0 = some r) :
    Calls Tryd.prog 33 #[.int .i64 a0] w fun e w' => e = .returned (.bool r) ∧ Drawn0 w w' := by
  have H : (if (Int.tmod a0 4) = 0 then (if (Int.tmod a0 100) = 0 then (some ((Int.tmod a0 400) == 0)) else (some true)) else (some false)) = some r := h
  clear h
  by_cases c2 : (Int.tmod a0 4) = 0
  · rw [if_pos c2] at H
    have c2b0 : ((Int.tmod a0 4) == 0) = true := beq_iff_eq.mpr c2
    have c2b1 : ((Int.tmod a0 4) != 0) = false := bne_eq_false_iff_eq.mpr c2
    clear c2
    by_cases c3 : (Int.tmod a0 100) = 0
    · rw [if_pos c3] at H
      have c3b0 : ((Int.tmod a0 100) == 0) = true := beq_iff_eq.mpr c3
      have c3b1 : ((Int.tmod a0 100) != 0) = false := bne_eq_false_iff_eq.mpr c3
      clear c3
      obtain rfl := Option.some.inj H
      go_enter Tryd.func33, Tryd.ntmps33
      go_wp2
      go_ret
      exact ⟨by first | rfl | (simp; done) | (simp [*]; done), by repeat (first | exact Drawn0.refl _ | apply Drawn0.step)⟩
    · rw [if_neg c3] at H
      have c3b0 : ((Int.tmod a0 100) == 0) = false := beq_eq_false_iff_ne.mpr c3
      have c3b1 : ((Int.tmod a0 100) != 0) = true := bne_iff_ne.mpr c3
      obtain rfl := Option.some.inj H
      go_enter Tryd.func33, Tryd.ntmps33
      go_wp2
      go_ret
      exact ⟨by first | rfl | (simp; done) | (simp [*]; done), by repeat (first | exact Drawn0.refl _ | apply Drawn0.step)⟩
  · rw [if_neg c2] at H
    have c2b0 : ((Int.tmod a0 4) == 0) = false := beq_eq_false_iff_ne.mpr c2
    have c2b1 : ((Int.tmod a0 4) != 0) = true := bne_iff_ne.mpr c2
    obtain rfl := Option.some.inj H
    go_enter Tryd.func33, Tryd.ntmps33
    go_wp2
    go_ret
    exact ⟨by first | rfl | (simp; done) | (simp [*]; done), by repeat (first | exact Drawn0.refl _ | apply Drawn0.step)⟩

/-! ### cashbookref04_Long: function 34 -/
def cashbookref04_Long.f (a0 : Int) : Option (Bool) := if (Int.tmod a0 4) = 0 then (if (Int.tmod a0 100) = 0 then (some ((Int.tmod a0 400) == 0)) else (some true)) else (some ((Int.tmod a0 400) == 0))
set_option maxHeartbeats 8000000 in
set_option maxRecDepth 100000 in
theorem cashbookref04_Long.calls (a0 : Int) (r : Bool) (w : World) (h : cashbookref04_Long.f a0 = some r) :
    Calls Tryd.prog 34 #[.int .i64 a0] w fun e w' => e = .returned (.bool r) ∧ Drawn0 w w' := by
  have H : (if (Int.tmod a0 4) = 0 then (if (Int.tmod a0 100) = 0 then (some ((Int.tmod a0 400) == 0)) else (some true)) else (some ((Int.tmod a0 400) == 0))) = some r := h
  clear h
  by_cases c2 : (Int.tmod a0 4) = 0
  · rw [if_pos c2] at H
    have c2b0 : ((Int.tmod a0 4) == 0) = true := beq_iff_eq.mpr c2
    have c2b1 : ((Int.tmod a0 4) != 0) = false := bne_eq_false_iff_eq.mpr c2
    clear c2
    by_cases c3 : (Int.tmod a0 100) = 0
    · rw [if_pos c3] at H
      have c3b0 : ((Int.tmod a0 100) == 0) = true := beq_iff_eq.mpr c3
      have c3b1 : ((Int.tmod a0 100) != 0) = false := bne_eq_false_iff_eq.mpr c3
      clear c3
      obtain rfl := Option.some.inj H
      go_enter Tryd.func34, Tryd.ntmps34
      go_wp2
      go_ret
      exact ⟨by first | rfl | (simp; done) | (simp [*]; done), by repeat (first | exact Drawn0.refl _ | apply Drawn0.step)⟩
    · rw [if_neg c3] at H
      have c3b0 : ((Int.tmod a0 100) == 0) = false := beq_eq_false_iff_ne.mpr c3
      have c3b1 : ((Int.tmod a0 100) != 0) = true := bne_iff_ne.mpr c3
      obtain rfl := Option.some.inj H
      go_enter Tryd.func34, Tryd.ntmps34
      go_wp2
      go_ret
      exact ⟨by first | rfl | (simp; done) | (simp [*]; done), by repeat (first | exact Drawn0.refl _ | apply Drawn0.step)⟩
  · rw [if_neg c2] at H
    have c2b0 : ((Int.tmod a0 4) == 0) = false := beq_eq_false_iff_ne.mpr c2
    have c2b1 : ((Int.tmod a0 4) != 0) = true := bne_iff_ne.mpr c2
    obtain rfl := Option.some.inj H
    go_enter Tryd.func34, Tryd.ntmps34
    go_wp2
    go_ret
    exact ⟨by first | rfl | (simp; done) | (simp [*]; done), by repeat (first | exact Drawn0.refl _ | apply Drawn0.step)⟩

/-! ### date_length: function 58 -/
def date_length.f (a0 : Int) (a1 : Int) : Option (Int) := if a1 = 2 then ((date_Leap.f a0).bind fun t101 => (if t101 = true then (some 29) else (some 28))) else (if a1 = 4 then (some 30) else (if a1 = 6 then (some 30) else (if a1 = 9 then (some 30) else (if a1 = 11 then (some 30) else (some 31)))))
set_option maxHeartbeats 8000000 in
set_option maxRecDepth 100000 in
theorem date_length.calls (a0 : Int) (a1 : Int) (r : Int) (w : World) (h : date_length.f a0 a1 = some r) :
    Calls Tryd.prog 58 #[.int .i64 a0, .int .i64 a1] w fun e w' => e = .returned (.int .i64 r) ∧ Drawn0 w w' := by
  have H : (if a1 = 2 then ((date_Leap.f a0).bind fun t101 => (if t101 = true then (some 29) else (some 28))) else (if a1 = 4 then (some 30) else (if a1 = 6 then (some 30) else (if a1 = 9 then (some 30) else (if a1 = 11 then (some 30) else (some 31)))))) = some r := h
  clear h
  by_cases c3 : a1 = 2
  · rw [if_pos c3] at H
    have c3b0 : (a1 == 2) = true := beq_iff_eq.mpr c3
    have c3b1 : (a1 != 2) = false := bne_eq_false_iff_eq.mpr c3
    clear c3
    replace H := Option.bind_eq_some_iff.mp H
    obtain ⟨t101, A40, H⟩ := H
    replace H : (if t101 = true then (some 29) else (some 28)) = some r := H
    have A4 := Aside0.mk A40
    clear A40
    by_cases c5 : t101 = true
    · subst c5
      have H1 : (some 29) = some r := by rw [if_pos rfl] at H; exact H
      clear H
      have H := H1
      clear H1
      obtain rfl := Option.some.inj H
      go_enter Tryd.func58, Tryd.ntmps58
      go_wp2_with (first | ((with_reducible refine gate_callee (f := 33) rfl ?_); refine goesL_ (some 9) rfl rfl Tryd.func33 (by kernel_rfl) rfl #[.int .i64 a0] rfl (by (try simp only [List.map_toArray, List.map_cons, List.map_nil]); first | done | rfl | (simp only [List.length_drop, List.length_take]; rfl)) ?_; (with_reducible refine (date_Leap.calls a0 true _ A4.out).mono ?_); rintro e w' ⟨rfl, ⟨nd, rfl⟩⟩; refine ⟨_, rfl, ?_⟩))
      go_ret
      exact ⟨by first | rfl | (simp; done) | (simp [*]; done), by repeat (first | exact Drawn0.refl _ | apply Drawn0.step)⟩
    · replace c5 := Bool.eq_false_iff.mpr c5
      subst c5
      have H1 : (some 28) = some r := by rw [if_neg (show ¬ (false = true) by decide)] at H; exact H
      clear H
      have H := H1
      clear H1
      obtain rfl := Option.some.inj H
      go_enter Tryd.func58, Tryd.ntmps58
      go_wp2_with (first | ((with_reducible refine gate_callee (f := 33) rfl ?_); refine goesL_ (some 9) rfl rfl Tryd.func33 (by kernel_rfl) rfl #[.int .i64 a0] rfl (by (try simp only [List.map_toArray, List.map_cons, List.map_nil]); first | done | rfl | (simp only [List.length_drop, List.length_take]; rfl)) ?_; (with_reducible refine (date_Leap.calls a0 false _ A4.out).mono ?_); rintro e w' ⟨rfl, ⟨nd, rfl⟩⟩; refine ⟨_, rfl, ?_⟩))
      go_ret
      exact ⟨by first | rfl | (simp; done) | (simp [*]; done), by repeat (first | exact Drawn0.refl _ | apply Drawn0.step)⟩
  · rw [if_neg c3] at H
    have c3b0 : (a1 == 2) = false := beq_eq_false_iff_ne.mpr c3
    have c3b1 : (a1 != 2) = true := bne_iff_ne.mpr c3
    by_cases c6 : a1 = 4
    · rw [if_pos c6] at H
      have c6b0 : (a1 == 4) = true := beq_iff_eq.mpr c6
      have c6b1 : (a1 != 4) = false := bne_eq_false_iff_eq.mpr c6
      clear c6
      obtain rfl := Option.some.inj H
      go_enter Tryd.func58, Tryd.ntmps58
      go_wp2
      go_ret
      exact ⟨by first | rfl | (simp; done) | (simp [*]; done), by repeat (first | exact Drawn0.refl _ | apply Drawn0.step)⟩
    · rw [if_neg c6] at H
      have c6b0 : (a1 == 4) = false := beq_eq_false_iff_ne.mpr c6
      have c6b1 : (a1 != 4) = true := bne_iff_ne.mpr c6
      by_cases c7 : a1 = 6
      · rw [if_pos c7] at H
        have c7b0 : (a1 == 6) = true := beq_iff_eq.mpr c7
        have c7b1 : (a1 != 6) = false := bne_eq_false_iff_eq.mpr c7
        clear c7
        obtain rfl := Option.some.inj H
        go_enter Tryd.func58, Tryd.ntmps58
        go_wp2
        go_ret
        exact ⟨by first | rfl | (simp; done) | (simp [*]; done), by repeat (first | exact Drawn0.refl _ | apply Drawn0.step)⟩
      · rw [if_neg c7] at H
        have c7b0 : (a1 == 6) = false := beq_eq_false_iff_ne.mpr c7
        have c7b1 : (a1 != 6) = true := bne_iff_ne.mpr c7
        by_cases c8 : a1 = 9
        · rw [if_pos c8] at H
          have c8b0 : (a1 == 9) = true := beq_iff_eq.mpr c8
          have c8b1 : (a1 != 9) = false := bne_eq_false_iff_eq.mpr c8
          clear c8
          obtain rfl := Option.some.inj H
          go_enter Tryd.func58, Tryd.ntmps58
          go_wp2
          go_ret
          exact ⟨by first | rfl | (simp; done) | (simp [*]; done), by repeat (first | exact Drawn0.refl _ | apply Drawn0.step)⟩
        · rw [if_neg c8] at H
          have c8b0 : (a1 == 9) = false := beq_eq_false_iff_ne.mpr c8
          have c8b1 : (a1 != 9) = true := bne_iff_ne.mpr c8
          by_cases c9 : a1 = 11
          · rw [if_pos c9] at H
            have c9b0 : (a1 == 11) = true := beq_iff_eq.mpr c9
            have c9b1 : (a1 != 11) = false := bne_eq_false_iff_eq.mpr c9
            clear c9
            obtain rfl := Option.some.inj H
            go_enter Tryd.func58, Tryd.ntmps58
            go_wp2
            go_ret
            exact ⟨by first | rfl | (simp; done) | (simp [*]; done), by repeat (first | exact Drawn0.refl _ | apply Drawn0.step)⟩
          · rw [if_neg c9] at H
            have c9b0 : (a1 == 11) = false := beq_eq_false_iff_ne.mpr c9
            have c9b1 : (a1 != 11) = true := bne_iff_ne.mpr c9
            obtain rfl := Option.some.inj H
            go_enter Tryd.func58, Tryd.ntmps58
            go_wp2
            go_ret
            exact ⟨by first | rfl | (simp; done) | (simp [*]; done), by repeat (first | exact Drawn0.refl _ | apply Drawn0.step)⟩

/-! ### date_Join: function 37 -/
def date_Join.j0 : Nat → Int → Int → Int → Bool → Option (Int × Int)
  | 0, _, _, _, _ => none
  | k + 1, x0, x1, x2, x33 => if x33 = true then (some (0, 11)) else ((date_days.f x0 x1 x2).bind fun t103 => (if (wrap64 (t103 - 730425)) < (-50000) then (some (0, 11)) else (if (wrap64 (t103 - 730425)) > 50000 then (some (0, 11)) else (some (wrap32 (wrap64 (t103 - 730425)), 0)))))
def date_Join.f (k : Nat) (a0 : Int) (a1 : Int) (a2 : Int) : Option (Int × Int) := if a0 < 1 then (date_Join.j0 k a0 a1 a2 true) else (if a0 ≥ 10000 then (date_Join.j0 k a0 a1 a2 true) else (if a1 < 1 then (date_Join.j0 k a0 a1 a2 true) else (if a1 > 12 then (date_Join.j0 k a0 a1 a2 true) else (if a2 < 1 then (date_Join.j0 k a0 a1 a2 true) else ((date_length.f a0 a1).bind fun t102 => (date_Join.j0 k a0 a1 a2 (decide (a2 > t102))))))))
theorem date_Join.mono_l : ∀ k, (∀ y0 y1 y2 y3, LeO (date_Join.j0 k y0 y1 y2 y3) (date_Join.j0 (k + 1) y0 y1 y2 y3))
  | 0 => fun _ _ _ _ r h => by simp [date_Join.j0] at h
  | k + 1 => by
    have ih0 := date_Join.mono_l k
    · intro y0 y1 y2 y3
      unfold date_Join.j0
      repeat' first
      | (with_reducible exact ih0 _ _ _ _)
      | (with_reducible exact LeO.refl _)
      | (with_reducible exact LeO.none _)
      | (with_reducible refine LeO.ite ?_ ?_)
      | (with_reducible refine LeO.bind ?_ (fun _ => ?_))
      | exact ih0 _ _ _ _
      | exact LeO.none _
      | refine LeO.ite ?_ ?_
      | refine LeO.bind ?_ (fun _ => ?_)
theorem date_Join.mono : ∀ a0 a1 a2 k, LeO (date_Join.f k a0 a1 a2) (date_Join.f (k + 1) a0 a1 a2) := by
  intro a0 a1 a2 k
  have ih0 := date_Join.mono_l k
  unfold date_Join.f
  repeat' first
      | (with_reducible exact ih0 _ _ _ _)
      | (with_reducible exact LeO.refl _)
      | (with_reducible exact LeO.none _)
      | (with_reducible refine LeO.ite ?_ ?_)
      | (with_reducible refine LeO.bind ?_ (fun _ => ?_))
      | exact ih0 _ _ _ _
      | exact LeO.none _
      | refine LeO.ite ?_ ?_
      | refine LeO.bind ?_ (fun _ => ?_)
set_option maxHeartbeats 8000000 in
set_option maxRecDepth 100000 in
theorem date_Join.calls (k : Nat) (a0 : Int) (a1 : Int) (a2 : Int) (r1 : Int) (r2 : Int) (w : World) (hT : TabsAt w) (h : date_Join.f k a0 a1 a2 = some (r1, r2)) :
    Calls Tryd.prog 37 #[.int .i64 a0, .int .i64 a1, .int .i64 a2] w fun e w' => e = .returned (.tuple #[.int .i32 r1, .int .i64 r2]) ∧ Drawn0 w w' := by
  have HT := Aside0.mk hT
  clear hT
  have H : (if a0 < 1 then (date_Join.j0 k a0 a1 a2 true) else (if a0 ≥ 10000 then (date_Join.j0 k a0 a1 a2 true) else (if a1 < 1 then (date_Join.j0 k a0 a1 a2 true) else (if a1 > 12 then (date_Join.j0 k a0 a1 a2 true) else (if a2 < 1 then (date_Join.j0 k a0 a1 a2 true) else ((date_length.f a0 a1).bind fun t102 => (date_Join.j0 k a0 a1 a2 (decide (a2 > t102))))))))) = some (r1, r2) := h
  clear h
  have HC4 := Aside0.mk H
  clear H
  go_enter Tryd.func37, Tryd.ntmps37
  go_upto_region 1 with (fail)
  go_cut [33] (fun v33 wc => ∃ (kq : Nat) (x33_3 : Bool), v33 = .bool x33_3 ∧ Aside0 (date_Join.j0 kq a0 a1 a2 x33_3 = some (r1, r2)) ∧ Aside0 (kq ≤ k) ∧ Drawn0 w wc)
  case first =>
    have H := HC4.out
    clear HC4
    by_cases c5 : a0 < 1
    · rw [if_pos c5] at H
      have c5b0 : decide (a0 < 1) = true := decide_eq_true c5
      clear c5
      (first | rw [c5b0] | (simp only [i64_w, i32_w]; rw [c5b0]) | skip)
      have H' := Aside0.mk H
      clear H
      go_wp2
      go_meet
      case rel => exact ⟨_, (true), (by first | rfl | (simp; done) | (simp [*]; done)), H', ⟨by first | omega | exact Nat.le_refl _⟩, by repeat (first | exact Drawn0.refl _ | apply Drawn0.step)⟩
    · rw [if_neg c5] at H
      have c5b0 : decide (a0 < 1) = false := decide_eq_false c5
      clear c5
      (first | rw [c5b0] | (simp only [i64_w, i32_w]; rw [c5b0]) | skip)
      by_cases c6 : a0 ≥ 10000
      · rw [if_pos c6] at H
        have c6b0 : decide (10000 ≤ a0) = true := decide_eq_true c6
        clear c6
        have H' := Aside0.mk H
        clear H
        go_wp2
        go_meet
        case rel => exact ⟨_, (true), (by first | rfl | (simp; done) | (simp [*]; done)), H', ⟨by first | omega | exact Nat.le_refl _⟩, by repeat (first | exact Drawn0.refl _ | apply Drawn0.step)⟩
      · rw [if_neg c6] at H
        have c6b0 : decide (10000 ≤ a0) = false := decide_eq_false c6
        clear c6
        by_cases c7 : a1 < 1
        · rw [if_pos c7] at H
          have c7b0 : decide (a1 < 1) = true := decide_eq_true c7
          clear c7
          have H' := Aside0.mk H
          clear H
          go_wp2
          go_meet
          case rel => exact ⟨_, (true), (by first | rfl | (simp; done) | (simp [*]; done)), H', ⟨by first | omega | exact Nat.le_refl _⟩, by repeat (first | exact Drawn0.refl _ | apply Drawn0.step)⟩
        · rw [if_neg c7] at H
          have c7b0 : decide (a1 < 1) = false := decide_eq_false c7
          clear c7
          by_cases c8 : a1 > 12
          · rw [if_pos c8] at H
            have c8b0 : decide (12 < a1) = true := decide_eq_true c8
            clear c8
            have H' := Aside0.mk H
            clear H
            go_wp2
            go_meet
            case rel => exact ⟨_, (true), (by first | rfl | (simp; done) | (simp [*]; done)), H', ⟨by first | omega | exact Nat.le_refl _⟩, by repeat (first | exact Drawn0.refl _ | apply Drawn0.step)⟩
          · rw [if_neg c8] at H
            have c8b0 : decide (12 < a1) = false := decide_eq_false c8
            clear c8
            by_cases c9 : a2 < 1
            · rw [if_pos c9] at H
              have c9b0 : decide (a2 < 1) = true := decide_eq_true c9
              clear c9
              have H' := Aside0.mk H
              clear H
              go_wp2
              go_meet
              case rel => exact ⟨_, (true), (by first | rfl | (simp; done) | (simp [*]; done)), H', ⟨by first | omega | exact Nat.le_refl _⟩, by repeat (first | exact Drawn0.refl _ | apply Drawn0.step)⟩
            · rw [if_neg c9] at H
              have c9b0 : decide (a2 < 1) = false := decide_eq_false c9
              clear c9
              replace H := Option.bind_eq_some_iff.mp H
              obtain ⟨t102, A100, H⟩ := H
              replace H : (date_Join.j0 k a0 a1 a2 (decide (a2 > t102))) = some (r1, r2) := H
              have A10 := Aside0.mk A100
              clear A100
              have H' := Aside0.mk H
              clear H
              go_wp2_with (first | (go_at_call 58; (with_reducible refine (date_length.calls a0 a1 t102 _ A10.out).mono ?_); rintro e w' ⟨rfl, ⟨nd, rfl⟩⟩))
              go_meet
              case rel => exact ⟨_, (decide (a2 > t102)), (by first | rfl | (simp; done) | (simp [*]; done)), H', ⟨by first | omega | exact Nat.le_refl _⟩, by repeat (first | exact Drawn0.refl _ | apply Drawn0.step)⟩
  case rest =>
    clear HC4
    try clear p2
    try clear c3
    try clear c5
    try clear c5b0
    try clear c6
    try clear c6b0
    try clear c7
    try clear c7b0
    try clear c8
    try clear c8b0
    try clear c9
    try clear c9b0
    obtain ⟨kq, x33_3, rfl, HA, HJ3, ⟨mc3, rfl⟩⟩ := hcut
    cases kq with
    | zero => exact absurd HA.out (by simp [date_Join.j0])
    | succ kj3 =>
      have H := HA.out
      clear HA
      simp only [date_Join.j0] at H
      by_cases c11 : x33_3 = true
      · subst c11
        have H1 : (some (0, 11)) = some (r1, r2) := by rw [if_pos rfl] at H; exact H
        clear H
        have H := H1
        clear H1
        simp only [Option.some.injEq, Prod.mk.injEq] at H
        obtain ⟨rfl, rfl⟩ := H
        go_wp2
        go_ret2
        exact ⟨by first | rfl | (simp; done) | (simp [*]; done), by repeat (first | exact Drawn0.refl _ | apply Drawn0.step)⟩
      · replace c11 := Bool.eq_false_iff.mpr c11
        subst c11
        have H1 : ((date_days.f a0 a1 a2).bind fun t103 => (if (wrap64 (t103 - 730425)) < (-50000) then (some (0, 11)) else (if (wrap64 (t103 - 730425)) > 50000 then (some (0, 11)) else (some (wrap32 (wrap64 (t103 - 730425)), 0))))) = some (r1, r2) := by rw [if_neg (show ¬ (false = true) by decide)] at H; exact H
        clear H
        have H := H1
        clear H1
        replace H := Option.bind_eq_some_iff.mp H
        obtain ⟨t103, A120, H⟩ := H
        replace H : (if (wrap64 (t103 - 730425)) < (-50000) then (some (0, 11)) else (if (wrap64 (t103 - 730425)) > 50000 then (some (0, 11)) else (some (wrap32 (wrap64 (t103 - 730425)), 0)))) = some (r1, r2) := H
        have A12 := Aside0.mk A120
        clear A120
        by_cases c13 : (wrap64 (t103 - 730425)) < (-50000)
        · rw [if_pos c13] at H
          have c13b0 : decide ((wrap64 (t103 - 730425)) < (-50000)) = true := decide_eq_true c13
          clear c13
          simp only [Option.some.injEq, Prod.mk.injEq] at H
          obtain ⟨rfl, rfl⟩ := H
          go_wp2_with (first | ((with_reducible refine gate_callee (f := 59) rfl ?_); refine goesL_ (some 37) rfl rfl Tryd.func59 (by kernel_rfl) rfl #[.int .i64 a0, .int .i64 a1, .int .i64 a2] rfl (by (try simp only [List.map_toArray, List.map_cons, List.map_nil]); first | done | rfl | (simp only [List.length_drop, List.length_take]; rfl)) ?_; (with_reducible refine (date_days.calls a0 a1 a2 t103 _ (TabsAt.below HT.out (by repeat (first | (with_reducible first | exact HB.out | apply below_alloc | apply pw_below_drewN | apply below_drew1 | exact Below.refl _ _) | exact HB.out | exact (Drawn0.below HD.out) | exact Below.refl _ _))) A12.out).mono ?_); rintro e w' ⟨rfl, ⟨nd, rfl⟩⟩; refine ⟨_, rfl, ?_⟩))
          go_ret2
          exact ⟨by first | rfl | (simp; done) | (simp [*]; done), by repeat (first | exact Drawn0.refl _ | apply Drawn0.step)⟩
        · rw [if_neg c13] at H
          have c13b0 : decide ((wrap64 (t103 - 730425)) < (-50000)) = false := decide_eq_false c13
          clear c13
          by_cases c14 : (wrap64 (t103 - 730425)) > 50000
          · rw [if_pos c14] at H
            have c14b0 : decide (50000 < (wrap64 (t103 - 730425))) = true := decide_eq_true c14
            clear c14
            simp only [Option.some.injEq, Prod.mk.injEq] at H
            obtain ⟨rfl, rfl⟩ := H
            go_wp2_with (first | ((with_reducible refine gate_callee (f := 59) rfl ?_); refine goesL_ (some 37) rfl rfl Tryd.func59 (by kernel_rfl) rfl #[.int .i64 a0, .int .i64 a1, .int .i64 a2] rfl (by (try simp only [List.map_toArray, List.map_cons, List.map_nil]); first | done | rfl | (simp only [List.length_drop, List.length_take]; rfl)) ?_; (with_reducible refine (date_days.calls a0 a1 a2 t103 _ (TabsAt.below HT.out (by repeat (first | (with_reducible first | exact HB.out | apply below_alloc | apply pw_below_drewN | apply below_drew1 | exact Below.refl _ _) | exact HB.out | exact (Drawn0.below HD.out) | exact Below.refl _ _))) A12.out).mono ?_); rintro e w' ⟨rfl, ⟨nd, rfl⟩⟩; refine ⟨_, rfl, ?_⟩))
            go_ret2
            exact ⟨by first | rfl | (simp; done) | (simp [*]; done), by repeat (first | exact Drawn0.refl _ | apply Drawn0.step)⟩
          · rw [if_neg c14] at H
            have c14b0 : decide (50000 < (wrap64 (t103 - 730425))) = false := decide_eq_false c14
            clear c14
            simp only [Option.some.injEq, Prod.mk.injEq] at H
            obtain ⟨rfl, rfl⟩ := H
            go_wp2_with (first | ((with_reducible refine gate_callee (f := 59) rfl ?_); refine goesL_ (some 37) rfl rfl Tryd.func59 (by kernel_rfl) rfl #[.int .i64 a0, .int .i64 a1, .int .i64 a2] rfl (by (try simp only [List.map_toArray, List.map_cons, List.map_nil]); first | done | rfl | (simp only [List.length_drop, List.length_take]; rfl)) ?_; (with_reducible refine (date_days.calls a0 a1 a2 t103 _ (TabsAt.below HT.out (by repeat (first | (with_reducible first | exact HB.out | apply below_alloc | apply pw_below_drewN | apply below_drew1 | exact Below.refl _ _) | exact HB.out | exact (Drawn0.below HD.out) | exact Below.refl _ _))) A12.out).mono ?_); rintro e w' ⟨rfl, ⟨nd, rfl⟩⟩; refine ⟨_, rfl, ?_⟩))
            go_ret2
            exact ⟨by first | rfl | (simp; done) | (simp [*]; done), by repeat (first | exact Drawn0.refl _ | apply Drawn0.step)⟩

-- NOT PRINTED: function 81 (strings_Builder_copyCheck)

-- NOT PRINTED: function 82 (strings_Builder_grow)

-- NOT PRINTED: function 73 (strings_Builder_Grow)

-- NOT PRINTED: function 74 (strings_Builder_WriteString)

-- NOT PRINTED: function 75 (strings_Builder_Len)

-- NOT PRINTED: function 76 (strings_Builder_String)

/-! ### date_padded: function 61 -/
def date_padded.f (a0 : Int) (a1 : Int) : Option (ByteArray) := (strconv_Itoa_67.f a0).bind fun t104 => ((strings_Repeat.f (⟨#[48]⟩ : ByteArray) (wrap64 (a1 - (t104.size : Int)))).bind fun t105 => (if t105.size + t104.size ≤ 9223372036854775807 then (some (t105 ++ t104)) else (none)))
set_option maxHeartbeats 8000000 in
set_option maxRecDepth 100000 in
theorem date_padded.calls (a0 : Int) (a1 : Int) (r : ByteArray) (w : World) (hT : TabsAt w) (h : date_padded.f a0 a1 = some r) :
    Calls Tryd.prog 61 #[.int .i64 a0, .int .i64 a1] w fun e w' => e = .returned (.string r) ∧ Below w.heap.size w w' := by
  have HT := Aside0.mk hT
  clear hT
  have HB := Aside0.mk (Below.refl w.heap.size w)
  have H : ((strconv_Itoa_67.f a0).bind fun t104 => ((strings_Repeat.f (⟨#[48]⟩ : ByteArray) (wrap64 (a1 - (t104.size : Int)))).bind fun t105 => (if t105.size + t104.size ≤ 9223372036854775807 then (some (t105 ++ t104)) else (none)))) = some r := h
  clear h
  replace H := Option.bind_eq_some_iff.mp H
  obtain ⟨t104, A30, H⟩ := H
  replace H : ((strings_Repeat.f (⟨#[48]⟩ : ByteArray) (wrap64 (a1 - (t104.size : Int)))).bind fun t105 => (if t105.size + t104.size ≤ 9223372036854775807 then (some (t105 ++ t104)) else (none))) = some r := H
  have A3 := Aside0.mk A30
  clear A30
  replace H := Option.bind_eq_some_iff.mp H
  obtain ⟨t105, A40, H⟩ := H
  replace H : (if t105.size + t104.size ≤ 9223372036854775807 then (some (t105 ++ t104)) else (none)) = some r := H
  have A4 := Aside0.mk A40
  clear A40
  by_cases c5 : t105.size + t104.size ≤ 9223372036854775807
  · rw [if_pos c5] at H
    have c5b0 := eq_true c5
    have c5b1 : decide (t105.size + t104.size ≤ 9223372036854775807) = true := decide_eq_true c5
    try have c5b2 : (9223372036854775807 < t105.size + t104.size) = False := eq_false (Nat.not_lt.2 c5)
    obtain rfl := Option.some.inj H
    go_enter Tryd.func61, Tryd.ntmps61
    go_wp2_with (first | ((with_reducible refine gate_callee (f := 67) rfl ?_); refine goesL_ (some 7) rfl rfl Tryd.func67 (by kernel_rfl) rfl #[.int .i64 a0] rfl (by (try simp only [List.map_toArray, List.map_cons, List.map_nil]); first | done | rfl | (simp only [List.length_drop, List.length_take]; rfl)) ?_; (with_reducible refine (strconv_Itoa_67.calls a0 t104 _ (TabsAt.below HT.out (by repeat (first | (with_reducible first | exact HB.out | apply below_alloc | apply pw_below_drewN | apply below_drew1 | exact Below.refl _ _) | exact HB.out | exact (Drawn0.below HD.out) | exact Below.refl _ _))) A3.out).mono ?_); rintro e w6 ⟨rfl, hb⟩; refine ⟨_, rfl, ?_⟩; have n0_ := Aside0.mk (below_step (by repeat (first | (with_reducible first | exact HB.out | apply below_alloc | apply pw_below_drewN | apply below_drew1) | exact HB.out)) hb); clear HB; have HB := n0_; clear n0_; (try clear hb); (try clear hb2); (try clear hk); (try clear hi)) | ((with_reducible refine gate_callee (f := 68) rfl ?_); refine goesL_ (some 12) rfl rfl Tryd.func68 (by kernel_rfl) rfl #[.string (⟨#[48]⟩ : ByteArray), .int .i64 (wrap64 (a1 - (t104.size : Int)))] rfl (by (try simp only [List.map_toArray, List.map_cons, List.map_nil]); first | done | rfl | (simp only [List.length_drop, List.length_take]; rfl)) ?_; (with_reducible refine (strings_Repeat.calls (⟨#[48]⟩ : ByteArray) (wrap64 (a1 - (t104.size : Int))) t105 _ A4.out).mono ?_); rintro e w7 ⟨rfl, hb⟩; refine ⟨_, rfl, ?_⟩; have n0_ := Aside0.mk (below_step (by repeat (first | (with_reducible first | exact HB.out | apply below_alloc | apply pw_below_drewN | apply below_drew1) | exact HB.out)) hb); clear HB; have HB := n0_; clear n0_; (try clear hb); (try clear hb2); (try clear hk); (try clear hi)))
    go_ret
    exact ⟨by first | rfl | (simp [errW_none, errW_some] <;> rfl) | (simp [*, errW_none, errW_some] <;> rfl), by repeat (first | (with_reducible first | exact HB.out | apply below_alloc | apply pw_below_drewN | apply below_drew1) | exact HB.out)⟩
  · rw [if_neg c5] at H
    exact absurd H (by simp)

/-! ### date_Print: function 42 -/
def date_Print.f (a0 : Int) : Option (ByteArray × Int) := (date_Split.f a0).bind fun bt106 => (if bt106.2.2.2 = 0 then ((date_padded.f bt106.1 4).bind fun t110 => (if t110.size + 1 ≤ 9223372036854775807 then ((date_padded.f bt106.2.1 2).bind fun t111 => (if (t110 ++ (⟨#[45]⟩ : ByteArray)).size + t111.size ≤ 9223372036854775807 then (if ((t110 ++ (⟨#[45]⟩ : ByteArray)) ++ t111).size + 1 ≤ 9223372036854775807 then ((date_padded.f bt106.2.2.1 2).bind fun t112 => (if (((t110 ++ (⟨#[45]⟩ : ByteArray)) ++ t111) ++ (⟨#[45]⟩ : ByteArray)).size + t112.size ≤ 9223372036854775807 then (some ((((t110 ++ (⟨#[45]⟩ : ByteArray)) ++ t111) ++ (⟨#[45]⟩ : ByteArray)) ++ t112, 0)) else (none))) else (none)) else (none))) else (none))) else (some ((⟨#[]⟩ : ByteArray), bt106.2.2.2)))
set_option maxHeartbeats 8000000 in
set_option maxRecDepth 100000 in
theorem date_Print.calls (a0 : Int) (r1 : ByteArray) (r2 : Int) (w : World) (hT : TabsAt w) (h : date_Print.f a0 = some (r1, r2)) :
    Calls Tryd.prog 42 #[.int .i32 a0] w fun e w' => e = .returned (.tuple #[.string r1, .int .i64 r2]) ∧ Below w.heap.size w w' := by
  have HT := Aside0.mk hT
  clear hT
  have HB := Aside0.mk (Below.refl w.heap.size w)
  have H : ((date_Split.f a0).bind fun bt106 => (if bt106.2.2.2 = 0 then ((date_padded.f bt106.1 4).bind fun t110 => (if t110.size + 1 ≤ 9223372036854775807 then ((date_padded.f bt106.2.1 2).bind fun t111 => (if (t110 ++ (⟨#[45]⟩ : ByteArray)).size + t111.size ≤ 9223372036854775807 then (if ((t110 ++ (⟨#[45]⟩ : ByteArray)) ++ t111).size + 1 ≤ 9223372036854775807 then ((date_padded.f bt106.2.2.1 2).bind fun t112 => (if (((t110 ++ (⟨#[45]⟩ : ByteArray)) ++ t111) ++ (⟨#[45]⟩ : ByteArray)).size + t112.size ≤ 9223372036854775807 then (some ((((t110 ++ (⟨#[45]⟩ : ByteArray)) ++ t111) ++ (⟨#[45]⟩ : ByteArray)) ++ t112, 0)) else (none))) else (none)) else (none))) else (none))) else (some ((⟨#[]⟩ : ByteArray), bt106.2.2.2)))) = some (r1, r2) := h
  clear h
  replace H := Option.bind_eq_some_iff.mp H
  obtain ⟨⟨t106, t107, t108, t109⟩, A20, H⟩ := H
  replace H : (if t109 = 0 then ((date_padded.f t106 4).bind fun t110 => (if t110.size + 1 ≤ 9223372036854775807 then ((date_padded.f t107 2).bind fun t111 => (if (t110 ++ (⟨#[45]⟩ : ByteArray)).size + t111.size ≤ 9223372036854775807 then (if ((t110 ++ (⟨#[45]⟩ : ByteArray)) ++ t111).size + 1 ≤ 9223372036854775807 then ((date_padded.f t108 2).bind fun t112 => (if (((t110 ++ (⟨#[45]⟩ : ByteArray)) ++ t111) ++ (⟨#[45]⟩ : ByteArray)).size + t112.size ≤ 9223372036854775807 then (some ((((t110 ++ (⟨#[45]⟩ : ByteArray)) ++ t111) ++ (⟨#[45]⟩ : ByteArray)) ++ t112, 0)) else (none))) else (none)) else (none))) else (none))) else (some ((⟨#[]⟩ : ByteArray), t109))) = some (r1, r2) := H
  have A2 := Aside0.mk A20
  clear A20
  by_cases c3 : t109 = 0
  · rw [if_pos c3] at H
    have c3b0 : (t109 == 0) = true := beq_iff_eq.mpr c3
    have c3b1 : (t109 != 0) = false := bne_eq_false_iff_eq.mpr c3
    clear c3
    replace H := Option.bind_eq_some_iff.mp H
    obtain ⟨t110, A40, H⟩ := H
    replace H : (if t110.size + 1 ≤ 9223372036854775807 then ((date_padded.f t107 2).bind fun t111 => (if (t110 ++ (⟨#[45]⟩ : ByteArray)).size + t111.size ≤ 9223372036854775807 then (if ((t110 ++ (⟨#[45]⟩ : ByteArray)) ++ t111).size + 1 ≤ 9223372036854775807 then ((date_padded.f t108 2).bind fun t112 => (if (((t110 ++ (⟨#[45]⟩ : ByteArray)) ++ t111) ++ (⟨#[45]⟩ : ByteArray)).size + t112.size ≤ 9223372036854775807 then (some ((((t110 ++ (⟨#[45]⟩ : ByteArray)) ++ t111) ++ (⟨#[45]⟩ : ByteArray)) ++ t112, 0)) else (none))) else (none)) else (none))) else (none)) = some (r1, r2) := H
    have A4 := Aside0.mk A40
    clear A40
    by_cases c5 : t110.size + 1 ≤ 9223372036854775807
    · rw [if_pos c5] at H
      have c5b0 := eq_true c5
      have c5b1 : decide (t110.size + 1 ≤ 9223372036854775807) = true := decide_eq_true c5
      try have c5b2 : (9223372036854775807 < t110.size + 1) = False := eq_false (Nat.not_lt.2 c5)
      replace H := Option.bind_eq_some_iff.mp H
      obtain ⟨t111, A60, H⟩ := H
      replace H : (if (t110 ++ (⟨#[45]⟩ : ByteArray)).size + t111.size ≤ 9223372036854775807 then (if ((t110 ++ (⟨#[45]⟩ : ByteArray)) ++ t111).size + 1 ≤ 9223372036854775807 then ((date_padded.f t108 2).bind fun t112 => (if (((t110 ++ (⟨#[45]⟩ : ByteArray)) ++ t111) ++ (⟨#[45]⟩ : ByteArray)).size + t112.size ≤ 9223372036854775807 then (some ((((t110 ++ (⟨#[45]⟩ : ByteArray)) ++ t111) ++ (⟨#[45]⟩ : ByteArray)) ++ t112, 0)) else (none))) else (none)) else (none)) = some (r1, r2) := H
      have A6 := Aside0.mk A60
      clear A60
      by_cases c7 : (t110 ++ (⟨#[45]⟩ : ByteArray)).size + t111.size ≤ 9223372036854775807
      · rw [if_pos c7] at H
        have c7b0 := eq_true c7
        have c7b1 : decide ((t110 ++ (⟨#[45]⟩ : ByteArray)).size + t111.size ≤ 9223372036854775807) = true := decide_eq_true c7
        try have c7b2 : (9223372036854775807 < (t110 ++ (⟨#[45]⟩ : ByteArray)).size + t111.size) = False := eq_false (Nat.not_lt.2 c7)
        try have c7b3 := c7b2
        try simp only [ByteArray.size_append] at c7b3
        try simp only [size_lit1, size_lit2] at c7b3
        by_cases c8 : ((t110 ++ (⟨#[45]⟩ : ByteArray)) ++ t111).size + 1 ≤ 9223372036854775807
        · rw [if_pos c8] at H
          have c8b0 := eq_true c8
          have c8b1 : decide (((t110 ++ (⟨#[45]⟩ : ByteArray)) ++ t111).size + 1 ≤ 9223372036854775807) = true := decide_eq_true c8
          try have c8b2 : (9223372036854775807 < ((t110 ++ (⟨#[45]⟩ : ByteArray)) ++ t111).size + 1) = False := eq_false (Nat.not_lt.2 c8)
          try have c8b3 := c8b2
          try simp only [ByteArray.size_append] at c8b3
          try simp only [size_lit1, size_lit2] at c8b3
          replace H := Option.bind_eq_some_iff.mp H
          obtain ⟨t112, A90, H⟩ := H
          replace H : (if (((t110 ++ (⟨#[45]⟩ : ByteArray)) ++ t111) ++ (⟨#[45]⟩ : ByteArray)).size + t112.size ≤ 9223372036854775807 then (some ((((t110 ++ (⟨#[45]⟩ : ByteArray)) ++ t111) ++ (⟨#[45]⟩ : ByteArray)) ++ t112, 0)) else (none)) = some (r1, r2) := H
          have A9 := Aside0.mk A90
          clear A90
          by_cases c10 : (((t110 ++ (⟨#[45]⟩ : ByteArray)) ++ t111) ++ (⟨#[45]⟩ : ByteArray)).size + t112.size ≤ 9223372036854775807
          · rw [if_pos c10] at H
            have c10b0 := eq_true c10
            have c10b1 : decide ((((t110 ++ (⟨#[45]⟩ : ByteArray)) ++ t111) ++ (⟨#[45]⟩ : ByteArray)).size + t112.size ≤ 9223372036854775807) = true := decide_eq_true c10
            try have c10b2 : (9223372036854775807 < (((t110 ++ (⟨#[45]⟩ : ByteArray)) ++ t111) ++ (⟨#[45]⟩ : ByteArray)).size + t112.size) = False := eq_false (Nat.not_lt.2 c10)
            try have c10b3 := c10b2
            try simp only [ByteArray.size_append] at c10b3
            try simp only [size_lit1, size_lit2] at c10b3
            simp only [Option.some.injEq, Prod.mk.injEq] at H
            obtain ⟨rfl, rfl⟩ := H
            go_enter Tryd.func42, Tryd.ntmps42
            go_wp2_with (first | ((with_reducible refine gate_callee (f := 25) rfl ?_); refine goesL_ (some 10) rfl rfl Tryd.func25 (by kernel_rfl) rfl #[.int .i32 a0] rfl (by (try simp only [List.map_toArray, List.map_cons, List.map_nil]); first | done | rfl | (simp only [List.length_drop, List.length_take]; rfl)) ?_; (with_reducible refine (date_Split.calls a0 t106 t107 t108 t109 _ (TabsAt.below HT.out (by repeat (first | (with_reducible first | exact HB.out | apply below_alloc | apply pw_below_drewN | apply below_drew1 | exact Below.refl _ _) | exact HB.out | exact (Drawn0.below HD.out) | exact Below.refl _ _))) A2.out).mono ?_); rintro e w' ⟨rfl, ⟨nd, rfl⟩⟩; refine ⟨_, rfl, ?_⟩) | ((with_reducible refine gate_callee (f := 61) rfl ?_); refine goesL_ (some 19) rfl rfl Tryd.func61 (by kernel_rfl) rfl #[.int .i64 t106, .int .i64 4] rfl (by (try simp only [List.map_toArray, List.map_cons, List.map_nil]); first | done | rfl | (simp only [List.length_drop, List.length_take]; rfl)) ?_; (with_reducible refine (date_padded.calls t106 4 t110 _ (TabsAt.below HT.out (by repeat (first | (with_reducible first | exact HB.out | apply below_alloc | apply pw_below_drewN | apply below_drew1 | exact Below.refl _ _) | exact HB.out | exact (Drawn0.below HD.out) | exact Below.refl _ _))) A4.out).mono ?_); rintro e w11 ⟨rfl, hb⟩; refine ⟨_, rfl, ?_⟩; have n0_ := Aside0.mk (below_step (by repeat (first | (with_reducible first | exact HB.out | apply below_alloc | apply pw_below_drewN | apply below_drew1) | exact HB.out)) hb); clear HB; have HB := n0_; clear n0_; (try clear hb); (try clear hb2); (try clear hk); (try clear hi)) | ((with_reducible refine gate_callee (f := 61) rfl ?_); refine goesL_ (some 22) rfl rfl Tryd.func61 (by kernel_rfl) rfl #[.int .i64 t107, .int .i64 2] rfl (by (try simp only [List.map_toArray, List.map_cons, List.map_nil]); first | done | rfl | (simp only [List.length_drop, List.length_take]; rfl)) ?_; (with_reducible refine (date_padded.calls t107 2 t111 _ (TabsAt.below HT.out (by repeat (first | (with_reducible first | exact HB.out | apply below_alloc | apply pw_below_drewN | apply below_drew1 | exact Below.refl _ _) | exact HB.out | exact (Drawn0.below HD.out) | exact Below.refl _ _))) A6.out).mono ?_); rintro e w12 ⟨rfl, hb⟩; refine ⟨_, rfl, ?_⟩; have n0_ := Aside0.mk (below_step (by repeat (first | (with_reducible first | exact HB.out | apply below_alloc | apply pw_below_drewN | apply below_drew1) | exact HB.out)) hb); clear HB; have HB := n0_; clear n0_; (try clear hb); (try clear hb2); (try clear hk); (try clear hi)) | ((with_reducible refine gate_callee (f := 61) rfl ?_); refine goesL_ (some 26) rfl rfl Tryd.func61 (by kernel_rfl) rfl #[.int .i64 t108, .int .i64 2] rfl (by (try simp only [List.map_toArray, List.map_cons, List.map_nil]); first | done | rfl | (simp only [List.length_drop, List.length_take]; rfl)) ?_; (with_reducible refine (date_padded.calls t108 2 t112 _ (TabsAt.below HT.out (by repeat (first | (with_reducible first | exact HB.out | apply below_alloc | apply pw_below_drewN | apply below_drew1 | exact Below.refl _ _) | exact HB.out | exact (Drawn0.below HD.out) | exact Below.refl _ _))) A9.out).mono ?_); rintro e w13 ⟨rfl, hb⟩; refine ⟨_, rfl, ?_⟩; have n0_ := Aside0.mk (below_step (by repeat (first | (with_reducible first | exact HB.out | apply below_alloc | apply pw_below_drewN | apply below_drew1) | exact HB.out)) hb); clear HB; have HB := n0_; clear n0_; (try clear hb); (try clear hb2); (try clear hk); (try clear hi)))
            go_ret2
            exact ⟨by first | rfl | (simp [errW_none, errW_some] <;> rfl) | (simp [*, errW_none, errW_some] <;> rfl), by repeat (first | (with_reducible first | exact HB.out | apply below_alloc | apply pw_below_drewN | apply below_drew1) | exact HB.out)⟩
          · rw [if_neg c10] at H
            exact absurd H (by simp)
        · rw [if_neg c8] at H
          exact absurd H (by simp)
      · rw [if_neg c7] at H
        exact absurd H (by simp)
    · rw [if_neg c5] at H
      exact absurd H (by simp)
  · rw [if_neg c3] at H
    have c3b0 : (t109 == 0) = false := beq_eq_false_iff_ne.mpr c3
    have c3b1 : (t109 != 0) = true := bne_iff_ne.mpr c3
    simp only [Option.some.injEq, Prod.mk.injEq] at H
    obtain ⟨rfl, rfl⟩ := H
    go_enter Tryd.func42, Tryd.ntmps42
    go_wp2_with (first | ((with_reducible refine gate_callee (f := 25) rfl ?_); refine goesL_ (some 10) rfl rfl Tryd.func25 (by kernel_rfl) rfl #[.int .i32 a0] rfl (by (try simp only [List.map_toArray, List.map_cons, List.map_nil]); first | done | rfl | (simp only [List.length_drop, List.length_take]; rfl)) ?_; (with_reducible refine (date_Split.calls a0 t106 t107 t108 t109 _ (TabsAt.below HT.out (by repeat (first | (with_reducible first | exact HB.out | apply below_alloc | apply pw_below_drewN | apply below_drew1 | exact Below.refl _ _) | exact HB.out | exact (Drawn0.below HD.out) | exact Below.refl _ _))) A2.out).mono ?_); rintro e w' ⟨rfl, ⟨nd, rfl⟩⟩; refine ⟨_, rfl, ?_⟩))
    go_ret2
    exact ⟨by first | rfl | (simp [errW_none, errW_some] <;> rfl) | (simp [*, errW_none, errW_some] <;> rfl), by repeat (first | (with_reducible first | exact HB.out | apply below_alloc | apply pw_below_drewN | apply below_drew1) | exact HB.out)⟩

/-! ### cashbooklaw04_alive: function 35 -/
def cashbooklaw04_alive.f (k : Nat)  : Option (Bool) := (date_Join.f k 2000 2 29).bind fun bt113 => ((date_Print.f (-1)).bind fun bt115 => (if bt113.2 = 0 then (if bt115.2 = 0 then (if bt113.1 = 59 then (some (bt115.1.toList == ([49, 57, 57, 57, 45, 49, 50, 45, 51, 49] : List UInt8))) else (some false)) else (some false)) else (some false)))
theorem cashbooklaw04_alive.mono : ∀ k, LeO (cashbooklaw04_alive.f k ) (cashbooklaw04_alive.f (k + 1) ) := by
  intro  k
  unfold cashbooklaw04_alive.f
  repeat' first
      | (with_reducible exact date_Join.mono _ _ _ _)
      | (with_reducible exact LeO.refl _)
      | (with_reducible exact LeO.none _)
      | (with_reducible refine LeO.ite ?_ ?_)
      | (with_reducible refine LeO.bind ?_ (fun _ => ?_))
      | exact date_Join.mono _ _ _ _
      | exact LeO.none _
      | refine LeO.ite ?_ ?_
      | refine LeO.bind ?_ (fun _ => ?_)
set_option maxHeartbeats 8000000 in
set_option maxRecDepth 100000 in
theorem cashbooklaw04_alive.calls (k : Nat)  (r : Bool) (w : World) (hT : TabsAt w) (h : cashbooklaw04_alive.f k  = some r) :
    Calls Tryd.prog 35 #[] w fun e w' => e = .returned (.bool r) ∧ Below w.heap.size w w' := by
  have HT := Aside0.mk hT
  clear hT
  have HB := Aside0.mk (Below.refl w.heap.size w)
  have H : ((date_Join.f k 2000 2 29).bind fun bt113 => ((date_Print.f (-1)).bind fun bt115 => (if bt113.2 = 0 then (if bt115.2 = 0 then (if bt113.1 = 59 then (some (bt115.1.toList == ([49, 57, 57, 57, 45, 49, 50, 45, 51, 49] : List UInt8))) else (some false)) else (some false)) else (some false)))) = some r := h
  clear h
  replace H := Option.bind_eq_some_iff.mp H
  obtain ⟨⟨t113, t114⟩, A10, H⟩ := H
  replace H : ((date_Print.f (-1)).bind fun bt115 => (if t114 = 0 then (if bt115.2 = 0 then (if t113 = 59 then (some (bt115.1.toList == ([49, 57, 57, 57, 45, 49, 50, 45, 51, 49] : List UInt8))) else (some false)) else (some false)) else (some false))) = some r := H
  have A1 := Aside0.mk A10
  clear A10
  replace H := Option.bind_eq_some_iff.mp H
  obtain ⟨⟨t115, t116⟩, A20, H⟩ := H
  replace H : (if t114 = 0 then (if t116 = 0 then (if t113 = 59 then (some (t115.toList == ([49, 57, 57, 57, 45, 49, 50, 45, 51, 49] : List UInt8))) else (some false)) else (some false)) else (some false)) = some r := H
  have A2 := Aside0.mk A20
  clear A20
  by_cases c3 : t114 = 0
  · rw [if_pos c3] at H
    have c3b0 : (t114 == 0) = true := beq_iff_eq.mpr c3
    have c3b1 : (t114 != 0) = false := bne_eq_false_iff_eq.mpr c3
    clear c3
    by_cases c4 : t116 = 0
    · rw [if_pos c4] at H
      have c4b0 : (t116 == 0) = true := beq_iff_eq.mpr c4
      have c4b1 : (t116 != 0) = false := bne_eq_false_iff_eq.mpr c4
      clear c4
      by_cases c5 : t113 = 59
      · rw [if_pos c5] at H
        have c5b0 : (t113 == 59) = true := beq_iff_eq.mpr c5
        have c5b1 : (t113 != 59) = false := bne_eq_false_iff_eq.mpr c5
        clear c5
        obtain rfl := Option.some.inj H
        go_enter Tryd.func35, Tryd.ntmps35
        go_wp2_with (first | ((with_reducible refine gate_callee (f := 37) rfl ?_); refine goesL_ (some 6) rfl rfl Tryd.func37 (by kernel_rfl) rfl #[.int .i64 2000, .int .i64 2, .int .i64 29] rfl (by (try simp only [List.map_toArray, List.map_cons, List.map_nil]); first | done | rfl | (simp only [List.length_drop, List.length_take]; rfl)) ?_; (with_reducible refine (date_Join.calls k 2000 2 29 t113 t114 _ (TabsAt.below HT.out (by repeat (first | (with_reducible first | exact HB.out | apply below_alloc | apply pw_below_drewN | apply below_drew1 | exact Below.refl _ _) | exact HB.out | exact (Drawn0.below HD.out) | exact Below.refl _ _))) A1.out).mono ?_); rintro e w' ⟨rfl, ⟨nd, rfl⟩⟩; refine ⟨_, rfl, ?_⟩) | ((with_reducible refine gate_callee (f := 42) rfl ?_); refine goesL_ (some 10) rfl rfl Tryd.func42 (by kernel_rfl) rfl #[.int .i32 (-1)] rfl (by (try simp only [List.map_toArray, List.map_cons, List.map_nil]); first | done | rfl | (simp only [List.length_drop, List.length_take]; rfl)) ?_; (with_reducible refine (date_Print.calls (-1) t115 t116 _ (TabsAt.below HT.out (by repeat (first | (with_reducible first | exact HB.out | apply below_alloc | apply pw_below_drewN | apply below_drew1 | exact Below.refl _ _) | exact HB.out | exact (Drawn0.below HD.out) | exact Below.refl _ _))) A2.out).mono ?_); rintro e w6 ⟨rfl, hb⟩; refine ⟨_, rfl, ?_⟩; have n0_ := Aside0.mk (below_step (by repeat (first | (with_reducible first | exact HB.out | apply below_alloc | apply pw_below_drewN | apply below_drew1) | exact HB.out)) hb); clear HB; have HB := n0_; clear n0_; (try clear hb); (try clear hb2); (try clear hk); (try clear hi)))
        go_ret
        exact ⟨by first | rfl | (simp [errW_none, errW_some] <;> rfl) | (simp [*, errW_none, errW_some] <;> rfl), by repeat (first | (with_reducible first | exact HB.out | apply below_alloc | apply pw_below_drewN | apply below_drew1) | exact HB.out)⟩
      · rw [if_neg c5] at H
        have c5b0 : (t113 == 59) = false := beq_eq_false_iff_ne.mpr c5
        have c5b1 : (t113 != 59) = true := bne_iff_ne.mpr c5
        obtain rfl := Option.some.inj H
        go_enter Tryd.func35, Tryd.ntmps35
        go_wp2_with (first | ((with_reducible refine gate_callee (f := 37) rfl ?_); refine goesL_ (some 6) rfl rfl Tryd.func37 (by kernel_rfl) rfl #[.int .i64 2000, .int .i64 2, .int .i64 29] rfl (by (try simp only [List.map_toArray, List.map_cons, List.map_nil]); first | done | rfl | (simp only [List.length_drop, List.length_take]; rfl)) ?_; (with_reducible refine (date_Join.calls k 2000 2 29 t113 t114 _ (TabsAt.below HT.out (by repeat (first | (with_reducible first | exact HB.out | apply below_alloc | apply pw_below_drewN | apply below_drew1 | exact Below.refl _ _) | exact HB.out | exact (Drawn0.below HD.out) | exact Below.refl _ _))) A1.out).mono ?_); rintro e w' ⟨rfl, ⟨nd, rfl⟩⟩; refine ⟨_, rfl, ?_⟩) | ((with_reducible refine gate_callee (f := 42) rfl ?_); refine goesL_ (some 10) rfl rfl Tryd.func42 (by kernel_rfl) rfl #[.int .i32 (-1)] rfl (by (try simp only [List.map_toArray, List.map_cons, List.map_nil]); first | done | rfl | (simp only [List.length_drop, List.length_take]; rfl)) ?_; (with_reducible refine (date_Print.calls (-1) t115 t116 _ (TabsAt.below HT.out (by repeat (first | (with_reducible first | exact HB.out | apply below_alloc | apply pw_below_drewN | apply below_drew1 | exact Below.refl _ _) | exact HB.out | exact (Drawn0.below HD.out) | exact Below.refl _ _))) A2.out).mono ?_); rintro e w7 ⟨rfl, hb⟩; refine ⟨_, rfl, ?_⟩; have n0_ := Aside0.mk (below_step (by repeat (first | (with_reducible first | exact HB.out | apply below_alloc | apply pw_below_drewN | apply below_drew1) | exact HB.out)) hb); clear HB; have HB := n0_; clear n0_; (try clear hb); (try clear hb2); (try clear hk); (try clear hi)))
        go_ret
        exact ⟨by first | rfl | (simp [errW_none, errW_some] <;> rfl) | (simp [*, errW_none, errW_some] <;> rfl), by repeat (first | (with_reducible first | exact HB.out | apply below_alloc | apply pw_below_drewN | apply below_drew1) | exact HB.out)⟩
    · rw [if_neg c4] at H
      have c4b0 : (t116 == 0) = false := beq_eq_false_iff_ne.mpr c4
      have c4b1 : (t116 != 0) = true := bne_iff_ne.mpr c4
      obtain rfl := Option.some.inj H
      go_enter Tryd.func35, Tryd.ntmps35
      go_wp2_with (first | ((with_reducible refine gate_callee (f := 37) rfl ?_); refine goesL_ (some 6) rfl rfl Tryd.func37 (by kernel_rfl) rfl #[.int .i64 2000, .int .i64 2, .int .i64 29] rfl (by (try simp only [List.map_toArray, List.map_cons, List.map_nil]); first | done | rfl | (simp only [List.length_drop, List.length_take]; rfl)) ?_; (with_reducible refine (date_Join.calls k 2000 2 29 t113 t114 _ (TabsAt.below HT.out (by repeat (first | (with_reducible first | exact HB.out | apply below_alloc | apply pw_below_drewN | apply below_drew1 | exact Below.refl _ _) | exact HB.out | exact (Drawn0.below HD.out) | exact Below.refl _ _))) A1.out).mono ?_); rintro e w' ⟨rfl, ⟨nd, rfl⟩⟩; refine ⟨_, rfl, ?_⟩) | ((with_reducible refine gate_callee (f := 42) rfl ?_); refine goesL_ (some 10) rfl rfl Tryd.func42 (by kernel_rfl) rfl #[.int .i32 (-1)] rfl (by (try simp only [List.map_toArray, List.map_cons, List.map_nil]); first | done | rfl | (simp only [List.length_drop, List.length_take]; rfl)) ?_; (with_reducible refine (date_Print.calls (-1) t115 t116 _ (TabsAt.below HT.out (by repeat (first | (with_reducible first | exact HB.out | apply below_alloc | apply pw_below_drewN | apply below_drew1 | exact Below.refl _ _) | exact HB.out | exact (Drawn0.below HD.out) | exact Below.refl _ _))) A2.out).mono ?_); rintro e w8 ⟨rfl, hb⟩; refine ⟨_, rfl, ?_⟩; have n0_ := Aside0.mk (below_step (by repeat (first | (with_reducible first | exact HB.out | apply below_alloc | apply pw_below_drewN | apply below_drew1) | exact HB.out)) hb); clear HB; have HB := n0_; clear n0_; (try clear hb); (try clear hb2); (try clear hk); (try clear hi)))
      go_ret
      exact ⟨by first | rfl | (simp [errW_none, errW_some] <;> rfl) | (simp [*, errW_none, errW_some] <;> rfl), by repeat (first | (with_reducible first | exact HB.out | apply below_alloc | apply pw_below_drewN | apply below_drew1) | exact HB.out)⟩
  · rw [if_neg c3] at H
    have c3b0 : (t114 == 0) = false := beq_eq_false_iff_ne.mpr c3
    have c3b1 : (t114 != 0) = true := bne_iff_ne.mpr c3
    obtain rfl := Option.some.inj H
    go_enter Tryd.func35, Tryd.ntmps35
    go_wp2_with (first | ((with_reducible refine gate_callee (f := 37) rfl ?_); refine goesL_ (some 6) rfl rfl Tryd.func37 (by kernel_rfl) rfl #[.int .i64 2000, .int .i64 2, .int .i64 29] rfl (by (try simp only [List.map_toArray, List.map_cons, List.map_nil]); first | done | rfl | (simp only [List.length_drop, List.length_take]; rfl)) ?_; (with_reducible refine (date_Join.calls k 2000 2 29 t113 t114 _ (TabsAt.below HT.out (by repeat (first | (with_reducible first | exact HB.out | apply below_alloc | apply pw_below_drewN | apply below_drew1 | exact Below.refl _ _) | exact HB.out | exact (Drawn0.below HD.out) | exact Below.refl _ _))) A1.out).mono ?_); rintro e w' ⟨rfl, ⟨nd, rfl⟩⟩; refine ⟨_, rfl, ?_⟩) | ((with_reducible refine gate_callee (f := 42) rfl ?_); refine goesL_ (some 10) rfl rfl Tryd.func42 (by kernel_rfl) rfl #[.int .i32 (-1)] rfl (by (try simp only [List.map_toArray, List.map_cons, List.map_nil]); first | done | rfl | (simp only [List.length_drop, List.length_take]; rfl)) ?_; (with_reducible refine (date_Print.calls (-1) t115 t116 _ (TabsAt.below HT.out (by repeat (first | (with_reducible first | exact HB.out | apply below_alloc | apply pw_below_drewN | apply below_drew1 | exact Below.refl _ _) | exact HB.out | exact (Drawn0.below HD.out) | exact Below.refl _ _))) A2.out).mono ?_); rintro e w9 ⟨rfl, hb⟩; refine ⟨_, rfl, ?_⟩; have n0_ := Aside0.mk (below_step (by repeat (first | (with_reducible first | exact HB.out | apply below_alloc | apply pw_below_drewN | apply below_drew1) | exact HB.out)) hb); clear HB; have HB := n0_; clear n0_; (try clear hb); (try clear hb2); (try clear hk); (try clear hi)))
    go_ret
    exact ⟨by first | rfl | (simp [errW_none, errW_some] <;> rfl) | (simp [*, errW_none, errW_some] <;> rfl), by repeat (first | (with_reducible first | exact HB.out | apply below_alloc | apply pw_below_drewN | apply below_drew1) | exact HB.out)⟩

/-! ### cashbooklaw04_may: function 36 -/
def cashbooklaw04_may.f (a0 : Int) : Option (Int) := some (wrap32 (wrap64 ((Int.tmod (wrap64 ((Int.tmod (wrap64 (a0)) 50001) + 50001)) 50001) * (wrap64 (1 - (wrap64 (2 * (Go.bits .and .i64 (wrap64 (a0)) 1))))))))
set_option maxHeartbeats 8000000 in
set_option maxRecDepth 100000 in
theorem cashbooklaw04_may.calls (a0 : Int) (r : Int) (w : World) (h : cashbooklaw04_may.f a0 = some r) :
    Calls Tryd.prog 36 #[.int .i32 a0] w fun e w' => e = .returned (.int .i32 r) ∧ Drawn0 w w' := by
  have H : (some (wrap32 (wrap64 ((Int.tmod (wrap64 ((Int.tmod (wrap64 (a0)) 50001) + 50001)) 50001) * (wrap64 (1 - (wrap64 (2 * (Go.bits .and .i64 (wrap64 (a0)) 1))))))))) = some r := h
  clear h
  obtain rfl := Option.some.inj H
  go_enter Tryd.func36, Tryd.ntmps36
  go_wp2
  go_ret
  exact ⟨by first | rfl | (simp; done) | (simp [*]; done), by repeat (first | exact Drawn0.refl _ | apply Drawn0.step)⟩

end Go.Proofs.YtamfbfhkojnafaaDoor.PD4
