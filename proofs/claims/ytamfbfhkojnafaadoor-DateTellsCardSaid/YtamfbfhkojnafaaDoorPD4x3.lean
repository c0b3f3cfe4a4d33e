-- PRINTED by print.py (a twelfth state) out of the translation. Not trusted: Lean checks it.
import Derived.Test.YtamfbfhkojnafaaDoorPD4x0
import Derived.Test.YtamfbfhkojnafaaDoorPD4x1
import Derived.Test.YtamfbfhkojnafaaDoorPD4x2
import Derived.Test.YtamfbfhkojnafaaDoorDateC
namespace Go.Proofs.YtamfbfhkojnafaaDoor.PD4
open Go.RowKit Go.Proofs.YtamfbfhkojnafaaDoorW.PrintWords Go.Proofs.YtamfbfhkojnafaaDoorW.PrintLast Go.Proofs.YtamfbfhkojnafaaDoorW.PrintMore
attribute [local go_sem] max2_int min2_int max_two min_two max_three min_three max_four min_four   -- for this text's walks alone
set_option linter.unusedVariables false
set_option linter.unusedSimpArgs false

/-! ### cashbooklaw04_DateGoes: function 12 -/
mutual
def cashbooklaw04_DateGoes.j0 : Nat → Int → Int → Int → Option (Bool)
  | 0, _, _, _ => none
  | k + 1, x0, x1, x7 => (date_AddMonths.f k x7 (wrap64 (-x1))).bind fun bt157 => (if bt157.2 = 0 then (if bt157.1 > x0 then (cashbooklaw04_DateGoes.j1 k x7 true) else (if bt157.1 < (wrap32 (x0 - 3)) then (cashbooklaw04_DateGoes.j1 k x7 true) else ((cashbooklaw04_alive.f k).bind fun t159 => (cashbooklaw04_DateGoes.j1 k x7 (!t159))))) else (cashbooklaw04_DateGoes.j1 k x7 true))
def cashbooklaw04_DateGoes.j1 : Nat → Int → Bool → Option (Bool)
  | 0, _, _ => none
  | k + 1, x7, x98 => if x98 = true then (some false) else ((date_MonthEnd.f k x7).bind fun bt160 => (if bt160.2 = 0 then (cashbooklaw04_DateGoes.j2 k x7 bt160.1 bt160.2 (bt160.1 == 50000)) else (cashbooklaw04_DateGoes.j2 k x7 bt160.1 bt160.2 true)))
def cashbooklaw04_DateGoes.j2 : Nat → Int → Int → Int → Bool → Option (Bool)
  | 0, _, _, _, _ => none
  | k + 1, x7, x15, x16, x109 => if x109 = true then (if x16 = 0 then (some true) else (some (x16 == 11))) else ((date_Split.f (wrap32 (x15 + 1))).bind fun bt162 => ((date_MonthEnd.f k x15).bind fun bt166 => (if bt162.2.2.2 = 0 then (if bt166.2 = 0 then (if bt162.2.2.1 = 1 then (if x15 ≥ x7 then (if x15 < (wrap32 (x7 + 31)) then (some (bt166.1 == x15)) else (some false)) else (some false)) else (some false)) else (some false)) else (some false))))
end
def cashbooklaw04_DateGoes.f (k : Nat) (a0 : Int) (a1 : Int) (a2 : Int) : Option (Bool) := (cashbooklaw04_may.f a0).bind fun t149 => ((date_AddMonths.f k t149 (Int.tmod (wrap64 ((Int.tmod a1 400) + 400)) 400)).bind fun bt150 => (if bt150.2 = 0 then ((date_AddMonths.f k bt150.1 (Int.tmod (wrap64 ((Int.tmod a2 400) + 400)) 400)).bind fun bt153 => (if bt153.2 = 0 then ((date_AddMonths.f k t149 (wrap64 ((Int.tmod (wrap64 ((Int.tmod a1 400) + 400)) 400) + (Int.tmod (wrap64 ((Int.tmod a2 400) + 400)) 400)))).bind fun bt155 => (if bt155.2 = 0 then (if bt153.1 > bt155.1 then (some false) else (if bt153.1 < (wrap32 (bt155.1 - 3)) then (some false) else (cashbooklaw04_DateGoes.j0 k t149 (Int.tmod (wrap64 ((Int.tmod a1 400) + 400)) 400) bt150.1))) else (cashbooklaw04_DateGoes.j0 k t149 (Int.tmod (wrap64 ((Int.tmod a1 400) + 400)) 400) bt150.1))) else (cashbooklaw04_DateGoes.j0 k t149 (Int.tmod (wrap64 ((Int.tmod a1 400) + 400)) 400) bt150.1))) else ((cashbooklaw04_alive.f k).bind fun t152 => (if t152 = true then (some (bt150.2 == 11)) else (some false)))))
theorem cashbooklaw04_DateGoes.mono_l : ∀ k, (∀ y0 y1 y2, LeO (cashbooklaw04_DateGoes.j0 k y0 y1 y2) (cashbooklaw04_DateGoes.j0 (k + 1) y0 y1 y2)) ∧ (∀ y0 y1, LeO (cashbooklaw04_DateGoes.j1 k y0 y1) (cashbooklaw04_DateGoes.j1 (k + 1) y0 y1)) ∧ (∀ y0 y1 y2 y3, LeO (cashbooklaw04_DateGoes.j2 k y0 y1 y2 y3) (cashbooklaw04_DateGoes.j2 (k + 1) y0 y1 y2 y3))
  | 0 => ⟨fun _ _ _ r h => by simp [cashbooklaw04_DateGoes.j0] at h, fun _ _ r h => by simp [cashbooklaw04_DateGoes.j1] at h, fun _ _ _ _ r h => by simp [cashbooklaw04_DateGoes.j2] at h⟩
  | k + 1 => by
    obtain ⟨ih0, ih1, ih2⟩ := cashbooklaw04_DateGoes.mono_l k
    refine ⟨?_, ?_, ?_⟩
    · intro y0 y1 y2
      unfold cashbooklaw04_DateGoes.j0
      repeat' first
      | (with_reducible exact ih0 _ _ _)
      | (with_reducible exact ih1 _ _)
      | (with_reducible exact ih2 _ _ _ _)
      | (with_reducible exact cashbooklaw04_alive.mono _)
      | (with_reducible exact date_AddMonths.mono _ _ _)
      | (with_reducible exact date_MonthEnd.mono _ _)
      | (with_reducible exact LeO.refl _)
      | (with_reducible exact LeO.none _)
      | (with_reducible refine LeO.ite ?_ ?_)
      | (with_reducible refine LeO.bind ?_ (fun _ => ?_))
      | exact ih0 _ _ _
      | exact ih1 _ _
      | exact ih2 _ _ _ _
      | exact cashbooklaw04_alive.mono _
      | exact date_AddMonths.mono _ _ _
      | exact date_MonthEnd.mono _ _
      | exact LeO.none _
      | refine LeO.ite ?_ ?_
      | refine LeO.bind ?_ (fun _ => ?_)
    · intro y0 y1
      unfold cashbooklaw04_DateGoes.j1
      repeat' first
      | (with_reducible exact ih0 _ _ _)
      | (with_reducible exact ih1 _ _)
      | (with_reducible exact ih2 _ _ _ _)
      | (with_reducible exact cashbooklaw04_alive.mono _)
      | (with_reducible exact date_AddMonths.mono _ _ _)
      | (with_reducible exact date_MonthEnd.mono _ _)
      | (with_reducible exact LeO.refl _)
      | (with_reducible exact LeO.none _)
      | (with_reducible refine LeO.ite ?_ ?_)
      | (with_reducible refine LeO.bind ?_ (fun _ => ?_))
      | exact ih0 _ _ _
      | exact ih1 _ _
      | exact ih2 _ _ _ _
      | exact cashbooklaw04_alive.mono _
      | exact date_AddMonths.mono _ _ _
      | exact date_MonthEnd.mono _ _
      | exact LeO.none _
      | refine LeO.ite ?_ ?_
      | refine LeO.bind ?_ (fun _ => ?_)
    · intro y0 y1 y2 y3
      unfold cashbooklaw04_DateGoes.j2
      repeat' first
      | (with_reducible exact ih0 _ _ _)
      | (with_reducible exact ih1 _ _)
      | (with_reducible exact ih2 _ _ _ _)
      | (with_reducible exact cashbooklaw04_alive.mono _)
      | (with_reducible exact date_AddMonths.mono _ _ _)
      | (with_reducible exact date_MonthEnd.mono _ _)
      | (with_reducible exact LeO.refl _)
      | (with_reducible exact LeO.none _)
      | (with_reducible refine LeO.ite ?_ ?_)
      | (with_reducible refine LeO.bind ?_ (fun _ => ?_))
      | exact ih0 _ _ _
      | exact ih1 _ _
      | exact ih2 _ _ _ _
      | exact cashbooklaw04_alive.mono _
      | exact date_AddMonths.mono _ _ _
      | exact date_MonthEnd.mono _ _
      | exact LeO.none _
      | refine LeO.ite ?_ ?_
      | refine LeO.bind ?_ (fun _ => ?_)
theorem cashbooklaw04_DateGoes.mono : ∀ a0 a1 a2 k, LeO (cashbooklaw04_DateGoes.f k a0 a1 a2) (cashbooklaw04_DateGoes.f (k + 1) a0 a1 a2) := by
  intro a0 a1 a2 k
  obtain ⟨ih0, ih1, ih2⟩ := cashbooklaw04_DateGoes.mono_l k
  unfold cashbooklaw04_DateGoes.f
  repeat' first
      | (with_reducible exact ih0 _ _ _)
      | (with_reducible exact ih1 _ _)
      | (with_reducible exact ih2 _ _ _ _)
      | (with_reducible exact cashbooklaw04_alive.mono _)
      | (with_reducible exact date_AddMonths.mono _ _ _)
      | (with_reducible exact date_MonthEnd.mono _ _)
      | (with_reducible exact LeO.refl _)
      | (with_reducible exact LeO.none _)
      | (with_reducible refine LeO.ite ?_ ?_)
      | (with_reducible refine LeO.bind ?_ (fun _ => ?_))
      | exact ih0 _ _ _
      | exact ih1 _ _
      | exact ih2 _ _ _ _
      | exact cashbooklaw04_alive.mono _
      | exact date_AddMonths.mono _ _ _
      | exact date_MonthEnd.mono _ _
      | exact LeO.none _
      | refine LeO.ite ?_ ?_
      | refine LeO.bind ?_ (fun _ => ?_)
set_option maxHeartbeats 8000000 in
set_option maxRecDepth 100000 in
theorem cashbooklaw04_DateGoes.calls (k : Nat) (a0 : Int) (a1 : Int) (a2 : Int) (r : Bool) (w : World) (hT : TabsAt w) (h : cashbooklaw04_DateGoes.f k a0 a1 a2 = some r) :
    Calls Tryd.prog 12 #[.int .i32 a0, .int .i64 a1, .int .i64 a2] w fun e w' => e = .returned (.bool r) ∧ Below w.heap.size w w' := by
  have HT := Aside0.mk hT
  clear hT
  have HB := Aside0.mk (Below.refl w.heap.size w)
  have H : ((cashbooklaw04_may.f a0).bind fun t149 => ((date_AddMonths.f k t149 (Int.tmod (wrap64 ((Int.tmod a1 400) + 400)) 400)).bind fun bt150 => (if bt150.2 = 0 then ((date_AddMonths.f k bt150.1 (Int.tmod (wrap64 ((Int.tmod a2 400) + 400)) 400)).bind fun bt153 => (if bt153.2 = 0 then ((date_AddMonths.f k t149 (wrap64 ((Int.tmod (wrap64 ((Int.tmod a1 400) + 400)) 400) + (Int.tmod (wrap64 ((Int.tmod a2 400) + 400)) 400)))).bind fun bt155 => (if bt155.2 = 0 then (if bt153.1 > bt155.1 then (some false) else (if bt153.1 < (wrap32 (bt155.1 - 3)) then (some false) else (cashbooklaw04_DateGoes.j0 k t149 (Int.tmod (wrap64 ((Int.tmod a1 400) + 400)) 400) bt150.1))) else (cashbooklaw04_DateGoes.j0 k t149 (Int.tmod (wrap64 ((Int.tmod a1 400) + 400)) 400) bt150.1))) else (cashbooklaw04_DateGoes.j0 k t149 (Int.tmod (wrap64 ((Int.tmod a1 400) + 400)) 400) bt150.1))) else ((cashbooklaw04_alive.f k).bind fun t152 => (if t152 = true then (some (bt150.2 == 11)) else (some false)))))) = some r := h
  clear h
  replace H := Option.bind_eq_some_iff.mp H
  obtain ⟨t149, A40, H⟩ := H
  replace H : ((date_AddMonths.f k t149 (Int.tmod (wrap64 ((Int.tmod a1 400) + 400)) 400)).bind fun bt150 => (if bt150.2 = 0 then ((date_AddMonths.f k bt150.1 (Int.tmod (wrap64 ((Int.tmod a2 400) + 400)) 400)).bind fun bt153 => (if bt153.2 = 0 then ((date_AddMonths.f k t149 (wrap64 ((Int.tmod (wrap64 ((Int.tmod a1 400) + 400)) 400) + (Int.tmod (wrap64 ((Int.tmod a2 400) + 400)) 400)))).bind fun bt155 => (if bt155.2 = 0 then (if bt153.1 > bt155.1 then (some false) else (if bt153.1 < (wrap32 (bt155.1 - 3)) then (some false) else (cashbooklaw04_DateGoes.j0 k t149 (Int.tmod (wrap64 ((Int.tmod a1 400) + 400)) 400) bt150.1))) else (cashbooklaw04_DateGoes.j0 k t149 (Int.tmod (wrap64 ((Int.tmod a1 400) + 400)) 400) bt150.1))) else (cashbooklaw04_DateGoes.j0 k t149 (Int.tmod (wrap64 ((Int.tmod a1 400) + 400)) 400) bt150.1))) else ((cashbooklaw04_alive.f k).bind fun t152 => (if t152 = true then (some (bt150.2 == 11)) else (some false))))) = some r := H
  have A4 := Aside0.mk A40
  clear A40
  replace H := Option.bind_eq_some_iff.mp H
  obtain ⟨⟨t150, t151⟩, A50, H⟩ := H
  replace H : (if t151 = 0 then ((date_AddMonths.f k t150 (Int.tmod (wrap64 ((Int.tmod a2 400) + 400)) 400)).bind fun bt153 => (if bt153.2 = 0 then ((date_AddMonths.f k t149 (wrap64 ((Int.tmod (wrap64 ((Int.tmod a1 400) + 400)) 400) + (Int.tmod (wrap64 ((Int.tmod a2 400) + 400)) 400)))).bind fun bt155 => (if bt155.2 = 0 then (if bt153.1 > bt155.1 then (some false) else (if bt153.1 < (wrap32 (bt155.1 - 3)) then (some false) else (cashbooklaw04_DateGoes.j0 k t149 (Int.tmod (wrap64 ((Int.tmod a1 400) + 400)) 400) t150))) else (cashbooklaw04_DateGoes.j0 k t149 (Int.tmod (wrap64 ((Int.tmod a1 400) + 400)) 400) t150))) else (cashbooklaw04_DateGoes.j0 k t149 (Int.tmod (wrap64 ((Int.tmod a1 400) + 400)) 400) t150))) else ((cashbooklaw04_alive.f k).bind fun t152 => (if t152 = true then (some (t151 == 11)) else (some false)))) = some r := H
  have A5 := Aside0.mk A50
  clear A50
  by_cases c6 : t151 = 0
  · rw [if_pos c6] at H
    have c6b0 : (t151 == 0) = true := beq_iff_eq.mpr c6
    have c6b1 : (t151 != 0) = false := bne_eq_false_iff_eq.mpr c6
    clear c6
    replace H := Option.bind_eq_some_iff.mp H
    obtain ⟨⟨t153, t154⟩, A70, H⟩ := H
    replace H : (if t154 = 0 then ((date_AddMonths.f k t149 (wrap64 ((Int.tmod (wrap64 ((Int.tmod a1 400) + 400)) 400) + (Int.tmod (wrap64 ((Int.tmod a2 400) + 400)) 400)))).bind fun bt155 => (if bt155.2 = 0 then (if t153 > bt155.1 then (some false) else (if t153 < (wrap32 (bt155.1 - 3)) then (some false) else (cashbooklaw04_DateGoes.j0 k t149 (Int.tmod (wrap64 ((Int.tmod a1 400) + 400)) 400) t150))) else (cashbooklaw04_DateGoes.j0 k t149 (Int.tmod (wrap64 ((Int.tmod a1 400) + 400)) 400) t150))) else (cashbooklaw04_DateGoes.j0 k t149 (Int.tmod (wrap64 ((Int.tmod a1 400) + 400)) 400) t150)) = some r := H
    have A7 := Aside0.mk A70
    clear A70
    have HC8 := Aside0.mk H
    clear H
    go_enter Tryd.func12, Tryd.ntmps12
    go_upto_if 53 with (first | ((with_reducible refine gate_callee (f := 36) rfl ?_); refine goesL_ (some 24) rfl rfl Tryd.func36 (by kernel_rfl) rfl #[.int .i32 a0] rfl (by (try simp only [List.map_toArray, List.map_cons, List.map_nil]); first | done | rfl | (simp only [List.length_drop, List.length_take]; rfl)) ?_; (with_reducible refine (cashbooklaw04_may.calls a0 t149 _ A4.out).mono ?_); rintro e w' ⟨rfl, ⟨nd, rfl⟩⟩; refine ⟨_, rfl, ?_⟩) | ((with_reducible refine gate_callee (f := 38) rfl ?_); refine goesL_ (some 36) rfl rfl Tryd.func38 (by kernel_rfl) rfl #[.int .i32 t149, .int .i64 (Int.tmod (wrap64 ((Int.tmod a1 400) + 400)) 400)] rfl (by (try simp only [List.map_toArray, List.map_cons, List.map_nil]); first | done | rfl | (simp only [List.length_drop, List.length_take]; rfl)) ?_; (with_reducible refine (date_AddMonths.calls k t149 (Int.tmod (wrap64 ((Int.tmod a1 400) + 400)) 400) t150 t151 _ (TabsAt.below HT.out (by repeat (first | (with_reducible first | exact HB.out | apply below_alloc | apply pw_below_drewN | apply below_drew1 | exact Below.refl _ _) | exact HB.out | exact (Drawn0.below HD.out) | exact Below.refl _ _))) A5.out).mono ?_); rintro e w9 ⟨rfl, hb⟩; refine ⟨_, rfl, ?_⟩; have n0_ := Aside0.mk (below_step (by repeat (first | (with_reducible first | exact HB.out | apply below_alloc | apply pw_below_drewN | apply below_drew1) | exact HB.out)) hb); clear HB; have HB := n0_; clear n0_; (try clear hb); (try clear hb2); (try clear hk); (try clear hi)) | ((with_reducible refine gate_callee (f := 38) rfl ?_); refine goesL_ (some 49) rfl rfl Tryd.func38 (by kernel_rfl) rfl #[.int .i32 t150, .int .i64 (Int.tmod (wrap64 ((Int.tmod a2 400) + 400)) 400)] rfl (by (try simp only [List.map_toArray, List.map_cons, List.map_nil]); first | done | rfl | (simp only [List.length_drop, List.length_take]; rfl)) ?_; (with_reducible refine (date_AddMonths.calls k t150 (Int.tmod (wrap64 ((Int.tmod a2 400) + 400)) 400) t153 t154 _ (TabsAt.below HT.out (by repeat (first | (with_reducible first | exact HB.out | apply below_alloc | apply pw_below_drewN | apply below_drew1 | exact Below.refl _ _) | exact HB.out | exact (Drawn0.below HD.out) | exact Below.refl _ _))) A7.out).mono ?_); rintro e w10 ⟨rfl, hb⟩; refine ⟨_, rfl, ?_⟩; have n0_ := Aside0.mk (below_step (by repeat (first | (with_reducible first | exact HB.out | apply below_alloc | apply pw_below_drewN | apply below_drew1) | exact HB.out)) hb); clear HB; have HB := n0_; clear n0_; (try clear hb); (try clear hb2); (try clear hk); (try clear hi)))
    (try simp only [Act.put, List.setIfInBounds_toArray, List.set_cons_zero, List.set_cons_succ])
    go_cut [] (fun wc => ∃ (kq : Nat), Aside0 (cashbooklaw04_DateGoes.j0 kq t149 (Int.tmod (wrap64 ((Int.tmod a1 400) + 400)) 400) t150 = some r) ∧ Aside0 (kq ≤ k) ∧ Aside0 (Below w.heap.size w wc))
    case first =>
      have H := HC8.out
      clear HC8
      by_cases c11 : t154 = 0
      · rw [if_pos c11] at H
        have c11b0 : (t154 == 0) = true := beq_iff_eq.mpr c11
        have c11b1 : (t154 != 0) = false := bne_eq_false_iff_eq.mpr c11
        clear c11
        (first | rw [c11b0] | (simp only [i64_w, i32_w]; rw [c11b0]) | skip)
        replace H := Option.bind_eq_some_iff.mp H
        obtain ⟨⟨t155, t156⟩, A120, H⟩ := H
        replace H : (if t156 = 0 then (if t153 > t155 then (some false) else (if t153 < (wrap32 (t155 - 3)) then (some false) else (cashbooklaw04_DateGoes.j0 k t149 (Int.tmod (wrap64 ((Int.tmod a1 400) + 400)) 400) t150))) else (cashbooklaw04_DateGoes.j0 k t149 (Int.tmod (wrap64 ((Int.tmod a1 400) + 400)) 400) t150)) = some r := H
        have A12 := Aside0.mk A120
        clear A120
        by_cases c13 : t156 = 0
        · rw [if_pos c13] at H
          have c13b0 : (t156 == 0) = true := beq_iff_eq.mpr c13
          have c13b1 : (t156 != 0) = false := bne_eq_false_iff_eq.mpr c13
          clear c13
          by_cases c14 : t153 > t155
          · rw [if_pos c14] at H
            have c14b0 : decide (t155 < t153) = true := decide_eq_true c14
            clear c14
            obtain rfl := Option.some.inj H
            go_wp2_with (first | ((with_reducible refine gate_callee (f := 38) rfl ?_); refine goesL_ (some 59) rfl rfl Tryd.func38 (by kernel_rfl) rfl #[.int .i32 t149, .int .i64 (wrap64 ((Int.tmod (wrap64 ((Int.tmod a1 400) + 400)) 400) + (Int.tmod (wrap64 ((Int.tmod a2 400) + 400)) 400)))] rfl (by (try simp only [List.map_toArray, List.map_cons, List.map_nil]); first | done | rfl | (simp only [List.length_drop, List.length_take]; rfl)) ?_; (with_reducible refine (date_AddMonths.calls k t149 (wrap64 ((Int.tmod (wrap64 ((Int.tmod a1 400) + 400)) 400) + (Int.tmod (wrap64 ((Int.tmod a2 400) + 400)) 400))) t155 t156 _ (TabsAt.below HT.out (by repeat (first | (with_reducible first | exact HB.out | apply below_alloc | apply pw_below_drewN | apply below_drew1 | exact Below.refl _ _) | exact HB.out | exact (Drawn0.below HD.out) | exact Below.refl _ _))) A12.out).mono ?_); rintro e w15 ⟨rfl, hb⟩; refine ⟨_, rfl, ?_⟩; have n0_ := Aside0.mk (below_step (by repeat (first | (with_reducible first | exact HB.out | apply below_alloc | apply pw_below_drewN | apply below_drew1) | exact HB.out)) hb); clear HB; have HB := n0_; clear n0_; (try clear hb); (try clear hb2); (try clear hk); (try clear hi)))
            go_ret
            exact ⟨by first | rfl | (simp [errW_none, errW_some] <;> rfl) | (simp [*, errW_none, errW_some] <;> rfl), by repeat (first | (with_reducible first | exact HB.out | apply below_alloc | apply pw_below_drewN | apply below_drew1) | exact HB.out)⟩
          · rw [if_neg c14] at H
            have c14b0 : decide (t155 < t153) = false := decide_eq_false c14
            clear c14
            by_cases c16 : t153 < (wrap32 (t155 - 3))
            · rw [if_pos c16] at H
              have c16b0 : decide (t153 < (wrap32 (t155 - 3))) = true := decide_eq_true c16
              clear c16
              obtain rfl := Option.some.inj H
              go_wp2_with (first | ((with_reducible refine gate_callee (f := 38) rfl ?_); refine goesL_ (some 59) rfl rfl Tryd.func38 (by kernel_rfl) rfl #[.int .i32 t149, .int .i64 (wrap64 ((Int.tmod (wrap64 ((Int.tmod a1 400) + 400)) 400) + (Int.tmod (wrap64 ((Int.tmod a2 400) + 400)) 400)))] rfl (by (try simp only [List.map_toArray, List.map_cons, List.map_nil]); first | done | rfl | (simp only [List.length_drop, List.length_take]; rfl)) ?_; (with_reducible refine (date_AddMonths.calls k t149 (wrap64 ((Int.tmod (wrap64 ((Int.tmod a1 400) + 400)) 400) + (Int.tmod (wrap64 ((Int.tmod a2 400) + 400)) 400))) t155 t156 _ (TabsAt.below HT.out (by repeat (first | (with_reducible first | exact HB.out | apply below_alloc | apply pw_below_drewN | apply below_drew1 | exact Below.refl _ _) | exact HB.out | exact (Drawn0.below HD.out) | exact Below.refl _ _))) A12.out).mono ?_); rintro e w17 ⟨rfl, hb⟩; refine ⟨_, rfl, ?_⟩; have n0_ := Aside0.mk (below_step (by repeat (first | (with_reducible first | exact HB.out | apply below_alloc | apply pw_below_drewN | apply below_drew1) | exact HB.out)) hb); clear HB; have HB := n0_; clear n0_; (try clear hb); (try clear hb2); (try clear hk); (try clear hi)))
              go_ret
              exact ⟨by first | rfl | (simp [errW_none, errW_some] <;> rfl) | (simp [*, errW_none, errW_some] <;> rfl), by repeat (first | (with_reducible first | exact HB.out | apply below_alloc | apply pw_below_drewN | apply below_drew1) | exact HB.out)⟩
            · rw [if_neg c16] at H
              have c16b0 : decide (t153 < (wrap32 (t155 - 3))) = false := decide_eq_false c16
              clear c16
              have H' := Aside0.mk H
              clear H
              go_wp2_with (first | ((with_reducible refine gate_callee (f := 38) rfl ?_); refine goesL_ (some 59) rfl rfl Tryd.func38 (by kernel_rfl) rfl #[.int .i32 t149, .int .i64 (wrap64 ((Int.tmod (wrap64 ((Int.tmod a1 400) + 400)) 400) + (Int.tmod (wrap64 ((Int.tmod a2 400) + 400)) 400)))] rfl (by (try simp only [List.map_toArray, List.map_cons, List.map_nil]); first | done | rfl | (simp only [List.length_drop, List.length_take]; rfl)) ?_; (with_reducible refine (date_AddMonths.calls k t149 (wrap64 ((Int.tmod (wrap64 ((Int.tmod a1 400) + 400)) 400) + (Int.tmod (wrap64 ((Int.tmod a2 400) + 400)) 400))) t155 t156 _ (TabsAt.below HT.out (by repeat (first | (with_reducible first | exact HB.out | apply below_alloc | apply pw_below_drewN | apply below_drew1 | exact Below.refl _ _) | exact HB.out | exact (Drawn0.below HD.out) | exact Below.refl _ _))) A12.out).mono ?_); rintro e w18 ⟨rfl, hb⟩; refine ⟨_, rfl, ?_⟩; have n0_ := Aside0.mk (below_step (by repeat (first | (with_reducible first | exact HB.out | apply below_alloc | apply pw_below_drewN | apply below_drew1) | exact HB.out)) hb); clear HB; have HB := n0_; clear n0_; (try clear hb); (try clear hb2); (try clear hk); (try clear hi)))
              go_meet
              case rel => exact ⟨_, H', ⟨by first | omega | exact Nat.le_refl _⟩, ⟨by repeat (first | (with_reducible first | exact HB.out | apply below_alloc | apply pw_below_drewN | apply below_drew1) | exact HB.out)⟩⟩
        · rw [if_neg c13] at H
          have c13b0 : (t156 == 0) = false := beq_eq_false_iff_ne.mpr c13
          have c13b1 : (t156 != 0) = true := bne_iff_ne.mpr c13
          have H' := Aside0.mk H
          clear H
          go_wp2_with (first | ((with_reducible refine gate_callee (f := 38) rfl ?_); refine goesL_ (some 59) rfl rfl Tryd.func38 (by kernel_rfl) rfl #[.int .i32 t149, .int .i64 (wrap64 ((Int.tmod (wrap64 ((Int.tmod a1 400) + 400)) 400) + (Int.tmod (wrap64 ((Int.tmod a2 400) + 400)) 400)))] rfl (by (try simp only [List.map_toArray, List.map_cons, List.map_nil]); first | done | rfl | (simp only [List.length_drop, List.length_take]; rfl)) ?_; (with_reducible refine (date_AddMonths.calls k t149 (wrap64 ((Int.tmod (wrap64 ((Int.tmod a1 400) + 400)) 400) + (Int.tmod (wrap64 ((Int.tmod a2 400) + 400)) 400))) t155 t156 _ (TabsAt.below HT.out (by repeat (first | (with_reducible first | exact HB.out | apply below_alloc | apply pw_below_drewN | apply below_drew1 | exact Below.refl _ _) | exact HB.out | exact (Drawn0.below HD.out) | exact Below.refl _ _))) A12.out).mono ?_); rintro e w19 ⟨rfl, hb⟩; refine ⟨_, rfl, ?_⟩; have n0_ := Aside0.mk (below_step (by repeat (first | (with_reducible first | exact HB.out | apply below_alloc | apply pw_below_drewN | apply below_drew1) | exact HB.out)) hb); clear HB; have HB := n0_; clear n0_; (try clear hb); (try clear hb2); (try clear hk); (try clear hi)))
          go_meet
          case rel => exact ⟨_, H', ⟨by first | omega | exact Nat.le_refl _⟩, ⟨by repeat (first | (with_reducible first | exact HB.out | apply below_alloc | apply pw_below_drewN | apply below_drew1) | exact HB.out)⟩⟩
      · rw [if_neg c11] at H
        have c11b0 : (t154 == 0) = false := beq_eq_false_iff_ne.mpr c11
        have c11b1 : (t154 != 0) = true := bne_iff_ne.mpr c11
        (first | rw [c11b0] | (simp only [i64_w, i32_w]; rw [c11b0]) | skip)
        have H' := Aside0.mk H
        clear H
        go_wp2
        go_meet
        case rel => exact ⟨_, H', ⟨by first | omega | exact Nat.le_refl _⟩, ⟨by repeat (first | (with_reducible first | exact HB.out | apply below_alloc | apply pw_below_drewN | apply below_drew1) | exact HB.out)⟩⟩
    case rest =>
      clear HC8
      try clear c1
      try clear p2
      try clear c3
      try clear p3
      try clear c6
      try clear c6b0
      try clear c6b1
      try clear p6
      try clear c11
      try clear c11b0
      try clear c11b1
      try clear c12
      try clear c13
      try clear c13b0
      try clear c13b1
      try clear c14
      try clear c14b0
      try clear c16
      try clear c16b0
      obtain ⟨kq, HA, HJ7, HB⟩ := hcut
      cases kq with
      | zero => exact absurd HA.out (by simp [cashbooklaw04_DateGoes.j0])
      | succ kj7 =>
        have H := HA.out
        clear HA
        simp only [cashbooklaw04_DateGoes.j0] at H
        replace H := Option.bind_eq_some_iff.mp H
        obtain ⟨⟨t157, t158⟩, A200, H⟩ := H
        replace H : (if t158 = 0 then (if t157 > t149 then (cashbooklaw04_DateGoes.j1 kj7 t150 true) else (if t157 < (wrap32 (t149 - 3)) then (cashbooklaw04_DateGoes.j1 kj7 t150 true) else ((cashbooklaw04_alive.f kj7).bind fun t159 => (cashbooklaw04_DateGoes.j1 kj7 t150 (!t159))))) else (cashbooklaw04_DateGoes.j1 kj7 t150 true)) = some r := H
        have A20 := Aside0.mk A200
        clear A200
        have HC21 := Aside0.mk H
        clear H
        go_upto_region 11 with (first | ((with_reducible refine gate_callee (f := 38) rfl ?_); refine goesL_ (some 79) rfl rfl Tryd.func38 (by kernel_rfl) rfl #[.int .i32 t150, .int .i64 (wrap64 (-(Int.tmod (wrap64 ((Int.tmod a1 400) + 400)) 400)))] rfl (by (try simp only [List.map_toArray, List.map_cons, List.map_nil]); first | done | rfl | (simp only [List.length_drop, List.length_take]; rfl)) ?_; (with_reducible refine (date_AddMonths.calls kj7 t150 (wrap64 (-(Int.tmod (wrap64 ((Int.tmod a1 400) + 400)) 400))) t157 t158 _ (TabsAt.below HT.out (by repeat (first | (with_reducible first | exact HB.out | apply below_alloc | apply pw_below_drewN | apply below_drew1 | exact Below.refl _ _) | exact HB.out | exact (Drawn0.below HD.out) | exact Below.refl _ _))) A20.out).mono ?_); rintro e w22 ⟨rfl, hb⟩; refine ⟨_, rfl, ?_⟩; have n0_ := Aside0.mk (below_step (by repeat (first | (with_reducible first | exact HB.out | apply below_alloc | apply pw_below_drewN | apply below_drew1) | exact HB.out)) hb); clear HB; have HB := n0_; clear n0_; (try clear hb); (try clear hb2); (try clear hk); (try clear hi)))
        (try simp only [Act.put, List.setIfInBounds_toArray, List.set_cons_zero, List.set_cons_succ])
        go_cut [98] (fun v98 wc => ∃ (kq : Nat) (x98_20 : Bool), v98 = .bool x98_20 ∧ Aside0 (cashbooklaw04_DateGoes.j1 kq t150 x98_20 = some r) ∧ Aside0 (kq ≤ kj7) ∧ Aside0 (Below w.heap.size w wc))
        case first =>
          have H := HC21.out
          clear HC21
          by_cases c23 : t158 = 0
          · rw [if_pos c23] at H
            have c23b0 : (t158 == 0) = true := beq_iff_eq.mpr c23
            have c23b1 : (t158 != 0) = false := bne_eq_false_iff_eq.mpr c23
            clear c23
            (first | rw [c23b0] | (simp only [i64_w, i32_w]; rw [c23b0]) | skip)
            by_cases c24 : t157 > t149
            · rw [if_pos c24] at H
              have c24b0 : decide (t149 < t157) = true := decide_eq_true c24
              clear c24
              have H' := Aside0.mk H
              clear H
              go_wp2
              go_meet
              case rel => exact ⟨_, (true), (by first | rfl | (simp; done) | (simp [*]; done)), H', ⟨by have := HJ7.out; first | omega | exact Nat.le_refl _⟩, ⟨by repeat (first | (with_reducible first | exact HB.out | apply below_alloc | apply pw_below_drewN | apply below_drew1) | exact HB.out)⟩⟩
            · rw [if_neg c24] at H
              have c24b0 : decide (t149 < t157) = false := decide_eq_false c24
              clear c24
              by_cases c25 : t157 < (wrap32 (t149 - 3))
              · rw [if_pos c25] at H
                have c25b0 : decide (t157 < (wrap32 (t149 - 3))) = true := decide_eq_true c25
                clear c25
                have H' := Aside0.mk H
                clear H
                go_wp2
                go_meet
                case rel => exact ⟨_, (true), (by first | rfl | (simp; done) | (simp [*]; done)), H', ⟨by have := HJ7.out; first | omega | exact Nat.le_refl _⟩, ⟨by repeat (first | (with_reducible first | exact HB.out | apply below_alloc | apply pw_below_drewN | apply below_drew1) | exact HB.out)⟩⟩
              · rw [if_neg c25] at H
                have c25b0 : decide (t157 < (wrap32 (t149 - 3))) = false := decide_eq_false c25
                clear c25
                replace H := Option.bind_eq_some_iff.mp H
                obtain ⟨t159, A260, H⟩ := H
                replace H : (cashbooklaw04_DateGoes.j1 kj7 t150 (!t159)) = some r := H
                have A26 := Aside0.mk A260
                clear A260
                have H' := Aside0.mk H
                clear H
                go_wp2_with (first | (go_at_call 35; (with_reducible refine (cashbooklaw04_alive.calls kj7  t159 _ (TabsAt.below HT.out (by repeat (first | (with_reducible first | exact HB.out | apply below_alloc | apply pw_below_drewN | apply below_drew1 | exact Below.refl _ _) | exact HB.out | exact (Drawn0.below HD.out) | exact Below.refl _ _))) A26.out).mono ?_); rintro e w27 ⟨rfl, hb⟩; have n0_ := Aside0.mk (below_step (by repeat (first | (with_reducible first | exact HB.out | apply below_alloc | apply pw_below_drewN | apply below_drew1) | exact HB.out)) hb); clear HB; have HB := n0_; clear n0_; (try clear hb); (try clear hb2); (try clear hk); (try clear hi)))
                go_meet
                case rel => exact ⟨_, (!t159), (by first | rfl | (simp; done) | (simp [*]; done)), H', ⟨by have := HJ7.out; first | omega | exact Nat.le_refl _⟩, ⟨by repeat (first | (with_reducible first | exact HB.out | apply below_alloc | apply pw_below_drewN | apply below_drew1) | exact HB.out)⟩⟩
          · rw [if_neg c23] at H
            have c23b0 : (t158 == 0) = false := beq_eq_false_iff_ne.mpr c23
            have c23b1 : (t158 != 0) = true := bne_iff_ne.mpr c23
            (first | rw [c23b0] | (simp only [i64_w, i32_w]; rw [c23b0]) | skip)
            have H' := Aside0.mk H
            clear H
            go_wp2
            go_meet
            case rel => exact ⟨_, (true), (by first | rfl | (simp; done) | (simp [*]; done)), H', ⟨by have := HJ7.out; first | omega | exact Nat.le_refl _⟩, ⟨by repeat (first | (with_reducible first | exact HB.out | apply below_alloc | apply pw_below_drewN | apply below_drew1) | exact HB.out)⟩⟩
        case rest =>
          clear HC21
          try clear c1
          try clear c2
          try clear p2
          try clear c3
          try clear p3
          try clear c6
          try clear c6b0
          try clear c6b1
          try clear p6
          try clear c11
          try clear c11b0
          try clear c11b1
          try clear c12
          try clear c13
          try clear c13b0
          try clear c13b1
          try clear c14
          try clear c14b0
          try clear c16
          try clear c16b0
          try clear c23
          try clear c23b0
          try clear c23b1
          try clear c24
          try clear c24b0
          try clear c25
          try clear c25b0
          try clear p2
          try clear p3
          try clear p6
          obtain ⟨kq, x98_20, rfl, HA, HJ20, HB⟩ := hcut
          cases kq with
          | zero => exact absurd HA.out (by simp [cashbooklaw04_DateGoes.j1])
          | succ kj20 =>
            have H := HA.out
            clear HA
            simp only [cashbooklaw04_DateGoes.j1] at H
            by_cases c28 : x98_20 = true
            · subst c28
              have H1 : (some false) = some r := by rw [if_pos rfl] at H; exact H
              clear H
              have H := H1
              clear H1
              obtain rfl := Option.some.inj H
              go_wp2
              go_ret
              exact ⟨by first | rfl | (simp [errW_none, errW_some] <;> rfl) | (simp [*, errW_none, errW_some] <;> rfl), by repeat (first | (with_reducible first | exact HB.out | apply below_alloc | apply pw_below_drewN | apply below_drew1) | exact HB.out)⟩
            · replace c28 := Bool.eq_false_iff.mpr c28
              subst c28
              have H1 : ((date_MonthEnd.f kj20 t150).bind fun bt160 => (if bt160.2 = 0 then (cashbooklaw04_DateGoes.j2 kj20 t150 bt160.1 bt160.2 (bt160.1 == 50000)) else (cashbooklaw04_DateGoes.j2 kj20 t150 bt160.1 bt160.2 true))) = some r := by rw [if_neg (show ¬ (false = true) by decide)] at H; exact H
              clear H
              have H := H1
              clear H1
              replace H := Option.bind_eq_some_iff.mp H
              obtain ⟨⟨t160, t161⟩, A290, H⟩ := H
              replace H : (if t161 = 0 then (cashbooklaw04_DateGoes.j2 kj20 t150 t160 t161 (t160 == 50000)) else (cashbooklaw04_DateGoes.j2 kj20 t150 t160 t161 true)) = some r := H
              have A29 := Aside0.mk A290
              clear A290
              have HC30 := Aside0.mk H
              clear H
              go_upto_region 14 with (first | ((with_reducible refine gate_callee (f := 41) rfl ?_); refine goesL_ (some 101) rfl rfl Tryd.func41 (by kernel_rfl) rfl #[.int .i32 t150] rfl (by (try simp only [List.map_toArray, List.map_cons, List.map_nil]); first | done | rfl | (simp only [List.length_drop, List.length_take]; rfl)) ?_; (with_reducible refine (date_MonthEnd.calls kj20 t150 t160 t161 _ (TabsAt.below HT.out (by repeat (first | (with_reducible first | exact HB.out | apply below_alloc | apply pw_below_drewN | apply below_drew1 | exact Below.refl _ _) | exact HB.out | exact (Drawn0.below HD.out) | exact Below.refl _ _))) A29.out).mono ?_); rintro e w' ⟨rfl, ⟨nd, rfl⟩⟩; refine ⟨_, rfl, ?_⟩))
              (try simp only [Act.put, List.setIfInBounds_toArray, List.set_cons_zero, List.set_cons_succ])
              go_cut [109] (fun v109 wc => ∃ (kq : Nat) (x109_29 : Bool), v109 = .bool x109_29 ∧ Aside0 (cashbooklaw04_DateGoes.j2 kq t150 t160 t161 x109_29 = some r) ∧ Aside0 (kq ≤ kj20) ∧ Aside0 (Below w.heap.size w wc))
              case first =>
                have H := HC30.out
                clear HC30
                by_cases c31 : t161 = 0
                · rw [if_pos c31] at H
                  have c31b0 : (t161 == 0) = true := beq_iff_eq.mpr c31
                  have c31b1 : (t161 != 0) = false := bne_eq_false_iff_eq.mpr c31
                  clear c31
                  (first | rw [c31b0] | (simp only [i64_w, i32_w]; rw [c31b0]) | skip)
                  have H' := Aside0.mk H
                  clear H
                  go_wp2
                  go_meet
                  case rel => exact ⟨_, ((t160 == 50000)), (by first | rfl | (simp; done) | (simp [*]; done)), H', ⟨by have := HJ7.out; have := HJ20.out; first | omega | exact Nat.le_refl _⟩, ⟨by repeat (first | (with_reducible first | exact HB.out | apply below_alloc | apply pw_below_drewN | apply below_drew1) | exact HB.out)⟩⟩
                · rw [if_neg c31] at H
                  have c31b0 : (t161 == 0) = false := beq_eq_false_iff_ne.mpr c31
                  have c31b1 : (t161 != 0) = true := bne_iff_ne.mpr c31
                  (first | rw [c31b0] | (simp only [i64_w, i32_w]; rw [c31b0]) | skip)
                  have H' := Aside0.mk H
                  clear H
                  go_wp2
                  go_meet
                  case rel => exact ⟨_, (true), (by first | rfl | (simp; done) | (simp [*]; done)), H', ⟨by have := HJ7.out; have := HJ20.out; first | omega | exact Nat.le_refl _⟩, ⟨by repeat (first | (with_reducible first | exact HB.out | apply below_alloc | apply pw_below_drewN | apply below_drew1) | exact HB.out)⟩⟩
              case rest =>
                clear HC30
                try clear c1
                try clear c2
                try clear p2
                try clear c3
                try clear p3
                try clear c4
                try clear c6
                try clear c6b0
                try clear c6b1
                try clear p6
                try clear c11
                try clear c11b0
                try clear c11b1
                try clear c12
                try clear c13
                try clear c13b0
                try clear c13b1
                try clear c14
                try clear c14b0
                try clear c16
                try clear c16b0
                try clear c23
                try clear c23b0
                try clear c23b1
                try clear c24
                try clear c24b0
                try clear c25
                try clear c25b0
                try clear c28
                try clear c31
                try clear c31b0
                try clear c31b1
                try clear p2
                try clear p3
                try clear p6
                obtain ⟨kq, x109_29, rfl, HA, HJ29, HB⟩ := hcut
                cases kq with
                | zero => exact absurd HA.out (by simp [cashbooklaw04_DateGoes.j2])
                | succ kj29 =>
                  have H := HA.out
                  clear HA
                  simp only [cashbooklaw04_DateGoes.j2] at H
                  by_cases c32 : x109_29 = true
                  · subst c32
                    have H1 : (if t161 = 0 then (some true) else (some (t161 == 11))) = some r := by rw [if_pos rfl] at H; exact H
                    clear H
                    have H := H1
                    clear H1
                    by_cases c33 : t161 = 0
                    · rw [if_pos c33] at H
                      have c33b0 : (t161 == 0) = true := beq_iff_eq.mpr c33
                      have c33b1 : (t161 != 0) = false := bne_eq_false_iff_eq.mpr c33
                      clear c33
                      obtain rfl := Option.some.inj H
                      go_wp2
                      go_ret
                      exact ⟨by first | rfl | (simp [errW_none, errW_some] <;> rfl) | (simp [*, errW_none, errW_some] <;> rfl), by repeat (first | (with_reducible first | exact HB.out | apply below_alloc | apply pw_below_drewN | apply below_drew1) | exact HB.out)⟩
                    · rw [if_neg c33] at H
                      have c33b0 : (t161 == 0) = false := beq_eq_false_iff_ne.mpr c33
                      have c33b1 : (t161 != 0) = true := bne_iff_ne.mpr c33
                      obtain rfl := Option.some.inj H
                      go_wp2
                      go_ret
                      exact ⟨by first | rfl | (simp [errW_none, errW_some] <;> rfl) | (simp [*, errW_none, errW_some] <;> rfl), by repeat (first | (with_reducible first | exact HB.out | apply below_alloc | apply pw_below_drewN | apply below_drew1) | exact HB.out)⟩
                  · replace c32 := Bool.eq_false_iff.mpr c32
                    subst c32
                    have H1 : ((date_Split.f (wrap32 (t160 + 1))).bind fun bt162 => ((date_MonthEnd.f kj29 t160).bind fun bt166 => (if bt162.2.2.2 = 0 then (if bt166.2 = 0 then (if bt162.2.2.1 = 1 then (if t160 ≥ t150 then (if t160 < (wrap32 (t150 + 31)) then (some (bt166.1 == t160)) else (some false)) else (some false)) else (some false)) else (some false)) else (some false)))) = some r := by rw [if_neg (show ¬ (false = true) by decide)] at H; exact H
                    clear H
                    have H := H1
                    clear H1
                    replace H := Option.bind_eq_some_iff.mp H
                    obtain ⟨⟨t162, t163, t164, t165⟩, A340, H⟩ := H
                    replace H : ((date_MonthEnd.f kj29 t160).bind fun bt166 => (if t165 = 0 then (if bt166.2 = 0 then (if t164 = 1 then (if t160 ≥ t150 then (if t160 < (wrap32 (t150 + 31)) then (some (bt166.1 == t160)) else (some false)) else (some false)) else (some false)) else (some false)) else (some false))) = some r := H
                    have A34 := Aside0.mk A340
                    clear A340
                    replace H := Option.bind_eq_some_iff.mp H
                    obtain ⟨⟨t166, t167⟩, A350, H⟩ := H
                    replace H : (if t165 = 0 then (if t167 = 0 then (if t164 = 1 then (if t160 ≥ t150 then (if t160 < (wrap32 (t150 + 31)) then (some (t166 == t160)) else (some false)) else (some false)) else (some false)) else (some false)) else (some false)) = some r := H
                    have A35 := Aside0.mk A350
                    clear A350
                    by_cases c36 : t165 = 0
                    · rw [if_pos c36] at H
                      have c36b0 : (t165 == 0) = true := beq_iff_eq.mpr c36
                      have c36b1 : (t165 != 0) = false := bne_eq_false_iff_eq.mpr c36
                      clear c36
                      by_cases c37 : t167 = 0
                      · rw [if_pos c37] at H
                        have c37b0 : (t167 == 0) = true := beq_iff_eq.mpr c37
                        have c37b1 : (t167 != 0) = false := bne_eq_false_iff_eq.mpr c37
                        clear c37
                        by_cases c38 : t164 = 1
                        · rw [if_pos c38] at H
                          have c38b0 : (t164 == 1) = true := beq_iff_eq.mpr c38
                          have c38b1 : (t164 != 1) = false := bne_eq_false_iff_eq.mpr c38
                          clear c38
                          by_cases c39 : t160 ≥ t150
                          · rw [if_pos c39] at H
                            have c39b0 : decide (t150 ≤ t160) = true := decide_eq_true c39
                            clear c39
                            by_cases c40 : t160 < (wrap32 (t150 + 31))
                            · rw [if_pos c40] at H
                              have c40b0 : decide (t160 < (wrap32 (t150 + 31))) = true := decide_eq_true c40
                              clear c40
                              obtain rfl := Option.some.inj H
                              go_wp2_with (first | ((with_reducible refine gate_callee (f := 25) rfl ?_); refine goesL_ (some 119) rfl rfl Tryd.func25 (by kernel_rfl) rfl #[.int .i32 (wrap32 (t160 + 1))] rfl (by (try simp only [List.map_toArray, List.map_cons, List.map_nil]); first | done | rfl | (simp only [List.length_drop, List.length_take]; rfl)) ?_; (with_reducible refine (date_Split.calls (wrap32 (t160 + 1)) t162 t163 t164 t165 _ (TabsAt.below HT.out (by repeat (first | (with_reducible first | exact HB.out | apply below_alloc | apply pw_below_drewN | apply below_drew1 | exact Below.refl _ _) | exact HB.out | exact (Drawn0.below HD.out) | exact Below.refl _ _))) A34.out).mono ?_); rintro e w' ⟨rfl, ⟨nd, rfl⟩⟩; refine ⟨_, rfl, ?_⟩) | ((with_reducible refine gate_callee (f := 41) rfl ?_); refine goesL_ (some 126) rfl rfl Tryd.func41 (by kernel_rfl) rfl #[.int .i32 t160] rfl (by (try simp only [List.map_toArray, List.map_cons, List.map_nil]); first | done | rfl | (simp only [List.length_drop, List.length_take]; rfl)) ?_; (with_reducible refine (date_MonthEnd.calls kj29 t160 t166 t167 _ (TabsAt.below HT.out (by repeat (first | (with_reducible first | exact HB.out | apply below_alloc | apply pw_below_drewN | apply below_drew1 | exact Below.refl _ _) | exact HB.out | exact (Drawn0.below HD.out) | exact Below.refl _ _))) A35.out).mono ?_); rintro e w' ⟨rfl, ⟨nd, rfl⟩⟩; refine ⟨_, rfl, ?_⟩))
                              go_ret
                              exact ⟨by first | rfl | (simp [errW_none, errW_some] <;> rfl) | (simp [*, errW_none, errW_some] <;> rfl), by repeat (first | (with_reducible first | exact HB.out | apply below_alloc | apply pw_below_drewN | apply below_drew1) | exact HB.out)⟩
                            · rw [if_neg c40] at H
                              have c40b0 : decide (t160 < (wrap32 (t150 + 31))) = false := decide_eq_false c40
                              clear c40
                              obtain rfl := Option.some.inj H
                              go_wp2_with (first | ((with_reducible refine gate_callee (f := 25) rfl ?_); refine goesL_ (some 119) rfl rfl Tryd.func25 (by kernel_rfl) rfl #[.int .i32 (wrap32 (t160 + 1))] rfl (by (try simp only [List.map_toArray, List.map_cons, List.map_nil]); first | done | rfl | (simp only [List.length_drop, List.length_take]; rfl)) ?_; (with_reducible refine (date_Split.calls (wrap32 (t160 + 1)) t162 t163 t164 t165 _ (TabsAt.below HT.out (by repeat (first | (with_reducible first | exact HB.out | apply below_alloc | apply pw_below_drewN | apply below_drew1 | exact Below.refl _ _) | exact HB.out | exact (Drawn0.below HD.out) | exact Below.refl _ _))) A34.out).mono ?_); rintro e w' ⟨rfl, ⟨nd, rfl⟩⟩; refine ⟨_, rfl, ?_⟩) | ((with_reducible refine gate_callee (f := 41) rfl ?_); refine goesL_ (some 126) rfl rfl Tryd.func41 (by kernel_rfl) rfl #[.int .i32 t160] rfl (by (try simp only [List.map_toArray, List.map_cons, List.map_nil]); first | done | rfl | (simp only [List.length_drop, List.length_take]; rfl)) ?_; (with_reducible refine (date_MonthEnd.calls kj29 t160 t166 t167 _ (TabsAt.below HT.out (by repeat (first | (with_reducible first | exact HB.out | apply below_alloc | apply pw_below_drewN | apply below_drew1 | exact Below.refl _ _) | exact HB.out | exact (Drawn0.below HD.out) | exact Below.refl _ _))) A35.out).mono ?_); rintro e w' ⟨rfl, ⟨nd, rfl⟩⟩; refine ⟨_, rfl, ?_⟩))
                              go_ret
                              exact ⟨by first | rfl | (simp [errW_none, errW_some] <;> rfl) | (simp [*, errW_none, errW_some] <;> rfl), by repeat (first | (with_reducible first | exact HB.out | apply below_alloc | apply pw_below_drewN | apply below_drew1) | exact HB.out)⟩
                          · rw [if_neg c39] at H
                            have c39b0 : decide (t150 ≤ t160) = false := decide_eq_false c39
                            clear c39
                            obtain rfl := Option.some.inj H
                            go_wp2_with (first | ((with_reducible refine gate_callee (f := 25) rfl ?_); refine goesL_ (some 119) rfl rfl Tryd.func25 (by kernel_rfl) rfl #[.int .i32 (wrap32 (t160 + 1))] rfl (by (try simp only [List.map_toArray, List.map_cons, List.map_nil]); first | done | rfl | (simp only [List.length_drop, List.length_take]; rfl)) ?_; (with_reducible refine (date_Split.calls (wrap32 (t160 + 1)) t162 t163 t164 t165 _ (TabsAt.below HT.out (by repeat (first | (with_reducible first | exact HB.out | apply below_alloc | apply pw_below_drewN | apply below_drew1 | exact Below.refl _ _) | exact HB.out | exact (Drawn0.below HD.out) | exact Below.refl _ _))) A34.out).mono ?_); rintro e w' ⟨rfl, ⟨nd, rfl⟩⟩; refine ⟨_, rfl, ?_⟩) | ((with_reducible refine gate_callee (f := 41) rfl ?_); refine goesL_ (some 126) rfl rfl Tryd.func41 (by kernel_rfl) rfl #[.int .i32 t160] rfl (by (try simp only [List.map_toArray, List.map_cons, List.map_nil]); first | done | rfl | (simp only [List.length_drop, List.length_take]; rfl)) ?_; (with_reducible refine (date_MonthEnd.calls kj29 t160 t166 t167 _ (TabsAt.below HT.out (by repeat (first | (with_reducible first | exact HB.out | apply below_alloc | apply pw_below_drewN | apply below_drew1 | exact Below.refl _ _) | exact HB.out | exact (Drawn0.below HD.out) | exact Below.refl _ _))) A35.out).mono ?_); rintro e w' ⟨rfl, ⟨nd, rfl⟩⟩; refine ⟨_, rfl, ?_⟩))
                            go_ret
                            exact ⟨by first | rfl | (simp [errW_none, errW_some] <;> rfl) | (simp [*, errW_none, errW_some] <;> rfl), by repeat (first | (with_reducible first | exact HB.out | apply below_alloc | apply pw_below_drewN | apply below_drew1) | exact HB.out)⟩
                        · rw [if_neg c38] at H
                          have c38b0 : (t164 == 1) = false := beq_eq_false_iff_ne.mpr c38
                          have c38b1 : (t164 != 1) = true := bne_iff_ne.mpr c38
                          obtain rfl := Option.some.inj H
                          go_wp2_with (first | ((with_reducible refine gate_callee (f := 25) rfl ?_); refine goesL_ (some 119) rfl rfl Tryd.func25 (by kernel_rfl) rfl #[.int .i32 (wrap32 (t160 + 1))] rfl (by (try simp only [List.map_toArray, List.map_cons, List.map_nil]); first | done | rfl | (simp only [List.length_drop, List.length_take]; rfl)) ?_; (with_reducible refine (date_Split.calls (wrap32 (t160 + 1)) t162 t163 t164 t165 _ (TabsAt.below HT.out (by repeat (first | (with_reducible first | exact HB.out | apply below_alloc | apply pw_below_drewN | apply below_drew1 | exact Below.refl _ _) | exact HB.out | exact (Drawn0.below HD.out) | exact Below.refl _ _))) A34.out).mono ?_); rintro e w' ⟨rfl, ⟨nd, rfl⟩⟩; refine ⟨_, rfl, ?_⟩) | ((with_reducible refine gate_callee (f := 41) rfl ?_); refine goesL_ (some 126) rfl rfl Tryd.func41 (by kernel_rfl) rfl #[.int .i32 t160] rfl (by (try simp only [List.map_toArray, List.map_cons, List.map_nil]); first | done | rfl | (simp only [List.length_drop, List.length_take]; rfl)) ?_; (with_reducible refine (date_MonthEnd.calls kj29 t160 t166 t167 _ (TabsAt.below HT.out (by repeat (first | (with_reducible first | exact HB.out | apply below_alloc | apply pw_below_drewN | apply below_drew1 | exact Below.refl _ _) | exact HB.out | exact (Drawn0.below HD.out) | exact Below.refl _ _))) A35.out).mono ?_); rintro e w' ⟨rfl, ⟨nd, rfl⟩⟩; refine ⟨_, rfl, ?_⟩))
                          go_ret
                          exact ⟨by first | rfl | (simp [errW_none, errW_some] <;> rfl) | (simp [*, errW_none, errW_some] <;> rfl), by repeat (first | (with_reducible first | exact HB.out | apply below_alloc | apply pw_below_drewN | apply below_drew1) | exact HB.out)⟩
                      · rw [if_neg c37] at H
                        have c37b0 : (t167 == 0) = false := beq_eq_false_iff_ne.mpr c37
                        have c37b1 : (t167 != 0) = true := bne_iff_ne.mpr c37
                        obtain rfl := Option.some.inj H
                        go_wp2_with (first | ((with_reducible refine gate_callee (f := 25) rfl ?_); refine goesL_ (some 119) rfl rfl Tryd.func25 (by kernel_rfl) rfl #[.int .i32 (wrap32 (t160 + 1))] rfl (by (try simp only [List.map_toArray, List.map_cons, List.map_nil]); first | done | rfl | (simp only [List.length_drop, List.length_take]; rfl)) ?_; (with_reducible refine (date_Split.calls (wrap32 (t160 + 1)) t162 t163 t164 t165 _ (TabsAt.below HT.out (by repeat (first | (with_reducible first | exact HB.out | apply below_alloc | apply pw_below_drewN | apply below_drew1 | exact Below.refl _ _) | exact HB.out | exact (Drawn0.below HD.out) | exact Below.refl _ _))) A34.out).mono ?_); rintro e w' ⟨rfl, ⟨nd, rfl⟩⟩; refine ⟨_, rfl, ?_⟩) | ((with_reducible refine gate_callee (f := 41) rfl ?_); refine goesL_ (some 126) rfl rfl Tryd.func41 (by kernel_rfl) rfl #[.int .i32 t160] rfl (by (try simp only [List.map_toArray, List.map_cons, List.map_nil]); first | done | rfl | (simp only [List.length_drop, List.length_take]; rfl)) ?_; (with_reducible refine (date_MonthEnd.calls kj29 t160 t166 t167 _ (TabsAt.below HT.out (by repeat (first | (with_reducible first | exact HB.out | apply below_alloc | apply pw_below_drewN | apply below_drew1 | exact Below.refl _ _) | exact HB.out | exact (Drawn0.below HD.out) | exact Below.refl _ _))) A35.out).mono ?_); rintro e w' ⟨rfl, ⟨nd, rfl⟩⟩; refine ⟨_, rfl, ?_⟩))
                        go_ret
                        exact ⟨by first | rfl | (simp [errW_none, errW_some] <;> rfl) | (simp [*, errW_none, errW_some] <;> rfl), by repeat (first | (with_reducible first | exact HB.out | apply below_alloc | apply pw_below_drewN | apply below_drew1) | exact HB.out)⟩
                    · rw [if_neg c36] at H
                      have c36b0 : (t165 == 0) = false := beq_eq_false_iff_ne.mpr c36
                      have c36b1 : (t165 != 0) = true := bne_iff_ne.mpr c36
                      obtain rfl := Option.some.inj H
                      go_wp2_with (first | ((with_reducible refine gate_callee (f := 25) rfl ?_); refine goesL_ (some 119) rfl rfl Tryd.func25 (by kernel_rfl) rfl #[.int .i32 (wrap32 (t160 + 1))] rfl (by (try simp only [List.map_toArray, List.map_cons, List.map_nil]); first | done | rfl | (simp only [List.length_drop, List.length_take]; rfl)) ?_; (with_reducible refine (date_Split.calls (wrap32 (t160 + 1)) t162 t163 t164 t165 _ (TabsAt.below HT.out (by repeat (first | (with_reducible first | exact HB.out | apply below_alloc | apply pw_below_drewN | apply below_drew1 | exact Below.refl _ _) | exact HB.out | exact (Drawn0.below HD.out) | exact Below.refl _ _))) A34.out).mono ?_); rintro e w' ⟨rfl, ⟨nd, rfl⟩⟩; refine ⟨_, rfl, ?_⟩) | ((with_reducible refine gate_callee (f := 41) rfl ?_); refine goesL_ (some 126) rfl rfl Tryd.func41 (by kernel_rfl) rfl #[.int .i32 t160] rfl (by (try simp only [List.map_toArray, List.map_cons, List.map_nil]); first | done | rfl | (simp only [List.length_drop, List.length_take]; rfl)) ?_; (with_reducible refine (date_MonthEnd.calls kj29 t160 t166 t167 _ (TabsAt.below HT.out (by repeat (first | (with_reducible first | exact HB.out | apply below_alloc | apply pw_below_drewN | apply below_drew1 | exact Below.refl _ _) | exact HB.out | exact (Drawn0.below HD.out) | exact Below.refl _ _))) A35.out).mono ?_); rintro e w' ⟨rfl, ⟨nd, rfl⟩⟩; refine ⟨_, rfl, ?_⟩))
                      go_ret
                      exact ⟨by first | rfl | (simp [errW_none, errW_some] <;> rfl) | (simp [*, errW_none, errW_some] <;> rfl), by repeat (first | (with_reducible first | exact HB.out | apply below_alloc | apply pw_below_drewN | apply below_drew1) | exact HB.out)⟩
  · rw [if_neg c6] at H
    have c6b0 : (t151 == 0) = false := beq_eq_false_iff_ne.mpr c6
    have c6b1 : (t151 != 0) = true := bne_iff_ne.mpr c6
    replace H := Option.bind_eq_some_iff.mp H
    obtain ⟨t152, A410, H⟩ := H
    replace H : (if t152 = true then (some (t151 == 11)) else (some false)) = some r := H
    have A41 := Aside0.mk A410
    clear A410
    by_cases c42 : t152 = true
    · subst c42
      have H1 : (some (t151 == 11)) = some r := by rw [if_pos rfl] at H; exact H
      clear H
      have H := H1
      clear H1
      obtain rfl := Option.some.inj H
      go_enter Tryd.func12, Tryd.ntmps12
      go_wp2_with (first | ((with_reducible refine gate_callee (f := 36) rfl ?_); refine goesL_ (some 24) rfl rfl Tryd.func36 (by kernel_rfl) rfl #[.int .i32 a0] rfl (by (try simp only [List.map_toArray, List.map_cons, List.map_nil]); first | done | rfl | (simp only [List.length_drop, List.length_take]; rfl)) ?_; (with_reducible refine (cashbooklaw04_may.calls a0 t149 _ A4.out).mono ?_); rintro e w' ⟨rfl, ⟨nd, rfl⟩⟩; refine ⟨_, rfl, ?_⟩) | ((with_reducible refine gate_callee (f := 38) rfl ?_); refine goesL_ (some 36) rfl rfl Tryd.func38 (by kernel_rfl) rfl #[.int .i32 t149, .int .i64 (Int.tmod (wrap64 ((Int.tmod a1 400) + 400)) 400)] rfl (by (try simp only [List.map_toArray, List.map_cons, List.map_nil]); first | done | rfl | (simp only [List.length_drop, List.length_take]; rfl)) ?_; (with_reducible refine (date_AddMonths.calls k t149 (Int.tmod (wrap64 ((Int.tmod a1 400) + 400)) 400) t150 t151 _ (TabsAt.below HT.out (by repeat (first | (with_reducible first | exact HB.out | apply below_alloc | apply pw_below_drewN | apply below_drew1 | exact Below.refl _ _) | exact HB.out | exact (Drawn0.below HD.out) | exact Below.refl _ _))) A5.out).mono ?_); rintro e w43 ⟨rfl, hb⟩; refine ⟨_, rfl, ?_⟩; have n0_ := Aside0.mk (below_step (by repeat (first | (with_reducible first | exact HB.out | apply below_alloc | apply pw_below_drewN | apply below_drew1) | exact HB.out)) hb); clear HB; have HB := n0_; clear n0_; (try clear hb); (try clear hb2); (try clear hk); (try clear hi)) | ((with_reducible refine gate_callee (f := 35) rfl ?_); refine goesL_ (some 41) rfl rfl Tryd.func35 (by kernel_rfl) rfl #[] rfl (by (try simp only [List.map_toArray, List.map_cons, List.map_nil]); first | done | rfl | (simp only [List.length_drop, List.length_take]; rfl)) ?_; (with_reducible refine (cashbooklaw04_alive.calls k  true _ (TabsAt.below HT.out (by repeat (first | (with_reducible first | exact HB.out | apply below_alloc | apply pw_below_drewN | apply below_drew1 | exact Below.refl _ _) | exact HB.out | exact (Drawn0.below HD.out) | exact Below.refl _ _))) A41.out).mono ?_); rintro e w44 ⟨rfl, hb⟩; refine ⟨_, rfl, ?_⟩; have n0_ := Aside0.mk (below_step (by repeat (first | (with_reducible first | exact HB.out | apply below_alloc | apply pw_below_drewN | apply below_drew1) | exact HB.out)) hb); clear HB; have HB := n0_; clear n0_; (try clear hb); (try clear hb2); (try clear hk); (try clear hi)))
      go_ret
      exact ⟨by first | rfl | (simp [errW_none, errW_some] <;> rfl) | (simp [*, errW_none, errW_some] <;> rfl), by repeat (first | (with_reducible first | exact HB.out | apply below_alloc | apply pw_below_drewN | apply below_drew1) | exact HB.out)⟩
    · replace c42 := Bool.eq_false_iff.mpr c42
      subst c42
      have H1 : (some false) = some r := by rw [if_neg (show ¬ (false = true) by decide)] at H; exact H
      clear H
      have H := H1
      clear H1
      obtain rfl := Option.some.inj H
      go_enter Tryd.func12, Tryd.ntmps12
      go_wp2_with (first | ((with_reducible refine gate_callee (f := 36) rfl ?_); refine goesL_ (some 24) rfl rfl Tryd.func36 (by kernel_rfl) rfl #[.int .i32 a0] rfl (by (try simp only [List.map_toArray, List.map_cons, List.map_nil]); first | done | rfl | (simp only [List.length_drop, List.length_take]; rfl)) ?_; (with_reducible refine (cashbooklaw04_may.calls a0 t149 _ A4.out).mono ?_); rintro e w' ⟨rfl, ⟨nd, rfl⟩⟩; refine ⟨_, rfl, ?_⟩) | ((with_reducible refine gate_callee (f := 38) rfl ?_); refine goesL_ (some 36) rfl rfl Tryd.func38 (by kernel_rfl) rfl #[.int .i32 t149, .int .i64 (Int.tmod (wrap64 ((Int.tmod a1 400) + 400)) 400)] rfl (by (try simp only [List.map_toArray, List.map_cons, List.map_nil]); first | done | rfl | (simp only [List.length_drop, List.length_take]; rfl)) ?_; (with_reducible refine (date_AddMonths.calls k t149 (Int.tmod (wrap64 ((Int.tmod a1 400) + 400)) 400) t150 t151 _ (TabsAt.below HT.out (by repeat (first | (with_reducible first | exact HB.out | apply below_alloc | apply pw_below_drewN | apply below_drew1 | exact Below.refl _ _) | exact HB.out | exact (Drawn0.below HD.out) | exact Below.refl _ _))) A5.out).mono ?_); rintro e w45 ⟨rfl, hb⟩; refine ⟨_, rfl, ?_⟩; have n0_ := Aside0.mk (below_step (by repeat (first | (with_reducible first | exact HB.out | apply below_alloc | apply pw_below_drewN | apply below_drew1) | exact HB.out)) hb); clear HB; have HB := n0_; clear n0_; (try clear hb); (try clear hb2); (try clear hk); (try clear hi)) | ((with_reducible refine gate_callee (f := 35) rfl ?_); refine goesL_ (some 41) rfl rfl Tryd.func35 (by kernel_rfl) rfl #[] rfl (by (try simp only [List.map_toArray, List.map_cons, List.map_nil]); first | done | rfl | (simp only [List.length_drop, List.length_take]; rfl)) ?_; (with_reducible refine (cashbooklaw04_alive.calls k  false _ (TabsAt.below HT.out (by repeat (first | (with_reducible first | exact HB.out | apply below_alloc | apply pw_below_drewN | apply below_drew1 | exact Below.refl _ _) | exact HB.out | exact (Drawn0.below HD.out) | exact Below.refl _ _))) A41.out).mono ?_); rintro e w46 ⟨rfl, hb⟩; refine ⟨_, rfl, ?_⟩; have n0_ := Aside0.mk (below_step (by repeat (first | (with_reducible first | exact HB.out | apply below_alloc | apply pw_below_drewN | apply below_drew1) | exact HB.out)) hb); clear HB; have HB := n0_; clear n0_; (try clear hb); (try clear hb2); (try clear hk); (try clear hi)))
      go_ret
      exact ⟨by first | rfl | (simp [errW_none, errW_some] <;> rfl) | (simp [*, errW_none, errW_some] <;> rfl), by repeat (first | (with_reducible first | exact HB.out | apply below_alloc | apply pw_below_drewN | apply below_drew1) | exact HB.out)⟩

/-! ### cashbookref04_Right: function 20 -/
def cashbookref04_Right.f (a0 : Int) : Option (Bool) := if a0 ≥ (-50000) then (some (decide (a0 ≤ 50000))) else (some false)
set_option maxHeartbeats 8000000 in
set_option maxRecDepth 100000 in
theorem cashbookref04_Right.calls (a0 : Int) (r : Bool) (w : World) (h : cashbookref04_Right.f a0 = some r) :
    Calls Tryd.prog 20 #[.int .i32 a0] w fun e w' => e = .returned (.bool r) ∧ Drawn0 w w' := by
  have H : (if a0 ≥ (-50000) then (some (decide (a0 ≤ 50000))) else (some false)) = some r := h
  clear h
  by_cases c2 : a0 ≥ (-50000)
  · rw [if_pos c2] at H
    have c2b0 : decide ((-50000) ≤ a0) = true := decide_eq_true c2
    clear c2
    obtain rfl := Option.some.inj H
    go_enter Tryd.func20, Tryd.ntmps20
    go_wp2
    go_ret
    exact ⟨by first | rfl | (simp; done) | (simp [*]; done), by repeat (first | exact Drawn0.refl _ | apply Drawn0.step)⟩
  · rw [if_neg c2] at H
    have c2b0 : decide ((-50000) ≤ a0) = false := decide_eq_false c2
    clear c2
    obtain rfl := Option.some.inj H
    go_enter Tryd.func20, Tryd.ntmps20
    go_wp2
    go_ret
    exact ⟨by first | rfl | (simp; done) | (simp [*]; done), by repeat (first | exact Drawn0.refl _ | apply Drawn0.step)⟩

/-! ### cashbookref04_Days: function 48 -/
def cashbookref04_Days.f (a0 : Int) (a1 : Int) : Option (Int) := if a1 = 2 then ((cashbookref04_Long.f a0).bind fun t168 => (if t168 = true then (some 29) else (some 28))) else (if a1 = 4 then (some 30) else (if a1 = 6 then (some 30) else (if a1 = 9 then (some 30) else (if a1 = 11 then (some 30) else (some 31)))))
set_option maxHeartbeats 8000000 in
set_option maxRecDepth 100000 in
theorem cashbookref04_Days.calls (a0 : Int) (a1 : Int) (r : Int) (w : World) (h : cashbookref04_Days.f a0 a1 = some r) :
    Calls Tryd.prog 48 #[.int .i64 a0, .int .i64 a1] w fun e w' => e = .returned (.int .i64 r) ∧ Drawn0 w w' := by
  have H : (if a1 = 2 then ((cashbookref04_Long.f a0).bind fun t168 => (if t168 = true then (some 29) else (some 28))) else (if a1 = 4 then (some 30) else (if a1 = 6 then (some 30) else (if a1 = 9 then (some 30) else (if a1 = 11 then (some 30) else (some 31)))))) = some r := h
  clear h
  by_cases c3 : a1 = 2
  · rw [if_pos c3] at H
    have c3b0 : (a1 == 2) = true := beq_iff_eq.mpr c3
    have c3b1 : (a1 != 2) = false := bne_eq_false_iff_eq.mpr c3
    clear c3
    replace H := Option.bind_eq_some_iff.mp H
    obtain ⟨t168, A40, H⟩ := H
    replace H : (if t168 = true then (some 29) else (some 28)) = some r := H
    have A4 := Aside0.mk A40
    clear A40
    by_cases c5 : t168 = true
    · subst c5
      have H1 : (some 29) = some r := by rw [if_pos rfl] at H; exact H
      clear H
      have H := H1
      clear H1
      obtain rfl := Option.some.inj H
      go_enter Tryd.func48, Tryd.ntmps48
      go_wp2_with (first | ((with_reducible refine gate_callee (f := 34) rfl ?_); refine goesL_ (some 8) rfl rfl Tryd.func34 (by kernel_rfl) rfl #[.int .i64 a0] rfl (by (try simp only [List.map_toArray, List.map_cons, List.map_nil]); first | done | rfl | (simp only [List.length_drop, List.length_take]; rfl)) ?_; (with_reducible refine (cashbookref04_Long.calls a0 true _ A4.out).mono ?_); rintro e w' ⟨rfl, ⟨nd, rfl⟩⟩; refine ⟨_, rfl, ?_⟩))
      go_ret
      exact ⟨by first | rfl | (simp; done) | (simp [*]; done), by repeat (first | exact Drawn0.refl _ | apply Drawn0.step)⟩
    · replace c5 := Bool.eq_false_iff.mpr c5
      subst c5
      have H1 : (some 28) = some r := by rw [if_neg (show ¬ (false = true) by decide)] at H; exact H
      clear H
      have H := H1
      clear H1
      obtain rfl := Option.some.inj H
      go_enter Tryd.func48, Tryd.ntmps48
      go_wp2_with (first | ((with_reducible refine gate_callee (f := 34) rfl ?_); refine goesL_ (some 8) rfl rfl Tryd.func34 (by kernel_rfl) rfl #[.int .i64 a0] rfl (by (try simp only [List.map_toArray, List.map_cons, List.map_nil]); first | done | rfl | (simp only [List.length_drop, List.length_take]; rfl)) ?_; (with_reducible refine (cashbookref04_Long.calls a0 false _ A4.out).mono ?_); rintro e w' ⟨rfl, ⟨nd, rfl⟩⟩; refine ⟨_, rfl, ?_⟩))
      go_ret
      exact ⟨by first | rfl | (simp; done) | (simp [*]; done), by repeat (first | exact Drawn0.refl _ | apply Drawn0.step)⟩
  · rw [if_neg c3] at H
    have c3b0 : (a1 == 2) = false := beq_eq_false_iff_ne.mpr c3
    have c3b1 : (a1 != 2) = true := bne_iff_ne.mpr c3
    by_cases c6 : a1 = 4
    · rw [if_pos c6] at H
      have c6b0 : (a1 == 4) = true := beq_iff_eq.mpr c6
      have c6b1 : (a1 != 4) = false := bne_eq_false_iff_eq.mpr c6
      clear c6
      obtain rfl := Option.some.inj H
      go_enter Tryd.func48, Tryd.ntmps48
      go_wp2
      go_ret
      exact ⟨by first | rfl | (simp; done) | (simp [*]; done), by repeat (first | exact Drawn0.refl _ | apply Drawn0.step)⟩
    · rw [if_neg c6] at H
      have c6b0 : (a1 == 4) = false := beq_eq_false_iff_ne.mpr c6
      have c6b1 : (a1 != 4) = true := bne_iff_ne.mpr c6
      by_cases c7 : a1 = 6
      · rw [if_pos c7] at H
        have c7b0 : (a1 == 6) = true := beq_iff_eq.mpr c7
        have c7b1 : (a1 != 6) = false := bne_eq_false_iff_eq.mpr c7
        clear c7
        obtain rfl := Option.some.inj H
        go_enter Tryd.func48, Tryd.ntmps48
        go_wp2
        go_ret
        exact ⟨by first | rfl | (simp; done) | (simp [*]; done), by repeat (first | exact Drawn0.refl _ | apply Drawn0.step)⟩
      · rw [if_neg c7] at H
        have c7b0 : (a1 == 6) = false := beq_eq_false_iff_ne.mpr c7
        have c7b1 : (a1 != 6) = true := bne_iff_ne.mpr c7
        by_cases c8 : a1 = 9
        · rw [if_pos c8] at H
          have c8b0 : (a1 == 9) = true := beq_iff_eq.mpr c8
          have c8b1 : (a1 != 9) = false := bne_eq_false_iff_eq.mpr c8
          clear c8
          obtain rfl := Option.some.inj H
          go_enter Tryd.func48, Tryd.ntmps48
          go_wp2
          go_ret
          exact ⟨by first | rfl | (simp; done) | (simp [*]; done), by repeat (first | exact Drawn0.refl _ | apply Drawn0.step)⟩
        · rw [if_neg c8] at H
          have c8b0 : (a1 == 9) = false := beq_eq_false_iff_ne.mpr c8
          have c8b1 : (a1 != 9) = true := bne_iff_ne.mpr c8
          by_cases c9 : a1 = 11
          · rw [if_pos c9] at H
            have c9b0 : (a1 == 11) = true := beq_iff_eq.mpr c9
            have c9b1 : (a1 != 11) = false := bne_eq_false_iff_eq.mpr c9
            clear c9
            obtain rfl := Option.some.inj H
            go_enter Tryd.func48, Tryd.ntmps48
            go_wp2
            go_ret
            exact ⟨by first | rfl | (simp; done) | (simp [*]; done), by repeat (first | exact Drawn0.refl _ | apply Drawn0.step)⟩
          · rw [if_neg c9] at H
            have c9b0 : (a1 == 11) = false := beq_eq_false_iff_ne.mpr c9
            have c9b1 : (a1 != 11) = true := bne_iff_ne.mpr c9
            obtain rfl := Option.some.inj H
            go_enter Tryd.func48, Tryd.ntmps48
            go_wp2
            go_ret
            exact ⟨by first | rfl | (simp; done) | (simp [*]; done), by repeat (first | exact Drawn0.refl _ | apply Drawn0.step)⟩

/-! ### cashbookref04_year: function 62 -/
def cashbookref04_year.f (a0 : Int) : Option (Int) := (cashbookref04_Long.f a0).bind fun t169 => (if t169 = true then (some 366) else (some 365))
set_option maxHeartbeats 8000000 in
set_option maxRecDepth 100000 in
theorem cashbookref04_year.calls (a0 : Int) (r : Int) (w : World) (h : cashbookref04_year.f a0 = some r) :
    Calls Tryd.prog 62 #[.int .i64 a0] w fun e w' => e = .returned (.int .i64 r) ∧ Drawn0 w w' := by
  have H : ((cashbookref04_Long.f a0).bind fun t169 => (if t169 = true then (some 366) else (some 365))) = some r := h
  clear h
  replace H := Option.bind_eq_some_iff.mp H
  obtain ⟨t169, A20, H⟩ := H
  replace H : (if t169 = true then (some 366) else (some 365)) = some r := H
  have A2 := Aside0.mk A20
  clear A20
  by_cases c3 : t169 = true
  · subst c3
    have H1 : (some 366) = some r := by rw [if_pos rfl] at H; exact H
    clear H
    have H := H1
    clear H1
    obtain rfl := Option.some.inj H
    go_enter Tryd.func62, Tryd.ntmps62
    go_wp2_with (first | ((with_reducible refine gate_callee (f := 34) rfl ?_); refine goesL_ (some 4) rfl rfl Tryd.func34 (by kernel_rfl) rfl #[.int .i64 a0] rfl (by (try simp only [List.map_toArray, List.map_cons, List.map_nil]); first | done | rfl | (simp only [List.length_drop, List.length_take]; rfl)) ?_; (with_reducible refine (cashbookref04_Long.calls a0 true _ A2.out).mono ?_); rintro e w' ⟨rfl, ⟨nd, rfl⟩⟩; refine ⟨_, rfl, ?_⟩))
    go_ret
    exact ⟨by first | rfl | (simp; done) | (simp [*]; done), by repeat (first | exact Drawn0.refl _ | apply Drawn0.step)⟩
  · replace c3 := Bool.eq_false_iff.mpr c3
    subst c3
    have H1 : (some 365) = some r := by rw [if_neg (show ¬ (false = true) by decide)] at H; exact H
    clear H
    have H := H1
    clear H1
    obtain rfl := Option.some.inj H
    go_enter Tryd.func62, Tryd.ntmps62
    go_wp2_with (first | ((with_reducible refine gate_callee (f := 34) rfl ?_); refine goesL_ (some 4) rfl rfl Tryd.func34 (by kernel_rfl) rfl #[.int .i64 a0] rfl (by (try simp only [List.map_toArray, List.map_cons, List.map_nil]); first | done | rfl | (simp only [List.length_drop, List.length_take]; rfl)) ?_; (with_reducible refine (cashbookref04_Long.calls a0 false _ A2.out).mono ?_); rintro e w' ⟨rfl, ⟨nd, rfl⟩⟩; refine ⟨_, rfl, ?_⟩))
    go_ret
    exact ⟨by first | rfl | (simp; done) | (simp [*]; done), by repeat (first | exact Drawn0.refl _ | apply Drawn0.step)⟩

-- NOT PRINTED: function 44 (cashbookref04_Parts)

end Go.Proofs.YtamfbfhkojnafaaDoor.PD4
