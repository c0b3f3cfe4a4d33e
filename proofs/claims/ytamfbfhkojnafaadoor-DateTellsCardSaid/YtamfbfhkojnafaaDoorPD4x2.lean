-- PRINTED by print.py (a twelfth state) out of the translation. Not trusted: Lean checks it.
import Derived.Test.YtamfbfhkojnafaaDoorPD4x0
import Derived.Test.YtamfbfhkojnafaaDoorPD4x1
import Derived.Test.YtamfbfhkojnafaaDoorDateC
namespace Go.Proofs.YtamfbfhkojnafaaDoor.PD4
open Go.RowKit Go.Proofs.YtamfbfhkojnafaaDoorW.PrintWords Go.Proofs.YtamfbfhkojnafaaDoorW.PrintLast Go.Proofs.YtamfbfhkojnafaaDoorW.PrintMore
attribute [local go_sem] max2_int min2_int max_two min_two max_three min_three max_four min_four   -- for this text's walks alone
set_option linter.unusedVariables false
set_option linter.unusedSimpArgs false

/-! ### cashbooklaw04_DateLeaps: function 8 -/
mutual
def cashbooklaw04_DateLeaps.j0 : Nat → Int → Bool → Option (Bool)
  | 0, _, _ => none
  | k + 1, x1, x23 => if x23 = true then (some false) else ((cashbooklaw04_may.f x1).bind fun t120 => ((date_Split.f t120).bind fun bt121 => ((date_Join.f k bt121.1 2 29).bind fun bt125 => ((date_Join.f k bt121.1 1 1).bind fun bt127 => ((date_Join.f k bt121.1 12 31).bind fun bt129 => (if bt121.2.2.2 = 0 then ((date_Leap.f bt121.1).bind fun t131 => (if ((bt125.2 == 0) != t131) = true then (if bt125.2 = 0 then (cashbooklaw04_DateLeaps.j1 k bt121.1 bt125.2 bt127.1 bt127.2 bt129.1 bt129.2 true) else (cashbooklaw04_DateLeaps.j1 k bt121.1 bt125.2 bt127.1 bt127.2 bt129.1 bt129.2 (bt125.1 != 0))) else (if bt125.2 = 0 then (cashbooklaw04_DateLeaps.j1 k bt121.1 bt125.2 bt127.1 bt127.2 bt129.1 bt129.2 false) else (cashbooklaw04_DateLeaps.j1 k bt121.1 bt125.2 bt127.1 bt127.2 bt129.1 bt129.2 (bt125.1 != 0))))) else (cashbooklaw04_DateLeaps.j1 k bt121.1 bt125.2 bt127.1 bt127.2 bt129.1 bt129.2 true)))))))
def cashbooklaw04_DateLeaps.j1 : Nat → Int → Int → Int → Int → Int → Int → Bool → Option (Bool)
  | 0, _, _, _, _, _, _, _ => none
  | k + 1, x5, x10, x11, x12, x13, x14, x67 => if x67 = true then (some false) else (if x12 = 0 then (cashbooklaw04_DateLeaps.j2 k x5 x10 x11 x12 x13 (x14 != 0)) else (cashbooklaw04_DateLeaps.j2 k x5 x10 x11 x12 x13 true))
def cashbooklaw04_DateLeaps.j2 : Nat → Int → Int → Int → Int → Int → Bool → Option (Bool)
  | 0, _, _, _, _, _, _ => none
  | k + 1, x5, x10, x11, x12, x13, x73 => if x73 = true then (if x12 = 0 then (some true) else (some (x12 == 11))) else ((date_Leap.f x5).bind fun t132 => (if ((x10 == 0) == t132) = true then ((date_Leap.f x5).bind fun t132 => (if (((wrap32 (x13 - x11)) == 365) == t132) = true then ((date_Leap.f x5).bind fun t132 => (some (((wrap32 (x13 - x11)) == 364) != t132))) else (some false))) else (some false)))
end
def cashbooklaw04_DateLeaps.f (k : Nat) (a0 : Int) (a1 : Int) : Option (Bool) := (date_Leap.f a0).bind fun t117 => ((cashbookref04_Long.f a0).bind fun t118 => (if (t117 != t118) = true then (cashbooklaw04_DateLeaps.j0 k a1 true) else ((cashbooklaw04_alive.f k).bind fun t119 => (cashbooklaw04_DateLeaps.j0 k a1 (!t119)))))
theorem cashbooklaw04_DateLeaps.mono_l : ∀ k, (∀ y0 y1, LeO (cashbooklaw04_DateLeaps.j0 k y0 y1) (cashbooklaw04_DateLeaps.j0 (k + 1) y0 y1)) ∧ (∀ y0 y1 y2 y3 y4 y5 y6, LeO (cashbooklaw04_DateLeaps.j1 k y0 y1 y2 y3 y4 y5 y6) (cashbooklaw04_DateLeaps.j1 (k + 1) y0 y1 y2 y3 y4 y5 y6)) ∧ (∀ y0 y1 y2 y3 y4 y5, LeO (cashbooklaw04_DateLeaps.j2 k y0 y1 y2 y3 y4 y5) (cashbooklaw04_DateLeaps.j2 (k + 1) y0 y1 y2 y3 y4 y5))
  | 0 => ⟨fun _ _ r h => by simp [cashbooklaw04_DateLeaps.j0] at h, fun _ _ _ _ _ _ _ r h => by simp [cashbooklaw04_DateLeaps.j1] at h, fun _ _ _ _ _ _ r h => by simp [cashbooklaw04_DateLeaps.j2] at h⟩
  | k + 1 => by
    obtain ⟨ih0, ih1, ih2⟩ := cashbooklaw04_DateLeaps.mono_l k
    refine ⟨?_, ?_, ?_⟩
    · intro y0 y1
      unfold cashbooklaw04_DateLeaps.j0
      repeat' first
      | (with_reducible exact ih0 _ _)
      | (with_reducible exact ih1 _ _ _ _ _ _ _)
      | (with_reducible exact ih2 _ _ _ _ _ _)
      | (with_reducible exact cashbooklaw04_alive.mono _)
      | (with_reducible exact date_Join.mono _ _ _ _)
      | (with_reducible exact LeO.refl _)
      | (with_reducible exact LeO.none _)
      | (with_reducible refine LeO.ite ?_ ?_)
      | (with_reducible refine LeO.bind ?_ (fun _ => ?_))
      | exact ih0 _ _
      | exact ih1 _ _ _ _ _ _ _
      | exact ih2 _ _ _ _ _ _
      | exact cashbooklaw04_alive.mono _
      | exact date_Join.mono _ _ _ _
      | exact LeO.none _
      | refine LeO.ite ?_ ?_
      | refine LeO.bind ?_ (fun _ => ?_)
    · intro y0 y1 y2 y3 y4 y5 y6
      unfold cashbooklaw04_DateLeaps.j1
      repeat' first
      | (with_reducible exact ih0 _ _)
      | (with_reducible exact ih1 _ _ _ _ _ _ _)
      | (with_reducible exact ih2 _ _ _ _ _ _)
      | (with_reducible exact cashbooklaw04_alive.mono _)
      | (with_reducible exact date_Join.mono _ _ _ _)
      | (with_reducible exact LeO.refl _)
      | (with_reducible exact LeO.none _)
      | (with_reducible refine LeO.ite ?_ ?_)
      | (with_reducible refine LeO.bind ?_ (fun _ => ?_))
      | exact ih0 _ _
      | exact ih1 _ _ _ _ _ _ _
      | exact ih2 _ _ _ _ _ _
      | exact cashbooklaw04_alive.mono _
      | exact date_Join.mono _ _ _ _
      | exact LeO.none _
      | refine LeO.ite ?_ ?_
      | refine LeO.bind ?_ (fun _ => ?_)
    · intro y0 y1 y2 y3 y4 y5
      unfold cashbooklaw04_DateLeaps.j2
      repeat' first
      | (with_reducible exact ih0 _ _)
      | (with_reducible exact ih1 _ _ _ _ _ _ _)
      | (with_reducible exact ih2 _ _ _ _ _ _)
      | (with_reducible exact cashbooklaw04_alive.mono _)
      | (with_reducible exact date_Join.mono _ _ _ _)
      | (with_reducible exact LeO.refl _)
      | (with_reducible exact LeO.none _)
      | (with_reducible refine LeO.ite ?_ ?_)
      | (with_reducible refine LeO.bind ?_ (fun _ => ?_))
      | exact ih0 _ _
      | exact ih1 _ _ _ _ _ _ _
      | exact ih2 _ _ _ _ _ _
      | exact cashbooklaw04_alive.mono _
      | exact date_Join.mono _ _ _ _
      | exact LeO.none _
      | refine LeO.ite ?_ ?_
      | refine LeO.bind ?_ (fun _ => ?_)
theorem cashbooklaw04_DateLeaps.mono : ∀ a0 a1 k, LeO (cashbooklaw04_DateLeaps.f k a0 a1) (cashbooklaw04_DateLeaps.f (k + 1) a0 a1) := by
  intro a0 a1 k
  obtain ⟨ih0, ih1, ih2⟩ := cashbooklaw04_DateLeaps.mono_l k
  unfold cashbooklaw04_DateLeaps.f
  repeat' first
      | (with_reducible exact ih0 _ _)
      | (with_reducible exact ih1 _ _ _ _ _ _ _)
      | (with_reducible exact ih2 _ _ _ _ _ _)
      | (with_reducible exact cashbooklaw04_alive.mono _)
      | (with_reducible exact date_Join.mono _ _ _ _)
      | (with_reducible exact LeO.refl _)
      | (with_reducible exact LeO.none _)
      | (with_reducible refine LeO.ite ?_ ?_)
      | (with_reducible refine LeO.bind ?_ (fun _ => ?_))
      | exact ih0 _ _
      | exact ih1 _ _ _ _ _ _ _
      | exact ih2 _ _ _ _ _ _
      | exact cashbooklaw04_alive.mono _
      | exact date_Join.mono _ _ _ _
      | exact LeO.none _
      | refine LeO.ite ?_ ?_
      | refine LeO.bind ?_ (fun _ => ?_)
set_option maxHeartbeats 8000000 in
set_option maxRecDepth 100000 in
theorem cashbooklaw04_DateLeaps.calls (k : Nat) (a0 : Int) (a1 : Int) (r : Bool) (w : World) (hT : TabsAt w) (h : cashbooklaw04_DateLeaps.f k a0 a1 = some r) :
    Calls Tryd.prog 8 #[.int .i64 a0, .int .i32 a1] w fun e w' => e = .returned (.bool r) ∧ Below w.heap.size w w' := by
  have HT := Aside0.mk hT
  clear hT
  have HB := Aside0.mk (Below.refl w.heap.size w)
  have H : ((date_Leap.f a0).bind fun t117 => ((cashbookref04_Long.f a0).bind fun t118 => (if (t117 != t118) = true then (cashbooklaw04_DateLeaps.j0 k a1 true) else ((cashbooklaw04_alive.f k).bind fun t119 => (cashbooklaw04_DateLeaps.j0 k a1 (!t119)))))) = some r := h
  clear h
  have HC3 := Aside0.mk H
  clear H
  go_enter Tryd.func8, Tryd.ntmps8
  go_upto_region 1 with (fail)
  go_cut [23] (fun v23 wc => ∃ (kq : Nat) (x23_2 : Bool), v23 = .bool x23_2 ∧ Aside0 (cashbooklaw04_DateLeaps.j0 kq a1 x23_2 = some r) ∧ Aside0 (kq ≤ k) ∧ Aside0 (Below w.heap.size w wc))
  case first =>
    have H := HC3.out
    clear HC3
    replace H := Option.bind_eq_some_iff.mp H
    obtain ⟨t117, A40, H⟩ := H
    replace H : ((cashbookref04_Long.f a0).bind fun t118 => (if (t117 != t118) = true then (cashbooklaw04_DateLeaps.j0 k a1 true) else ((cashbooklaw04_alive.f k).bind fun t119 => (cashbooklaw04_DateLeaps.j0 k a1 (!t119))))) = some r := H
    have A4 := Aside0.mk A40
    clear A40
    replace H := Option.bind_eq_some_iff.mp H
    obtain ⟨t118, A50, H⟩ := H
    replace H : (if (t117 != t118) = true then (cashbooklaw04_DateLeaps.j0 k a1 true) else ((cashbooklaw04_alive.f k).bind fun t119 => (cashbooklaw04_DateLeaps.j0 k a1 (!t119)))) = some r := H
    have A5 := Aside0.mk A50
    clear A50
    by_cases c6 : (t117 != t118) = true
    · rw [if_pos c6] at H
      have c6b0 : (t117 != t118) = true := c6
      (try (have c6b1 : decide (t117 = t118) = false := by simpa using c6))
      (try (have c6b2 : (t117 == t118) = false := by simpa using c6))
      (try (have c6b3 : ¬ (t117 = t118) := by simpa using c6))
      clear c6
      (first | rw [c6b0] | (simp only [i64_w, i32_w]; rw [c6b0]) | skip)
      have H' := Aside0.mk H
      clear H
      go_wp2_with (first | ((with_reducible refine gate_callee (f := 33) rfl ?_); refine goesL_ (some 16) rfl rfl Tryd.func33 (by kernel_rfl) rfl #[.int .i64 a0] rfl (by (try simp only [List.map_toArray, List.map_cons, List.map_nil]); first | done | rfl | (simp only [List.length_drop, List.length_take]; rfl)) ?_; (with_reducible refine (date_Leap.calls a0 t117 _ A4.out).mono ?_); rintro e w' ⟨rfl, ⟨nd, rfl⟩⟩; refine ⟨_, rfl, ?_⟩) | ((with_reducible refine gate_callee (f := 34) rfl ?_); refine goesL_ (some 18) rfl rfl Tryd.func34 (by kernel_rfl) rfl #[.int .i64 a0] rfl (by (try simp only [List.map_toArray, List.map_cons, List.map_nil]); first | done | rfl | (simp only [List.length_drop, List.length_take]; rfl)) ?_; (with_reducible refine (cashbookref04_Long.calls a0 t118 _ A5.out).mono ?_); rintro e w' ⟨rfl, ⟨nd, rfl⟩⟩; refine ⟨_, rfl, ?_⟩))
      go_meet
      case rel => exact ⟨_, (true), (by first | rfl | (simp; done) | (simp [*]; done)), H', ⟨by first | omega | exact Nat.le_refl _⟩, ⟨by repeat (first | (with_reducible first | exact HB.out | apply below_alloc | apply pw_below_drewN | apply below_drew1) | exact HB.out)⟩⟩
    · rw [if_neg c6] at H
      have c6b0 : (t117 != t118) = false := by simpa using c6
      (try (have c6b1 : decide (t117 = t118) = true := by simpa using c6))
      (try (have c6b2 : (t117 == t118) = true := by simpa using c6))
      clear c6
      (first | rw [c6b0] | (simp only [i64_w, i32_w]; rw [c6b0]) | skip)
      replace H := Option.bind_eq_some_iff.mp H
      obtain ⟨t119, A70, H⟩ := H
      replace H : (cashbooklaw04_DateLeaps.j0 k a1 (!t119)) = some r := H
      have A7 := Aside0.mk A70
      clear A70
      have H' := Aside0.mk H
      clear H
      go_wp2_with (first | ((with_reducible refine gate_callee (f := 33) rfl ?_); refine goesL_ (some 16) rfl rfl Tryd.func33 (by kernel_rfl) rfl #[.int .i64 a0] rfl (by (try simp only [List.map_toArray, List.map_cons, List.map_nil]); first | done | rfl | (simp only [List.length_drop, List.length_take]; rfl)) ?_; (with_reducible refine (date_Leap.calls a0 t117 _ A4.out).mono ?_); rintro e w' ⟨rfl, ⟨nd, rfl⟩⟩; refine ⟨_, rfl, ?_⟩) | ((with_reducible refine gate_callee (f := 34) rfl ?_); refine goesL_ (some 18) rfl rfl Tryd.func34 (by kernel_rfl) rfl #[.int .i64 a0] rfl (by (try simp only [List.map_toArray, List.map_cons, List.map_nil]); first | done | rfl | (simp only [List.length_drop, List.length_take]; rfl)) ?_; (with_reducible refine (cashbookref04_Long.calls a0 t118 _ A5.out).mono ?_); rintro e w' ⟨rfl, ⟨nd, rfl⟩⟩; refine ⟨_, rfl, ?_⟩) | (go_at_call 35; (with_reducible refine (cashbooklaw04_alive.calls k  t119 _ (TabsAt.below HT.out (by repeat (first | (with_reducible first | exact HB.out | apply below_alloc | apply pw_below_drewN | apply below_drew1 | exact Below.refl _ _) | exact HB.out | exact (Drawn0.below HD.out) | exact Below.refl _ _))) A7.out).mono ?_); rintro e w8 ⟨rfl, hb⟩; have n0_ := Aside0.mk (below_step (by repeat (first | (with_reducible first | exact HB.out | apply below_alloc | apply pw_below_drewN | apply below_drew1) | exact HB.out)) hb); clear HB; have HB := n0_; clear n0_; (try clear hb); (try clear hb2); (try clear hk); (try clear hi)))
      go_meet
      case rel => exact ⟨_, (!t119), (by first | rfl | (simp; done) | (simp [*]; done)), H', ⟨by first | omega | exact Nat.le_refl _⟩, ⟨by repeat (first | (with_reducible first | exact HB.out | apply below_alloc | apply pw_below_drewN | apply below_drew1) | exact HB.out)⟩⟩
  case rest =>
    clear HC3
    try clear p2
    try clear c3
    try clear c6
    try clear c6b0
    try clear c6b1
    try clear c6b2
    try clear c8
    obtain ⟨kq, x23_2, rfl, HA, HJ2, HB⟩ := hcut
    cases kq with
    | zero => exact absurd HA.out (by simp [cashbooklaw04_DateLeaps.j0])
    | succ kj2 =>
      have H := HA.out
      clear HA
      simp only [cashbooklaw04_DateLeaps.j0] at H
      by_cases c9 : x23_2 = true
      · subst c9
        have H1 : (some false) = some r := by rw [if_pos rfl] at H; exact H
        clear H
        have H := H1
        clear H1
        obtain rfl := Option.some.inj H
        go_wp2
        go_ret
        exact ⟨by first | rfl | (simp [errW_none, errW_some] <;> rfl) | (simp [*, errW_none, errW_some] <;> rfl), by repeat (first | (with_reducible first | exact HB.out | apply below_alloc | apply pw_below_drewN | apply below_drew1) | exact HB.out)⟩
      · replace c9 := Bool.eq_false_iff.mpr c9
        subst c9
        have H1 : ((cashbooklaw04_may.f a1).bind fun t120 => ((date_Split.f t120).bind fun bt121 => ((date_Join.f kj2 bt121.1 2 29).bind fun bt125 => ((date_Join.f kj2 bt121.1 1 1).bind fun bt127 => ((date_Join.f kj2 bt121.1 12 31).bind fun bt129 => (if bt121.2.2.2 = 0 then ((date_Leap.f bt121.1).bind fun t131 => (if ((bt125.2 == 0) != t131) = true then (if bt125.2 = 0 then (cashbooklaw04_DateLeaps.j1 kj2 bt121.1 bt125.2 bt127.1 bt127.2 bt129.1 bt129.2 true) else (cashbooklaw04_DateLeaps.j1 kj2 bt121.1 bt125.2 bt127.1 bt127.2 bt129.1 bt129.2 (bt125.1 != 0))) else (if bt125.2 = 0 then (cashbooklaw04_DateLeaps.j1 kj2 bt121.1 bt125.2 bt127.1 bt127.2 bt129.1 bt129.2 false) else (cashbooklaw04_DateLeaps.j1 kj2 bt121.1 bt125.2 bt127.1 bt127.2 bt129.1 bt129.2 (bt125.1 != 0))))) else (cashbooklaw04_DateLeaps.j1 kj2 bt121.1 bt125.2 bt127.1 bt127.2 bt129.1 bt129.2 true))))))) = some r := by rw [if_neg (show ¬ (false = true) by decide)] at H; exact H
        clear H
        have H := H1
        clear H1
        replace H := Option.bind_eq_some_iff.mp H
        obtain ⟨t120, A100, H⟩ := H
        replace H : ((date_Split.f t120).bind fun bt121 => ((date_Join.f kj2 bt121.1 2 29).bind fun bt125 => ((date_Join.f kj2 bt121.1 1 1).bind fun bt127 => ((date_Join.f kj2 bt121.1 12 31).bind fun bt129 => (if bt121.2.2.2 = 0 then ((date_Leap.f bt121.1).bind fun t131 => (if ((bt125.2 == 0) != t131) = true then (if bt125.2 = 0 then (cashbooklaw04_DateLeaps.j1 kj2 bt121.1 bt125.2 bt127.1 bt127.2 bt129.1 bt129.2 true) else (cashbooklaw04_DateLeaps.j1 kj2 bt121.1 bt125.2 bt127.1 bt127.2 bt129.1 bt129.2 (bt125.1 != 0))) else (if bt125.2 = 0 then (cashbooklaw04_DateLeaps.j1 kj2 bt121.1 bt125.2 bt127.1 bt127.2 bt129.1 bt129.2 false) else (cashbooklaw04_DateLeaps.j1 kj2 bt121.1 bt125.2 bt127.1 bt127.2 bt129.1 bt129.2 (bt125.1 != 0))))) else (cashbooklaw04_DateLeaps.j1 kj2 bt121.1 bt125.2 bt127.1 bt127.2 bt129.1 bt129.2 true)))))) = some r := H
        have A10 := Aside0.mk A100
        clear A100
        replace H := Option.bind_eq_some_iff.mp H
        obtain ⟨⟨t121, t122, t123, t124⟩, A110, H⟩ := H
        replace H : ((date_Join.f kj2 t121 2 29).bind fun bt125 => ((date_Join.f kj2 t121 1 1).bind fun bt127 => ((date_Join.f kj2 t121 12 31).bind fun bt129 => (if t124 = 0 then ((date_Leap.f t121).bind fun t131 => (if ((bt125.2 == 0) != t131) = true then (if bt125.2 = 0 then (cashbooklaw04_DateLeaps.j1 kj2 t121 bt125.2 bt127.1 bt127.2 bt129.1 bt129.2 true) else (cashbooklaw04_DateLeaps.j1 kj2 t121 bt125.2 bt127.1 bt127.2 bt129.1 bt129.2 (bt125.1 != 0))) else (if bt125.2 = 0 then (cashbooklaw04_DateLeaps.j1 kj2 t121 bt125.2 bt127.1 bt127.2 bt129.1 bt129.2 false) else (cashbooklaw04_DateLeaps.j1 kj2 t121 bt125.2 bt127.1 bt127.2 bt129.1 bt129.2 (bt125.1 != 0))))) else (cashbooklaw04_DateLeaps.j1 kj2 t121 bt125.2 bt127.1 bt127.2 bt129.1 bt129.2 true))))) = some r := H
        have A11 := Aside0.mk A110
        clear A110
        replace H := Option.bind_eq_some_iff.mp H
        obtain ⟨⟨t125, t126⟩, A120, H⟩ := H
        replace H : ((date_Join.f kj2 t121 1 1).bind fun bt127 => ((date_Join.f kj2 t121 12 31).bind fun bt129 => (if t124 = 0 then ((date_Leap.f t121).bind fun t131 => (if ((t126 == 0) != t131) = true then (if t126 = 0 then (cashbooklaw04_DateLeaps.j1 kj2 t121 t126 bt127.1 bt127.2 bt129.1 bt129.2 true) else (cashbooklaw04_DateLeaps.j1 kj2 t121 t126 bt127.1 bt127.2 bt129.1 bt129.2 (t125 != 0))) else (if t126 = 0 then (cashbooklaw04_DateLeaps.j1 kj2 t121 t126 bt127.1 bt127.2 bt129.1 bt129.2 false) else (cashbooklaw04_DateLeaps.j1 kj2 t121 t126 bt127.1 bt127.2 bt129.1 bt129.2 (t125 != 0))))) else (cashbooklaw04_DateLeaps.j1 kj2 t121 t126 bt127.1 bt127.2 bt129.1 bt129.2 true)))) = some r := H
        have A12 := Aside0.mk A120
        clear A120
        replace H := Option.bind_eq_some_iff.mp H
        obtain ⟨⟨t127, t128⟩, A130, H⟩ := H
        replace H : ((date_Join.f kj2 t121 12 31).bind fun bt129 => (if t124 = 0 then ((date_Leap.f t121).bind fun t131 => (if ((t126 == 0) != t131) = true then (if t126 = 0 then (cashbooklaw04_DateLeaps.j1 kj2 t121 t126 t127 t128 bt129.1 bt129.2 true) else (cashbooklaw04_DateLeaps.j1 kj2 t121 t126 t127 t128 bt129.1 bt129.2 (t125 != 0))) else (if t126 = 0 then (cashbooklaw04_DateLeaps.j1 kj2 t121 t126 t127 t128 bt129.1 bt129.2 false) else (cashbooklaw04_DateLeaps.j1 kj2 t121 t126 t127 t128 bt129.1 bt129.2 (t125 != 0))))) else (cashbooklaw04_DateLeaps.j1 kj2 t121 t126 t127 t128 bt129.1 bt129.2 true))) = some r := H
        have A13 := Aside0.mk A130
        clear A130
        replace H := Option.bind_eq_some_iff.mp H
        obtain ⟨⟨t129, t130⟩, A140, H⟩ := H
        replace H : (if t124 = 0 then ((date_Leap.f t121).bind fun t131 => (if ((t126 == 0) != t131) = true then (if t126 = 0 then (cashbooklaw04_DateLeaps.j1 kj2 t121 t126 t127 t128 t129 t130 true) else (cashbooklaw04_DateLeaps.j1 kj2 t121 t126 t127 t128 t129 t130 (t125 != 0))) else (if t126 = 0 then (cashbooklaw04_DateLeaps.j1 kj2 t121 t126 t127 t128 t129 t130 false) else (cashbooklaw04_DateLeaps.j1 kj2 t121 t126 t127 t128 t129 t130 (t125 != 0))))) else (cashbooklaw04_DateLeaps.j1 kj2 t121 t126 t127 t128 t129 t130 true)) = some r := H
        have A14 := Aside0.mk A140
        clear A140
        have HC15 := Aside0.mk H
        clear H
        go_upto_region 7 with (first | ((with_reducible refine gate_callee (f := 36) rfl ?_); refine goesL_ (some 26) rfl rfl Tryd.func36 (by kernel_rfl) rfl #[.int .i32 a1] rfl (by (try simp only [List.map_toArray, List.map_cons, List.map_nil]); first | done | rfl | (simp only [List.length_drop, List.length_take]; rfl)) ?_; (with_reducible refine (cashbooklaw04_may.calls a1 t120 _ A10.out).mono ?_); rintro e w' ⟨rfl, ⟨nd, rfl⟩⟩; refine ⟨_, rfl, ?_⟩) | ((with_reducible refine gate_callee (f := 25) rfl ?_); refine goesL_ (some 27) rfl rfl Tryd.func25 (by kernel_rfl) rfl #[.int .i32 t120] rfl (by (try simp only [List.map_toArray, List.map_cons, List.map_nil]); first | done | rfl | (simp only [List.length_drop, List.length_take]; rfl)) ?_; (with_reducible refine (date_Split.calls t120 t121 t122 t123 t124 _ (TabsAt.below HT.out (by repeat (first | (with_reducible first | exact HB.out | apply below_alloc | apply pw_below_drewN | apply below_drew1 | exact Below.refl _ _) | exact HB.out | exact (Drawn0.below HD.out) | exact Below.refl _ _))) A11.out).mono ?_); rintro e w' ⟨rfl, ⟨nd, rfl⟩⟩; refine ⟨_, rfl, ?_⟩) | ((with_reducible refine gate_callee (f := 37) rfl ?_); refine goesL_ (some 34) rfl rfl Tryd.func37 (by kernel_rfl) rfl #[.int .i64 t121, .int .i64 2, .int .i64 29] rfl (by (try simp only [List.map_toArray, List.map_cons, List.map_nil]); first | done | rfl | (simp only [List.length_drop, List.length_take]; rfl)) ?_; (with_reducible refine (date_Join.calls kj2 t121 2 29 t125 t126 _ (TabsAt.below HT.out (by repeat (first | (with_reducible first | exact HB.out | apply below_alloc | apply pw_below_drewN | apply below_drew1 | exact Below.refl _ _) | exact HB.out | exact (Drawn0.below HD.out) | exact Below.refl _ _))) A12.out).mono ?_); rintro e w' ⟨rfl, ⟨nd, rfl⟩⟩; refine ⟨_, rfl, ?_⟩) | ((with_reducible refine gate_callee (f := 37) rfl ?_); refine goesL_ (some 39) rfl rfl Tryd.func37 (by kernel_rfl) rfl #[.int .i64 t121, .int .i64 1, .int .i64 1] rfl (by (try simp only [List.map_toArray, List.map_cons, List.map_nil]); first | done | rfl | (simp only [List.length_drop, List.length_take]; rfl)) ?_; (with_reducible refine (date_Join.calls kj2 t121 1 1 t127 t128 _ (TabsAt.below HT.out (by repeat (first | (with_reducible first | exact HB.out | apply below_alloc | apply pw_below_drewN | apply below_drew1 | exact Below.refl _ _) | exact HB.out | exact (Drawn0.below HD.out) | exact Below.refl _ _))) A13.out).mono ?_); rintro e w' ⟨rfl, ⟨nd, rfl⟩⟩; refine ⟨_, rfl, ?_⟩) | ((with_reducible refine gate_callee (f := 37) rfl ?_); refine goesL_ (some 44) rfl rfl Tryd.func37 (by kernel_rfl) rfl #[.int .i64 t121, .int .i64 12, .int .i64 31] rfl (by (try simp only [List.map_toArray, List.map_cons, List.map_nil]); first | done | rfl | (simp only [List.length_drop, List.length_take]; rfl)) ?_; (with_reducible refine (date_Join.calls kj2 t121 12 31 t129 t130 _ (TabsAt.below HT.out (by repeat (first | (with_reducible first | exact HB.out | apply below_alloc | apply pw_below_drewN | apply below_drew1 | exact Below.refl _ _) | exact HB.out | exact (Drawn0.below HD.out) | exact Below.refl _ _))) A14.out).mono ?_); rintro e w' ⟨rfl, ⟨nd, rfl⟩⟩; refine ⟨_, rfl, ?_⟩))
        (try simp only [Act.put, List.setIfInBounds_toArray, List.set_cons_zero, List.set_cons_succ])
        go_cut [67] (fun v67 wc => ∃ (kq : Nat) (x67_14 : Bool), v67 = .bool x67_14 ∧ Aside0 (cashbooklaw04_DateLeaps.j1 kq t121 t126 t127 t128 t129 t130 x67_14 = some r) ∧ Aside0 (kq ≤ kj2) ∧ Aside0 (Below w.heap.size w wc))
        case first =>
          have H := HC15.out
          clear HC15
          by_cases c16 : t124 = 0
          · rw [if_pos c16] at H
            have c16b0 : (t124 == 0) = true := beq_iff_eq.mpr c16
            have c16b1 : (t124 != 0) = false := bne_eq_false_iff_eq.mpr c16
            clear c16
            (first | rw [c16b0] | (simp only [i64_w, i32_w]; rw [c16b0]) | skip)
            replace H := Option.bind_eq_some_iff.mp H
            obtain ⟨t131, A170, H⟩ := H
            replace H : (if ((t126 == 0) != t131) = true then (if t126 = 0 then (cashbooklaw04_DateLeaps.j1 kj2 t121 t126 t127 t128 t129 t130 true) else (cashbooklaw04_DateLeaps.j1 kj2 t121 t126 t127 t128 t129 t130 (t125 != 0))) else (if t126 = 0 then (cashbooklaw04_DateLeaps.j1 kj2 t121 t126 t127 t128 t129 t130 false) else (cashbooklaw04_DateLeaps.j1 kj2 t121 t126 t127 t128 t129 t130 (t125 != 0)))) = some r := H
            have A17 := Aside0.mk A170
            clear A170
            by_cases c18 : ((t126 == 0) != t131) = true
            · rw [if_pos c18] at H
              have c18b0 : ((t126 == 0) != t131) = true := c18
              (try (have c18b1 : decide ((t126 == 0) = t131) = false := by simpa using c18))
              (try (have c18b2 : ((t126 == 0) == t131) = false := by simpa using c18))
              (try (have c18b3 : ¬ ((t126 == 0) = t131) := by simpa using c18))
              clear c18
              by_cases c19 : t126 = 0
              · rw [if_pos c19] at H
                have c19b0 : (t126 == 0) = true := beq_iff_eq.mpr c19
                have c19b1 : (t126 != 0) = false := bne_eq_false_iff_eq.mpr c19
                (try (have c19d : t131 = false := by simpa [c19b0] using c18b0))
                (try (have c19e : t131 = true := by simpa [c19b0] using c18b0))
                clear c19
                have H' := Aside0.mk H
                clear H
                go_wp2_with (first | (go_at_call 33; (with_reducible refine (date_Leap.calls t121 t131 _ A17.out).mono ?_); rintro e w' ⟨rfl, ⟨nd, rfl⟩⟩))
                go_meet
                case rel => exact ⟨_, (true), (by first | rfl | (simp; done) | (simp [*]; done)), H', ⟨by have := HJ2.out; first | omega | exact Nat.le_refl _⟩, ⟨by repeat (first | (with_reducible first | exact HB.out | apply below_alloc | apply pw_below_drewN | apply below_drew1) | exact HB.out)⟩⟩
              · rw [if_neg c19] at H
                have c19b0 : (t126 == 0) = false := beq_eq_false_iff_ne.mpr c19
                have c19b1 : (t126 != 0) = true := bne_iff_ne.mpr c19
                (try (have c19d : t131 = false := by simpa [c19b0] using c18b0))
                (try (have c19e : t131 = true := by simpa [c19b0] using c18b0))
                have H' := Aside0.mk H
                clear H
                go_wp2_with (first | (go_at_call 33; (with_reducible refine (date_Leap.calls t121 t131 _ A17.out).mono ?_); rintro e w' ⟨rfl, ⟨nd, rfl⟩⟩))
                go_meet
                case rel => exact ⟨_, ((t125 != 0)), (by first | rfl | (simp; done) | (simp [*]; done)), H', ⟨by have := HJ2.out; first | omega | exact Nat.le_refl _⟩, ⟨by repeat (first | (with_reducible first | exact HB.out | apply below_alloc | apply pw_below_drewN | apply below_drew1) | exact HB.out)⟩⟩
            · rw [if_neg c18] at H
              have c18b0 : ((t126 == 0) != t131) = false := by simpa using c18
              (try (have c18b1 : decide ((t126 == 0) = t131) = true := by simpa using c18))
              (try (have c18b2 : ((t126 == 0) == t131) = true := by simpa using c18))
              clear c18
              by_cases c20 : t126 = 0
              · rw [if_pos c20] at H
                have c20b0 : (t126 == 0) = true := beq_iff_eq.mpr c20
                have c20b1 : (t126 != 0) = false := bne_eq_false_iff_eq.mpr c20
                (try (have c20d : t131 = false := by simpa [c20b0] using c18b0))
                (try (have c20e : t131 = true := by simpa [c20b0] using c18b0))
                clear c20
                have H' := Aside0.mk H
                clear H
                go_wp2_with (first | (go_at_call 33; (with_reducible refine (date_Leap.calls t121 t131 _ A17.out).mono ?_); rintro e w' ⟨rfl, ⟨nd, rfl⟩⟩))
                go_meet
                case rel => exact ⟨_, (false), (by first | rfl | (simp; done) | (simp [*]; done)), H', ⟨by have := HJ2.out; first | omega | exact Nat.le_refl _⟩, ⟨by repeat (first | (with_reducible first | exact HB.out | apply below_alloc | apply pw_below_drewN | apply below_drew1) | exact HB.out)⟩⟩
              · rw [if_neg c20] at H
                have c20b0 : (t126 == 0) = false := beq_eq_false_iff_ne.mpr c20
                have c20b1 : (t126 != 0) = true := bne_iff_ne.mpr c20
                (try (have c20d : t131 = false := by simpa [c20b0] using c18b0))
                (try (have c20e : t131 = true := by simpa [c20b0] using c18b0))
                have H' := Aside0.mk H
                clear H
                go_wp2_with (first | (go_at_call 33; (with_reducible refine (date_Leap.calls t121 t131 _ A17.out).mono ?_); rintro e w' ⟨rfl, ⟨nd, rfl⟩⟩))
                go_meet
                case rel => exact ⟨_, ((t125 != 0)), (by first | rfl | (simp; done) | (simp [*]; done)), H', ⟨by have := HJ2.out; first | omega | exact Nat.le_refl _⟩, ⟨by repeat (first | (with_reducible first | exact HB.out | apply below_alloc | apply pw_below_drewN | apply below_drew1) | exact HB.out)⟩⟩
          · rw [if_neg c16] at H
            have c16b0 : (t124 == 0) = false := beq_eq_false_iff_ne.mpr c16
            have c16b1 : (t124 != 0) = true := bne_iff_ne.mpr c16
            (first | rw [c16b0] | (simp only [i64_w, i32_w]; rw [c16b0]) | skip)
            have H' := Aside0.mk H
            clear H
            go_wp2
            go_meet
            case rel => exact ⟨_, (true), (by first | rfl | (simp; done) | (simp [*]; done)), H', ⟨by have := HJ2.out; first | omega | exact Nat.le_refl _⟩, ⟨by repeat (first | (with_reducible first | exact HB.out | apply below_alloc | apply pw_below_drewN | apply below_drew1) | exact HB.out)⟩⟩
        case rest =>
          clear HC15
          try clear c1
          try clear c2
          try clear p2
          try clear c3
          try clear c6
          try clear c6b0
          try clear c6b1
          try clear c6b2
          try clear c8
          try clear c9
          try clear c16
          try clear c16b0
          try clear c16b1
          try clear c18
          try clear c18b0
          try clear c18b1
          try clear c18b2
          try clear c19
          try clear c19b0
          try clear c19b1
          try clear c20
          try clear c20b0
          try clear c20b1
          try clear p2
          obtain ⟨kq, x67_14, rfl, HA, HJ14, HB⟩ := hcut
          cases kq with
          | zero => exact absurd HA.out (by simp [cashbooklaw04_DateLeaps.j1])
          | succ kj14 =>
            have H := HA.out
            clear HA
            simp only [cashbooklaw04_DateLeaps.j1] at H
            by_cases c21 : x67_14 = true
            · subst c21
              have H1 : (some false) = some r := by rw [if_pos rfl] at H; exact H
              clear H
              have H := H1
              clear H1
              obtain rfl := Option.some.inj H
              go_wp2
              go_ret
              exact ⟨by first | rfl | (simp [errW_none, errW_some] <;> rfl) | (simp [*, errW_none, errW_some] <;> rfl), by repeat (first | (with_reducible first | exact HB.out | apply below_alloc | apply pw_below_drewN | apply below_drew1) | exact HB.out)⟩
            · replace c21 := Bool.eq_false_iff.mpr c21
              subst c21
              have H1 : (if t128 = 0 then (cashbooklaw04_DateLeaps.j2 kj14 t121 t126 t127 t128 t129 (t130 != 0)) else (cashbooklaw04_DateLeaps.j2 kj14 t121 t126 t127 t128 t129 true)) = some r := by rw [if_neg (show ¬ (false = true) by decide)] at H; exact H
              clear H
              have H := H1
              clear H1
              have HC22 := Aside0.mk H
              clear H
              go_upto_region 9 with (fail)
              go_cut [73] (fun v73 wc => ∃ (kq : Nat) (x73_21 : Bool), v73 = .bool x73_21 ∧ Aside0 (cashbooklaw04_DateLeaps.j2 kq t121 t126 t127 t128 t129 x73_21 = some r) ∧ Aside0 (kq ≤ kj14) ∧ Aside0 (Below w.heap.size w wc))
              case first =>
                have H := HC22.out
                clear HC22
                by_cases c23 : t128 = 0
                · rw [if_pos c23] at H
                  have c23b0 : (t128 == 0) = true := beq_iff_eq.mpr c23
                  have c23b1 : (t128 != 0) = false := bne_eq_false_iff_eq.mpr c23
                  clear c23
                  (first | rw [c23b0] | (simp only [i64_w, i32_w]; rw [c23b0]) | skip)
                  have H' := Aside0.mk H
                  clear H
                  go_wp2
                  go_meet
                  case rel => exact ⟨_, ((t130 != 0)), (by first | rfl | (simp; done) | (simp [*]; done)), H', ⟨by have := HJ2.out; have := HJ14.out; first | omega | exact Nat.le_refl _⟩, ⟨by repeat (first | (with_reducible first | exact HB.out | apply below_alloc | apply pw_below_drewN | apply below_drew1) | exact HB.out)⟩⟩
                · rw [if_neg c23] at H
                  have c23b0 : (t128 == 0) = false := beq_eq_false_iff_ne.mpr c23
                  have c23b1 : (t128 != 0) = true := bne_iff_ne.mpr c23
                  (first | rw [c23b0] | (simp only [i64_w, i32_w]; rw [c23b0]) | skip)
                  have H' := Aside0.mk H
                  clear H
                  go_wp2
                  go_meet
                  case rel => exact ⟨_, (true), (by first | rfl | (simp; done) | (simp [*]; done)), H', ⟨by have := HJ2.out; have := HJ14.out; first | omega | exact Nat.le_refl _⟩, ⟨by repeat (first | (with_reducible first | exact HB.out | apply below_alloc | apply pw_below_drewN | apply below_drew1) | exact HB.out)⟩⟩
              case rest =>
                clear HC22
                try clear c1
                try clear c2
                try clear p2
                try clear c3
                try clear c6
                try clear c6b0
                try clear c6b1
                try clear c6b2
                try clear c8
                try clear c9
                try clear c16
                try clear c16b0
                try clear c16b1
                try clear c18
                try clear c18b0
                try clear c18b1
                try clear c18b2
                try clear c19
                try clear c19b0
                try clear c19b1
                try clear c20
                try clear c20b0
                try clear c20b1
                try clear c21
                try clear c23
                try clear c23b0
                try clear c23b1
                try clear p2
                obtain ⟨kq, x73_21, rfl, HA, HJ21, HB⟩ := hcut
                cases kq with
                | zero => exact absurd HA.out (by simp [cashbooklaw04_DateLeaps.j2])
                | succ kj21 =>
                  have H := HA.out
                  clear HA
                  simp only [cashbooklaw04_DateLeaps.j2] at H
                  by_cases c24 : x73_21 = true
                  · subst c24
                    have H1 : (if t128 = 0 then (some true) else (some (t128 == 11))) = some r := by rw [if_pos rfl] at H; exact H
                    clear H
                    have H := H1
                    clear H1
                    by_cases c25 : t128 = 0
                    · rw [if_pos c25] at H
                      have c25b0 : (t128 == 0) = true := beq_iff_eq.mpr c25
                      have c25b1 : (t128 != 0) = false := bne_eq_false_iff_eq.mpr c25
                      clear c25
                      obtain rfl := Option.some.inj H
                      go_wp2
                      go_ret
                      exact ⟨by first | rfl | (simp [errW_none, errW_some] <;> rfl) | (simp [*, errW_none, errW_some] <;> rfl), by repeat (first | (with_reducible first | exact HB.out | apply below_alloc | apply pw_below_drewN | apply below_drew1) | exact HB.out)⟩
                    · rw [if_neg c25] at H
                      have c25b0 : (t128 == 0) = false := beq_eq_false_iff_ne.mpr c25
                      have c25b1 : (t128 != 0) = true := bne_iff_ne.mpr c25
                      obtain rfl := Option.some.inj H
                      go_wp2
                      go_ret
                      exact ⟨by first | rfl | (simp [errW_none, errW_some] <;> rfl) | (simp [*, errW_none, errW_some] <;> rfl), by repeat (first | (with_reducible first | exact HB.out | apply below_alloc | apply pw_below_drewN | apply below_drew1) | exact HB.out)⟩
                  · replace c24 := Bool.eq_false_iff.mpr c24
                    subst c24
                    have H1 : ((date_Leap.f t121).bind fun t132 => (if ((t126 == 0) == t132) = true then ((date_Leap.f t121).bind fun t132 => (if (((wrap32 (t129 - t127)) == 365) == t132) = true then ((date_Leap.f t121).bind fun t132 => (some (((wrap32 (t129 - t127)) == 364) != t132))) else (some false))) else (some false))) = some r := by rw [if_neg (show ¬ (false = true) by decide)] at H; exact H
                    clear H
                    have H := H1
                    clear H1
                    replace H := Option.bind_eq_some_iff.mp H
                    obtain ⟨t132, A260, H⟩ := H
                    replace H : (if ((t126 == 0) == t132) = true then ((date_Leap.f t121).bind fun t132 => (if (((wrap32 (t129 - t127)) == 365) == t132) = true then ((date_Leap.f t121).bind fun t132 => (some (((wrap32 (t129 - t127)) == 364) != t132))) else (some false))) else (some false)) = some r := H
                    have A26 := Aside0.mk A260
                    clear A260
                    by_cases c27 : ((t126 == 0) == t132) = true
                    · rw [if_pos c27] at H
                      have c27b0 : ((t126 == 0) == t132) = true := c27
                      (try (have c27b1 : decide ((t126 == 0) = t132) = true := by simpa using c27))
                      (try (have c27b2 : ((t126 == 0) == t132) = true := by simpa using c27))
                      clear c27
                      replace H := Option.bind_eq_some_iff.mp H
                      obtain ⟨tA133, A280, H⟩ := H
                      obtain rfl : t132 = tA133 := Option.some.inj (A26.out.symm.trans A280)
                      replace H : (if (((wrap32 (t129 - t127)) == 365) == t132) = true then ((date_Leap.f t121).bind fun t132 => (some (((wrap32 (t129 - t127)) == 364) != t132))) else (some false)) = some r := H
                      have A28 := Aside0.mk A280
                      clear A280
                      by_cases c29 : (((wrap32 (t129 - t127)) == 365) == t132) = true
                      · rw [if_pos c29] at H
                        have c29b0 : (((wrap32 (t129 - t127)) == 365) == t132) = true := c29
                        (try (have c29b1 : decide (((wrap32 (t129 - t127)) == 365) = t132) = true := by simpa using c29))
                        (try (have c29b2 : (((wrap32 (t129 - t127)) == 365) == t132) = true := by simpa using c29))
                        clear c29
                        replace H := Option.bind_eq_some_iff.mp H
                        obtain ⟨tA134, A300, H⟩ := H
                        obtain rfl : t132 = tA134 := Option.some.inj (A26.out.symm.trans A300)
                        replace H : (some (((wrap32 (t129 - t127)) == 364) != t132)) = some r := H
                        have A30 := Aside0.mk A300
                        clear A300
                        obtain rfl := Option.some.inj H
                        go_wp2_with (first | ((with_reducible refine gate_callee (f := 33) rfl ?_); refine goesL_ (some 83) rfl rfl Tryd.func33 (by kernel_rfl) rfl #[.int .i64 t121] rfl (by (try simp only [List.map_toArray, List.map_cons, List.map_nil]); first | done | rfl | (simp only [List.length_drop, List.length_take]; rfl)) ?_; (with_reducible refine (date_Leap.calls t121 t132 _ A26.out).mono ?_); rintro e w' ⟨rfl, ⟨nd, rfl⟩⟩; refine ⟨_, rfl, ?_⟩) | (go_at_call 33; (with_reducible refine (date_Leap.calls t121 t132 _ A28.out).mono ?_); rintro e w' ⟨rfl, ⟨nd, rfl⟩⟩) | (go_at_call 33; (with_reducible refine (date_Leap.calls t121 t132 _ A30.out).mono ?_); rintro e w' ⟨rfl, ⟨nd, rfl⟩⟩))
                        go_ret
                        exact ⟨by first | rfl | (simp [errW_none, errW_some] <;> rfl) | (simp [*, errW_none, errW_some] <;> rfl), by repeat (first | (with_reducible first | exact HB.out | apply below_alloc | apply pw_below_drewN | apply below_drew1) | exact HB.out)⟩
                      · rw [if_neg c29] at H
                        have c29b0 : (((wrap32 (t129 - t127)) == 365) == t132) = false := by simpa using c29
                        (try (have c29b1 : decide (((wrap32 (t129 - t127)) == 365) = t132) = false := by simpa using c29))
                        (try (have c29b2 : (((wrap32 (t129 - t127)) == 365) == t132) = false := by simpa using c29))
                        (try (have c29b3 : ¬ (((wrap32 (t129 - t127)) == 365) = t132) := by simpa using c29))
                        clear c29
                        obtain rfl := Option.some.inj H
                        go_wp2_with (first | ((with_reducible refine gate_callee (f := 33) rfl ?_); refine goesL_ (some 83) rfl rfl Tryd.func33 (by kernel_rfl) rfl #[.int .i64 t121] rfl (by (try simp only [List.map_toArray, List.map_cons, List.map_nil]); first | done | rfl | (simp only [List.length_drop, List.length_take]; rfl)) ?_; (with_reducible refine (date_Leap.calls t121 t132 _ A26.out).mono ?_); rintro e w' ⟨rfl, ⟨nd, rfl⟩⟩; refine ⟨_, rfl, ?_⟩) | (go_at_call 33; (with_reducible refine (date_Leap.calls t121 t132 _ A28.out).mono ?_); rintro e w' ⟨rfl, ⟨nd, rfl⟩⟩))
                        go_ret
                        exact ⟨by first | rfl | (simp [errW_none, errW_some] <;> rfl) | (simp [*, errW_none, errW_some] <;> rfl), by repeat (first | (with_reducible first | exact HB.out | apply below_alloc | apply pw_below_drewN | apply below_drew1) | exact HB.out)⟩
                    · rw [if_neg c27] at H
                      have c27b0 : ((t126 == 0) == t132) = false := by simpa using c27
                      (try (have c27b1 : decide ((t126 == 0) = t132) = false := by simpa using c27))
                      (try (have c27b2 : ((t126 == 0) == t132) = false := by simpa using c27))
                      (try (have c27b3 : ¬ ((t126 == 0) = t132) := by simpa using c27))
                      clear c27
                      obtain rfl := Option.some.inj H
                      go_wp2_with (first | ((with_reducible refine gate_callee (f := 33) rfl ?_); refine goesL_ (some 83) rfl rfl Tryd.func33 (by kernel_rfl) rfl #[.int .i64 t121] rfl (by (try simp only [List.map_toArray, List.map_cons, List.map_nil]); first | done | rfl | (simp only [List.length_drop, List.length_take]; rfl)) ?_; (with_reducible refine (date_Leap.calls t121 t132 _ A26.out).mono ?_); rintro e w' ⟨rfl, ⟨nd, rfl⟩⟩; refine ⟨_, rfl, ?_⟩))
                      go_ret
                      exact ⟨by first | rfl | (simp [errW_none, errW_some] <;> rfl) | (simp [*, errW_none, errW_some] <;> rfl), by repeat (first | (with_reducible first | exact HB.out | apply below_alloc | apply pw_below_drewN | apply below_drew1) | exact HB.out)⟩

/-! ### date_AddMonths: function 38 -/
def date_AddMonths.j0 : Nat → Int → Int → Int → Int → Bool → Option (Int × Int)
  | 0, _, _, _, _, _ => none
  | k + 1, x1, x6, x7, x8, x27 => if x27 = true then (some (0, 11)) else (if (wrap64 ((wrap64 ((wrap64 ((wrap64 (12 * x6)) + x7)) - 1)) + x1)) < 12 then (some (0, 11)) else ((date_length.f (wrap64 (Int.tdiv (wrap64 ((wrap64 ((wrap64 ((wrap64 (12 * x6)) + x7)) - 1)) + x1)) 12)) (wrap64 ((Int.tmod (wrap64 ((wrap64 ((wrap64 ((wrap64 (12 * x6)) + x7)) - 1)) + x1)) 12) + 1))).bind fun t139 => ((date_Join.f k (wrap64 (Int.tdiv (wrap64 ((wrap64 ((wrap64 ((wrap64 (12 * x6)) + x7)) - 1)) + x1)) 12)) (wrap64 ((Int.tmod (wrap64 ((wrap64 ((wrap64 ((wrap64 (12 * x6)) + x7)) - 1)) + x1)) 12) + 1)) (mn x8 t139)).bind fun bt140 => (some (bt140.1, bt140.2)))))
def date_AddMonths.f (k : Nat) (a0 : Int) (a1 : Int) : Option (Int × Int) := (date_Split.f a0).bind fun bt135 => (if bt135.2.2.2 = 0 then (if a1 < (-120000) then (date_AddMonths.j0 k a1 bt135.1 bt135.2.1 bt135.2.2.1 true) else (date_AddMonths.j0 k a1 bt135.1 bt135.2.1 bt135.2.2.1 (decide (a1 > 120000)))) else (date_AddMonths.j0 k a1 bt135.1 bt135.2.1 bt135.2.2.1 true))
theorem date_AddMonths.mono_l : ∀ k, (∀ y0 y1 y2 y3 y4, LeO (date_AddMonths.j0 k y0 y1 y2 y3 y4) (date_AddMonths.j0 (k + 1) y0 y1 y2 y3 y4))
  | 0 => fun _ _ _ _ _ r h => by simp [date_AddMonths.j0] at h
  | k + 1 => by
    have ih0 := date_AddMonths.mono_l k
    · intro y0 y1 y2 y3 y4
      unfold date_AddMonths.j0
      repeat' first
      | (with_reducible exact ih0 _ _ _ _ _)
      | (with_reducible exact date_Join.mono _ _ _ _)
      | (with_reducible exact LeO.refl _)
      | (with_reducible exact LeO.none _)
      | (with_reducible refine LeO.ite ?_ ?_)
      | (with_reducible refine LeO.bind ?_ (fun _ => ?_))
      | exact ih0 _ _ _ _ _
      | exact date_Join.mono _ _ _ _
      | exact LeO.none _
      | refine LeO.ite ?_ ?_
      | refine LeO.bind ?_ (fun _ => ?_)
theorem date_AddMonths.mono : ∀ a0 a1 k, LeO (date_AddMonths.f k a0 a1) (date_AddMonths.f (k + 1) a0 a1) := by
  intro a0 a1 k
  have ih0 := date_AddMonths.mono_l k
  unfold date_AddMonths.f
  repeat' first
      | (with_reducible exact ih0 _ _ _ _ _)
      | (with_reducible exact date_Join.mono _ _ _ _)
      | (with_reducible exact LeO.refl _)
      | (with_reducible exact LeO.none _)
      | (with_reducible refine LeO.ite ?_ ?_)
      | (with_reducible refine LeO.bind ?_ (fun _ => ?_))
      | exact ih0 _ _ _ _ _
      | exact date_Join.mono _ _ _ _
      | exact LeO.none _
      | refine LeO.ite ?_ ?_
      | refine LeO.bind ?_ (fun _ => ?_)
set_option maxHeartbeats 8000000 in
set_option maxRecDepth 100000 in
theorem date_AddMonths.calls (k : Nat) (a0 : Int) (a1 : Int) (r1 : Int) (r2 : Int) (w : World) (hT : TabsAt w) (h : date_AddMonths.f k a0 a1 = some (r1, r2)) :
    Calls Tryd.prog 38 #[.int .i32 a0, .int .i64 a1] w fun e w' => e = .returned (.tuple #[.int .i32 r1, .int .i64 r2]) ∧ Below w.heap.size w w' := by
  have HT := Aside0.mk hT
  clear hT
  have HB := Aside0.mk (Below.refl w.heap.size w)
  have H : ((date_Split.f a0).bind fun bt135 => (if bt135.2.2.2 = 0 then (if a1 < (-120000) then (date_AddMonths.j0 k a1 bt135.1 bt135.2.1 bt135.2.2.1 true) else (date_AddMonths.j0 k a1 bt135.1 bt135.2.1 bt135.2.2.1 (decide (a1 > 120000)))) else (date_AddMonths.j0 k a1 bt135.1 bt135.2.1 bt135.2.2.1 true))) = some (r1, r2) := h
  clear h
  replace H := Option.bind_eq_some_iff.mp H
  obtain ⟨⟨t135, t136, t137, t138⟩, A30, H⟩ := H
  replace H : (if t138 = 0 then (if a1 < (-120000) then (date_AddMonths.j0 k a1 t135 t136 t137 true) else (date_AddMonths.j0 k a1 t135 t136 t137 (decide (a1 > 120000)))) else (date_AddMonths.j0 k a1 t135 t136 t137 true)) = some (r1, r2) := H
  have A3 := Aside0.mk A30
  clear A30
  have HC4 := Aside0.mk H
  clear H
  go_enter Tryd.func38, Tryd.ntmps38
  go_upto_region 2 with (first | ((with_reducible refine gate_callee (f := 25) rfl ?_); refine goesL_ (some 13) rfl rfl Tryd.func25 (by kernel_rfl) rfl #[.int .i32 a0] rfl (by (try simp only [List.map_toArray, List.map_cons, List.map_nil]); first | done | rfl | (simp only [List.length_drop, List.length_take]; rfl)) ?_; (with_reducible refine (date_Split.calls a0 t135 t136 t137 t138 _ (TabsAt.below HT.out (by repeat (first | (with_reducible first | exact HB.out | apply below_alloc | apply pw_below_drewN | apply below_drew1 | exact Below.refl _ _) | exact HB.out | exact (Drawn0.below HD.out) | exact Below.refl _ _))) A3.out).mono ?_); rintro e w' ⟨rfl, ⟨nd, rfl⟩⟩; refine ⟨_, rfl, ?_⟩))
  (try simp only [Act.put, List.setIfInBounds_toArray, List.set_cons_zero, List.set_cons_succ])
  go_cut [27] (fun v27 wc => ∃ (kq : Nat) (x27_3 : Bool), v27 = .bool x27_3 ∧ Aside0 (date_AddMonths.j0 kq a1 t135 t136 t137 x27_3 = some (r1, r2)) ∧ Aside0 (kq ≤ k) ∧ Aside0 (Below w.heap.size w wc))
  case first =>
    have H := HC4.out
    clear HC4
    by_cases c5 : t138 = 0
    · rw [if_pos c5] at H
      have c5b0 : (t138 == 0) = true := beq_iff_eq.mpr c5
      have c5b1 : (t138 != 0) = false := bne_eq_false_iff_eq.mpr c5
      clear c5
      (first | rw [c5b0] | (simp only [i64_w, i32_w]; rw [c5b0]) | skip)
      by_cases c6 : a1 < (-120000)
      · rw [if_pos c6] at H
        have c6b0 : decide (a1 < (-120000)) = true := decide_eq_true c6
        clear c6
        have H' := Aside0.mk H
        clear H
        go_wp2
        go_meet
        case rel => exact ⟨_, (true), (by first | rfl | (simp; done) | (simp [*]; done)), H', ⟨by first | omega | exact Nat.le_refl _⟩, ⟨by repeat (first | (with_reducible first | exact HB.out | apply below_alloc | apply pw_below_drewN | apply below_drew1) | exact HB.out)⟩⟩
      · rw [if_neg c6] at H
        have c6b0 : decide (a1 < (-120000)) = false := decide_eq_false c6
        clear c6
        have H' := Aside0.mk H
        clear H
        go_wp2
        go_meet
        case rel => exact ⟨_, (decide (a1 > 120000)), (by first | rfl | (simp; done) | (simp [*]; done)), H', ⟨by first | omega | exact Nat.le_refl _⟩, ⟨by repeat (first | (with_reducible first | exact HB.out | apply below_alloc | apply pw_below_drewN | apply below_drew1) | exact HB.out)⟩⟩
    · rw [if_neg c5] at H
      have c5b0 : (t138 == 0) = false := beq_eq_false_iff_ne.mpr c5
      have c5b1 : (t138 != 0) = true := bne_iff_ne.mpr c5
      (first | rw [c5b0] | (simp only [i64_w, i32_w]; rw [c5b0]) | skip)
      have H' := Aside0.mk H
      clear H
      go_wp2
      go_meet
      case rel => exact ⟨_, (true), (by first | rfl | (simp; done) | (simp [*]; done)), H', ⟨by first | omega | exact Nat.le_refl _⟩, ⟨by repeat (first | (with_reducible first | exact HB.out | apply below_alloc | apply pw_below_drewN | apply below_drew1) | exact HB.out)⟩⟩
  case rest =>
    clear HC4
    try clear c2
    try clear p2
    try clear c3
    try clear c5
    try clear c5b0
    try clear c5b1
    try clear c6
    try clear c6b0
    obtain ⟨kq, x27_3, rfl, HA, HJ3, HB⟩ := hcut
    cases kq with
    | zero => exact absurd HA.out (by simp [date_AddMonths.j0])
    | succ kj3 =>
      have H := HA.out
      clear HA
      simp only [date_AddMonths.j0] at H
      by_cases c7 : x27_3 = true
      · subst c7
        have H1 : (some (0, 11)) = some (r1, r2) := by rw [if_pos rfl] at H; exact H
        clear H
        have H := H1
        clear H1
        simp only [Option.some.injEq, Prod.mk.injEq] at H
        obtain ⟨rfl, rfl⟩ := H
        go_wp2
        go_ret2
        exact ⟨by first | rfl | (simp [errW_none, errW_some] <;> rfl) | (simp [*, errW_none, errW_some] <;> rfl), by repeat (first | (with_reducible first | exact HB.out | apply below_alloc | apply pw_below_drewN | apply below_drew1) | exact HB.out)⟩
      · replace c7 := Bool.eq_false_iff.mpr c7
        subst c7
        have H1 : (if (wrap64 ((wrap64 ((wrap64 ((wrap64 (12 * t135)) + t136)) - 1)) + a1)) < 12 then (some (0, 11)) else ((date_length.f (wrap64 (Int.tdiv (wrap64 ((wrap64 ((wrap64 ((wrap64 (12 * t135)) + t136)) - 1)) + a1)) 12)) (wrap64 ((Int.tmod (wrap64 ((wrap64 ((wrap64 ((wrap64 (12 * t135)) + t136)) - 1)) + a1)) 12) + 1))).bind fun t139 => ((date_Join.f kj3 (wrap64 (Int.tdiv (wrap64 ((wrap64 ((wrap64 ((wrap64 (12 * t135)) + t136)) - 1)) + a1)) 12)) (wrap64 ((Int.tmod (wrap64 ((wrap64 ((wrap64 ((wrap64 (12 * t135)) + t136)) - 1)) + a1)) 12) + 1)) (mn t137 t139)).bind fun bt140 => (some (bt140.1, bt140.2))))) = some (r1, r2) := by rw [if_neg (show ¬ (false = true) by decide)] at H; exact H
        clear H
        have H := H1
        clear H1
        by_cases c8 : (wrap64 ((wrap64 ((wrap64 ((wrap64 (12 * t135)) + t136)) - 1)) + a1)) < 12
        · rw [if_pos c8] at H
          have c8b0 : decide ((wrap64 ((wrap64 ((wrap64 ((wrap64 (12 * t135)) + t136)) - 1)) + a1)) < 12) = true := decide_eq_true c8
          clear c8
          simp only [Option.some.injEq, Prod.mk.injEq] at H
          obtain ⟨rfl, rfl⟩ := H
          go_wp2
          go_ret2
          exact ⟨by first | rfl | (simp [errW_none, errW_some] <;> rfl) | (simp [*, errW_none, errW_some] <;> rfl), by repeat (first | (with_reducible first | exact HB.out | apply below_alloc | apply pw_below_drewN | apply below_drew1) | exact HB.out)⟩
        · rw [if_neg c8] at H
          have c8b0 : decide ((wrap64 ((wrap64 ((wrap64 ((wrap64 (12 * t135)) + t136)) - 1)) + a1)) < 12) = false := decide_eq_false c8
          clear c8
          replace H := Option.bind_eq_some_iff.mp H
          obtain ⟨t139, A90, H⟩ := H
          replace H : ((date_Join.f kj3 (wrap64 (Int.tdiv (wrap64 ((wrap64 ((wrap64 ((wrap64 (12 * t135)) + t136)) - 1)) + a1)) 12)) (wrap64 ((Int.tmod (wrap64 ((wrap64 ((wrap64 ((wrap64 (12 * t135)) + t136)) - 1)) + a1)) 12) + 1)) (mn t137 t139)).bind fun bt140 => (some (bt140.1, bt140.2))) = some (r1, r2) := H
          have A9 := Aside0.mk A90
          clear A90
          obtain ⟨ji10, hji10⟩ : ∃ j_ : Int, (mn t137 t139) = j_ := ⟨_, rfl⟩
          replace H : ((date_Join.f kj3 (wrap64 (Int.tdiv (wrap64 ((wrap64 ((wrap64 ((wrap64 (12 * t135)) + t136)) - 1)) + a1)) 12)) (wrap64 ((Int.tmod (wrap64 ((wrap64 ((wrap64 ((wrap64 (12 * t135)) + t136)) - 1)) + a1)) 12) + 1)) (ji10)).bind fun bt140 => (some (bt140.1, bt140.2))) = some (r1, r2) := by first | (rw [hji10] at H; exact H) | (simp only [hji10] at H ⊢; exact H)
          (try rw [hji10] at A9)
          have hji10_ : (if t139 < t137 then t139 else t137) = ji10 := hji10
          replace H := Option.bind_eq_some_iff.mp H
          obtain ⟨⟨t140, t141⟩, A110, H⟩ := H
          replace H : (some (t140, t141)) = some (r1, r2) := H
          have A11 := Aside0.mk A110
          clear A110
          simp only [Option.some.injEq, Prod.mk.injEq] at H
          obtain ⟨rfl, rfl⟩ := H
          go_wp2_with (first | ((with_reducible refine gate_callee (f := 58) rfl ?_); refine goesL_ (some 47) rfl rfl Tryd.func58 (by kernel_rfl) rfl #[.int .i64 (wrap64 (Int.tdiv (wrap64 ((wrap64 ((wrap64 ((wrap64 (12 * t135)) + t136)) - 1)) + a1)) 12)), .int .i64 (wrap64 ((Int.tmod (wrap64 ((wrap64 ((wrap64 ((wrap64 (12 * t135)) + t136)) - 1)) + a1)) 12) + 1))] rfl (by (try simp only [List.map_toArray, List.map_cons, List.map_nil]); first | done | rfl | (simp only [List.length_drop, List.length_take]; rfl)) ?_; (with_reducible refine (date_length.calls (wrap64 (Int.tdiv (wrap64 ((wrap64 ((wrap64 ((wrap64 (12 * t135)) + t136)) - 1)) + a1)) 12)) (wrap64 ((Int.tmod (wrap64 ((wrap64 ((wrap64 ((wrap64 (12 * t135)) + t136)) - 1)) + a1)) 12) + 1)) t139 _ A9.out).mono ?_); rintro e w' ⟨rfl, ⟨nd, rfl⟩⟩; refine ⟨_, rfl, ?_⟩) | ((with_reducible refine gate_callee (f := 37) rfl ?_); refine goesL_ (some 49) rfl rfl Tryd.func37 (by kernel_rfl) rfl #[.int .i64 (wrap64 (Int.tdiv (wrap64 ((wrap64 ((wrap64 ((wrap64 (12 * t135)) + t136)) - 1)) + a1)) 12)), .int .i64 (wrap64 ((Int.tmod (wrap64 ((wrap64 ((wrap64 ((wrap64 (12 * t135)) + t136)) - 1)) + a1)) 12) + 1)), .int .i64 ji10] rfl (by (try simp only [List.map_toArray, List.map_cons, List.map_nil]); first | done | (simp only [hji10]; rfl) | rfl | (simp only [List.length_drop, List.length_take]; rfl)) ?_; (with_reducible refine (date_Join.calls kj3 (wrap64 (Int.tdiv (wrap64 ((wrap64 ((wrap64 ((wrap64 (12 * t135)) + t136)) - 1)) + a1)) 12)) (wrap64 ((Int.tmod (wrap64 ((wrap64 ((wrap64 ((wrap64 (12 * t135)) + t136)) - 1)) + a1)) 12) + 1)) ji10 t140 t141 _ (TabsAt.below HT.out (by repeat (first | (with_reducible first | exact HB.out | apply below_alloc | apply pw_below_drewN | apply below_drew1 | exact Below.refl _ _) | exact HB.out | exact (Drawn0.below HD.out) | exact Below.refl _ _))) A11.out).mono ?_); rintro e w' ⟨rfl, ⟨nd, rfl⟩⟩; refine ⟨_, rfl, ?_⟩))
          go_ret2
          exact ⟨by first | rfl | (simp [errW_none, errW_some] <;> rfl) | (simp only [← hji10]; first | rfl | (simp [errW_none, errW_some] <;> rfl)) | (simp [*, errW_none, errW_some] <;> rfl), by repeat (first | (with_reducible first | exact HB.out | apply below_alloc | apply pw_below_drewN | apply below_drew1) | exact HB.out)⟩

/-! ### date_MonthEnd: function 41 -/
def date_MonthEnd.f (k : Nat) (a0 : Int) : Option (Int × Int) := (date_Split.f a0).bind fun bt142 => (if bt142.2.2.2 = 0 then ((date_length.f bt142.1 bt142.2.1).bind fun t146 => ((date_Join.f k bt142.1 bt142.2.1 t146).bind fun bt147 => (some (bt147.1, bt147.2)))) else (some (0, bt142.2.2.2)))
theorem date_MonthEnd.mono : ∀ a0 k, LeO (date_MonthEnd.f k a0) (date_MonthEnd.f (k + 1) a0) := by
  intro a0 k
  unfold date_MonthEnd.f
  repeat' first
      | (with_reducible exact date_Join.mono _ _ _ _)
      | (with_reducible exact LeO.refl _)
      | (with_reducible exact LeO.none _)
      | (with_reducible refine LeO.ite ?_ ?_)
      | (with_reducible refine LeO.bind ?_ (fun _ => ?_))
      | exact date_Join.mono _ _ _ _
      | exact LeO.none _
      | refine LeO.ite ?_ ?_
      | refine LeO.bind ?_ (fun _ => ?_)
set_option maxHeartbeats 8000000 in
set_option maxRecDepth 100000 in
theorem date_MonthEnd.calls (k : Nat) (a0 : Int) (r1 : Int) (r2 : Int) (w : World) (hT : TabsAt w) (h : date_MonthEnd.f k a0 = some (r1, r2)) :
    Calls Tryd.prog 41 #[.int .i32 a0] w fun e w' => e = .returned (.tuple #[.int .i32 r1, .int .i64 r2]) ∧ Drawn0 w w' := by
  have HT := Aside0.mk hT
  clear hT
  have H : ((date_Split.f a0).bind fun bt142 => (if bt142.2.2.2 = 0 then ((date_length.f bt142.1 bt142.2.1).bind fun t146 => ((date_Join.f k bt142.1 bt142.2.1 t146).bind fun bt147 => (some (bt147.1, bt147.2)))) else (some (0, bt142.2.2.2)))) = some (r1, r2) := h
  clear h
  replace H := Option.bind_eq_some_iff.mp H
  obtain ⟨⟨t142, t143, t144, t145⟩, A20, H⟩ := H
  replace H : (if t145 = 0 then ((date_length.f t142 t143).bind fun t146 => ((date_Join.f k t142 t143 t146).bind fun bt147 => (some (bt147.1, bt147.2)))) else (some (0, t145))) = some (r1, r2) := H
  have A2 := Aside0.mk A20
  clear A20
  by_cases c3 : t145 = 0
  · rw [if_pos c3] at H
    have c3b0 : (t145 == 0) = true := beq_iff_eq.mpr c3
    have c3b1 : (t145 != 0) = false := bne_eq_false_iff_eq.mpr c3
    clear c3
    replace H := Option.bind_eq_some_iff.mp H
    obtain ⟨t146, A40, H⟩ := H
    replace H : ((date_Join.f k t142 t143 t146).bind fun bt147 => (some (bt147.1, bt147.2))) = some (r1, r2) := H
    have A4 := Aside0.mk A40
    clear A40
    replace H := Option.bind_eq_some_iff.mp H
    obtain ⟨⟨t147, t148⟩, A50, H⟩ := H
    replace H : (some (t147, t148)) = some (r1, r2) := H
    have A5 := Aside0.mk A50
    clear A50
    simp only [Option.some.injEq, Prod.mk.injEq] at H
    obtain ⟨rfl, rfl⟩ := H
    go_enter Tryd.func41, Tryd.ntmps41
    go_wp2_with (first | ((with_reducible refine gate_callee (f := 25) rfl ?_); refine goesL_ (some 10) rfl rfl Tryd.func25 (by kernel_rfl) rfl #[.int .i32 a0] rfl (by (try simp only [List.map_toArray, List.map_cons, List.map_nil]); first | done | rfl | (simp only [List.length_drop, List.length_take]; rfl)) ?_; (with_reducible refine (date_Split.calls a0 t142 t143 t144 t145 _ (TabsAt.below HT.out (by repeat (first | (with_reducible first | exact HB.out | apply below_alloc | apply pw_below_drewN | apply below_drew1 | exact Below.refl _ _) | exact HB.out | exact (Drawn0.below HD.out) | exact Below.refl _ _))) A2.out).mono ?_); rintro e w' ⟨rfl, ⟨nd, rfl⟩⟩; refine ⟨_, rfl, ?_⟩) | ((with_reducible refine gate_callee (f := 58) rfl ?_); refine goesL_ (some 22) rfl rfl Tryd.func58 (by kernel_rfl) rfl #[.int .i64 t142, .int .i64 t143] rfl (by (try simp only [List.map_toArray, List.map_cons, List.map_nil]); first | done | rfl | (simp only [List.length_drop, List.length_take]; rfl)) ?_; (with_reducible refine (date_length.calls t142 t143 t146 _ A4.out).mono ?_); rintro e w' ⟨rfl, ⟨nd, rfl⟩⟩; refine ⟨_, rfl, ?_⟩) | ((with_reducible refine gate_callee (f := 37) rfl ?_); refine goesL_ (some 23) rfl rfl Tryd.func37 (by kernel_rfl) rfl #[.int .i64 t142, .int .i64 t143, .int .i64 t146] rfl (by (try simp only [List.map_toArray, List.map_cons, List.map_nil]); first | done | rfl | (simp only [List.length_drop, List.length_take]; rfl)) ?_; (with_reducible refine (date_Join.calls k t142 t143 t146 t147 t148 _ (TabsAt.below HT.out (by repeat (first | (with_reducible first | exact HB.out | apply below_alloc | apply pw_below_drewN | apply below_drew1 | exact Below.refl _ _) | exact HB.out | exact (Drawn0.below HD.out) | exact Below.refl _ _))) A5.out).mono ?_); rintro e w' ⟨rfl, ⟨nd, rfl⟩⟩; refine ⟨_, rfl, ?_⟩))
    go_ret2
    exact ⟨by first | rfl | (simp; done) | (simp [*]; done), by repeat (first | exact Drawn0.refl _ | apply Drawn0.step)⟩
  · rw [if_neg c3] at H
    have c3b0 : (t145 == 0) = false := beq_eq_false_iff_ne.mpr c3
    have c3b1 : (t145 != 0) = true := bne_iff_ne.mpr c3
    simp only [Option.some.injEq, Prod.mk.injEq] at H
    obtain ⟨rfl, rfl⟩ := H
    go_enter Tryd.func41, Tryd.ntmps41
    go_wp2_with (first | ((with_reducible refine gate_callee (f := 25) rfl ?_); refine goesL_ (some 10) rfl rfl Tryd.func25 (by kernel_rfl) rfl #[.int .i32 a0] rfl (by (try simp only [List.map_toArray, List.map_cons, List.map_nil]); first | done | rfl | (simp only [List.length_drop, List.length_take]; rfl)) ?_; (with_reducible refine (date_Split.calls a0 t142 t143 t144 t145 _ (TabsAt.below HT.out (by repeat (first | (with_reducible first | exact HB.out | apply below_alloc | apply pw_below_drewN | apply below_drew1 | exact Below.refl _ _) | exact HB.out | exact (Drawn0.below HD.out) | exact Below.refl _ _))) A2.out).mono ?_); rintro e w' ⟨rfl, ⟨nd, rfl⟩⟩; refine ⟨_, rfl, ?_⟩))
    go_ret2
    exact ⟨by first | rfl | (simp; done) | (simp [*]; done), by repeat (first | exact Drawn0.refl _ | apply Drawn0.step)⟩

end Go.Proofs.YtamfbfhkojnafaaDoor.PD4
