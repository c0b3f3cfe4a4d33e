-- PRINTED by print.py (a twelfth state) out of the translation. Not trusted: Lean checks it.
import Derived.Test.YtamfbfhkojnafaaDoorPC6x0
import Derived.Test.YtamfbfhkojnafaaDoorPC6x1
import Derived.Test.YtamfbfhkojnafaaDoorCalP
import Derived.Test.YtamfbfhkojnafaaDoorCalRg
namespace Go.Proofs.YtamfbfhkojnafaaDoor.PC6
open Go.RowKit Go.Proofs.YtamfbfhkojnafaaDoorW.PrintWords Go.Proofs.YtamfbfhkojnafaaDoorW.PrintLast Go.Proofs.YtamfbfhkojnafaaDoorW.PrintMore
attribute [local go_sem] max2_int min2_int max_two min_two max_three min_three max_four min_four   -- for this text's walks alone
set_option linter.unusedVariables false
set_option linter.unusedSimpArgs false

/-! ### cashbooklaw06_CalendarTells: function 3 -/
mutual
def cashbooklaw06_CalendarTells.j0 : Nat → List (S44) → Int → Int → Int → Bool → Int → Int → Int → Bool → Option (Bool)
  | 0, _, _, _, _, _, _, _, _, _ => none
  | k + 1, x0, x1, x2, x3, x9, x10, x11, x12, x41 => if x41 = true then (some false) else ((cashbookref06_Right.f k x0).bind fun t134 => (if t134 = true then ((cashbookref04_Right.f x1).bind fun t135 => (if t135 = true then ((cashbookref04_Right.f x2).bind fun t136 => (if t136 = true then (cashbooklaw06_CalendarTells.j1 k x0 x1 x2 x3 x9 x10 x11 x12 0) else (cashbooklaw06_CalendarTells.j1 k x0 x1 x2 x3 x9 x10 x11 x12 11))) else (cashbooklaw06_CalendarTells.j1 k x0 x1 x2 x3 x9 x10 x11 x12 11))) else (cashbooklaw06_CalendarTells.j1 k x0 x1 x2 x3 x9 x10 x11 x12 1)))
def cashbooklaw06_CalendarTells.j1 : Nat → List (S44) → Int → Int → Int → Bool → Int → Int → Int → Int → Option (Bool)
  | 0, _, _, _, _, _, _, _, _, _ => none
  | k + 1, x0, x1, x2, x3, x9, x10, x11, x12, x13 => if x13 = 0 then (if x10 = 0 then ((cashbookref06_Open.f k x0 x1 x2).bind fun t137 => (cashbooklaw06_CalendarTells.j2 k x0 x1 x2 x3 x11 x12 (x9 != t137))) else (cashbooklaw06_CalendarTells.j2 k x0 x1 x2 x3 x11 x12 true)) else (if x10 = x13 then (if x9 = true then (some false) else (if x12 = x13 then (some (x11 == 0)) else (if x12 = 1 then (if x3 < 0 then (some (x11 == 0)) else (if x3 > 2 then (some (x11 == 0)) else (some false))) else (some false)))) else (some false))
def cashbooklaw06_CalendarTells.j2 : Nat → List (S44) → Int → Int → Int → Int → Int → Bool → Option (Bool)
  | 0, _, _, _, _, _, _, _ => none
  | k + 1, x0, x1, x2, x3, x11, x12, x94 => if x94 = true then (some false) else (if x3 < 0 then (cashbooklaw06_CalendarTells.j3 k x0 x1 x2 x3 x11 x12 true) else (cashbooklaw06_CalendarTells.j3 k x0 x1 x2 x3 x11 x12 (decide (x3 > 2))))
def cashbooklaw06_CalendarTells.j3 : Nat → List (S44) → Int → Int → Int → Int → Int → Bool → Option (Bool)
  | 0, _, _, _, _, _, _, _ => none
  | k + 1, x0, x1, x2, x3, x11, x12, x100 => if x100 = true then (if x12 = 1 then (some (x11 == 0)) else (some false)) else ((cashbookref06_Roll.f x0 x1 x2 x3).bind fun bt138 => (if bt138.2 = true then (if x12 = 0 then (some (x11 == bt138.1)) else (some false)) else (if x12 = 11 then (some (x11 == 0)) else (some false))))
end
def cashbooklaw06_CalendarTells.f (k : Nat) (l0 : List (S44)) (a1 : Int) (a2 : Int) (a3 : Int) : Option (Bool) := (cashbooklaw06_few.f l0).bind fun t124 => ((calendar_Open.f t124 a1 a2).bind fun bt127 => ((calendar_Roll.f t124 a1 a2 a3).bind fun bt129 => ((calendar_Right.f t124).bind fun t131 => ((cashbookref06_Right.f k t124).bind fun t132 => (if (t131 != t132) = true then (cashbooklaw06_CalendarTells.j0 k t124 a1 a2 a3 bt127.1 bt127.2 bt129.1 bt129.2 true) else ((cashbooklaw06_alive.f).bind fun t133 => (cashbooklaw06_CalendarTells.j0 k t124 a1 a2 a3 bt127.1 bt127.2 bt129.1 bt129.2 (!t133))))))))
theorem cashbooklaw06_CalendarTells.mono_l : ∀ k, (∀ y0 y1 y2 y3 y4 y5 y6 y7 y8, LeO (cashbooklaw06_CalendarTells.j0 k y0 y1 y2 y3 y4 y5 y6 y7 y8) (cashbooklaw06_CalendarTells.j0 (k + 1) y0 y1 y2 y3 y4 y5 y6 y7 y8)) ∧ (∀ y0 y1 y2 y3 y4 y5 y6 y7 y8, LeO (cashbooklaw06_CalendarTells.j1 k y0 y1 y2 y3 y4 y5 y6 y7 y8) (cashbooklaw06_CalendarTells.j1 (k + 1) y0 y1 y2 y3 y4 y5 y6 y7 y8)) ∧ (∀ y0 y1 y2 y3 y4 y5 y6, LeO (cashbooklaw06_CalendarTells.j2 k y0 y1 y2 y3 y4 y5 y6) (cashbooklaw06_CalendarTells.j2 (k + 1) y0 y1 y2 y3 y4 y5 y6)) ∧ (∀ y0 y1 y2 y3 y4 y5 y6, LeO (cashbooklaw06_CalendarTells.j3 k y0 y1 y2 y3 y4 y5 y6) (cashbooklaw06_CalendarTells.j3 (k + 1) y0 y1 y2 y3 y4 y5 y6))
  | 0 => ⟨fun _ _ _ _ _ _ _ _ _ r h => by simp [cashbooklaw06_CalendarTells.j0] at h, fun _ _ _ _ _ _ _ _ _ r h => by simp [cashbooklaw06_CalendarTells.j1] at h, fun _ _ _ _ _ _ _ r h => by simp [cashbooklaw06_CalendarTells.j2] at h, fun _ _ _ _ _ _ _ r h => by simp [cashbooklaw06_CalendarTells.j3] at h⟩
  | k + 1 => by
    obtain ⟨ih0, ih1, ih2, ih3⟩ := cashbooklaw06_CalendarTells.mono_l k
    refine ⟨?_, ?_, ?_, ?_⟩
    · intro y0 y1 y2 y3 y4 y5 y6 y7 y8
      unfold cashbooklaw06_CalendarTells.j0
      repeat' first
      | (with_reducible exact ih0 _ _ _ _ _ _ _ _ _)
      | (with_reducible exact ih1 _ _ _ _ _ _ _ _ _)
      | (with_reducible exact ih2 _ _ _ _ _ _ _)
      | (with_reducible exact ih3 _ _ _ _ _ _ _)
      | (with_reducible exact cashbookref06_Open.mono _ _ _ _)
      | (with_reducible exact cashbookref06_Right.mono _ _)
      | (with_reducible exact LeO.refl _)
      | (with_reducible exact LeO.none _)
      | (with_reducible refine LeO.ite ?_ ?_)
      | (with_reducible refine LeO.bind ?_ (fun _ => ?_))
      | exact ih0 _ _ _ _ _ _ _ _ _
      | exact ih1 _ _ _ _ _ _ _ _ _
      | exact ih2 _ _ _ _ _ _ _
      | exact ih3 _ _ _ _ _ _ _
      | exact cashbookref06_Open.mono _ _ _ _
      | exact cashbookref06_Right.mono _ _
      | exact LeO.none _
      | refine LeO.ite ?_ ?_
      | refine LeO.bind ?_ (fun _ => ?_)
    · intro y0 y1 y2 y3 y4 y5 y6 y7 y8
      unfold cashbooklaw06_CalendarTells.j1
      repeat' first
      | (with_reducible exact ih0 _ _ _ _ _ _ _ _ _)
      | (with_reducible exact ih1 _ _ _ _ _ _ _ _ _)
      | (with_reducible exact ih2 _ _ _ _ _ _ _)
      | (with_reducible exact ih3 _ _ _ _ _ _ _)
      | (with_reducible exact cashbookref06_Open.mono _ _ _ _)
      | (with_reducible exact cashbookref06_Right.mono _ _)
      | (with_reducible exact LeO.refl _)
      | (with_reducible exact LeO.none _)
      | (with_reducible refine LeO.ite ?_ ?_)
      | (with_reducible refine LeO.bind ?_ (fun _ => ?_))
      | exact ih0 _ _ _ _ _ _ _ _ _
      | exact ih1 _ _ _ _ _ _ _ _ _
      | exact ih2 _ _ _ _ _ _ _
      | exact ih3 _ _ _ _ _ _ _
      | exact cashbookref06_Open.mono _ _ _ _
      | exact cashbookref06_Right.mono _ _
      | exact LeO.none _
      | refine LeO.ite ?_ ?_
      | refine LeO.bind ?_ (fun _ => ?_)
    · intro y0 y1 y2 y3 y4 y5 y6
      unfold cashbooklaw06_CalendarTells.j2
      repeat' first
      | (with_reducible exact ih0 _ _ _ _ _ _ _ _ _)
      | (with_reducible exact ih1 _ _ _ _ _ _ _ _ _)
      | (with_reducible exact ih2 _ _ _ _ _ _ _)
      | (with_reducible exact ih3 _ _ _ _ _ _ _)
      | (with_reducible exact cashbookref06_Open.mono _ _ _ _)
      | (with_reducible exact cashbookref06_Right.mono _ _)
      | (with_reducible exact LeO.refl _)
      | (with_reducible exact LeO.none _)
      | (with_reducible refine LeO.ite ?_ ?_)
      | (with_reducible refine LeO.bind ?_ (fun _ => ?_))
      | exact ih0 _ _ _ _ _ _ _ _ _
      | exact ih1 _ _ _ _ _ _ _ _ _
      | exact ih2 _ _ _ _ _ _ _
      | exact ih3 _ _ _ _ _ _ _
      | exact cashbookref06_Open.mono _ _ _ _
      | exact cashbookref06_Right.mono _ _
      | exact LeO.none _
      | refine LeO.ite ?_ ?_
      | refine LeO.bind ?_ (fun _ => ?_)
    · intro y0 y1 y2 y3 y4 y5 y6
      unfold cashbooklaw06_CalendarTells.j3
      repeat' first
      | (with_reducible exact ih0 _ _ _ _ _ _ _ _ _)
      | (with_reducible exact ih1 _ _ _ _ _ _ _ _ _)
      | (with_reducible exact ih2 _ _ _ _ _ _ _)
      | (with_reducible exact ih3 _ _ _ _ _ _ _)
      | (with_reducible exact cashbookref06_Open.mono _ _ _ _)
      | (with_reducible exact cashbookref06_Right.mono _ _)
      | (with_reducible exact LeO.refl _)
      | (with_reducible exact LeO.none _)
      | (with_reducible refine LeO.ite ?_ ?_)
      | (with_reducible refine LeO.bind ?_ (fun _ => ?_))
      | exact ih0 _ _ _ _ _ _ _ _ _
      | exact ih1 _ _ _ _ _ _ _ _ _
      | exact ih2 _ _ _ _ _ _ _
      | exact ih3 _ _ _ _ _ _ _
      | exact cashbookref06_Open.mono _ _ _ _
      | exact cashbookref06_Right.mono _ _
      | exact LeO.none _
      | refine LeO.ite ?_ ?_
      | refine LeO.bind ?_ (fun _ => ?_)
theorem cashbooklaw06_CalendarTells.mono : ∀ a0 a1 a2 a3 k, LeO (cashbooklaw06_CalendarTells.f k a0 a1 a2 a3) (cashbooklaw06_CalendarTells.f (k + 1) a0 a1 a2 a3) := by
  intro a0 a1 a2 a3 k
  obtain ⟨ih0, ih1, ih2, ih3⟩ := cashbooklaw06_CalendarTells.mono_l k
  unfold cashbooklaw06_CalendarTells.f
  repeat' first
      | (with_reducible exact ih0 _ _ _ _ _ _ _ _ _)
      | (with_reducible exact ih1 _ _ _ _ _ _ _ _ _)
      | (with_reducible exact ih2 _ _ _ _ _ _ _)
      | (with_reducible exact ih3 _ _ _ _ _ _ _)
      | (with_reducible exact cashbookref06_Open.mono _ _ _ _)
      | (with_reducible exact cashbookref06_Right.mono _ _)
      | (with_reducible exact LeO.refl _)
      | (with_reducible exact LeO.none _)
      | (with_reducible refine LeO.ite ?_ ?_)
      | (with_reducible refine LeO.bind ?_ (fun _ => ?_))
      | exact ih0 _ _ _ _ _ _ _ _ _
      | exact ih1 _ _ _ _ _ _ _ _ _
      | exact ih2 _ _ _ _ _ _ _
      | exact ih3 _ _ _ _ _ _ _
      | exact cashbookref06_Open.mono _ _ _ _
      | exact cashbookref06_Right.mono _ _
      | exact LeO.none _
      | refine LeO.ite ?_ ?_
      | refine LeO.bind ?_ (fun _ => ?_)
set_option maxHeartbeats 8000000 in
set_option maxRecDepth 100000 in
theorem cashbooklaw06_CalendarTells.calls (k : Nat) (A0 : Option Addr) (c0 : Nat) (l0 : List (S44)) (a1 : Int) (a2 : Int) (a3 : Int) (r : Bool) (w : World) (hr0 : Kd.C k44 w A0 l0.length l0) (hc0 : l0.length ≤ c0) (hT : BefAt w) (h : cashbooklaw06_CalendarTells.f k l0 a1 a2 a3 = some r) :
    Calls Tryd.prog 3 #[.slice A0 l0.length c0, .int .i32 a1, .int .i32 a2, .int .i64 a3] w fun e w' => e = .returned (.bool r) ∧ Below w.heap.size w w' := by
  have HT := Aside0.mk hT
  clear hT
  have HR0 := Aside0.mk hr0
  have HC0 := Aside0.mk hc0
  clear hr0 hc0
  have HB := Aside0.mk (Below.refl w.heap.size w)
  have H : ((cashbooklaw06_few.f l0).bind fun t124 => ((calendar_Open.f t124 a1 a2).bind fun bt127 => ((calendar_Roll.f t124 a1 a2 a3).bind fun bt129 => ((calendar_Right.f t124).bind fun t131 => ((cashbookref06_Right.f k t124).bind fun t132 => (if (t131 != t132) = true then (cashbooklaw06_CalendarTells.j0 k t124 a1 a2 a3 bt127.1 bt127.2 bt129.1 bt129.2 true) else ((cashbooklaw06_alive.f).bind fun t133 => (cashbooklaw06_CalendarTells.j0 k t124 a1 a2 a3 bt127.1 bt127.2 bt129.1 bt129.2 (!t133))))))))) = some r := h
  clear h
  replace H := Option.bind_eq_some_iff.mp H
  obtain ⟨t124, A50, H⟩ := H
  replace H : ((calendar_Open.f t124 a1 a2).bind fun bt127 => ((calendar_Roll.f t124 a1 a2 a3).bind fun bt129 => ((calendar_Right.f t124).bind fun t131 => ((cashbookref06_Right.f k t124).bind fun t132 => (if (t131 != t132) = true then (cashbooklaw06_CalendarTells.j0 k t124 a1 a2 a3 bt127.1 bt127.2 bt129.1 bt129.2 true) else ((cashbooklaw06_alive.f).bind fun t133 => (cashbooklaw06_CalendarTells.j0 k t124 a1 a2 a3 bt127.1 bt127.2 bt129.1 bt129.2 (!t133)))))))) = some r := H
  have A5 := Aside0.mk A50
  clear A50
  replace H := Option.bind_eq_some_iff.mp H
  obtain ⟨⟨t127, t128⟩, A60, H⟩ := H
  replace H : ((calendar_Roll.f t124 a1 a2 a3).bind fun bt129 => ((calendar_Right.f t124).bind fun t131 => ((cashbookref06_Right.f k t124).bind fun t132 => (if (t131 != t132) = true then (cashbooklaw06_CalendarTells.j0 k t124 a1 a2 a3 t127 t128 bt129.1 bt129.2 true) else ((cashbooklaw06_alive.f).bind fun t133 => (cashbooklaw06_CalendarTells.j0 k t124 a1 a2 a3 t127 t128 bt129.1 bt129.2 (!t133))))))) = some r := H
  have A6 := Aside0.mk A60
  clear A60
  replace H := Option.bind_eq_some_iff.mp H
  obtain ⟨⟨t129, t130⟩, A70, H⟩ := H
  replace H : ((calendar_Right.f t124).bind fun t131 => ((cashbookref06_Right.f k t124).bind fun t132 => (if (t131 != t132) = true then (cashbooklaw06_CalendarTells.j0 k t124 a1 a2 a3 t127 t128 t129 t130 true) else ((cashbooklaw06_alive.f).bind fun t133 => (cashbooklaw06_CalendarTells.j0 k t124 a1 a2 a3 t127 t128 t129 t130 (!t133)))))) = some r := H
  have A7 := Aside0.mk A70
  clear A70
  have HC8 := Aside0.mk H
  clear H
  go_enter Tryd.func3, Tryd.ntmps3
  go_upto_region 4 with (first | ((with_reducible refine gate_callee (f := 14) rfl ?_); refine goesL_ (some 17) rfl rfl Tryd.func14 (by kernel_rfl) rfl #[.slice A0 l0.length c0] rfl (by (try simp only [List.map_toArray, List.map_cons, List.map_nil]); first | done | rfl | (simp only [List.length_drop, List.length_take]; rfl)) ?_; (with_reducible refine (cashbooklaw06_few.calls _ _ l0 t124 _ ?side1 ?side2 A5.out).mono ?_); (case side1 => repeat (first | exact HR0.out | (with_reducible refine Kd.C_alloc ?_ _) | (with_reducible refine Kd.C_drewN ?_ _) | (with_reducible refine Kd.C_drew ?_))); (case side2 => exact HC0.out); rintro e w9 ⟨v125, rfl, ho0, hb⟩; refine ⟨_, rfl, ?_⟩; have n0_ := Aside0.mk (Fw.R_lower ho0 (below_size (by repeat (first | (with_reducible first | exact HB.out | apply below_alloc | apply pw_below_drewN | apply below_drew1) | exact HB.out)))); have n1_ := Aside0.mk (below_step (by repeat (first | (with_reducible first | exact HB.out | apply below_alloc | apply pw_below_drewN | apply below_drew1) | exact HB.out)) hb); clear HB; have HO126 := n0_; have HB := n1_; clear n0_ n1_; (try clear hb); (try clear hb2); (try clear hk); (try clear hi); (try clear ho0); obtain ⟨Ao10, co10, eo10⟩ := Fw.R_slice HO126.out; subst eo10) | ((with_reducible refine gate_callee (f := 15) rfl ?_); refine goesL_ (some 22) rfl rfl Tryd.func15 (by kernel_rfl) rfl #[.slice Ao10 t124.length co10, .int .i32 a1, .int .i32 a2] rfl (by (try simp only [List.map_toArray, List.map_cons, List.map_nil]); first | done | rfl | (simp only [List.length_drop, List.length_take]; rfl)) ?_; (with_reducible refine (calendar_Open.calls _ _ t124 a1 a2 t127 t128 _ ?side1 ?side2 A6.out).mono ?_); (case side1 => repeat (first | exact (Fw.R_reads' HO126.out).2.2 | (with_reducible refine Kd.C_alloc ?_ _) | (with_reducible refine Kd.C_drewN ?_ _) | (with_reducible refine Kd.C_drew ?_))); (case side2 => exact (Fw.R_reads' HO126.out).2.1); rintro e w11 ⟨rfl, hb⟩; refine ⟨_, rfl, ?_⟩; have n0_ := Aside0.mk (Fw.R_below (by (with_reducible repeat (first | apply Fw.R_alloc | apply Fw.R_drewN | apply Fw.R_drew)); exact HO126.out) hb); have n1_ := Aside0.mk (below_step (by repeat (first | (with_reducible first | exact HB.out | apply below_alloc | apply pw_below_drewN | apply below_drew1) | exact HB.out)) hb); clear HO126; clear HB; have HO126 := n0_; have HB := n1_; clear n0_ n1_; (try clear hb); (try clear hb2); (try clear hk); (try clear hi)) | ((with_reducible refine gate_callee (f := 16) rfl ?_); refine goesL_ (some 30) rfl rfl Tryd.func16 (by kernel_rfl) rfl #[.slice Ao10 t124.length co10, .int .i32 a1, .int .i32 a2, .int .i64 a3] rfl (by (try simp only [List.map_toArray, List.map_cons, List.map_nil]); first | done | rfl | (simp only [List.length_drop, List.length_take]; rfl)) ?_; (with_reducible refine (calendar_Roll.calls _ _ t124 a1 a2 a3 t129 t130 _ ?side1 ?side2 (BefAt.below HT.out (by repeat (first | (with_reducible first | exact HB.out | apply below_alloc | apply pw_below_drewN | apply below_drew1 | exact Below.refl _ _) | exact HB.out | exact (Drawn0.below HD.out) | exact Below.refl _ _))) A7.out).mono ?_); (case side1 => repeat (first | exact (Fw.R_reads' HO126.out).2.2 | (with_reducible refine Kd.C_alloc ?_ _) | (with_reducible refine Kd.C_drewN ?_ _) | (with_reducible refine Kd.C_drew ?_))); (case side2 => exact (Fw.R_reads' HO126.out).2.1); rintro e w12 ⟨rfl, hb⟩; refine ⟨_, rfl, ?_⟩; have n0_ := Aside0.mk (Fw.R_below (by (with_reducible repeat (first | apply Fw.R_alloc | apply Fw.R_drewN | apply Fw.R_drew)); exact HO126.out) hb); have n1_ := Aside0.mk (below_step (by repeat (first | (with_reducible first | exact HB.out | apply below_alloc | apply pw_below_drewN | apply below_drew1) | exact HB.out)) hb); clear HO126; clear HB; have HO126 := n0_; have HB := n1_; clear n0_ n1_; (try clear hb); (try clear hb2); (try clear hk); (try clear hi)))
  (try simp only [Act.put, List.setIfInBounds_toArray, List.set_cons_zero, List.set_cons_succ])
  go_cut [41] (fun v41 wc => ∃ (kq : Nat) (x41_7 : Bool), v41 = .bool x41_7 ∧ Aside0 (cashbooklaw06_CalendarTells.j0 kq t124 a1 a2 a3 t127 t128 t129 t130 x41_7 = some r) ∧ Aside0 (kq ≤ k) ∧ Aside0 (Fw.R k44 44 wc w.heap.size (fun _ => True) (.slice Ao10 t124.length co10) t124) ∧ Aside0 (Below w.heap.size w wc))
  case first =>
    have H := HC8.out
    clear HC8
    replace H := Option.bind_eq_some_iff.mp H
    obtain ⟨t131, A130, H⟩ := H
    replace H : ((cashbookref06_Right.f k t124).bind fun t132 => (if (t131 != t132) = true then (cashbooklaw06_CalendarTells.j0 k t124 a1 a2 a3 t127 t128 t129 t130 true) else ((cashbooklaw06_alive.f).bind fun t133 => (cashbooklaw06_CalendarTells.j0 k t124 a1 a2 a3 t127 t128 t129 t130 (!t133))))) = some r := H
    have A13 := Aside0.mk A130
    clear A130
    replace H := Option.bind_eq_some_iff.mp H
    obtain ⟨t132, A140, H⟩ := H
    replace H : (if (t131 != t132) = true then (cashbooklaw06_CalendarTells.j0 k t124 a1 a2 a3 t127 t128 t129 t130 true) else ((cashbooklaw06_alive.f).bind fun t133 => (cashbooklaw06_CalendarTells.j0 k t124 a1 a2 a3 t127 t128 t129 t130 (!t133)))) = some r := H
    have A14 := Aside0.mk A140
    clear A140
    by_cases c15 : (t131 != t132) = true
    · rw [if_pos c15] at H
      have c15b0 : (t131 != t132) = true := c15
      (try (have c15b1 : decide (t131 = t132) = false := by simpa using c15))
      (try (have c15b2 : (t131 == t132) = false := by simpa using c15))
      (try (have c15b3 : ¬ (t131 = t132) := by simpa using c15))
      clear c15
      (first | rw [c15b0] | (simp only [i64_w, i32_w]; rw [c15b0]) | skip)
      have H' := Aside0.mk H
      clear H
      go_wp2_with (first | ((with_reducible refine gate_callee (f := 17) rfl ?_); refine goesL_ (some 34) rfl rfl Tryd.func17 (by kernel_rfl) rfl #[.slice Ao10 t124.length co10] rfl (by (try simp only [List.map_toArray, List.map_cons, List.map_nil]); first | done | rfl | (simp only [List.length_drop, List.length_take]; rfl)) ?_; (with_reducible refine (calendar_Right.calls _ _ t124 t131 _ ?side1 ?side2 A13.out).mono ?_); (case side1 => repeat (first | exact (Fw.R_reads' HO126.out).2.2 | (with_reducible refine Kd.C_alloc ?_ _) | (with_reducible refine Kd.C_drewN ?_ _) | (with_reducible refine Kd.C_drew ?_))); (case side2 => exact (Fw.R_reads' HO126.out).2.1); rintro e w16 ⟨rfl, hb⟩; refine ⟨_, rfl, ?_⟩; have n0_ := Aside0.mk (Fw.R_below (by (with_reducible repeat (first | apply Fw.R_alloc | apply Fw.R_drewN | apply Fw.R_drew)); exact HO126.out) hb); have n1_ := Aside0.mk (below_step (by repeat (first | (with_reducible first | exact HB.out | apply below_alloc | apply pw_below_drewN | apply below_drew1) | exact HB.out)) hb); clear HO126; clear HB; have HO126 := n0_; have HB := n1_; clear n0_ n1_; (try clear hb); (try clear hb2); (try clear hk); (try clear hi)) | ((with_reducible refine gate_callee (f := 18) rfl ?_); refine goesL_ (some 36) rfl rfl Tryd.func18 (by kernel_rfl) rfl #[.slice Ao10 t124.length co10] rfl (by (try simp only [List.map_toArray, List.map_cons, List.map_nil]); first | done | rfl | (simp only [List.length_drop, List.length_take]; rfl)) ?_; (with_reducible refine (cashbookref06_Right.calls k _ _ t124 t132 _ ?side1 ?side2 A14.out).mono ?_); (case side1 => repeat (first | exact (Fw.R_reads' HO126.out).2.2 | (with_reducible refine Kd.C_alloc ?_ _) | (with_reducible refine Kd.C_drewN ?_ _) | (with_reducible refine Kd.C_drew ?_))); (case side2 => exact (Fw.R_reads' HO126.out).2.1); rintro e w17 ⟨rfl, hb⟩; refine ⟨_, rfl, ?_⟩; have n0_ := Aside0.mk (Fw.R_below (by (with_reducible repeat (first | apply Fw.R_alloc | apply Fw.R_drewN | apply Fw.R_drew)); exact HO126.out) hb); have n1_ := Aside0.mk (below_step (by repeat (first | (with_reducible first | exact HB.out | apply below_alloc | apply pw_below_drewN | apply below_drew1) | exact HB.out)) hb); clear HO126; clear HB; have HO126 := n0_; have HB := n1_; clear n0_ n1_; (try clear hb); (try clear hb2); (try clear hk); (try clear hi)))
      go_meet
      case rel => exact ⟨_, (true), (by first | rfl | (simp; done) | (simp [*]; done)), H', ⟨by first | omega | exact Nat.le_refl _⟩, ⟨by (with_reducible repeat (first | apply Fw.R_alloc | apply Fw.R_drewN | apply Fw.R_drew)); exact HO126.out⟩, ⟨by repeat (first | (with_reducible first | exact HB.out | apply below_alloc | apply pw_below_drewN | apply below_drew1) | exact HB.out)⟩⟩
    · rw [if_neg c15] at H
      have c15b0 : (t131 != t132) = false := by simpa using c15
      (try (have c15b1 : decide (t131 = t132) = true := by simpa using c15))
      (try (have c15b2 : (t131 == t132) = true := by simpa using c15))
      clear c15
      (first | rw [c15b0] | (simp only [i64_w, i32_w]; rw [c15b0]) | skip)
      replace H := Option.bind_eq_some_iff.mp H
      obtain ⟨t133, A180, H⟩ := H
      replace H : (cashbooklaw06_CalendarTells.j0 k t124 a1 a2 a3 t127 t128 t129 t130 (!t133)) = some r := H
      have A18 := Aside0.mk A180
      clear A180
      have H' := Aside0.mk H
      clear H
      go_wp2_with (first | ((with_reducible refine gate_callee (f := 17) rfl ?_); refine goesL_ (some 34) rfl rfl Tryd.func17 (by kernel_rfl) rfl #[.slice Ao10 t124.length co10] rfl (by (try simp only [List.map_toArray, List.map_cons, List.map_nil]); first | done | rfl | (simp only [List.length_drop, List.length_take]; rfl)) ?_; (with_reducible refine (calendar_Right.calls _ _ t124 t131 _ ?side1 ?side2 A13.out).mono ?_); (case side1 => repeat (first | exact (Fw.R_reads' HO126.out).2.2 | (with_reducible refine Kd.C_alloc ?_ _) | (with_reducible refine Kd.C_drewN ?_ _) | (with_reducible refine Kd.C_drew ?_))); (case side2 => exact (Fw.R_reads' HO126.out).2.1); rintro e w19 ⟨rfl, hb⟩; refine ⟨_, rfl, ?_⟩; have n0_ := Aside0.mk (Fw.R_below (by (with_reducible repeat (first | apply Fw.R_alloc | apply Fw.R_drewN | apply Fw.R_drew)); exact HO126.out) hb); have n1_ := Aside0.mk (below_step (by repeat (first | (with_reducible first | exact HB.out | apply below_alloc | apply pw_below_drewN | apply below_drew1) | exact HB.out)) hb); clear HO126; clear HB; have HO126 := n0_; have HB := n1_; clear n0_ n1_; (try clear hb); (try clear hb2); (try clear hk); (try clear hi)) | ((with_reducible refine gate_callee (f := 18) rfl ?_); refine goesL_ (some 36) rfl rfl Tryd.func18 (by kernel_rfl) rfl #[.slice Ao10 t124.length co10] rfl (by (try simp only [List.map_toArray, List.map_cons, List.map_nil]); first | done | rfl | (simp only [List.length_drop, List.length_take]; rfl)) ?_; (with_reducible refine (cashbookref06_Right.calls k _ _ t124 t132 _ ?side1 ?side2 A14.out).mono ?_); (case side1 => repeat (first | exact (Fw.R_reads' HO126.out).2.2 | (with_reducible refine Kd.C_alloc ?_ _) | (with_reducible refine Kd.C_drewN ?_ _) | (with_reducible refine Kd.C_drew ?_))); (case side2 => exact (Fw.R_reads' HO126.out).2.1); rintro e w20 ⟨rfl, hb⟩; refine ⟨_, rfl, ?_⟩; have n0_ := Aside0.mk (Fw.R_below (by (with_reducible repeat (first | apply Fw.R_alloc | apply Fw.R_drewN | apply Fw.R_drew)); exact HO126.out) hb); have n1_ := Aside0.mk (below_step (by repeat (first | (with_reducible first | exact HB.out | apply below_alloc | apply pw_below_drewN | apply below_drew1) | exact HB.out)) hb); clear HO126; clear HB; have HO126 := n0_; have HB := n1_; clear n0_ n1_; (try clear hb); (try clear hb2); (try clear hk); (try clear hi)) | (go_at_call 19; (with_reducible refine (cashbooklaw06_alive.calls  t133 _ (BefAt.below HT.out (by repeat (first | (with_reducible first | exact HB.out | apply below_alloc | apply pw_below_drewN | apply below_drew1 | exact Below.refl _ _) | exact HB.out | exact (Drawn0.below HD.out) | exact Below.refl _ _))) A18.out).mono ?_); rintro e w21 ⟨rfl, hb⟩; have n0_ := Aside0.mk (Fw.R_below (by (with_reducible repeat (first | apply Fw.R_alloc | apply Fw.R_drewN | apply Fw.R_drew)); exact HO126.out) hb); have n1_ := Aside0.mk (below_step (by repeat (first | (with_reducible first | exact HB.out | apply below_alloc | apply pw_below_drewN | apply below_drew1) | exact HB.out)) hb); clear HO126; clear HB; have HO126 := n0_; have HB := n1_; clear n0_ n1_; (try clear hb); (try clear hb2); (try clear hk); (try clear hi)))
      go_meet
      case rel => exact ⟨_, (!t133), (by first | rfl | (simp; done) | (simp [*]; done)), H', ⟨by first | omega | exact Nat.le_refl _⟩, ⟨by (with_reducible repeat (first | apply Fw.R_alloc | apply Fw.R_drewN | apply Fw.R_drew)); exact HO126.out⟩, ⟨by repeat (first | (with_reducible first | exact HB.out | apply below_alloc | apply pw_below_drewN | apply below_drew1) | exact HB.out)⟩⟩
  case rest =>
    clear HC8
    try clear c1
    try clear p2
    try clear c3
    try clear c14
    try clear c15
    try clear c15b0
    try clear c15b1
    try clear c15b2
    try clear c16
    try clear c17
    try clear c18
    obtain ⟨kq, x41_7, rfl, HA, HJ7, HO_0, HB⟩ := hcut
    cases kq with
    | zero => exact absurd HA.out (by simp [cashbooklaw06_CalendarTells.j0])
    | succ kj7 =>
      have H := HA.out
      clear HA
      simp only [cashbooklaw06_CalendarTells.j0] at H
      by_cases c22 : x41_7 = true
      · subst c22
        have H1 : (some false) = some r := by rw [if_pos rfl] at H; exact H
        clear H
        have H := H1
        clear H1
        obtain rfl := Option.some.inj H
        go_wp2
        go_ret
        exact ⟨by first | rfl | (simp [errW_none, errW_some] <;> rfl) | (simp [*, errW_none, errW_some] <;> rfl), by repeat (first | (with_reducible first | exact HB.out | apply below_alloc | apply pw_below_drewN | apply below_drew1) | exact HB.out)⟩
      · replace c22 := Bool.eq_false_iff.mpr c22
        subst c22
        have H1 : ((cashbookref06_Right.f kj7 t124).bind fun t134 => (if t134 = true then ((cashbookref04_Right.f a1).bind fun t135 => (if t135 = true then ((cashbookref04_Right.f a2).bind fun t136 => (if t136 = true then (cashbooklaw06_CalendarTells.j1 kj7 t124 a1 a2 a3 t127 t128 t129 t130 0) else (cashbooklaw06_CalendarTells.j1 kj7 t124 a1 a2 a3 t127 t128 t129 t130 11))) else (cashbooklaw06_CalendarTells.j1 kj7 t124 a1 a2 a3 t127 t128 t129 t130 11))) else (cashbooklaw06_CalendarTells.j1 kj7 t124 a1 a2 a3 t127 t128 t129 t130 1))) = some r := by rw [if_neg (show ¬ (false = true) by decide)] at H; exact H
        clear H
        have H := H1
        clear H1
        have HC23 := Aside0.mk H
        clear H
        go_upto_block 0 with (fail)
        go_cut [13] (fun v13 wc => ∃ (kq : Nat) (x13_22 : Int), v13 = .int .i64 x13_22 ∧ Aside0 (cashbooklaw06_CalendarTells.j1 kq t124 a1 a2 a3 t127 t128 t129 t130 x13_22 = some r) ∧ Aside0 (kq ≤ kj7) ∧ Aside0 (Fw.R k44 44 wc w.heap.size (fun _ => True) (.slice Ao10 t124.length co10) t124) ∧ Aside0 (Below w.heap.size w wc))
        case first =>
          have H := HC23.out
          clear HC23
          replace H := Option.bind_eq_some_iff.mp H
          obtain ⟨t134, A240, H⟩ := H
          replace H : (if t134 = true then ((cashbookref04_Right.f a1).bind fun t135 => (if t135 = true then ((cashbookref04_Right.f a2).bind fun t136 => (if t136 = true then (cashbooklaw06_CalendarTells.j1 kj7 t124 a1 a2 a3 t127 t128 t129 t130 0) else (cashbooklaw06_CalendarTells.j1 kj7 t124 a1 a2 a3 t127 t128 t129 t130 11))) else (cashbooklaw06_CalendarTells.j1 kj7 t124 a1 a2 a3 t127 t128 t129 t130 11))) else (cashbooklaw06_CalendarTells.j1 kj7 t124 a1 a2 a3 t127 t128 t129 t130 1)) = some r := H
          have A24 := Aside0.mk A240
          clear A240
          by_cases c25 : t134 = true
          · subst c25
            have H1 : ((cashbookref04_Right.f a1).bind fun t135 => (if t135 = true then ((cashbookref04_Right.f a2).bind fun t136 => (if t136 = true then (cashbooklaw06_CalendarTells.j1 kj7 t124 a1 a2 a3 t127 t128 t129 t130 0) else (cashbooklaw06_CalendarTells.j1 kj7 t124 a1 a2 a3 t127 t128 t129 t130 11))) else (cashbooklaw06_CalendarTells.j1 kj7 t124 a1 a2 a3 t127 t128 t129 t130 11))) = some r := by rw [if_pos rfl] at H; exact H
            clear H
            have H := H1
            clear H1
            replace H := Option.bind_eq_some_iff.mp H
            obtain ⟨t135, A260, H⟩ := H
            replace H : (if t135 = true then ((cashbookref04_Right.f a2).bind fun t136 => (if t136 = true then (cashbooklaw06_CalendarTells.j1 kj7 t124 a1 a2 a3 t127 t128 t129 t130 0) else (cashbooklaw06_CalendarTells.j1 kj7 t124 a1 a2 a3 t127 t128 t129 t130 11))) else (cashbooklaw06_CalendarTells.j1 kj7 t124 a1 a2 a3 t127 t128 t129 t130 11)) = some r := H
            have A26 := Aside0.mk A260
            clear A260
            by_cases c27 : t135 = true
            · subst c27
              have H1 : ((cashbookref04_Right.f a2).bind fun t136 => (if t136 = true then (cashbooklaw06_CalendarTells.j1 kj7 t124 a1 a2 a3 t127 t128 t129 t130 0) else (cashbooklaw06_CalendarTells.j1 kj7 t124 a1 a2 a3 t127 t128 t129 t130 11))) = some r := by rw [if_pos rfl] at H; exact H
              clear H
              have H := H1
              clear H1
              replace H := Option.bind_eq_some_iff.mp H
              obtain ⟨t136, A280, H⟩ := H
              replace H : (if t136 = true then (cashbooklaw06_CalendarTells.j1 kj7 t124 a1 a2 a3 t127 t128 t129 t130 0) else (cashbooklaw06_CalendarTells.j1 kj7 t124 a1 a2 a3 t127 t128 t129 t130 11)) = some r := H
              have A28 := Aside0.mk A280
              clear A280
              by_cases c29 : t136 = true
              · subst c29
                have H1 : (cashbooklaw06_CalendarTells.j1 kj7 t124 a1 a2 a3 t127 t128 t129 t130 0) = some r := by rw [if_pos rfl] at H; exact H
                clear H
                have H := H1
                clear H1
                have H' := Aside0.mk H
                clear H
                go_wp2_with (first | ((with_reducible refine gate_callee (f := 18) rfl ?_); refine goesL_ (some 44) rfl rfl Tryd.func18 (by kernel_rfl) rfl #[.slice Ao10 t124.length co10] rfl (by (try simp only [List.map_toArray, List.map_cons, List.map_nil]); first | done | rfl | (simp only [List.length_drop, List.length_take]; rfl)) ?_; (with_reducible refine (cashbookref06_Right.calls kj7 _ _ t124 true _ ?side1 ?side2 A24.out).mono ?_); (case side1 => repeat (first | exact (Fw.R_reads' HO_0.out).2.2 | (with_reducible refine Kd.C_alloc ?_ _) | (with_reducible refine Kd.C_drewN ?_ _) | (with_reducible refine Kd.C_drew ?_))); (case side2 => exact (Fw.R_reads' HO_0.out).2.1); rintro e w30 ⟨rfl, hb⟩; refine ⟨_, rfl, ?_⟩; have n0_ := Aside0.mk (Fw.R_below (by (with_reducible repeat (first | apply Fw.R_alloc | apply Fw.R_drewN | apply Fw.R_drew)); exact HO_0.out) hb); have n1_ := Aside0.mk (below_step (by repeat (first | (with_reducible first | exact HB.out | apply below_alloc | apply pw_below_drewN | apply below_drew1) | exact HB.out)) hb); clear HO_0; clear HB; have HO_0 := n0_; have HB := n1_; clear n0_ n1_; (try clear hb); (try clear hb2); (try clear hk); (try clear hi)) | ((with_reducible refine gate_callee (f := 20) rfl ?_); refine goesL_ (some 48) rfl rfl Tryd.func20 (by kernel_rfl) rfl #[.int .i32 a1] rfl (by (try simp only [List.map_toArray, List.map_cons, List.map_nil]); first | done | rfl | (simp only [List.length_drop, List.length_take]; rfl)) ?_; (with_reducible refine (cashbookref04_Right.calls a1 true _ A26.out).mono ?_); rintro e w' ⟨rfl, ⟨nd, rfl⟩⟩; refine ⟨_, rfl, ?_⟩) | (go_at_call 20; (with_reducible refine (cashbookref04_Right.calls a2 true _ A28.out).mono ?_); rintro e w' ⟨rfl, ⟨nd, rfl⟩⟩))
                go_meet
                case rel => exact ⟨_, (0), (by first | rfl | (simp; done) | (simp [*]; done)), H', ⟨by have := HJ7.out; first | omega | exact Nat.le_refl _⟩, ⟨by (with_reducible repeat (first | apply Fw.R_alloc | apply Fw.R_drewN | apply Fw.R_drew)); exact HO_0.out⟩, ⟨by repeat (first | (with_reducible first | exact HB.out | apply below_alloc | apply pw_below_drewN | apply below_drew1) | exact HB.out)⟩⟩
              · replace c29 := Bool.eq_false_iff.mpr c29
                subst c29
                have H1 : (cashbooklaw06_CalendarTells.j1 kj7 t124 a1 a2 a3 t127 t128 t129 t130 11) = some r := by rw [if_neg (show ¬ (false = true) by decide)] at H; exact H
                clear H
                have H := H1
                clear H1
                have H' := Aside0.mk H
                clear H
                go_wp2_with (first | ((with_reducible refine gate_callee (f := 18) rfl ?_); refine goesL_ (some 44) rfl rfl Tryd.func18 (by kernel_rfl) rfl #[.slice Ao10 t124.length co10] rfl (by (try simp only [List.map_toArray, List.map_cons, List.map_nil]); first | done | rfl | (simp only [List.length_drop, List.length_take]; rfl)) ?_; (with_reducible refine (cashbookref06_Right.calls kj7 _ _ t124 true _ ?side1 ?side2 A24.out).mono ?_); (case side1 => repeat (first | exact (Fw.R_reads' HO_0.out).2.2 | (with_reducible refine Kd.C_alloc ?_ _) | (with_reducible refine Kd.C_drewN ?_ _) | (with_reducible refine Kd.C_drew ?_))); (case side2 => exact (Fw.R_reads' HO_0.out).2.1); rintro e w31 ⟨rfl, hb⟩; refine ⟨_, rfl, ?_⟩; have n0_ := Aside0.mk (Fw.R_below (by (with_reducible repeat (first | apply Fw.R_alloc | apply Fw.R_drewN | apply Fw.R_drew)); exact HO_0.out) hb); have n1_ := Aside0.mk (below_step (by repeat (first | (with_reducible first | exact HB.out | apply below_alloc | apply pw_below_drewN | apply below_drew1) | exact HB.out)) hb); clear HO_0; clear HB; have HO_0 := n0_; have HB := n1_; clear n0_ n1_; (try clear hb); (try clear hb2); (try clear hk); (try clear hi)) | ((with_reducible refine gate_callee (f := 20) rfl ?_); refine goesL_ (some 48) rfl rfl Tryd.func20 (by kernel_rfl) rfl #[.int .i32 a1] rfl (by (try simp only [List.map_toArray, List.map_cons, List.map_nil]); first | done | rfl | (simp only [List.length_drop, List.length_take]; rfl)) ?_; (with_reducible refine (cashbookref04_Right.calls a1 true _ A26.out).mono ?_); rintro e w' ⟨rfl, ⟨nd, rfl⟩⟩; refine ⟨_, rfl, ?_⟩) | (go_at_call 20; (with_reducible refine (cashbookref04_Right.calls a2 false _ A28.out).mono ?_); rintro e w' ⟨rfl, ⟨nd, rfl⟩⟩))
                go_meet
                case rel => exact ⟨_, (11), (by first | rfl | (simp; done) | (simp [*]; done)), H', ⟨by have := HJ7.out; first | omega | exact Nat.le_refl _⟩, ⟨by (with_reducible repeat (first | apply Fw.R_alloc | apply Fw.R_drewN | apply Fw.R_drew)); exact HO_0.out⟩, ⟨by repeat (first | (with_reducible first | exact HB.out | apply below_alloc | apply pw_below_drewN | apply below_drew1) | exact HB.out)⟩⟩
            · replace c27 := Bool.eq_false_iff.mpr c27
              subst c27
              have H1 : (cashbooklaw06_CalendarTells.j1 kj7 t124 a1 a2 a3 t127 t128 t129 t130 11) = some r := by rw [if_neg (show ¬ (false = true) by decide)] at H; exact H
              clear H
              have H := H1
              clear H1
              have H' := Aside0.mk H
              clear H
              go_wp2_with (first | ((with_reducible refine gate_callee (f := 18) rfl ?_); refine goesL_ (some 44) rfl rfl Tryd.func18 (by kernel_rfl) rfl #[.slice Ao10 t124.length co10] rfl (by (try simp only [List.map_toArray, List.map_cons, List.map_nil]); first | done | rfl | (simp only [List.length_drop, List.length_take]; rfl)) ?_; (with_reducible refine (cashbookref06_Right.calls kj7 _ _ t124 true _ ?side1 ?side2 A24.out).mono ?_); (case side1 => repeat (first | exact (Fw.R_reads' HO_0.out).2.2 | (with_reducible refine Kd.C_alloc ?_ _) | (with_reducible refine Kd.C_drewN ?_ _) | (with_reducible refine Kd.C_drew ?_))); (case side2 => exact (Fw.R_reads' HO_0.out).2.1); rintro e w32 ⟨rfl, hb⟩; refine ⟨_, rfl, ?_⟩; have n0_ := Aside0.mk (Fw.R_below (by (with_reducible repeat (first | apply Fw.R_alloc | apply Fw.R_drewN | apply Fw.R_drew)); exact HO_0.out) hb); have n1_ := Aside0.mk (below_step (by repeat (first | (with_reducible first | exact HB.out | apply below_alloc | apply pw_below_drewN | apply below_drew1) | exact HB.out)) hb); clear HO_0; clear HB; have HO_0 := n0_; have HB := n1_; clear n0_ n1_; (try clear hb); (try clear hb2); (try clear hk); (try clear hi)) | ((with_reducible refine gate_callee (f := 20) rfl ?_); refine goesL_ (some 48) rfl rfl Tryd.func20 (by kernel_rfl) rfl #[.int .i32 a1] rfl (by (try simp only [List.map_toArray, List.map_cons, List.map_nil]); first | done | rfl | (simp only [List.length_drop, List.length_take]; rfl)) ?_; (with_reducible refine (cashbookref04_Right.calls a1 false _ A26.out).mono ?_); rintro e w' ⟨rfl, ⟨nd, rfl⟩⟩; refine ⟨_, rfl, ?_⟩))
              go_meet
              case rel => exact ⟨_, (11), (by first | rfl | (simp; done) | (simp [*]; done)), H', ⟨by have := HJ7.out; first | omega | exact Nat.le_refl _⟩, ⟨by (with_reducible repeat (first | apply Fw.R_alloc | apply Fw.R_drewN | apply Fw.R_drew)); exact HO_0.out⟩, ⟨by repeat (first | (with_reducible first | exact HB.out | apply below_alloc | apply pw_below_drewN | apply below_drew1) | exact HB.out)⟩⟩
          · replace c25 := Bool.eq_false_iff.mpr c25
            subst c25
            have H1 : (cashbooklaw06_CalendarTells.j1 kj7 t124 a1 a2 a3 t127 t128 t129 t130 1) = some r := by rw [if_neg (show ¬ (false = true) by decide)] at H; exact H
            clear H
            have H := H1
            clear H1
            have H' := Aside0.mk H
            clear H
            go_wp2_with (first | ((with_reducible refine gate_callee (f := 18) rfl ?_); refine goesL_ (some 44) rfl rfl Tryd.func18 (by kernel_rfl) rfl #[.slice Ao10 t124.length co10] rfl (by (try simp only [List.map_toArray, List.map_cons, List.map_nil]); first | done | rfl | (simp only [List.length_drop, List.length_take]; rfl)) ?_; (with_reducible refine (cashbookref06_Right.calls kj7 _ _ t124 false _ ?side1 ?side2 A24.out).mono ?_); (case side1 => repeat (first | exact (Fw.R_reads' HO_0.out).2.2 | (with_reducible refine Kd.C_alloc ?_ _) | (with_reducible refine Kd.C_drewN ?_ _) | (with_reducible refine Kd.C_drew ?_))); (case side2 => exact (Fw.R_reads' HO_0.out).2.1); rintro e w33 ⟨rfl, hb⟩; refine ⟨_, rfl, ?_⟩; have n0_ := Aside0.mk (Fw.R_below (by (with_reducible repeat (first | apply Fw.R_alloc | apply Fw.R_drewN | apply Fw.R_drew)); exact HO_0.out) hb); have n1_ := Aside0.mk (below_step (by repeat (first | (with_reducible first | exact HB.out | apply below_alloc | apply pw_below_drewN | apply below_drew1) | exact HB.out)) hb); clear HO_0; clear HB; have HO_0 := n0_; have HB := n1_; clear n0_ n1_; (try clear hb); (try clear hb2); (try clear hk); (try clear hi)))
            go_meet
            case rel => exact ⟨_, (1), (by first | rfl | (simp; done) | (simp [*]; done)), H', ⟨by have := HJ7.out; first | omega | exact Nat.le_refl _⟩, ⟨by (with_reducible repeat (first | apply Fw.R_alloc | apply Fw.R_drewN | apply Fw.R_drew)); exact HO_0.out⟩, ⟨by repeat (first | (with_reducible first | exact HB.out | apply below_alloc | apply pw_below_drewN | apply below_drew1) | exact HB.out)⟩⟩
        case rest =>
          clear HC23
          try clear c1
          try clear c2
          try clear p2
          try clear c3
          try clear c14
          try clear c15
          try clear c15b0
          try clear c15b1
          try clear c15b2
          try clear c16
          try clear c17
          try clear c18
          try clear c20
          try clear c22
          try clear c25
          try clear c27
          try clear c29
          try clear p2
          obtain ⟨kq, x13_22, rfl, HA, HJ22, HO_0, HB⟩ := hcut
          cases kq with
          | zero => exact absurd HA.out (by simp [cashbooklaw06_CalendarTells.j1])
          | succ kj22 =>
            have H := HA.out
            clear HA
            simp only [cashbooklaw06_CalendarTells.j1] at H
            by_cases c34 : x13_22 = 0
            · rw [if_pos c34] at H
              have c34b0 : (x13_22 == 0) = true := beq_iff_eq.mpr c34
              have c34b1 : (x13_22 != 0) = false := bne_eq_false_iff_eq.mpr c34
              clear c34
              have HC35 := Aside0.mk H
              clear H
              go_upto_region 13 with (fail)
              go_cut [94] (fun v94 wc => ∃ (kq : Nat) (x94_34 : Bool), v94 = .bool x94_34 ∧ Aside0 (cashbooklaw06_CalendarTells.j2 kq t124 a1 a2 a3 t129 t130 x94_34 = some r) ∧ Aside0 (kq ≤ kj22) ∧ Aside0 (Fw.R k44 44 wc w.heap.size (fun _ => True) (.slice Ao10 t124.length co10) t124) ∧ Aside0 (Below w.heap.size w wc))
              case first =>
                have H := HC35.out
                clear HC35
                by_cases c36 : t128 = 0
                · rw [if_pos c36] at H
                  have c36b0 : (t128 == 0) = true := beq_iff_eq.mpr c36
                  have c36b1 : (t128 != 0) = false := bne_eq_false_iff_eq.mpr c36
                  clear c36
                  (first | rw [c36b0] | (simp only [i64_w, i32_w]; rw [c36b0]) | skip)
                  replace H := Option.bind_eq_some_iff.mp H
                  obtain ⟨t137, A370, H⟩ := H
                  replace H : (cashbooklaw06_CalendarTells.j2 kj22 t124 a1 a2 a3 t129 t130 (t127 != t137)) = some r := H
                  have A37 := Aside0.mk A370
                  clear A370
                  have H' := Aside0.mk H
                  clear H
                  go_wp2_with (first | (go_at_call 21; (with_reducible refine (cashbookref06_Open.calls kj22 _ _ t124 a1 a2 t137 _ ?side1 ?side2 A37.out).mono ?_); (case side1 => repeat (first | exact (Fw.R_reads' HO_0.out).2.2 | (with_reducible refine Kd.C_alloc ?_ _) | (with_reducible refine Kd.C_drewN ?_ _) | (with_reducible refine Kd.C_drew ?_))); (case side2 => exact (Fw.R_reads' HO_0.out).2.1); rintro e w38 ⟨rfl, hb⟩; have n0_ := Aside0.mk (Fw.R_below (by (with_reducible repeat (first | apply Fw.R_alloc | apply Fw.R_drewN | apply Fw.R_drew)); exact HO_0.out) hb); have n1_ := Aside0.mk (below_step (by repeat (first | (with_reducible first | exact HB.out | apply below_alloc | apply pw_below_drewN | apply below_drew1) | exact HB.out)) hb); clear HO_0; clear HB; have HO_0 := n0_; have HB := n1_; clear n0_ n1_; (try clear hb); (try clear hb2); (try clear hk); (try clear hi)))
                  go_meet
                  case rel => exact ⟨_, ((t127 != t137)), (by first | rfl | (simp; done) | (simp [*]; done)), H', ⟨by have := HJ7.out; have := HJ22.out; first | omega | exact Nat.le_refl _⟩, ⟨by (with_reducible repeat (first | apply Fw.R_alloc | apply Fw.R_drewN | apply Fw.R_drew)); exact HO_0.out⟩, ⟨by repeat (first | (with_reducible first | exact HB.out | apply below_alloc | apply pw_below_drewN | apply below_drew1) | exact HB.out)⟩⟩
                · rw [if_neg c36] at H
                  have c36b0 : (t128 == 0) = false := beq_eq_false_iff_ne.mpr c36
                  have c36b1 : (t128 != 0) = true := bne_iff_ne.mpr c36
                  (first | rw [c36b0] | (simp only [i64_w, i32_w]; rw [c36b0]) | skip)
                  have H' := Aside0.mk H
                  clear H
                  go_wp2
                  go_meet
                  case rel => exact ⟨_, (true), (by first | rfl | (simp; done) | (simp [*]; done)), H', ⟨by have := HJ7.out; have := HJ22.out; first | omega | exact Nat.le_refl _⟩, ⟨by (with_reducible repeat (first | apply Fw.R_alloc | apply Fw.R_drewN | apply Fw.R_drew)); exact HO_0.out⟩, ⟨by repeat (first | (with_reducible first | exact HB.out | apply below_alloc | apply pw_below_drewN | apply below_drew1) | exact HB.out)⟩⟩
              case rest =>
                clear HC35
                try clear c1
                try clear c2
                try clear p2
                try clear c3
                try clear c14
                try clear c15
                try clear c15b0
                try clear c15b1
                try clear c15b2
                try clear c16
                try clear c17
                try clear c18
                try clear c20
                try clear c22
                try clear c25
                try clear c27
                try clear c29
                try clear c34
                try clear c34b0
                try clear c34b1
                try clear c36
                try clear c36b0
                try clear c36b1
                try clear p2
                obtain ⟨kq, x94_34, rfl, HA, HJ34, HO_0, HB⟩ := hcut
                cases kq with
                | zero => exact absurd HA.out (by simp [cashbooklaw06_CalendarTells.j2])
                | succ kj34 =>
                  have H := HA.out
                  clear HA
                  simp only [cashbooklaw06_CalendarTells.j2] at H
                  by_cases c39 : x94_34 = true
                  · subst c39
                    have H1 : (some false) = some r := by rw [if_pos rfl] at H; exact H
                    clear H
                    have H := H1
                    clear H1
                    obtain rfl := Option.some.inj H
                    go_wp2
                    go_ret
                    exact ⟨by first | rfl | (simp [errW_none, errW_some] <;> rfl) | (simp [*, errW_none, errW_some] <;> rfl), by repeat (first | (with_reducible first | exact HB.out | apply below_alloc | apply pw_below_drewN | apply below_drew1) | exact HB.out)⟩
                  · replace c39 := Bool.eq_false_iff.mpr c39
                    subst c39
                    have H1 : (if a3 < 0 then (cashbooklaw06_CalendarTells.j3 kj34 t124 a1 a2 a3 t129 t130 true) else (cashbooklaw06_CalendarTells.j3 kj34 t124 a1 a2 a3 t129 t130 (decide (a3 > 2)))) = some r := by rw [if_neg (show ¬ (false = true) by decide)] at H; exact H
                    clear H
                    have H := H1
                    clear H1
                    have HC40 := Aside0.mk H
                    clear H
                    go_upto_region 15 with (fail)
                    go_cut [100] (fun v100 wc => ∃ (kq : Nat) (x100_39 : Bool), v100 = .bool x100_39 ∧ Aside0 (cashbooklaw06_CalendarTells.j3 kq t124 a1 a2 a3 t129 t130 x100_39 = some r) ∧ Aside0 (kq ≤ kj34) ∧ Aside0 (Fw.R k44 44 wc w.heap.size (fun _ => True) (.slice Ao10 t124.length co10) t124) ∧ Aside0 (Below w.heap.size w wc))
                    case first =>
                      have H := HC40.out
                      clear HC40
                      by_cases c41 : a3 < 0
                      · rw [if_pos c41] at H
                        have c41b0 : decide (a3 < 0) = true := decide_eq_true c41
                        clear c41
                        (first | rw [c41b0] | (simp only [i64_w, i32_w]; rw [c41b0]) | skip)
                        have H' := Aside0.mk H
                        clear H
                        go_wp2
                        go_meet
                        case rel => exact ⟨_, (true), (by first | rfl | (simp; done) | (simp [*]; done)), H', ⟨by have := HJ7.out; have := HJ22.out; have := HJ34.out; first | omega | exact Nat.le_refl _⟩, ⟨by (with_reducible repeat (first | apply Fw.R_alloc | apply Fw.R_drewN | apply Fw.R_drew)); exact HO_0.out⟩, ⟨by repeat (first | (with_reducible first | exact HB.out | apply below_alloc | apply pw_below_drewN | apply below_drew1) | exact HB.out)⟩⟩
                      · rw [if_neg c41] at H
                        have c41b0 : decide (a3 < 0) = false := decide_eq_false c41
                        clear c41
                        (first | rw [c41b0] | (simp only [i64_w, i32_w]; rw [c41b0]) | skip)
                        have H' := Aside0.mk H
                        clear H
                        go_wp2
                        go_meet
                        case rel => exact ⟨_, (decide (a3 > 2)), (by first | rfl | (simp; done) | (simp [*]; done)), H', ⟨by have := HJ7.out; have := HJ22.out; have := HJ34.out; first | omega | exact Nat.le_refl _⟩, ⟨by (with_reducible repeat (first | apply Fw.R_alloc | apply Fw.R_drewN | apply Fw.R_drew)); exact HO_0.out⟩, ⟨by repeat (first | (with_reducible first | exact HB.out | apply below_alloc | apply pw_below_drewN | apply below_drew1) | exact HB.out)⟩⟩
                    case rest =>
                      clear HC40
                      try clear c1
                      try clear c2
                      try clear p2
                      try clear c3
                      try clear c4
                      try clear c14
                      try clear c15
                      try clear c15b0
                      try clear c15b1
                      try clear c15b2
                      try clear c16
                      try clear c17
                      try clear c18
                      try clear c20
                      try clear c22
                      try clear c25
                      try clear c27
                      try clear c29
                      try clear c34
                      try clear c34b0
                      try clear c34b1
                      try clear c36
                      try clear c36b0
                      try clear c36b1
                      try clear c39
                      try clear c41
                      try clear c41b0
                      try clear p2
                      obtain ⟨kq, x100_39, rfl, HA, HJ39, HO_0, HB⟩ := hcut
                      cases kq with
                      | zero => exact absurd HA.out (by simp [cashbooklaw06_CalendarTells.j3])
                      | succ kj39 =>
                        have H := HA.out
                        clear HA
                        simp only [cashbooklaw06_CalendarTells.j3] at H
                        by_cases c42 : x100_39 = true
                        · subst c42
                          have H1 : (if t130 = 1 then (some (t129 == 0)) else (some false)) = some r := by rw [if_pos rfl] at H; exact H
                          clear H
                          have H := H1
                          clear H1
                          by_cases c43 : t130 = 1
                          · rw [if_pos c43] at H
                            have c43b0 : (t130 == 1) = true := beq_iff_eq.mpr c43
                            have c43b1 : (t130 != 1) = false := bne_eq_false_iff_eq.mpr c43
                            clear c43
                            obtain rfl := Option.some.inj H
                            go_wp2
                            go_ret
                            exact ⟨by first | rfl | (simp [errW_none, errW_some] <;> rfl) | (simp [*, errW_none, errW_some] <;> rfl), by repeat (first | (with_reducible first | exact HB.out | apply below_alloc | apply pw_below_drewN | apply below_drew1) | exact HB.out)⟩
                          · rw [if_neg c43] at H
                            have c43b0 : (t130 == 1) = false := beq_eq_false_iff_ne.mpr c43
                            have c43b1 : (t130 != 1) = true := bne_iff_ne.mpr c43
                            obtain rfl := Option.some.inj H
                            go_wp2
                            go_ret
                            exact ⟨by first | rfl | (simp [errW_none, errW_some] <;> rfl) | (simp [*, errW_none, errW_some] <;> rfl), by repeat (first | (with_reducible first | exact HB.out | apply below_alloc | apply pw_below_drewN | apply below_drew1) | exact HB.out)⟩
                        · replace c42 := Bool.eq_false_iff.mpr c42
                          subst c42
                          have H1 : ((cashbookref06_Roll.f t124 a1 a2 a3).bind fun bt138 => (if bt138.2 = true then (if t130 = 0 then (some (t129 == bt138.1)) else (some false)) else (if t130 = 11 then (some (t129 == 0)) else (some false)))) = some r := by rw [if_neg (show ¬ (false = true) by decide)] at H; exact H
                          clear H
                          have H := H1
                          clear H1
                          replace H := Option.bind_eq_some_iff.mp H
                          obtain ⟨⟨t138, t139⟩, A440, H⟩ := H
                          replace H : (if t139 = true then (if t130 = 0 then (some (t129 == t138)) else (some false)) else (if t130 = 11 then (some (t129 == 0)) else (some false))) = some r := H
                          have A44 := Aside0.mk A440
                          clear A440
                          by_cases c45 : t139 = true
                          · subst c45
                            have H1 : (if t130 = 0 then (some (t129 == t138)) else (some false)) = some r := by rw [if_pos rfl] at H; exact H
                            clear H
                            have H := H1
                            clear H1
                            by_cases c46 : t130 = 0
                            · rw [if_pos c46] at H
                              have c46b0 : (t130 == 0) = true := beq_iff_eq.mpr c46
                              have c46b1 : (t130 != 0) = false := bne_eq_false_iff_eq.mpr c46
                              clear c46
                              obtain rfl := Option.some.inj H
                              go_wp2_with (first | ((with_reducible refine gate_callee (f := 22) rfl ?_); refine goesL_ (some 112) rfl rfl Tryd.func22 (by kernel_rfl) rfl #[.slice Ao10 t124.length co10, .int .i32 a1, .int .i32 a2, .int .i64 a3] rfl (by (try simp only [List.map_toArray, List.map_cons, List.map_nil]); first | done | rfl | (simp only [List.length_drop, List.length_take]; rfl)) ?_; (with_reducible refine (cashbookref06_Roll.calls _ _ t124 a1 a2 a3 t138 true _ ?side1 ?side2 A44.out).mono ?_); (case side1 => repeat (first | exact (Fw.R_reads' HO_0.out).2.2 | (with_reducible refine Kd.C_alloc ?_ _) | (with_reducible refine Kd.C_drewN ?_ _) | (with_reducible refine Kd.C_drew ?_))); (case side2 => exact (Fw.R_reads' HO_0.out).2.1); rintro e w47 ⟨rfl, hb⟩; refine ⟨_, rfl, ?_⟩; have n0_ := Aside0.mk (Fw.R_below (by (with_reducible repeat (first | apply Fw.R_alloc | apply Fw.R_drewN | apply Fw.R_drew)); exact HO_0.out) hb); have n1_ := Aside0.mk (below_step (by repeat (first | (with_reducible first | exact HB.out | apply below_alloc | apply pw_below_drewN | apply below_drew1) | exact HB.out)) hb); clear HO_0; clear HB; have HO_0 := n0_; have HB := n1_; clear n0_ n1_; (try clear hb); (try clear hb2); (try clear hk); (try clear hi)))
                              go_ret
                              exact ⟨by first | rfl | (simp [errW_none, errW_some] <;> rfl) | (simp [*, errW_none, errW_some] <;> rfl), by repeat (first | (with_reducible first | exact HB.out | apply below_alloc | apply pw_below_drewN | apply below_drew1) | exact HB.out)⟩
                            · rw [if_neg c46] at H
                              have c46b0 : (t130 == 0) = false := beq_eq_false_iff_ne.mpr c46
                              have c46b1 : (t130 != 0) = true := bne_iff_ne.mpr c46
                              obtain rfl := Option.some.inj H
                              go_wp2_with (first | ((with_reducible refine gate_callee (f := 22) rfl ?_); refine goesL_ (some 112) rfl rfl Tryd.func22 (by kernel_rfl) rfl #[.slice Ao10 t124.length co10, .int .i32 a1, .int .i32 a2, .int .i64 a3] rfl (by (try simp only [List.map_toArray, List.map_cons, List.map_nil]); first | done | rfl | (simp only [List.length_drop, List.length_take]; rfl)) ?_; (with_reducible refine (cashbookref06_Roll.calls _ _ t124 a1 a2 a3 t138 true _ ?side1 ?side2 A44.out).mono ?_); (case side1 => repeat (first | exact (Fw.R_reads' HO_0.out).2.2 | (with_reducible refine Kd.C_alloc ?_ _) | (with_reducible refine Kd.C_drewN ?_ _) | (with_reducible refine Kd.C_drew ?_))); (case side2 => exact (Fw.R_reads' HO_0.out).2.1); rintro e w48 ⟨rfl, hb⟩; refine ⟨_, rfl, ?_⟩; have n0_ := Aside0.mk (Fw.R_below (by (with_reducible repeat (first | apply Fw.R_alloc | apply Fw.R_drewN | apply Fw.R_drew)); exact HO_0.out) hb); have n1_ := Aside0.mk (below_step (by repeat (first | (with_reducible first | exact HB.out | apply below_alloc | apply pw_below_drewN | apply below_drew1) | exact HB.out)) hb); clear HO_0; clear HB; have HO_0 := n0_; have HB := n1_; clear n0_ n1_; (try clear hb); (try clear hb2); (try clear hk); (try clear hi)))
                              go_ret
                              exact ⟨by first | rfl | (simp [errW_none, errW_some] <;> rfl) | (simp [*, errW_none, errW_some] <;> rfl), by repeat (first | (with_reducible first | exact HB.out | apply below_alloc | apply pw_below_drewN | apply below_drew1) | exact HB.out)⟩
                          · replace c45 := Bool.eq_false_iff.mpr c45
                            subst c45
                            have H1 : (if t130 = 11 then (some (t129 == 0)) else (some false)) = some r := by rw [if_neg (show ¬ (false = true) by decide)] at H; exact H
                            clear H
                            have H := H1
                            clear H1
                            by_cases c49 : t130 = 11
                            · rw [if_pos c49] at H
                              have c49b0 : (t130 == 11) = true := beq_iff_eq.mpr c49
                              have c49b1 : (t130 != 11) = false := bne_eq_false_iff_eq.mpr c49
                              clear c49
                              obtain rfl := Option.some.inj H
                              go_wp2_with (first | ((with_reducible refine gate_callee (f := 22) rfl ?_); refine goesL_ (some 112) rfl rfl Tryd.func22 (by kernel_rfl) rfl #[.slice Ao10 t124.length co10, .int .i32 a1, .int .i32 a2, .int .i64 a3] rfl (by (try simp only [List.map_toArray, List.map_cons, List.map_nil]); first | done | rfl | (simp only [List.length_drop, List.length_take]; rfl)) ?_; (with_reducible refine (cashbookref06_Roll.calls _ _ t124 a1 a2 a3 t138 false _ ?side1 ?side2 A44.out).mono ?_); (case side1 => repeat (first | exact (Fw.R_reads' HO_0.out).2.2 | (with_reducible refine Kd.C_alloc ?_ _) | (with_reducible refine Kd.C_drewN ?_ _) | (with_reducible refine Kd.C_drew ?_))); (case side2 => exact (Fw.R_reads' HO_0.out).2.1); rintro e w50 ⟨rfl, hb⟩; refine ⟨_, rfl, ?_⟩; have n0_ := Aside0.mk (Fw.R_below (by (with_reducible repeat (first | apply Fw.R_alloc | apply Fw.R_drewN | apply Fw.R_drew)); exact HO_0.out) hb); have n1_ := Aside0.mk (below_step (by repeat (first | (with_reducible first | exact HB.out | apply below_alloc | apply pw_below_drewN | apply below_drew1) | exact HB.out)) hb); clear HO_0; clear HB; have HO_0 := n0_; have HB := n1_; clear n0_ n1_; (try clear hb); (try clear hb2); (try clear hk); (try clear hi)))
                              go_ret
                              exact ⟨by first | rfl | (simp [errW_none, errW_some] <;> rfl) | (simp [*, errW_none, errW_some] <;> rfl), by repeat (first | (with_reducible first | exact HB.out | apply below_alloc | apply pw_below_drewN | apply below_drew1) | exact HB.out)⟩
                            · rw [if_neg c49] at H
                              have c49b0 : (t130 == 11) = false := beq_eq_false_iff_ne.mpr c49
                              have c49b1 : (t130 != 11) = true := bne_iff_ne.mpr c49
                              obtain rfl := Option.some.inj H
                              go_wp2_with (first | ((with_reducible refine gate_callee (f := 22) rfl ?_); refine goesL_ (some 112) rfl rfl Tryd.func22 (by kernel_rfl) rfl #[.slice Ao10 t124.length co10, .int .i32 a1, .int .i32 a2, .int .i64 a3] rfl (by (try simp only [List.map_toArray, List.map_cons, List.map_nil]); first | done | rfl | (simp only [List.length_drop, List.length_take]; rfl)) ?_; (with_reducible refine (cashbookref06_Roll.calls _ _ t124 a1 a2 a3 t138 false _ ?side1 ?side2 A44.out).mono ?_); (case side1 => repeat (first | exact (Fw.R_reads' HO_0.out).2.2 | (with_reducible refine Kd.C_alloc ?_ _) | (with_reducible refine Kd.C_drewN ?_ _) | (with_reducible refine Kd.C_drew ?_))); (case side2 => exact (Fw.R_reads' HO_0.out).2.1); rintro e w51 ⟨rfl, hb⟩; refine ⟨_, rfl, ?_⟩; have n0_ := Aside0.mk (Fw.R_below (by (with_reducible repeat (first | apply Fw.R_alloc | apply Fw.R_drewN | apply Fw.R_drew)); exact HO_0.out) hb); have n1_ := Aside0.mk (below_step (by repeat (first | (with_reducible first | exact HB.out | apply below_alloc | apply pw_below_drewN | apply below_drew1) | exact HB.out)) hb); clear HO_0; clear HB; have HO_0 := n0_; have HB := n1_; clear n0_ n1_; (try clear hb); (try clear hb2); (try clear hk); (try clear hi)))
                              go_ret
                              exact ⟨by first | rfl | (simp [errW_none, errW_some] <;> rfl) | (simp [*, errW_none, errW_some] <;> rfl), by repeat (first | (with_reducible first | exact HB.out | apply below_alloc | apply pw_below_drewN | apply below_drew1) | exact HB.out)⟩
            · rw [if_neg c34] at H
              have c34b0 : (x13_22 == 0) = false := beq_eq_false_iff_ne.mpr c34
              have c34b1 : (x13_22 != 0) = true := bne_iff_ne.mpr c34
              by_cases c52 : t128 = x13_22
              · rw [if_pos c52] at H
                have c52b0 : (t128 == x13_22) = true := beq_iff_eq.mpr c52
                have c52b1 : (t128 != x13_22) = false := bne_eq_false_iff_eq.mpr c52
                clear c52
                by_cases c53 : t127 = true
                · subst c53
                  have H1 : (some false) = some r := by rw [if_pos rfl] at H; exact H
                  clear H
                  have H := H1
                  clear H1
                  obtain rfl := Option.some.inj H
                  go_wp2
                  go_ret
                  exact ⟨by first | rfl | (simp [errW_none, errW_some] <;> rfl) | (simp [*, errW_none, errW_some] <;> rfl), by repeat (first | (with_reducible first | exact HB.out | apply below_alloc | apply pw_below_drewN | apply below_drew1) | exact HB.out)⟩
                · replace c53 := Bool.eq_false_iff.mpr c53
                  subst c53
                  have H1 : (if t130 = x13_22 then (some (t129 == 0)) else (if t130 = 1 then (if a3 < 0 then (some (t129 == 0)) else (if a3 > 2 then (some (t129 == 0)) else (some false))) else (some false))) = some r := by rw [if_neg (show ¬ (false = true) by decide)] at H; exact H
                  clear H
                  have H := H1
                  clear H1
                  by_cases c54 : t130 = x13_22
                  · rw [if_pos c54] at H
                    have c54b0 : (t130 == x13_22) = true := beq_iff_eq.mpr c54
                    have c54b1 : (t130 != x13_22) = false := bne_eq_false_iff_eq.mpr c54
                    clear c54
                    obtain rfl := Option.some.inj H
                    go_wp2
                    go_ret
                    exact ⟨by first | rfl | (simp [errW_none, errW_some] <;> rfl) | (simp [*, errW_none, errW_some] <;> rfl), by repeat (first | (with_reducible first | exact HB.out | apply below_alloc | apply pw_below_drewN | apply below_drew1) | exact HB.out)⟩
                  · rw [if_neg c54] at H
                    have c54b0 : (t130 == x13_22) = false := beq_eq_false_iff_ne.mpr c54
                    have c54b1 : (t130 != x13_22) = true := bne_iff_ne.mpr c54
                    by_cases c55 : t130 = 1
                    · rw [if_pos c55] at H
                      have c55b0 : (t130 == 1) = true := beq_iff_eq.mpr c55
                      have c55b1 : (t130 != 1) = false := bne_eq_false_iff_eq.mpr c55
                      clear c55
                      by_cases c56 : a3 < 0
                      · rw [if_pos c56] at H
                        have c56b0 : decide (a3 < 0) = true := decide_eq_true c56
                        clear c56
                        obtain rfl := Option.some.inj H
                        go_wp2
                        go_ret
                        exact ⟨by first | rfl | (simp [errW_none, errW_some] <;> rfl) | (simp [*, errW_none, errW_some] <;> rfl), by repeat (first | (with_reducible first | exact HB.out | apply below_alloc | apply pw_below_drewN | apply below_drew1) | exact HB.out)⟩
                      · rw [if_neg c56] at H
                        have c56b0 : decide (a3 < 0) = false := decide_eq_false c56
                        clear c56
                        by_cases c57 : a3 > 2
                        · rw [if_pos c57] at H
                          have c57b0 : decide (2 < a3) = true := decide_eq_true c57
                          clear c57
                          obtain rfl := Option.some.inj H
                          go_wp2
                          go_ret
                          exact ⟨by first | rfl | (simp [errW_none, errW_some] <;> rfl) | (simp [*, errW_none, errW_some] <;> rfl), by repeat (first | (with_reducible first | exact HB.out | apply below_alloc | apply pw_below_drewN | apply below_drew1) | exact HB.out)⟩
                        · rw [if_neg c57] at H
                          have c57b0 : decide (2 < a3) = false := decide_eq_false c57
                          clear c57
                          obtain rfl := Option.some.inj H
                          go_wp2
                          go_ret
                          exact ⟨by first | rfl | (simp [errW_none, errW_some] <;> rfl) | (simp [*, errW_none, errW_some] <;> rfl), by repeat (first | (with_reducible first | exact HB.out | apply below_alloc | apply pw_below_drewN | apply below_drew1) | exact HB.out)⟩
                    · rw [if_neg c55] at H
                      have c55b0 : (t130 == 1) = false := beq_eq_false_iff_ne.mpr c55
                      have c55b1 : (t130 != 1) = true := bne_iff_ne.mpr c55
                      obtain rfl := Option.some.inj H
                      go_wp2
                      go_ret
                      exact ⟨by first | rfl | (simp [errW_none, errW_some] <;> rfl) | (simp [*, errW_none, errW_some] <;> rfl), by repeat (first | (with_reducible first | exact HB.out | apply below_alloc | apply pw_below_drewN | apply below_drew1) | exact HB.out)⟩
              · rw [if_neg c52] at H
                have c52b0 : (t128 == x13_22) = false := beq_eq_false_iff_ne.mpr c52
                have c52b1 : (t128 != x13_22) = true := bne_iff_ne.mpr c52
                obtain rfl := Option.some.inj H
                go_wp2
                go_ret
                exact ⟨by first | rfl | (simp [errW_none, errW_some] <;> rfl) | (simp [*, errW_none, errW_some] <;> rfl), by repeat (first | (with_reducible first | exact HB.out | apply below_alloc | apply pw_below_drewN | apply below_drew1) | exact HB.out)⟩

/-! ### cashbooklaw06_may: function 23 -/
def cashbooklaw06_may.f (a0 : Int) : Option (Int) := some (wrap32 (Int.tmod (wrap64 ((Int.tmod (wrap64 (a0)) 40000) + 40000)) 40000))
set_option maxHeartbeats 8000000 in
set_option maxRecDepth 100000 in
theorem cashbooklaw06_may.calls (a0 : Int) (r : Int) (w : World) (h : cashbooklaw06_may.f a0 = some r) :
    Calls Tryd.prog 23 #[.int .i32 a0] w fun e w' => e = .returned (.int .i32 r) ∧ Drawn0 w w' := by
  have H : (some (wrap32 (Int.tmod (wrap64 ((Int.tmod (wrap64 (a0)) 40000) + 40000)) 40000))) = some r := h
  clear h
  obtain rfl := Option.some.inj H
  go_enter Tryd.func23, Tryd.ntmps23
  go_wp2
  go_ret
  exact ⟨by first | rfl | (simp; done) | (simp [*]; done), by repeat (first | exact Drawn0.refl _ | apply Drawn0.step)⟩

/-! ### calendar_between: function 57 -/
def calendar_between.f (a0 : Int) (a1 : Int) : Option (Int) := if (wrap32 (a1 - a0)) > 4000 then (some 9) else (if (wrap32 (a0 - a1)) > 4000 then (some 9) else (some 0))
set_option maxHeartbeats 8000000 in
set_option maxRecDepth 100000 in
theorem calendar_between.calls (a0 : Int) (a1 : Int) (r : Int) (w : World) (h : calendar_between.f a0 a1 = some r) :
    Calls Tryd.prog 57 #[.int .i32 a0, .int .i32 a1] w fun e w' => e = .returned (.int .i64 r) ∧ Drawn0 w w' := by
  have H : (if (wrap32 (a1 - a0)) > 4000 then (some 9) else (if (wrap32 (a0 - a1)) > 4000 then (some 9) else (some 0))) = some r := h
  clear h
  by_cases c3 : (wrap32 (a1 - a0)) > 4000
  · rw [if_pos c3] at H
    have c3b0 : decide (4000 < (wrap32 (a1 - a0))) = true := decide_eq_true c3
    clear c3
    obtain rfl := Option.some.inj H
    go_enter Tryd.func57, Tryd.ntmps57
    go_wp2
    go_ret
    exact ⟨by first | rfl | (simp; done) | (simp [*]; done), by repeat (first | exact Drawn0.refl _ | apply Drawn0.step)⟩
  · rw [if_neg c3] at H
    have c3b0 : decide (4000 < (wrap32 (a1 - a0))) = false := decide_eq_false c3
    clear c3
    by_cases c4 : (wrap32 (a0 - a1)) > 4000
    · rw [if_pos c4] at H
      have c4b0 : decide (4000 < (wrap32 (a0 - a1))) = true := decide_eq_true c4
      clear c4
      obtain rfl := Option.some.inj H
      go_enter Tryd.func57, Tryd.ntmps57
      go_wp2
      go_ret
      exact ⟨by first | rfl | (simp; done) | (simp [*]; done), by repeat (first | exact Drawn0.refl _ | apply Drawn0.step)⟩
    · rw [if_neg c4] at H
      have c4b0 : decide (4000 < (wrap32 (a0 - a1))) = false := decide_eq_false c4
      clear c4
      obtain rfl := Option.some.inj H
      go_enter Tryd.func57, Tryd.ntmps57
      go_wp2
      go_ret
      exact ⟨by first | rfl | (simp; done) | (simp [*]; done), by repeat (first | exact Drawn0.refl _ | apply Drawn0.step)⟩

end Go.Proofs.YtamfbfhkojnafaaDoor.PC6
