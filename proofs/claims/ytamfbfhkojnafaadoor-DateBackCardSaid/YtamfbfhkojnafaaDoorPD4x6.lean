-- PRINTED by print.py (a twelfth state) out of the translation. Not trusted: Lean checks it.
import Derived.Test.YtamfbfhkojnafaaDoorPD4x0
import Derived.Test.YtamfbfhkojnafaaDoorPD4x1
import Derived.Test.YtamfbfhkojnafaaDoorPD4x4
import Derived.Test.YtamfbfhkojnafaaDoorDateC
import Derived.Test.YtamfbfhkojnafaaDoorDateD
namespace Go.Proofs.YtamfbfhkojnafaaDoor.PD4
open Go.RowKit Go.Proofs.YtamfbfhkojnafaaDoorW.PrintWords Go.Proofs.YtamfbfhkojnafaaDoorW.PrintLast Go.Proofs.YtamfbfhkojnafaaDoorW.PrintMore
attribute [local go_sem] max2_int min2_int max_two min_two max_three min_three max_four min_four   -- for this text's walks alone
set_option linter.unusedVariables false
set_option linter.unusedSimpArgs false

/-! ### cashbooklaw04_DateBack: function 13 -/
def cashbooklaw04_DateBack.j0 : Nat → Int → Int → Int → Int → Int → Bool → Option (Bool)
  | 0, _, _, _, _, _, _ => none
  | k + 1, x0, x3, x4, x5, x13, x99 => if x99 = true then (some false) else (if x0 = 50000 then (some true) else ((date_Split.f (wrap32 (x0 + 1))).bind fun bt212 => ((date_Weekday.f (wrap32 (x0 + 1))).bind fun bt216 => (if bt212.2.2.2 = 0 then (if bt216.2 = 0 then (if bt216.1 = (Int.tmod (wrap64 (x13 + 1)) 7) then (if bt212.1 = x3 then (if bt212.2.1 = x4 then (if bt212.2.2.1 = (wrap64 (x5 + 1)) then (some true) else (if bt212.2.2.1 = 1 then (if x5 ≥ 28 then (if bt212.2.1 = (wrap64 (x4 + 1)) then (some true) else (if bt212.1 = (wrap64 (x3 + 1)) then (if bt212.2.1 = 1 then (some (x4 == 12)) else (some false)) else (some false))) else (some false)) else (some false))) else (if bt212.2.2.1 = 1 then (if x5 ≥ 28 then (if bt212.2.1 = (wrap64 (x4 + 1)) then (some true) else (if bt212.1 = (wrap64 (x3 + 1)) then (if bt212.2.1 = 1 then (some (x4 == 12)) else (some false)) else (some false))) else (some false)) else (some false))) else (if bt212.2.2.1 = 1 then (if x5 ≥ 28 then (if bt212.1 = (wrap64 (x3 + 1)) then (if bt212.2.1 = 1 then (some (x4 == 12)) else (some false)) else (some false)) else (some false)) else (some false))) else (some false)) else (some false)) else (some false)))))
def cashbooklaw04_DateBack.f (k : Nat) (a0 : Int) : Option (Bool) := (cashbooklaw04_may.f a0).bind fun t198 => ((date_Split.f t198).bind fun bt199 => ((date_Join.f k bt199.1 bt199.2.1 bt199.2.2.1).bind fun bt203 => ((date_Print.f t198).bind fun bt205 => ((date_Parse.f bt205.1).bind fun bt207 => ((date_Weekday.f t198).bind fun bt209 => (if bt199.2.2.2 = 0 then (if bt203.2 = 0 then (if bt205.2 = 0 then (if bt207.2 = 0 then (if bt209.2 = 0 then (if bt203.1 = t198 then (if bt207.1 = t198 then (if bt199.2.1 < 1 then (cashbooklaw04_DateBack.j0 k t198 bt199.1 bt199.2.1 bt199.2.2.1 bt209.1 true) else (if bt199.2.1 > 12 then (cashbooklaw04_DateBack.j0 k t198 bt199.1 bt199.2.1 bt199.2.2.1 bt209.1 true) else (if bt199.2.2.1 < 1 then (cashbooklaw04_DateBack.j0 k t198 bt199.1 bt199.2.1 bt199.2.2.1 bt209.1 true) else (if bt199.2.2.1 > 31 then (cashbooklaw04_DateBack.j0 k t198 bt199.1 bt199.2.1 bt199.2.2.1 bt209.1 true) else ((cashbooklaw04_alive.f k).bind fun t211 => (cashbooklaw04_DateBack.j0 k t198 bt199.1 bt199.2.1 bt199.2.2.1 bt209.1 (!t211))))))) else (cashbooklaw04_DateBack.j0 k t198 bt199.1 bt199.2.1 bt199.2.2.1 bt209.1 true)) else (cashbooklaw04_DateBack.j0 k t198 bt199.1 bt199.2.1 bt199.2.2.1 bt209.1 true)) else (cashbooklaw04_DateBack.j0 k t198 bt199.1 bt199.2.1 bt199.2.2.1 bt209.1 true)) else (cashbooklaw04_DateBack.j0 k t198 bt199.1 bt199.2.1 bt199.2.2.1 bt209.1 true)) else (cashbooklaw04_DateBack.j0 k t198 bt199.1 bt199.2.1 bt199.2.2.1 bt209.1 true)) else (cashbooklaw04_DateBack.j0 k t198 bt199.1 bt199.2.1 bt199.2.2.1 bt209.1 true)) else (cashbooklaw04_DateBack.j0 k t198 bt199.1 bt199.2.1 bt199.2.2.1 bt209.1 true)))))))
theorem cashbooklaw04_DateBack.mono_l : ∀ k, (∀ y0 y1 y2 y3 y4 y5, LeO (cashbooklaw04_DateBack.j0 k y0 y1 y2 y3 y4 y5) (cashbooklaw04_DateBack.j0 (k + 1) y0 y1 y2 y3 y4 y5))
  | 0 => fun _ _ _ _ _ _ r h => by simp [cashbooklaw04_DateBack.j0] at h
  | k + 1 => by
    have ih0 := cashbooklaw04_DateBack.mono_l k
    · intro y0 y1 y2 y3 y4 y5
      unfold cashbooklaw04_DateBack.j0
      repeat' first
      | (with_reducible exact ih0 _ _ _ _ _ _)
      | (with_reducible exact cashbooklaw04_alive.mono _)
      | (with_reducible exact date_Join.mono _ _ _ _)
      | (with_reducible exact LeO.refl _)
      | (with_reducible exact LeO.none _)
      | (with_reducible refine LeO.ite ?_ ?_)
      | (with_reducible refine LeO.bind ?_ (fun _ => ?_))
      | exact ih0 _ _ _ _ _ _
      | exact cashbooklaw04_alive.mono _
      | exact date_Join.mono _ _ _ _
      | exact LeO.none _
      | refine LeO.ite ?_ ?_
      | refine LeO.bind ?_ (fun _ => ?_)
theorem cashbooklaw04_DateBack.mono : ∀ a0 k, LeO (cashbooklaw04_DateBack.f k a0) (cashbooklaw04_DateBack.f (k + 1) a0) := by
  intro a0 k
  have ih0 := cashbooklaw04_DateBack.mono_l k
  unfold cashbooklaw04_DateBack.f
  repeat' first
      | (with_reducible exact ih0 _ _ _ _ _ _)
      | (with_reducible exact cashbooklaw04_alive.mono _)
      | (with_reducible exact date_Join.mono _ _ _ _)
      | (with_reducible exact LeO.refl _)
      | (with_reducible exact LeO.none _)
      | (with_reducible refine LeO.ite ?_ ?_)
      | (with_reducible refine LeO.bind ?_ (fun _ => ?_))
      | exact ih0 _ _ _ _ _ _
      | exact cashbooklaw04_alive.mono _
      | exact date_Join.mono _ _ _ _
      | exact LeO.none _
      | refine LeO.ite ?_ ?_
      | refine LeO.bind ?_ (fun _ => ?_)
set_option maxHeartbeats 8000000 in
set_option maxRecDepth 100000 in
theorem cashbooklaw04_DateBack.calls (k : Nat) (a0 : Int) (r : Bool) (w : World) (hT : TabsAt w) (h : cashbooklaw04_DateBack.f k a0 = some r) :
    Calls Tryd.prog 13 #[.int .i32 a0] w fun e w' => e = .returned (.bool r) ∧ Below w.heap.size w w' := by
  have HT := Aside0.mk hT
  clear hT
  have HB := Aside0.mk (Below.refl w.heap.size w)
  have H : ((cashbooklaw04_may.f a0).bind fun t198 => ((date_Split.f t198).bind fun bt199 => ((date_Join.f k bt199.1 bt199.2.1 bt199.2.2.1).bind fun bt203 => ((date_Print.f t198).bind fun bt205 => ((date_Parse.f bt205.1).bind fun bt207 => ((date_Weekday.f t198).bind fun bt209 => (if bt199.2.2.2 = 0 then (if bt203.2 = 0 then (if bt205.2 = 0 then (if bt207.2 = 0 then (if bt209.2 = 0 then (if bt203.1 = t198 then (if bt207.1 = t198 then (if bt199.2.1 < 1 then (cashbooklaw04_DateBack.j0 k t198 bt199.1 bt199.2.1 bt199.2.2.1 bt209.1 true) else (if bt199.2.1 > 12 then (cashbooklaw04_DateBack.j0 k t198 bt199.1 bt199.2.1 bt199.2.2.1 bt209.1 true) else (if bt199.2.2.1 < 1 then (cashbooklaw04_DateBack.j0 k t198 bt199.1 bt199.2.1 bt199.2.2.1 bt209.1 true) else (if bt199.2.2.1 > 31 then (cashbooklaw04_DateBack.j0 k t198 bt199.1 bt199.2.1 bt199.2.2.1 bt209.1 true) else ((cashbooklaw04_alive.f k).bind fun t211 => (cashbooklaw04_DateBack.j0 k t198 bt199.1 bt199.2.1 bt199.2.2.1 bt209.1 (!t211))))))) else (cashbooklaw04_DateBack.j0 k t198 bt199.1 bt199.2.1 bt199.2.2.1 bt209.1 true)) else (cashbooklaw04_DateBack.j0 k t198 bt199.1 bt199.2.1 bt199.2.2.1 bt209.1 true)) else (cashbooklaw04_DateBack.j0 k t198 bt199.1 bt199.2.1 bt199.2.2.1 bt209.1 true)) else (cashbooklaw04_DateBack.j0 k t198 bt199.1 bt199.2.1 bt199.2.2.1 bt209.1 true)) else (cashbooklaw04_DateBack.j0 k t198 bt199.1 bt199.2.1 bt199.2.2.1 bt209.1 true)) else (cashbooklaw04_DateBack.j0 k t198 bt199.1 bt199.2.1 bt199.2.2.1 bt209.1 true)) else (cashbooklaw04_DateBack.j0 k t198 bt199.1 bt199.2.1 bt199.2.2.1 bt209.1 true)))))))) = some r := h
  clear h
  replace H := Option.bind_eq_some_iff.mp H
  obtain ⟨t198, A20, H⟩ := H
  replace H : ((date_Split.f t198).bind fun bt199 => ((date_Join.f k bt199.1 bt199.2.1 bt199.2.2.1).bind fun bt203 => ((date_Print.f t198).bind fun bt205 => ((date_Parse.f bt205.1).bind fun bt207 => ((date_Weekday.f t198).bind fun bt209 => (if bt199.2.2.2 = 0 then (if bt203.2 = 0 then (if bt205.2 = 0 then (if bt207.2 = 0 then (if bt209.2 = 0 then (if bt203.1 = t198 then (if bt207.1 = t198 then (if bt199.2.1 < 1 then (cashbooklaw04_DateBack.j0 k t198 bt199.1 bt199.2.1 bt199.2.2.1 bt209.1 true) else (if bt199.2.1 > 12 then (cashbooklaw04_DateBack.j0 k t198 bt199.1 bt199.2.1 bt199.2.2.1 bt209.1 true) else (if bt199.2.2.1 < 1 then (cashbooklaw04_DateBack.j0 k t198 bt199.1 bt199.2.1 bt199.2.2.1 bt209.1 true) else (if bt199.2.2.1 > 31 then (cashbooklaw04_DateBack.j0 k t198 bt199.1 bt199.2.1 bt199.2.2.1 bt209.1 true) else ((cashbooklaw04_alive.f k).bind fun t211 => (cashbooklaw04_DateBack.j0 k t198 bt199.1 bt199.2.1 bt199.2.2.1 bt209.1 (!t211))))))) else (cashbooklaw04_DateBack.j0 k t198 bt199.1 bt199.2.1 bt199.2.2.1 bt209.1 true)) else (cashbooklaw04_DateBack.j0 k t198 bt199.1 bt199.2.1 bt199.2.2.1 bt209.1 true)) else (cashbooklaw04_DateBack.j0 k t198 bt199.1 bt199.2.1 bt199.2.2.1 bt209.1 true)) else (cashbooklaw04_DateBack.j0 k t198 bt199.1 bt199.2.1 bt199.2.2.1 bt209.1 true)) else (cashbooklaw04_DateBack.j0 k t198 bt199.1 bt199.2.1 bt199.2.2.1 bt209.1 true)) else (cashbooklaw04_DateBack.j0 k t198 bt199.1 bt199.2.1 bt199.2.2.1 bt209.1 true)) else (cashbooklaw04_DateBack.j0 k t198 bt199.1 bt199.2.1 bt199.2.2.1 bt209.1 true))))))) = some r := H
  have A2 := Aside0.mk A20
  clear A20
  replace H := Option.bind_eq_some_iff.mp H
  obtain ⟨⟨t199, t200, t201, t202⟩, A30, H⟩ := H
  replace H : ((date_Join.f k t199 t200 t201).bind fun bt203 => ((date_Print.f t198).bind fun bt205 => ((date_Parse.f bt205.1).bind fun bt207 => ((date_Weekday.f t198).bind fun bt209 => (if t202 = 0 then (if bt203.2 = 0 then (if bt205.2 = 0 then (if bt207.2 = 0 then (if bt209.2 = 0 then (if bt203.1 = t198 then (if bt207.1 = t198 then (if t200 < 1 then (cashbooklaw04_DateBack.j0 k t198 t199 t200 t201 bt209.1 true) else (if t200 > 12 then (cashbooklaw04_DateBack.j0 k t198 t199 t200 t201 bt209.1 true) else (if t201 < 1 then (cashbooklaw04_DateBack.j0 k t198 t199 t200 t201 bt209.1 true) else (if t201 > 31 then (cashbooklaw04_DateBack.j0 k t198 t199 t200 t201 bt209.1 true) else ((cashbooklaw04_alive.f k).bind fun t211 => (cashbooklaw04_DateBack.j0 k t198 t199 t200 t201 bt209.1 (!t211))))))) else (cashbooklaw04_DateBack.j0 k t198 t199 t200 t201 bt209.1 true)) else (cashbooklaw04_DateBack.j0 k t198 t199 t200 t201 bt209.1 true)) else (cashbooklaw04_DateBack.j0 k t198 t199 t200 t201 bt209.1 true)) else (cashbooklaw04_DateBack.j0 k t198 t199 t200 t201 bt209.1 true)) else (cashbooklaw04_DateBack.j0 k t198 t199 t200 t201 bt209.1 true)) else (cashbooklaw04_DateBack.j0 k t198 t199 t200 t201 bt209.1 true)) else (cashbooklaw04_DateBack.j0 k t198 t199 t200 t201 bt209.1 true)))))) = some r := H
  have A3 := Aside0.mk A30
  clear A30
  replace H := Option.bind_eq_some_iff.mp H
  obtain ⟨⟨t203, t204⟩, A40, H⟩ := H
  replace H : ((date_Print.f t198).bind fun bt205 => ((date_Parse.f bt205.1).bind fun bt207 => ((date_Weekday.f t198).bind fun bt209 => (if t202 = 0 then (if t204 = 0 then (if bt205.2 = 0 then (if bt207.2 = 0 then (if bt209.2 = 0 then (if t203 = t198 then (if bt207.1 = t198 then (if t200 < 1 then (cashbooklaw04_DateBack.j0 k t198 t199 t200 t201 bt209.1 true) else (if t200 > 12 then (cashbooklaw04_DateBack.j0 k t198 t199 t200 t201 bt209.1 true) else (if t201 < 1 then (cashbooklaw04_DateBack.j0 k t198 t199 t200 t201 bt209.1 true) else (if t201 > 31 then (cashbooklaw04_DateBack.j0 k t198 t199 t200 t201 bt209.1 true) else ((cashbooklaw04_alive.f k).bind fun t211 => (cashbooklaw04_DateBack.j0 k t198 t199 t200 t201 bt209.1 (!t211))))))) else (cashbooklaw04_DateBack.j0 k t198 t199 t200 t201 bt209.1 true)) else (cashbooklaw04_DateBack.j0 k t198 t199 t200 t201 bt209.1 true)) else (cashbooklaw04_DateBack.j0 k t198 t199 t200 t201 bt209.1 true)) else (cashbooklaw04_DateBack.j0 k t198 t199 t200 t201 bt209.1 true)) else (cashbooklaw04_DateBack.j0 k t198 t199 t200 t201 bt209.1 true)) else (cashbooklaw04_DateBack.j0 k t198 t199 t200 t201 bt209.1 true)) else (cashbooklaw04_DateBack.j0 k t198 t199 t200 t201 bt209.1 true))))) = some r := H
  have A4 := Aside0.mk A40
  clear A40
  replace H := Option.bind_eq_some_iff.mp H
  obtain ⟨⟨t205, t206⟩, A50, H⟩ := H
  replace H : ((date_Parse.f t205).bind fun bt207 => ((date_Weekday.f t198).bind fun bt209 => (if t202 = 0 then (if t204 = 0 then (if t206 = 0 then (if bt207.2 = 0 then (if bt209.2 = 0 then (if t203 = t198 then (if bt207.1 = t198 then (if t200 < 1 then (cashbooklaw04_DateBack.j0 k t198 t199 t200 t201 bt209.1 true) else (if t200 > 12 then (cashbooklaw04_DateBack.j0 k t198 t199 t200 t201 bt209.1 true) else (if t201 < 1 then (cashbooklaw04_DateBack.j0 k t198 t199 t200 t201 bt209.1 true) else (if t201 > 31 then (cashbooklaw04_DateBack.j0 k t198 t199 t200 t201 bt209.1 true) else ((cashbooklaw04_alive.f k).bind fun t211 => (cashbooklaw04_DateBack.j0 k t198 t199 t200 t201 bt209.1 (!t211))))))) else (cashbooklaw04_DateBack.j0 k t198 t199 t200 t201 bt209.1 true)) else (cashbooklaw04_DateBack.j0 k t198 t199 t200 t201 bt209.1 true)) else (cashbooklaw04_DateBack.j0 k t198 t199 t200 t201 bt209.1 true)) else (cashbooklaw04_DateBack.j0 k t198 t199 t200 t201 bt209.1 true)) else (cashbooklaw04_DateBack.j0 k t198 t199 t200 t201 bt209.1 true)) else (cashbooklaw04_DateBack.j0 k t198 t199 t200 t201 bt209.1 true)) else (cashbooklaw04_DateBack.j0 k t198 t199 t200 t201 bt209.1 true)))) = some r := H
  have A5 := Aside0.mk A50
  clear A50
  replace H := Option.bind_eq_some_iff.mp H
  obtain ⟨⟨t207, t208⟩, A60, H⟩ := H
  replace H : ((date_Weekday.f t198).bind fun bt209 => (if t202 = 0 then (if t204 = 0 then (if t206 = 0 then (if t208 = 0 then (if bt209.2 = 0 then (if t203 = t198 then (if t207 = t198 then (if t200 < 1 then (cashbooklaw04_DateBack.j0 k t198 t199 t200 t201 bt209.1 true) else (if t200 > 12 then (cashbooklaw04_DateBack.j0 k t198 t199 t200 t201 bt209.1 true) else (if t201 < 1 then (cashbooklaw04_DateBack.j0 k t198 t199 t200 t201 bt209.1 true) else (if t201 > 31 then (cashbooklaw04_DateBack.j0 k t198 t199 t200 t201 bt209.1 true) else ((cashbooklaw04_alive.f k).bind fun t211 => (cashbooklaw04_DateBack.j0 k t198 t199 t200 t201 bt209.1 (!t211))))))) else (cashbooklaw04_DateBack.j0 k t198 t199 t200 t201 bt209.1 true)) else (cashbooklaw04_DateBack.j0 k t198 t199 t200 t201 bt209.1 true)) else (cashbooklaw04_DateBack.j0 k t198 t199 t200 t201 bt209.1 true)) else (cashbooklaw04_DateBack.j0 k t198 t199 t200 t201 bt209.1 true)) else (cashbooklaw04_DateBack.j0 k t198 t199 t200 t201 bt209.1 true)) else (cashbooklaw04_DateBack.j0 k t198 t199 t200 t201 bt209.1 true)) else (cashbooklaw04_DateBack.j0 k t198 t199 t200 t201 bt209.1 true))) = some r := H
  have A6 := Aside0.mk A60
  clear A60
  replace H := Option.bind_eq_some_iff.mp H
  obtain ⟨⟨t209, t210⟩, A70, H⟩ := H
  replace H : (if t202 = 0 then (if t204 = 0 then (if t206 = 0 then (if t208 = 0 then (if t210 = 0 then (if t203 = t198 then (if t207 = t198 then (if t200 < 1 then (cashbooklaw04_DateBack.j0 k t198 t199 t200 t201 t209 true) else (if t200 > 12 then (cashbooklaw04_DateBack.j0 k t198 t199 t200 t201 t209 true) else (if t201 < 1 then (cashbooklaw04_DateBack.j0 k t198 t199 t200 t201 t209 true) else (if t201 > 31 then (cashbooklaw04_DateBack.j0 k t198 t199 t200 t201 t209 true) else ((cashbooklaw04_alive.f k).bind fun t211 => (cashbooklaw04_DateBack.j0 k t198 t199 t200 t201 t209 (!t211))))))) else (cashbooklaw04_DateBack.j0 k t198 t199 t200 t201 t209 true)) else (cashbooklaw04_DateBack.j0 k t198 t199 t200 t201 t209 true)) else (cashbooklaw04_DateBack.j0 k t198 t199 t200 t201 t209 true)) else (cashbooklaw04_DateBack.j0 k t198 t199 t200 t201 t209 true)) else (cashbooklaw04_DateBack.j0 k t198 t199 t200 t201 t209 true)) else (cashbooklaw04_DateBack.j0 k t198 t199 t200 t201 t209 true)) else (cashbooklaw04_DateBack.j0 k t198 t199 t200 t201 t209 true)) = some r := H
  have A7 := Aside0.mk A70
  clear A70
  have HC8 := Aside0.mk H
  clear H
  go_enter Tryd.func13, Tryd.ntmps13
  go_upto_region 7 with (first | ((with_reducible refine gate_callee (f := 36) rfl ?_); refine goesL_ (some 22) rfl rfl Tryd.func36 (by kernel_rfl) rfl #[.int .i32 a0] rfl (by (try simp only [List.map_toArray, List.map_cons, List.map_nil]); first | done | rfl | (simp only [List.length_drop, List.length_take]; rfl)) ?_; (with_reducible refine (cashbooklaw04_may.calls a0 t198 _ A2.out).mono ?_); rintro e w' ⟨rfl, ⟨nd, rfl⟩⟩; refine ⟨_, rfl, ?_⟩) | ((with_reducible refine gate_callee (f := 25) rfl ?_); refine goesL_ (some 25) rfl rfl Tryd.func25 (by kernel_rfl) rfl #[.int .i32 t198] rfl (by (try simp only [List.map_toArray, List.map_cons, List.map_nil]); first | done | rfl | (simp only [List.length_drop, List.length_take]; rfl)) ?_; (with_reducible refine (date_Split.calls t198 t199 t200 t201 t202 _ (TabsAt.below HT.out (by repeat (first | (with_reducible first | exact HB.out | apply below_alloc | apply pw_below_drewN | apply below_drew1 | exact Below.refl _ _) | exact HB.out | exact (Drawn0.below HD.out) | exact Below.refl _ _))) A3.out).mono ?_); rintro e w' ⟨rfl, ⟨nd, rfl⟩⟩; refine ⟨_, rfl, ?_⟩) | ((with_reducible refine gate_callee (f := 37) rfl ?_); refine goesL_ (some 34) rfl rfl Tryd.func37 (by kernel_rfl) rfl #[.int .i64 t199, .int .i64 t200, .int .i64 t201] rfl (by (try simp only [List.map_toArray, List.map_cons, List.map_nil]); first | done | rfl | (simp only [List.length_drop, List.length_take]; rfl)) ?_; (with_reducible refine (date_Join.calls k t199 t200 t201 t203 t204 _ (TabsAt.below HT.out (by repeat (first | (with_reducible first | exact HB.out | apply below_alloc | apply pw_below_drewN | apply below_drew1 | exact Below.refl _ _) | exact HB.out | exact (Drawn0.below HD.out) | exact Below.refl _ _))) A4.out).mono ?_); rintro e w' ⟨rfl, ⟨nd, rfl⟩⟩; refine ⟨_, rfl, ?_⟩) | ((with_reducible refine gate_callee (f := 42) rfl ?_); refine goesL_ (some 39) rfl rfl Tryd.func42 (by kernel_rfl) rfl #[.int .i32 t198] rfl (by (try simp only [List.map_toArray, List.map_cons, List.map_nil]); first | done | rfl | (simp only [List.length_drop, List.length_take]; rfl)) ?_; (with_reducible refine (date_Print.calls t198 t205 t206 _ (TabsAt.below HT.out (by repeat (first | (with_reducible first | exact HB.out | apply below_alloc | apply pw_below_drewN | apply below_drew1 | exact Below.refl _ _) | exact HB.out | exact (Drawn0.below HD.out) | exact Below.refl _ _))) A5.out).mono ?_); rintro e w9 ⟨rfl, hb⟩; refine ⟨_, rfl, ?_⟩; have n0_ := Aside0.mk (below_step (by repeat (first | (with_reducible first | exact HB.out | apply below_alloc | apply pw_below_drewN | apply below_drew1) | exact HB.out)) hb); clear HB; have HB := n0_; clear n0_; (try clear hb); (try clear hb2); (try clear hk); (try clear hi)) | ((with_reducible refine gate_callee (f := 49) rfl ?_); refine goesL_ (some 44) rfl rfl Tryd.func49 (by kernel_rfl) rfl #[.string t205] rfl (by (try simp only [List.map_toArray, List.map_cons, List.map_nil]); first | done | rfl | (simp only [List.length_drop, List.length_take]; rfl)) ?_; (with_reducible refine (date_Parse.calls t205 t207 t208 _ (TabsAt.below HT.out (by repeat (first | (with_reducible first | exact HB.out | apply below_alloc | apply pw_below_drewN | apply below_drew1 | exact Below.refl _ _) | exact HB.out | exact (Drawn0.below HD.out) | exact Below.refl _ _))) A6.out).mono ?_); rintro e w10 ⟨rfl, hb⟩; refine ⟨_, rfl, ?_⟩; have n0_ := Aside0.mk (below_step (by repeat (first | (with_reducible first | exact HB.out | apply below_alloc | apply pw_below_drewN | apply below_drew1) | exact HB.out)) hb); clear HB; have HB := n0_; clear n0_; (try clear hb); (try clear hb2); (try clear hk); (try clear hi)) | ((with_reducible refine gate_callee (f := 40) rfl ?_); refine goesL_ (some 49) rfl rfl Tryd.func40 (by kernel_rfl) rfl #[.int .i32 t198] rfl (by (try simp only [List.map_toArray, List.map_cons, List.map_nil]); first | done | rfl | (simp only [List.length_drop, List.length_take]; rfl)) ?_; (with_reducible refine (date_Weekday.calls t198 t209 t210 _ A7.out).mono ?_); rintro e w' ⟨rfl, ⟨nd, rfl⟩⟩; refine ⟨_, rfl, ?_⟩))
  (try simp only [Act.put, List.setIfInBounds_toArray, List.set_cons_zero, List.set_cons_succ])
  go_cut [99] (fun v99 wc => ∃ (kq : Nat) (x99_7 : Bool), v99 = .bool x99_7 ∧ Aside0 (cashbooklaw04_DateBack.j0 kq t198 t199 t200 t201 t209 x99_7 = some r) ∧ Aside0 (kq ≤ k) ∧ Aside0 (Below w.heap.size w wc))
  case first =>
    have H := HC8.out
    clear HC8
    by_cases c11 : t202 = 0
    · rw [if_pos c11] at H
      have c11b0 : (t202 == 0) = true := beq_iff_eq.mpr c11
      have c11b1 : (t202 != 0) = false := bne_eq_false_iff_eq.mpr c11
      clear c11
      (first | rw [c11b0] | (simp only [i64_w, i32_w]; rw [c11b0]) | skip)
      by_cases c12 : t204 = 0
      · rw [if_pos c12] at H
        have c12b0 : (t204 == 0) = true := beq_iff_eq.mpr c12
        have c12b1 : (t204 != 0) = false := bne_eq_false_iff_eq.mpr c12
        clear c12
        by_cases c13 : t206 = 0
        · rw [if_pos c13] at H
          have c13b0 : (t206 == 0) = true := beq_iff_eq.mpr c13
          have c13b1 : (t206 != 0) = false := bne_eq_false_iff_eq.mpr c13
          clear c13
          by_cases c14 : t208 = 0
          · rw [if_pos c14] at H
            have c14b0 : (t208 == 0) = true := beq_iff_eq.mpr c14
            have c14b1 : (t208 != 0) = false := bne_eq_false_iff_eq.mpr c14
            clear c14
            by_cases c15 : t210 = 0
            · rw [if_pos c15] at H
              have c15b0 : (t210 == 0) = true := beq_iff_eq.mpr c15
              have c15b1 : (t210 != 0) = false := bne_eq_false_iff_eq.mpr c15
              clear c15
              by_cases c16 : t203 = t198
              · rw [if_pos c16] at H
                have c16b0 : (t203 == t198) = true := beq_iff_eq.mpr c16
                have c16b1 : (t203 != t198) = false := bne_eq_false_iff_eq.mpr c16
                clear c16
                by_cases c17 : t207 = t198
                · rw [if_pos c17] at H
                  have c17b0 : (t207 == t198) = true := beq_iff_eq.mpr c17
                  have c17b1 : (t207 != t198) = false := bne_eq_false_iff_eq.mpr c17
                  clear c17
                  by_cases c18 : t200 < 1
                  · rw [if_pos c18] at H
                    have c18b0 : decide (t200 < 1) = true := decide_eq_true c18
                    clear c18
                    have H' := Aside0.mk H
                    clear H
                    go_wp2
                    go_meet
                    case rel => exact ⟨_, (true), (by first | rfl | (simp; done) | (simp [*]; done)), H', ⟨by first | omega | exact Nat.le_refl _⟩, ⟨by repeat (first | (with_reducible first | exact HB.out | apply below_alloc | apply pw_below_drewN | apply below_drew1) | exact HB.out)⟩⟩
                  · rw [if_neg c18] at H
                    have c18b0 : decide (t200 < 1) = false := decide_eq_false c18
                    clear c18
                    by_cases c19 : t200 > 12
                    · rw [if_pos c19] at H
                      have c19b0 : decide (12 < t200) = true := decide_eq_true c19
                      clear c19
                      have H' := Aside0.mk H
                      clear H
                      go_wp2
                      go_meet
                      case rel => exact ⟨_, (true), (by first | rfl | (simp; done) | (simp [*]; done)), H', ⟨by first | omega | exact Nat.le_refl _⟩, ⟨by repeat (first | (with_reducible first | exact HB.out | apply below_alloc | apply pw_below_drewN | apply below_drew1) | exact HB.out)⟩⟩
                    · rw [if_neg c19] at H
                      have c19b0 : decide (12 < t200) = false := decide_eq_false c19
                      clear c19
                      by_cases c20 : t201 < 1
                      · rw [if_pos c20] at H
                        have c20b0 : decide (t201 < 1) = true := decide_eq_true c20
                        clear c20
                        have H' := Aside0.mk H
                        clear H
                        go_wp2
                        go_meet
                        case rel => exact ⟨_, (true), (by first | rfl | (simp; done) | (simp [*]; done)), H', ⟨by first | omega | exact Nat.le_refl _⟩, ⟨by repeat (first | (with_reducible first | exact HB.out | apply below_alloc | apply pw_below_drewN | apply below_drew1) | exact HB.out)⟩⟩
                      · rw [if_neg c20] at H
                        have c20b0 : decide (t201 < 1) = false := decide_eq_false c20
                        clear c20
                        by_cases c21 : t201 > 31
                        · rw [if_pos c21] at H
                          have c21b0 : decide (31 < t201) = true := decide_eq_true c21
                          clear c21
                          have H' := Aside0.mk H
                          clear H
                          go_wp2
                          go_meet
                          case rel => exact ⟨_, (true), (by first | rfl | (simp; done) | (simp [*]; done)), H', ⟨by first | omega | exact Nat.le_refl _⟩, ⟨by repeat (first | (with_reducible first | exact HB.out | apply below_alloc | apply pw_below_drewN | apply below_drew1) | exact HB.out)⟩⟩
                        · rw [if_neg c21] at H
                          have c21b0 : decide (31 < t201) = false := decide_eq_false c21
                          clear c21
                          replace H := Option.bind_eq_some_iff.mp H
                          obtain ⟨t211, A220, H⟩ := H
                          replace H : (cashbooklaw04_DateBack.j0 k t198 t199 t200 t201 t209 (!t211)) = some r := H
                          have A22 := Aside0.mk A220
                          clear A220
                          have H' := Aside0.mk H
                          clear H
                          go_wp2_with (first | (go_at_call 35; (with_reducible refine (cashbooklaw04_alive.calls k  t211 _ (TabsAt.below HT.out (by repeat (first | (with_reducible first | exact HB.out | apply below_alloc | apply pw_below_drewN | apply below_drew1 | exact Below.refl _ _) | exact HB.out | exact (Drawn0.below HD.out) | exact Below.refl _ _))) A22.out).mono ?_); rintro e w23 ⟨rfl, hb⟩; have n0_ := Aside0.mk (below_step (by repeat (first | (with_reducible first | exact HB.out | apply below_alloc | apply pw_below_drewN | apply below_drew1) | exact HB.out)) hb); clear HB; have HB := n0_; clear n0_; (try clear hb); (try clear hb2); (try clear hk); (try clear hi)))
                          go_meet
                          case rel => exact ⟨_, (!t211), (by first | rfl | (simp; done) | (simp [*]; done)), H', ⟨by first | omega | exact Nat.le_refl _⟩, ⟨by repeat (first | (with_reducible first | exact HB.out | apply below_alloc | apply pw_below_drewN | apply below_drew1) | exact HB.out)⟩⟩
                · rw [if_neg c17] at H
                  have c17b0 : (t207 == t198) = false := beq_eq_false_iff_ne.mpr c17
                  have c17b1 : (t207 != t198) = true := bne_iff_ne.mpr c17
                  have H' := Aside0.mk H
                  clear H
                  go_wp2
                  go_meet
                  case rel => exact ⟨_, (true), (by first | rfl | (simp; done) | (simp [*]; done)), H', ⟨by first | omega | exact Nat.le_refl _⟩, ⟨by repeat (first | (with_reducible first | exact HB.out | apply below_alloc | apply pw_below_drewN | apply below_drew1) | exact HB.out)⟩⟩
              · rw [if_neg c16] at H
                have c16b0 : (t203 == t198) = false := beq_eq_false_iff_ne.mpr c16
                have c16b1 : (t203 != t198) = true := bne_iff_ne.mpr c16
                have H' := Aside0.mk H
                clear H
                go_wp2
                go_meet
                case rel => exact ⟨_, (true), (by first | rfl | (simp; done) | (simp [*]; done)), H', ⟨by first | omega | exact Nat.le_refl _⟩, ⟨by repeat (first | (with_reducible first | exact HB.out | apply below_alloc | apply pw_below_drewN | apply below_drew1) | exact HB.out)⟩⟩
            · rw [if_neg c15] at H
              have c15b0 : (t210 == 0) = false := beq_eq_false_iff_ne.mpr c15
              have c15b1 : (t210 != 0) = true := bne_iff_ne.mpr c15
              have H' := Aside0.mk H
              clear H
              go_wp2
              go_meet
              case rel => exact ⟨_, (true), (by first | rfl | (simp; done) | (simp [*]; done)), H', ⟨by first | omega | exact Nat.le_refl _⟩, ⟨by repeat (first | (with_reducible first | exact HB.out | apply below_alloc | apply pw_below_drewN | apply below_drew1) | exact HB.out)⟩⟩
          · rw [if_neg c14] at H
            have c14b0 : (t208 == 0) = false := beq_eq_false_iff_ne.mpr c14
            have c14b1 : (t208 != 0) = true := bne_iff_ne.mpr c14
            have H' := Aside0.mk H
            clear H
            go_wp2
            go_meet
            case rel => exact ⟨_, (true), (by first | rfl | (simp; done) | (simp [*]; done)), H', ⟨by first | omega | exact Nat.le_refl _⟩, ⟨by repeat (first | (with_reducible first | exact HB.out | apply below_alloc | apply pw_below_drewN | apply below_drew1) | exact HB.out)⟩⟩
        · rw [if_neg c13] at H
          have c13b0 : (t206 == 0) = false := beq_eq_false_iff_ne.mpr c13
          have c13b1 : (t206 != 0) = true := bne_iff_ne.mpr c13
          have H' := Aside0.mk H
          clear H
          go_wp2
          go_meet
          case rel => exact ⟨_, (true), (by first | rfl | (simp; done) | (simp [*]; done)), H', ⟨by first | omega | exact Nat.le_refl _⟩, ⟨by repeat (first | (with_reducible first | exact HB.out | apply below_alloc | apply pw_below_drewN | apply below_drew1) | exact HB.out)⟩⟩
      · rw [if_neg c12] at H
        have c12b0 : (t204 == 0) = false := beq_eq_false_iff_ne.mpr c12
        have c12b1 : (t204 != 0) = true := bne_iff_ne.mpr c12
        have H' := Aside0.mk H
        clear H
        go_wp2
        go_meet
        case rel => exact ⟨_, (true), (by first | rfl | (simp; done) | (simp [*]; done)), H', ⟨by first | omega | exact Nat.le_refl _⟩, ⟨by repeat (first | (with_reducible first | exact HB.out | apply below_alloc | apply pw_below_drewN | apply below_drew1) | exact HB.out)⟩⟩
    · rw [if_neg c11] at H
      have c11b0 : (t202 == 0) = false := beq_eq_false_iff_ne.mpr c11
      have c11b1 : (t202 != 0) = true := bne_iff_ne.mpr c11
      (first | rw [c11b0] | (simp only [i64_w, i32_w]; rw [c11b0]) | skip)
      have H' := Aside0.mk H
      clear H
      go_wp2
      go_meet
      case rel => exact ⟨_, (true), (by first | rfl | (simp; done) | (simp [*]; done)), H', ⟨by first | omega | exact Nat.le_refl _⟩, ⟨by repeat (first | (with_reducible first | exact HB.out | apply below_alloc | apply pw_below_drewN | apply below_drew1) | exact HB.out)⟩⟩
  case rest =>
    clear HC8
    try clear c1
    try clear c2
    try clear p2
    try clear c3
    try clear c4
    try clear c11
    try clear c11b0
    try clear c11b1
    try clear c12
    try clear c12b0
    try clear c12b1
    try clear c13
    try clear c13b0
    try clear c13b1
    try clear c14
    try clear c14b0
    try clear c14b1
    try clear c15
    try clear c15b0
    try clear c15b1
    try clear c16
    try clear c16b0
    try clear c16b1
    try clear c17
    try clear c17b0
    try clear c17b1
    try clear c18
    try clear c18b0
    try clear c19
    try clear c19b0
    try clear c20
    try clear c20b0
    try clear c21
    try clear c21b0
    obtain ⟨kq, x99_7, rfl, HA, HJ7, HB⟩ := hcut
    cases kq with
    | zero => exact absurd HA.out (by simp [cashbooklaw04_DateBack.j0])
    | succ kj7 =>
      have H := HA.out
      clear HA
      simp only [cashbooklaw04_DateBack.j0] at H
      by_cases c24 : x99_7 = true
      · subst c24
        have H1 : (some false) = some r := by rw [if_pos rfl] at H; exact H
        clear H
        have H := H1
        clear H1
        obtain rfl := Option.some.inj H
        go_wp2
        go_ret
        exact ⟨by first | rfl | (simp [errW_none, errW_some] <;> rfl) | (simp [*, errW_none, errW_some] <;> rfl), by repeat (first | (with_reducible first | exact HB.out | apply below_alloc | apply pw_below_drewN | apply below_drew1) | exact HB.out)⟩
      · replace c24 := Bool.eq_false_iff.mpr c24
        subst c24
        have H1 : (if t198 = 50000 then (some true) else ((date_Split.f (wrap32 (t198 + 1))).bind fun bt212 => ((date_Weekday.f (wrap32 (t198 + 1))).bind fun bt216 => (if bt212.2.2.2 = 0 then (if bt216.2 = 0 then (if bt216.1 = (Int.tmod (wrap64 (t209 + 1)) 7) then (if bt212.1 = t199 then (if bt212.2.1 = t200 then (if bt212.2.2.1 = (wrap64 (t201 + 1)) then (some true) else (if bt212.2.2.1 = 1 then (if t201 ≥ 28 then (if bt212.2.1 = (wrap64 (t200 + 1)) then (some true) else (if bt212.1 = (wrap64 (t199 + 1)) then (if bt212.2.1 = 1 then (some (t200 == 12)) else (some false)) else (some false))) else (some false)) else (some false))) else (if bt212.2.2.1 = 1 then (if t201 ≥ 28 then (if bt212.2.1 = (wrap64 (t200 + 1)) then (some true) else (if bt212.1 = (wrap64 (t199 + 1)) then (if bt212.2.1 = 1 then (some (t200 == 12)) else (some false)) else (some false))) else (some false)) else (some false))) else (if bt212.2.2.1 = 1 then (if t201 ≥ 28 then (if bt212.1 = (wrap64 (t199 + 1)) then (if bt212.2.1 = 1 then (some (t200 == 12)) else (some false)) else (some false)) else (some false)) else (some false))) else (some false)) else (some false)) else (some false))))) = some r := by rw [if_neg (show ¬ (false = true) by decide)] at H; exact H
        clear H
        have H := H1
        clear H1
        by_cases c25 : t198 = 50000
        · rw [if_pos c25] at H
          have c25b0 : (t198 == 50000) = true := beq_iff_eq.mpr c25
          have c25b1 : (t198 != 50000) = false := bne_eq_false_iff_eq.mpr c25
          clear c25
          obtain rfl := Option.some.inj H
          go_wp2
          go_ret
          exact ⟨by first | rfl | (simp [errW_none, errW_some] <;> rfl) | (simp [*, errW_none, errW_some] <;> rfl), by repeat (first | (with_reducible first | exact HB.out | apply below_alloc | apply pw_below_drewN | apply below_drew1) | exact HB.out)⟩
        · rw [if_neg c25] at H
          have c25b0 : (t198 == 50000) = false := beq_eq_false_iff_ne.mpr c25
          have c25b1 : (t198 != 50000) = true := bne_iff_ne.mpr c25
          replace H := Option.bind_eq_some_iff.mp H
          obtain ⟨⟨t212, t213, t214, t215⟩, A260, H⟩ := H
          replace H : ((date_Weekday.f (wrap32 (t198 + 1))).bind fun bt216 => (if t215 = 0 then (if bt216.2 = 0 then (if bt216.1 = (Int.tmod (wrap64 (t209 + 1)) 7) then (if t212 = t199 then (if t213 = t200 then (if t214 = (wrap64 (t201 + 1)) then (some true) else (if t214 = 1 then (if t201 ≥ 28 then (if t213 = (wrap64 (t200 + 1)) then (some true) else (if t212 = (wrap64 (t199 + 1)) then (if t213 = 1 then (some (t200 == 12)) else (some false)) else (some false))) else (some false)) else (some false))) else (if t214 = 1 then (if t201 ≥ 28 then (if t213 = (wrap64 (t200 + 1)) then (some true) else (if t212 = (wrap64 (t199 + 1)) then (if t213 = 1 then (some (t200 == 12)) else (some false)) else (some false))) else (some false)) else (some false))) else (if t214 = 1 then (if t201 ≥ 28 then (if t212 = (wrap64 (t199 + 1)) then (if t213 = 1 then (some (t200 == 12)) else (some false)) else (some false)) else (some false)) else (some false))) else (some false)) else (some false)) else (some false))) = some r := H
          have A26 := Aside0.mk A260
          clear A260
          replace H := Option.bind_eq_some_iff.mp H
          obtain ⟨⟨t216, t217⟩, A270, H⟩ := H
          replace H : (if t215 = 0 then (if t217 = 0 then (if t216 = (Int.tmod (wrap64 (t209 + 1)) 7) then (if t212 = t199 then (if t213 = t200 then (if t214 = (wrap64 (t201 + 1)) then (some true) else (if t214 = 1 then (if t201 ≥ 28 then (if t213 = (wrap64 (t200 + 1)) then (some true) else (if t212 = (wrap64 (t199 + 1)) then (if t213 = 1 then (some (t200 == 12)) else (some false)) else (some false))) else (some false)) else (some false))) else (if t214 = 1 then (if t201 ≥ 28 then (if t213 = (wrap64 (t200 + 1)) then (some true) else (if t212 = (wrap64 (t199 + 1)) then (if t213 = 1 then (some (t200 == 12)) else (some false)) else (some false))) else (some false)) else (some false))) else (if t214 = 1 then (if t201 ≥ 28 then (if t212 = (wrap64 (t199 + 1)) then (if t213 = 1 then (some (t200 == 12)) else (some false)) else (some false)) else (some false)) else (some false))) else (some false)) else (some false)) else (some false)) = some r := H
          have A27 := Aside0.mk A270
          clear A270
          by_cases c28 : t215 = 0
          · rw [if_pos c28] at H
            have c28b0 : (t215 == 0) = true := beq_iff_eq.mpr c28
            have c28b1 : (t215 != 0) = false := bne_eq_false_iff_eq.mpr c28
            clear c28
            by_cases c29 : t217 = 0
            · rw [if_pos c29] at H
              have c29b0 : (t217 == 0) = true := beq_iff_eq.mpr c29
              have c29b1 : (t217 != 0) = false := bne_eq_false_iff_eq.mpr c29
              clear c29
              by_cases c30 : t216 = (Int.tmod (wrap64 (t209 + 1)) 7)
              · rw [if_pos c30] at H
                have c30b0 : (t216 == (Int.tmod (wrap64 (t209 + 1)) 7)) = true := beq_iff_eq.mpr c30
                have c30b1 : (t216 != (Int.tmod (wrap64 (t209 + 1)) 7)) = false := bne_eq_false_iff_eq.mpr c30
                clear c30
                by_cases c31 : t212 = t199
                · rw [if_pos c31] at H
                  have c31b0 : (t212 == t199) = true := beq_iff_eq.mpr c31
                  have c31b1 : (t212 != t199) = false := bne_eq_false_iff_eq.mpr c31
                  clear c31
                  by_cases c32 : t213 = t200
                  · rw [if_pos c32] at H
                    have c32b0 : (t213 == t200) = true := beq_iff_eq.mpr c32
                    have c32b1 : (t213 != t200) = false := bne_eq_false_iff_eq.mpr c32
                    clear c32
                    by_cases c33 : t214 = (wrap64 (t201 + 1))
                    · rw [if_pos c33] at H
                      have c33b0 : (t214 == (wrap64 (t201 + 1))) = true := beq_iff_eq.mpr c33
                      have c33b1 : (t214 != (wrap64 (t201 + 1))) = false := bne_eq_false_iff_eq.mpr c33
                      clear c33
                      obtain rfl := Option.some.inj H
                      go_wp2_with (first | ((with_reducible refine gate_callee (f := 25) rfl ?_); refine goesL_ (some 105) rfl rfl Tryd.func25 (by kernel_rfl) rfl #[.int .i32 (wrap32 (t198 + 1))] rfl (by (try simp only [List.map_toArray, List.map_cons, List.map_nil]); first | done | rfl | (simp only [List.length_drop, List.length_take]; rfl)) ?_; (with_reducible refine (date_Split.calls (wrap32 (t198 + 1)) t212 t213 t214 t215 _ (TabsAt.below HT.out (by repeat (first | (with_reducible first | exact HB.out | apply below_alloc | apply pw_below_drewN | apply below_drew1 | exact Below.refl _ _) | exact HB.out | exact (Drawn0.below HD.out) | exact Below.refl _ _))) A26.out).mono ?_); rintro e w' ⟨rfl, ⟨nd, rfl⟩⟩; refine ⟨_, rfl, ?_⟩) | ((with_reducible refine gate_callee (f := 40) rfl ?_); refine goesL_ (some 113) rfl rfl Tryd.func40 (by kernel_rfl) rfl #[.int .i32 (wrap32 (t198 + 1))] rfl (by (try simp only [List.map_toArray, List.map_cons, List.map_nil]); first | done | rfl | (simp only [List.length_drop, List.length_take]; rfl)) ?_; (with_reducible refine (date_Weekday.calls (wrap32 (t198 + 1)) t216 t217 _ A27.out).mono ?_); rintro e w' ⟨rfl, ⟨nd, rfl⟩⟩; refine ⟨_, rfl, ?_⟩))
                      go_ret
                      exact ⟨by first | rfl | (simp [errW_none, errW_some] <;> rfl) | (simp [*, errW_none, errW_some] <;> rfl), by repeat (first | (with_reducible first | exact HB.out | apply below_alloc | apply pw_below_drewN | apply below_drew1) | exact HB.out)⟩
                    · rw [if_neg c33] at H
                      have c33b0 : (t214 == (wrap64 (t201 + 1))) = false := beq_eq_false_iff_ne.mpr c33
                      have c33b1 : (t214 != (wrap64 (t201 + 1))) = true := bne_iff_ne.mpr c33
                      by_cases c34 : t214 = 1
                      · rw [if_pos c34] at H
                        have c34b0 : (t214 == 1) = true := beq_iff_eq.mpr c34
                        have c34b1 : (t214 != 1) = false := bne_eq_false_iff_eq.mpr c34
                        clear c34
                        by_cases c35 : t201 ≥ 28
                        · rw [if_pos c35] at H
                          have c35b0 : decide (28 ≤ t201) = true := decide_eq_true c35
                          clear c35
                          by_cases c36 : t213 = (wrap64 (t200 + 1))
                          · rw [if_pos c36] at H
                            have c36b0 : (t213 == (wrap64 (t200 + 1))) = true := beq_iff_eq.mpr c36
                            have c36b1 : (t213 != (wrap64 (t200 + 1))) = false := bne_eq_false_iff_eq.mpr c36
                            clear c36
                            obtain rfl := Option.some.inj H
                            go_wp2_with (first | ((with_reducible refine gate_callee (f := 25) rfl ?_); refine goesL_ (some 105) rfl rfl Tryd.func25 (by kernel_rfl) rfl #[.int .i32 (wrap32 (t198 + 1))] rfl (by (try simp only [List.map_toArray, List.map_cons, List.map_nil]); first | done | rfl | (simp only [List.length_drop, List.length_take]; rfl)) ?_; (with_reducible refine (date_Split.calls (wrap32 (t198 + 1)) t212 t213 t214 t215 _ (TabsAt.below HT.out (by repeat (first | (with_reducible first | exact HB.out | apply below_alloc | apply pw_below_drewN | apply below_drew1 | exact Below.refl _ _) | exact HB.out | exact (Drawn0.below HD.out) | exact Below.refl _ _))) A26.out).mono ?_); rintro e w' ⟨rfl, ⟨nd, rfl⟩⟩; refine ⟨_, rfl, ?_⟩) | ((with_reducible refine gate_callee (f := 40) rfl ?_); refine goesL_ (some 113) rfl rfl Tryd.func40 (by kernel_rfl) rfl #[.int .i32 (wrap32 (t198 + 1))] rfl (by (try simp only [List.map_toArray, List.map_cons, List.map_nil]); first | done | rfl | (simp only [List.length_drop, List.length_take]; rfl)) ?_; (with_reducible refine (date_Weekday.calls (wrap32 (t198 + 1)) t216 t217 _ A27.out).mono ?_); rintro e w' ⟨rfl, ⟨nd, rfl⟩⟩; refine ⟨_, rfl, ?_⟩))
                            go_ret
                            exact ⟨by first | rfl | (simp [errW_none, errW_some] <;> rfl) | (simp [*, errW_none, errW_some] <;> rfl), by repeat (first | (with_reducible first | exact HB.out | apply below_alloc | apply pw_below_drewN | apply below_drew1) | exact HB.out)⟩
                          · rw [if_neg c36] at H
                            have c36b0 : (t213 == (wrap64 (t200 + 1))) = false := beq_eq_false_iff_ne.mpr c36
                            have c36b1 : (t213 != (wrap64 (t200 + 1))) = true := bne_iff_ne.mpr c36
                            by_cases c37 : t212 = (wrap64 (t199 + 1))
                            · rw [if_pos c37] at H
                              have c37b0 : (t212 == (wrap64 (t199 + 1))) = true := beq_iff_eq.mpr c37
                              have c37b1 : (t212 != (wrap64 (t199 + 1))) = false := bne_eq_false_iff_eq.mpr c37
                              clear c37
                              by_cases c38 : t213 = 1
                              · rw [if_pos c38] at H
                                have c38b0 : (t213 == 1) = true := beq_iff_eq.mpr c38
                                have c38b1 : (t213 != 1) = false := bne_eq_false_iff_eq.mpr c38
                                clear c38
                                obtain rfl := Option.some.inj H
                                go_wp2_with (first | ((with_reducible refine gate_callee (f := 25) rfl ?_); refine goesL_ (some 105) rfl rfl Tryd.func25 (by kernel_rfl) rfl #[.int .i32 (wrap32 (t198 + 1))] rfl (by (try simp only [List.map_toArray, List.map_cons, List.map_nil]); first | done | rfl | (simp only [List.length_drop, List.length_take]; rfl)) ?_; (with_reducible refine (date_Split.calls (wrap32 (t198 + 1)) t212 t213 t214 t215 _ (TabsAt.below HT.out (by repeat (first | (with_reducible first | exact HB.out | apply below_alloc | apply pw_below_drewN | apply below_drew1 | exact Below.refl _ _) | exact HB.out | exact (Drawn0.below HD.out) | exact Below.refl _ _))) A26.out).mono ?_); rintro e w' ⟨rfl, ⟨nd, rfl⟩⟩; refine ⟨_, rfl, ?_⟩) | ((with_reducible refine gate_callee (f := 40) rfl ?_); refine goesL_ (some 113) rfl rfl Tryd.func40 (by kernel_rfl) rfl #[.int .i32 (wrap32 (t198 + 1))] rfl (by (try simp only [List.map_toArray, List.map_cons, List.map_nil]); first | done | rfl | (simp only [List.length_drop, List.length_take]; rfl)) ?_; (with_reducible refine (date_Weekday.calls (wrap32 (t198 + 1)) t216 t217 _ A27.out).mono ?_); rintro e w' ⟨rfl, ⟨nd, rfl⟩⟩; refine ⟨_, rfl, ?_⟩))
                                go_ret
                                exact ⟨by first | rfl | (simp [errW_none, errW_some] <;> rfl) | (simp [*, errW_none, errW_some] <;> rfl), by repeat (first | (with_reducible first | exact HB.out | apply below_alloc | apply pw_below_drewN | apply below_drew1) | exact HB.out)⟩
                              · rw [if_neg c38] at H
                                have c38b0 : (t213 == 1) = false := beq_eq_false_iff_ne.mpr c38
                                have c38b1 : (t213 != 1) = true := bne_iff_ne.mpr c38
                                obtain rfl := Option.some.inj H
                                go_wp2_with (first | ((with_reducible refine gate_callee (f := 25) rfl ?_); refine goesL_ (some 105) rfl rfl Tryd.func25 (by kernel_rfl) rfl #[.int .i32 (wrap32 (t198 + 1))] rfl (by (try simp only [List.map_toArray, List.map_cons, List.map_nil]); first | done | rfl | (simp only [List.length_drop, List.length_take]; rfl)) ?_; (with_reducible refine (date_Split.calls (wrap32 (t198 + 1)) t212 t213 t214 t215 _ (TabsAt.below HT.out (by repeat (first | (with_reducible first | exact HB.out | apply below_alloc | apply pw_below_drewN | apply below_drew1 | exact Below.refl _ _) | exact HB.out | exact (Drawn0.below HD.out) | exact Below.refl _ _))) A26.out).mono ?_); rintro e w' ⟨rfl, ⟨nd, rfl⟩⟩; refine ⟨_, rfl, ?_⟩) | ((with_reducible refine gate_callee (f := 40) rfl ?_); refine goesL_ (some 113) rfl rfl Tryd.func40 (by kernel_rfl) rfl #[.int .i32 (wrap32 (t198 + 1))] rfl (by (try simp only [List.map_toArray, List.map_cons, List.map_nil]); first | done | rfl | (simp only [List.length_drop, List.length_take]; rfl)) ?_; (with_reducible refine (date_Weekday.calls (wrap32 (t198 + 1)) t216 t217 _ A27.out).mono ?_); rintro e w' ⟨rfl, ⟨nd, rfl⟩⟩; refine ⟨_, rfl, ?_⟩))
                                go_ret
                                exact ⟨by first | rfl | (simp [errW_none, errW_some] <;> rfl) | (simp [*, errW_none, errW_some] <;> rfl), by repeat (first | (with_reducible first | exact HB.out | apply below_alloc | apply pw_below_drewN | apply below_drew1) | exact HB.out)⟩
                            · rw [if_neg c37] at H
                              have c37b0 : (t212 == (wrap64 (t199 + 1))) = false := beq_eq_false_iff_ne.mpr c37
                              have c37b1 : (t212 != (wrap64 (t199 + 1))) = true := bne_iff_ne.mpr c37
                              obtain rfl := Option.some.inj H
                              go_wp2_with (first | ((with_reducible refine gate_callee (f := 25) rfl ?_); refine goesL_ (some 105) rfl rfl Tryd.func25 (by kernel_rfl) rfl #[.int .i32 (wrap32 (t198 + 1))] rfl (by (try simp only [List.map_toArray, List.map_cons, List.map_nil]); first | done | rfl | (simp only [List.length_drop, List.length_take]; rfl)) ?_; (with_reducible refine (date_Split.calls (wrap32 (t198 + 1)) t212 t213 t214 t215 _ (TabsAt.below HT.out (by repeat (first | (with_reducible first | exact HB.out | apply below_alloc | apply pw_below_drewN | apply below_drew1 | exact Below.refl _ _) | exact HB.out | exact (Drawn0.below HD.out) | exact Below.refl _ _))) A26.out).mono ?_); rintro e w' ⟨rfl, ⟨nd, rfl⟩⟩; refine ⟨_, rfl, ?_⟩) | ((with_reducible refine gate_callee (f := 40) rfl ?_); refine goesL_ (some 113) rfl rfl Tryd.func40 (by kernel_rfl) rfl #[.int .i32 (wrap32 (t198 + 1))] rfl (by (try simp only [List.map_toArray, List.map_cons, List.map_nil]); first | done | rfl | (simp only [List.length_drop, List.length_take]; rfl)) ?_; (with_reducible refine (date_Weekday.calls (wrap32 (t198 + 1)) t216 t217 _ A27.out).mono ?_); rintro e w' ⟨rfl, ⟨nd, rfl⟩⟩; refine ⟨_, rfl, ?_⟩))
                              go_ret
                              exact ⟨by first | rfl | (simp [errW_none, errW_some] <;> rfl) | (simp [*, errW_none, errW_some] <;> rfl), by repeat (first | (with_reducible first | exact HB.out | apply below_alloc | apply pw_below_drewN | apply below_drew1) | exact HB.out)⟩
                        · rw [if_neg c35] at H
                          have c35b0 : decide (28 ≤ t201) = false := decide_eq_false c35
                          clear c35
                          obtain rfl := Option.some.inj H
                          go_wp2_with (first | ((with_reducible refine gate_callee (f := 25) rfl ?_); refine goesL_ (some 105) rfl rfl Tryd.func25 (by kernel_rfl) rfl #[.int .i32 (wrap32 (t198 + 1))] rfl (by (try simp only [List.map_toArray, List.map_cons, List.map_nil]); first | done | rfl | (simp only [List.length_drop, List.length_take]; rfl)) ?_; (with_reducible refine (date_Split.calls (wrap32 (t198 + 1)) t212 t213 t214 t215 _ (TabsAt.below HT.out (by repeat (first | (with_reducible first | exact HB.out | apply below_alloc | apply pw_below_drewN | apply below_drew1 | exact Below.refl _ _) | exact HB.out | exact (Drawn0.below HD.out) | exact Below.refl _ _))) A26.out).mono ?_); rintro e w' ⟨rfl, ⟨nd, rfl⟩⟩; refine ⟨_, rfl, ?_⟩) | ((with_reducible refine gate_callee (f := 40) rfl ?_); refine goesL_ (some 113) rfl rfl Tryd.func40 (by kernel_rfl) rfl #[.int .i32 (wrap32 (t198 + 1))] rfl (by (try simp only [List.map_toArray, List.map_cons, List.map_nil]); first | done | rfl | (simp only [List.length_drop, List.length_take]; rfl)) ?_; (with_reducible refine (date_Weekday.calls (wrap32 (t198 + 1)) t216 t217 _ A27.out).mono ?_); rintro e w' ⟨rfl, ⟨nd, rfl⟩⟩; refine ⟨_, rfl, ?_⟩))
                          go_ret
                          exact ⟨by first | rfl | (simp [errW_none, errW_some] <;> rfl) | (simp [*, errW_none, errW_some] <;> rfl), by repeat (first | (with_reducible first | exact HB.out | apply below_alloc | apply pw_below_drewN | apply below_drew1) | exact HB.out)⟩
                      · rw [if_neg c34] at H
                        have c34b0 : (t214 == 1) = false := beq_eq_false_iff_ne.mpr c34
                        have c34b1 : (t214 != 1) = true := bne_iff_ne.mpr c34
                        obtain rfl := Option.some.inj H
                        go_wp2_with (first | ((with_reducible refine gate_callee (f := 25) rfl ?_); refine goesL_ (some 105) rfl rfl Tryd.func25 (by kernel_rfl) rfl #[.int .i32 (wrap32 (t198 + 1))] rfl (by (try simp only [List.map_toArray, List.map_cons, List.map_nil]); first | done | rfl | (simp only [List.length_drop, List.length_take]; rfl)) ?_; (with_reducible refine (date_Split.calls (wrap32 (t198 + 1)) t212 t213 t214 t215 _ (TabsAt.below HT.out (by repeat (first | (with_reducible first | exact HB.out | apply below_alloc | apply pw_below_drewN | apply below_drew1 | exact Below.refl _ _) | exact HB.out | exact (Drawn0.below HD.out) | exact Below.refl _ _))) A26.out).mono ?_); rintro e w' ⟨rfl, ⟨nd, rfl⟩⟩; refine ⟨_, rfl, ?_⟩) | ((with_reducible refine gate_callee (f := 40) rfl ?_); refine goesL_ (some 113) rfl rfl Tryd.func40 (by kernel_rfl) rfl #[.int .i32 (wrap32 (t198 + 1))] rfl (by (try simp only [List.map_toArray, List.map_cons, List.map_nil]); first | done | rfl | (simp only [List.length_drop, List.length_take]; rfl)) ?_; (with_reducible refine (date_Weekday.calls (wrap32 (t198 + 1)) t216 t217 _ A27.out).mono ?_); rintro e w' ⟨rfl, ⟨nd, rfl⟩⟩; refine ⟨_, rfl, ?_⟩))
                        go_ret
                        exact ⟨by first | rfl | (simp [errW_none, errW_some] <;> rfl) | (simp [*, errW_none, errW_some] <;> rfl), by repeat (first | (with_reducible first | exact HB.out | apply below_alloc | apply pw_below_drewN | apply below_drew1) | exact HB.out)⟩
                  · rw [if_neg c32] at H
                    have c32b0 : (t213 == t200) = false := beq_eq_false_iff_ne.mpr c32
                    have c32b1 : (t213 != t200) = true := bne_iff_ne.mpr c32
                    by_cases c39 : t214 = 1
                    · rw [if_pos c39] at H
                      have c39b0 : (t214 == 1) = true := beq_iff_eq.mpr c39
                      have c39b1 : (t214 != 1) = false := bne_eq_false_iff_eq.mpr c39
                      clear c39
                      by_cases c40 : t201 ≥ 28
                      · rw [if_pos c40] at H
                        have c40b0 : decide (28 ≤ t201) = true := decide_eq_true c40
                        clear c40
                        by_cases c41 : t213 = (wrap64 (t200 + 1))
                        · rw [if_pos c41] at H
                          have c41b0 : (t213 == (wrap64 (t200 + 1))) = true := beq_iff_eq.mpr c41
                          have c41b1 : (t213 != (wrap64 (t200 + 1))) = false := bne_eq_false_iff_eq.mpr c41
                          clear c41
                          obtain rfl := Option.some.inj H
                          go_wp2_with (first | ((with_reducible refine gate_callee (f := 25) rfl ?_); refine goesL_ (some 105) rfl rfl Tryd.func25 (by kernel_rfl) rfl #[.int .i32 (wrap32 (t198 + 1))] rfl (by (try simp only [List.map_toArray, List.map_cons, List.map_nil]); first | done | rfl | (simp only [List.length_drop, List.length_take]; rfl)) ?_; (with_reducible refine (date_Split.calls (wrap32 (t198 + 1)) t212 t213 t214 t215 _ (TabsAt.below HT.out (by repeat (first | (with_reducible first | exact HB.out | apply below_alloc | apply pw_below_drewN | apply below_drew1 | exact Below.refl _ _) | exact HB.out | exact (Drawn0.below HD.out) | exact Below.refl _ _))) A26.out).mono ?_); rintro e w' ⟨rfl, ⟨nd, rfl⟩⟩; refine ⟨_, rfl, ?_⟩) | ((with_reducible refine gate_callee (f := 40) rfl ?_); refine goesL_ (some 113) rfl rfl Tryd.func40 (by kernel_rfl) rfl #[.int .i32 (wrap32 (t198 + 1))] rfl (by (try simp only [List.map_toArray, List.map_cons, List.map_nil]); first | done | rfl | (simp only [List.length_drop, List.length_take]; rfl)) ?_; (with_reducible refine (date_Weekday.calls (wrap32 (t198 + 1)) t216 t217 _ A27.out).mono ?_); rintro e w' ⟨rfl, ⟨nd, rfl⟩⟩; refine ⟨_, rfl, ?_⟩))
                          go_ret
                          exact ⟨by first | rfl | (simp [errW_none, errW_some] <;> rfl) | (simp [*, errW_none, errW_some] <;> rfl), by repeat (first | (with_reducible first | exact HB.out | apply below_alloc | apply pw_below_drewN | apply below_drew1) | exact HB.out)⟩
                        · rw [if_neg c41] at H
                          have c41b0 : (t213 == (wrap64 (t200 + 1))) = false := beq_eq_false_iff_ne.mpr c41
                          have c41b1 : (t213 != (wrap64 (t200 + 1))) = true := bne_iff_ne.mpr c41
                          by_cases c42 : t212 = (wrap64 (t199 + 1))
                          · rw [if_pos c42] at H
                            have c42b0 : (t212 == (wrap64 (t199 + 1))) = true := beq_iff_eq.mpr c42
                            have c42b1 : (t212 != (wrap64 (t199 + 1))) = false := bne_eq_false_iff_eq.mpr c42
                            clear c42
                            by_cases c43 : t213 = 1
                            · rw [if_pos c43] at H
                              have c43b0 : (t213 == 1) = true := beq_iff_eq.mpr c43
                              have c43b1 : (t213 != 1) = false := bne_eq_false_iff_eq.mpr c43
                              clear c43
                              obtain rfl := Option.some.inj H
                              go_wp2_with (first | ((with_reducible refine gate_callee (f := 25) rfl ?_); refine goesL_ (some 105) rfl rfl Tryd.func25 (by kernel_rfl) rfl #[.int .i32 (wrap32 (t198 + 1))] rfl (by (try simp only [List.map_toArray, List.map_cons, List.map_nil]); first | done | rfl | (simp only [List.length_drop, List.length_take]; rfl)) ?_; (with_reducible refine (date_Split.calls (wrap32 (t198 + 1)) t212 t213 t214 t215 _ (TabsAt.below HT.out (by repeat (first | (with_reducible first | exact HB.out | apply below_alloc | apply pw_below_drewN | apply below_drew1 | exact Below.refl _ _) | exact HB.out | exact (Drawn0.below HD.out) | exact Below.refl _ _))) A26.out).mono ?_); rintro e w' ⟨rfl, ⟨nd, rfl⟩⟩; refine ⟨_, rfl, ?_⟩) | ((with_reducible refine gate_callee (f := 40) rfl ?_); refine goesL_ (some 113) rfl rfl Tryd.func40 (by kernel_rfl) rfl #[.int .i32 (wrap32 (t198 + 1))] rfl (by (try simp only [List.map_toArray, List.map_cons, List.map_nil]); first | done | rfl | (simp only [List.length_drop, List.length_take]; rfl)) ?_; (with_reducible refine (date_Weekday.calls (wrap32 (t198 + 1)) t216 t217 _ A27.out).mono ?_); rintro e w' ⟨rfl, ⟨nd, rfl⟩⟩; refine ⟨_, rfl, ?_⟩))
                              go_ret
                              exact ⟨by first | rfl | (simp [errW_none, errW_some] <;> rfl) | (simp [*, errW_none, errW_some] <;> rfl), by repeat (first | (with_reducible first | exact HB.out | apply below_alloc | apply pw_below_drewN | apply below_drew1) | exact HB.out)⟩
                            · rw [if_neg c43] at H
                              have c43b0 : (t213 == 1) = false := beq_eq_false_iff_ne.mpr c43
                              have c43b1 : (t213 != 1) = true := bne_iff_ne.mpr c43
                              obtain rfl := Option.some.inj H
                              go_wp2_with (first | ((with_reducible refine gate_callee (f := 25) rfl ?_); refine goesL_ (some 105) rfl rfl Tryd.func25 (by kernel_rfl) rfl #[.int .i32 (wrap32 (t198 + 1))] rfl (by (try simp only [List.map_toArray, List.map_cons, List.map_nil]); first | done | rfl | (simp only [List.length_drop, List.length_take]; rfl)) ?_; (with_reducible refine (date_Split.calls (wrap32 (t198 + 1)) t212 t213 t214 t215 _ (TabsAt.below HT.out (by repeat (first | (with_reducible first | exact HB.out | apply below_alloc | apply pw_below_drewN | apply below_drew1 | exact Below.refl _ _) | exact HB.out | exact (Drawn0.below HD.out) | exact Below.refl _ _))) A26.out).mono ?_); rintro e w' ⟨rfl, ⟨nd, rfl⟩⟩; refine ⟨_, rfl, ?_⟩) | ((with_reducible refine gate_callee (f := 40) rfl ?_); refine goesL_ (some 113) rfl rfl Tryd.func40 (by kernel_rfl) rfl #[.int .i32 (wrap32 (t198 + 1))] rfl (by (try simp only [List.map_toArray, List.map_cons, List.map_nil]); first | done | rfl | (simp only [List.length_drop, List.length_take]; rfl)) ?_; (with_reducible refine (date_Weekday.calls (wrap32 (t198 + 1)) t216 t217 _ A27.out).mono ?_); rintro e w' ⟨rfl, ⟨nd, rfl⟩⟩; refine ⟨_, rfl, ?_⟩))
                              go_ret
                              exact ⟨by first | rfl | (simp [errW_none, errW_some] <;> rfl) | (simp [*, errW_none, errW_some] <;> rfl), by repeat (first | (with_reducible first | exact HB.out | apply below_alloc | apply pw_below_drewN | apply below_drew1) | exact HB.out)⟩
                          · rw [if_neg c42] at H
                            have c42b0 : (t212 == (wrap64 (t199 + 1))) = false := beq_eq_false_iff_ne.mpr c42
                            have c42b1 : (t212 != (wrap64 (t199 + 1))) = true := bne_iff_ne.mpr c42
                            obtain rfl := Option.some.inj H
                            go_wp2_with (first | ((with_reducible refine gate_callee (f := 25) rfl ?_); refine goesL_ (some 105) rfl rfl Tryd.func25 (by kernel_rfl) rfl #[.int .i32 (wrap32 (t198 + 1))] rfl (by (try simp only [List.map_toArray, List.map_cons, List.map_nil]); first | done | rfl | (simp only [List.length_drop, List.length_take]; rfl)) ?_; (with_reducible refine (date_Split.calls (wrap32 (t198 + 1)) t212 t213 t214 t215 _ (TabsAt.below HT.out (by repeat (first | (with_reducible first | exact HB.out | apply below_alloc | apply pw_below_drewN | apply below_drew1 | exact Below.refl _ _) | exact HB.out | exact (Drawn0.below HD.out) | exact Below.refl _ _))) A26.out).mono ?_); rintro e w' ⟨rfl, ⟨nd, rfl⟩⟩; refine ⟨_, rfl, ?_⟩) | ((with_reducible refine gate_callee (f := 40) rfl ?_); refine goesL_ (some 113) rfl rfl Tryd.func40 (by kernel_rfl) rfl #[.int .i32 (wrap32 (t198 + 1))] rfl (by (try simp only [List.map_toArray, List.map_cons, List.map_nil]); first | done | rfl | (simp only [List.length_drop, List.length_take]; rfl)) ?_; (with_reducible refine (date_Weekday.calls (wrap32 (t198 + 1)) t216 t217 _ A27.out).mono ?_); rintro e w' ⟨rfl, ⟨nd, rfl⟩⟩; refine ⟨_, rfl, ?_⟩))
                            go_ret
                            exact ⟨by first | rfl | (simp [errW_none, errW_some] <;> rfl) | (simp [*, errW_none, errW_some] <;> rfl), by repeat (first | (with_reducible first | exact HB.out | apply below_alloc | apply pw_below_drewN | apply below_drew1) | exact HB.out)⟩
                      · rw [if_neg c40] at H
                        have c40b0 : decide (28 ≤ t201) = false := decide_eq_false c40
                        clear c40
                        obtain rfl := Option.some.inj H
                        go_wp2_with (first | ((with_reducible refine gate_callee (f := 25) rfl ?_); refine goesL_ (some 105) rfl rfl Tryd.func25 (by kernel_rfl) rfl #[.int .i32 (wrap32 (t198 + 1))] rfl (by (try simp only [List.map_toArray, List.map_cons, List.map_nil]); first | done | rfl | (simp only [List.length_drop, List.length_take]; rfl)) ?_; (with_reducible refine (date_Split.calls (wrap32 (t198 + 1)) t212 t213 t214 t215 _ (TabsAt.below HT.out (by repeat (first | (with_reducible first | exact HB.out | apply below_alloc | apply pw_below_drewN | apply below_drew1 | exact Below.refl _ _) | exact HB.out | exact (Drawn0.below HD.out) | exact Below.refl _ _))) A26.out).mono ?_); rintro e w' ⟨rfl, ⟨nd, rfl⟩⟩; refine ⟨_, rfl, ?_⟩) | ((with_reducible refine gate_callee (f := 40) rfl ?_); refine goesL_ (some 113) rfl rfl Tryd.func40 (by kernel_rfl) rfl #[.int .i32 (wrap32 (t198 + 1))] rfl (by (try simp only [List.map_toArray, List.map_cons, List.map_nil]); first | done | rfl | (simp only [List.length_drop, List.length_take]; rfl)) ?_; (with_reducible refine (date_Weekday.calls (wrap32 (t198 + 1)) t216 t217 _ A27.out).mono ?_); rintro e w' ⟨rfl, ⟨nd, rfl⟩⟩; refine ⟨_, rfl, ?_⟩))
                        go_ret
                        exact ⟨by first | rfl | (simp [errW_none, errW_some] <;> rfl) | (simp [*, errW_none, errW_some] <;> rfl), by repeat (first | (with_reducible first | exact HB.out | apply below_alloc | apply pw_below_drewN | apply below_drew1) | exact HB.out)⟩
                    · rw [if_neg c39] at H
                      have c39b0 : (t214 == 1) = false := beq_eq_false_iff_ne.mpr c39
                      have c39b1 : (t214 != 1) = true := bne_iff_ne.mpr c39
                      obtain rfl := Option.some.inj H
                      go_wp2_with (first | ((with_reducible refine gate_callee (f := 25) rfl ?_); refine goesL_ (some 105) rfl rfl Tryd.func25 (by kernel_rfl) rfl #[.int .i32 (wrap32 (t198 + 1))] rfl (by (try simp only [List.map_toArray, List.map_cons, List.map_nil]); first | done | rfl | (simp only [List.length_drop, List.length_take]; rfl)) ?_; (with_reducible refine (date_Split.calls (wrap32 (t198 + 1)) t212 t213 t214 t215 _ (TabsAt.below HT.out (by repeat (first | (with_reducible first | exact HB.out | apply below_alloc | apply pw_below_drewN | apply below_drew1 | exact Below.refl _ _) | exact HB.out | exact (Drawn0.below HD.out) | exact Below.refl _ _))) A26.out).mono ?_); rintro e w' ⟨rfl, ⟨nd, rfl⟩⟩; refine ⟨_, rfl, ?_⟩) | ((with_reducible refine gate_callee (f := 40) rfl ?_); refine goesL_ (some 113) rfl rfl Tryd.func40 (by kernel_rfl) rfl #[.int .i32 (wrap32 (t198 + 1))] rfl (by (try simp only [List.map_toArray, List.map_cons, List.map_nil]); first | done | rfl | (simp only [List.length_drop, List.length_take]; rfl)) ?_; (with_reducible refine (date_Weekday.calls (wrap32 (t198 + 1)) t216 t217 _ A27.out).mono ?_); rintro e w' ⟨rfl, ⟨nd, rfl⟩⟩; refine ⟨_, rfl, ?_⟩))
                      go_ret
                      exact ⟨by first | rfl | (simp [errW_none, errW_some] <;> rfl) | (simp [*, errW_none, errW_some] <;> rfl), by repeat (first | (with_reducible first | exact HB.out | apply below_alloc | apply pw_below_drewN | apply below_drew1) | exact HB.out)⟩
                · rw [if_neg c31] at H
                  have c31b0 : (t212 == t199) = false := beq_eq_false_iff_ne.mpr c31
                  have c31b1 : (t212 != t199) = true := bne_iff_ne.mpr c31
                  by_cases c44 : t214 = 1
                  · rw [if_pos c44] at H
                    have c44b0 : (t214 == 1) = true := beq_iff_eq.mpr c44
                    have c44b1 : (t214 != 1) = false := bne_eq_false_iff_eq.mpr c44
                    clear c44
                    by_cases c45 : t201 ≥ 28
                    · rw [if_pos c45] at H
                      have c45b0 : decide (28 ≤ t201) = true := decide_eq_true c45
                      clear c45
                      by_cases c46 : t212 = (wrap64 (t199 + 1))
                      · rw [if_pos c46] at H
                        have c46b0 : (t212 == (wrap64 (t199 + 1))) = true := beq_iff_eq.mpr c46
                        have c46b1 : (t212 != (wrap64 (t199 + 1))) = false := bne_eq_false_iff_eq.mpr c46
                        clear c46
                        by_cases c47 : t213 = 1
                        · rw [if_pos c47] at H
                          have c47b0 : (t213 == 1) = true := beq_iff_eq.mpr c47
                          have c47b1 : (t213 != 1) = false := bne_eq_false_iff_eq.mpr c47
                          clear c47
                          obtain rfl := Option.some.inj H
                          go_wp2_with (first | ((with_reducible refine gate_callee (f := 25) rfl ?_); refine goesL_ (some 105) rfl rfl Tryd.func25 (by kernel_rfl) rfl #[.int .i32 (wrap32 (t198 + 1))] rfl (by (try simp only [List.map_toArray, List.map_cons, List.map_nil]); first | done | rfl | (simp only [List.length_drop, List.length_take]; rfl)) ?_; (with_reducible refine (date_Split.calls (wrap32 (t198 + 1)) t212 t213 t214 t215 _ (TabsAt.below HT.out (by repeat (first | (with_reducible first | exact HB.out | apply below_alloc | apply pw_below_drewN | apply below_drew1 | exact Below.refl _ _) | exact HB.out | exact (Drawn0.below HD.out) | exact Below.refl _ _))) A26.out).mono ?_); rintro e w' ⟨rfl, ⟨nd, rfl⟩⟩; refine ⟨_, rfl, ?_⟩) | ((with_reducible refine gate_callee (f := 40) rfl ?_); refine goesL_ (some 113) rfl rfl Tryd.func40 (by kernel_rfl) rfl #[.int .i32 (wrap32 (t198 + 1))] rfl (by (try simp only [List.map_toArray, List.map_cons, List.map_nil]); first | done | rfl | (simp only [List.length_drop, List.length_take]; rfl)) ?_; (with_reducible refine (date_Weekday.calls (wrap32 (t198 + 1)) t216 t217 _ A27.out).mono ?_); rintro e w' ⟨rfl, ⟨nd, rfl⟩⟩; refine ⟨_, rfl, ?_⟩))
                          go_ret
                          exact ⟨by first | rfl | (simp [errW_none, errW_some] <;> rfl) | (simp [*, errW_none, errW_some] <;> rfl), by repeat (first | (with_reducible first | exact HB.out | apply below_alloc | apply pw_below_drewN | apply below_drew1) | exact HB.out)⟩
                        · rw [if_neg c47] at H
                          have c47b0 : (t213 == 1) = false := beq_eq_false_iff_ne.mpr c47
                          have c47b1 : (t213 != 1) = true := bne_iff_ne.mpr c47
                          obtain rfl := Option.some.inj H
                          go_wp2_with (first | ((with_reducible refine gate_callee (f := 25) rfl ?_); refine goesL_ (some 105) rfl rfl Tryd.func25 (by kernel_rfl) rfl #[.int .i32 (wrap32 (t198 + 1))] rfl (by (try simp only [List.map_toArray, List.map_cons, List.map_nil]); first | done | rfl | (simp only [List.length_drop, List.length_take]; rfl)) ?_; (with_reducible refine (date_Split.calls (wrap32 (t198 + 1)) t212 t213 t214 t215 _ (TabsAt.below HT.out (by repeat (first | (with_reducible first | exact HB.out | apply below_alloc | apply pw_below_drewN | apply below_drew1 | exact Below.refl _ _) | exact HB.out | exact (Drawn0.below HD.out) | exact Below.refl _ _))) A26.out).mono ?_); rintro e w' ⟨rfl, ⟨nd, rfl⟩⟩; refine ⟨_, rfl, ?_⟩) | ((with_reducible refine gate_callee (f := 40) rfl ?_); refine goesL_ (some 113) rfl rfl Tryd.func40 (by kernel_rfl) rfl #[.int .i32 (wrap32 (t198 + 1))] rfl (by (try simp only [List.map_toArray, List.map_cons, List.map_nil]); first | done | rfl | (simp only [List.length_drop, List.length_take]; rfl)) ?_; (with_reducible refine (date_Weekday.calls (wrap32 (t198 + 1)) t216 t217 _ A27.out).mono ?_); rintro e w' ⟨rfl, ⟨nd, rfl⟩⟩; refine ⟨_, rfl, ?_⟩))
                          go_ret
                          exact ⟨by first | rfl | (simp [errW_none, errW_some] <;> rfl) | (simp [*, errW_none, errW_some] <;> rfl), by repeat (first | (with_reducible first | exact HB.out | apply below_alloc | apply pw_below_drewN | apply below_drew1) | exact HB.out)⟩
                      · rw [if_neg c46] at H
                        have c46b0 : (t212 == (wrap64 (t199 + 1))) = false := beq_eq_false_iff_ne.mpr c46
                        have c46b1 : (t212 != (wrap64 (t199 + 1))) = true := bne_iff_ne.mpr c46
                        obtain rfl := Option.some.inj H
                        go_wp2_with (first | ((with_reducible refine gate_callee (f := 25) rfl ?_); refine goesL_ (some 105) rfl rfl Tryd.func25 (by kernel_rfl) rfl #[.int .i32 (wrap32 (t198 + 1))] rfl (by (try simp only [List.map_toArray, List.map_cons, List.map_nil]); first | done | rfl | (simp only [List.length_drop, List.length_take]; rfl)) ?_; (with_reducible refine (date_Split.calls (wrap32 (t198 + 1)) t212 t213 t214 t215 _ (TabsAt.below HT.out (by repeat (first | (with_reducible first | exact HB.out | apply below_alloc | apply pw_below_drewN | apply below_drew1 | exact Below.refl _ _) | exact HB.out | exact (Drawn0.below HD.out) | exact Below.refl _ _))) A26.out).mono ?_); rintro e w' ⟨rfl, ⟨nd, rfl⟩⟩; refine ⟨_, rfl, ?_⟩) | ((with_reducible refine gate_callee (f := 40) rfl ?_); refine goesL_ (some 113) rfl rfl Tryd.func40 (by kernel_rfl) rfl #[.int .i32 (wrap32 (t198 + 1))] rfl (by (try simp only [List.map_toArray, List.map_cons, List.map_nil]); first | done | rfl | (simp only [List.length_drop, List.length_take]; rfl)) ?_; (with_reducible refine (date_Weekday.calls (wrap32 (t198 + 1)) t216 t217 _ A27.out).mono ?_); rintro e w' ⟨rfl, ⟨nd, rfl⟩⟩; refine ⟨_, rfl, ?_⟩))
                        go_ret
                        exact ⟨by first | rfl | (simp [errW_none, errW_some] <;> rfl) | (simp [*, errW_none, errW_some] <;> rfl), by repeat (first | (with_reducible first | exact HB.out | apply below_alloc | apply pw_below_drewN | apply below_drew1) | exact HB.out)⟩
                    · rw [if_neg c45] at H
                      have c45b0 : decide (28 ≤ t201) = false := decide_eq_false c45
                      clear c45
                      obtain rfl := Option.some.inj H
                      go_wp2_with (first | ((with_reducible refine gate_callee (f := 25) rfl ?_); refine goesL_ (some 105) rfl rfl Tryd.func25 (by kernel_rfl) rfl #[.int .i32 (wrap32 (t198 + 1))] rfl (by (try simp only [List.map_toArray, List.map_cons, List.map_nil]); first | done | rfl | (simp only [List.length_drop, List.length_take]; rfl)) ?_; (with_reducible refine (date_Split.calls (wrap32 (t198 + 1)) t212 t213 t214 t215 _ (TabsAt.below HT.out (by repeat (first | (with_reducible first | exact HB.out | apply below_alloc | apply pw_below_drewN | apply below_drew1 | exact Below.refl _ _) | exact HB.out | exact (Drawn0.below HD.out) | exact Below.refl _ _))) A26.out).mono ?_); rintro e w' ⟨rfl, ⟨nd, rfl⟩⟩; refine ⟨_, rfl, ?_⟩) | ((with_reducible refine gate_callee (f := 40) rfl ?_); refine goesL_ (some 113) rfl rfl Tryd.func40 (by kernel_rfl) rfl #[.int .i32 (wrap32 (t198 + 1))] rfl (by (try simp only [List.map_toArray, List.map_cons, List.map_nil]); first | done | rfl | (simp only [List.length_drop, List.length_take]; rfl)) ?_; (with_reducible refine (date_Weekday.calls (wrap32 (t198 + 1)) t216 t217 _ A27.out).mono ?_); rintro e w' ⟨rfl, ⟨nd, rfl⟩⟩; refine ⟨_, rfl, ?_⟩))
                      go_ret
                      exact ⟨by first | rfl | (simp [errW_none, errW_some] <;> rfl) | (simp [*, errW_none, errW_some] <;> rfl), by repeat (first | (with_reducible first | exact HB.out | apply below_alloc | apply pw_below_drewN | apply below_drew1) | exact HB.out)⟩
                  · rw [if_neg c44] at H
                    have c44b0 : (t214 == 1) = false := beq_eq_false_iff_ne.mpr c44
                    have c44b1 : (t214 != 1) = true := bne_iff_ne.mpr c44
                    obtain rfl := Option.some.inj H
                    go_wp2_with (first | ((with_reducible refine gate_callee (f := 25) rfl ?_); refine goesL_ (some 105) rfl rfl Tryd.func25 (by kernel_rfl) rfl #[.int .i32 (wrap32 (t198 + 1))] rfl (by (try simp only [List.map_toArray, List.map_cons, List.map_nil]); first | done | rfl | (simp only [List.length_drop, List.length_take]; rfl)) ?_; (with_reducible refine (date_Split.calls (wrap32 (t198 + 1)) t212 t213 t214 t215 _ (TabsAt.below HT.out (by repeat (first | (with_reducible first | exact HB.out | apply below_alloc | apply pw_below_drewN | apply below_drew1 | exact Below.refl _ _) | exact HB.out | exact (Drawn0.below HD.out) | exact Below.refl _ _))) A26.out).mono ?_); rintro e w' ⟨rfl, ⟨nd, rfl⟩⟩; refine ⟨_, rfl, ?_⟩) | ((with_reducible refine gate_callee (f := 40) rfl ?_); refine goesL_ (some 113) rfl rfl Tryd.func40 (by kernel_rfl) rfl #[.int .i32 (wrap32 (t198 + 1))] rfl (by (try simp only [List.map_toArray, List.map_cons, List.map_nil]); first | done | rfl | (simp only [List.length_drop, List.length_take]; rfl)) ?_; (with_reducible refine (date_Weekday.calls (wrap32 (t198 + 1)) t216 t217 _ A27.out).mono ?_); rintro e w' ⟨rfl, ⟨nd, rfl⟩⟩; refine ⟨_, rfl, ?_⟩))
                    go_ret
                    exact ⟨by first | rfl | (simp [errW_none, errW_some] <;> rfl) | (simp [*, errW_none, errW_some] <;> rfl), by repeat (first | (with_reducible first | exact HB.out | apply below_alloc | apply pw_below_drewN | apply below_drew1) | exact HB.out)⟩
              · rw [if_neg c30] at H
                have c30b0 : (t216 == (Int.tmod (wrap64 (t209 + 1)) 7)) = false := beq_eq_false_iff_ne.mpr c30
                have c30b1 : (t216 != (Int.tmod (wrap64 (t209 + 1)) 7)) = true := bne_iff_ne.mpr c30
                obtain rfl := Option.some.inj H
                go_wp2_with (first | ((with_reducible refine gate_callee (f := 25) rfl ?_); refine goesL_ (some 105) rfl rfl Tryd.func25 (by kernel_rfl) rfl #[.int .i32 (wrap32 (t198 + 1))] rfl (by (try simp only [List.map_toArray, List.map_cons, List.map_nil]); first | done | rfl | (simp only [List.length_drop, List.length_take]; rfl)) ?_; (with_reducible refine (date_Split.calls (wrap32 (t198 + 1)) t212 t213 t214 t215 _ (TabsAt.below HT.out (by repeat (first | (with_reducible first | exact HB.out | apply below_alloc | apply pw_below_drewN | apply below_drew1 | exact Below.refl _ _) | exact HB.out | exact (Drawn0.below HD.out) | exact Below.refl _ _))) A26.out).mono ?_); rintro e w' ⟨rfl, ⟨nd, rfl⟩⟩; refine ⟨_, rfl, ?_⟩) | ((with_reducible refine gate_callee (f := 40) rfl ?_); refine goesL_ (some 113) rfl rfl Tryd.func40 (by kernel_rfl) rfl #[.int .i32 (wrap32 (t198 + 1))] rfl (by (try simp only [List.map_toArray, List.map_cons, List.map_nil]); first | done | rfl | (simp only [List.length_drop, List.length_take]; rfl)) ?_; (with_reducible refine (date_Weekday.calls (wrap32 (t198 + 1)) t216 t217 _ A27.out).mono ?_); rintro e w' ⟨rfl, ⟨nd, rfl⟩⟩; refine ⟨_, rfl, ?_⟩))
                go_ret
                exact ⟨by first | rfl | (simp [errW_none, errW_some] <;> rfl) | (simp [*, errW_none, errW_some] <;> rfl), by repeat (first | (with_reducible first | exact HB.out | apply below_alloc | apply pw_below_drewN | apply below_drew1) | exact HB.out)⟩
            · rw [if_neg c29] at H
              have c29b0 : (t217 == 0) = false := beq_eq_false_iff_ne.mpr c29
              have c29b1 : (t217 != 0) = true := bne_iff_ne.mpr c29
              obtain rfl := Option.some.inj H
              go_wp2_with (first | ((with_reducible refine gate_callee (f := 25) rfl ?_); refine goesL_ (some 105) rfl rfl Tryd.func25 (by kernel_rfl) rfl #[.int .i32 (wrap32 (t198 + 1))] rfl (by (try simp only [List.map_toArray, List.map_cons, List.map_nil]); first | done | rfl | (simp only [List.length_drop, List.length_take]; rfl)) ?_; (with_reducible refine (date_Split.calls (wrap32 (t198 + 1)) t212 t213 t214 t215 _ (TabsAt.below HT.out (by repeat (first | (with_reducible first | exact HB.out | apply below_alloc | apply pw_below_drewN | apply below_drew1 | exact Below.refl _ _) | exact HB.out | exact (Drawn0.below HD.out) | exact Below.refl _ _))) A26.out).mono ?_); rintro e w' ⟨rfl, ⟨nd, rfl⟩⟩; refine ⟨_, rfl, ?_⟩) | ((with_reducible refine gate_callee (f := 40) rfl ?_); refine goesL_ (some 113) rfl rfl Tryd.func40 (by kernel_rfl) rfl #[.int .i32 (wrap32 (t198 + 1))] rfl (by (try simp only [List.map_toArray, List.map_cons, List.map_nil]); first | done | rfl | (simp only [List.length_drop, List.length_take]; rfl)) ?_; (with_reducible refine (date_Weekday.calls (wrap32 (t198 + 1)) t216 t217 _ A27.out).mono ?_); rintro e w' ⟨rfl, ⟨nd, rfl⟩⟩; refine ⟨_, rfl, ?_⟩))
              go_ret
              exact ⟨by first | rfl | (simp [errW_none, errW_some] <;> rfl) | (simp [*, errW_none, errW_some] <;> rfl), by repeat (first | (with_reducible first | exact HB.out | apply below_alloc | apply pw_below_drewN | apply below_drew1) | exact HB.out)⟩
          · rw [if_neg c28] at H
            have c28b0 : (t215 == 0) = false := beq_eq_false_iff_ne.mpr c28
            have c28b1 : (t215 != 0) = true := bne_iff_ne.mpr c28
            obtain rfl := Option.some.inj H
            go_wp2_with (first | ((with_reducible refine gate_callee (f := 25) rfl ?_); refine goesL_ (some 105) rfl rfl Tryd.func25 (by kernel_rfl) rfl #[.int .i32 (wrap32 (t198 + 1))] rfl (by (try simp only [List.map_toArray, List.map_cons, List.map_nil]); first | done | rfl | (simp only [List.length_drop, List.length_take]; rfl)) ?_; (with_reducible refine (date_Split.calls (wrap32 (t198 + 1)) t212 t213 t214 t215 _ (TabsAt.below HT.out (by repeat (first | (with_reducible first | exact HB.out | apply below_alloc | apply pw_below_drewN | apply below_drew1 | exact Below.refl _ _) | exact HB.out | exact (Drawn0.below HD.out) | exact Below.refl _ _))) A26.out).mono ?_); rintro e w' ⟨rfl, ⟨nd, rfl⟩⟩; refine ⟨_, rfl, ?_⟩) | ((with_reducible refine gate_callee (f := 40) rfl ?_); refine goesL_ (some 113) rfl rfl Tryd.func40 (by kernel_rfl) rfl #[.int .i32 (wrap32 (t198 + 1))] rfl (by (try simp only [List.map_toArray, List.map_cons, List.map_nil]); first | done | rfl | (simp only [List.length_drop, List.length_take]; rfl)) ?_; (with_reducible refine (date_Weekday.calls (wrap32 (t198 + 1)) t216 t217 _ A27.out).mono ?_); rintro e w' ⟨rfl, ⟨nd, rfl⟩⟩; refine ⟨_, rfl, ?_⟩))
            go_ret
            exact ⟨by first | rfl | (simp [errW_none, errW_some] <;> rfl) | (simp [*, errW_none, errW_some] <;> rfl), by repeat (first | (with_reducible first | exact HB.out | apply below_alloc | apply pw_below_drewN | apply below_drew1) | exact HB.out)⟩

end Go.Proofs.YtamfbfhkojnafaaDoor.PD4
