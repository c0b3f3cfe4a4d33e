import Derived.Test.YtamfbfhkojnafaaDoorCalU
namespace Go.Proofs.YtamfbfhkojnafaaDoor
open Go.RowKit Go.Proofs.YtamfbfhkojnafaaDoor.PC6 Go.Proofs.YtamfbfhkojnafaaDoorW.PrintWords
set_option linter.unusedVariables false
set_option linter.unusedSimpArgs false
set_option linter.unusedSectionVars false

theorem refStep_calls (A : Option Addr) (c : Nat) (l : List S44) (known d b : Int) (w : World) (hr : Kd.C k44 w A l.length l) (hc : l.length ≤ c) (hm : l.length ≤ 1000) (hb : b = 1 ∨ b = -1) (h1 : -50001 ≤ d) (h2 : d ≤ 50001) :
    Calls Tryd.prog 56 #[.slice A l.length c, .int .i32 known, .int .i32 d, .int .i32 b] w fun e w' => e = .returned (.tuple #[.int .i32 (optS (nextD (openB l known) b d)).1, .bool (optS (nextD (openB l known) b d)).2]) ∧ Below w.heap.size w w' := by
  obtain ⟨k, hk⟩ := (refStep_ev l hm known b d hb h1 h2).rounds
  exact cashbookref06_step.calls k A c l known d b _ _ w hr hc hk
theorem month_of {x y m d : Int} (h : Civ x y m d) : m = monthOf x := (civ_unique h (sp_civ x)).2.1

def cashbookref06_Roll.f (l : List S44) (known d how : Int) : Option (Int × Bool) := if l.length ≤ 1000 ∧ dayB d = true then some (optS (rollF (openB l known) d how)) else none

set_option maxHeartbeats 2000000 in
theorem refRoll_calls (A : Option Addr) (c : Nat) (l : List S44) (known d how : Int) (w : World) (hr : Kd.C k44 w A l.length l) (hc : l.length ≤ c) (hm : l.length ≤ 1000) (hd : dayB d = true) :
    Calls Tryd.prog 22 #[.slice A l.length c, .int .i32 known, .int .i32 d, .int .i64 how] w fun e w' => e = .returned (.tuple #[.int .i32 (optS (rollF (openB l known) d how)).1, .bool (optS (rollF (openB l known) d how)).2]) ∧ Below w.heap.size w w' := by
  have HR := Lib.hid hr; clear hr
  obtain ⟨d1, d2⟩ := (dayB_iff d).1 hd
  clear hd
  by_cases h2 : how = 2
  · subst h2
    have hres : rollF (openB l known) d 2 = nextD (openB l known) (-1) d := rfl
    rw [hres]
    go_enter Tryd.func22, Tryd.ntmps22
    go_wp2_with fail
    refine (refStep_calls _ _ _ _ _ _ _ HR.out hc hm (by omega) (by omega) (by omega)).mono ?_; rintro e w1 ⟨rfl, hb1⟩
    go_wp2_with fail
    go_ret2
    exact ⟨rfl, hb1⟩
  · have h2b : (how == 2) = false := by simpa using h2
    by_cases h0 : how = 0
    · subst h0
      have hres : rollF (openB l known) d 0 = nextD (openB l known) 1 d := rfl
      rw [hres]
      go_enter Tryd.func22, Tryd.ntmps22
      go_wp2_with fail
      refine (refStep_calls _ _ _ _ _ _ _ HR.out hc hm (by omega) (by omega) (by omega)).mono ?_; rintro e w1 ⟨rfl, hb1⟩
      go_wp2_with fail
      go_ret2
      exact ⟨rfl, hb1⟩
    · have h0b : (how == 0) = false := by simpa using h0
      have hres : rollF (openB l known) d how = match nextD (openB l known) 1 d with | none => nextD (openB l known) (-1) d | some y => if monthOf d = monthOf y then some y else nextD (openB l known) (-1) d := by
        unfold rollF; rw [if_neg h2, if_neg h0]; rfl
      rw [hres]
      clear hres h0 h2
      cases hx : nextD (openB l known) 1 d with
      | none =>
        have HX := Lib.hid hx
        clear hx
        simp only
        go_enter Tryd.func22, Tryd.ntmps22
        go_wp2_with fail
        refine (refStep_calls _ _ _ _ _ _ _ HR.out hc hm (by omega) (by omega) (by omega)).mono ?_; rintro e w1 ⟨rfl, hb1⟩; rw [HX.out]; simp only [optS]
        go_wp2_with fail
        refine (refStep_calls _ _ _ _ _ _ _ (Kd.C_below HR.out hb1) hc hm (by omega) (by omega) (by omega)).mono ?_; rintro e w2 ⟨rfl, hb2⟩
        go_wp2_with fail
        go_ret2
        exact ⟨rfl, below2 hb1 hb2⟩
      | some y =>
        have hy := nextD_in hx
        obtain ⟨y1, y2⟩ := hy
        have HX := Lib.hid hx
        clear hx
        simp only
        by_cases hmo : monthOf d = monthOf y
        · rw [if_pos hmo]
          go_enter Tryd.func22, Tryd.ntmps22
          go_wp2_with fail
          refine (refStep_calls _ _ _ _ _ _ _ HR.out hc hm (by omega) (by omega) (by omega)).mono ?_; rintro e w1 ⟨rfl, hb1⟩; rw [HX.out]; simp only [optS]
          go_wp2_with fail
          refine (parts_calls y _ y1 y2).mono ?_; rintro e w2 ⟨ya, yb, yc, rfl, hy, hb2⟩
          have i0 : ∀ w, (Instr.index 64 (.agg #[.int .i64 ya, .int .i64 yb, .int .i64 yc]) (.int .i64 1)).run Tryd.prog w = .ok (.int .i64 yb) w := fun _ => by kernel_rfl
          go_wp2_with fail
          refine (parts_calls d _ d1 d2).mono ?_; rintro e w3 ⟨da, db, dc, rfl, hd, hb3⟩
          have i1 : ∀ w, (Instr.index 64 (.agg #[.int .i64 da, .int .i64 db, .int .i64 dc]) (.int .i64 1)).run Tryd.prog w = .ok (.int .i64 db) w := fun _ => by kernel_rfl
          have hyb := month_of hy.out
          have hdb := month_of hd.out
          have heq : (yb == db) = true := by rw [hyb, hdb, hmo]; simp
          clear hyb hdb hmo
          go_wp2_with fail
          go_ret2
          exact ⟨rfl, below3 hb1 hb2 hb3⟩
        · rw [if_neg hmo]
          go_enter Tryd.func22, Tryd.ntmps22
          go_wp2_with fail
          refine (refStep_calls _ _ _ _ _ _ _ HR.out hc hm (by omega) (by omega) (by omega)).mono ?_; rintro e w1 ⟨rfl, hb1⟩; rw [HX.out]; simp only [optS]
          go_wp2_with fail
          refine (parts_calls y _ y1 y2).mono ?_; rintro e w2 ⟨ya, yb, yc, rfl, hy, hb2⟩
          have i0 : ∀ w, (Instr.index 64 (.agg #[.int .i64 ya, .int .i64 yb, .int .i64 yc]) (.int .i64 1)).run Tryd.prog w = .ok (.int .i64 yb) w := fun _ => by kernel_rfl
          go_wp2_with fail
          refine (parts_calls d _ d1 d2).mono ?_; rintro e w3 ⟨da, db, dc, rfl, hd, hb3⟩
          have i1 : ∀ w, (Instr.index 64 (.agg #[.int .i64 da, .int .i64 db, .int .i64 dc]) (.int .i64 1)).run Tryd.prog w = .ok (.int .i64 db) w := fun _ => by kernel_rfl
          have hyb := month_of hy.out
          have hdb := month_of hd.out
          have heq : (yb == db) = false := by rw [hyb, hdb]; simp; exact fun h => hmo h.symm
          clear hyb hdb hmo
          go_wp2_with fail
          refine (refStep_calls _ _ _ _ _ _ _ (Kd.C_below (Kd.C_below (Kd.C_below HR.out hb1) hb2) hb3) hc hm (by omega) (by omega) (by omega)).mono ?_; rintro e w4 ⟨rfl, hb4⟩
          go_wp2_with fail
          go_ret2
          exact ⟨rfl, below2 (below3 hb1 hb2 hb3) hb4⟩
theorem cashbookref06_Roll.calls (A0 : Option Addr) (c0 : Nat) (l0 : List S44) (a1 a2 a3 : Int) (r1 : Int) (r2 : Bool) (w : World) (hr0 : Kd.C k44 w A0 l0.length l0) (hc0 : l0.length ≤ c0) (h : cashbookref06_Roll.f l0 a1 a2 a3 = some (r1, r2)) :
    Calls Tryd.prog 22 #[.slice A0 l0.length c0, .int .i32 a1, .int .i32 a2, .int .i64 a3] w fun e w' => e = .returned (.tuple #[.int .i32 r1, .bool r2]) ∧ Below w.heap.size w w' := by
  unfold cashbookref06_Roll.f at h
  by_cases hm : l0.length ≤ 1000 ∧ dayB a2 = true
  · rw [if_pos hm] at h
    have h := Option.some.inj h
    have := refRoll_calls A0 c0 l0 a1 a2 a3 w hr0 hc0 hm.1 hm.2
    rw [h] at this; exact this
  · rw [if_neg hm] at h; cases h
end Go.Proofs.YtamfbfhkojnafaaDoor
