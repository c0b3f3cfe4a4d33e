import Derived.Test.YtamfbfhkojnafaaDoorCalO
namespace Go.Proofs.YtamfbfhkojnafaaDoor
open Go.RowKit Go.Proofs.YtamfbfhkojnafaaDoorW.PrintWords

def date_Split.f (a : Int) : Option (Int × Int × Int × Int) := if dayB a then some ((spRes a).1, (spRes a).2.1, (spRes a).2.2, 0) else some (0, 0, 0, 11)
set_option maxHeartbeats 400000 in
theorem split_no (a : Int) (w : World) (h : dayB a = false) :
   Calls Tryd.prog 25 #[.int .i32 a] w fun e w' => e = .returned (.tuple #[.int .i64 0, .int .i64 0, .int .i64 0, .int .i64 11]) ∧ w = w' := by
  go_enter Tryd.func25, Tryd.ntmps25
  go_wp2_with (go_at_call 43; refine (dateRight_day a _).mono ?_; rintro e w' ⟨rfl, rfl⟩; rw [h])
  refine bodyPost_ret (v := .tuple #[.int .i64 0, .int .i64 0, .int .i64 0, .int .i64 11]) (by simp [results, Tryd.results25, go_sem]) rfl ⟨rfl, rfl⟩
theorem date_Split.calls (a0 : Int) (r1 r2 r3 r4 : Int) (w : World) (hT : BefAt w) (h : date_Split.f a0 = some (r1, r2, r3, r4)) :
    Calls Tryd.prog 25 #[.int .i32 a0] w fun e w' => e = .returned (.tuple #[.int .i64 r1, .int .i64 r2, .int .i64 r3, .int .i64 r4]) ∧ Drawn0 w w' := by
  unfold date_Split.f at h
  cases hd : dayB a0 with
  | true =>
    rw [if_pos hd] at h
    simp only [Option.some.injEq, Prod.mk.injEq] at h
    obtain ⟨rfl, rfl, rfl, rfl⟩ := h
    have hb := (dayB_iff a0).1 hd
    exact (split_yes a0 w hb.1 hb.2 hT).mono fun e w' ⟨he, hw⟩ => ⟨he, ⟨hw⟩⟩
  | false =>
    rw [if_neg (by rw [hd]; decide)] at h
    simp only [Option.some.injEq, Prod.mk.injEq] at h
    obtain ⟨rfl, rfl, rfl, rfl⟩ := h
    exact (split_no a0 w hd).mono fun e w' ⟨he, hw⟩ => ⟨he, by subst hw; exact Drawn0.refl _⟩
end Go.Proofs.YtamfbfhkojnafaaDoor
