import Derived.Test.YtamfbfhkojnafaaDoorProg
import Derived.WalkKit
import Derived.Below
import Derived.Deep.QuietTactic
import Derived.BigQuiet
import Derived.Outline
import Derived.Says
import Derived.LoopTactic
import Derived.Lib.Hide
import Derived.Test.YtamfbfhkojnafaaDoorCal
namespace Go.Proofs.YtamfbfhkojnafaaDoor
open Go.RowKit

theorem dateRight_any (a : Int) (w : World) : Calls Tryd.prog 43 #[.int .i32 a] w fun e w' => e = .returned (.bool (decide (-50000 ≤ a ∧ a ≤ 50000))) ∧ w = w' := by
  by_cases h1 : -50000 ≤ a
  · have h1b : decide (-50000 ≤ a) = true := by simpa using h1
    go_enter Tryd.func43, Tryd.ntmps43
    go_wp2
    go_ret
    exact ⟨by simp [h1], rfl⟩
  · have h1b : decide (-50000 ≤ a) = false := by simpa using h1
    go_enter Tryd.func43, Tryd.ntmps43
    go_wp2
    go_ret
    exact ⟨by simp [h1], rfl⟩

/-- the table in a world -/
def BefAt (w : World) : Prop := ∀ i : Nat, i < 12 → w.cell? ⟨0, i, none⟩ = some (.int .i64 (befN i))

set_option maxHeartbeats 1000000 in
theorem split_yes (a : Int) (w : World) (h1 : -50000 ≤ a) (h2 : a ≤ 50000) (ht : BefAt w) :
   Calls Tryd.prog 25 #[.int .i32 a] w fun e w' => e = .returned (.tuple #[.int .i64 (spRes a).1, .int .i64 (spRes a).2.1, .int .i64 (spRes a).2.2, .int .i64 0]) ∧ ∃ n, w' = w.drewN n := by
  have hr : decide (-50000 ≤ a ∧ a ≤ 50000) = true := by simp [h1, h2]
  have HT := Lib.hid ht; clear ht
  have hb := sp_bd a
  have eN : (a + 730425) % 146097 = spN a := rfl
  have eY : (spN a - spN a / 1460 + spN a / 36524 - spN a / 146096) / 365 = spY a := rfl
  have eD : spN a - (spY a * 365 + spY a / 4 - spY a / 100) = spD a := rfl
  obtain ⟨b1, b2, b3, b4, b5, b6⟩ := hb
  go_enter Tryd.func25, Tryd.ntmps25
  go_wp2_with (go_at_call 43; refine (dateRight_any a _).mono ?_; rintro e w' ⟨rfl, rfl⟩)
  go_loop [9] (fun m => ∃ k : Nat, k ≤ 11 ∧ m = .int .i64 k ∧ spM 11 (spD a) = spM k (spD a)) (fun m => (intOf m).toNat)
  case atStart => exact ⟨11, by omega, rfl, rfl⟩
  case round =>
    obtain ⟨k, hk, rfl, hs0⟩ := hrel
    have hs := Lib.hid hs0
    clear hs0
    have hc := HT.out k (by omega)
    have hbk := bef_bd k
    by_cases hlt : spD a < befN k
    · have hk1 : 1 ≤ k := by
        rcases Nat.eq_zero_or_pos k with h | h
        · subst h; simp [befN, bef] at hlt; omega
        · exact h
      have hz : spM k (spD a) = spM (k - 1) (spD a) := by
        obtain ⟨j, rfl⟩ : ∃ j, k = j + 1 := ⟨k - 1, by omega⟩
        rw [spM, if_pos hlt]; rfl
      have hz' := Lib.hid hz
      clear hz
      have hl : decide (spD a < befN k) = true := by simpa using hlt
      go_wp2
      go_round
      case rel => exact ⟨k - 1, by omega, by congr 1; omega, by rw [hs.out, hz'.out]⟩
      case measure => simp [intOf]; omega
    · have hz : spM k (spD a) = k := by
        rcases Nat.eq_zero_or_pos k with h | h
        · subst h; rfl
        · obtain ⟨j, rfl⟩ : ∃ j, k = j + 1 := ⟨k - 1, by omega⟩
          rw [spM, if_neg hlt]
      have hres : spRes a = if (k : Int) + 3 > 12 then (spY a + 400 * ((a + 730425) / 146097) + 1, (k : Int) + 3 - 12, spD a - befN k + 1) else (spY a + 400 * ((a + 730425) / 146097), (k : Int) + 3, spD a - befN k + 1) := by
        unfold spRes; rw [hs.out, hz]
      have hres' := Lib.hid hres
      clear hres hz
      have hl : decide (spD a < befN k) = false := by simpa using hlt
      by_cases h12 : (k : Int) + 3 > 12
      · have h12b : decide (12 < (k : Int) + 3) = true := by simpa using h12
        go_wp2
        go_quiet (fail)
        go_wp2
        refine bodyPost_ret (v := .tuple #[.int .i64 _, .int .i64 _, .int .i64 _, .int .i64 0]) (by simp [results, Tryd.results25, go_sem]; exact ⟨rfl, rfl, rfl⟩) rfl ?_
        rw [hres'.out, if_pos (by omega)]
        exact ⟨rfl, _, rfl⟩
      · have h12b : decide (12 < (k : Int) + 3) = false := by simpa using h12
        go_wp2
        go_quiet (fail)
        go_wp2
        refine bodyPost_ret (v := .tuple #[.int .i64 _, .int .i64 _, .int .i64 _, .int .i64 0]) (by simp [results, Tryd.results25, go_sem]; exact ⟨rfl, rfl, rfl⟩) rfl ?_
        rw [hres'.out, if_neg (by omega)]
        exact ⟨rfl, _, rfl⟩
end Go.Proofs.YtamfbfhkojnafaaDoor
