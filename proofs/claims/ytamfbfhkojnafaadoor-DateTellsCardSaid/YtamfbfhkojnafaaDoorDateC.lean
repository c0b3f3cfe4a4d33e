import Derived.Test.YtamfbfhkojnafaaDoorPD4x0
import Derived.Test.YtamfbfhkojnafaaDoorDateP
import Derived.Test.YtamfbfhkojnafaaDoorShelf
import Derived.Test.YtamfbfhkojnafaaDoorCiv
import Derived.Lib.LaidTab
import Derived.Lib.AppendIntMem
namespace Go.Proofs.YtamfbfhkojnafaaDoor
open Go.RowKit Go.Proofs.YtamfbfhkojnafaaDoorW.PrintWords
set_option linter.unusedVariables false
set_option linter.unusedSimpArgs false
set_option linter.unusedSectionVars false

/-- The tables that the date laws lean on. -/
structure TabsAt (w : World) : Prop where
  bef : BefAt w
  pow : Lib.TabIs Tryd.prog w "internal/strconv.uint64pow10" .u64 Lib.pow10Tab
  big : 1 < w.heap.size
theorem gPow : Tryd.prog.globalNamed "internal/strconv.uint64pow10" = some 1 := by kernel_rfl
theorem TabsAt.below {w w' : World} (h : TabsAt w) (hb : Below w.heap.size w w') : TabsAt w' := by
  refine ⟨h.bef.below hb, ?_, Nat.lt_of_lt_of_le h.big hb.size⟩
  have hp := h.pow
  unfold Lib.TabIs World.var? at hp ⊢
  simp only [gPow, Option.bind_some] at hp ⊢
  rw [hb.block _ h.big]
  exact hp

namespace PD4
theorem size_lit1 (b : UInt8) : (⟨#[b]⟩ : ByteArray).size = 1 := rfl
theorem size_lit2 (b c : UInt8) : (⟨#[b, c]⟩ : ByteArray).size = 2 := rfl
def date_Split.f (a : Int) : Option (Int × Int × Int × Int) := Go.Proofs.YtamfbfhkojnafaaDoor.date_Split.f a
theorem date_Split.calls (a0 : Int) (r1 r2 r3 r4 : Int) (w : World) (hT : TabsAt w) (h : date_Split.f a0 = some (r1, r2, r3, r4)) :
    Calls Tryd.prog 25 #[.int .i32 a0] w fun e w' => e = .returned (.tuple #[.int .i64 r1, .int .i64 r2, .int .i64 r3, .int .i64 r4]) ∧ Drawn0 w w' :=
  Go.Proofs.YtamfbfhkojnafaaDoor.date_Split.calls a0 r1 r2 r3 r4 w hT.bef h

/-- The days from 1 March 0 on. -/
def daysF (y m d : Int) : Int :=
  if m ≤ 2 then (y - 1) * 365 + (y - 1) / 4 - (y - 1) / 100 + (y - 1) / 400 + befN (m + 9).toNat + d - 1
  else y * 365 + y / 4 - y / 100 + y / 400 + befN (m - 3).toNat + d - 1
def date_days.f (y m d : Int) : Option Int := if (1 ≤ y ∧ y ≤ 9999) ∧ (1 ≤ m ∧ m ≤ 12) ∧ (1 ≤ d ∧ d ≤ 31) then some (daysF y m d) else none
set_option maxHeartbeats 1000000 in
theorem date_days.calls (a0 a1 a2 : Int) (r : Int) (w : World) (hT : TabsAt w) (h : date_days.f a0 a1 a2 = some r) :
    Calls Tryd.prog 59 #[.int .i64 a0, .int .i64 a1, .int .i64 a2] w fun e w' => e = .returned (.int .i64 r) ∧ Drawn0 w w' := by
  unfold date_days.f at h
  split at h
  · rename_i hc
    obtain ⟨⟨y1, y2⟩, ⟨m1, m2⟩, d1, d2⟩ := hc
    simp only [Option.some.injEq] at h
    obtain rfl := h
    have HT := Lib.hid hT.bef; clear hT
    obtain ⟨p, rfl⟩ : ∃ p : Nat, a1 = (p : Int) := ⟨a1.toNat, by omega⟩
    have hY : 0 ≤ a0 - 1 := by omega
    by_cases hm : (p : Int) ≤ 2
    · have hmb : decide ((p : Int) ≤ 2) = true := by simpa using hm
      have hc : w.cell? ⟨0, p + 12 - 3, none⟩ = some (.int .i64 (befN (p + 9))) := HT.out (p + 9) (by omega)
      have hc2 : w.cell? ⟨0, p + 9, none⟩ = some (.int .i64 (befN (p + 9))) := HT.out (p + 9) (by omega)
      have hbk := bef_bd (p + 9)
      have hF : daysF a0 p a2 = (a0 - 1) * 365 + (a0 - 1) / 4 - (a0 - 1) / 100 + (a0 - 1) / 400 + befN (p + 9) + a2 - 1 := by
        rw [daysF, if_pos hm, show ((p : Int) + 9).toNat = p + 9 by omega]
      replace hF := Lib.hid hF
      go_enter Tryd.func59, Tryd.ntmps59
      go_wp2
      go_ret
      exact ⟨by rw [hF.out]; rfl, Drawn0.refl _⟩
    · have hmb : decide ((p : Int) ≤ 2) = false := by simpa using hm
      have hc : w.cell? ⟨0, p - 3, none⟩ = some (.int .i64 (befN (p - 3))) := HT.out (p - 3) (by omega)
      have hbk := bef_bd (p - 3)
      have hF : daysF a0 p a2 = a0 * 365 + a0 / 4 - a0 / 100 + a0 / 400 + befN (p - 3) + a2 - 1 := by
        rw [daysF, if_neg hm, show ((p : Int) - 3).toNat = p - 3 by omega]
      replace hF := Lib.hid hF
      go_enter Tryd.func59, Tryd.ntmps59
      go_wp2
      go_ret
      exact ⟨by rw [hF.out]; rfl, Drawn0.refl _⟩
  · cases h

def strconv_Itoa_67.f (n : Int) : Option ByteArray := if 0 ≤ n ∧ n ≤ 1000000 then some ⟨(Lib.itoa n).toArray⟩ else none
theorem strconv_Itoa_67.calls (a0 : Int) (r : ByteArray) (w : World) (hT : TabsAt w) (h : strconv_Itoa_67.f a0 = some r) :
    Calls Tryd.prog 67 #[.int .i64 a0] w fun e w' => e = .returned (.string r) ∧ Below w.heap.size w w' := by
  unfold strconv_Itoa_67.f at h
  split at h
  · rename_i hc
    simp only [Option.some.injEq] at h
    obtain rfl := h
    refine (Tryd.strconv_Itoa a0 (by omega) (by omega) w hT.pow).mono ?_
    rintro e w' ⟨rfl, k, os, rfl⟩
    exact ⟨rfl, Lib.below_grow _ _ (Nat.le_refl _) _ _⟩
  · cases h

def strings_Repeat.f (s : ByteArray) (n : Int) : Option ByteArray := if (0 ≤ n ∧ n ≤ 1000) ∧ s.size ≤ 1000 then some ⟨(Lib.repeatL s.data.toList n.toNat).toArray⟩ else none
theorem strings_Repeat.calls (a0 : ByteArray) (a1 : Int) (r : ByteArray) (w : World) (h : strings_Repeat.f a0 a1 = some r) :
    Calls Tryd.prog 68 #[.string a0, .int .i64 a1] w fun e w' => e = .returned (.string r) ∧ Below w.heap.size w w' := by
  unfold strings_Repeat.f at h
  split at h
  · rename_i hc
    simp only [Option.some.injEq] at h
    obtain rfl := h
    obtain ⟨n, rfl⟩ : ∃ n : Nat, a1 = (n : Int) := ⟨a1.toNat, by omega⟩
    have hb : a0.size * n ≤ 140737488355328 := Nat.le_trans (Nat.mul_le_mul (show a0.size ≤ 1000 by omega) (show n ≤ 1000 by omega)) (by decide)
    exact Tryd.strings_Repeat a0 n w (by omega) hb
  · cases h

end PD4
end Go.Proofs.YtamfbfhkojnafaaDoor
