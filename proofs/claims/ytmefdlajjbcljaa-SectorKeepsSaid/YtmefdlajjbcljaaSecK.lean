import Derived.Test.YtmefdlajjbcljaaPS8x0
import Derived.Test.YtmefdlajjbcljaaShelf
import Derived.WalkKit
import Derived.Below
import Derived.Lib.Hide
namespace Go.Proofs.Ytmefdlajjbcljaa
open Go.RowKit Go.Proofs.Ytmefdlajjbcljaa.PS8 Go.Proofs.YtmefdlajjbcljaaW.PrintWords
set_option linter.unusedVariables false
set_option linter.unusedSimpArgs false

theorem Sec.R_strings {w : World} {base : Nat} {v : Value} {l : List ByteArray} (h : w.ownsRow base 9 1 v l.length (l.map Value.string)) : Kd.R Kd.string 9 w base (fun _ => True) v l := Kd.R_of_own h (fun _ _ => trivial)
theorem Sec.spot_none {w : World} {b off : Nat} {o : Option Nat} {v : Value} (h : w.cell? ⟨b, off, o⟩ = some v) : o = none := by
  unfold World.cell? at h
  cases o with
  | none => rfl
  | some x => cases hh : w.heap[b]? with
    | none => simp [hh] at h
    | some ob => cases ob <;> simp [hh] at h

def slices_Clone_string_string.f (l : List ByteArray) : Option (List ByteArray) := if l.length ≤ 8000000000000 then some l else none
theorem slices_Clone_string_string.calls (A0 : Option Addr) (c0 : Nat) (l0 r : List ByteArray) (w : World) (hr0 : Kd.C Kd.string w A0 l0.length l0) (hc0 : l0.length ≤ c0) (h : slices_Clone_string_string.f l0 = some r) :
    Calls Try.prog 77 #[.slice A0 l0.length c0] w fun e w' => ∃ v0_ : Value, e = .returned v0_ ∧ Kd.R Kd.string 9 w' w.heap.size (fun _ => True) v0_ r ∧ Below w.heap.size w w' := by
  unfold slices_Clone_string_string.f at h
  by_cases hm : l0.length ≤ 8000000000000
  · rw [if_pos hm] at h
    obtain rfl := Option.some.inj h
    have hrd := Kd.reads_of_C (d := ByteArray.empty) hr0
    cases A0 with
    | none =>
      have hl : l0 = [] := by
        rcases Nat.eq_zero_or_pos l0.length with h0 | h0
        · exact List.length_eq_zero_iff.1 h0
        · obtain ⟨ad, hA, _⟩ := ReadsOf.at_ hrd 0 (by omega) (by omega)
          cases hA
      subst hl
      refine (Try.slices_Clone_string_nil _ _ w).mono ?_
      rintro e w' ⟨rfl, rfl⟩
      exact ⟨_, rfl, Kd.R_nil _ _ _ _ _, Below.refl _ _⟩
    | some ad =>
      obtain ⟨b, off, o⟩ := ad
      rcases Nat.eq_zero_or_pos l0.length with h0 | h0
      · obtain rfl := List.length_eq_zero_iff.1 h0
        refine (Try.slices_Clone_string_zero _ _ w).mono ?_
        rintro e w' ⟨v, rfl, ho, _, hb⟩
        exact ⟨v, rfl, Sec.R_strings (l := []) ho, hb⟩
      · have hoo : o = none := by
          obtain ⟨ad, hAA, hc⟩ := ReadsOf.at_ hrd 0 (by omega) (by omega)
          have hAB := Option.some.inj hAA
          subst hAB
          unfold Addr.add at hc
          simp at hc
          exact Sec.spot_none hc
        subst hoo
        refine (Try.slices_Clone_string b off l0.length c0 l0 w (Nat.le_refl _) (by omega) (fun j hj => ?_)).mono ?_
        · obtain ⟨ad, hA, hc⟩ := ReadsOf.at_ hrd j (by omega) (by omega)
          obtain rfl := Option.some.inj hA
          have e : (rdOf ByteArray.empty l0 (j : Int)) = l0.getD j ByteArray.empty := by unfold rdOf; simp
          rw [← e, ← hc, Int.toNat_natCast]
          have e2 : (⟨b, off, none⟩ : Addr).add j = ⟨b, off + j, none⟩ := by unfold Addr.add; split <;> simp_all
          rw [e2]
        · rintro e w' ⟨v, rfl, ho, _, hb⟩
          rw [List.take_length] at ho
          exact ⟨v, rfl, Sec.R_strings ho, hb⟩
  · rw [if_neg hm] at h; cases h
end Go.Proofs.Ytmefdlajjbcljaa
