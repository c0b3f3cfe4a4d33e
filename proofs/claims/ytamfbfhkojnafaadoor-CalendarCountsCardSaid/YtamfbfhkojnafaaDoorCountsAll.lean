import Derived.Test.YtamfbfhkojnafaaDoorCountsWalk
namespace Go.Proofs.YtamfbfhkojnafaaDoor
open Go.RowKit Go.Proofs.YtamfbfhkojnafaaDoor.PC6 Go.Proofs.YtamfbfhkojnafaaDoorW.PrintWords
set_option linter.unusedVariables false
theorem counts_calls (A0 : Option Addr) (c0 : Nat) (l0 : List S44) (a1 a2 a3 a4 : Int) (r : Bool) (w : World) (hr0 : Kd.C k44 w A0 l0.length l0) (hc0 : l0.length ≤ c0) (hT : BefAt w) (h : true = r) :
    Calls Tryd.prog 7 #[.slice A0 l0.length c0, .int .i32 a1, .int .i32 a2, .int .i32 a3, .int .i64 a4] w fun e w' => e = .returned (.bool r) ∧ Below w.heap.size w w' := by
  subst h
  show Calls _ _ _ _ (CountsPost w)
  cases hcal : calB (l0.take 70) with
  | false => exact counts_bad A0 c0 l0 a1 a2 a3 a4 w hr0 hc0 hT hcal
  | true =>
    cases hd1 : dayB a1 with
    | false => exact counts_date A0 c0 l0 a1 a2 a3 a4 w hr0 hc0 hT hcal (Or.inl hd1)
    | true =>
      cases hd2 : dayB a2 with
      | false => exact counts_date A0 c0 l0 a1 a2 a3 a4 w hr0 hc0 hT hcal (Or.inr ⟨hd1, hd2⟩)
      | true => exact counts_ok A0 c0 l0 a1 a2 a3 a4 w hr0 hc0 hT hcal hd1 hd2
end Go.Proofs.YtamfbfhkojnafaaDoor
