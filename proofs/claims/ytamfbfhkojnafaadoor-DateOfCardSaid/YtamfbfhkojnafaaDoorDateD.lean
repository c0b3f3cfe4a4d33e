import Derived.Test.YtamfbfhkojnafaaDoorDateQ
namespace Go.Proofs.YtamfbfhkojnafaaDoor
open Go.RowKit Go.Proofs.YtamfbfhkojnafaaDoor.PD4 Go.Proofs.YtamfbfhkojnafaaDoorW.PrintWords
set_option linter.unusedVariables false
def date_Parse.f (t : ByteArray) : Option (Int × Int) := some (parseR t)
theorem date_Parse.calls (a0 : ByteArray) (r1 r2 : Int) (w : World) (hT : TabsAt w) (h : date_Parse.f a0 = some (r1, r2)) :
    Calls Tryd.prog 49 #[.string a0] w fun e w' => e = .returned (.tuple #[.int .i32 r1, .int .i64 r2]) ∧ Below w.heap.size w w' := by
  have := parse_calls a0 w hT
  have h := Option.some.inj h
  rw [h] at this
  exact this
end Go.Proofs.YtamfbfhkojnafaaDoor
