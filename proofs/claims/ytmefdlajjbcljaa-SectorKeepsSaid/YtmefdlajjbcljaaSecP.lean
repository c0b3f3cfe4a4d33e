import Derived.Test.YtmefdlajjbcljaaSecR
import Derived.Test.YtmefdlajjbcljaaSecB
namespace Go.Proofs.Ytmefdlajjbcljaa
open Go.RowKit Go.Proofs.Ytmefdlajjbcljaa.PS8 Go.Proofs.YtmefdlajjbcljaaW.PrintWords
/-- Proved by hand, in the print's form. -/
def sector_Right.f (s n : List ByteArray) (f : Int) : Option Bool := some (Sec.rightB s n f)
theorem sector_Right.calls (A0 : Option Addr) (c0 : Nat) (s : List ByteArray) (A1 : Option Addr) (c1 : Nat) (n : List ByteArray) (f : Int) (r : Bool) (w : World) (hr0 : Kd.C Kd.string w A0 s.length s) (hc0 : s.length ≤ c0) (hr1 : Kd.C Kd.string w A1 n.length n) (hc1 : n.length ≤ c1) (h : sector_Right.f s n f = some r) :
    Calls Try.prog 24 #[.agg #[.slice A0 s.length c0, .slice A1 n.length c1, .int .i64 f]] w fun e w' => e = .returned (.bool r) ∧ Below w.heap.size w w' := by
  obtain rfl := Option.some.inj h
  exact sector_right_calls A0 c0 s A1 c1 n f w hr0 hc0 hr1 hc1
def sector_Open.f (s : ByteArray) : Option (ByteArray × Int) := some (openB s)
theorem sector_Open.calls (s r1 : ByteArray) (r2 : Int) (w : World) (h : sector_Open.f s = some (r1, r2)) :
    Calls Try.prog 14 #[.string s] w fun e w' => e = .returned (.tuple #[.string r1, .int .i64 r2]) ∧ Below w.heap.size w w' := by
  have h1 := Option.some.inj h
  have := open_calls s w
  rw [h1] at this
  exact this
attribute [irreducible] sector_Right.f sector_Open.f
end Go.Proofs.Ytmefdlajjbcljaa
