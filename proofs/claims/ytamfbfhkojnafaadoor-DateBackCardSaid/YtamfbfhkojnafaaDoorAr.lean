/- Arrays by value: an element read. Plain lemmas over any program. -/
import Derived.WalkKit
import Derived.Below
import Derived.ChangeKeysEq
import Derived.Deep.Draws
namespace Go.Proofs.YtamfbfhkojnafaaDoor.Ar
open Go.RowKit Go.Instr
set_option linter.unusedVariables false
set_option linter.unusedSimpArgs false
theorem run_index {P : Program} {t e : TypeId} {n : Nat} {k : IntKind} {i : Nat} {cs : Array Value} {v : Value} {ti : TypeInfo} (hu : P.underlying t = some (.array n e)) (hp : P.plainKey e = true) (hs : P.info? e = some ti) (h1 : ti.size = 1) (hi : i < n)
    (hv : cs[i]? = some v) (w : World) : (Instr.index t (.agg cs) (.int k (i : Int))).run P w = .ok v w := by
  have hpart := run_part_plain w hp hv
  simp [Instr.index, asIntOf, run_underlying hu, Go.sizeOf, typeInfo, hs, h1, hi, hpart]
end Go.Proofs.YtamfbfhkojnafaaDoor.Ar
