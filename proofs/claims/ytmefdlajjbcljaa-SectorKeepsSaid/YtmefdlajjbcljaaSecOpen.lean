import Derived.Test.YtmefdlajjbcljaaRows
import Derived.Test.YtmefdlajjbcljaaOpen
import Derived.Test.YtmefdlajjbcljaaPS8x0
import Derived.WalkKit
import Derived.ProofKit
import Derived.OpenShut
import Derived.Deep.DeepHandedRow
namespace Go.Proofs.Ytmefdlajjbcljaa.SecOpen
open Go.ChangeShapes Go.WideShapes Go.RowKit Go.Proofs.YtmefdlajjbcljaaW.PrintWords Go.Proofs.Ytmefdlajjbcljaa.PS8
set_option linter.unusedVariables false
theorem opens_strs : Op.Opens Try.prog 28 (Kd.slice 9 Kd.string) (fun l => l.length ≤ maxLen ∧ ∀ x ∈ l, x.size ≤ maxLen) := Op.opens_slice Try.underlying28 (Op.opens_string Try.underlying9) (by kernel_rfl)
theorem opens_ints : Op.Opens Try.prog 31 (Kd.slice 3 (Kd.int .i64)) (fun l => l.length ≤ maxLen ∧ ∀ x ∈ l, (Lit.int .i64 x).wf = true) := Op.opens_slice Try.underlying31 (Op.opens_int Try.underlying3) (by kernel_rfl)
end Go.Proofs.Ytmefdlajjbcljaa.SecOpen
