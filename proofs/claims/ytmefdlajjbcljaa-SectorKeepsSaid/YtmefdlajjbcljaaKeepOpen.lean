import Derived.Test.YtmefdlajjbcljaaSecOpen
import Derived.Test.YtmefdlajjbcljaaKeepW
namespace Go.Proofs.Ytmefdlajjbcljaa.SecOpen
open Go.ChangeShapes Go.WideShapes Go.RowKit Go.Proofs.YtmefdlajjbcljaaW.PrintWords Go.Proofs.Ytmefdlajjbcljaa.PS8
set_option linter.unusedVariables false
theorem opens_act : Op.Opens Try.prog 49 kAct (fun x => (Lit.int .i64 x.f0).wf = true ∧ (Lit.int .i64 x.f1).wf = true ∧ x.f2.size ≤ maxLen ∧ (x.f3.length ≤ maxLen ∧ ∀ y ∈ x.f3, (Lit.int .i64 y).wf = true)) :=
  Op.opens_struct Try.underlying49 (Op.opensAt_cons (Op.opens_int Try.underlying3) (by kernel_rfl) rfl (Op.opensAt_cons (Op.opens_int Try.underlying3) (by kernel_rfl) rfl (Op.opensAt_cons (Op.opens_string Try.underlying9) (by kernel_rfl) rfl (Op.opensAt_one opens_ints (by kernel_rfl))))) (by kernel_rfl) (fun x : SAct => (x.f0, x.f1, x.f2, x.f3)) (fun p => ⟨p.1, p.2.1, p.2.2.1, p.2.2.2⟩) (fun _ => rfl)
theorem opens_acts : Op.Opens Try.prog 46 (Kd.slice 49 kAct) (fun l => l.length ≤ maxLen ∧ ∀ x ∈ l, ((Lit.int .i64 x.f0).wf = true ∧ (Lit.int .i64 x.f1).wf = true ∧ x.f2.size ≤ maxLen ∧ (x.f3.length ≤ maxLen ∧ ∀ y ∈ x.f3, (Lit.int .i64 y).wf = true))) := Op.opens_slice Try.underlying46 opens_act (by kernel_rfl)
end Go.Proofs.Ytmefdlajjbcljaa.SecOpen
