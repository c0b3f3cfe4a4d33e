import Derived.Test.YtamfbfhkojnafaaDoorRows
import Derived.Test.YtamfbfhkojnafaaDoorCalP
import Derived.Test.YtamfbfhkojnafaaDoorOpen
import Derived.WalkKit
import Derived.ProofKit
import Derived.OpenShut
import Derived.Deep.DeepHandedRow
import Derived.Lib.LaidTab
namespace Go.Proofs.YtamfbfhkojnafaaDoor.CalCard
open Go.ChangeShapes Go.WideShapes Go.ChangeAt Go.RowKit Go.Proofs.YtamfbfhkojnafaaDoorW.PrintWords Go.Proofs.YtamfbfhkojnafaaDoor.PC6
set_option linter.unusedVariables false
theorem gTab : Tryd.prog.globalNamed "cashbook/date.before" = some 0 := by kernel_rfl
theorem gTabType : (Tryd.prog.globals[0]?).map (·.type) = some 85 := by kernel_rfl
theorem cellsT : Tryd.prog.cellsOf 85 = 12 := by kernel_rfl
theorem cellsI : Tryd.prog.cellsOf 3 = 1 := by kernel_rfl

theorem befAt {W : World} (h : laidMetH Tryd.prog [("cashbook/date.before", Rows.laid_cashbook_date_before)] W) : BefAt W := by
  have ht : Lib.TabIs Tryd.prog W "cashbook/date.before" .i64 bef :=
    Lib.tabIs_of_head (rest := []) gTab gTabType Tryd.underlying85 Tryd.underlying3 cellsI cellsT h
  intro i hi
  have := ht.cell gTab i (by simp [bef]; omega)
  unfold befN
  exact this

theorem opens_hol : Op.Opens Tryd.prog 44 k44 (fun x => (Lit.int .i32 x.f0).wf = true ∧ (Lit.int .i32 x.f1).wf = true ∧ True) :=
  Op.opens_struct Tryd.underlying44 (Op.opensAt_cons (Op.opens_int Tryd.underlying23) (by kernel_rfl) rfl (Op.opensAt_cons (Op.opens_int Tryd.underlying23) (by kernel_rfl) rfl (Op.opensAt_one (Op.opens_bool Tryd.underlying4) (by kernel_rfl)))) (by kernel_rfl) (fun x : S44 => (x.f0, x.f1, x.f2)) (fun p => ⟨p.1, p.2.1, p.2.2⟩) (fun _ => rfl)
theorem opens_hols : Op.Opens Tryd.prog 22 (Kd.slice 44 k44) (fun l => l.length ≤ maxLen ∧ ∀ x ∈ l, ((Lit.int .i32 x.f0).wf = true ∧ (Lit.int .i32 x.f1).wf = true ∧ True)) := Op.opens_slice Tryd.underlying22 opens_hol (by kernel_rfl)

end Go.Proofs.YtamfbfhkojnafaaDoor.CalCard
