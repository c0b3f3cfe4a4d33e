import Derived.Test.YtamfbfhkojnafaaDoorRows
import Derived.Test.YtamfbfhkojnafaaDoorDateC
import Derived.WalkKit
import Derived.ProofKit
import Derived.OpenShut
import Derived.Deep.DeepHandedRow
import Derived.Lib.LaidTab
import Derived.Lib.LaidU8
namespace Go.Proofs.YtamfbfhkojnafaaDoor.DateCard
open Go.ChangeShapes Go.WideShapes Go.ChangeAt Go.RowKit Go.Proofs.YtamfbfhkojnafaaDoorW.PrintWords
set_option linter.unusedVariables false
theorem gTab : Tryd.prog.globalNamed "cashbook/date.before" = some 0 := by kernel_rfl
theorem gTabType : (Tryd.prog.globals[0]?).map (·.type) = some 85 := by kernel_rfl
theorem cellsT : Tryd.prog.cellsOf 85 = 12 := by kernel_rfl
theorem cellsI : Tryd.prog.cellsOf 3 = 1 := by kernel_rfl
theorem gPowType : (Tryd.prog.globals[1]?).map (·.type) = some 128 := by kernel_rfl
theorem undPow : Tryd.prog.underlying 128 = some (.array 20 115) := by kernel_rfl
theorem undU64 : Tryd.prog.underlying 115 = some (.int .u64) := by kernel_rfl
theorem cellsPow : Tryd.prog.cellsOf 128 = 20 := by kernel_rfl
theorem cellsU64 : Tryd.prog.cellsOf 115 = 1 := by kernel_rfl

theorem tab_of {P : Program} {W : World} {name : String} {k : IntKind} {zs : List Int} {g : Nat} {t e : TypeId} {n : Nat}
    (hg : P.globalNamed name = some g) (hty : (P.globals[g]?).map (·.type) = some t) (ht : P.underlying t = some (.array n e)) (he : P.underlying e = some (.int k)) (hce : P.cellsOf e = 1) (hct : P.cellsOf t = n)
    (h : Lib.VarReads P W name (Lib.tabData k zs)) : Lib.TabIs P W name k zs := by
  obtain ⟨g', t', cs, fuel, p, hg', ht', hvar, hd⟩ := h
  obtain rfl := Option.some.inj (hg.symm.trans hg')
  obtain rfl := Option.some.inj (hty.symm.trans ht')
  unfold Lib.TabIs
  rw [hvar, ← Lib.cells_of_tab ht he hce hct hd]

theorem tabsAt {W : World} (h0 : laidMetH Tryd.prog [("math/bits.deBruijn32tab", Rows.laid_math_bits_deBruijn32tab), ("math/bits.deBruijn64tab", Rows.laid_math_bits_deBruijn64tab), ("internal/strconv.uint64pow10", Rows.laid_internal_strconv_uint64pow10), ("cashbook/date.before", Rows.laid_cashbook_date_before)] W) : TabsAt W := by
  have h : laidMet Tryd.prog [("math/bits.deBruijn32tab", Rows.laid_math_bits_deBruijn32tab), ("math/bits.deBruijn64tab", Rows.laid_math_bits_deBruijn64tab), ("internal/strconv.uint64pow10", Rows.laid_internal_strconv_uint64pow10), ("cashbook/date.before", Rows.laid_cashbook_date_before)] W := h0
  have hp : Lib.TabIs Tryd.prog W "internal/strconv.uint64pow10" .u64 Lib.pow10Tab :=
    tab_of gPow gPowType undPow undU64 cellsU64 cellsPow (Lib.laidMet.reads h (.tail _ (.tail _ (.head _))))
  have hb : Lib.TabIs Tryd.prog W "cashbook/date.before" .i64 bef :=
    tab_of gTab gTabType Tryd.underlying85 Tryd.underlying3 cellsI cellsT (Lib.laidMet.reads h (.tail _ (.tail _ (.tail _ (.head _)))))
  refine ⟨fun i hi => ?_, hp, ?_⟩
  · have := hb.cell gTab i (by simp [bef]; omega)
    unfold befN
    exact this
  · unfold Lib.TabIs World.var? at hp
    simp only [gPow, Option.bind_some] at hp
    have h2 : (W.heap[1]?).isSome = true := by
      cases hq : W.heap[1]? with
      | none => rw [hq] at hp; cases hp
      | some o => rfl
    exact (Array.getElem?_eq_some_iff.1 (Option.isSome_iff_exists.1 h2).choose_spec).1

/-- A world for the witnesses: the settled one, the tables holding what their initialisers lay. -/
noncomputable def laidWorld (os : Os) : World :=
  { World.holding Tryd.prog os ⟨#[], #[], []⟩ with heap := (((((World.holding Tryd.prog os ⟨#[], #[], []⟩).heap.modify 0 (fun | .cells _ t frozen => .cells #[.int .i64 0, .int .i64 31, .int .i64 61, .int .i64 92, .int .i64 122, .int .i64 153, .int .i64 184, .int .i64 214, .int .i64 245, .int .i64 275, .int .i64 306, .int .i64 337] t frozen | o => o)).modify 3 (fun | .cells _ t frozen => .cells #[.int .u8 0, .int .u8 1, .int .u8 28, .int .u8 2, .int .u8 29, .int .u8 14, .int .u8 24, .int .u8 3, .int .u8 30, .int .u8 22, .int .u8 20, .int .u8 15, .int .u8 25, .int .u8 17, .int .u8 4, .int .u8 8, .int .u8 31, .int .u8 27, .int .u8 13, .int .u8 23, .int .u8 21, .int .u8 19, .int .u8 16, .int .u8 7, .int .u8 26, .int .u8 12, .int .u8 18, .int .u8 6, .int .u8 11, .int .u8 5, .int .u8 10, .int .u8 9] t frozen | o => o)).modify 4 (fun | .cells _ t frozen => .cells #[.int .u8 0, .int .u8 1, .int .u8 56, .int .u8 2, .int .u8 57, .int .u8 49, .int .u8 28, .int .u8 3, .int .u8 61, .int .u8 58, .int .u8 42, .int .u8 50, .int .u8 38, .int .u8 29, .int .u8 17, .int .u8 4, .int .u8 62, .int .u8 47, .int .u8 59, .int .u8 36, .int .u8 45, .int .u8 43, .int .u8 51, .int .u8 22, .int .u8 53, .int .u8 39, .int .u8 33, .int .u8 30, .int .u8 24, .int .u8 18, .int .u8 12, .int .u8 5, .int .u8 63, .int .u8 55, .int .u8 48, .int .u8 27, .int .u8 60, .int .u8 41, .int .u8 37, .int .u8 16, .int .u8 46, .int .u8 35, .int .u8 44, .int .u8 21, .int .u8 52, .int .u8 32, .int .u8 23, .int .u8 11, .int .u8 54, .int .u8 26, .int .u8 40, .int .u8 15, .int .u8 34, .int .u8 20, .int .u8 31, .int .u8 10, .int .u8 25, .int .u8 14, .int .u8 19, .int .u8 9, .int .u8 13, .int .u8 8, .int .u8 7, .int .u8 6] t frozen | o => o)).modify 1 (fun | .cells _ t frozen => .cells #[.int .u64 1, .int .u64 10, .int .u64 100, .int .u64 1000, .int .u64 10000, .int .u64 100000, .int .u64 1000000, .int .u64 10000000, .int .u64 100000000, .int .u64 1000000000, .int .u64 10000000000, .int .u64 100000000000, .int .u64 1000000000000, .int .u64 10000000000000, .int .u64 100000000000000, .int .u64 1000000000000000, .int .u64 10000000000000000, .int .u64 100000000000000000, .int .u64 1000000000000000000, .int .u64 10000000000000000000] t frozen | o => o)) }
end Go.Proofs.YtamfbfhkojnafaaDoor.DateCard
