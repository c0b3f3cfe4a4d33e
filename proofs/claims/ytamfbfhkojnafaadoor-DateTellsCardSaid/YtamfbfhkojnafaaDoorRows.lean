/-
  NARROWER THAN 'FOR EVERY INPUT', by the rows' own cells (each row's printed sentence says how): CalendarTells: laid · CalendarRolls: laid · CalendarKnows: laid · CalendarAdds: laid · CalendarCounts: laid · DateLeaps: laid · DateMonths: laid · DateTells: laid · DateOf: laid · DateGoes: laid · DateBack: laid.
  DERIVED. THE GIVEN ROWS OF THIS SEAT. 11 by the template 'for every input the law returns true; each argument reads behind the call as it read before'; 0 by the template 'total and deterministic' (their statements: YtamfbfhkojnafaaDoorTotals.lean).
  GIVEN WITH THE SEED: the statements are not yours to turn. If you find one false, say at which input.
  Laid BY PROGRAM, IN A SANDBOX (cutbox-rows.mjs): the forced cells as the released guide's own fill.sh prints them over the translation 2745524ed4bd9e9b… (all of the seat's roots in one cut). By AI agents, Wed Nov 11 2026. No macro, syntax, notation, axiom, sorry.
-/
import Derived.Test.YtamfbfhkojnafaaDoorChecked
import GoSem.Claim
import GoSem.ClaimJoined
import GoSem.ClaimMapViews
import Derived.JoinedTies
import Derived.KernelRfl
namespace Go.Proofs.YtamfbfhkojnafaaDoor
/- THE CELL 'sum', in the pinned program and in every row, IS THE sha256 OF THE DUMP (.gsa) THAT YtamfbfhkojnafaaDoorProg.lean LOADS. Nothing in Lean hashes anything: it is a label: what it is worth is what the hold of that sum in a sandbox is worth. -/
noncomputable def Tryd.pinned : Pinned := { name := "ytamfbfhkojnafaadoor", sum := "2745524ed4bd9e9bf0c00d5cdcb2186ec05ee7d1bfc262689a32237afbce2a65", checked := Tryd.checked }
namespace Rows
def none {H : Type} : Left H := { results := [], args := [] }

/- WHAT THE LISTED PACKAGE-LEVEL VARIABLES READ AS WHEN THE CALL BEGINS. Each datum BY PROGRAM (the guide's laid-datum.mjs) off the statement by which the dump's own 'gosem.cut.vars' lays the variable. In a bare row this is a premise. The card (YtamfbfhkojnafaaDoorCards.lean) ties it to the program's text. -/
def laid_cashbook_date_before {H : Type} : DataW H := .agg [.lit (.int .i64 0), .lit (.int .i64 31), .lit (.int .i64 61), .lit (.int .i64 92), .lit (.int .i64 122), .lit (.int .i64 153), .lit (.int .i64 184), .lit (.int .i64 214), .lit (.int .i64 245), .lit (.int .i64 275), .lit (.int .i64 306), .lit (.int .i64 337)]
def laid_math_bits_deBruijn32tab {H : Type} : DataW H := .agg [.lit (.int .u8 0), .lit (.int .u8 1), .lit (.int .u8 28), .lit (.int .u8 2), .lit (.int .u8 29), .lit (.int .u8 14), .lit (.int .u8 24), .lit (.int .u8 3), .lit (.int .u8 30), .lit (.int .u8 22), .lit (.int .u8 20), .lit (.int .u8 15), .lit (.int .u8 25), .lit (.int .u8 17), .lit (.int .u8 4), .lit (.int .u8 8), .lit (.int .u8 31), .lit (.int .u8 27), .lit (.int .u8 13), .lit (.int .u8 23), .lit (.int .u8 21), .lit (.int .u8 19), .lit (.int .u8 16), .lit (.int .u8 7), .lit (.int .u8 26), .lit (.int .u8 12), .lit (.int .u8 18), .lit (.int .u8 6), .lit (.int .u8 11), .lit (.int .u8 5), .lit (.int .u8 10), .lit (.int .u8 9)]
def laid_math_bits_deBruijn64tab {H : Type} : DataW H := .agg [.lit (.int .u8 0), .lit (.int .u8 1), .lit (.int .u8 56), .lit (.int .u8 2), .lit (.int .u8 57), .lit (.int .u8 49), .lit (.int .u8 28), .lit (.int .u8 3), .lit (.int .u8 61), .lit (.int .u8 58), .lit (.int .u8 42), .lit (.int .u8 50), .lit (.int .u8 38), .lit (.int .u8 29), .lit (.int .u8 17), .lit (.int .u8 4), .lit (.int .u8 62), .lit (.int .u8 47), .lit (.int .u8 59), .lit (.int .u8 36), .lit (.int .u8 45), .lit (.int .u8 43), .lit (.int .u8 51), .lit (.int .u8 22), .lit (.int .u8 53), .lit (.int .u8 39), .lit (.int .u8 33), .lit (.int .u8 30), .lit (.int .u8 24), .lit (.int .u8 18), .lit (.int .u8 12), .lit (.int .u8 5), .lit (.int .u8 63), .lit (.int .u8 55), .lit (.int .u8 48), .lit (.int .u8 27), .lit (.int .u8 60), .lit (.int .u8 41), .lit (.int .u8 37), .lit (.int .u8 16), .lit (.int .u8 46), .lit (.int .u8 35), .lit (.int .u8 44), .lit (.int .u8 21), .lit (.int .u8 52), .lit (.int .u8 32), .lit (.int .u8 23), .lit (.int .u8 11), .lit (.int .u8 54), .lit (.int .u8 26), .lit (.int .u8 40), .lit (.int .u8 15), .lit (.int .u8 34), .lit (.int .u8 20), .lit (.int .u8 31), .lit (.int .u8 10), .lit (.int .u8 25), .lit (.int .u8 14), .lit (.int .u8 19), .lit (.int .u8 9), .lit (.int .u8 13), .lit (.int .u8 8), .lit (.int .u8 7), .lit (.int .u8 6)]
def laid_internal_strconv_uint64pow10 {H : Type} : DataW H := .agg [.lit (.int .u64 1), .lit (.int .u64 10), .lit (.int .u64 100), .lit (.int .u64 1000), .lit (.int .u64 10000), .lit (.int .u64 100000), .lit (.int .u64 1000000), .lit (.int .u64 10000000), .lit (.int .u64 100000000), .lit (.int .u64 1000000000), .lit (.int .u64 10000000000), .lit (.int .u64 100000000000), .lit (.int .u64 1000000000000), .lit (.int .u64 10000000000000), .lit (.int .u64 100000000000000), .lit (.int .u64 1000000000000000), .lit (.int .u64 10000000000000000), .lit (.int .u64 100000000000000000), .lit (.int .u64 1000000000000000000), .lit (.int .u64 10000000000000000000)]

/-- 'cashbooklaw06.CalendarTells': WHATEVER THE INPUT: true; the input reads as it did. -/
def calendarTellsSpec : ChangeSpec := { name := "calendarTells", fn := fun _ => fun
  | [d1, d2, d3, d4] => { results := [.lit (.bool true)], args := [d1, d2, d3, d4] }
  | _ => none }
def calendarTellsRow : OpenClaim := { program := "ytamfbfhkojnafaadoor", sum := "2745524ed4bd9e9bf0c00d5cdcb2186ec05ee7d1bfc262689a32237afbce2a65", func := "cashbook/cashbooklaw06.CalendarTells", spec := "calendarTells", unfollowed := true, recurses := true, named := ["cashbook/date.before"], plainKeys := false, apart := false, laid := [("cashbook/date.before", laid_cashbook_date_before)] }
def CalendarTellsSaid : Prop := calendarTellsRow.holds Tryd.pinned (OpenSpec.ofChange calendarTellsSpec)

/-- ITS FALSE NEIGHBOUR: 'it returns false'. Refute it at one input. -/
def calendarTellsWrong : ChangeSpec := { name := "calendarTells", fn := fun _ => fun
  | [d1, d2, d3, d4] => { results := [.lit (.bool false)], args := [d1, d2, d3, d4] }
  | _ => none }
def CalendarTellsWrongFalsely : Prop := calendarTellsRow.holds Tryd.pinned (OpenSpec.ofChange calendarTellsWrong)

/-- 'cashbooklaw06.CalendarRolls': WHATEVER THE INPUT: true; the input reads as it did. -/
def calendarRollsSpec : ChangeSpec := { name := "calendarRolls", fn := fun _ => fun
  | [d1, d2, d3] => { results := [.lit (.bool true)], args := [d1, d2, d3] }
  | _ => none }
def calendarRollsRow : OpenClaim := { program := "ytamfbfhkojnafaadoor", sum := "2745524ed4bd9e9bf0c00d5cdcb2186ec05ee7d1bfc262689a32237afbce2a65", func := "cashbook/cashbooklaw06.CalendarRolls", spec := "calendarRolls", unfollowed := true, recurses := true, named := ["cashbook/date.before"], plainKeys := false, apart := false, laid := [("cashbook/date.before", laid_cashbook_date_before)] }
def CalendarRollsSaid : Prop := calendarRollsRow.holds Tryd.pinned (OpenSpec.ofChange calendarRollsSpec)

/-- ITS FALSE NEIGHBOUR: 'it returns false'. Refute it at one input. -/
def calendarRollsWrong : ChangeSpec := { name := "calendarRolls", fn := fun _ => fun
  | [d1, d2, d3] => { results := [.lit (.bool false)], args := [d1, d2, d3] }
  | _ => none }
def CalendarRollsWrongFalsely : Prop := calendarRollsRow.holds Tryd.pinned (OpenSpec.ofChange calendarRollsWrong)

/-- 'cashbooklaw06.CalendarKnows': WHATEVER THE INPUT: true; the input reads as it did. -/
def calendarKnowsSpec : ChangeSpec := { name := "calendarKnows", fn := fun _ => fun
  | [d1, d2, d3, d4, d5] => { results := [.lit (.bool true)], args := [d1, d2, d3, d4, d5] }
  | _ => none }
def calendarKnowsRow : OpenClaim := { program := "ytamfbfhkojnafaadoor", sum := "2745524ed4bd9e9bf0c00d5cdcb2186ec05ee7d1bfc262689a32237afbce2a65", func := "cashbook/cashbooklaw06.CalendarKnows", spec := "calendarKnows", unfollowed := true, recurses := true, named := ["cashbook/date.before"], plainKeys := false, apart := false, laid := [("cashbook/date.before", laid_cashbook_date_before)] }
def CalendarKnowsSaid : Prop := calendarKnowsRow.holds Tryd.pinned (OpenSpec.ofChange calendarKnowsSpec)

/-- ITS FALSE NEIGHBOUR: 'it returns false'. Refute it at one input. -/
def calendarKnowsWrong : ChangeSpec := { name := "calendarKnows", fn := fun _ => fun
  | [d1, d2, d3, d4, d5] => { results := [.lit (.bool false)], args := [d1, d2, d3, d4, d5] }
  | _ => none }
def CalendarKnowsWrongFalsely : Prop := calendarKnowsRow.holds Tryd.pinned (OpenSpec.ofChange calendarKnowsWrong)

/-- 'cashbooklaw06.CalendarAdds': WHATEVER THE INPUT: true; the input reads as it did. -/
def calendarAddsSpec : ChangeSpec := { name := "calendarAdds", fn := fun _ => fun
  | [d1, d2, d3, d4, d5] => { results := [.lit (.bool true)], args := [d1, d2, d3, d4, d5] }
  | _ => none }
def calendarAddsRow : OpenClaim := { program := "ytamfbfhkojnafaadoor", sum := "2745524ed4bd9e9bf0c00d5cdcb2186ec05ee7d1bfc262689a32237afbce2a65", func := "cashbook/cashbooklaw06.CalendarAdds", spec := "calendarAdds", unfollowed := true, recurses := true, named := ["cashbook/date.before"], plainKeys := false, apart := false, laid := [("cashbook/date.before", laid_cashbook_date_before)] }
def CalendarAddsSaid : Prop := calendarAddsRow.holds Tryd.pinned (OpenSpec.ofChange calendarAddsSpec)

/-- ITS FALSE NEIGHBOUR: 'it returns false'. Refute it at one input. -/
def calendarAddsWrong : ChangeSpec := { name := "calendarAdds", fn := fun _ => fun
  | [d1, d2, d3, d4, d5] => { results := [.lit (.bool false)], args := [d1, d2, d3, d4, d5] }
  | _ => none }
def CalendarAddsWrongFalsely : Prop := calendarAddsRow.holds Tryd.pinned (OpenSpec.ofChange calendarAddsWrong)

/-- 'cashbooklaw06.CalendarCounts': WHATEVER THE INPUT: true; the input reads as it did. -/
def calendarCountsSpec : ChangeSpec := { name := "calendarCounts", fn := fun _ => fun
  | [d1, d2, d3, d4, d5] => { results := [.lit (.bool true)], args := [d1, d2, d3, d4, d5] }
  | _ => none }
def calendarCountsRow : OpenClaim := { program := "ytamfbfhkojnafaadoor", sum := "2745524ed4bd9e9bf0c00d5cdcb2186ec05ee7d1bfc262689a32237afbce2a65", func := "cashbook/cashbooklaw06.CalendarCounts", spec := "calendarCounts", unfollowed := true, recurses := true, named := ["cashbook/date.before"], plainKeys := false, apart := false, laid := [("cashbook/date.before", laid_cashbook_date_before)] }
def CalendarCountsSaid : Prop := calendarCountsRow.holds Tryd.pinned (OpenSpec.ofChange calendarCountsSpec)

/-- ITS FALSE NEIGHBOUR: 'it returns false'. Refute it at one input. -/
def calendarCountsWrong : ChangeSpec := { name := "calendarCounts", fn := fun _ => fun
  | [d1, d2, d3, d4, d5] => { results := [.lit (.bool false)], args := [d1, d2, d3, d4, d5] }
  | _ => none }
def CalendarCountsWrongFalsely : Prop := calendarCountsRow.holds Tryd.pinned (OpenSpec.ofChange calendarCountsWrong)

/-- 'cashbooklaw04.DateLeaps': WHATEVER THE INPUT: true; the input reads as it did. -/
def dateLeapsSpec : ChangeSpec := { name := "dateLeaps", fn := fun _ => fun
  | [d1, d2] => { results := [.lit (.bool true)], args := [d1, d2] }
  | _ => none }
def dateLeapsRow : OpenClaim := { program := "ytamfbfhkojnafaadoor", sum := "2745524ed4bd9e9bf0c00d5cdcb2186ec05ee7d1bfc262689a32237afbce2a65", func := "cashbook/cashbooklaw04.DateLeaps", spec := "dateLeaps", inPlace := ["internal/abi.NoEscape", "internal/bytealg.MakeNoZero"], named := ["cashbook/date.before", "internal/strconv.uint64pow10", "math/bits.deBruijn32tab", "math/bits.deBruijn64tab"], plainKeys := false, apart := false, laid := [("math/bits.deBruijn32tab", laid_math_bits_deBruijn32tab), ("math/bits.deBruijn64tab", laid_math_bits_deBruijn64tab), ("internal/strconv.uint64pow10", laid_internal_strconv_uint64pow10), ("cashbook/date.before", laid_cashbook_date_before)] }
def DateLeapsSaid : Prop := dateLeapsRow.holds Tryd.pinned (OpenSpec.ofChange dateLeapsSpec)

/-- ITS FALSE NEIGHBOUR: 'it returns false'. Refute it at one input. -/
def dateLeapsWrong : ChangeSpec := { name := "dateLeaps", fn := fun _ => fun
  | [d1, d2] => { results := [.lit (.bool false)], args := [d1, d2] }
  | _ => none }
def DateLeapsWrongFalsely : Prop := dateLeapsRow.holds Tryd.pinned (OpenSpec.ofChange dateLeapsWrong)

/-- 'cashbooklaw04.DateMonths': WHATEVER THE INPUT: true; the input reads as it did. -/
def dateMonthsSpec : ChangeSpec := { name := "dateMonths", fn := fun _ => fun
  | [d1, d2] => { results := [.lit (.bool true)], args := [d1, d2] }
  | _ => none }
def dateMonthsRow : OpenClaim := { program := "ytamfbfhkojnafaadoor", sum := "2745524ed4bd9e9bf0c00d5cdcb2186ec05ee7d1bfc262689a32237afbce2a65", func := "cashbook/cashbooklaw04.DateMonths", spec := "dateMonths", inPlace := ["internal/abi.NoEscape", "internal/bytealg.MakeNoZero"], named := ["cashbook/date.before", "internal/strconv.uint64pow10", "math/bits.deBruijn32tab", "math/bits.deBruijn64tab"], plainKeys := false, apart := false, laid := [("math/bits.deBruijn32tab", laid_math_bits_deBruijn32tab), ("math/bits.deBruijn64tab", laid_math_bits_deBruijn64tab), ("internal/strconv.uint64pow10", laid_internal_strconv_uint64pow10), ("cashbook/date.before", laid_cashbook_date_before)] }
def DateMonthsSaid : Prop := dateMonthsRow.holds Tryd.pinned (OpenSpec.ofChange dateMonthsSpec)

/-- ITS FALSE NEIGHBOUR: 'it returns false'. Refute it at one input. -/
def dateMonthsWrong : ChangeSpec := { name := "dateMonths", fn := fun _ => fun
  | [d1, d2] => { results := [.lit (.bool false)], args := [d1, d2] }
  | _ => none }
def DateMonthsWrongFalsely : Prop := dateMonthsRow.holds Tryd.pinned (OpenSpec.ofChange dateMonthsWrong)

/-- 'cashbooklaw04.DateTells': WHATEVER THE INPUT: true; the input reads as it did. -/
def dateTellsSpec : ChangeSpec := { name := "dateTells", fn := fun _ => fun
  | [d] => { results := [.lit (.bool true)], args := [d] }
  | _ => none }
def dateTellsRow : OpenClaim := { program := "ytamfbfhkojnafaadoor", sum := "2745524ed4bd9e9bf0c00d5cdcb2186ec05ee7d1bfc262689a32237afbce2a65", func := "cashbook/cashbooklaw04.DateTells", spec := "dateTells", inPlace := ["internal/abi.NoEscape", "internal/bytealg.MakeNoZero"], named := ["cashbook/date.before", "internal/strconv.uint64pow10", "math/bits.deBruijn32tab", "math/bits.deBruijn64tab"], plainKeys := false, apart := false, laid := [("math/bits.deBruijn32tab", laid_math_bits_deBruijn32tab), ("math/bits.deBruijn64tab", laid_math_bits_deBruijn64tab), ("internal/strconv.uint64pow10", laid_internal_strconv_uint64pow10), ("cashbook/date.before", laid_cashbook_date_before)] }
def DateTellsSaid : Prop := dateTellsRow.holds Tryd.pinned (OpenSpec.ofChange dateTellsSpec)

/-- ITS FALSE NEIGHBOUR: 'it returns false'. Refute it at one input. -/
def dateTellsWrong : ChangeSpec := { name := "dateTells", fn := fun _ => fun
  | [d] => { results := [.lit (.bool false)], args := [d] }
  | _ => none }
def DateTellsWrongFalsely : Prop := dateTellsRow.holds Tryd.pinned (OpenSpec.ofChange dateTellsWrong)

/-- 'cashbooklaw04.DateOf': WHATEVER THE INPUT: true; the input reads as it did. -/
def dateOfSpec : ChangeSpec := { name := "dateOf", fn := fun _ => fun
  | [d1, d2, d3, d4] => { results := [.lit (.bool true)], args := [d1, d2, d3, d4] }
  | _ => none }
def dateOfRow : OpenClaim := { program := "ytamfbfhkojnafaadoor", sum := "2745524ed4bd9e9bf0c00d5cdcb2186ec05ee7d1bfc262689a32237afbce2a65", func := "cashbook/cashbooklaw04.DateOf", spec := "dateOf", inPlace := ["internal/abi.NoEscape", "internal/bytealg.MakeNoZero"], named := ["cashbook/date.before", "internal/strconv.uint64pow10", "math/bits.deBruijn32tab", "math/bits.deBruijn64tab"], plainKeys := false, apart := false, laid := [("math/bits.deBruijn32tab", laid_math_bits_deBruijn32tab), ("math/bits.deBruijn64tab", laid_math_bits_deBruijn64tab), ("internal/strconv.uint64pow10", laid_internal_strconv_uint64pow10), ("cashbook/date.before", laid_cashbook_date_before)] }
def DateOfSaid : Prop := dateOfRow.holds Tryd.pinned (OpenSpec.ofChange dateOfSpec)

/-- ITS FALSE NEIGHBOUR: 'it returns false'. Refute it at one input. -/
def dateOfWrong : ChangeSpec := { name := "dateOf", fn := fun _ => fun
  | [d1, d2, d3, d4] => { results := [.lit (.bool false)], args := [d1, d2, d3, d4] }
  | _ => none }
def DateOfWrongFalsely : Prop := dateOfRow.holds Tryd.pinned (OpenSpec.ofChange dateOfWrong)

/-- 'cashbooklaw04.DateGoes': WHATEVER THE INPUT: true; the input reads as it did. -/
def dateGoesSpec : ChangeSpec := { name := "dateGoes", fn := fun _ => fun
  | [d1, d2, d3] => { results := [.lit (.bool true)], args := [d1, d2, d3] }
  | _ => none }
def dateGoesRow : OpenClaim := { program := "ytamfbfhkojnafaadoor", sum := "2745524ed4bd9e9bf0c00d5cdcb2186ec05ee7d1bfc262689a32237afbce2a65", func := "cashbook/cashbooklaw04.DateGoes", spec := "dateGoes", inPlace := ["internal/abi.NoEscape", "internal/bytealg.MakeNoZero"], named := ["cashbook/date.before", "internal/strconv.uint64pow10", "math/bits.deBruijn32tab", "math/bits.deBruijn64tab"], plainKeys := false, apart := false, laid := [("math/bits.deBruijn32tab", laid_math_bits_deBruijn32tab), ("math/bits.deBruijn64tab", laid_math_bits_deBruijn64tab), ("internal/strconv.uint64pow10", laid_internal_strconv_uint64pow10), ("cashbook/date.before", laid_cashbook_date_before)] }
def DateGoesSaid : Prop := dateGoesRow.holds Tryd.pinned (OpenSpec.ofChange dateGoesSpec)

/-- ITS FALSE NEIGHBOUR: 'it returns false'. Refute it at one input. -/
def dateGoesWrong : ChangeSpec := { name := "dateGoes", fn := fun _ => fun
  | [d1, d2, d3] => { results := [.lit (.bool false)], args := [d1, d2, d3] }
  | _ => none }
def DateGoesWrongFalsely : Prop := dateGoesRow.holds Tryd.pinned (OpenSpec.ofChange dateGoesWrong)

/-- 'cashbooklaw04.DateBack': WHATEVER THE INPUT: true; the input reads as it did. -/
def dateBackSpec : ChangeSpec := { name := "dateBack", fn := fun _ => fun
  | [d] => { results := [.lit (.bool true)], args := [d] }
  | _ => none }
def dateBackRow : OpenClaim := { program := "ytamfbfhkojnafaadoor", sum := "2745524ed4bd9e9bf0c00d5cdcb2186ec05ee7d1bfc262689a32237afbce2a65", func := "cashbook/cashbooklaw04.DateBack", spec := "dateBack", inPlace := ["internal/abi.NoEscape", "internal/bytealg.MakeNoZero"], named := ["cashbook/date.before", "internal/strconv.uint64pow10", "math/bits.deBruijn32tab", "math/bits.deBruijn64tab"], plainKeys := false, apart := false, laid := [("math/bits.deBruijn32tab", laid_math_bits_deBruijn32tab), ("math/bits.deBruijn64tab", laid_math_bits_deBruijn64tab), ("internal/strconv.uint64pow10", laid_internal_strconv_uint64pow10), ("cashbook/date.before", laid_cashbook_date_before)] }
def DateBackSaid : Prop := dateBackRow.holds Tryd.pinned (OpenSpec.ofChange dateBackSpec)

/-- ITS FALSE NEIGHBOUR: 'it returns false'. Refute it at one input. -/
def dateBackWrong : ChangeSpec := { name := "dateBack", fn := fun _ => fun
  | [d] => { results := [.lit (.bool false)], args := [d] }
  | _ => none }
def DateBackWrongFalsely : Prop := dateBackRow.holds Tryd.pinned (OpenSpec.ofChange dateBackWrong)

/- THE SECOND FORM. 'bulk': how many values and letters a reading holds, each counted each time it is reached (what is shared counts as often as it is met; a slice's spare places count too). A statement '..UptoSaid' is the law's where the arguments, and the package variables that the reading takes, are together of bulk at most 1048576: NARROWER than '..Said'. Prove '..Said' where nothing that the law and all that it calls make is longer than what came in: it says more and counts as full. Else prove '..UptoSaid'. A law counts once. -/
mutual
def uptoBulk {H : Type} : DataW H → Nat
  | .lit (.string bytes) => bytes.length + 1
  | .lit _ => 1
  | .nil => 1
  | .ptr d => uptoBulk d + 1
  | .slice elems spare => uptoBulkAll elems + uptoBulkAll spare + 1
  | .agg parts => uptoBulkAll parts + 1
  | .iface _ d => uptoBulk d + 1
  | .map entries => uptoBulkEntries entries + 1
  | .held _ => 1
def uptoBulkAll {H : Type} : List (DataW H) → Nat
  | [] => 0
  | d :: r => uptoBulk d + uptoBulkAll r
def uptoBulkEntries {H : Type} : List (Lit × DataW H) → Nat
  | [] => 0
  | x :: r => uptoBulkEntry x + uptoBulkEntries r
def uptoBulkEntry {H : Type} : Lit × DataW H → Nat
  | (.string bytes, d) => bytes.length + uptoBulk d + 1
  | (_, d) => uptoBulk d + 1
 end
def uptoSmall : (H : Type) → List (DataW H) → Bool := fun _ ds => decide (uptoBulkAll ds ≤ 1048576)
def OpenSpec.upto (s : _root_.Go.ChangeSpec) : _root_.Go.OpenSpec := { _root_.Go.OpenSpec.ofChange s with cond := some uptoSmall }

/-- 'cashbooklaw06.CalendarTells', WHERE WHAT IT READS IS OF BULK AT MOST 1048576: true; the input reads as it did. -/
def calendarTellsUptoRow : OpenClaim := { program := "ytamfbfhkojnafaadoor", sum := "2745524ed4bd9e9bf0c00d5cdcb2186ec05ee7d1bfc262689a32237afbce2a65", func := "cashbook/cashbooklaw06.CalendarTells", spec := "calendarTells", unfollowed := true, recurses := true, named := ["cashbook/date.before"], plainKeys := false, apart := false, laid := [("cashbook/date.before", laid_cashbook_date_before)], narrowed := true }
def CalendarTellsUptoSaid : Prop := calendarTellsUptoRow.holds Tryd.pinned (OpenSpec.upto calendarTellsSpec)

/-- 'cashbooklaw06.CalendarRolls', WHERE WHAT IT READS IS OF BULK AT MOST 1048576: true; the input reads as it did. -/
def calendarRollsUptoRow : OpenClaim := { program := "ytamfbfhkojnafaadoor", sum := "2745524ed4bd9e9bf0c00d5cdcb2186ec05ee7d1bfc262689a32237afbce2a65", func := "cashbook/cashbooklaw06.CalendarRolls", spec := "calendarRolls", unfollowed := true, recurses := true, named := ["cashbook/date.before"], plainKeys := false, apart := false, laid := [("cashbook/date.before", laid_cashbook_date_before)], narrowed := true }
def CalendarRollsUptoSaid : Prop := calendarRollsUptoRow.holds Tryd.pinned (OpenSpec.upto calendarRollsSpec)

/-- 'cashbooklaw06.CalendarKnows', WHERE WHAT IT READS IS OF BULK AT MOST 1048576: true; the input reads as it did. -/
def calendarKnowsUptoRow : OpenClaim := { program := "ytamfbfhkojnafaadoor", sum := "2745524ed4bd9e9bf0c00d5cdcb2186ec05ee7d1bfc262689a32237afbce2a65", func := "cashbook/cashbooklaw06.CalendarKnows", spec := "calendarKnows", unfollowed := true, recurses := true, named := ["cashbook/date.before"], plainKeys := false, apart := false, laid := [("cashbook/date.before", laid_cashbook_date_before)], narrowed := true }
def CalendarKnowsUptoSaid : Prop := calendarKnowsUptoRow.holds Tryd.pinned (OpenSpec.upto calendarKnowsSpec)

/-- 'cashbooklaw06.CalendarAdds', WHERE WHAT IT READS IS OF BULK AT MOST 1048576: true; the input reads as it did. -/
def calendarAddsUptoRow : OpenClaim := { program := "ytamfbfhkojnafaadoor", sum := "2745524ed4bd9e9bf0c00d5cdcb2186ec05ee7d1bfc262689a32237afbce2a65", func := "cashbook/cashbooklaw06.CalendarAdds", spec := "calendarAdds", unfollowed := true, recurses := true, named := ["cashbook/date.before"], plainKeys := false, apart := false, laid := [("cashbook/date.before", laid_cashbook_date_before)], narrowed := true }
def CalendarAddsUptoSaid : Prop := calendarAddsUptoRow.holds Tryd.pinned (OpenSpec.upto calendarAddsSpec)

/-- 'cashbooklaw06.CalendarCounts', WHERE WHAT IT READS IS OF BULK AT MOST 1048576: true; the input reads as it did. -/
def calendarCountsUptoRow : OpenClaim := { program := "ytamfbfhkojnafaadoor", sum := "2745524ed4bd9e9bf0c00d5cdcb2186ec05ee7d1bfc262689a32237afbce2a65", func := "cashbook/cashbooklaw06.CalendarCounts", spec := "calendarCounts", unfollowed := true, recurses := true, named := ["cashbook/date.before"], plainKeys := false, apart := false, laid := [("cashbook/date.before", laid_cashbook_date_before)], narrowed := true }
def CalendarCountsUptoSaid : Prop := calendarCountsUptoRow.holds Tryd.pinned (OpenSpec.upto calendarCountsSpec)

/-- 'cashbooklaw04.DateLeaps', WHERE WHAT IT READS IS OF BULK AT MOST 1048576: true; the input reads as it did. -/
def dateLeapsUptoRow : OpenClaim := { program := "ytamfbfhkojnafaadoor", sum := "2745524ed4bd9e9bf0c00d5cdcb2186ec05ee7d1bfc262689a32237afbce2a65", func := "cashbook/cashbooklaw04.DateLeaps", spec := "dateLeaps", inPlace := ["internal/abi.NoEscape", "internal/bytealg.MakeNoZero"], named := ["cashbook/date.before", "internal/strconv.uint64pow10", "math/bits.deBruijn32tab", "math/bits.deBruijn64tab"], plainKeys := false, apart := false, laid := [("math/bits.deBruijn32tab", laid_math_bits_deBruijn32tab), ("math/bits.deBruijn64tab", laid_math_bits_deBruijn64tab), ("internal/strconv.uint64pow10", laid_internal_strconv_uint64pow10), ("cashbook/date.before", laid_cashbook_date_before)], narrowed := true }
def DateLeapsUptoSaid : Prop := dateLeapsUptoRow.holds Tryd.pinned (OpenSpec.upto dateLeapsSpec)

/-- 'cashbooklaw04.DateMonths', WHERE WHAT IT READS IS OF BULK AT MOST 1048576: true; the input reads as it did. -/
def dateMonthsUptoRow : OpenClaim := { program := "ytamfbfhkojnafaadoor", sum := "2745524ed4bd9e9bf0c00d5cdcb2186ec05ee7d1bfc262689a32237afbce2a65", func := "cashbook/cashbooklaw04.DateMonths", spec := "dateMonths", inPlace := ["internal/abi.NoEscape", "internal/bytealg.MakeNoZero"], named := ["cashbook/date.before", "internal/strconv.uint64pow10", "math/bits.deBruijn32tab", "math/bits.deBruijn64tab"], plainKeys := false, apart := false, laid := [("math/bits.deBruijn32tab", laid_math_bits_deBruijn32tab), ("math/bits.deBruijn64tab", laid_math_bits_deBruijn64tab), ("internal/strconv.uint64pow10", laid_internal_strconv_uint64pow10), ("cashbook/date.before", laid_cashbook_date_before)], narrowed := true }
def DateMonthsUptoSaid : Prop := dateMonthsUptoRow.holds Tryd.pinned (OpenSpec.upto dateMonthsSpec)

/-- 'cashbooklaw04.DateTells', WHERE WHAT IT READS IS OF BULK AT MOST 1048576: true; the input reads as it did. -/
def dateTellsUptoRow : OpenClaim := { program := "ytamfbfhkojnafaadoor", sum := "2745524ed4bd9e9bf0c00d5cdcb2186ec05ee7d1bfc262689a32237afbce2a65", func := "cashbook/cashbooklaw04.DateTells", spec := "dateTells", inPlace := ["internal/abi.NoEscape", "internal/bytealg.MakeNoZero"], named := ["cashbook/date.before", "internal/strconv.uint64pow10", "math/bits.deBruijn32tab", "math/bits.deBruijn64tab"], plainKeys := false, apart := false, laid := [("math/bits.deBruijn32tab", laid_math_bits_deBruijn32tab), ("math/bits.deBruijn64tab", laid_math_bits_deBruijn64tab), ("internal/strconv.uint64pow10", laid_internal_strconv_uint64pow10), ("cashbook/date.before", laid_cashbook_date_before)], narrowed := true }
def DateTellsUptoSaid : Prop := dateTellsUptoRow.holds Tryd.pinned (OpenSpec.upto dateTellsSpec)

/-- 'cashbooklaw04.DateOf', WHERE WHAT IT READS IS OF BULK AT MOST 1048576: true; the input reads as it did. -/
def dateOfUptoRow : OpenClaim := { program := "ytamfbfhkojnafaadoor", sum := "2745524ed4bd9e9bf0c00d5cdcb2186ec05ee7d1bfc262689a32237afbce2a65", func := "cashbook/cashbooklaw04.DateOf", spec := "dateOf", inPlace := ["internal/abi.NoEscape", "internal/bytealg.MakeNoZero"], named := ["cashbook/date.before", "internal/strconv.uint64pow10", "math/bits.deBruijn32tab", "math/bits.deBruijn64tab"], plainKeys := false, apart := false, laid := [("math/bits.deBruijn32tab", laid_math_bits_deBruijn32tab), ("math/bits.deBruijn64tab", laid_math_bits_deBruijn64tab), ("internal/strconv.uint64pow10", laid_internal_strconv_uint64pow10), ("cashbook/date.before", laid_cashbook_date_before)], narrowed := true }
def DateOfUptoSaid : Prop := dateOfUptoRow.holds Tryd.pinned (OpenSpec.upto dateOfSpec)

/-- 'cashbooklaw04.DateGoes', WHERE WHAT IT READS IS OF BULK AT MOST 1048576: true; the input reads as it did. -/
def dateGoesUptoRow : OpenClaim := { program := "ytamfbfhkojnafaadoor", sum := "2745524ed4bd9e9bf0c00d5cdcb2186ec05ee7d1bfc262689a32237afbce2a65", func := "cashbook/cashbooklaw04.DateGoes", spec := "dateGoes", inPlace := ["internal/abi.NoEscape", "internal/bytealg.MakeNoZero"], named := ["cashbook/date.before", "internal/strconv.uint64pow10", "math/bits.deBruijn32tab", "math/bits.deBruijn64tab"], plainKeys := false, apart := false, laid := [("math/bits.deBruijn32tab", laid_math_bits_deBruijn32tab), ("math/bits.deBruijn64tab", laid_math_bits_deBruijn64tab), ("internal/strconv.uint64pow10", laid_internal_strconv_uint64pow10), ("cashbook/date.before", laid_cashbook_date_before)], narrowed := true }
def DateGoesUptoSaid : Prop := dateGoesUptoRow.holds Tryd.pinned (OpenSpec.upto dateGoesSpec)

/-- 'cashbooklaw04.DateBack', WHERE WHAT IT READS IS OF BULK AT MOST 1048576: true; the input reads as it did. -/
def dateBackUptoRow : OpenClaim := { program := "ytamfbfhkojnafaadoor", sum := "2745524ed4bd9e9bf0c00d5cdcb2186ec05ee7d1bfc262689a32237afbce2a65", func := "cashbook/cashbooklaw04.DateBack", spec := "dateBack", inPlace := ["internal/abi.NoEscape", "internal/bytealg.MakeNoZero"], named := ["cashbook/date.before", "internal/strconv.uint64pow10", "math/bits.deBruijn32tab", "math/bits.deBruijn64tab"], plainKeys := false, apart := false, laid := [("math/bits.deBruijn32tab", laid_math_bits_deBruijn32tab), ("math/bits.deBruijn64tab", laid_math_bits_deBruijn64tab), ("internal/strconv.uint64pow10", laid_internal_strconv_uint64pow10), ("cashbook/date.before", laid_cashbook_date_before)], narrowed := true }
def DateBackUptoSaid : Prop := dateBackUptoRow.holds Tryd.pinned (OpenSpec.upto dateBackSpec)

end Rows
end Go.Proofs.YtamfbfhkojnafaaDoor
