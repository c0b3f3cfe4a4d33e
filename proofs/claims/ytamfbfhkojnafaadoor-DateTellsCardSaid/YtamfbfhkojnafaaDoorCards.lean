/-
  DERIVED. GIVEN WITH THE SEED: THE CARDS: each row of YtamfbfhkojnafaaDoorRows.lean that lists a variable, with what it lists TIED to the program's text (the seventh form; the later family's looks); each row that meets fmt, with fmt's text TOLD by the authors' own Lean function (tested against real Go, not proved from fmt's source: count such statements apart). THE CARD IS WHAT COUNTS. Prove the row's statement (the work); the ties are given (YtamfbfhkojnafaaDoorTie.lean); close each card by the builder's one call (the guide's Derived/Test/ToyasCard.lean, 'card_holds'). Laid BY PROGRAM, IN A SANDBOX (cutbox-door.mjs). By AI agents, Wed Nov 11 2026. No macro, syntax, notation, axiom, sorry.
-/
import Derived.Test.YtamfbfhkojnafaaDoorRows
import GoSem.ClaimSeven
namespace Go.Proofs.YtamfbfhkojnafaaDoor
namespace Rows

/-- THE TIED CARD OF 'cashbooklaw06.CalendarTells'. -/
def calendarTellsCard : Claim7 := { stood := { row := calendarTellsRow, standIns := [], harness := (true, "258a3fd18289017668c83bc54e7562e2a84d67efb409c7c0658abc9bd8160988"), looks := false }, kinds := [], alts := [], laidByText := true, laidKinds := [.data], laidTests := true, laidLooks := .later }
def CalendarTellsCardSaid : Prop := Claim7.holds Tryd.pinned (.plain (OpenSpec.ofChange calendarTellsSpec)) calendarTellsCard

/-- THE TIED CARD OF 'cashbooklaw06.CalendarRolls'. -/
def calendarRollsCard : Claim7 := { stood := { row := calendarRollsRow, standIns := [], harness := (true, "258a3fd18289017668c83bc54e7562e2a84d67efb409c7c0658abc9bd8160988"), looks := false }, kinds := [], alts := [], laidByText := true, laidKinds := [.data], laidTests := true, laidLooks := .later }
def CalendarRollsCardSaid : Prop := Claim7.holds Tryd.pinned (.plain (OpenSpec.ofChange calendarRollsSpec)) calendarRollsCard

/-- THE TIED CARD OF 'cashbooklaw06.CalendarKnows'. -/
def calendarKnowsCard : Claim7 := { stood := { row := calendarKnowsRow, standIns := [], harness := (true, "258a3fd18289017668c83bc54e7562e2a84d67efb409c7c0658abc9bd8160988"), looks := false }, kinds := [], alts := [], laidByText := true, laidKinds := [.data], laidTests := true, laidLooks := .later }
def CalendarKnowsCardSaid : Prop := Claim7.holds Tryd.pinned (.plain (OpenSpec.ofChange calendarKnowsSpec)) calendarKnowsCard

/-- THE TIED CARD OF 'cashbooklaw06.CalendarAdds'. -/
def calendarAddsCard : Claim7 := { stood := { row := calendarAddsRow, standIns := [], harness := (true, "258a3fd18289017668c83bc54e7562e2a84d67efb409c7c0658abc9bd8160988"), looks := false }, kinds := [], alts := [], laidByText := true, laidKinds := [.data], laidTests := true, laidLooks := .later }
def CalendarAddsCardSaid : Prop := Claim7.holds Tryd.pinned (.plain (OpenSpec.ofChange calendarAddsSpec)) calendarAddsCard

/-- THE TIED CARD OF 'cashbooklaw06.CalendarCounts'. -/
def calendarCountsCard : Claim7 := { stood := { row := calendarCountsRow, standIns := [], harness := (true, "258a3fd18289017668c83bc54e7562e2a84d67efb409c7c0658abc9bd8160988"), looks := false }, kinds := [], alts := [], laidByText := true, laidKinds := [.data], laidTests := true, laidLooks := .later }
def CalendarCountsCardSaid : Prop := Claim7.holds Tryd.pinned (.plain (OpenSpec.ofChange calendarCountsSpec)) calendarCountsCard

/-- THE TIED CARD OF 'cashbooklaw04.DateLeaps'. -/
def dateLeapsCard : Claim7 := { stood := { row := dateLeapsRow, standIns := [], harness := (true, "258a3fd18289017668c83bc54e7562e2a84d67efb409c7c0658abc9bd8160988"), looks := false }, kinds := [], alts := [], laidByText := true, laidKinds := [.data, .data, .data, .data], laidTests := true, laidLooks := .later }
def DateLeapsCardSaid : Prop := Claim7.holds Tryd.pinned (.plain (OpenSpec.ofChange dateLeapsSpec)) dateLeapsCard

/-- THE TIED CARD OF 'cashbooklaw04.DateMonths'. -/
def dateMonthsCard : Claim7 := { stood := { row := dateMonthsRow, standIns := [], harness := (true, "258a3fd18289017668c83bc54e7562e2a84d67efb409c7c0658abc9bd8160988"), looks := false }, kinds := [], alts := [], laidByText := true, laidKinds := [.data, .data, .data, .data], laidTests := true, laidLooks := .later }
def DateMonthsCardSaid : Prop := Claim7.holds Tryd.pinned (.plain (OpenSpec.ofChange dateMonthsSpec)) dateMonthsCard

/-- THE TIED CARD OF 'cashbooklaw04.DateTells'. -/
def dateTellsCard : Claim7 := { stood := { row := dateTellsRow, standIns := [], harness := (true, "258a3fd18289017668c83bc54e7562e2a84d67efb409c7c0658abc9bd8160988"), looks := false }, kinds := [], alts := [], laidByText := true, laidKinds := [.data, .data, .data, .data], laidTests := true, laidLooks := .later }
def DateTellsCardSaid : Prop := Claim7.holds Tryd.pinned (.plain (OpenSpec.ofChange dateTellsSpec)) dateTellsCard

/-- THE TIED CARD OF 'cashbooklaw04.DateOf'. -/
def dateOfCard : Claim7 := { stood := { row := dateOfRow, standIns := [], harness := (true, "258a3fd18289017668c83bc54e7562e2a84d67efb409c7c0658abc9bd8160988"), looks := false }, kinds := [], alts := [], laidByText := true, laidKinds := [.data, .data, .data, .data], laidTests := true, laidLooks := .later }
def DateOfCardSaid : Prop := Claim7.holds Tryd.pinned (.plain (OpenSpec.ofChange dateOfSpec)) dateOfCard

/-- THE TIED CARD OF 'cashbooklaw04.DateGoes'. -/
def dateGoesCard : Claim7 := { stood := { row := dateGoesRow, standIns := [], harness := (true, "258a3fd18289017668c83bc54e7562e2a84d67efb409c7c0658abc9bd8160988"), looks := false }, kinds := [], alts := [], laidByText := true, laidKinds := [.data, .data, .data, .data], laidTests := true, laidLooks := .later }
def DateGoesCardSaid : Prop := Claim7.holds Tryd.pinned (.plain (OpenSpec.ofChange dateGoesSpec)) dateGoesCard

/-- THE TIED CARD OF 'cashbooklaw04.DateBack'. -/
def dateBackCard : Claim7 := { stood := { row := dateBackRow, standIns := [], harness := (true, "258a3fd18289017668c83bc54e7562e2a84d67efb409c7c0658abc9bd8160988"), looks := false }, kinds := [], alts := [], laidByText := true, laidKinds := [.data, .data, .data, .data], laidTests := true, laidLooks := .later }
def DateBackCardSaid : Prop := Claim7.holds Tryd.pinned (.plain (OpenSpec.ofChange dateBackSpec)) dateBackCard

/-- THE SECOND FORM's CARD OF 'cashbooklaw06.CalendarTells'. -/
def calendarTellsUptoCard : Claim7 := { stood := { row := calendarTellsUptoRow, standIns := [], harness := (true, "258a3fd18289017668c83bc54e7562e2a84d67efb409c7c0658abc9bd8160988"), looks := false }, kinds := [], alts := [], laidByText := true, laidKinds := [.data], laidTests := true, laidLooks := .later }
def CalendarTellsUptoCardSaid : Prop := Claim7.holds Tryd.pinned (.plain (OpenSpec.upto calendarTellsSpec)) calendarTellsUptoCard

/-- THE SECOND FORM's CARD OF 'cashbooklaw06.CalendarRolls'. -/
def calendarRollsUptoCard : Claim7 := { stood := { row := calendarRollsUptoRow, standIns := [], harness := (true, "258a3fd18289017668c83bc54e7562e2a84d67efb409c7c0658abc9bd8160988"), looks := false }, kinds := [], alts := [], laidByText := true, laidKinds := [.data], laidTests := true, laidLooks := .later }
def CalendarRollsUptoCardSaid : Prop := Claim7.holds Tryd.pinned (.plain (OpenSpec.upto calendarRollsSpec)) calendarRollsUptoCard

/-- THE SECOND FORM's CARD OF 'cashbooklaw06.CalendarKnows'. -/
def calendarKnowsUptoCard : Claim7 := { stood := { row := calendarKnowsUptoRow, standIns := [], harness := (true, "258a3fd18289017668c83bc54e7562e2a84d67efb409c7c0658abc9bd8160988"), looks := false }, kinds := [], alts := [], laidByText := true, laidKinds := [.data], laidTests := true, laidLooks := .later }
def CalendarKnowsUptoCardSaid : Prop := Claim7.holds Tryd.pinned (.plain (OpenSpec.upto calendarKnowsSpec)) calendarKnowsUptoCard

/-- THE SECOND FORM's CARD OF 'cashbooklaw06.CalendarAdds'. -/
def calendarAddsUptoCard : Claim7 := { stood := { row := calendarAddsUptoRow, standIns := [], harness := (true, "258a3fd18289017668c83bc54e7562e2a84d67efb409c7c0658abc9bd8160988"), looks := false }, kinds := [], alts := [], laidByText := true, laidKinds := [.data], laidTests := true, laidLooks := .later }
def CalendarAddsUptoCardSaid : Prop := Claim7.holds Tryd.pinned (.plain (OpenSpec.upto calendarAddsSpec)) calendarAddsUptoCard

/-- THE SECOND FORM's CARD OF 'cashbooklaw06.CalendarCounts'. -/
def calendarCountsUptoCard : Claim7 := { stood := { row := calendarCountsUptoRow, standIns := [], harness := (true, "258a3fd18289017668c83bc54e7562e2a84d67efb409c7c0658abc9bd8160988"), looks := false }, kinds := [], alts := [], laidByText := true, laidKinds := [.data], laidTests := true, laidLooks := .later }
def CalendarCountsUptoCardSaid : Prop := Claim7.holds Tryd.pinned (.plain (OpenSpec.upto calendarCountsSpec)) calendarCountsUptoCard

/-- THE SECOND FORM's CARD OF 'cashbooklaw04.DateLeaps'. -/
def dateLeapsUptoCard : Claim7 := { stood := { row := dateLeapsUptoRow, standIns := [], harness := (true, "258a3fd18289017668c83bc54e7562e2a84d67efb409c7c0658abc9bd8160988"), looks := false }, kinds := [], alts := [], laidByText := true, laidKinds := [.data, .data, .data, .data], laidTests := true, laidLooks := .later }
def DateLeapsUptoCardSaid : Prop := Claim7.holds Tryd.pinned (.plain (OpenSpec.upto dateLeapsSpec)) dateLeapsUptoCard

/-- THE SECOND FORM's CARD OF 'cashbooklaw04.DateMonths'. -/
def dateMonthsUptoCard : Claim7 := { stood := { row := dateMonthsUptoRow, standIns := [], harness := (true, "258a3fd18289017668c83bc54e7562e2a84d67efb409c7c0658abc9bd8160988"), looks := false }, kinds := [], alts := [], laidByText := true, laidKinds := [.data, .data, .data, .data], laidTests := true, laidLooks := .later }
def DateMonthsUptoCardSaid : Prop := Claim7.holds Tryd.pinned (.plain (OpenSpec.upto dateMonthsSpec)) dateMonthsUptoCard

/-- THE SECOND FORM's CARD OF 'cashbooklaw04.DateTells'. -/
def dateTellsUptoCard : Claim7 := { stood := { row := dateTellsUptoRow, standIns := [], harness := (true, "258a3fd18289017668c83bc54e7562e2a84d67efb409c7c0658abc9bd8160988"), looks := false }, kinds := [], alts := [], laidByText := true, laidKinds := [.data, .data, .data, .data], laidTests := true, laidLooks := .later }
def DateTellsUptoCardSaid : Prop := Claim7.holds Tryd.pinned (.plain (OpenSpec.upto dateTellsSpec)) dateTellsUptoCard

/-- THE SECOND FORM's CARD OF 'cashbooklaw04.DateOf'. -/
def dateOfUptoCard : Claim7 := { stood := { row := dateOfUptoRow, standIns := [], harness := (true, "258a3fd18289017668c83bc54e7562e2a84d67efb409c7c0658abc9bd8160988"), looks := false }, kinds := [], alts := [], laidByText := true, laidKinds := [.data, .data, .data, .data], laidTests := true, laidLooks := .later }
def DateOfUptoCardSaid : Prop := Claim7.holds Tryd.pinned (.plain (OpenSpec.upto dateOfSpec)) dateOfUptoCard

/-- THE SECOND FORM's CARD OF 'cashbooklaw04.DateGoes'. -/
def dateGoesUptoCard : Claim7 := { stood := { row := dateGoesUptoRow, standIns := [], harness := (true, "258a3fd18289017668c83bc54e7562e2a84d67efb409c7c0658abc9bd8160988"), looks := false }, kinds := [], alts := [], laidByText := true, laidKinds := [.data, .data, .data, .data], laidTests := true, laidLooks := .later }
def DateGoesUptoCardSaid : Prop := Claim7.holds Tryd.pinned (.plain (OpenSpec.upto dateGoesSpec)) dateGoesUptoCard

/-- THE SECOND FORM's CARD OF 'cashbooklaw04.DateBack'. -/
def dateBackUptoCard : Claim7 := { stood := { row := dateBackUptoRow, standIns := [], harness := (true, "258a3fd18289017668c83bc54e7562e2a84d67efb409c7c0658abc9bd8160988"), looks := false }, kinds := [], alts := [], laidByText := true, laidKinds := [.data, .data, .data, .data], laidTests := true, laidLooks := .later }
def DateBackUptoCardSaid : Prop := Claim7.holds Tryd.pinned (.plain (OpenSpec.upto dateBackSpec)) dateBackUptoCard
end Rows
end Go.Proofs.YtamfbfhkojnafaaDoor
