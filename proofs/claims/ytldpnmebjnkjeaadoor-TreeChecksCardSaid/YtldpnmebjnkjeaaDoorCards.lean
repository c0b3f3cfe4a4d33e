/-
  DERIVED. GIVEN WITH THE SEED: THE CARDS: each row of YtldpnmebjnkjeaaDoorRows.lean that lists a variable, with what it lists TIED to the program's text (the seventh form; the later family's looks); each row that meets fmt, with fmt's text TOLD by the authors' own Lean function (tested against real Go, not proved from fmt's source: count such statements apart). THE CARD IS WHAT COUNTS. Prove the row's statement (the work); the ties are given (YtldpnmebjnkjeaaDoorTie.lean); close each card by the builder's one call (the guide's Derived/Test/ToyasCard.lean, 'card_holds'). Laid BY PROGRAM, IN A SANDBOX (cutbox-door.mjs). By AI agents, Wed Nov 11 2026. No macro, syntax, notation, axiom, sorry.
-/
import Derived.Test.YtldpnmebjnkjeaaDoorRows
import GoSem.ClaimSeven
namespace Go.Proofs.YtldpnmebjnkjeaaDoor
namespace Rows

/-- THE TIED CARD OF 'cashbooklaw10.HashLong'. -/
def hashLongCard : Claim7 := { stood := { row := hashLongRow, standIns := [], harness := (true, "4fbcc9b6cf80ee3c6b4f306a373388927464028f305ddf2fc959a03a441baaa7"), looks := false }, kinds := [], alts := [], laidByText := true, laidKinds := [.data], laidTests := true, laidLooks := .later }
def HashLongCardSaid : Prop := Claim7.holds Tryd.pinned (.plain (OpenSpec.ofChange hashLongSpec)) hashLongCard

/-- THE TIED CARD OF 'cashbooklaw10.HashFeeds'. -/
def hashFeedsCard : Claim7 := { stood := { row := hashFeedsRow, standIns := [], harness := (true, "4fbcc9b6cf80ee3c6b4f306a373388927464028f305ddf2fc959a03a441baaa7"), looks := false }, kinds := [], alts := [], laidByText := true, laidKinds := [.data], laidTests := true, laidLooks := .later }
def HashFeedsCardSaid : Prop := Claim7.holds Tryd.pinned (.plain (OpenSpec.ofChange hashFeedsSpec)) hashFeedsCard

/-- THE TIED CARD OF 'cashbooklaw10.HashParts'. -/
def hashPartsCard : Claim7 := { stood := { row := hashPartsRow, standIns := [], harness := (true, "4fbcc9b6cf80ee3c6b4f306a373388927464028f305ddf2fc959a03a441baaa7"), looks := false }, kinds := [], alts := [], laidByText := true, laidKinds := [.data], laidTests := true, laidLooks := .later }
def HashPartsCardSaid : Prop := Claim7.holds Tryd.pinned (.plain (OpenSpec.ofChange hashPartsSpec)) hashPartsCard

/-- THE TIED CARD OF 'cashbooklaw10.HashTells'. -/
def hashTellsCard : Claim7 := { stood := { row := hashTellsRow, standIns := [], harness := (true, "4fbcc9b6cf80ee3c6b4f306a373388927464028f305ddf2fc959a03a441baaa7"), looks := false }, kinds := [], alts := [], laidByText := true, laidKinds := [.data], laidTests := true, laidLooks := .later }
def HashTellsCardSaid : Prop := Claim7.holds Tryd.pinned (.plain (OpenSpec.ofChange hashTellsSpec)) hashTellsCard

/-- THE TIED CARD OF 'cashbooklaw10.HashHex'. -/
def hashHexCard : Claim7 := { stood := { row := hashHexRow, standIns := [], harness := (true, "4fbcc9b6cf80ee3c6b4f306a373388927464028f305ddf2fc959a03a441baaa7"), looks := false }, kinds := [], alts := [], laidByText := true, laidKinds := [.data], laidTests := true, laidLooks := .later }
def HashHexCardSaid : Prop := Claim7.holds Tryd.pinned (.plain (OpenSpec.ofChange hashHexSpec)) hashHexCard

/-- THE TIED CARD OF 'cashbooklaw11.TreeTells'. -/
def treeTellsCard : Claim7 := { stood := { row := treeTellsRow, standIns := [], harness := (true, "4fbcc9b6cf80ee3c6b4f306a373388927464028f305ddf2fc959a03a441baaa7"), looks := false }, kinds := [], alts := [], laidByText := true, laidKinds := [.data], laidTests := true, laidLooks := .later }
def TreeTellsCardSaid : Prop := Claim7.holds Tryd.pinned (.plain (OpenSpec.ofChange treeTellsSpec)) treeTellsCard

/-- THE TIED CARD OF 'cashbooklaw11.TreeChecks'. -/
def treeChecksCard : Claim7 := { stood := { row := treeChecksRow, standIns := [], harness := (true, "4fbcc9b6cf80ee3c6b4f306a373388927464028f305ddf2fc959a03a441baaa7"), looks := false }, kinds := [], alts := [], laidByText := true, laidKinds := [.data], laidTests := true, laidLooks := .later }
def TreeChecksCardSaid : Prop := Claim7.holds Tryd.pinned (.plain (OpenSpec.ofChange treeChecksSpec)) treeChecksCard

/-- THE TIED CARD OF 'cashbooklaw11.TreeStands'. -/
def treeStandsCard : Claim7 := { stood := { row := treeStandsRow, standIns := [], harness := (true, "4fbcc9b6cf80ee3c6b4f306a373388927464028f305ddf2fc959a03a441baaa7"), looks := false }, kinds := [], alts := [], laidByText := true, laidKinds := [.data], laidTests := true, laidLooks := .later }
def TreeStandsCardSaid : Prop := Claim7.holds Tryd.pinned (.plain (OpenSpec.ofChange treeStandsSpec)) treeStandsCard

/-- THE TIED CARD OF 'cashbooklaw11.TreeSound'. -/
def treeSoundCard : Claim7 := { stood := { row := treeSoundRow, standIns := [], harness := (true, "4fbcc9b6cf80ee3c6b4f306a373388927464028f305ddf2fc959a03a441baaa7"), looks := false }, kinds := [], alts := [], laidByText := true, laidKinds := [.data], laidTests := true, laidLooks := .later }
def TreeSoundCardSaid : Prop := Claim7.holds Tryd.pinned (.plain (OpenSpec.ofChange treeSoundSpec)) treeSoundCard

/-- THE TIED CARD OF 'cashbooklaw11.TreeForks'. -/
def treeForksCard : Claim7 := { stood := { row := treeForksRow, standIns := [], harness := (true, "4fbcc9b6cf80ee3c6b4f306a373388927464028f305ddf2fc959a03a441baaa7"), looks := false }, kinds := [], alts := [], laidByText := true, laidKinds := [.data], laidTests := true, laidLooks := .later }
def TreeForksCardSaid : Prop := Claim7.holds Tryd.pinned (.plain (OpenSpec.ofChange treeForksSpec)) treeForksCard

/-- THE SECOND FORM's CARD OF 'cashbooklaw10.HashLong'. -/
def hashLongUptoCard : Claim7 := { stood := { row := hashLongUptoRow, standIns := [], harness := (true, "4fbcc9b6cf80ee3c6b4f306a373388927464028f305ddf2fc959a03a441baaa7"), looks := false }, kinds := [], alts := [], laidByText := true, laidKinds := [.data], laidTests := true, laidLooks := .later }
def HashLongUptoCardSaid : Prop := Claim7.holds Tryd.pinned (.plain (OpenSpec.upto hashLongSpec)) hashLongUptoCard

/-- THE SECOND FORM's CARD OF 'cashbooklaw10.HashFeeds'. -/
def hashFeedsUptoCard : Claim7 := { stood := { row := hashFeedsUptoRow, standIns := [], harness := (true, "4fbcc9b6cf80ee3c6b4f306a373388927464028f305ddf2fc959a03a441baaa7"), looks := false }, kinds := [], alts := [], laidByText := true, laidKinds := [.data], laidTests := true, laidLooks := .later }
def HashFeedsUptoCardSaid : Prop := Claim7.holds Tryd.pinned (.plain (OpenSpec.upto hashFeedsSpec)) hashFeedsUptoCard

/-- THE SECOND FORM's CARD OF 'cashbooklaw10.HashParts'. -/
def hashPartsUptoCard : Claim7 := { stood := { row := hashPartsUptoRow, standIns := [], harness := (true, "4fbcc9b6cf80ee3c6b4f306a373388927464028f305ddf2fc959a03a441baaa7"), looks := false }, kinds := [], alts := [], laidByText := true, laidKinds := [.data], laidTests := true, laidLooks := .later }
def HashPartsUptoCardSaid : Prop := Claim7.holds Tryd.pinned (.plain (OpenSpec.upto hashPartsSpec)) hashPartsUptoCard

/-- THE SECOND FORM's CARD OF 'cashbooklaw10.HashTells'. -/
def hashTellsUptoCard : Claim7 := { stood := { row := hashTellsUptoRow, standIns := [], harness := (true, "4fbcc9b6cf80ee3c6b4f306a373388927464028f305ddf2fc959a03a441baaa7"), looks := false }, kinds := [], alts := [], laidByText := true, laidKinds := [.data], laidTests := true, laidLooks := .later }
def HashTellsUptoCardSaid : Prop := Claim7.holds Tryd.pinned (.plain (OpenSpec.upto hashTellsSpec)) hashTellsUptoCard

/-- THE SECOND FORM's CARD OF 'cashbooklaw10.HashHex'. -/
def hashHexUptoCard : Claim7 := { stood := { row := hashHexUptoRow, standIns := [], harness := (true, "4fbcc9b6cf80ee3c6b4f306a373388927464028f305ddf2fc959a03a441baaa7"), looks := false }, kinds := [], alts := [], laidByText := true, laidKinds := [.data], laidTests := true, laidLooks := .later }
def HashHexUptoCardSaid : Prop := Claim7.holds Tryd.pinned (.plain (OpenSpec.upto hashHexSpec)) hashHexUptoCard

/-- THE SECOND FORM's CARD OF 'cashbooklaw11.TreeTells'. -/
def treeTellsUptoCard : Claim7 := { stood := { row := treeTellsUptoRow, standIns := [], harness := (true, "4fbcc9b6cf80ee3c6b4f306a373388927464028f305ddf2fc959a03a441baaa7"), looks := false }, kinds := [], alts := [], laidByText := true, laidKinds := [.data], laidTests := true, laidLooks := .later }
def TreeTellsUptoCardSaid : Prop := Claim7.holds Tryd.pinned (.plain (OpenSpec.upto treeTellsSpec)) treeTellsUptoCard

/-- THE SECOND FORM's CARD OF 'cashbooklaw11.TreeChecks'. -/
def treeChecksUptoCard : Claim7 := { stood := { row := treeChecksUptoRow, standIns := [], harness := (true, "4fbcc9b6cf80ee3c6b4f306a373388927464028f305ddf2fc959a03a441baaa7"), looks := false }, kinds := [], alts := [], laidByText := true, laidKinds := [.data], laidTests := true, laidLooks := .later }
def TreeChecksUptoCardSaid : Prop := Claim7.holds Tryd.pinned (.plain (OpenSpec.upto treeChecksSpec)) treeChecksUptoCard

/-- THE SECOND FORM's CARD OF 'cashbooklaw11.TreeStands'. -/
def treeStandsUptoCard : Claim7 := { stood := { row := treeStandsUptoRow, standIns := [], harness := (true, "4fbcc9b6cf80ee3c6b4f306a373388927464028f305ddf2fc959a03a441baaa7"), looks := false }, kinds := [], alts := [], laidByText := true, laidKinds := [.data], laidTests := true, laidLooks := .later }
def TreeStandsUptoCardSaid : Prop := Claim7.holds Tryd.pinned (.plain (OpenSpec.upto treeStandsSpec)) treeStandsUptoCard

/-- THE SECOND FORM's CARD OF 'cashbooklaw11.TreeSound'. -/
def treeSoundUptoCard : Claim7 := { stood := { row := treeSoundUptoRow, standIns := [], harness := (true, "4fbcc9b6cf80ee3c6b4f306a373388927464028f305ddf2fc959a03a441baaa7"), looks := false }, kinds := [], alts := [], laidByText := true, laidKinds := [.data], laidTests := true, laidLooks := .later }
def TreeSoundUptoCardSaid : Prop := Claim7.holds Tryd.pinned (.plain (OpenSpec.upto treeSoundSpec)) treeSoundUptoCard

/-- THE SECOND FORM's CARD OF 'cashbooklaw11.TreeForks'. -/
def treeForksUptoCard : Claim7 := { stood := { row := treeForksUptoRow, standIns := [], harness := (true, "4fbcc9b6cf80ee3c6b4f306a373388927464028f305ddf2fc959a03a441baaa7"), looks := false }, kinds := [], alts := [], laidByText := true, laidKinds := [.data], laidTests := true, laidLooks := .later }
def TreeForksUptoCardSaid : Prop := Claim7.holds Tryd.pinned (.plain (OpenSpec.upto treeForksSpec)) treeForksUptoCard
end Rows
end Go.Proofs.YtldpnmebjnkjeaaDoor
