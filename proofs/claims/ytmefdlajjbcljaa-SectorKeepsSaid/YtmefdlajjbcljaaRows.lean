/-
  No cell of these rows narrows 'for every input' (looked for: loops, veiled, ifaces, maps, wideKeys, modest, calm, conditions, laid).
  DERIVED. THE GIVEN ROWS OF THIS SEAT. 10 by the template 'for every input the law returns true; each argument reads behind the call as it read before'; 0 by the template 'total and deterministic' (their statements: YtmefdlajjbcljaaTotals.lean).
  GIVEN WITH THE SEED: the statements are not yours to turn. If you find one false, say at which input.
  Laid BY PROGRAM, IN A SANDBOX (cutbox-rows.mjs): the forced cells as the released guide's own fill.sh prints them over the translation 6f59121661fd5032… (all of the seat's roots in one cut). By AI agents, Wed Nov 11 2026. No macro, syntax, notation, axiom, sorry.
-/
import Derived.Test.YtmefdlajjbcljaaChecked
import GoSem.Claim
import GoSem.ClaimJoined
import GoSem.ClaimMapViews
import Derived.JoinedTies
import Derived.KernelRfl
namespace Go.Proofs.Ytmefdlajjbcljaa
/- THE CELL 'sum', in the pinned program and in every row, IS THE sha256 OF THE DUMP (.gsa) THAT YtmefdlajjbcljaaProg.lean LOADS. Nothing in Lean hashes anything: it is a label: what it is worth is what the hold of that sum in a sandbox is worth. -/
noncomputable def Try.pinned : Pinned := { name := "ytmefdlajjbcljaa", sum := "6f59121661fd50324aa2151aa4e6f44f9bf73a26153471c4a8a58ee832cb4dbe", checked := Try.checked }
namespace Rows
def none {H : Type} : Left H := { results := [], args := [] }

/-- 'cashbooklaw08.SectorSeals': WHATEVER THE INPUT: true; the input reads as it did. -/
def sectorSealsSpec : ChangeSpec := { name := "sectorSeals", fn := fun _ => fun
  | [d1, d2] => { results := [.lit (.bool true)], args := [d1, d2] }
  | _ => none }
def sectorSealsRow : OpenClaim := { program := "ytmefdlajjbcljaa", sum := "6f59121661fd50324aa2151aa4e6f44f9bf73a26153471c4a8a58ee832cb4dbe", func := "cashbook/cashbooklaw08.SectorSeals", spec := "sectorSeals", unfollowed := true, recurses := true, apart := false }
def SectorSealsSaid : Prop := sectorSealsRow.holds Try.pinned (OpenSpec.ofChange sectorSealsSpec)

/-- ITS FALSE NEIGHBOUR: 'it returns false'. Refute it at one input. -/
def sectorSealsWrong : ChangeSpec := { name := "sectorSeals", fn := fun _ => fun
  | [d1, d2] => { results := [.lit (.bool false)], args := [d1, d2] }
  | _ => none }
def SectorSealsWrongFalsely : Prop := sectorSealsRow.holds Try.pinned (OpenSpec.ofChange sectorSealsWrong)

/-- 'cashbooklaw08.SectorMoves': WHATEVER THE INPUT: true; the input reads as it did. -/
def sectorMovesSpec : ChangeSpec := { name := "sectorMoves", fn := fun _ => fun
  | [d1, d2, d3, d4, d5, d6] => { results := [.lit (.bool true)], args := [d1, d2, d3, d4, d5, d6] }
  | _ => none }
def sectorMovesRow : OpenClaim := { program := "ytmefdlajjbcljaa", sum := "6f59121661fd50324aa2151aa4e6f44f9bf73a26153471c4a8a58ee832cb4dbe", func := "cashbook/cashbooklaw08.SectorMoves", spec := "sectorMoves", unfollowed := true, recurses := true, apart := false }
def SectorMovesSaid : Prop := sectorMovesRow.holds Try.pinned (OpenSpec.ofChange sectorMovesSpec)

/-- ITS FALSE NEIGHBOUR: 'it returns false'. Refute it at one input. -/
def sectorMovesWrong : ChangeSpec := { name := "sectorMoves", fn := fun _ => fun
  | [d1, d2, d3, d4, d5, d6] => { results := [.lit (.bool false)], args := [d1, d2, d3, d4, d5, d6] }
  | _ => none }
def SectorMovesWrongFalsely : Prop := sectorMovesRow.holds Try.pinned (OpenSpec.ofChange sectorMovesWrong)

/-- 'cashbooklaw08.SectorKeeps': WHATEVER THE INPUT: true; the input reads as it did. -/
def sectorKeepsSpec : ChangeSpec := { name := "sectorKeeps", fn := fun _ => fun
  | [d1, d2] => { results := [.lit (.bool true)], args := [d1, d2] }
  | _ => none }
def sectorKeepsRow : OpenClaim := { program := "ytmefdlajjbcljaa", sum := "6f59121661fd50324aa2151aa4e6f44f9bf73a26153471c4a8a58ee832cb4dbe", func := "cashbook/cashbooklaw08.SectorKeeps", spec := "sectorKeeps", unfollowed := true, recurses := true, apart := false }
def SectorKeepsSaid : Prop := sectorKeepsRow.holds Try.pinned (OpenSpec.ofChange sectorKeepsSpec)

/-- ITS FALSE NEIGHBOUR: 'it returns false'. Refute it at one input. -/
def sectorKeepsWrong : ChangeSpec := { name := "sectorKeeps", fn := fun _ => fun
  | [d1, d2] => { results := [.lit (.bool false)], args := [d1, d2] }
  | _ => none }
def SectorKeepsWrongFalsely : Prop := sectorKeepsRow.holds Try.pinned (OpenSpec.ofChange sectorKeepsWrong)

/-- 'cashbooklaw08.SectorStops': WHATEVER THE INPUT: true; the input reads as it did. -/
def sectorStopsSpec : ChangeSpec := { name := "sectorStops", fn := fun _ => fun
  | [d1, d2] => { results := [.lit (.bool true)], args := [d1, d2] }
  | _ => none }
def sectorStopsRow : OpenClaim := { program := "ytmefdlajjbcljaa", sum := "6f59121661fd50324aa2151aa4e6f44f9bf73a26153471c4a8a58ee832cb4dbe", func := "cashbook/cashbooklaw08.SectorStops", spec := "sectorStops", unfollowed := true, recurses := true, apart := false }
def SectorStopsSaid : Prop := sectorStopsRow.holds Try.pinned (OpenSpec.ofChange sectorStopsSpec)

/-- ITS FALSE NEIGHBOUR: 'it returns false'. Refute it at one input. -/
def sectorStopsWrong : ChangeSpec := { name := "sectorStops", fn := fun _ => fun
  | [d1, d2] => { results := [.lit (.bool false)], args := [d1, d2] }
  | _ => none }
def SectorStopsWrongFalsely : Prop := sectorStopsRow.holds Try.pinned (OpenSpec.ofChange sectorStopsWrong)

/-- 'cashbooklaw08.SectorTurns': WHATEVER THE INPUT: true; the input reads as it did. -/
def sectorTurnsSpec : ChangeSpec := { name := "sectorTurns", fn := fun _ => fun
  | [d1, d2, d3] => { results := [.lit (.bool true)], args := [d1, d2, d3] }
  | _ => none }
def sectorTurnsRow : OpenClaim := { program := "ytmefdlajjbcljaa", sum := "6f59121661fd50324aa2151aa4e6f44f9bf73a26153471c4a8a58ee832cb4dbe", func := "cashbook/cashbooklaw08.SectorTurns", spec := "sectorTurns", unfollowed := true, recurses := true, apart := false }
def SectorTurnsSaid : Prop := sectorTurnsRow.holds Try.pinned (OpenSpec.ofChange sectorTurnsSpec)

/-- ITS FALSE NEIGHBOUR: 'it returns false'. Refute it at one input. -/
def sectorTurnsWrong : ChangeSpec := { name := "sectorTurns", fn := fun _ => fun
  | [d1, d2, d3] => { results := [.lit (.bool false)], args := [d1, d2, d3] }
  | _ => none }
def SectorTurnsWrongFalsely : Prop := sectorTurnsRow.holds Try.pinned (OpenSpec.ofChange sectorTurnsWrong)

/-- 'cashbooklaw09.WalActs': WHATEVER THE INPUT: true; the input reads as it did. -/
def walActsSpec : ChangeSpec := { name := "walActs", fn := fun _ => fun
  | [d1, d2, d3] => { results := [.lit (.bool true)], args := [d1, d2, d3] }
  | _ => none }
def walActsRow : OpenClaim := { program := "ytmefdlajjbcljaa", sum := "6f59121661fd50324aa2151aa4e6f44f9bf73a26153471c4a8a58ee832cb4dbe", func := "cashbook/cashbooklaw09.WalActs", spec := "walActs", unfollowed := true, recurses := true, apart := false }
def WalActsSaid : Prop := walActsRow.holds Try.pinned (OpenSpec.ofChange walActsSpec)

/-- ITS FALSE NEIGHBOUR: 'it returns false'. Refute it at one input. -/
def walActsWrong : ChangeSpec := { name := "walActs", fn := fun _ => fun
  | [d1, d2, d3] => { results := [.lit (.bool false)], args := [d1, d2, d3] }
  | _ => none }
def WalActsWrongFalsely : Prop := walActsRow.holds Try.pinned (OpenSpec.ofChange walActsWrong)

/-- 'cashbooklaw09.WalReads': WHATEVER THE INPUT: true; the input reads as it did. -/
def walReadsSpec : ChangeSpec := { name := "walReads", fn := fun _ => fun
  | [d] => { results := [.lit (.bool true)], args := [d] }
  | _ => none }
def walReadsRow : OpenClaim := { program := "ytmefdlajjbcljaa", sum := "6f59121661fd50324aa2151aa4e6f44f9bf73a26153471c4a8a58ee832cb4dbe", func := "cashbook/cashbooklaw09.WalReads", spec := "walReads", unfollowed := true, recurses := true, apart := false }
def WalReadsSaid : Prop := walReadsRow.holds Try.pinned (OpenSpec.ofChange walReadsSpec)

/-- ITS FALSE NEIGHBOUR: 'it returns false'. Refute it at one input. -/
def walReadsWrong : ChangeSpec := { name := "walReads", fn := fun _ => fun
  | [d] => { results := [.lit (.bool false)], args := [d] }
  | _ => none }
def WalReadsWrongFalsely : Prop := walReadsRow.holds Try.pinned (OpenSpec.ofChange walReadsWrong)

/-- 'cashbooklaw09.WalOrder': WHATEVER THE INPUT: true; the input reads as it did. -/
def walOrderSpec : ChangeSpec := { name := "walOrder", fn := fun _ => fun
  | [d1, d2] => { results := [.lit (.bool true)], args := [d1, d2] }
  | _ => none }
def walOrderRow : OpenClaim := { program := "ytmefdlajjbcljaa", sum := "6f59121661fd50324aa2151aa4e6f44f9bf73a26153471c4a8a58ee832cb4dbe", func := "cashbook/cashbooklaw09.WalOrder", spec := "walOrder", unfollowed := true, recurses := true, apart := false }
def WalOrderSaid : Prop := walOrderRow.holds Try.pinned (OpenSpec.ofChange walOrderSpec)

/-- ITS FALSE NEIGHBOUR: 'it returns false'. Refute it at one input. -/
def walOrderWrong : ChangeSpec := { name := "walOrder", fn := fun _ => fun
  | [d1, d2] => { results := [.lit (.bool false)], args := [d1, d2] }
  | _ => none }
def WalOrderWrongFalsely : Prop := walOrderRow.holds Try.pinned (OpenSpec.ofChange walOrderWrong)

/-- 'cashbooklaw09.WalSure': WHATEVER THE INPUT: true; the input reads as it did. -/
def walSureSpec : ChangeSpec := { name := "walSure", fn := fun _ => fun
  | [d1, d2, d3] => { results := [.lit (.bool true)], args := [d1, d2, d3] }
  | _ => none }
def walSureRow : OpenClaim := { program := "ytmefdlajjbcljaa", sum := "6f59121661fd50324aa2151aa4e6f44f9bf73a26153471c4a8a58ee832cb4dbe", func := "cashbook/cashbooklaw09.WalSure", spec := "walSure", unfollowed := true, recurses := true, apart := false }
def WalSureSaid : Prop := walSureRow.holds Try.pinned (OpenSpec.ofChange walSureSpec)

/-- ITS FALSE NEIGHBOUR: 'it returns false'. Refute it at one input. -/
def walSureWrong : ChangeSpec := { name := "walSure", fn := fun _ => fun
  | [d1, d2, d3] => { results := [.lit (.bool false)], args := [d1, d2, d3] }
  | _ => none }
def WalSureWrongFalsely : Prop := walSureRow.holds Try.pinned (OpenSpec.ofChange walSureWrong)

/-- 'cashbooklaw09.WalAgain': WHATEVER THE INPUT: true; the input reads as it did. -/
def walAgainSpec : ChangeSpec := { name := "walAgain", fn := fun _ => fun
  | [d1, d2] => { results := [.lit (.bool true)], args := [d1, d2] }
  | _ => none }
def walAgainRow : OpenClaim := { program := "ytmefdlajjbcljaa", sum := "6f59121661fd50324aa2151aa4e6f44f9bf73a26153471c4a8a58ee832cb4dbe", func := "cashbook/cashbooklaw09.WalAgain", spec := "walAgain", unfollowed := true, recurses := true, apart := false }
def WalAgainSaid : Prop := walAgainRow.holds Try.pinned (OpenSpec.ofChange walAgainSpec)

/-- ITS FALSE NEIGHBOUR: 'it returns false'. Refute it at one input. -/
def walAgainWrong : ChangeSpec := { name := "walAgain", fn := fun _ => fun
  | [d1, d2] => { results := [.lit (.bool false)], args := [d1, d2] }
  | _ => none }
def WalAgainWrongFalsely : Prop := walAgainRow.holds Try.pinned (OpenSpec.ofChange walAgainWrong)

/- THE SECOND FORM. 'bulk': how many values and letters a reading holds, each counted each time it is reached (what is shared counts as often as it is met; a slice's spare places count too). A statement '..UptoSaid' is the law's where the arguments, and the package variables that the reading takes, are together of bulk at most 1048576: NARROWER than '..Said'. Prove '..Said' where nothing that the law and all that it calls make is longer than what came in: it says more and counts as full. Else prove '..UptoSaid'. A law counts once. -/
mutual
def uptoBulk {H : Type} : DataW H → Nat
  | .lit (.string bytes) => bytes.length + 1
  | .lit _ => 1
  | .nil => 1
  | .ptr d => uptoBulk d + 1
  | .slice elems spare => uptoBulkAll elems + uptoBulkAll spare + 1
  | .agg parts => uptoBulkAll parts + 1
  | .iface _ d => uptoBulk d + 1
  | .map entries => uptoBulkEntries entries + 1
  | .held _ => 1
def uptoBulkAll {H : Type} : List (DataW H) → Nat
  | [] => 0
  | d :: r => uptoBulk d + uptoBulkAll r
def uptoBulkEntries {H : Type} : List (Lit × DataW H) → Nat
  | [] => 0
  | x :: r => uptoBulkEntry x + uptoBulkEntries r
def uptoBulkEntry {H : Type} : Lit × DataW H → Nat
  | (.string bytes, d) => bytes.length + uptoBulk d + 1
  | (_, d) => uptoBulk d + 1
 end
def uptoSmall : (H : Type) → List (DataW H) → Bool := fun _ ds => decide (uptoBulkAll ds ≤ 1048576)
def OpenSpec.upto (s : _root_.Go.ChangeSpec) : _root_.Go.OpenSpec := { _root_.Go.OpenSpec.ofChange s with cond := some uptoSmall }

/-- 'cashbooklaw08.SectorSeals', WHERE WHAT IT READS IS OF BULK AT MOST 1048576: true; the input reads as it did. -/
def sectorSealsUptoRow : OpenClaim := { program := "ytmefdlajjbcljaa", sum := "6f59121661fd50324aa2151aa4e6f44f9bf73a26153471c4a8a58ee832cb4dbe", func := "cashbook/cashbooklaw08.SectorSeals", spec := "sectorSeals", unfollowed := true, recurses := true, apart := false, narrowed := true }
def SectorSealsUptoSaid : Prop := sectorSealsUptoRow.holds Try.pinned (OpenSpec.upto sectorSealsSpec)

/-- 'cashbooklaw08.SectorMoves', WHERE WHAT IT READS IS OF BULK AT MOST 1048576: true; the input reads as it did. -/
def sectorMovesUptoRow : OpenClaim := { program := "ytmefdlajjbcljaa", sum := "6f59121661fd50324aa2151aa4e6f44f9bf73a26153471c4a8a58ee832cb4dbe", func := "cashbook/cashbooklaw08.SectorMoves", spec := "sectorMoves", unfollowed := true, recurses := true, apart := false, narrowed := true }
def SectorMovesUptoSaid : Prop := sectorMovesUptoRow.holds Try.pinned (OpenSpec.upto sectorMovesSpec)

/-- 'cashbooklaw08.SectorKeeps', WHERE WHAT IT READS IS OF BULK AT MOST 1048576: true; the input reads as it did. -/
def sectorKeepsUptoRow : OpenClaim := { program := "ytmefdlajjbcljaa", sum := "6f59121661fd50324aa2151aa4e6f44f9bf73a26153471c4a8a58ee832cb4dbe", func := "cashbook/cashbooklaw08.SectorKeeps", spec := "sectorKeeps", unfollowed := true, recurses := true, apart := false, narrowed := true }
def SectorKeepsUptoSaid : Prop := sectorKeepsUptoRow.holds Try.pinned (OpenSpec.upto sectorKeepsSpec)

/-- 'cashbooklaw08.SectorStops', WHERE WHAT IT READS IS OF BULK AT MOST 1048576: true; the input reads as it did. -/
def sectorStopsUptoRow : OpenClaim := { program := "ytmefdlajjbcljaa", sum := "6f59121661fd50324aa2151aa4e6f44f9bf73a26153471c4a8a58ee832cb4dbe", func := "cashbook/cashbooklaw08.SectorStops", spec := "sectorStops", unfollowed := true, recurses := true, apart := false, narrowed := true }
def SectorStopsUptoSaid : Prop := sectorStopsUptoRow.holds Try.pinned (OpenSpec.upto sectorStopsSpec)

/-- 'cashbooklaw08.SectorTurns', WHERE WHAT IT READS IS OF BULK AT MOST 1048576: true; the input reads as it did. -/
def sectorTurnsUptoRow : OpenClaim := { program := "ytmefdlajjbcljaa", sum := "6f59121661fd50324aa2151aa4e6f44f9bf73a26153471c4a8a58ee832cb4dbe", func := "cashbook/cashbooklaw08.SectorTurns", spec := "sectorTurns", unfollowed := true, recurses := true, apart := false, narrowed := true }
def SectorTurnsUptoSaid : Prop := sectorTurnsUptoRow.holds Try.pinned (OpenSpec.upto sectorTurnsSpec)

/-- 'cashbooklaw09.WalActs', WHERE WHAT IT READS IS OF BULK AT MOST 1048576: true; the input reads as it did. -/
def walActsUptoRow : OpenClaim := { program := "ytmefdlajjbcljaa", sum := "6f59121661fd50324aa2151aa4e6f44f9bf73a26153471c4a8a58ee832cb4dbe", func := "cashbook/cashbooklaw09.WalActs", spec := "walActs", unfollowed := true, recurses := true, apart := false, narrowed := true }
def WalActsUptoSaid : Prop := walActsUptoRow.holds Try.pinned (OpenSpec.upto walActsSpec)

/-- 'cashbooklaw09.WalReads', WHERE WHAT IT READS IS OF BULK AT MOST 1048576: true; the input reads as it did. -/
def walReadsUptoRow : OpenClaim := { program := "ytmefdlajjbcljaa", sum := "6f59121661fd50324aa2151aa4e6f44f9bf73a26153471c4a8a58ee832cb4dbe", func := "cashbook/cashbooklaw09.WalReads", spec := "walReads", unfollowed := true, recurses := true, apart := false, narrowed := true }
def WalReadsUptoSaid : Prop := walReadsUptoRow.holds Try.pinned (OpenSpec.upto walReadsSpec)

/-- 'cashbooklaw09.WalOrder', WHERE WHAT IT READS IS OF BULK AT MOST 1048576: true; the input reads as it did. -/
def walOrderUptoRow : OpenClaim := { program := "ytmefdlajjbcljaa", sum := "6f59121661fd50324aa2151aa4e6f44f9bf73a26153471c4a8a58ee832cb4dbe", func := "cashbook/cashbooklaw09.WalOrder", spec := "walOrder", unfollowed := true, recurses := true, apart := false, narrowed := true }
def WalOrderUptoSaid : Prop := walOrderUptoRow.holds Try.pinned (OpenSpec.upto walOrderSpec)

/-- 'cashbooklaw09.WalSure', WHERE WHAT IT READS IS OF BULK AT MOST 1048576: true; the input reads as it did. -/
def walSureUptoRow : OpenClaim := { program := "ytmefdlajjbcljaa", sum := "6f59121661fd50324aa2151aa4e6f44f9bf73a26153471c4a8a58ee832cb4dbe", func := "cashbook/cashbooklaw09.WalSure", spec := "walSure", unfollowed := true, recurses := true, apart := false, narrowed := true }
def WalSureUptoSaid : Prop := walSureUptoRow.holds Try.pinned (OpenSpec.upto walSureSpec)

/-- 'cashbooklaw09.WalAgain', WHERE WHAT IT READS IS OF BULK AT MOST 1048576: true; the input reads as it did. -/
def walAgainUptoRow : OpenClaim := { program := "ytmefdlajjbcljaa", sum := "6f59121661fd50324aa2151aa4e6f44f9bf73a26153471c4a8a58ee832cb4dbe", func := "cashbook/cashbooklaw09.WalAgain", spec := "walAgain", unfollowed := true, recurses := true, apart := false, narrowed := true }
def WalAgainUptoSaid : Prop := walAgainUptoRow.holds Try.pinned (OpenSpec.upto walAgainSpec)

end Rows
end Go.Proofs.Ytmefdlajjbcljaa
