/-
  NARROWER THAN 'FOR EVERY INPUT', by the rows' own cells (each row's printed sentence says how): HashLong: laid · HashFeeds: laid · HashParts: laid · HashTells: laid · HashHex: laid · TreeTells: laid · TreeChecks: laid · TreeStands: laid · TreeSound: laid · TreeForks: laid.
  DERIVED. THE GIVEN ROWS OF THIS SEAT. 10 by the template 'for every input the law returns true; each argument reads behind the call as it read before'; 0 by the template 'total and deterministic' (their statements: YtldpnmebjnkjeaaDoorTotals.lean).
  GIVEN WITH THE SEED: the statements are not yours to turn. If you find one false, say at which input.
  Laid BY PROGRAM, IN A SANDBOX (cutbox-rows.mjs): the forced cells as the released guide's own fill.sh prints them over the translation aaf2f33ec357dca1… (all of the seat's roots in one cut). By AI agents, Wed Nov 11 2026. No macro, syntax, notation, axiom, sorry.
-/
import Derived.Test.YtldpnmebjnkjeaaDoorChecked
import GoSem.Claim
import GoSem.ClaimJoined
import GoSem.ClaimMapViews
import Derived.JoinedTies
import Derived.KernelRfl
namespace Go.Proofs.YtldpnmebjnkjeaaDoor
/- THE CELL 'sum', in the pinned program and in every row, IS THE sha256 OF THE DUMP (.gsa) THAT YtldpnmebjnkjeaaDoorProg.lean LOADS. Nothing in Lean hashes anything: it is a label: what it is worth is what the hold of that sum in a sandbox is worth. -/
noncomputable def Tryd.pinned : Pinned := { name := "ytldpnmebjnkjeaadoor", sum := "aaf2f33ec357dca14f0e56e42a8a0db215df7a9f6e9f3be41060d1a872b3a4dd", checked := Tryd.checked }
namespace Rows
def none {H : Type} : Left H := { results := [], args := [] }

/- WHAT THE LISTED PACKAGE-LEVEL VARIABLES READ AS WHEN THE CALL BEGINS. Each datum BY PROGRAM (the guide's laid-datum.mjs) off the statement by which the dump's own 'gosem.cut.vars' lays the variable. In a bare row this is a premise. The card (YtldpnmebjnkjeaaDoorCards.lean) ties it to the program's text. -/
def laid_cashbook_hash_k {H : Type} : DataW H := .agg [.lit (.int .u32 1116352408), .lit (.int .u32 1899447441), .lit (.int .u32 3049323471), .lit (.int .u32 3921009573), .lit (.int .u32 961987163), .lit (.int .u32 1508970993), .lit (.int .u32 2453635748), .lit (.int .u32 2870763221), .lit (.int .u32 3624381080), .lit (.int .u32 310598401), .lit (.int .u32 607225278), .lit (.int .u32 1426881987), .lit (.int .u32 1925078388), .lit (.int .u32 2162078206), .lit (.int .u32 2614888103), .lit (.int .u32 3248222580), .lit (.int .u32 3835390401), .lit (.int .u32 4022224774), .lit (.int .u32 264347078), .lit (.int .u32 604807628), .lit (.int .u32 770255983), .lit (.int .u32 1249150122), .lit (.int .u32 1555081692), .lit (.int .u32 1996064986), .lit (.int .u32 2554220882), .lit (.int .u32 2821834349), .lit (.int .u32 2952996808), .lit (.int .u32 3210313671), .lit (.int .u32 3336571891), .lit (.int .u32 3584528711), .lit (.int .u32 113926993), .lit (.int .u32 338241895), .lit (.int .u32 666307205), .lit (.int .u32 773529912), .lit (.int .u32 1294757372), .lit (.int .u32 1396182291), .lit (.int .u32 1695183700), .lit (.int .u32 1986661051), .lit (.int .u32 2177026350), .lit (.int .u32 2456956037), .lit (.int .u32 2730485921), .lit (.int .u32 2820302411), .lit (.int .u32 3259730800), .lit (.int .u32 3345764771), .lit (.int .u32 3516065817), .lit (.int .u32 3600352804), .lit (.int .u32 4094571909), .lit (.int .u32 275423344), .lit (.int .u32 430227734), .lit (.int .u32 506948616), .lit (.int .u32 659060556), .lit (.int .u32 883997877), .lit (.int .u32 958139571), .lit (.int .u32 1322822218), .lit (.int .u32 1537002063), .lit (.int .u32 1747873779), .lit (.int .u32 1955562222), .lit (.int .u32 2024104815), .lit (.int .u32 2227730452), .lit (.int .u32 2361852424), .lit (.int .u32 2428436474), .lit (.int .u32 2756734187), .lit (.int .u32 3204031479), .lit (.int .u32 3329325298)]

/-- 'cashbooklaw10.HashLong': WHATEVER THE INPUT: true; the input reads as it did. -/
def hashLongSpec : ChangeSpec := { name := "hashLong", fn := fun _ => fun
  | [d] => { results := [.lit (.bool true)], args := [d] }
  | _ => none }
def hashLongRow : OpenClaim := { program := "ytldpnmebjnkjeaadoor", sum := "aaf2f33ec357dca14f0e56e42a8a0db215df7a9f6e9f3be41060d1a872b3a4dd", func := "cashbook/cashbooklaw10.HashLong", spec := "hashLong", inPlace := ["internal/abi.NoEscape", "internal/bytealg.MakeNoZero"], named := ["cashbook/hash.k"], apart := false, laid := [("cashbook/hash.k", laid_cashbook_hash_k)] }
def HashLongSaid : Prop := hashLongRow.holds Tryd.pinned (OpenSpec.ofChange hashLongSpec)

/-- ITS FALSE NEIGHBOUR: 'it returns false'. Refute it at one input. -/
def hashLongWrong : ChangeSpec := { name := "hashLong", fn := fun _ => fun
  | [d] => { results := [.lit (.bool false)], args := [d] }
  | _ => none }
def HashLongWrongFalsely : Prop := hashLongRow.holds Tryd.pinned (OpenSpec.ofChange hashLongWrong)

/-- 'cashbooklaw10.HashFeeds': WHATEVER THE INPUT: true; the input reads as it did. -/
def hashFeedsSpec : ChangeSpec := { name := "hashFeeds", fn := fun _ => fun
  | [d1, d2] => { results := [.lit (.bool true)], args := [d1, d2] }
  | _ => none }
def hashFeedsRow : OpenClaim := { program := "ytldpnmebjnkjeaadoor", sum := "aaf2f33ec357dca14f0e56e42a8a0db215df7a9f6e9f3be41060d1a872b3a4dd", func := "cashbook/cashbooklaw10.HashFeeds", spec := "hashFeeds", inPlace := ["internal/abi.NoEscape", "internal/bytealg.MakeNoZero"], named := ["cashbook/hash.k"], apart := false, laid := [("cashbook/hash.k", laid_cashbook_hash_k)] }
def HashFeedsSaid : Prop := hashFeedsRow.holds Tryd.pinned (OpenSpec.ofChange hashFeedsSpec)

/-- ITS FALSE NEIGHBOUR: 'it returns false'. Refute it at one input. -/
def hashFeedsWrong : ChangeSpec := { name := "hashFeeds", fn := fun _ => fun
  | [d1, d2] => { results := [.lit (.bool false)], args := [d1, d2] }
  | _ => none }
def HashFeedsWrongFalsely : Prop := hashFeedsRow.holds Tryd.pinned (OpenSpec.ofChange hashFeedsWrong)

/-- 'cashbooklaw10.HashParts': WHATEVER THE INPUT: true; the input reads as it did. -/
def hashPartsSpec : ChangeSpec := { name := "hashParts", fn := fun _ => fun
  | [d1, d2] => { results := [.lit (.bool true)], args := [d1, d2] }
  | _ => none }
def hashPartsRow : OpenClaim := { program := "ytldpnmebjnkjeaadoor", sum := "aaf2f33ec357dca14f0e56e42a8a0db215df7a9f6e9f3be41060d1a872b3a4dd", func := "cashbook/cashbooklaw10.HashParts", spec := "hashParts", inPlace := ["internal/abi.NoEscape", "internal/bytealg.MakeNoZero"], named := ["cashbook/hash.k"], apart := false, laid := [("cashbook/hash.k", laid_cashbook_hash_k)] }
def HashPartsSaid : Prop := hashPartsRow.holds Tryd.pinned (OpenSpec.ofChange hashPartsSpec)

/-- ITS FALSE NEIGHBOUR: 'it returns false'. Refute it at one input. -/
def hashPartsWrong : ChangeSpec := { name := "hashParts", fn := fun _ => fun
  | [d1, d2] => { results := [.lit (.bool false)], args := [d1, d2] }
  | _ => none }
def HashPartsWrongFalsely : Prop := hashPartsRow.holds Tryd.pinned (OpenSpec.ofChange hashPartsWrong)

/-- 'cashbooklaw10.HashTells': WHATEVER THE INPUT: true; the input reads as it did. -/
def hashTellsSpec : ChangeSpec := { name := "hashTells", fn := fun _ => fun
  | [d1, d2, d3, d4] => { results := [.lit (.bool true)], args := [d1, d2, d3, d4] }
  | _ => none }
def hashTellsRow : OpenClaim := { program := "ytldpnmebjnkjeaadoor", sum := "aaf2f33ec357dca14f0e56e42a8a0db215df7a9f6e9f3be41060d1a872b3a4dd", func := "cashbook/cashbooklaw10.HashTells", spec := "hashTells", inPlace := ["internal/abi.NoEscape", "internal/bytealg.MakeNoZero", "internal/bytealg.IndexByteString"], named := ["cashbook/hash.k"], apart := false, laid := [("cashbook/hash.k", laid_cashbook_hash_k)] }
def HashTellsSaid : Prop := hashTellsRow.holds Tryd.pinned (OpenSpec.ofChange hashTellsSpec)

/-- ITS FALSE NEIGHBOUR: 'it returns false'. Refute it at one input. -/
def hashTellsWrong : ChangeSpec := { name := "hashTells", fn := fun _ => fun
  | [d1, d2, d3, d4] => { results := [.lit (.bool false)], args := [d1, d2, d3, d4] }
  | _ => none }
def HashTellsWrongFalsely : Prop := hashTellsRow.holds Tryd.pinned (OpenSpec.ofChange hashTellsWrong)

/-- 'cashbooklaw10.HashHex': WHATEVER THE INPUT: true; the input reads as it did. -/
def hashHexSpec : ChangeSpec := { name := "hashHex", fn := fun _ => fun
  | [d1, d2, d3] => { results := [.lit (.bool true)], args := [d1, d2, d3] }
  | _ => none }
def hashHexRow : OpenClaim := { program := "ytldpnmebjnkjeaadoor", sum := "aaf2f33ec357dca14f0e56e42a8a0db215df7a9f6e9f3be41060d1a872b3a4dd", func := "cashbook/cashbooklaw10.HashHex", spec := "hashHex", inPlace := ["internal/abi.NoEscape", "internal/bytealg.IndexByteString", "internal/bytealg.MakeNoZero"], named := ["cashbook/hash.k"], apart := false, laid := [("cashbook/hash.k", laid_cashbook_hash_k)] }
def HashHexSaid : Prop := hashHexRow.holds Tryd.pinned (OpenSpec.ofChange hashHexSpec)

/-- ITS FALSE NEIGHBOUR: 'it returns false'. Refute it at one input. -/
def hashHexWrong : ChangeSpec := { name := "hashHex", fn := fun _ => fun
  | [d1, d2, d3] => { results := [.lit (.bool false)], args := [d1, d2, d3] }
  | _ => none }
def HashHexWrongFalsely : Prop := hashHexRow.holds Tryd.pinned (OpenSpec.ofChange hashHexWrong)

/-- 'cashbooklaw11.TreeTells': WHATEVER THE INPUT: true; the input reads as it did. -/
def treeTellsSpec : ChangeSpec := { name := "treeTells", fn := fun _ => fun
  | [d1, d2, d3] => { results := [.lit (.bool true)], args := [d1, d2, d3] }
  | _ => none }
def treeTellsRow : OpenClaim := { program := "ytldpnmebjnkjeaadoor", sum := "aaf2f33ec357dca14f0e56e42a8a0db215df7a9f6e9f3be41060d1a872b3a4dd", func := "cashbook/cashbooklaw11.TreeTells", spec := "treeTells", inPlace := ["internal/abi.NoEscape", "internal/bytealg.MakeNoZero"], unfollowed := true, recurses := true, named := ["cashbook/hash.k"], apart := false, laid := [("cashbook/hash.k", laid_cashbook_hash_k)] }
def TreeTellsSaid : Prop := treeTellsRow.holds Tryd.pinned (OpenSpec.ofChange treeTellsSpec)

/-- ITS FALSE NEIGHBOUR: 'it returns false'. Refute it at one input. -/
def treeTellsWrong : ChangeSpec := { name := "treeTells", fn := fun _ => fun
  | [d1, d2, d3] => { results := [.lit (.bool false)], args := [d1, d2, d3] }
  | _ => none }
def TreeTellsWrongFalsely : Prop := treeTellsRow.holds Tryd.pinned (OpenSpec.ofChange treeTellsWrong)

/-- 'cashbooklaw11.TreeChecks': WHATEVER THE INPUT: true; the input reads as it did. -/
def treeChecksSpec : ChangeSpec := { name := "treeChecks", fn := fun _ => fun
  | [d1, d2] => { results := [.lit (.bool true)], args := [d1, d2] }
  | _ => none }
def treeChecksRow : OpenClaim := { program := "ytldpnmebjnkjeaadoor", sum := "aaf2f33ec357dca14f0e56e42a8a0db215df7a9f6e9f3be41060d1a872b3a4dd", func := "cashbook/cashbooklaw11.TreeChecks", spec := "treeChecks", inPlace := ["internal/abi.NoEscape", "internal/bytealg.MakeNoZero"], unfollowed := true, recurses := true, named := ["cashbook/hash.k"], apart := false, laid := [("cashbook/hash.k", laid_cashbook_hash_k)] }
def TreeChecksSaid : Prop := treeChecksRow.holds Tryd.pinned (OpenSpec.ofChange treeChecksSpec)

/-- ITS FALSE NEIGHBOUR: 'it returns false'. Refute it at one input. -/
def treeChecksWrong : ChangeSpec := { name := "treeChecks", fn := fun _ => fun
  | [d1, d2] => { results := [.lit (.bool false)], args := [d1, d2] }
  | _ => none }
def TreeChecksWrongFalsely : Prop := treeChecksRow.holds Tryd.pinned (OpenSpec.ofChange treeChecksWrong)

/-- 'cashbooklaw11.TreeStands': WHATEVER THE INPUT: true; the input reads as it did. -/
def treeStandsSpec : ChangeSpec := { name := "treeStands", fn := fun _ => fun
  | [d] => { results := [.lit (.bool true)], args := [d] }
  | _ => none }
def treeStandsRow : OpenClaim := { program := "ytldpnmebjnkjeaadoor", sum := "aaf2f33ec357dca14f0e56e42a8a0db215df7a9f6e9f3be41060d1a872b3a4dd", func := "cashbook/cashbooklaw11.TreeStands", spec := "treeStands", inPlace := ["internal/abi.NoEscape", "internal/bytealg.MakeNoZero"], unfollowed := true, recurses := true, named := ["cashbook/hash.k"], apart := false, laid := [("cashbook/hash.k", laid_cashbook_hash_k)] }
def TreeStandsSaid : Prop := treeStandsRow.holds Tryd.pinned (OpenSpec.ofChange treeStandsSpec)

/-- ITS FALSE NEIGHBOUR: 'it returns false'. Refute it at one input. -/
def treeStandsWrong : ChangeSpec := { name := "treeStands", fn := fun _ => fun
  | [d] => { results := [.lit (.bool false)], args := [d] }
  | _ => none }
def TreeStandsWrongFalsely : Prop := treeStandsRow.holds Tryd.pinned (OpenSpec.ofChange treeStandsWrong)

/-- 'cashbooklaw11.TreeSound': WHATEVER THE INPUT: true; the input reads as it did. -/
def treeSoundSpec : ChangeSpec := { name := "treeSound", fn := fun _ => fun
  | [d1, d2, d3] => { results := [.lit (.bool true)], args := [d1, d2, d3] }
  | _ => none }
def treeSoundRow : OpenClaim := { program := "ytldpnmebjnkjeaadoor", sum := "aaf2f33ec357dca14f0e56e42a8a0db215df7a9f6e9f3be41060d1a872b3a4dd", func := "cashbook/cashbooklaw11.TreeSound", spec := "treeSound", inPlace := ["internal/abi.NoEscape", "internal/bytealg.MakeNoZero"], unfollowed := true, recurses := true, named := ["cashbook/hash.k"], apart := false, laid := [("cashbook/hash.k", laid_cashbook_hash_k)] }
def TreeSoundSaid : Prop := treeSoundRow.holds Tryd.pinned (OpenSpec.ofChange treeSoundSpec)

/-- ITS FALSE NEIGHBOUR: 'it returns false'. Refute it at one input. -/
def treeSoundWrong : ChangeSpec := { name := "treeSound", fn := fun _ => fun
  | [d1, d2, d3] => { results := [.lit (.bool false)], args := [d1, d2, d3] }
  | _ => none }
def TreeSoundWrongFalsely : Prop := treeSoundRow.holds Tryd.pinned (OpenSpec.ofChange treeSoundWrong)

/-- 'cashbooklaw11.TreeForks': WHATEVER THE INPUT: true; the input reads as it did. -/
def treeForksSpec : ChangeSpec := { name := "treeForks", fn := fun _ => fun
  | [d1, d2] => { results := [.lit (.bool true)], args := [d1, d2] }
  | _ => none }
def treeForksRow : OpenClaim := { program := "ytldpnmebjnkjeaadoor", sum := "aaf2f33ec357dca14f0e56e42a8a0db215df7a9f6e9f3be41060d1a872b3a4dd", func := "cashbook/cashbooklaw11.TreeForks", spec := "treeForks", inPlace := ["internal/abi.NoEscape", "internal/bytealg.MakeNoZero"], unfollowed := true, recurses := true, named := ["cashbook/hash.k"], apart := false, laid := [("cashbook/hash.k", laid_cashbook_hash_k)] }
def TreeForksSaid : Prop := treeForksRow.holds Tryd.pinned (OpenSpec.ofChange treeForksSpec)

/-- ITS FALSE NEIGHBOUR: 'it returns false'. Refute it at one input. -/
def treeForksWrong : ChangeSpec := { name := "treeForks", fn := fun _ => fun
  | [d1, d2] => { results := [.lit (.bool false)], args := [d1, d2] }
  | _ => none }
def TreeForksWrongFalsely : Prop := treeForksRow.holds Tryd.pinned (OpenSpec.ofChange treeForksWrong)

/- THE SECOND FORM. 'bulk': how many values and letters a reading holds, each counted each time it is reached (what is shared counts as often as it is met; a slice's spare places count too). A statement '..UptoSaid' is the law's where the arguments, and the package variables that the reading takes, are together of bulk at most 1048576: NARROWER than '..Said'. Prove '..Said' where nothing that the law and all that it calls make is longer than what came in: it says more and counts as full. Else prove '..UptoSaid'. A law counts once. -/
mutual
def uptoBulk {H : Type} : DataW H → Nat
  | .lit (.string bytes) => bytes.length + 1
  | .lit _ => 1
  | .nil => 1
  | .ptr d => uptoBulk d + 1
  | .slice elems spare => uptoBulkAll elems + uptoBulkAll spare + 1
  | .agg parts => uptoBulkAll parts + 1
  | .iface _ d => uptoBulk d + 1
  | .map entries => uptoBulkEntries entries + 1
  | .held _ => 1
def uptoBulkAll {H : Type} : List (DataW H) → Nat
  | [] => 0
  | d :: r => uptoBulk d + uptoBulkAll r
def uptoBulkEntries {H : Type} : List (Lit × DataW H) → Nat
  | [] => 0
  | x :: r => uptoBulkEntry x + uptoBulkEntries r
def uptoBulkEntry {H : Type} : Lit × DataW H → Nat
  | (.string bytes, d) => bytes.length + uptoBulk d + 1
  | (_, d) => uptoBulk d + 1
 end
def uptoSmall : (H : Type) → List (DataW H) → Bool := fun _ ds => decide (uptoBulkAll ds ≤ 1048576)
def OpenSpec.upto (s : _root_.Go.ChangeSpec) : _root_.Go.OpenSpec := { _root_.Go.OpenSpec.ofChange s with cond := some uptoSmall }

/-- 'cashbooklaw10.HashLong', WHERE WHAT IT READS IS OF BULK AT MOST 1048576: true; the input reads as it did. -/
def hashLongUptoRow : OpenClaim := { program := "ytldpnmebjnkjeaadoor", sum := "aaf2f33ec357dca14f0e56e42a8a0db215df7a9f6e9f3be41060d1a872b3a4dd", func := "cashbook/cashbooklaw10.HashLong", spec := "hashLong", inPlace := ["internal/abi.NoEscape", "internal/bytealg.MakeNoZero"], named := ["cashbook/hash.k"], apart := false, laid := [("cashbook/hash.k", laid_cashbook_hash_k)], narrowed := true }
def HashLongUptoSaid : Prop := hashLongUptoRow.holds Tryd.pinned (OpenSpec.upto hashLongSpec)

/-- 'cashbooklaw10.HashFeeds', WHERE WHAT IT READS IS OF BULK AT MOST 1048576: true; the input reads as it did. -/
def hashFeedsUptoRow : OpenClaim := { program := "ytldpnmebjnkjeaadoor", sum := "aaf2f33ec357dca14f0e56e42a8a0db215df7a9f6e9f3be41060d1a872b3a4dd", func := "cashbook/cashbooklaw10.HashFeeds", spec := "hashFeeds", inPlace := ["internal/abi.NoEscape", "internal/bytealg.MakeNoZero"], named := ["cashbook/hash.k"], apart := false, laid := [("cashbook/hash.k", laid_cashbook_hash_k)], narrowed := true }
def HashFeedsUptoSaid : Prop := hashFeedsUptoRow.holds Tryd.pinned (OpenSpec.upto hashFeedsSpec)

/-- 'cashbooklaw10.HashParts', WHERE WHAT IT READS IS OF BULK AT MOST 1048576: true; the input reads as it did. -/
def hashPartsUptoRow : OpenClaim := { program := "ytldpnmebjnkjeaadoor", sum := "aaf2f33ec357dca14f0e56e42a8a0db215df7a9f6e9f3be41060d1a872b3a4dd", func := "cashbook/cashbooklaw10.HashParts", spec := "hashParts", inPlace := ["internal/abi.NoEscape", "internal/bytealg.MakeNoZero"], named := ["cashbook/hash.k"], apart := false, laid := [("cashbook/hash.k", laid_cashbook_hash_k)], narrowed := true }
def HashPartsUptoSaid : Prop := hashPartsUptoRow.holds Tryd.pinned (OpenSpec.upto hashPartsSpec)

/-- 'cashbooklaw10.HashTells', WHERE WHAT IT READS IS OF BULK AT MOST 1048576: true; the input reads as it did. -/
def hashTellsUptoRow : OpenClaim := { program := "ytldpnmebjnkjeaadoor", sum := "aaf2f33ec357dca14f0e56e42a8a0db215df7a9f6e9f3be41060d1a872b3a4dd", func := "cashbook/cashbooklaw10.HashTells", spec := "hashTells", inPlace := ["internal/abi.NoEscape", "internal/bytealg.MakeNoZero", "internal/bytealg.IndexByteString"], named := ["cashbook/hash.k"], apart := false, laid := [("cashbook/hash.k", laid_cashbook_hash_k)], narrowed := true }
def HashTellsUptoSaid : Prop := hashTellsUptoRow.holds Tryd.pinned (OpenSpec.upto hashTellsSpec)

/-- 'cashbooklaw10.HashHex', WHERE WHAT IT READS IS OF BULK AT MOST 1048576: true; the input reads as it did. -/
def hashHexUptoRow : OpenClaim := { program := "ytldpnmebjnkjeaadoor", sum := "aaf2f33ec357dca14f0e56e42a8a0db215df7a9f6e9f3be41060d1a872b3a4dd", func := "cashbook/cashbooklaw10.HashHex", spec := "hashHex", inPlace := ["internal/abi.NoEscape", "internal/bytealg.IndexByteString", "internal/bytealg.MakeNoZero"], named := ["cashbook/hash.k"], apart := false, laid := [("cashbook/hash.k", laid_cashbook_hash_k)], narrowed := true }
def HashHexUptoSaid : Prop := hashHexUptoRow.holds Tryd.pinned (OpenSpec.upto hashHexSpec)

/-- 'cashbooklaw11.TreeTells', WHERE WHAT IT READS IS OF BULK AT MOST 1048576: true; the input reads as it did. -/
def treeTellsUptoRow : OpenClaim := { program := "ytldpnmebjnkjeaadoor", sum := "aaf2f33ec357dca14f0e56e42a8a0db215df7a9f6e9f3be41060d1a872b3a4dd", func := "cashbook/cashbooklaw11.TreeTells", spec := "treeTells", inPlace := ["internal/abi.NoEscape", "internal/bytealg.MakeNoZero"], unfollowed := true, recurses := true, named := ["cashbook/hash.k"], apart := false, laid := [("cashbook/hash.k", laid_cashbook_hash_k)], narrowed := true }
def TreeTellsUptoSaid : Prop := treeTellsUptoRow.holds Tryd.pinned (OpenSpec.upto treeTellsSpec)

/-- 'cashbooklaw11.TreeChecks', WHERE WHAT IT READS IS OF BULK AT MOST 1048576: true; the input reads as it did. -/
def treeChecksUptoRow : OpenClaim := { program := "ytldpnmebjnkjeaadoor", sum := "aaf2f33ec357dca14f0e56e42a8a0db215df7a9f6e9f3be41060d1a872b3a4dd", func := "cashbook/cashbooklaw11.TreeChecks", spec := "treeChecks", inPlace := ["internal/abi.NoEscape", "internal/bytealg.MakeNoZero"], unfollowed := true, recurses := true, named := ["cashbook/hash.k"], apart := false, laid := [("cashbook/hash.k", laid_cashbook_hash_k)], narrowed := true }
def TreeChecksUptoSaid : Prop := treeChecksUptoRow.holds Tryd.pinned (OpenSpec.upto treeChecksSpec)

/-- 'cashbooklaw11.TreeStands', WHERE WHAT IT READS IS OF BULK AT MOST 1048576: true; the input reads as it did. -/
def treeStandsUptoRow : OpenClaim := { program := "ytldpnmebjnkjeaadoor", sum := "aaf2f33ec357dca14f0e56e42a8a0db215df7a9f6e9f3be41060d1a872b3a4dd", func := "cashbook/cashbooklaw11.TreeStands", spec := "treeStands", inPlace := ["internal/abi.NoEscape", "internal/bytealg.MakeNoZero"], unfollowed := true, recurses := true, named := ["cashbook/hash.k"], apart := false, laid := [("cashbook/hash.k", laid_cashbook_hash_k)], narrowed := true }
def TreeStandsUptoSaid : Prop := treeStandsUptoRow.holds Tryd.pinned (OpenSpec.upto treeStandsSpec)

/-- 'cashbooklaw11.TreeSound', WHERE WHAT IT READS IS OF BULK AT MOST 1048576: true; the input reads as it did. -/
def treeSoundUptoRow : OpenClaim := { program := "ytldpnmebjnkjeaadoor", sum := "aaf2f33ec357dca14f0e56e42a8a0db215df7a9f6e9f3be41060d1a872b3a4dd", func := "cashbook/cashbooklaw11.TreeSound", spec := "treeSound", inPlace := ["internal/abi.NoEscape", "internal/bytealg.MakeNoZero"], unfollowed := true, recurses := true, named := ["cashbook/hash.k"], apart := false, laid := [("cashbook/hash.k", laid_cashbook_hash_k)], narrowed := true }
def TreeSoundUptoSaid : Prop := treeSoundUptoRow.holds Tryd.pinned (OpenSpec.upto treeSoundSpec)

/-- 'cashbooklaw11.TreeForks', WHERE WHAT IT READS IS OF BULK AT MOST 1048576: true; the input reads as it did. -/
def treeForksUptoRow : OpenClaim := { program := "ytldpnmebjnkjeaadoor", sum := "aaf2f33ec357dca14f0e56e42a8a0db215df7a9f6e9f3be41060d1a872b3a4dd", func := "cashbook/cashbooklaw11.TreeForks", spec := "treeForks", inPlace := ["internal/abi.NoEscape", "internal/bytealg.MakeNoZero"], unfollowed := true, recurses := true, named := ["cashbook/hash.k"], apart := false, laid := [("cashbook/hash.k", laid_cashbook_hash_k)], narrowed := true }
def TreeForksUptoSaid : Prop := treeForksUptoRow.holds Tryd.pinned (OpenSpec.upto treeForksSpec)

end Rows
end Go.Proofs.YtldpnmebjnkjeaaDoor
