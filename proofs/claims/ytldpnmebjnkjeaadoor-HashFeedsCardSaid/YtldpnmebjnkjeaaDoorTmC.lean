/-
  Lemmas for the last text of this claim, merged out of several texts.
-/
import Derived.Test.YtldpnmebjnkjeaaDoorTmB
import Derived.Shelf.Strings.Builder1
import Derived.Shelf.Strings.Builder2
import Derived.Shelf.Small.Strs
import Derived.Shelf.Strings.BuilderF
import Derived.Shelf.Strings.BuilderK
import Derived.Shelf.Strings.Builder2Cap
import Derived.Shelf.LaysM
import Derived.Shelf.Strconv.Clone
import Derived.Shelf.Strings.Search1
import Derived.Shelf.Strings.Prefix
import Derived.Shelf.Bits.Mul64
import Derived.Shelf.Strings.Repeat
import Derived.Shelf.Strings.BuilderCap
import Derived.Test.YtldpnmebjnkjeaaDoorProg
import Derived.ShutString
import Derived.WalkKit
import Derived.Below
import Derived.Deep.AppendSrc
import Derived.Lib.ConvBytes
import Derived.Laws.IdiomStrings
import Derived.Lib.BufferWrite
import Derived.Lib.Hide
import Derived.Deep.WholeRow
import Derived.Deep.MidRow
import Derived.Laws.Tables
import Derived.Outline
import Derived.OrdersHeld
import Derived.Deep.RegionLaw
import Derived.Deep.CutBlock
import Derived.Deep.DeepCutAuto
/-
  DERIVED: THE SHELF's CONTRACTS AT THIS DUMP, IN PLAIN WORDS (tools/lay-plain.mjs out of 'TrydShelf.lean', which tools/lay-shelf.mjs wrote): THE SAME DECLARATIONS UNDER THE SAME NAMES: 'import', 'namespace', 'open', 'def', 'theorem' AND NOTHING ELSE: no command of the shelf's: FOR A HAND-IN. Each laying: the table of numbers ('.._ren') and one theorem, a field a fact of the dump's own or the kernel's comparison; each contract: ONE APPLICATION.
-/
namespace Go.Proofs
open Go.Shelf
def Tryd.lays170_ren : Go.Shelf.Ren := ⟨fun | 170 => 98 | n => n, fun | 70 => 98 | 3 => 3 | 0 => 0 | 72 => 100 | 37 => 22 | 5 => 5 | n => n, fun | n => n⟩
theorem Tryd.lays170 : Go.Proofs.Lays.n170 Tryd.prog Tryd.lays170_ren := {
  mixed := by kernel_rfl
  f170 := Tryd.func98.trans (congrArg some (by kernel_rfl))
  t0 := Tryd.underlying0
  a0 := Tryd.isAgg0
  z0 := Tryd.sizeOf0
  v0 := Tryd.zeroValue0
  t3 := Tryd.underlying3
  a3 := Tryd.isAgg3
  z3 := Tryd.sizeOf3
  v3 := Tryd.zeroValue3
  t37 := Tryd.underlying22
  a37 := Tryd.isAgg22
  z37 := Tryd.sizeOf22
  v37 := Tryd.zeroValue22
  t70 := Tryd.underlying98
  a70 := Tryd.isAgg98
  z70 := Tryd.sizeOf98
  v70 := Tryd.zeroValue98
  t72 := Tryd.underlying100
  a72 := Tryd.isAgg100
  z72 := Tryd.sizeOf100
  v72 := Tryd.zeroValue100 }
open Go.RowKit in
/-- (*strings.Builder).Len: "Len returns the number of accumulated bytes; b.Len() == len(b.String()).": the world is as it was. (LAID: no walk: one application.) -/
theorem Tryd.Builder_Len (B b : Nat) (bs : List Value) (w : World) (h : Lib.IsBuilder 100 5 B b bs w) :
    Calls Tryd.prog 98 #[.pointer (some ⟨b, 0, none⟩)] w fun e w' => e = .returned (.int .i64 bs.length) ∧ w' = w := Any.Builder_Len Tryd.lays170 B b bs w h
def Tryd.lays169_ren : Go.Shelf.Ren := ⟨fun | 169 => 65 | n => n, fun | 70 => 98 | 9 => 9 | 0 => 0 | 72 => 100 | 37 => 22 | 127 => 126 | 3 => 3 | 5 => 5 | n => n, fun | n => n⟩
theorem Tryd.lays169 : Go.Proofs.Lays.n169 Tryd.prog Tryd.lays169_ren := {
  mixed := by kernel_rfl
  f169 := Tryd.func65.trans (congrArg some (by kernel_rfl))
  t0 := Tryd.underlying0
  a0 := Tryd.isAgg0
  z0 := Tryd.sizeOf0
  v0 := Tryd.zeroValue0
  t3 := Tryd.underlying3
  a3 := Tryd.isAgg3
  z3 := Tryd.sizeOf3
  v3 := Tryd.zeroValue3
  t9 := Tryd.underlying9
  a9 := Tryd.isAgg9
  z9 := Tryd.sizeOf9
  v9 := Tryd.zeroValue9
  t37 := Tryd.underlying22
  a37 := Tryd.isAgg22
  z37 := Tryd.sizeOf22
  v37 := Tryd.zeroValue22
  t70 := Tryd.underlying98
  a70 := Tryd.isAgg98
  z70 := Tryd.sizeOf98
  v70 := Tryd.zeroValue98
  t72 := Tryd.underlying100
  a72 := Tryd.isAgg100
  z72 := Tryd.sizeOf100
  v72 := Tryd.zeroValue100
  t127 := Tryd.underlying126
  a127 := Tryd.isAgg126
  z127 := Tryd.sizeOf126
  v127 := Tryd.zeroValue126 }
theorem Tryd.Builder_Extra_169 : Builder.Extra Tryd.prog Tryd.lays169_ren := {
  sizeBuilder := by kernel_rfl
  liesBuilder := by kernel_rfl
  t5 := Tryd.underlying5
  a5 := Tryd.isAgg5
  z5 := Tryd.sizeOf5
  v5 := Tryd.zeroValue5
  infoByte := by kernel_rfl
  cellsByte := by kernel_rfl
  sizeByte := by kernel_rfl
  neB5 := by decide }
open Go.RowKit in
/-- (*strings.Builder).String: "String returns the accumulated string.": OF A BUILDER THAT HOLDS AT LEAST ONE BYTE. ✋ THE MODEL FREEZES THOSE BYTES IN THE BUFFER (unsafe.String): a later write INTO them ends the model's run without an answer; a later append BEHIND them goes on. The statement's order of evaluation is drawn: one draw. (LAID: no walk: one application.) -/
theorem Tryd.Builder_String (B b : Nat) (l : List UInt8) (w : World) (h : Lib.IsBuilder 100 5 B b (Lib.byteCells l) w) (h0 : l ≠ []) :
    Calls Tryd.prog 65 #[.pointer (some ⟨b, 0, none⟩)] w fun e w' => e = .returned (.string ⟨l.toArray⟩) ∧ Below B w w' := Any.Builder_String Tryd.lays169 Tryd.Builder_Extra_169 B b l w h h0
open Go.RowKit in
/-- (*strings.Builder).String OF A BUILDER THAT HOLDS NO BYTE: the empty string. (Its buffer is nil, or a row of which it has taken nothing yet; where that row has NO capacity the model lays one new block for unsafe.SliceData's 'some address'.) One draw. (LAID: no walk: one application.) -/
theorem Tryd.Builder_String_empty (B b : Nat) (w : World) (h : Lib.IsBuilder 100 5 B b [] w) (hBw : B ≤ w.heap.size) :
    Calls Tryd.prog 65 #[.pointer (some ⟨b, 0, none⟩)] w fun e w' => e = .returned (.string ⟨#[]⟩) ∧ Below B w w' := Any.Builder_String_empty Tryd.lays169 Tryd.Builder_Extra_169 B b w h hBw
open Go.RowKit in
/-- (*strings.Builder).String: "String returns the accumulated string.": WHATEVER THE BUILDER HOLDS. (LAID: no walk: one application.) -/
theorem Tryd.Builder_String_any (B b : Nat) (l : List UInt8) (w : World) (h : Lib.IsBuilder 100 5 B b (Lib.byteCells l) w) (hBw : B ≤ w.heap.size) :
    Calls Tryd.prog 65 #[.pointer (some ⟨b, 0, none⟩)] w fun e w' => e = .returned (.string ⟨l.toArray⟩) ∧ Below B w w' := Any.Builder_String_any Tryd.lays169 Tryd.Builder_Extra_169 B b l w h hBw
def Tryd.lays241_ren : Go.Shelf.Ren := ⟨fun | 241 => 111 | 277 => 113 | n => n, fun | 70 => 98 | 3 => 3 | 0 => 0 | 72 => 100 | 37 => 22 | 5 => 5 | n => n, fun | n => n⟩
theorem Tryd.lays241 : Go.Proofs.Lays.n241 Tryd.prog Tryd.lays241_ren := {
  mixed := by kernel_rfl
  f241 := Tryd.func111.trans (congrArg some (by kernel_rfl))
  f277 := Tryd.func113.trans (congrArg some (by kernel_rfl))
  t0 := Tryd.underlying0
  a0 := Tryd.isAgg0
  z0 := Tryd.sizeOf0
  v0 := Tryd.zeroValue0
  t3 := Tryd.underlying3
  a3 := Tryd.isAgg3
  z3 := Tryd.sizeOf3
  v3 := Tryd.zeroValue3
  t37 := Tryd.underlying22
  a37 := Tryd.isAgg22
  z37 := Tryd.sizeOf22
  v37 := Tryd.zeroValue22
  t70 := Tryd.underlying98
  a70 := Tryd.isAgg98
  z70 := Tryd.sizeOf98
  v70 := Tryd.zeroValue98
  t72 := Tryd.underlying100
  a72 := Tryd.isAgg100
  z72 := Tryd.sizeOf100
  v72 := Tryd.zeroValue100 }
theorem Tryd.Builder_Extra_241 : Builder.Extra Tryd.prog Tryd.lays241_ren := {
  sizeBuilder := by kernel_rfl
  liesBuilder := by kernel_rfl
  t5 := Tryd.underlying5
  a5 := Tryd.isAgg5
  z5 := Tryd.sizeOf5
  v5 := Tryd.zeroValue5
  infoByte := by kernel_rfl
  cellsByte := by kernel_rfl
  sizeByte := by kernel_rfl
  neB5 := by decide }
open Go.RowKit in
/-- (*strings.Builder).grow (no doc but "grow copies the buffer to a new, larger buffer so that there are at least n bytes of capacity beyond len(b.buf)."): AT A BUILDER WITHOUT A BUFFER: a new row of whatever bytes for its buffer, none of them its own yet. Three draws. (LAID: no walk: one application.) -/
theorem Tryd.Builder_grow_fresh (B b n : Nat) (w : World) (hB : B ≤ b) (hbk : w.heap[b]? = some (.cells #[.pointer (some ⟨b, 0, none⟩), .slice none 0 0] 100 (0, 0))) (hBw : B ≤ w.heap.size) (hn : n ≤ 281474976710656) :
    Calls Tryd.prog 111 #[.pointer (some ⟨b, 0, none⟩), .int .i64 n] w fun e w' => e = .returned (.tuple #[]) ∧ (Lib.BuilderAt 100 5 B b (.pointer (some ⟨b, 0, none⟩)) [] w' ∧ Below B w w') := Any.Builder_grow_fresh Tryd.lays241 Tryd.Builder_Extra_241 B b n w hB hbk hBw hn
def Tryd.lays165_ren : Go.Shelf.Ren := ⟨fun | 165 => 96 | 240 => 91 | 241 => 111 | 276 => 106 | 277 => 113 | n => n, fun | 70 => 98 | 3 => 3 | 0 => 0 | 4 => 4 | 9 => 9 | 20 => 20 | 72 => 100 | 37 => 22 | 164 => 141 | 5 => 5 | n => n, fun | n => n⟩
theorem Tryd.lays165 : Go.Proofs.Lays.n165 Tryd.prog Tryd.lays165_ren := {
  mixed := by kernel_rfl
  f165 := Tryd.func96.trans (congrArg some (by kernel_rfl))
  f240 := Tryd.func91.trans (congrArg some (by kernel_rfl))
  f241 := Tryd.func111.trans (congrArg some (by kernel_rfl))
  f276 := Tryd.func106.trans (congrArg some (by kernel_rfl))
  f277 := Tryd.func113.trans (congrArg some (by kernel_rfl))
  t0 := Tryd.underlying0
  a0 := Tryd.isAgg0
  z0 := Tryd.sizeOf0
  v0 := Tryd.zeroValue0
  t3 := Tryd.underlying3
  a3 := Tryd.isAgg3
  z3 := Tryd.sizeOf3
  v3 := Tryd.zeroValue3
  t4 := Tryd.underlying4
  a4 := Tryd.isAgg4
  z4 := Tryd.sizeOf4
  v4 := Tryd.zeroValue4
  t9 := Tryd.underlying9
  a9 := Tryd.isAgg9
  z9 := Tryd.sizeOf9
  v9 := Tryd.zeroValue9
  t20 := Tryd.underlying20
  a20 := Tryd.isAgg20
  z20 := Tryd.sizeOf20
  v20 := Tryd.zeroValue20
  t37 := Tryd.underlying22
  a37 := Tryd.isAgg22
  z37 := Tryd.sizeOf22
  v37 := Tryd.zeroValue22
  t70 := Tryd.underlying98
  a70 := Tryd.isAgg98
  z70 := Tryd.sizeOf98
  v70 := Tryd.zeroValue98
  t72 := Tryd.underlying100
  a72 := Tryd.isAgg100
  z72 := Tryd.sizeOf100
  v72 := Tryd.zeroValue100
  t164 := Tryd.underlying141
  a164 := Tryd.isAgg141
  z164 := Tryd.sizeOf141
  v164 := Tryd.zeroValue141 }
theorem Tryd.Builder_Extra_165 : Builder.Extra Tryd.prog Tryd.lays165_ren := {
  sizeBuilder := by kernel_rfl
  liesBuilder := by kernel_rfl
  t5 := Tryd.underlying5
  a5 := Tryd.isAgg5
  z5 := Tryd.sizeOf5
  v5 := Tryd.zeroValue5
  infoByte := by kernel_rfl
  cellsByte := by kernel_rfl
  sizeByte := by kernel_rfl
  neB5 := by decide }
open Go.RowKit in
/-- (*strings.Builder).Grow AT A BUILDER THAT HAS NOT BEEN WRITTEN ('var b strings.Builder; b.Grow(n)'): "Grow grows b's capacity, if necessary, to guarantee space for another n bytes.": it holds no byte behind it as before it. (LAID: no walk: one application.) -/
theorem Tryd.Builder_Grow_fresh (B b n : Nat) (w : World) (hB : B ≤ b) (hbk : w.heap[b]? = some (.cells #[.pointer none, .slice none 0 0] 100 (0, 0))) (hBw : B ≤ w.heap.size) (hn : n ≤ 281474976710656) :
    Calls Tryd.prog 96 #[.pointer (some ⟨b, 0, none⟩), .int .i64 n] w fun e w' => e = .returned (.tuple #[]) ∧ (Lib.BuilderAt 100 5 B b (.pointer (some ⟨b, 0, none⟩)) [] w' ∧ Below B w w') := Any.Builder_Grow_fresh Tryd.lays165 Tryd.Builder_Extra_165 B b n w hB hbk hBw hn
def Tryd.lays137_ren : Go.Shelf.Ren := ⟨fun | 137 => 61 | 217 => 90 | 266 => 105 | n => n, fun | 9 => 9 | 5 => 5 | 3 => 3 | n => n, fun | n => n⟩
theorem Tryd.lays137 : Go.Proofs.Lays.n137 Tryd.prog Tryd.lays137_ren := {
  mixed := by kernel_rfl
  f137 := Tryd.func61.trans (congrArg some (by kernel_rfl))
  f217 := Tryd.func90.trans (congrArg some (by kernel_rfl))
  f266 := Tryd.func105.trans (congrArg some (by kernel_rfl))
  t3 := Tryd.underlying3
  a3 := Tryd.isAgg3
  z3 := Tryd.sizeOf3
  v3 := Tryd.zeroValue3
  t5 := Tryd.underlying5
  a5 := Tryd.isAgg5
  z5 := Tryd.sizeOf5
  v5 := Tryd.zeroValue5
  t9 := Tryd.underlying9
  a9 := Tryd.isAgg9
  z9 := Tryd.sizeOf9
  v9 := Tryd.zeroValue9 }
open Go.RowKit in
/-- strings.IndexByte: "IndexByte returns the index of the first instance of c in s, or -1 if c is not present in s.": IT RETURNS 'Lib.indexByte s c'; the world is as it was. (LAID: no walk: one application.) -/
theorem Tryd.strings_IndexByte (s : ByteArray) (c : Int) (w : World) :
    Calls Tryd.prog 61 #[.string s, .int .u8 c] w fun e w' => e = .returned (.int .i64 (Lib.indexByte s.data.toList c.toNat.toUInt8)) ∧ w' = w := Any.strings_IndexByte Tryd.lays137 s c w
open Go.RowKit in
/-- (*strings.Builder).Len: "Len returns the number of accumulated bytes; b.Len() == len(b.String()).": the world is as it was. (THE FORM '_f': 'Lib.IsBuilderF'.) (LAID: no walk: one application.) -/
theorem Tryd.Builder_Len_f (B b : Nat) (bs : List Value) (w : World) (h : Lib.IsBuilderF 100 5 B b bs w) :
    Calls Tryd.prog 98 #[.pointer (some ⟨b, 0, none⟩)] w fun e w' => e = .returned (.int .i64 bs.length) ∧ w' = w := Any.Builder_Len_f Tryd.lays170 B b bs w h
open Go.RowKit in
/-- (*strings.Builder).String: "String returns the accumulated string.": OF A BUILDER THAT HOLDS AT LEAST ONE BYTE. ✋ THE MODEL FREEZES THOSE BYTES IN THE BUFFER (unsafe.String): a later write INTO them ends the model's run without an answer; a later append BEHIND them goes on. The statement's order of evaluation is drawn: one draw. THE FORM '_f': IT SAYS BESIDES THAT THE BUILDER IS A BUILDER STILL ('Lib.IsBuilderF', the same bytes): SO IT CAN BE WRITTEN ON: 'b.WriteString(b.String()[:k])'. (LAID: no walk: one application.) -/
theorem Tryd.Builder_String_f (B b : Nat) (l : List UInt8) (w : World) (h : Lib.IsBuilderF 100 5 B b (Lib.byteCells l) w) (h0 : l ≠ []) :
    Calls Tryd.prog 65 #[.pointer (some ⟨b, 0, none⟩)] w fun e w' => e = .returned (.string ⟨l.toArray⟩) ∧ (Lib.IsBuilderF 100 5 B b (Lib.byteCells l) w' ∧ Below B w w') := Any.Builder_String_f Tryd.lays169 Tryd.Builder_Extra_169 B b l w h h0
open Go.RowKit in
/-- (*strings.Builder).String OF A BUILDER THAT HOLDS NO BYTE: the empty string; THE FORM '_f': a builder still. (LAID: no walk: one application.) -/
theorem Tryd.Builder_String_empty_f (B b : Nat) (w : World) (h : Lib.IsBuilderF 100 5 B b [] w) (hBw : B ≤ w.heap.size) :
    Calls Tryd.prog 65 #[.pointer (some ⟨b, 0, none⟩)] w fun e w' => e = .returned (.string ⟨#[]⟩) ∧ (Lib.IsBuilderF 100 5 B b [] w' ∧ Below B w w') := Any.Builder_String_empty_f Tryd.lays169 Tryd.Builder_Extra_169 B b w h hBw
open Go.RowKit in
/-- (*strings.Builder).String: "String returns the accumulated string.": WHATEVER THE BUILDER HOLDS; THE FORM '_f': OF A BUILDER THAT MAY HAVE BEEN READ BEFORE; AND IT IS A BUILDER STILL, holding the same bytes: it can be written on. (LAID: no walk: one application.) -/
theorem Tryd.Builder_String_any_f (B b : Nat) (l : List UInt8) (w : World) (h : Lib.IsBuilderF 100 5 B b (Lib.byteCells l) w) (hBw : B ≤ w.heap.size) :
    Calls Tryd.prog 65 #[.pointer (some ⟨b, 0, none⟩)] w fun e w' => e = .returned (.string ⟨l.toArray⟩) ∧ (Lib.IsBuilderF 100 5 B b (Lib.byteCells l) w' ∧ Below B w w') := Any.Builder_String_any_f Tryd.lays169 Tryd.Builder_Extra_169 B b l w h hBw
open Go.RowKit in
/-- (*strings.Builder).String: "String returns the accumulated string.": OF A BUILDER THAT HOLDS AT LEAST ONE BYTE. ✋ THE MODEL FREEZES THOSE BYTES IN THE BUFFER (unsafe.String): a later write INTO them ends the model's run without an answer; a later append BEHIND them goes on. The statement's order of evaluation is drawn: one draw. THE FORM '_k': OVER 'Lib.IsBuilderF' (a builder that 'String()' may have read), AND WITH THE FRAME THAT REACHES ABOVE THE BUILDER: 'Lib.OthersKept': every block that is not b and is no row of uint8's stands as it stood: the iterator of a range among them. (LAID: no walk: one application.) -/
theorem Tryd.Builder_String_k (B b : Nat) (l : List UInt8) (w : World) (h : Lib.IsBuilderF 100 5 B b (Lib.byteCells l) w) (h0 : l ≠ []) :
    Calls Tryd.prog 65 #[.pointer (some ⟨b, 0, none⟩)] w fun e w' => e = .returned (.string ⟨l.toArray⟩) ∧ (Lib.IsBuilderF 100 5 B b (Lib.byteCells l) w' ∧ Below B w w' ∧ Lib.OthersKept 5 (some b) w w') := Any.Builder_String_k Tryd.lays169 Tryd.Builder_Extra_169 B b l w h h0
open Go.RowKit in
/-- (*strings.Builder).String OF A BUILDER THAT HOLDS NO BYTE: the empty string; THE FORM '_k': OVER 'Lib.IsBuilderF' (a builder that 'String()' may have read), AND WITH THE FRAME THAT REACHES ABOVE THE BUILDER: 'Lib.OthersKept': every block that is not b and is no row of uint8's stands as it stood: the iterator of a range among them. (LAID: no walk: one application.) -/
theorem Tryd.Builder_String_empty_k (B b : Nat) (w : World) (h : Lib.IsBuilderF 100 5 B b [] w) (hBw : B ≤ w.heap.size) :
    Calls Tryd.prog 65 #[.pointer (some ⟨b, 0, none⟩)] w fun e w' => e = .returned (.string ⟨#[]⟩) ∧ (Lib.IsBuilderF 100 5 B b [] w' ∧ Below B w w' ∧ Lib.OthersKept 5 (some b) w w') := Any.Builder_String_empty_k Tryd.lays169 Tryd.Builder_Extra_169 B b w h hBw
open Go.RowKit in
/-- (*strings.Builder).String: "String returns the accumulated string.": WHATEVER THE BUILDER HOLDS; THE FORM '_k': OVER 'Lib.IsBuilderF' (a builder that 'String()' may have read), AND WITH THE FRAME THAT REACHES ABOVE THE BUILDER: 'Lib.OthersKept': every block that is not b and is no row of uint8's stands as it stood: the iterator of a range among them. (LAID: no walk: one application.) -/
theorem Tryd.Builder_String_any_k (B b : Nat) (l : List UInt8) (w : World) (h : Lib.IsBuilderF 100 5 B b (Lib.byteCells l) w) (hBw : B ≤ w.heap.size) :
    Calls Tryd.prog 65 #[.pointer (some ⟨b, 0, none⟩)] w fun e w' => e = .returned (.string ⟨l.toArray⟩) ∧ (Lib.IsBuilderF 100 5 B b (Lib.byteCells l) w' ∧ Below B w w' ∧ Lib.OthersKept 5 (some b) w w') := Any.Builder_String_any_k Tryd.lays169 Tryd.Builder_Extra_169 B b l w h hBw
open Go.RowKit in
/-- (*strings.Builder).grow (no doc but "grow copies the buffer to a new, larger buffer so that there are at least n bytes of capacity beyond len(b.buf)."): AT A BUILDER WITHOUT A BUFFER: a new row of whatever bytes for its buffer, none of them its own yet. Three draws. (LAID: no walk: one application.) -/
theorem Tryd.Builder_grow_fresh_cap (B b n : Nat) (w : World) (hB : B ≤ b) (hbk : w.heap[b]? = some (.cells #[.pointer (some ⟨b, 0, none⟩), .slice none 0 0] 100 (0, 0))) (hBw : B ≤ w.heap.size) (hn : n ≤ 281474976710656) :
    Calls Tryd.prog 111 #[.pointer (some ⟨b, 0, none⟩), .int .i64 n] w fun e w' => e = .returned (.tuple #[]) ∧ (Lib.BuilderAt 100 5 B b (.pointer (some ⟨b, 0, none⟩)) [] w' ∧ Below B w w') ∧ ∃ p cap, w'.cell? ⟨b, 1, none⟩ = some (.slice p 0 cap) ∧ n ≤ cap := Any.Builder_grow_fresh_cap Tryd.lays241 Tryd.Builder_Extra_241 B b n w hB hbk hBw hn
open Go.RowKit in
/-- (*strings.Builder).Grow AT A BUILDER THAT HAS NOT BEEN WRITTEN ('var b strings.Builder; b.Grow(n)'): "Grow grows b's capacity, if necessary, to guarantee space for another n bytes.": it holds no byte behind it as before it. (LAID: no walk: one application.) -/
theorem Tryd.Builder_Grow_fresh_cap (B b n : Nat) (w : World) (hB : B ≤ b) (hbk : w.heap[b]? = some (.cells #[.pointer none, .slice none 0 0] 100 (0, 0))) (hBw : B ≤ w.heap.size) (hn : n ≤ 281474976710656) :
    Calls Tryd.prog 96 #[.pointer (some ⟨b, 0, none⟩), .int .i64 n] w fun e w' => e = .returned (.tuple #[]) ∧ (Lib.BuilderAt 100 5 B b (.pointer (some ⟨b, 0, none⟩)) [] w' ∧ Below B w w') ∧ ∃ p cap, w'.cell? ⟨b, 1, none⟩ = some (.slice p 0 cap) ∧ n ≤ cap := Any.Builder_Grow_fresh_cap Tryd.lays165 Tryd.Builder_Extra_165 B b n w hB hbk hBw hn
def Tryd.laysM316_ren : Go.Shelf.Ren := ⟨fun | 316 => 100 | n => n, fun | 9 => 9 | 3 => 3 | 4 => 4 | 37 => 22 | 0 => 0 | 127 => 126 | 5 => 5 | n => n, fun | n => n⟩
theorem Tryd.laysM316 : Go.Proofs.LaysM.n316 Tryd.prog Tryd.laysM316_ren := {
  mixed := by kernel_rfl
  f316 := Tryd.func100.trans (congrArg some (by kernel_rfl))
  t0 := Tryd.underlying0
  a0 := Tryd.isAgg0
  z0 := Tryd.sizeOf0
  v0 := Tryd.zeroValue0
  t3 := Tryd.underlying3
  a3 := Tryd.isAgg3
  z3 := Tryd.sizeOf3
  v3 := Tryd.zeroValue3
  t4 := Tryd.underlying4
  a4 := Tryd.isAgg4
  z4 := Tryd.sizeOf4
  v4 := Tryd.zeroValue4
  t9 := Tryd.underlying9
  a9 := Tryd.isAgg9
  z9 := Tryd.sizeOf9
  v9 := Tryd.zeroValue9
  t37 := Tryd.underlying22
  a37 := Tryd.isAgg22
  z37 := Tryd.sizeOf22
  v37 := Tryd.zeroValue22
  t127 := Tryd.underlying126
  a127 := Tryd.isAgg126
  z127 := Tryd.sizeOf126
  v127 := Tryd.zeroValue126
  t5 := Tryd.underlying5
  a5 := Tryd.isAgg5
  z5 := Tryd.sizeOf5
  v5 := Tryd.zeroValue5
  i0 := by kernel_rfl
  i3 := by kernel_rfl
  i4 := by kernel_rfl
  i5 := by kernel_rfl
  i9 := by kernel_rfl
  i37 := by kernel_rfl
  i127 := by kernel_rfl }
open Go.RowKit in
/-- internal/stringslite.Clone (what strings.Clone calls): "Clone returns a fresh copy of s.": THE SAME BYTES. Of what was there nothing has turned (a new row is laid, and frozen, where s is not empty). (LAID: no walk: one application.) -/
theorem Tryd.stringslite_Clone (s : ByteArray) (w : World) (hlim : s.size ≤ 281474976710656) :
    Calls Tryd.prog 100 #[.string s] w fun e w' => e = .returned (.string s) ∧ Below w.heap.size w w' := Any.stringslite_Clone Tryd.laysM316 s w hlim
def Tryd.lays217_ren : Go.Shelf.Ren := ⟨fun | 217 => 90 | 266 => 105 | n => n, fun | 9 => 9 | 5 => 5 | 3 => 3 | n => n, fun | n => n⟩
theorem Tryd.lays217 : Go.Proofs.Lays.n217 Tryd.prog Tryd.lays217_ren := {
  mixed := by kernel_rfl
  f217 := Tryd.func90.trans (congrArg some (by kernel_rfl))
  f266 := Tryd.func105.trans (congrArg some (by kernel_rfl))
  t3 := Tryd.underlying3
  a3 := Tryd.isAgg3
  z3 := Tryd.sizeOf3
  v3 := Tryd.zeroValue3
  t5 := Tryd.underlying5
  a5 := Tryd.isAgg5
  z5 := Tryd.sizeOf5
  v5 := Tryd.zeroValue5
  t9 := Tryd.underlying9
  a9 := Tryd.isAgg9
  z9 := Tryd.sizeOf9
  v9 := Tryd.zeroValue9 }
open Go.RowKit Go.Lib in
/-- internal/stringslite.IndexByte (what strings.IndexByte calls): IT RETURNS 'Lib.indexByte s c'; the world is as it was. (LAID: no walk: one application.) -/
theorem Tryd.stringslite_IndexByte (s : ByteArray) (c : Int) (w : World) :
    Calls Tryd.prog 90 #[.string s, .int .u8 c] w fun e w' => e = .returned (.int .i64 (Lib.indexByte s.data.toList c.toNat.toUInt8)) ∧ w' = w := Any.stringslite_IndexByte Tryd.lays217 s c w
def Tryd.lays206_ren : Go.Shelf.Ren := ⟨fun | 206 => 110 | n => n, fun | 9 => 9 | 4 => 4 | 3 => 3 | n => n, fun | n => n⟩
theorem Tryd.lays206 : Go.Proofs.Lays.n206 Tryd.prog Tryd.lays206_ren := {
  mixed := by kernel_rfl
  f206 := Tryd.func110.trans (congrArg some (by kernel_rfl))
  t3 := Tryd.underlying3
  a3 := Tryd.isAgg3
  z3 := Tryd.sizeOf3
  v3 := Tryd.zeroValue3
  t4 := Tryd.underlying4
  a4 := Tryd.isAgg4
  z4 := Tryd.sizeOf4
  v4 := Tryd.zeroValue4
  t9 := Tryd.underlying9
  a9 := Tryd.isAgg9
  z9 := Tryd.sizeOf9
  v9 := Tryd.zeroValue9 }
open Go.RowKit Go.Lib in
/-- internal/stringslite.HasPrefix (what strings.HasPrefix calls). (LAID: no walk: one application.) -/
theorem Tryd.stringslite_HasPrefix (s p : ByteArray) (w : World) :
    Calls Tryd.prog 110 #[.string s, .string p] w fun e w' => e = .returned (.bool (Lib.hasPrefix s.data.toList p.data.toList)) ∧ w' = w := Any.stringslite_HasPrefix Tryd.lays206 s p w
def Tryd.lays99_ren : Go.Shelf.Ren := ⟨fun | 99 => 95 | 206 => 110 | n => n, fun | 9 => 9 | 4 => 4 | 3 => 3 | n => n, fun | n => n⟩
theorem Tryd.lays99 : Go.Proofs.Lays.n99 Tryd.prog Tryd.lays99_ren := {
  mixed := by kernel_rfl
  f99 := Tryd.func95.trans (congrArg some (by kernel_rfl))
  f206 := Tryd.func110.trans (congrArg some (by kernel_rfl))
  t3 := Tryd.underlying3
  a3 := Tryd.isAgg3
  z3 := Tryd.sizeOf3
  v3 := Tryd.zeroValue3
  t4 := Tryd.underlying4
  a4 := Tryd.isAgg4
  z4 := Tryd.sizeOf4
  v4 := Tryd.zeroValue4
  t9 := Tryd.underlying9
  a9 := Tryd.isAgg9
  z9 := Tryd.sizeOf9
  v9 := Tryd.zeroValue9 }
open Go.RowKit Go.Lib in
/-- strings.HasPrefix: "HasPrefix reports whether the string s begins with prefix.": IT RETURNS 'Lib.hasPrefix s prefix'; the world is as it was. (LAID: no walk: one application.) -/
theorem Tryd.strings_HasPrefix (s p : ByteArray) (w : World) :
    Calls Tryd.prog 95 #[.string s, .string p] w fun e w' => e = .returned (.bool (Lib.hasPrefix s.data.toList p.data.toList)) ∧ w' = w := Any.strings_HasPrefix Tryd.lays99 s p w
def Tryd.lays264_ren : Go.Shelf.Ren := ⟨fun | 264 => 109 | n => n, fun | 53 => 44 | 46 => 96 | n => n, fun | n => n⟩
theorem Tryd.lays264 : Go.Proofs.Lays.n264 Tryd.prog Tryd.lays264_ren := {
  mixed := by kernel_rfl
  f264 := Tryd.func109.trans (congrArg some (by kernel_rfl))
  t46 := Tryd.underlying96
  a46 := Tryd.isAgg96
  z46 := Tryd.sizeOf96
  v46 := Tryd.zeroValue96
  t53 := Tryd.underlying44
  a53 := Tryd.isAgg44
  z53 := Tryd.sizeOf44
  v53 := Tryd.zeroValue44 }
open Go.RowKit Go.Lib in
theorem Tryd.bits_Mul64 (x y : Nat) (hx : x < 18446744073709551616) (hy : y < 18446744073709551616) (w : World) :
    Calls Tryd.prog 109 #[.int .u64 x, .int .u64 y] w fun e w' => e = .returned (.tuple #[.int .u64 ((x * y / 18446744073709551616 : Nat) : Int), .int .u64 ((x * y % 18446744073709551616 : Nat) : Int)]) ∧ w' = w := Any.bits_Mul64 Tryd.lays264 x y hx hy w
def Tryd.lays212_ren : Go.Shelf.Ren := ⟨fun | 212 => 94 | 263 => 108 | 264 => 109 | n => n, fun | 46 => 96 | 51 => 28 | 146 => 144 | 53 => 44 | 148 => 146 | n => n, fun | n => n⟩
theorem Tryd.lays212 : Go.Proofs.Lays.n212 Tryd.prog Tryd.lays212_ren := {
  mixed := by kernel_rfl
  f212 := Tryd.func94.trans (congrArg some (by kernel_rfl))
  f263 := Tryd.func108.trans (congrArg some (by kernel_rfl))
  f264 := Tryd.func109.trans (congrArg some (by kernel_rfl))
  t46 := Tryd.underlying96
  a46 := Tryd.isAgg96
  z46 := Tryd.sizeOf96
  v46 := Tryd.zeroValue96
  t51 := Tryd.underlying28
  a51 := Tryd.isAgg28
  z51 := Tryd.sizeOf28
  v51 := Tryd.zeroValue28
  t53 := Tryd.underlying44
  a53 := Tryd.isAgg44
  z53 := Tryd.sizeOf44
  v53 := Tryd.zeroValue44
  t146 := Tryd.underlying144
  a146 := Tryd.isAgg144
  z146 := Tryd.sizeOf144
  v146 := Tryd.zeroValue144
  t148 := Tryd.underlying146
  a148 := Tryd.isAgg146
  z148 := Tryd.sizeOf146
  v148 := Tryd.zeroValue146 }
open Go.RowKit Go.Lib in
/-- math/bits.Mul: "Mul returns the full-width product of x and y": on a machine of 64 bits: Mul64's. (LAID: no walk: one application.) -/
theorem Tryd.bits_Mul (x y : Nat) (hx : x < 18446744073709551616) (hy : y < 18446744073709551616) (w : World) :
    Calls Tryd.prog 94 #[.int .u64 x, .int .u64 y] w fun e w' => e = .returned (.tuple #[.int .u64 ((x * y / 18446744073709551616 : Nat) : Int), .int .u64 ((x * y % 18446744073709551616 : Nat) : Int)]) ∧ w' = w := Any.bits_Mul Tryd.lays212 x y hx hy w
def Tryd.lays105_ren : Go.Shelf.Ren := ⟨fun | 105 => 80 | 212 => 94 | 99 => 95 | 165 => 96 | 166 => 97 | 170 => 98 | 169 => 65 | 263 => 108 | 264 => 109 | 206 => 110 | 240 => 91 | 241 => 111 | 276 => 106 | 277 => 113 | n => n, fun | 9 => 9 | 3 => 3 | 4 => 4 | 20 => 20 | 0 => 0 | 46 => 96 | 109 => 129 | 5 => 5 | 72 => 100 | 76 => 133 | 51 => 28 | 146 => 144 | 53 => 44 | 148 => 146 | 70 => 98 | 37 => 22 | 75 => 102 | 127 => 126 | 164 => 141 | 80 => 104 | n => n, fun | n => n⟩
theorem Tryd.lays105 : Go.Proofs.Lays.n105 Tryd.prog Tryd.lays105_ren := {
  mixed := by kernel_rfl
  f99 := Tryd.func95.trans (congrArg some (by kernel_rfl))
  f105 := Tryd.func80.trans (congrArg some (by kernel_rfl))
  f165 := Tryd.func96.trans (congrArg some (by kernel_rfl))
  f166 := Tryd.func97.trans (congrArg some (by kernel_rfl))
  f169 := Tryd.func65.trans (congrArg some (by kernel_rfl))
  f170 := Tryd.func98.trans (congrArg some (by kernel_rfl))
  f206 := Tryd.func110.trans (congrArg some (by kernel_rfl))
  f212 := Tryd.func94.trans (congrArg some (by kernel_rfl))
  f240 := Tryd.func91.trans (congrArg some (by kernel_rfl))
  f241 := Tryd.func111.trans (congrArg some (by kernel_rfl))
  f263 := Tryd.func108.trans (congrArg some (by kernel_rfl))
  f264 := Tryd.func109.trans (congrArg some (by kernel_rfl))
  f276 := Tryd.func106.trans (congrArg some (by kernel_rfl))
  f277 := Tryd.func113.trans (congrArg some (by kernel_rfl))
  t0 := Tryd.underlying0
  a0 := Tryd.isAgg0
  z0 := Tryd.sizeOf0
  v0 := Tryd.zeroValue0
  t3 := Tryd.underlying3
  a3 := Tryd.isAgg3
  z3 := Tryd.sizeOf3
  v3 := Tryd.zeroValue3
  t4 := Tryd.underlying4
  a4 := Tryd.isAgg4
  z4 := Tryd.sizeOf4
  v4 := Tryd.zeroValue4
  t5 := Tryd.underlying5
  a5 := Tryd.isAgg5
  z5 := Tryd.sizeOf5
  v5 := Tryd.zeroValue5
  t9 := Tryd.underlying9
  a9 := Tryd.isAgg9
  z9 := Tryd.sizeOf9
  v9 := Tryd.zeroValue9
  t20 := Tryd.underlying20
  a20 := Tryd.isAgg20
  z20 := Tryd.sizeOf20
  v20 := Tryd.zeroValue20
  t37 := Tryd.underlying22
  a37 := Tryd.isAgg22
  z37 := Tryd.sizeOf22
  v37 := Tryd.zeroValue22
  t46 := Tryd.underlying96
  a46 := Tryd.isAgg96
  z46 := Tryd.sizeOf96
  v46 := Tryd.zeroValue96
  t51 := Tryd.underlying28
  a51 := Tryd.isAgg28
  z51 := Tryd.sizeOf28
  v51 := Tryd.zeroValue28
  t53 := Tryd.underlying44
  a53 := Tryd.isAgg44
  z53 := Tryd.sizeOf44
  v53 := Tryd.zeroValue44
  t70 := Tryd.underlying98
  a70 := Tryd.isAgg98
  z70 := Tryd.sizeOf98
  v70 := Tryd.zeroValue98
  t72 := Tryd.underlying100
  a72 := Tryd.isAgg100
  z72 := Tryd.sizeOf100
  v72 := Tryd.zeroValue100
  t75 := Tryd.underlying102
  a75 := Tryd.isAgg102
  z75 := Tryd.sizeOf102
  v75 := Tryd.zeroValue102
  t76 := Tryd.underlying133
  a76 := Tryd.isAgg133
  z76 := Tryd.sizeOf133
  v76 := Tryd.zeroValue133
  t109 := Tryd.underlying129
  a109 := Tryd.isAgg129
  z109 := Tryd.sizeOf129
  v109 := Tryd.zeroValue129
  t127 := Tryd.underlying126
  a127 := Tryd.isAgg126
  z127 := Tryd.sizeOf126
  v127 := Tryd.zeroValue126
  t146 := Tryd.underlying144
  a146 := Tryd.isAgg144
  z146 := Tryd.sizeOf144
  v146 := Tryd.zeroValue144
  t148 := Tryd.underlying146
  a148 := Tryd.isAgg146
  z148 := Tryd.sizeOf146
  v148 := Tryd.zeroValue146
  t164 := Tryd.underlying141
  a164 := Tryd.isAgg141
  z164 := Tryd.sizeOf141
  v164 := Tryd.zeroValue141 }
theorem Tryd.Builder_Extra_105 : Builder.Extra Tryd.prog Tryd.lays105_ren := {
  sizeBuilder := by kernel_rfl
  liesBuilder := by kernel_rfl
  t5 := Tryd.underlying5
  a5 := Tryd.isAgg5
  z5 := Tryd.sizeOf5
  v5 := Tryd.zeroValue5
  infoByte := by kernel_rfl
  cellsByte := by kernel_rfl
  sizeByte := by kernel_rfl
  neB5 := by decide }
open Go.RowKit Go.Lib in
/-- THE MAIN CASE: at least two copies of a string that is not empty. (LAID: no walk: one application.) -/
theorem Tryd.strings_Repeat_main (s : ByteArray) (c : Nat) (w : World) (hc2 : 2 ≤ c) (hc : c ≤ 9223372036854775807) (hlen : s.size * c ≤ 140737488355328) (h0 : 0 < s.size) :
    Calls Tryd.prog 80 #[.string s, .int .i64 c] w fun e w' => e = .returned (.string ⟨(Lib.repeatL s.data.toList c).toArray⟩) ∧ Below w.heap.size w w' := Any.strings_Repeat_main Tryd.lays105 Tryd.Builder_Extra_105 s c w hc2 hc hlen h0
open Go.RowKit Go.Lib in
theorem Tryd.strings_Repeat_zero (s : ByteArray) (w : World) :
    Calls Tryd.prog 80 #[.string s, .int .i64 0] w fun e w' => e = .returned (.string ⟨#[]⟩) ∧ w' = w := Any.strings_Repeat_zero Tryd.lays105 s w
open Go.RowKit Go.Lib in
theorem Tryd.strings_Repeat_one (s : ByteArray) (w : World) :
    Calls Tryd.prog 80 #[.string s, .int .i64 1] w fun e w' => e = .returned (.string s) ∧ w' = w := Any.strings_Repeat_one Tryd.lays105 s w
open Go.RowKit Go.Lib in
/-- Copies of the empty string. (LAID: no walk: one application.) -/
theorem Tryd.strings_Repeat_empty (s : ByteArray) (c : Nat) (w : World) (hc2 : 2 ≤ c) (hc : c ≤ 9223372036854775807) (h0 : s.size = 0) :
    Calls Tryd.prog 80 #[.string s, .int .i64 c] w fun e w' => e = .returned (.string ⟨#[]⟩) ∧ w' = w := Any.strings_Repeat_empty Tryd.lays105 s c w hc2 hc h0
open Go.RowKit Go.Lib in
/-- count < 0: "It panics if count is negative". (LAID: no walk: one application.) -/
theorem Tryd.strings_Repeat_negative (s : ByteArray) (c : Int) (w : World) (hc : c < 0) :
    Calls Tryd.prog 80 #[.string s, .int .i64 c] w fun e w' => e = .panicked [{ v := repeatPanic Tryd.lays105_ren "strings: negative Repeat count", recovered := false }] ∧ w' = w := Any.strings_Repeat_negative Tryd.lays105 s c w hc
open Go.RowKit Go.Lib in
/-- len(s) * count is no int: ".. or if the result of (len(s) * count) overflows". (LAID: no walk: one application.) -/
theorem Tryd.strings_Repeat_overflow (s : ByteArray) (c : Nat) (w : World) (hc : c ≤ 9223372036854775807) (hs : s.size ≤ 9223372036854775807) (hbig : 9223372036854775807 < s.size * c) :
    Calls Tryd.prog 80 #[.string s, .int .i64 c] w fun e w' => e = .panicked [{ v := repeatPanic Tryd.lays105_ren "strings: Repeat output length overflow", recovered := false }] ∧ w' = w := Any.strings_Repeat_overflow Tryd.lays105 s c w hc hs hbig
open Go.RowKit Go.Lib in
/-- **strings.Repeat: count ≥ 0, the result within one allocation: count copies of s.** (LAID: no walk: one application.) -/
theorem Tryd.strings_Repeat (s : ByteArray) (c : Nat) (w : World) (hc : c ≤ 9223372036854775807) (hlen : s.size * c ≤ 140737488355328) :
    Calls Tryd.prog 80 #[.string s, .int .i64 c] w fun e w' => e = .returned (.string ⟨(Lib.repeatL s.data.toList c).toArray⟩) ∧ Below w.heap.size w w' := Any.strings_Repeat Tryd.lays105 Tryd.Builder_Extra_105 s c w hc hlen
end Go.Proofs
namespace Go.Proofs.YtldpnmebjnkjeaaDoor.Sha
open Go.RowKit Go.Proofs.YtldpnmebjnkjeaaDoorW.PrintWords
set_option linter.unusedVariables false
set_option linter.unusedSimpArgs false

theorem heap_at1 (w : World) (a b : Obj) : ((w.alloc a).alloc b).heap[w.heap.size + 1]? = some b := by
  have h := heap_alloc_last (w.alloc a) b
  rwa [show (w.alloc a).heap.size = w.heap.size + 1 by simp] at h
namespace Kept
variable {g : Nat} {R : List Value} {w w' w0 : World} {L : List UInt32}
theorem other (h : Kept g R w L w') {k : Nat} (hk : k < w.heap.size) (hne : k ≠ g) : w'.heap[k]? = w.heap[k]? := by
  have hb := h.block k hk
  rw [setRow_other _ _ _ _ hne] at hb
  exact hb
theorem size (h : Kept g R w L w') : w.heap.size ≤ w'.heap.size := by have := Below.size h; simpa using this
theorem below (h : Kept g R w L w') {B : Nat} (hb : Below B w0 w) (hg : B ≤ g) (hB : B ≤ w.heap.size) : Below B w0 w' :=
  (below_setRow hb hg _).trans (Below.mono h hB)
end Kept
theorem clone_calls (s : ByteArray) (w : World) (hlim : s.size ≤ 281474976710656) :
    Calls Tryd.prog 82 #[.string s] w fun e w' => e = .returned (.string s) ∧ Below w.heap.size w w' := by
  go_enter Tryd.func82, Tryd.ntmps82
  go_wp2_with fail
  refine (Tryd.stringslite_Clone s w hlim).mono ?_
  rintro e w' ⟨rfl, hb⟩
  go_wp2_with fail
  go_ret
  exact ⟨rfl, hb⟩
/-- A hash, by value. -/
def hashV (v : V8) (rest : ByteArray) (n : Int) : Value := .agg #[.int .u32 (v.a.toNat : Int), .int .u32 (v.b.toNat : Int), .int .u32 (v.c.toNat : Int), .int .u32 (v.d.toNat : Int), .int .u32 (v.e.toNat : Int), .int .u32 (v.f.toNat : Int), .int .u32 (v.g.toNat : Int), .int .u32 (v.h.toNat : Int), .string rest, .int .i64 n]
/-- What a feed makes. -/
def fedV (v : V8) (rest : ByteArray) (n : Int) (text : ByteArray) : Value :=
  hashV (feedP v (rest.data.toList ++ text.data.toList)).1 ⟨(feedP v (rest.data.toList ++ text.data.toList)).2.toArray⟩ (n + text.size)
theorem bytes_mk (s : ByteArray) : (⟨s.data.toList.toArray⟩ : ByteArray) = s := rfl
/-- What is left to be taken, shut. -/
structure Fd (v u : V8) (all : List UInt8) (s : ByteArray) : Prop where
  eq : feedP u s.data.toList = feedP v all
set_option maxHeartbeats 4000000 in
set_option maxRecDepth 100000 in
theorem fed_calls (v : V8) (rest : ByteArray) (n : Int) (text : ByteArray) (w : World) (hK : KAt w) (hr : rest.size ≤ 4294967296) (ht : text.size ≤ 4294967296) (hn0 : 0 ≤ n) (hn : n ≤ 4294967296) :
    Calls Tryd.prog 54 #[hashV v rest n, .string text] w fun e w' => e = .returned (fedV v rest n text) ∧ Below w.heap.size w w' := by
  unfold fedV hashV
  have hlt : (9223372036854775807 < (rest.size : Int) + (text.size : Int)) = False := by simp; omega
  replace hK := Lib.hid hK
  go_enter Tryd.func54, Tryd.ntmps54
  go_wp2_with fail
  generalize hw1 : (w.alloc _).alloc _ = w1
  have HX : Hid (RowX 31 w.heap.size v.list [.string rest, .int .i64 (n + text.size)] w1) := by
    rw [← hw1]; refine Lib.hid ?_
    unfold RowX
    rw [Below.heap_alloc _ _ _ (by simp)]
    exact heap_alloc_last _ _
  have HZ : Hid (w1.heap[w.heap.size + 1]? = some (.cells [.int .u32 0, .int .u32 0, .int .u32 0, .int .u32 0, .int .u32 0, .int .u32 0, .int .u32 0, .int .u32 0, .string ⟨#[]⟩, .int .i64 0].toArray 31 (0, 0))) := by
    rw [← hw1]; exact heap_at1 _ _ _
  have HB : Hid (Below w.heap.size w w1) := by
    rw [← hw1]; exact Lib.hid (((Below.refl _ _).alloc (Nat.le_refl _) _).alloc (by simp) _)
  have HS : Hid (w.heap.size + 2 ≤ w1.heap.size) := by rw [← hw1]; exact Lib.hid (by simp)
  clear hw1
  have HE : Fd v v (rest.data.toList ++ text.data.toList) (rest ++ text) := ⟨by rw [ByteArray.data_append, Array.toList_append]⟩
  generalize hq : rest.data.toList ++ text.data.toList = all at HE ⊢
  replace hq := Lib.hid hq
  have hsz : (rest ++ text).size ≤ 8589934592 := by rw [ByteArray.size_append]; omega
  generalize rest ++ text = s0 at HE hsz ⊢
  replace hsz := Lib.hid hsz
  generalize hN : n + (text.size : Int) = N at HX ⊢
  replace hN := Lib.hid hN
  replace hlt := Lib.hid hlt
  go_loopw [5] (fun x wr => ∃ (u : V8) (s : ByteArray), x = .string s ∧ Hid (s.size ≤ 8589934592) ∧ Fd v u all s ∧ Hid (RowX 31 w.heap.size u.list [.string rest, .int .i64 N] wr) ∧ Hid (wr.heap[w.heap.size + 1]? = some (.cells [.int .u32 0, .int .u32 0, .int .u32 0, .int .u32 0, .int .u32 0, .int .u32 0, .int .u32 0, .int .u32 0, .string ⟨#[]⟩, .int .i64 0].toArray 31 (0, 0))) ∧ Hid (Below w.heap.size w wr) ∧ Hid (w.heap.size + 2 ≤ wr.heap.size)) (fun x _ => match x with | .string s => s.size | _ => 0)
  case atStart => exact ⟨v, s0, rfl, hsz, HE, HX, HZ, HB, HS⟩
  case round =>
    clear HX HZ HB HS HE hsz
    obtain ⟨u, s, rfl, hsz, HE, HX, HZ, HB, HS⟩ := hrel
    by_cases h64 : 64 ≤ s.size
    · have h64' : (64 : Int) ≤ (s.size : Int) := by omega
      have hs2 : (s.size : Int) ≤ 9223372036854775807 := by have := hsz.out; omega
      have hb64 : (s.extract 0 64).size = 64 := by rw [ByteArray.size_extract]; omega
      replace hb64 := Lib.hid hb64
      go_wp2_with fail
      refine (take_calls w.heap.size u _ _ (s.extract 0 64) hb64.out _ (hK.out.below HB.out) HX.out).mono ?_
      rintro e w2 ⟨rfl, hk⟩
      replace hk := Lib.hid hk
      go_wp2_with fail
      go_roundw
      case rel =>
        have h3 := HS.out
        have hl : s.size = s.data.toList.length := Lib.size_eq s
        refine ⟨_, _, rfl, Lib.hid (by have := hsz.out; rw [ByteArray.size_extract]; omega), ⟨?_⟩, Lib.hid (Kept.row hk.out HX.out (by omega)), Lib.hid ?_, Lib.hid (hk.out.below HB.out (Nat.le_refl _) (by omega)), Lib.hid (by have := hk.out.size; omega)⟩
        · rw [← HE.eq, feedP_ge u s.data.toList (by omega), Lib.extract_data, Lib.extract_data, List.drop_zero, Nat.sub_zero]
          congr 2
          rw [List.take_of_length_le (by rw [List.length_drop]; omega)]
        · rw [hk.out.other (by omega) (by omega)]; exact HZ.out
      case measure => simp; omega
    · have h64' : (s.size : Int) < 64 := by omega
      have hl : s.size = s.data.toList.length := Lib.size_eq s
      have hF : feedP v all = (u, s.data.toList) := by rw [← HE.eq, feedP_lt u _ (by omega)]
      replace hl := Lib.hid hl
      replace hF := Lib.hid hF
      have hs9 := hsz.out
      go_wp2_with fail
      refine (clone_calls s wr (by omega)).mono ?_
      rintro e w2 ⟨rfl, hb⟩
      replace HX : Hid (RowX 31 w.heap.size u.list [.string rest, .int .i64 N] w2) := Lib.hid (blk_below HX.out hb)
      replace HZ : Hid (w2.heap[w.heap.size + 1]? = some (.cells [.int .u32 0, .int .u32 0, .int .u32 0, .int .u32 0, .int .u32 0, .int .u32 0, .int .u32 0, .int .u32 0, .string ⟨#[]⟩, .int .i64 0].toArray 31 (0, 0))) := Lib.hid (blk_below HZ.out hb)
      replace HB : Hid (Below w.heap.size w w2) := Lib.hid (HB.out.trans (Below.mono hb HB.out.size))
      clear hb hK HS HE
      have x0 : w2.cell? ⟨w.heap.size, 0, none⟩ = some (.int .u32 (u.a.toNat : Int)) := HX.out.cell 0 (by show 0 < 8; omega)
      have x1 : w2.cell? ⟨w.heap.size, 1, none⟩ = some (.int .u32 (u.b.toNat : Int)) := HX.out.cell 1 (by show 1 < 8; omega)
      have x2 : w2.cell? ⟨w.heap.size, 2, none⟩ = some (.int .u32 (u.c.toNat : Int)) := HX.out.cell 2 (by show 2 < 8; omega)
      have x3 : w2.cell? ⟨w.heap.size, 3, none⟩ = some (.int .u32 (u.d.toNat : Int)) := HX.out.cell 3 (by show 3 < 8; omega)
      have x4 : w2.cell? ⟨w.heap.size, 4, none⟩ = some (.int .u32 (u.e.toNat : Int)) := HX.out.cell 4 (by show 4 < 8; omega)
      have x5 : w2.cell? ⟨w.heap.size, 5, none⟩ = some (.int .u32 (u.f.toNat : Int)) := HX.out.cell 5 (by show 5 < 8; omega)
      have x6 : w2.cell? ⟨w.heap.size, 6, none⟩ = some (.int .u32 (u.g.toNat : Int)) := HX.out.cell 6 (by show 6 < 8; omega)
      have x7 : w2.cell? ⟨w.heap.size, 7, none⟩ = some (.int .u32 (u.h.toNat : Int)) := HX.out.cell 7 (by show 7 < 8; omega)
      have x8 : w2.cell? ⟨w.heap.size, 8, none⟩ = some (.string rest) := by rw [cell_of_row _ _ _ _ _ _ HX.out]; rfl
      have x9 : w2.cell? ⟨w.heap.size, 9, none⟩ = some (.int .i64 N) := by rw [cell_of_row _ _ _ _ _ _ HX.out]; rfl
      have z0 : w2.cell? ⟨w.heap.size + 1, 0, none⟩ = some (.int .u32 0) := by rw [cell_of_row _ _ _ _ _ _ HZ.out]; rfl
      have z1 : w2.cell? ⟨w.heap.size + 1, 1, none⟩ = some (.int .u32 0) := by rw [cell_of_row _ _ _ _ _ _ HZ.out]; rfl
      have z2 : w2.cell? ⟨w.heap.size + 1, 2, none⟩ = some (.int .u32 0) := by rw [cell_of_row _ _ _ _ _ _ HZ.out]; rfl
      have z3 : w2.cell? ⟨w.heap.size + 1, 3, none⟩ = some (.int .u32 0) := by rw [cell_of_row _ _ _ _ _ _ HZ.out]; rfl
      have z4 : w2.cell? ⟨w.heap.size + 1, 4, none⟩ = some (.int .u32 0) := by rw [cell_of_row _ _ _ _ _ _ HZ.out]; rfl
      have z5 : w2.cell? ⟨w.heap.size + 1, 5, none⟩ = some (.int .u32 0) := by rw [cell_of_row _ _ _ _ _ _ HZ.out]; rfl
      have z6 : w2.cell? ⟨w.heap.size + 1, 6, none⟩ = some (.int .u32 0) := by rw [cell_of_row _ _ _ _ _ _ HZ.out]; rfl
      have z7 : w2.cell? ⟨w.heap.size + 1, 7, none⟩ = some (.int .u32 0) := by rw [cell_of_row _ _ _ _ _ _ HZ.out]; rfl
      have z8 : w2.cell? ⟨w.heap.size + 1, 8, none⟩ = some (.string ⟨#[]⟩) := by rw [cell_of_row _ _ _ _ _ _ HZ.out]; rfl
      have z9 : w2.cell? ⟨w.heap.size + 1, 9, none⟩ = some (.int .i64 0) := by rw [cell_of_row _ _ _ _ _ _ HZ.out]; rfl
      have xf := HX.out.f
      have zf : ∀ i, w2.frozen? ⟨w.heap.size + 1, i, none⟩ = false := fun i => frozen_of_row w2 (w.heap.size + 1) i _ _ HZ.out
      go_wp2_with fail
      refine bodyPost_ret (v := .agg #[.int .u32 (u.a.toNat : Int), .int .u32 (u.b.toNat : Int), .int .u32 (u.c.toNat : Int), .int .u32 (u.d.toNat : Int), .int .u32 (u.e.toNat : Int), .int .u32 (u.f.toNat : Int), .int .u32 (u.g.toNat : Int), .int .u32 (u.h.toNat : Int), .string s, .int .i64 N]) (by simp [results, Tryd.results54, go_sem, z0, z1, z2, z3, z4, z5, z6, z7, z8, z9, zf]) rfl ⟨?_, ?_⟩
      · rw [hq.out, hF.out, hN.out]
      · repeat (refine Below.setCell ?_ (by simp) _)
        exact HB.out
end Go.Proofs.YtldpnmebjnkjeaaDoor.Sha
namespace Go.Proofs.YtldpnmebjnkjeaaDoor
open Go.RowKit
set_option linter.unusedVariables false
set_option linter.unusedSimpArgs false

/-! A slice of bytes of the call's own: a conversion's row ('[]byte(s)'), or one that an append has made: appended to, byte by byte. -/
/-- The slice v holds the bytes l, in a block from base on, whose cells up to the capacity are there and may be written. -/
def OB (base : Nat) (v : Value) (l : List UInt8) (w : World) : Prop :=
  ∃ g cap cur t fr, v = .slice (some ⟨g, 0, none⟩) l.length cap ∧ base ≤ g ∧ l.length ≤ cap ∧ w.heap[g]? = some (.cells cur t fr) ∧ cap ≤ cur.size ∧ (∀ (j : Nat) (u : Value), (Lib.byteCells l)[j]? = some u → cur[j]? = some u) ∧ (∀ j : Nat, j < cap → w.frozen? ⟨g, j, none⟩ = false)
namespace OB
variable {base : Nat} {v : Value} {l : List UInt8} {w w1 : World}
theorem step (h : OB base v l w) (hb : ∀ g, base ≤ g → g < w.heap.size → w1.heap[g]? = w.heap[g]?) : OB base v l w1 := by
  obtain ⟨g, cap, cur, t, fr, hv, hg, hc, hr, hs, hl, hf⟩ := h
  have hlt : g < w.heap.size := by
    rcases Nat.lt_or_ge g w.heap.size with h1 | h1
    · exact h1
    · rw [Array.getElem?_eq_none h1] at hr; cases hr
  have e := hb g hg hlt
  exact ⟨g, cap, cur, t, fr, hv, hg, hc, e.trans hr, hs, hl, fun j hj => (World.frozen?_of_block (a := ⟨g, j, none⟩) e).trans (hf j hj)⟩
theorem below (h : OB base v l w) (hb : Below w.heap.size w w1) : OB base v l w1 := h.step fun g _ hg => hb.block g hg
theorem alloc (h : OB base v l w) (o : Obj) : OB base v l (w.alloc o) := h.step fun g _ hg => Below.heap_alloc _ _ _ hg
theorem far (h : OB base v l w) {p : Addr} (hp : p.block < base) (u : Value) : OB base v l (w.setCell p u) := h.step fun g hg _ => Below.heap_setCell _ _ _ _ (by omega)
theorem lower (h : OB base v l w) {b0 : Nat} (hb : b0 ≤ base) : OB b0 v l w := by
  obtain ⟨g, cap, cur, t, fr, hv, hg, r⟩ := h
  exact ⟨g, cap, cur, t, fr, hv, by omega, r⟩
theorem slice (h : OB base v l w) : ∃ g cap, v = .slice (some ⟨g, 0, none⟩) l.length cap := by
  obtain ⟨g, cap, cur, t, fr, hv, r⟩ := h
  exact ⟨g, cap, hv⟩
theorem conv (w : World) (e : TypeId) (s : ByteArray) : OB w.heap.size (.slice (some ⟨w.heap.size, 0, none⟩) s.size (grownCap w s.size 0 e)) s.data.toList (Lib.bytesWorld w e s) := by
  have hl : s.size = s.data.toList.length := Lib.size_eq s
  have hg := grownCap_ge w s.size 0 e
  have hC : (Lib.bytesCells w e s).size = grownCap w s.size 0 e := by
    unfold Lib.bytesCells
    rw [Array.size_append, Array.size_map, Array.size_replicate]
    show s.size + _ = _
    omega
  refine ⟨w.heap.size, grownCap w s.size 0 e, _, _, _, by rw [hl], Nat.le_refl _, by omega, Lib.bytesWorld_at_new w e s, by omega, fun j u hj => ?_, fun j hj => ?_⟩
  · have hj' : j < s.data.toList.length := by
      have := (List.getElem?_eq_some_iff.1 hj).1
      simpa [Lib.byteCells] using this
    rw [← hj]
    unfold Lib.bytesCells Lib.byteCells
    rw [Array.getElem?_append_left (by rw [Array.size_map]; simpa using hj')]
    simp
  · unfold World.frozen?
    rw [Lib.bytesWorld_at_new w e s]
    simp only [hC]
    have : ¬ (grownCap w s.size 0 e ≤ j) := by omega
    simp [this]
end OB
theorem u8_info : ∃ i : TypeInfo, Tryd.prog.info? 5 = some i ∧ i.zero = some (.int .u8 0) ∧ i.size = 1 ∧ i.bytes = 1 := by
  have h : (Tryd.prog.info? 5).map (fun i => (i.zero, i.size, i.bytes)) = some (some (.int .u8 0), 1, 1) := by kernel_rfl
  cases hq : Tryd.prog.info? 5 with
  | none => rw [hq] at h; cases h
  | some i =>
    rw [hq] at h
    have h3 := Option.some.inj h
    exact ⟨i, rfl, congrArg Prod.fst h3, congrArg (fun p => p.2.1) h3, congrArg (fun p => p.2.2) h3⟩
/-- One byte more. -/
theorem run_append_byte {base : Nat} {v : Value} {l : List UInt8} {w : World} (h : OB base v l w) (ty : TypeId) (ad : Addr) (b : UInt8) (hx : w.cell? ad = some (.int .u8 (b.toNat : Int))) (hbase : base ≤ w.heap.size) (hl : l.length ≤ 1073741824) :
    ∃ v' w', (Builtin.append_ #[22, 22] ty #[v, .slice (some ad) 1 1]).run Tryd.prog w = .ok v' w' ∧ OB base v' (l ++ [b]) w' ∧ Below base w w' := by
  obtain ⟨g, cap, cur, t, fr, rfl, hg, hc, hr, hcs, hcur, hf⟩ := h
  obtain ⟨i, hi, hz, h1, hb1⟩ := u8_info
  have ht : Tryd.prog.underlying 22 = some (.slice 5) := by kernel_rfl
  have hsp : ad.spot = none := by
    unfold World.cell? at hx
    split at hx
    · split at hx
      · cases hx
      · rename_i h; simpa using h
    · cases hx
  have hS : Src Tryd.prog i.size 22 (.slice (some ad) 1 1) 1 [.int .u8 (b.toNat : Int)] w := by
    rw [h1]
    refine Src.ofSlice w ht ad 1 1 _ rfl (fun j u hj => ?_) (by intro u hu; simp at hu; subst hu; rfl)
    cases j with
    | zero =>
      have ha : ad.add 0 = ad := by unfold Addr.add; cases ad; simp_all
      rw [← hj, ha]; exact hx
    | succ j => simp at hj
  by_cases hroom : l.length + 1 ≤ cap
  · have hcell : (w.cell? ⟨g, l.length, none⟩).isSome = true := by
      unfold World.cell?
      simp only [hr]
      simp
      omega
    have hrun := run_append_room_src (P := Tryd.prog) w 22 22 ty 5 i ht hi g 0 l.length cap (.slice (some ad) 1 1) 1 [.int .u8 (b.toNat : Int)] hS hroom
      (by intro j hj; simp at hj; subst hj; rw [h1]; simpa using hcell) (by intro j hj; simp at hj; subst hj; rw [h1]; simpa using hf l.length (by omega))
    rw [h1] at hrun
    simp only [Nat.zero_add, Nat.mul_one] at hrun
    refine ⟨_, _, hrun, ⟨g, cap, cur.setIfInBounds l.length (.int .u8 (b.toNat : Int)), t, fr, by rw [List.length_append]; rfl, hg, by rw [List.length_append]; exact hroom, ?_, by simpa using hcs, fun j u hj => ?_, fun j hj => ?_⟩, ?_⟩
    · show (w.setCell _ _).heap[g]? = _
      rw [World.setCell]
      simp only [Array.getElem?_modify, if_true, hr, Option.map_some]
      rfl
    · rw [Lib.byteCells, List.map_append] at hj
      rcases Nat.lt_trichotomy j l.length with h2 | h2 | h2
      · rw [List.getElem?_append_left (by simpa using h2)] at hj
        rw [Array.getElem?_setIfInBounds_ne (by omega)]
        exact hcur j u hj
      · subst h2
        rw [List.getElem?_append_right (by simp)] at hj
        simp at hj
        rw [Array.getElem?_setIfInBounds_self_of_lt (by omega), ← hj]
      · rw [List.getElem?_eq_none (by simp; omega)] at hj; cases hj
    · exact (World.frozen?_setCell _ _ _ _).trans (hf j hj)
    · exact (Below.refl _ _).setCell hg _
  · have hlc : cap = l.length := by omega
    have hold : (Builtin.firstCells i.size l.length (.slice (some ⟨g, 0, none⟩) l.length cap)).run Tryd.prog w.drew = .ok (Lib.byteCells l).toArray w.drew := by
      refine run_firstCells_some w.drew i.size l.length ⟨g, 0, none⟩ l.length cap (Lib.byteCells l) (by rw [h1]; simp [Lib.byteCells]) (fun j u hj => ?_)
      have hh : (⟨g, 0, none⟩ : Addr).add j = ⟨g, j, none⟩ := by unfold Addr.add; simp; omega
      rw [hh]
      show w.cell? _ = _
      rw [cell_of_row _ _ _ _ _ _ hr]
      exact hcur j u hj
    have hrun := run_append_grow_src (P := Tryd.prog) w 22 22 ty 5 i (.int .u8 0) ht hi hz (some ⟨g, 0, none⟩) l.length cap (Lib.byteCells l) hold (.slice (some ad) 1 1) 1 [.int .u8 (b.toNat : Int)] hS (by omega) (by omega) (by rw [hb1]; exact growslice_fits (by omega) (by omega))
    have hgc := grownCap_ge w (l.length + 1) cap 5
    refine ⟨_, _, hrun, ⟨w.heap.size, _, _, _, _, by rw [List.length_append]; rfl, hbase, by rw [List.length_append]; exact hgc, heap_alloc_last _ _, ?_, fun j u hj => ?_, fun j hj => ?_⟩, ((Below.refl _ _).drew).alloc hbase _⟩
    · simp [Builtin.zeroCells, Lib.byteCells, Value.cells]
      omega
    · have hj' := (List.getElem?_eq_some_iff.1 hj).1
      rw [Array.getElem?_append_left (by simpa [Lib.byteCells] using hj'), List.getElem?_toArray, ← hj]
      simp [Lib.byteCells]
    · exact World.frozen?_alloc_new _ _ _ _
theorem wpList_append_byte {ops : Array Oper} {rest : List Oper} {o : Oper} {a : Act} {Q : Exit → Act → World → Prop} {w : World} (hgd : o.guard = none) (s x : Operand)
    (ho : o.op = .call { callee := .builtin .append, args := #[s, x], argTypes := #[22, 22] }) {base : Nat} {v : Value} {l : List UInt8} (hv : a.eval s = v) (hown : OB base v l w) (ad : Addr) (hx : a.eval x = .slice (some ad) 1 1)
    (b : UInt8) (hc : w.cell? ad = some (.int .u8 (b.toNat : Int))) (hbase : base ≤ w.heap.size) (hl : l.length ≤ 1073741824)
    (h : ∀ v' w', Hid (OB base v' (l ++ [b]) w') → Below base w w' → wpList Tryd.prog ops Q rest (a.put o.dst v') w') : wpList Tryd.prog ops Q (o :: rest) a w := by
  refine wpList_plain hgd fun K hK => ?_
  obtain ⟨v', w', hrun, h1, h2⟩ := run_append_byte hown o.type ad b hc hbase hl
  unfold Oper.wp
  simp [execOp, ho, resolve, invoke, builtin, hv, hx, hrun, Result.andThen]
  exact hK _ _ (h v' w' h1 h2)
/-- The bytes as a string. -/
theorem OB.string {base : Nat} {v : Value} {l : List UInt8} {w : World} (h : OB base v l w) : (convert 22 9 v).run Tryd.prog w = .ok (.string ⟨l.toArray⟩) w := by
  obtain ⟨g, cap, cur, t, fr, rfl, hg, hc, hr, hcs, hcur, hf⟩ := h
  refine Go.run_convert_bytes_back w 22 9 5 ⟨g, 0, none⟩ cap l (by kernel_rfl) (by kernel_rfl) (by kernel_rfl) ?_
  intro j hj
  have hh : (⟨g, 0, none⟩ : Addr).add j = ⟨g, j, none⟩ := by unfold Addr.add; simp; omega
  rw [hh, cell_of_row _ _ _ _ _ _ hr]
  exact hcur j _ (by simp [Lib.byteCells, hj])
/-- '[]byte(s)', as a step of a list. -/
theorem wpList_convert_bytes {ops : Array Oper} {rest : List Oper} {o : Oper} {a : Act} {Q : Exit → Act → World → Prop} {w : World} (hgd : o.guard = none) (x : Operand) (ho : o.op = .convert 9 22 x) (s : ByteArray) (hx : a.eval x = .string s)
    (h : ∀ v W, Hid (OB w.heap.size v s.data.toList W) → Below w.heap.size w W → wpList Tryd.prog ops Q rest (a.put o.dst v) W) : wpList Tryd.prog ops Q (o :: rest) a w := by
  refine wpList_plain hgd fun K hK => ?_
  unfold Oper.wp execOp
  simp only [ho, hx, Sem.run_bind, Sem.run_pure, Result.andThen_ok, Lib.run_convert_string_bytes w 9 22 5 s (show Tryd.prog.underlying 9 = some .string by kernel_rfl) (show Tryd.prog.underlying 22 = some (.slice 5) by kernel_rfl) (show Tryd.prog.underlying 5 = some (.int .u8) by kernel_rfl), Oper.upon]
  exact hK _ _ (h _ _ (Lib.hid (OB.conv w _ s)) ⟨rfl, rfl, rfl, by rw [Lib.bytesWorld_size]; omega, fun k hk => Lib.bytesWorld_at_old w _ s k hk⟩)
/-! A digest, whole. -/
theorem all_bytes (l : List UInt8) : ((Lib.byteCells l).toArray).all (·.oneCell') = true := all_oneCell_toArray (Lib.byteCells_one _)
theorem wpList_load_dig {ops : Array Oper} {rest : List Oper} {o : Oper} {a : Act} {Q : Exit → Act → World → Prop} {w : World} (hgd : o.guard = none) (x : Operand) (ho : o.op = .load 24 x) (b : Nat) (hx : a.eval x = .pointer (some ⟨b, 0, none⟩))
    (l : List UInt8) (hl : l.length = 32) (t : TypeId) (fr : Nat × Nat) (hr : w.heap[b]? = some (.cells (Lib.byteCells l).toArray t fr)) (h : wpList Tryd.prog ops Q rest (a.put o.dst (.agg (Lib.byteCells l).toArray)) w) : wpList Tryd.prog ops Q (o :: rest) a w := by
  refine wpList_load_mid hgd 24 x ho b 0 hx (Lib.byteCells l) (.array 32 5) ?_ (by kernel_rfl) rfl (by rw [Lib.byteCells, List.length_map, hl]; kernel_rfl) h
  intro j v hv
  rw [Nat.zero_add, cell_of_row _ _ _ _ _ _ hr]
  simpa using hv
theorem wpList_store_dig {ops : Array Oper} {rest : List Oper} {o : Oper} {a : Act} {Q : Exit → Act → World → Prop} {w : World} (hgd : o.guard = none) (x y : Operand) (ho : o.op = .store 24 x y) (b : Nat) (hx : a.eval x = .pointer (some ⟨b, 0, none⟩))
    (l : List UInt8) (hl : l.length = 32) (hy : a.eval y = .agg (Lib.byteCells l).toArray) (old : Array Value) (t : TypeId) (hr : w.heap[b]? = some (.cells old t (0, 0))) (hs : old.size = 32)
    (h : ∀ w', Hid (w'.heap[b]? = some (.cells (Lib.byteCells l).toArray t (0, 0))) → (∀ k, k ≠ b → w'.heap[k]? = w.heap[k]?) → (∀ {B : Nat} {w0 : World}, Below B w0 w → B ≤ b → Below B w0 w') → wpList Tryd.prog ops Q rest (a.put o.dst undef) w') : wpList Tryd.prog ops Q (o :: rest) a w := by
  refine wpList_plain hgd fun _ hK => ?_
  have hX : ((Lib.byteCells l).toArray).size = 32 := by rw [List.size_toArray, Lib.byteCells, List.length_map, hl]
  unfold Oper.wp execOp
  simp only [ho, hx, hy, Instr.storeAt, Instr.sureAddr, Sem.run_bind, Sem.run_pure, Result.andThen_ok, run_storeVar_row w _ _ _ _ _ hr (show (Tryd.prog.info? 24).map (·.size) = some ((Lib.byteCells l).toArray).size by rw [hX]; kernel_rfl) (by rw [hX, hs]) (all_bytes l)]
  refine hK _ _ (h _ (setRow_heap w b _ _ _ _ hr) (fun k hk => setRow_other _ _ _ _ hk) (fun {B w0} hb hB => hb.trans ⟨rfl, rfl, rfl, by simp, fun k hk => setRow_other _ _ _ _ (by omega)⟩))
theorem run_load_dig {w : World} {b : Nat} {l : List UInt8} {t : TypeId} {fr : Nat × Nat} (hr : w.heap[b]? = some (.cells (Lib.byteCells l).toArray t fr)) (hl : l.length = 32) :
    (loadVar 24 ⟨b, 0, none⟩).run Tryd.prog w = .ok (.agg (Lib.byteCells l).toArray) w := by
  refine run_loadVar_mid w b 0 24 (Lib.byteCells l) (.array 32 5) ?_ (by kernel_rfl) rfl (by rw [Lib.byteCells, List.length_map, hl]; kernel_rfl)
  intro j v hv
  rw [Nat.zero_add, cell_of_row _ _ _ _ _ _ hr]
  simpa using hv
theorem run_index_dig (l : List UInt8) (hl : l.length = 32) (j : Nat) (hj : j < 32) (x : UInt8) (hx : l[j]? = some x) (w : World) :
    (Instr.index 24 (.agg (Lib.byteCells l).toArray) (.int .i64 (j : Int))).run Tryd.prog w = .ok (.int .u8 (x.toNat : Int)) w := by
  have hcl : (Lib.byteCells l)[j]? = some (.int .u8 (x.toNat : Int)) := by rw [Lib.byteCells, List.getElem?_map, hx]; rfl
  simp [Instr.index, run_underlying (show Tryd.prog.underlying 24 = some (.array 32 5) by kernel_rfl), asIntOf, hj, Tryd.sizeOf5, part, Tryd.isAgg5, hcl]
end Go.Proofs.YtldpnmebjnkjeaaDoor
namespace Go.Proofs.YtldpnmebjnkjeaaDoor.Sha
open Go.RowKit Go.Proofs.YtldpnmebjnkjeaaDoorW.PrintWords
set_option linter.unusedVariables false
set_option linter.unusedSimpArgs false

def tailN (n j : Nat) : List UInt8 := 128 :: List.replicate ((119 - n % 64) % 64) 0 ++ (be8 (8 * n)).take j
def bt8 (n j : Nat) : UInt8 := UInt8.ofNat (8 * n / 2 ^ (56 - 8 * j))
theorem bt8_eq (n j : Nat) : (n : Int) * 8 / 2 ^ (56 - 8 * j) % 256 = ((bt8 n j).toNat : Int) := by
  unfold bt8
  rw [UInt8.toNat_ofNat', Nat.mul_comm 8 n, Int.natCast_emod, Int.natCast_ediv, Int.natCast_mul, Int.natCast_pow]
  rfl
theorem tailN_len (n j : Nat) (h : j ≤ 8) : (tailN n j).length = 1 + (119 - n % 64) % 64 + j := by simp [tailN, be8]; omega
theorem tailN_next (n j : Nat) (h : j < 8) : tailN n j ++ [bt8 n j] = tailN n (j + 1) := by
  have hl : j < (be8 (8 * n)).length := by simp [be8]; exact h
  unfold tailN
  rw [List.append_assoc, List.take_succ_eq_append_getElem hl]
  congr 2
  simp [be8, bt8]
theorem tailN_all (n : Nat) : tailN n 8 = tailL n := by
  unfold tailN tailL
  rw [List.take_of_length_le (by simp [be8])]
  rfl
theorem set_row {w : World} {g : Nat} {L : List Value} {t : TypeId} {fr : Nat × Nat} (h : w.heap[g]? = some (.cells L.toArray t fr)) (i : Nat) (x : Value) : (w.setCell ⟨g, i, none⟩ x).heap[g]? = some (.cells (L.set i x).toArray t fr) := by
  rw [World.setCell]
  simp only [Array.getElem?_modify, if_true, h, Option.map_some]
  simp
/-- All ten cells of a hash written. -/
theorem set_ten {w : World} {g : Nat} {L : List Value} {t : TypeId} {fr : Nat × Nat} (h : w.heap[g]? = some (.cells L.toArray t fr)) (hl : L.length = 10) (x0 x1 x2 x3 x4 x5 x6 x7 x8 x9 : Value) :
    ((((((((((w.setCell ⟨g, 0, none⟩ x0).setCell ⟨g, 1, none⟩ x1).setCell ⟨g, 2, none⟩ x2).setCell ⟨g, 3, none⟩ x3).setCell ⟨g, 4, none⟩ x4).setCell ⟨g, 5, none⟩ x5).setCell ⟨g, 6, none⟩ x6).setCell ⟨g, 7, none⟩ x7).setCell ⟨g, 8, none⟩ x8).setCell ⟨g, 9, none⟩ x9).heap[g]? = some (.cells #[x0, x1, x2, x3, x4, x5, x6, x7, x8, x9] t fr) := by
  rw [set_row (set_row (set_row (set_row (set_row (set_row (set_row (set_row (set_row (set_row h 0 x0) 1 x1) 2 x2) 3 x3) 4 x4) 5 x5) 6 x6) 7 x7) 8 x8) 9 x9]
  match L, hl with
  | [a0, a1, a2, a3, a4, a5, a6, a7, a8, a9], _ => rfl
/-- The first i bytes of the digest. -/
def dN (u : V8) (i : Nat) : List UInt8 := (digL u).take i ++ List.replicate (32 - i) 0
theorem dN_len (u : V8) (i : Nat) (h : i ≤ 32) : (dN u i).length = 32 := by simp [dN, digL]; omega
theorem dN_next (u : V8) (i : Nat) (h : i < 32) : (dN u i).set i (dig u i) = dN u (i + 1) := by
  have hl : i < (digL u).length := by rw [digL_len]; exact h
  unfold dN
  rw [List.set_append_right _ _ (by rw [List.length_take]; omega), List.length_take, show i - min i (digL u).length = 0 by omega, show 32 - i = (32 - (i + 1)) + 1 by omega, List.replicate_succ, List.set_cons_zero, List.take_succ_eq_append_getElem hl, List.append_assoc]
  congr 2
  simp [digL]
theorem dN_all (u : V8) : dN u 32 = digL u := by
  unfold dN
  rw [List.take_of_length_le (by rw [digL_len]; omega)]
  simp
theorem dN_zero (u : V8) : dN u 0 = List.replicate 32 0 := rfl
theorem dN_cells (u : V8) : (Lib.byteCells (dN u 0)).toArray = Array.replicate 32 (.int .u8 0) := by rw [dN_zero]; rfl
theorem dig_eq (u : V8) (i : Nat) : ((u.list.getD (i / 4) 0).toNat : Int) / 2 ^ (24 - i % 4 * 8) % 256 = ((dig u i).toNat : Int) := by
  unfold dig
  rw [UInt8.toNat_ofNat', Nat.mul_comm 8, Int.natCast_emod, Int.natCast_ediv, Int.natCast_pow]
  rfl
theorem repeat_one (b : UInt8) : ∀ n, Lib.repeatL (⟨#[b]⟩ : ByteArray).data.toList n = List.replicate n b := by
  intro n
  induction n with
  | zero => rfl
  | succ n ih => rw [List.replicate_succ, ← ih]; rfl
set_option maxHeartbeats 8000000 in
set_option maxRecDepth 100000 in
theorem ended_calls (v : V8) (rest : ByteArray) (n : Nat) (w : World) (hK : KAt w) (hr : rest.size ≤ 1048576) (hn : n ≤ 4294967296) :
    Calls Tryd.prog 52 #[hashV v rest n] w fun e w' => e = .returned (.agg (Lib.byteCells (endP v rest.data.toList n)).toArray) ∧ Below w.heap.size w w' := by
  unfold hashV
  replace hK := Lib.hid hK
  go_enter Tryd.func52, Tryd.ntmps52
  go_wp2_with fail
  have hmz : ((119 - (n : Int)) % 64) = (((119 - n % 64) % 64 : Nat) : Int) := by omega
  rw [hmz]
  clear hmz
  generalize hw1 : (w.alloc _).alloc _ = w1
  have HX : Hid (RowX 31 w.heap.size v.list [.string rest, .int .i64 n] w1) := by
    rw [← hw1]; refine Lib.hid ?_
    unfold RowX
    rw [Below.heap_alloc _ _ _ (by simp)]
    exact heap_alloc_last _ _
  have HZ : Hid (w1.heap[w.heap.size + 1]? = some (.cells (Array.replicate 32 (.int .u8 0)) 24 (0, 0))) := by
    rw [← hw1]; exact heap_at1 _ _ _
  have HB : Hid (Below w.heap.size w w1) := by
    rw [← hw1]; exact Lib.hid (((Below.refl _ _).alloc (Nat.le_refl _) _).alloc (by simp) _)
  have HS : Hid (w.heap.size + 2 ≤ w1.heap.size) := by rw [← hw1]; exact Lib.hid (by simp)
  clear hw1
  refine (Tryd.strings_Repeat ⟨#[0]⟩ ((119 - n % 64) % 64) w1 (by omega) (by show 1 * _ ≤ _; omega)).mono ?_
  rintro e w2 ⟨rfl, hb⟩
  replace HX : Hid (RowX 31 w.heap.size v.list [.string rest, .int .i64 n] w2) := Lib.hid (blk_below HX.out hb)
  replace HZ : Hid (w2.heap[w.heap.size + 1]? = some (.cells (Array.replicate 32 (.int .u8 0)) 24 (0, 0))) := Lib.hid (blk_below HZ.out hb)
  replace HB : Hid (Below w.heap.size w w2) := Lib.hid (HB.out.trans (Below.mono hb HB.out.size))
  replace HS : Hid (w.heap.size + 2 ≤ w2.heap.size) := Lib.hid (Nat.le_trans HS.out hb.size)
  clear hb w1
  have hrz : (Lib.repeatL (⟨#[0]⟩ : ByteArray).data.toList ((119 - n % 64) % 64)) = List.replicate ((119 - n % 64) % 64) 0 := repeat_one _ _
  rw [hrz]
  clear hrz
  generalize hZ : (⟨(List.replicate ((119 - n % 64) % 64) (0 : UInt8)).toArray⟩ : ByteArray) = zs
  have hzl : zs.size = (119 - n % 64) % 64 := by rw [← hZ]; simp [ByteArray.size]
  have hlt : (9223372036854775807 < ((⟨#[128]⟩ : ByteArray).size : Int) + (zs.size : Int)) = False := eq_false (by rw [show ((⟨#[128]⟩ : ByteArray).size) = 1 from rfl]; omega)
  have hz1 : zs.size ≤ 64 := by omega
  replace hzl := Lib.hid hzl
  replace hZ := Lib.hid hZ
  go_wp2_with (refine wpList_convert_bytes (o := ⟨some 19, _, _, _, _, _⟩) rfl (.tmp 18) rfl (⟨#[128]⟩ ++ zs) rfl ?_; intro v4 w3 hown hb3)
  have hT0 : (⟨#[128]⟩ ++ zs : ByteArray).data.toList = 128 :: List.replicate ((119 - n % 64) % 64) 0 := by
    rw [ByteArray.data_append, Array.toList_append, ← hZ.out]
    rfl
  rw [hT0, show (128 :: List.replicate ((119 - n % 64) % 64) 0 : List UInt8) = tailN n 0 by simp [tailN]] at hown
  replace hT0 := Lib.hid hT0
  replace HX : Hid (RowX 31 w.heap.size v.list [.string rest, .int .i64 n] w3) := Lib.hid (blk_below HX.out hb3)
  replace HZ : Hid (w3.heap[w.heap.size + 1]? = some (.cells (Array.replicate 32 (.int .u8 0)) 24 (0, 0))) := Lib.hid (blk_below HZ.out hb3)
  replace HB : Hid (Below w.heap.size w w3) := Lib.hid (HB.out.trans (Below.mono hb3 HB.out.size))
  have HO : Hid (OB (w.heap.size + 2) v4 (tailN n 0) w3) := Lib.hid (hown.out.lower HS.out)
  replace HS : Hid (w.heap.size + 2 ≤ w3.heap.size) := Lib.hid (Nat.le_trans HS.out hb3.size)
  clear hb3 hown hlt
  go_loopw [4, 20] (fun x i wr => ∃ j : Nat, j ≤ 8 ∧ i = .int .i64 j ∧ Hid (OB (w.heap.size + 2) x (tailN n j) wr) ∧ Hid (RowX 31 w.heap.size v.list [.string rest, .int .i64 n] wr) ∧ Hid (wr.heap[w.heap.size + 1]? = some (.cells (Array.replicate 32 (.int .u8 0)) 24 (0, 0))) ∧ Hid (Below w.heap.size w wr) ∧ Hid (w.heap.size + 2 ≤ wr.heap.size)) (fun _ i _ => 8 - (intOf i).toNat)
  case atStart => exact ⟨0, by omega, rfl, HO, HX, HZ, HB, HS⟩
  case round =>
    clear HO HX HZ HB HS
    rename_i x4 _ _
    obtain ⟨j, hj, rfl, HO, HX, HZ, HB, HS⟩ := hrel
    by_cases h8 : j < 8
    · have k8 : (j : Int) < 8 := by omega
      have hS := HS.out
      have hcb : (n : Int) * 8 / 2 ^ (56 - 8 * j) % 256 = ((bt8 n j).toNat : Int) := bt8_eq n j
      have hlb : (tailN n j).length ≤ 1073741824 := by rw [tailN_len n j (by omega)]; omega
      have Hc : (wr.alloc (.cells #[.int .u8 ((n : Int) * 8 / 2 ^ (56 - 8 * j) % 256)] 5)).cell? ⟨wr.heap.size, 0, none⟩ = some (.int .u8 ((bt8 n j).toNat : Int)) := by
        rw [hcb, cell_of_row _ _ _ _ _ _ (heap_alloc_last _ _)]; rfl
      replace Hc := Lib.hid Hc
      clear hcb
      replace hlb := Lib.hid hlb
      go_wp2_with (refine wpList_append_byte (o := ⟨some 31, _, _, _, _, _⟩) rfl (.tmp 23) (.tmp 30) rfl rfl (HO.out.alloc _) ⟨wr.heap.size, 0, none⟩ rfl (bt8 n j) Hc.out (by simp; omega) hlb.out ?_; intro v5 w5 hown5 hb5)
      go_roundw
      case rel =>
        rw [tailN_next n j h8] at hown5
        have hba : Below (w.heap.size + 2) wr w5 := ((Below.refl _ _).alloc hS _).trans hb5
        refine ⟨j + 1, by omega, by go_num, hown5, Lib.hid ?_, Lib.hid ?_, Lib.hid (HB.out.trans (hba.mono (by omega))), Lib.hid (Nat.le_trans hS hba.size)⟩
        · unfold RowX; rw [hba.block _ (by omega)]; exact HX.out
        · rw [hba.block _ (by omega)]; exact HZ.out
      case measure => simp [intOf]; omega
    · obtain rfl : j = 8 := by omega
      clear hj h8
      have hT8 : tailN n 8 = tailL n := tailN_all n
      rw [hT8] at HO
      have hcs := HO.out.string
      obtain ⟨g4, c4, rfl⟩ := HO.out.slice
      have x0 : wr.cell? ⟨w.heap.size, 0, none⟩ = some (.int .u32 (v.a.toNat : Int)) := HX.out.cell 0 (by show 0 < 8; omega)
      have x1 : wr.cell? ⟨w.heap.size, 1, none⟩ = some (.int .u32 (v.b.toNat : Int)) := HX.out.cell 1 (by show 1 < 8; omega)
      have x2 : wr.cell? ⟨w.heap.size, 2, none⟩ = some (.int .u32 (v.c.toNat : Int)) := HX.out.cell 2 (by show 2 < 8; omega)
      have x3 : wr.cell? ⟨w.heap.size, 3, none⟩ = some (.int .u32 (v.d.toNat : Int)) := HX.out.cell 3 (by show 3 < 8; omega)
      have x4 : wr.cell? ⟨w.heap.size, 4, none⟩ = some (.int .u32 (v.e.toNat : Int)) := HX.out.cell 4 (by show 4 < 8; omega)
      have x5 : wr.cell? ⟨w.heap.size, 5, none⟩ = some (.int .u32 (v.f.toNat : Int)) := HX.out.cell 5 (by show 5 < 8; omega)
      have x6 : wr.cell? ⟨w.heap.size, 6, none⟩ = some (.int .u32 (v.g.toNat : Int)) := HX.out.cell 6 (by show 6 < 8; omega)
      have x7 : wr.cell? ⟨w.heap.size, 7, none⟩ = some (.int .u32 (v.h.toNat : Int)) := HX.out.cell 7 (by show 7 < 8; omega)
      have x8 : wr.cell? ⟨w.heap.size, 8, none⟩ = some (.string rest) := by rw [cell_of_row _ _ _ _ _ _ HX.out]; rfl
      have x9 : wr.cell? ⟨w.heap.size, 9, none⟩ = some (.int .i64 (n : Int)) := by rw [cell_of_row _ _ _ _ _ _ HX.out]; rfl
      have xf := HX.out.f
      go_wp2_with fail
      have hts : (⟨(tailL n).toArray⟩ : ByteArray).size ≤ 4294967296 := by
        have := tailL_len n
        show (tailL n).toArray.size ≤ _
        rw [List.size_toArray]; omega
      replace hts := Lib.hid hts
      refine (fed_calls v rest n ⟨(tailL n).toArray⟩ wr (hK.out.below HB.out) (by omega) hts.out (by omega) (by omega)).mono ?_
      rintro e w6 ⟨rfl, hb⟩
      clear x0 x1 x2 x3 x4 x5 x6 x7 x8 x9 xf hcs
      replace HX : Hid (RowX 31 w.heap.size v.list [.string rest, .int .i64 n] w6) := Lib.hid (blk_below HX.out hb)
      replace HZ : Hid (w6.heap[w.heap.size + 1]? = some (.cells (Array.replicate 32 (.int .u8 0)) 24 (0, 0))) := Lib.hid (blk_below HZ.out hb)
      replace HB : Hid (Below w.heap.size w w6) := Lib.hid (HB.out.trans (Below.mono hb HB.out.size))
      replace HS : Hid (w.heap.size + 2 ≤ w6.heap.size) := Lib.hid (Nat.le_trans HS.out hb.size)
      clear hb HO
      have hE : endP v rest.data.toList n = digL (feedP v (rest.data.toList ++ tailL n)).1 := rfl
      unfold fedV hashV
      rw [show (⟨(tailL n).toArray⟩ : ByteArray).data.toList = tailL n from rfl]
      generalize (feedP v (rest.data.toList ++ tailL n)).2 = r6
      generalize (feedP v (rest.data.toList ++ tailL n)).1 = u at hE ⊢
      generalize (n : Int) + ((⟨(tailL n).toArray⟩ : ByteArray).size : Int) = N6
      replace hE := Lib.hid hE
      have x0 : w6.cell? ⟨w.heap.size, 0, none⟩ = some (.int .u32 (v.a.toNat : Int)) := HX.out.cell 0 (by show 0 < 8; omega)
      have x1 : w6.cell? ⟨w.heap.size, 1, none⟩ = some (.int .u32 (v.b.toNat : Int)) := HX.out.cell 1 (by show 1 < 8; omega)
      have x2 : w6.cell? ⟨w.heap.size, 2, none⟩ = some (.int .u32 (v.c.toNat : Int)) := HX.out.cell 2 (by show 2 < 8; omega)
      have x3 : w6.cell? ⟨w.heap.size, 3, none⟩ = some (.int .u32 (v.d.toNat : Int)) := HX.out.cell 3 (by show 3 < 8; omega)
      have x4 : w6.cell? ⟨w.heap.size, 4, none⟩ = some (.int .u32 (v.e.toNat : Int)) := HX.out.cell 4 (by show 4 < 8; omega)
      have x5 : w6.cell? ⟨w.heap.size, 5, none⟩ = some (.int .u32 (v.f.toNat : Int)) := HX.out.cell 5 (by show 5 < 8; omega)
      have x6 : w6.cell? ⟨w.heap.size, 6, none⟩ = some (.int .u32 (v.g.toNat : Int)) := HX.out.cell 6 (by show 6 < 8; omega)
      have x7 : w6.cell? ⟨w.heap.size, 7, none⟩ = some (.int .u32 (v.h.toNat : Int)) := HX.out.cell 7 (by show 7 < 8; omega)
      have x8 : w6.cell? ⟨w.heap.size, 8, none⟩ = some (.string rest) := by rw [cell_of_row _ _ _ _ _ _ HX.out]; rfl
      have x9 : w6.cell? ⟨w.heap.size, 9, none⟩ = some (.int .i64 (n : Int)) := by rw [cell_of_row _ _ _ _ _ _ HX.out]; rfl
      have xf := HX.out.f
      have hS := HS.out
      go_wp2_with fail
      generalize hwA : World.setCell _ ⟨w.heap.size, 9, none⟩ _ = wA
      have HA : Hid (RowX 31 w.heap.size u.list [.string ⟨r6.toArray⟩, .int .i64 N6] wA) := by
        rw [← hwA]; refine Lib.hid ?_
        exact set_ten HX.out rfl _ _ _ _ _ _ _ _ _ _
      have HBA : Hid (Below w.heap.size w wA) := by
        rw [← hwA]; refine Lib.hid ?_
        repeat (refine Below.setCell ?_ (by simp) _)
        exact HB.out
      have HZA : Hid (wA.heap[w.heap.size + 1]? = some (.cells (Array.replicate 32 (.int .u8 0)) 24 (0, 0))) := by
        rw [← hwA]; refine Lib.hid ?_
        iterate 10 rw [Below.heap_setCell _ _ _ _ (by simp)]
        exact HZ.out
      have hsA : w6.heap.size = wA.heap.size := by rw [← hwA]; simp [World.setCell]
      rw [hsA] at hS ⊢
      clear hwA x0 x1 x2 x3 x4 x5 x6 x7 x8 x9 xf HX HB HZ HS hsA
      replace hS := Lib.hid hS
      generalize hwB : wA.alloc _ = wB
      have HD : Hid (wB.heap[wA.heap.size]? = some (.cells (Lib.byteCells (dN u 0)).toArray 24 (0, 0))) := by
        rw [← hwB, dN_cells]; exact heap_alloc_last _ _
      have hBB : Below wA.heap.size wA wB := by rw [← hwB]; exact (Below.refl _ _).alloc (Nat.le_refl _) _
      have HX : Hid (RowX 31 w.heap.size u.list [.string ⟨r6.toArray⟩, .int .i64 N6] wB) := Lib.hid (blk_below HA.out hBB)
      have HZ : Hid (wB.heap[w.heap.size + 1]? = some (.cells (Array.replicate 32 (.int .u8 0)) 24 (0, 0))) := Lib.hid (blk_below HZA.out hBB)
      have HB : Hid (Below w.heap.size w wB) := Lib.hid (HBA.out.trans (Below.mono hBB HBA.out.size))
      generalize wA.heap.size = bd at HD hS ⊢
      clear hwB hBB HA HBA HZA
      go_loopw [37] (fun i wx => ∃ j : Nat, j ≤ 32 ∧ i = .int .i64 j ∧ Hid (wx.heap[bd]? = some (.cells (Lib.byteCells (dN u j)).toArray 24 (0, 0))) ∧ Hid (RowX 31 w.heap.size u.list [.string ⟨r6.toArray⟩, .int .i64 N6] wx) ∧ Hid (wx.heap[w.heap.size + 1]? = some (.cells (Array.replicate 32 (.int .u8 0)) 24 (0, 0))) ∧ Hid (Below w.heap.size w wx)) (fun i _ => 32 - (intOf i).toNat)
      case atStart => exact ⟨0, by omega, rfl, HD, HX, HZ, HB⟩
      case round =>
        clear HD HX HZ HB
        obtain ⟨j, hj, rfl, HD, HX, HZ, HB⟩ := hrel
        by_cases h32 : j < 32
        · have k32 : (j : Int) < 32 := by omega
          have q0 : (j : Int) / 4 < 8 := by omega
          have c0 := HX.out.cell (j / 4) (by show j / 4 < 8; omega)
          have f0 : ∀ i, wr.frozen? ⟨bd, i, none⟩ = false := fun i => frozen_of_row wr bd i _ _ HD.out
          have hjl : j < (Lib.byteCells (dN u j)).length := by rw [Lib.byteCells, List.length_map, dN_len u j (by omega)]; exact h32
          obtain ⟨y, hy⟩ : ∃ y, wr.cell? ⟨bd, j, none⟩ = some y := ⟨_, by rw [cell_of_row _ _ _ _ _ _ HD.out, List.getElem?_toArray, List.getElem?_eq_getElem hjl]⟩
          have hdg := dig_eq u j
          replace hdg := Lib.hid hdg
          replace hjl := Lib.hid hjl
          generalize hgu : u.list.getD (j / 4) 0 = uj at c0
          replace hgu := Lib.hid hgu
          go_wp2_with fail
          rw [← hgu.out, hdg.out]
          go_roundw
          case rel =>
            refine ⟨j + 1, by omega, by go_num, Lib.hid ?_, Lib.hid ?_, Lib.hid ?_, Lib.hid ?_⟩
            · rw [set_row HD.out j, ← dN_next u j h32]
              simp [Lib.byteCells, List.map_set]
            · unfold RowX; rw [Below.heap_setCell _ _ _ _ (by show _ ≠ bd; have := hS.out; omega)]; exact HX.out
            · rw [Below.heap_setCell _ _ _ _ (by show _ ≠ bd; have := hS.out; omega)]; exact HZ.out
            · exact HB.out.setCell (by show _ ≤ bd; have := hS.out; omega) _
          case measure => simp [intOf]; omega
        · obtain rfl : j = 32 := by omega
          clear hj h32
          rw [dN_all] at HD
          have hl32 := digL_len u
          replace hl32 := Lib.hid hl32
          replace hE := Lib.hid hE.out
          generalize digL u = D at HD hl32 hE
          go_wp2_with (first | (refine wpList_load_dig (o := ⟨some 54, _, _, _, _, _⟩) rfl (.tmp 6) rfl bd rfl D hl32.out _ _ HD.out ?_) | (refine wpList_store_dig rfl (.tmp 2) (.tmp 54) rfl (w.heap.size + 1) rfl D hl32.out rfl _ _ HZ.out (by simp) ?_; intro w9 h9 _ hB9))
          refine bodyPost_ret (v := .agg (Lib.byteCells D).toArray) ?_ rfl ⟨by rw [hE.out], hB9 HB.out (by omega)⟩
          simp [results, Tryd.results52, asAddr, run_load_dig h9.out hl32.out, Act.put]
end Go.Proofs.YtldpnmebjnkjeaaDoor.Sha
namespace Go.Proofs.YtldpnmebjnkjeaaDoor.Sha
open Go.RowKit Go.Proofs.YtldpnmebjnkjeaaDoorW.PrintWords
set_option linter.unusedVariables false
set_option linter.unusedSimpArgs false

def zeroHash : Value := .agg #[.int .u32 0, .int .u32 0, .int .u32 0, .int .u32 0, .int .u32 0, .int .u32 0, .int .u32 0, .int .u32 0, .string ⟨#[]⟩, .int .i64 0]
def zeroDig : Value := .agg (Lib.byteCells (List.replicate 32 0)).toArray
/-- May a hash be? -/
def rightH (r : Nat) (n : Int) : Bool := decide (0 ≤ n) && decide (n ≤ 1048576) && decide ((r : Int) = n.tmod 64)
set_option maxHeartbeats 4000000 in
set_option maxRecDepth 100000 in
theorem begin_calls (w : World) : Calls Tryd.prog 16 #[] w fun e w' => e = .returned (hashV v0 ⟨#[]⟩ 0) ∧ Below w.heap.size w w' := by
  go_enter Tryd.func16, Tryd.ntmps16
  go_wp2_with fail
  refine bodyPost_ret (v := hashV v0 ⟨#[]⟩ 0) ?_ rfl ⟨rfl, ?_⟩
  · simp [results, Tryd.results16, go_sem, hashV, v0]
  · exact (Below.refl _ _).alloc (Nat.le_refl _) _
set_option maxHeartbeats 4000000 in
set_option maxRecDepth 100000 in
theorem isHash_calls (v : V8) (rest : ByteArray) (n : Int) (w : World) :
    Calls Tryd.prog 53 #[hashV v rest n] w fun e w' => e = .returned (.bool (rightH rest.size n)) ∧ Below w.heap.size w w' := by
  unfold hashV
  by_cases h0 : 0 ≤ n
  · by_cases h1 : n ≤ 1048576
    · have hr : rightH rest.size n = decide ((rest.size : Int) = n % 64) := by
        unfold rightH; rw [Int.tmod_eq_emod_of_nonneg h0]; simp [h0, h1]
      rw [hr]
      clear hr
      go_enter Tryd.func53, Tryd.ntmps53
      go_wp2_with fail
      go_ret
      exact ⟨rfl, (Below.refl _ _).alloc (Nat.le_refl _) _⟩
    · have hr : rightH rest.size n = false := by unfold rightH; simp [h1]
      rw [hr]
      clear hr
      have h1b : decide (n ≤ 1048576) = false := by simpa using h1
      go_enter Tryd.func53, Tryd.ntmps53
      go_wp2_with fail
      go_ret
      exact ⟨rfl, (Below.refl _ _).alloc (Nat.le_refl _) _⟩
  · have hr : rightH rest.size n = false := by unfold rightH; simp [h0]
    rw [hr]
    clear hr
    have h0b : decide (0 ≤ n) = false := by simpa using h0
    go_enter Tryd.func53, Tryd.ntmps53
    go_wp2_with fail
    go_ret
    exact ⟨rfl, (Below.refl _ _).alloc (Nat.le_refl _) _⟩
/-- A world with an argument's block and a result's block, behind a call. -/
theorem two_blocks {w w1 : World} {X Z : Array Value} {T U : TypeId} (hb : Below ((w.alloc (.cells X T)).alloc (.cells Z U)).heap.size ((w.alloc (.cells X T)).alloc (.cells Z U)) w1) :
    w1.heap[w.heap.size]? = some (.cells X T (0, 0)) ∧ w1.heap[w.heap.size + 1]? = some (.cells Z U (0, 0)) ∧ Below w.heap.size w w1 := by
  refine ⟨?_, ?_, ?_⟩
  · rw [hb.block _ (by simp; omega), Below.heap_alloc _ _ _ (by simp)]; exact heap_alloc_last _ _
  · rw [hb.block _ (by simp)]; exact heap_at1 _ _ _
  · exact (((Below.refl _ _).alloc (Nat.le_refl _) _).alloc (by simp) _).trans (hb.mono (by simp; omega))
set_option maxHeartbeats 4000000 in
set_option maxRecDepth 100000 in
theorem feed_bad (v : V8) (rest : ByteArray) (n : Int) (text : ByteArray) (w : World) (hK : KAt w) (hR : rightH rest.size n = false) :
    Calls Tryd.prog 14 #[hashV v rest n, .string text] w fun e w' => e = .returned (.tuple #[zeroHash, .int .i64 1]) ∧ Below w.heap.size w w' := by
  unfold hashV
  replace hK := Lib.hid hK
  replace hR := Lib.hid hR
  go_enter Tryd.func14, Tryd.ntmps14
  go_wp2_with fail
  refine (isHash_calls v rest n _).mono ?_
  rintro e w1 ⟨rfl, hb⟩
  rw [hR.out]
  obtain ⟨HX, HZ, HB⟩ := two_blocks hb
  have hK1 := Lib.hid (hK.out.below HB)
  have hS := Lib.hid (show w.heap.size + 2 ≤ w1.heap.size by have := hb.size; simp at this; omega)
  clear hb
  replace HX := Lib.hid HX
  replace HZ := Lib.hid HZ
  replace HB := Lib.hid HB
  have z0 : w1.cell? ⟨w.heap.size + 1, 0, none⟩ = some (.int .u32 0) := by rw [cell_of_row _ _ _ _ _ _ HZ.out]; rfl
  have z1 : w1.cell? ⟨w.heap.size + 1, 1, none⟩ = some (.int .u32 0) := by rw [cell_of_row _ _ _ _ _ _ HZ.out]; rfl
  have z2 : w1.cell? ⟨w.heap.size + 1, 2, none⟩ = some (.int .u32 0) := by rw [cell_of_row _ _ _ _ _ _ HZ.out]; rfl
  have z3 : w1.cell? ⟨w.heap.size + 1, 3, none⟩ = some (.int .u32 0) := by rw [cell_of_row _ _ _ _ _ _ HZ.out]; rfl
  have z4 : w1.cell? ⟨w.heap.size + 1, 4, none⟩ = some (.int .u32 0) := by rw [cell_of_row _ _ _ _ _ _ HZ.out]; rfl
  have z5 : w1.cell? ⟨w.heap.size + 1, 5, none⟩ = some (.int .u32 0) := by rw [cell_of_row _ _ _ _ _ _ HZ.out]; rfl
  have z6 : w1.cell? ⟨w.heap.size + 1, 6, none⟩ = some (.int .u32 0) := by rw [cell_of_row _ _ _ _ _ _ HZ.out]; rfl
  have z7 : w1.cell? ⟨w.heap.size + 1, 7, none⟩ = some (.int .u32 0) := by rw [cell_of_row _ _ _ _ _ _ HZ.out]; rfl
  have z8 : w1.cell? ⟨w.heap.size + 1, 8, none⟩ = some (.string ⟨#[]⟩) := by rw [cell_of_row _ _ _ _ _ _ HZ.out]; rfl
  have z9 : w1.cell? ⟨w.heap.size + 1, 9, none⟩ = some (.int .i64 0) := by rw [cell_of_row _ _ _ _ _ _ HZ.out]; rfl
  have zf : ∀ i, w1.frozen? ⟨w.heap.size + 1, i, none⟩ = false := fun i => frozen_of_row w1 (w.heap.size + 1) i _ _ HZ.out
  go_wp2_with fail
  refine bodyPost_ret (v := .tuple #[zeroHash, .int .i64 1]) (by simp [results, Tryd.results14, go_sem, zeroHash, z0, z1, z2, z3, z4, z5, z6, z7, z8, z9, zf]) rfl ⟨rfl, ?_⟩
  repeat (refine Below.setCell ?_ (by simp) _)
  exact HB.out
set_option maxHeartbeats 4000000 in
set_option maxRecDepth 100000 in
theorem feed_long (v : V8) (rest : ByteArray) (n : Int) (text : ByteArray) (w : World) (hK : KAt w) (hR : rightH rest.size n = true) (hl : 1048576 < n + text.size) (ht : text.size ≤ 140737488355328) (hn0 : 0 ≤ n) (hn : n ≤ 1048576) :
    Calls Tryd.prog 14 #[hashV v rest n, .string text] w fun e w' => e = .returned (.tuple #[zeroHash, .int .i64 4]) ∧ Below w.heap.size w w' := by
  unfold hashV
  replace hK := Lib.hid hK
  replace hR := Lib.hid hR
  go_enter Tryd.func14, Tryd.ntmps14
  go_wp2_with fail
  refine (isHash_calls v rest n _).mono ?_
  rintro e w1 ⟨rfl, hb⟩
  rw [hR.out]
  obtain ⟨HX, HZ, HB⟩ := two_blocks hb
  have hK1 := Lib.hid (hK.out.below HB)
  have hS := Lib.hid (show w.heap.size + 2 ≤ w1.heap.size by have := hb.size; simp at this; omega)
  clear hb
  replace HX := Lib.hid HX
  replace HZ := Lib.hid HZ
  replace HB := Lib.hid HB
  have x0 : w1.cell? ⟨w.heap.size, 0, none⟩ = some (.int .u32 (v.a.toNat : Int)) := by rw [cell_of_row _ _ _ _ _ _ HX.out]; rfl
  have x1 : w1.cell? ⟨w.heap.size, 1, none⟩ = some (.int .u32 (v.b.toNat : Int)) := by rw [cell_of_row _ _ _ _ _ _ HX.out]; rfl
  have x2 : w1.cell? ⟨w.heap.size, 2, none⟩ = some (.int .u32 (v.c.toNat : Int)) := by rw [cell_of_row _ _ _ _ _ _ HX.out]; rfl
  have x3 : w1.cell? ⟨w.heap.size, 3, none⟩ = some (.int .u32 (v.d.toNat : Int)) := by rw [cell_of_row _ _ _ _ _ _ HX.out]; rfl
  have x4 : w1.cell? ⟨w.heap.size, 4, none⟩ = some (.int .u32 (v.e.toNat : Int)) := by rw [cell_of_row _ _ _ _ _ _ HX.out]; rfl
  have x5 : w1.cell? ⟨w.heap.size, 5, none⟩ = some (.int .u32 (v.f.toNat : Int)) := by rw [cell_of_row _ _ _ _ _ _ HX.out]; rfl
  have x6 : w1.cell? ⟨w.heap.size, 6, none⟩ = some (.int .u32 (v.g.toNat : Int)) := by rw [cell_of_row _ _ _ _ _ _ HX.out]; rfl
  have x7 : w1.cell? ⟨w.heap.size, 7, none⟩ = some (.int .u32 (v.h.toNat : Int)) := by rw [cell_of_row _ _ _ _ _ _ HX.out]; rfl
  have x8 : w1.cell? ⟨w.heap.size, 8, none⟩ = some (.string rest) := by rw [cell_of_row _ _ _ _ _ _ HX.out]; rfl
  have x9 : w1.cell? ⟨w.heap.size, 9, none⟩ = some (.int .i64 n) := by rw [cell_of_row _ _ _ _ _ _ HX.out]; rfl
  have z0 : w1.cell? ⟨w.heap.size + 1, 0, none⟩ = some (.int .u32 0) := by rw [cell_of_row _ _ _ _ _ _ HZ.out]; rfl
  have z1 : w1.cell? ⟨w.heap.size + 1, 1, none⟩ = some (.int .u32 0) := by rw [cell_of_row _ _ _ _ _ _ HZ.out]; rfl
  have z2 : w1.cell? ⟨w.heap.size + 1, 2, none⟩ = some (.int .u32 0) := by rw [cell_of_row _ _ _ _ _ _ HZ.out]; rfl
  have z3 : w1.cell? ⟨w.heap.size + 1, 3, none⟩ = some (.int .u32 0) := by rw [cell_of_row _ _ _ _ _ _ HZ.out]; rfl
  have z4 : w1.cell? ⟨w.heap.size + 1, 4, none⟩ = some (.int .u32 0) := by rw [cell_of_row _ _ _ _ _ _ HZ.out]; rfl
  have z5 : w1.cell? ⟨w.heap.size + 1, 5, none⟩ = some (.int .u32 0) := by rw [cell_of_row _ _ _ _ _ _ HZ.out]; rfl
  have z6 : w1.cell? ⟨w.heap.size + 1, 6, none⟩ = some (.int .u32 0) := by rw [cell_of_row _ _ _ _ _ _ HZ.out]; rfl
  have z7 : w1.cell? ⟨w.heap.size + 1, 7, none⟩ = some (.int .u32 0) := by rw [cell_of_row _ _ _ _ _ _ HZ.out]; rfl
  have z8 : w1.cell? ⟨w.heap.size + 1, 8, none⟩ = some (.string ⟨#[]⟩) := by rw [cell_of_row _ _ _ _ _ _ HZ.out]; rfl
  have z9 : w1.cell? ⟨w.heap.size + 1, 9, none⟩ = some (.int .i64 0) := by rw [cell_of_row _ _ _ _ _ _ HZ.out]; rfl
  have zf : ∀ i, w1.frozen? ⟨w.heap.size + 1, i, none⟩ = false := fun i => frozen_of_row w1 (w.heap.size + 1) i _ _ HZ.out
  go_wp2_with fail
  refine bodyPost_ret (v := .tuple #[zeroHash, .int .i64 4]) (by simp [results, Tryd.results14, go_sem, zeroHash, z0, z1, z2, z3, z4, z5, z6, z7, z8, z9, zf]) rfl ⟨rfl, ?_⟩
  repeat (refine Below.setCell ?_ (by simp) _)
  exact HB.out
set_option maxHeartbeats 4000000 in
set_option maxRecDepth 100000 in
theorem feed_calls (v : V8) (rest : ByteArray) (n : Int) (text : ByteArray) (w : World) (hK : KAt w) (hR : rightH rest.size n = true) (hl : n + text.size ≤ 1048576) (hr : rest.size ≤ 64) (hn0 : 0 ≤ n) :
    Calls Tryd.prog 14 #[hashV v rest n, .string text] w fun e w' => e = .returned (.tuple #[fedV v rest n text, .int .i64 0]) ∧ Below w.heap.size w w' := by
  have ht0 : (0 : Int) ≤ (text.size : Int) := by omega
  unfold hashV
  replace hK := Lib.hid hK
  replace hR := Lib.hid hR
  go_enter Tryd.func14, Tryd.ntmps14
  go_wp2_with fail
  refine (isHash_calls v rest n _).mono ?_
  rintro e w1 ⟨rfl, hb⟩
  rw [hR.out]
  obtain ⟨HX, HZ, HB⟩ := two_blocks hb
  have hK1 := Lib.hid (hK.out.below HB)
  have hS := Lib.hid (show w.heap.size + 2 ≤ w1.heap.size by have := hb.size; simp at this; omega)
  clear hb
  replace HX := Lib.hid HX
  replace HZ := Lib.hid HZ
  replace HB := Lib.hid HB
  have x0 : w1.cell? ⟨w.heap.size, 0, none⟩ = some (.int .u32 (v.a.toNat : Int)) := by rw [cell_of_row _ _ _ _ _ _ HX.out]; rfl
  have x1 : w1.cell? ⟨w.heap.size, 1, none⟩ = some (.int .u32 (v.b.toNat : Int)) := by rw [cell_of_row _ _ _ _ _ _ HX.out]; rfl
  have x2 : w1.cell? ⟨w.heap.size, 2, none⟩ = some (.int .u32 (v.c.toNat : Int)) := by rw [cell_of_row _ _ _ _ _ _ HX.out]; rfl
  have x3 : w1.cell? ⟨w.heap.size, 3, none⟩ = some (.int .u32 (v.d.toNat : Int)) := by rw [cell_of_row _ _ _ _ _ _ HX.out]; rfl
  have x4 : w1.cell? ⟨w.heap.size, 4, none⟩ = some (.int .u32 (v.e.toNat : Int)) := by rw [cell_of_row _ _ _ _ _ _ HX.out]; rfl
  have x5 : w1.cell? ⟨w.heap.size, 5, none⟩ = some (.int .u32 (v.f.toNat : Int)) := by rw [cell_of_row _ _ _ _ _ _ HX.out]; rfl
  have x6 : w1.cell? ⟨w.heap.size, 6, none⟩ = some (.int .u32 (v.g.toNat : Int)) := by rw [cell_of_row _ _ _ _ _ _ HX.out]; rfl
  have x7 : w1.cell? ⟨w.heap.size, 7, none⟩ = some (.int .u32 (v.h.toNat : Int)) := by rw [cell_of_row _ _ _ _ _ _ HX.out]; rfl
  have x8 : w1.cell? ⟨w.heap.size, 8, none⟩ = some (.string rest) := by rw [cell_of_row _ _ _ _ _ _ HX.out]; rfl
  have x9 : w1.cell? ⟨w.heap.size, 9, none⟩ = some (.int .i64 n) := by rw [cell_of_row _ _ _ _ _ _ HX.out]; rfl
  go_wp2_with fail
  refine (fed_calls v rest n text w1 hK1.out (by omega) (by omega) (by omega) (by omega)).mono ?_
  rintro e w2 ⟨rfl, hb⟩
  clear x0 x1 x2 x3 x4 x5 x6 x7 x8 x9
  replace HZ := Lib.hid (blk_below HZ.out hb)
  replace HB := Lib.hid (HB.out.trans (Below.mono hb HB.out.size))
  clear hb
  have z0 : w2.cell? ⟨w.heap.size + 1, 0, none⟩ = some (.int .u32 0) := by rw [cell_of_row _ _ _ _ _ _ HZ.out]; rfl
  have z1 : w2.cell? ⟨w.heap.size + 1, 1, none⟩ = some (.int .u32 0) := by rw [cell_of_row _ _ _ _ _ _ HZ.out]; rfl
  have z2 : w2.cell? ⟨w.heap.size + 1, 2, none⟩ = some (.int .u32 0) := by rw [cell_of_row _ _ _ _ _ _ HZ.out]; rfl
  have z3 : w2.cell? ⟨w.heap.size + 1, 3, none⟩ = some (.int .u32 0) := by rw [cell_of_row _ _ _ _ _ _ HZ.out]; rfl
  have z4 : w2.cell? ⟨w.heap.size + 1, 4, none⟩ = some (.int .u32 0) := by rw [cell_of_row _ _ _ _ _ _ HZ.out]; rfl
  have z5 : w2.cell? ⟨w.heap.size + 1, 5, none⟩ = some (.int .u32 0) := by rw [cell_of_row _ _ _ _ _ _ HZ.out]; rfl
  have z6 : w2.cell? ⟨w.heap.size + 1, 6, none⟩ = some (.int .u32 0) := by rw [cell_of_row _ _ _ _ _ _ HZ.out]; rfl
  have z7 : w2.cell? ⟨w.heap.size + 1, 7, none⟩ = some (.int .u32 0) := by rw [cell_of_row _ _ _ _ _ _ HZ.out]; rfl
  have z8 : w2.cell? ⟨w.heap.size + 1, 8, none⟩ = some (.string ⟨#[]⟩) := by rw [cell_of_row _ _ _ _ _ _ HZ.out]; rfl
  have z9 : w2.cell? ⟨w.heap.size + 1, 9, none⟩ = some (.int .i64 0) := by rw [cell_of_row _ _ _ _ _ _ HZ.out]; rfl
  have zf : ∀ i, w2.frozen? ⟨w.heap.size + 1, i, none⟩ = false := fun i => frozen_of_row w2 (w.heap.size + 1) i _ _ HZ.out
  obtain ⟨u, r6, N6, hv⟩ : ∃ (u : V8) (r6 : List UInt8) (N6 : Int), fedV v rest n text = .agg #[.int .u32 (u.a.toNat : Int), .int .u32 (u.b.toNat : Int), .int .u32 (u.c.toNat : Int), .int .u32 (u.d.toNat : Int), .int .u32 (u.e.toNat : Int), .int .u32 (u.f.toNat : Int), .int .u32 (u.g.toNat : Int), .int .u32 (u.h.toNat : Int), .string ⟨r6.toArray⟩, .int .i64 N6] := ⟨_, _, _, rfl⟩
  rw [hv]
  replace hv := Lib.hid hv
  go_wp2_with fail
  refine bodyPost_ret (v := .tuple #[.agg #[.int .u32 (u.a.toNat : Int), .int .u32 (u.b.toNat : Int), .int .u32 (u.c.toNat : Int), .int .u32 (u.d.toNat : Int), .int .u32 (u.e.toNat : Int), .int .u32 (u.f.toNat : Int), .int .u32 (u.g.toNat : Int), .int .u32 (u.h.toNat : Int), .string ⟨r6.toArray⟩, .int .i64 N6], .int .i64 0]) (by simp [results, Tryd.results14, go_sem, z0, z1, z2, z3, z4, z5, z6, z7, z8, z9, zf]) rfl ⟨by rw [hv.out], ?_⟩
  repeat (refine Below.setCell ?_ (by simp) _)
  exact HB.out
theorem z32_len : (List.replicate 32 (0 : UInt8)).length = 32 := by simp
set_option maxHeartbeats 4000000 in
set_option maxRecDepth 100000 in
theorem end_bad (v : V8) (rest : ByteArray) (n : Int) (w : World) (hK : KAt w) (hR : rightH rest.size n = false) :
    Calls Tryd.prog 17 #[hashV v rest n] w fun e w' => e = .returned (.tuple #[zeroDig, .int .i64 1]) ∧ Below w.heap.size w w' := by
  unfold hashV
  replace hK := Lib.hid hK
  replace hR := Lib.hid hR
  go_enter Tryd.func17, Tryd.ntmps17
  go_wp2_with fail
  refine (isHash_calls v rest n _).mono ?_
  rintro e w1 ⟨rfl, hb⟩
  rw [hR.out]
  obtain ⟨HX, HZ, HB⟩ := two_blocks hb
  have hK1 := Lib.hid (hK.out.below HB)
  clear hb
  replace HX := Lib.hid HX
  replace HZ : Hid (w1.heap[w.heap.size + 1]? = some (.cells (Lib.byteCells (List.replicate 32 0)).toArray 24 (0, 0))) := Lib.hid HZ
  replace HB := Lib.hid HB
  go_wp2_with (refine wpList_store_dig rfl (.tmp 2) (.tmp 7) rfl (w.heap.size + 1) rfl (List.replicate 32 0) z32_len rfl _ _ HZ.out (by rw [List.size_toArray, Lib.byteCells, List.length_map, z32_len]) ?_; intro w9 h9 _ hB9)
  refine bodyPost_ret (v := .tuple #[zeroDig, .int .i64 1]) ?_ rfl ⟨rfl, hB9 HB.out (by omega)⟩
  simp [results, Tryd.results17, asAddr, run_load_dig h9.out z32_len, Act.put, zeroDig]
set_option maxHeartbeats 4000000 in
set_option maxRecDepth 100000 in
theorem end_calls (v : V8) (rest : ByteArray) (n : Nat) (w : World) (hK : KAt w) (hR : rightH rest.size n = true) (hr : rest.size ≤ 64) (hn : n ≤ 1048576) :
    Calls Tryd.prog 17 #[hashV v rest n] w fun e w' => e = .returned (.tuple #[.agg (Lib.byteCells (endP v rest.data.toList n)).toArray, .int .i64 0]) ∧ Below w.heap.size w w' := by
  unfold hashV
  replace hK := Lib.hid hK
  replace hR := Lib.hid hR
  go_enter Tryd.func17, Tryd.ntmps17
  go_wp2_with fail
  refine (isHash_calls v rest n _).mono ?_
  rintro e w1 ⟨rfl, hb⟩
  rw [hR.out]
  obtain ⟨HX, HZ, HB⟩ := two_blocks hb
  have hK1 := Lib.hid (hK.out.below HB)
  clear hb
  replace HX := Lib.hid HX
  replace HZ : Hid (w1.heap[w.heap.size + 1]? = some (.cells (Lib.byteCells (List.replicate 32 0)).toArray 24 (0, 0))) := Lib.hid HZ
  replace HB := Lib.hid HB
  have x0 : w1.cell? ⟨w.heap.size, 0, none⟩ = some (.int .u32 (v.a.toNat : Int)) := by rw [cell_of_row _ _ _ _ _ _ HX.out]; rfl
  have x1 : w1.cell? ⟨w.heap.size, 1, none⟩ = some (.int .u32 (v.b.toNat : Int)) := by rw [cell_of_row _ _ _ _ _ _ HX.out]; rfl
  have x2 : w1.cell? ⟨w.heap.size, 2, none⟩ = some (.int .u32 (v.c.toNat : Int)) := by rw [cell_of_row _ _ _ _ _ _ HX.out]; rfl
  have x3 : w1.cell? ⟨w.heap.size, 3, none⟩ = some (.int .u32 (v.d.toNat : Int)) := by rw [cell_of_row _ _ _ _ _ _ HX.out]; rfl
  have x4 : w1.cell? ⟨w.heap.size, 4, none⟩ = some (.int .u32 (v.e.toNat : Int)) := by rw [cell_of_row _ _ _ _ _ _ HX.out]; rfl
  have x5 : w1.cell? ⟨w.heap.size, 5, none⟩ = some (.int .u32 (v.f.toNat : Int)) := by rw [cell_of_row _ _ _ _ _ _ HX.out]; rfl
  have x6 : w1.cell? ⟨w.heap.size, 6, none⟩ = some (.int .u32 (v.g.toNat : Int)) := by rw [cell_of_row _ _ _ _ _ _ HX.out]; rfl
  have x7 : w1.cell? ⟨w.heap.size, 7, none⟩ = some (.int .u32 (v.h.toNat : Int)) := by rw [cell_of_row _ _ _ _ _ _ HX.out]; rfl
  have x8 : w1.cell? ⟨w.heap.size, 8, none⟩ = some (.string rest) := by rw [cell_of_row _ _ _ _ _ _ HX.out]; rfl
  have x9 : w1.cell? ⟨w.heap.size, 9, none⟩ = some (.int .i64 n) := by rw [cell_of_row _ _ _ _ _ _ HX.out]; rfl
  go_wp2_with fail
  refine (ended_calls v rest n w1 hK1.out (by omega) (by omega)).mono ?_
  rintro e w2 ⟨rfl, hb⟩
  have hl := Lib.hid (endP_len v rest.data.toList n)
  clear x0 x1 x2 x3 x4 x5 x6 x7 x8 x9
  replace HZ := Lib.hid (blk_below HZ.out hb)
  replace HB := Lib.hid (HB.out.trans (Below.mono hb HB.out.size))
  clear hb
  generalize hD : endP v rest.data.toList n = D at hl ⊢
  replace hD := Lib.hid hD
  go_wp2_with (refine wpList_store_dig rfl (.tmp 2) (.tmp 9) rfl (w.heap.size + 1) rfl D hl.out rfl _ _ HZ.out (by rw [List.size_toArray, Lib.byteCells, List.length_map, z32_len]) ?_; intro w9 h9 _ hB9)
  refine bodyPost_ret (v := .tuple #[.agg (Lib.byteCells D).toArray, .int .i64 0]) ?_ rfl ⟨by rw [hD.out], hB9 HB.out (by omega)⟩
  simp [results, Tryd.results17, asAddr, run_load_dig h9.out hl.out, Act.put]
theorem v0_right : rightH (⟨#[]⟩ : ByteArray).size 0 = true := rfl
/-- What Sum makes. -/
def sumV (s : ByteArray) : Value := .tuple (if s.size ≤ 1048576 then #[.agg (Lib.byteCells (sumL s.data.toList)).toArray, .int .i64 0] else #[zeroDig, .int .i64 4])
theorem dig_block {w w1 : World} {Z : Array Value} {U : TypeId} (hb : Below (w.alloc (.cells Z U)).heap.size (w.alloc (.cells Z U)) w1) :
    w1.heap[w.heap.size]? = some (.cells Z U (0, 0)) ∧ Below w.heap.size w w1 :=
  ⟨by rw [hb.block _ (by simp)]; exact heap_alloc_last _ _, ((Below.refl _ _).alloc (Nat.le_refl _) _).trans (hb.mono (by simp))⟩
set_option maxHeartbeats 4000000 in
set_option maxRecDepth 100000 in
theorem sum_long (s : ByteArray) (w : World) (hK : KAt w) (hs : 1048576 < s.size) (ht : s.size ≤ 140737488355328) :
    Calls Tryd.prog 13 #[.string s] w fun e w' => e = .returned (.tuple #[zeroDig, .int .i64 4]) ∧ Below w.heap.size w w' := by
  replace hK := Lib.hid hK
  go_enter Tryd.func13, Tryd.ntmps13
  go_wp2_with fail
  refine (begin_calls _).mono ?_
  rintro e w1 ⟨rfl, hb⟩
  obtain ⟨HZ, HB⟩ := dig_block hb
  clear hb
  replace HZ : Hid (w1.heap[w.heap.size]? = some (.cells (Lib.byteCells (List.replicate 32 0)).toArray 24 (0, 0))) := Lib.hid HZ
  replace HB := Lib.hid HB
  go_wp2_with fail
  refine (feed_long v0 ⟨#[]⟩ 0 s w1 (hK.out.below HB.out) v0_right (by omega) ht (by omega) (by omega)).mono ?_
  rintro e w2 ⟨rfl, hb⟩
  replace HZ := Lib.hid (blk_below HZ.out hb)
  replace HB := Lib.hid (HB.out.trans (Below.mono hb HB.out.size))
  clear hb
  unfold zeroHash
  go_wp2_with (refine wpList_store_dig rfl (.tmp 2) (.tmp 14) rfl w.heap.size rfl (List.replicate 32 0) z32_len rfl _ _ (blk_below HZ.out ((Below.refl _ _).alloc (Nat.le_refl _) _)) (by rw [List.size_toArray, Lib.byteCells, List.length_map, z32_len]) ?_; intro w9 h9 _ hB9)
  refine bodyPost_ret (v := .tuple #[zeroDig, .int .i64 4]) ?_ rfl ⟨rfl, hB9 (HB.out.alloc HB.out.size _) (by omega)⟩
  simp [results, Tryd.results13, asAddr, run_load_dig h9.out z32_len, Act.put, zeroDig]
set_option maxHeartbeats 4000000 in
set_option maxRecDepth 100000 in
theorem sum_ok (s : ByteArray) (w : World) (hK : KAt w) (hs : s.size ≤ 1048576) :
    Calls Tryd.prog 13 #[.string s] w fun e w' => e = .returned (.tuple #[.agg (Lib.byteCells (sumL s.data.toList)).toArray, .int .i64 0]) ∧ Below w.heap.size w w' := by
  replace hK := Lib.hid hK
  go_enter Tryd.func13, Tryd.ntmps13
  go_wp2_with fail
  refine (begin_calls _).mono ?_
  rintro e w1 ⟨rfl, hb⟩
  obtain ⟨HZ, HB⟩ := dig_block hb
  clear hb
  replace HZ : Hid (w1.heap[w.heap.size]? = some (.cells (Lib.byteCells (List.replicate 32 0)).toArray 24 (0, 0))) := Lib.hid HZ
  replace HB := Lib.hid HB
  go_wp2_with fail
  refine (feed_calls v0 ⟨#[]⟩ 0 s w1 (hK.out.below HB.out) v0_right (by omega) (by decide) (by omega)).mono ?_
  rintro e w2 ⟨rfl, hb⟩
  replace HZ := Lib.hid (blk_below HZ.out hb)
  replace HB := Lib.hid (HB.out.trans (Below.mono hb HB.out.size))
  clear hb
  have hfv : fedV v0 ⟨#[]⟩ 0 s = hashV (feedP v0 s.data.toList).1 ⟨(feedP v0 s.data.toList).2.toArray⟩ (s.size : Nat) := by
    unfold fedV; rw [Int.zero_add]; rfl
  have hE : endP (feedP v0 s.data.toList).1 (feedP v0 s.data.toList).2 s.size = sumL s.data.toList := by
    unfold sumL; rw [Lib.size_eq]
  have hrl : ((⟨(feedP v0 s.data.toList).2.toArray⟩ : ByteArray)).size ≤ 64 := by
    show ((feedP v0 s.data.toList).2.toArray).size ≤ 64
    rw [List.size_toArray, feedP_len _ v0 s.data.toList (Nat.le_refl _)]; omega
  rw [hfv]
  generalize (feedP v0 s.data.toList).2 = r6 at hE hrl ⊢
  generalize (feedP v0 s.data.toList).1 = u at hE ⊢
  replace hE := Lib.hid hE
  replace hrl := Lib.hid hrl
  clear hfv
  unfold hashV
  go_wp2_with fail
  refine (ended_calls u ⟨r6.toArray⟩ s.size _ (hK.out.below (HB.out.alloc HB.out.size _)) (by have := hrl.out; omega) (by omega)).mono ?_
  rintro e w3 ⟨rfl, hb⟩
  have hl := Lib.hid (endP_len u r6 s.size)
  replace HZ := Lib.hid (blk_below (blk_below HZ.out ((Below.refl _ _).alloc (Nat.le_refl _) _)) hb)
  replace HB := Lib.hid ((HB.out.alloc HB.out.size _).trans (Below.mono hb (HB.out.alloc HB.out.size _).size))
  clear hb
  rw [show (⟨r6.toArray⟩ : ByteArray).data.toList = r6 from rfl]
  rw [hE.out] at hl ⊢
  clear hE
  generalize hD : sumL s.data.toList = D at hl ⊢
  replace hD := Lib.hid hD
  go_wp2_with (refine wpList_store_dig rfl (.tmp 2) (.tmp 17) rfl w.heap.size rfl D hl.out rfl _ _ HZ.out (by rw [List.size_toArray, Lib.byteCells, List.length_map, z32_len]) ?_; intro w9 h9 _ hB9)
  refine bodyPost_ret (v := .tuple #[.agg (Lib.byteCells D).toArray, .int .i64 0]) ?_ rfl ⟨by rw [hD.out], hB9 HB.out (by omega)⟩
  simp [results, Tryd.results13, asAddr, run_load_dig h9.out hl.out, Act.put]
theorem sum_calls (s : ByteArray) (w : World) (hK : KAt w) (ht : s.size ≤ 140737488355328) :
    Calls Tryd.prog 13 #[.string s] w fun e w' => e = .returned (sumV s) ∧ Below w.heap.size w w' := by
  unfold sumV
  by_cases h : s.size ≤ 1048576
  · rw [if_pos h]; exact sum_ok s w hK h
  · rw [if_neg h]; exact sum_long s w hK (by omega) ht
end Go.Proofs.YtldpnmebjnkjeaaDoor.Sha
namespace Go.Proofs.YtldpnmebjnkjeaaDoor
open Go.Shelf Go.RowKit
set_option linter.unusedVariables false

/-! (*strings.Builder).WriteByte at this dump: the shelf's own command passes it over. -/
def wb_ren : Go.Shelf.Ren := ⟨fun | 167 => 64 | 240 => 91 | 276 => 106 | n => n, fun | 80 => 104 | 75 => 102 | 70 => 98 | 3 => 3 | 0 => 0 | 4 => 4 | 9 => 9 | 20 => 20 | 72 => 100 | 37 => 22 | 164 => 141 | 5 => 5 | n => n, fun | n => n⟩
theorem wb_lays : Go.Proofs.Lays.n167 Tryd.prog wb_ren := {
  mixed := by kernel_rfl
  f167 := Tryd.func64.trans (congrArg some (by kernel_rfl))
  f240 := Tryd.func91.trans (congrArg some (by kernel_rfl))
  f276 := Tryd.func106.trans (congrArg some (by kernel_rfl))
  t0 := Tryd.underlying0
  a0 := Tryd.isAgg0
  z0 := Tryd.sizeOf0
  v0 := Tryd.zeroValue0
  t4 := Tryd.underlying4
  a4 := Tryd.isAgg4
  z4 := Tryd.sizeOf4
  v4 := Tryd.zeroValue4
  t5 := Tryd.underlying5
  a5 := Tryd.isAgg5
  z5 := Tryd.sizeOf5
  v5 := Tryd.zeroValue5
  t9 := Tryd.underlying9
  a9 := Tryd.isAgg9
  z9 := Tryd.sizeOf9
  v9 := Tryd.zeroValue9
  t20 := Tryd.underlying20
  a20 := Tryd.isAgg20
  z20 := Tryd.sizeOf20
  v20 := Tryd.zeroValue20
  t37 := Tryd.underlying22
  a37 := Tryd.isAgg22
  z37 := Tryd.sizeOf22
  v37 := Tryd.zeroValue22
  t70 := Tryd.underlying98
  a70 := Tryd.isAgg98
  z70 := Tryd.sizeOf98
  v70 := Tryd.zeroValue98
  t72 := Tryd.underlying100
  a72 := Tryd.isAgg100
  z72 := Tryd.sizeOf100
  v72 := Tryd.zeroValue100
  t75 := Tryd.underlying102
  a75 := Tryd.isAgg102
  z75 := Tryd.sizeOf102
  v75 := Tryd.zeroValue102
  t164 := Tryd.underlying141
  a164 := Tryd.isAgg141
  z164 := Tryd.sizeOf141
  v164 := Tryd.zeroValue141 }
theorem wb_extra : Builder.Extra Tryd.prog wb_ren := {
  sizeBuilder := by kernel_rfl
  liesBuilder := by kernel_rfl
  t5 := Tryd.underlying5
  a5 := Tryd.isAgg5
  z5 := Tryd.sizeOf5
  v5 := Tryd.zeroValue5
  infoByte := by kernel_rfl
  cellsByte := by kernel_rfl
  sizeByte := by kernel_rfl
  neB5 := by decide }
theorem writeByte_calls (B b : Nat) (bs : List Value) (c : Int) (w : World) (h : Lib.IsBuilder 100 5 B b bs w) (hlen : bs.length + 1 ≤ 140737488355328) (hBw : B ≤ w.heap.size) :
    Calls Tryd.prog 64 #[.pointer (some ⟨b, 0, none⟩), .int .u8 c] w fun e w' => e = .returned .nilIface ∧ (Lib.BuilderAt 100 5 B b (.pointer (some ⟨b, 0, none⟩)) (bs ++ [.int .u8 c]) w' ∧ Below B w w') :=
  Any.Builder_WriteByte wb_lays wb_extra B b bs c w h hlen hBw
end Go.Proofs.YtldpnmebjnkjeaaDoor
namespace Go.Proofs.YtldpnmebjnkjeaaDoor.Sha
open Go.RowKit Go.Proofs.YtldpnmebjnkjeaaDoorW.PrintWords
set_option linter.unusedVariables false
set_option linter.unusedSimpArgs false

def digitsL : List UInt8 := [48, 49, 50, 51, 52, 53, 54, 55, 56, 57, 97, 98, 99, 100, 101, 102]
def hd (n : Nat) : UInt8 := digitsL.getD n 0
/-- The digits of bytes. -/
def hexL (l : List UInt8) : List UInt8 := l.flatMap fun x => [hd (x.toNat / 16), hd (x.toNat % 16)]
theorem hexL_snoc (l : List UInt8) (x : UInt8) : hexL (l ++ [x]) = hexL l ++ [hd (x.toNat / 16)] ++ [hd (x.toNat % 16)] := by
  unfold hexL; rw [List.flatMap_append]; simp
theorem hexL_len (l : List UInt8) : (hexL l).length = 2 * l.length := by
  induction l with
  | nil => rfl
  | cons a l ih => unfold hexL at *; rw [List.flatMap_cons, List.length_append, ih]; simp; omega
theorem digit_at (n : Nat) (h : n < (⟨#[48, 49, 50, 51, 52, 53, 54, 55, 56, 57, 97, 98, 99, 100, 101, 102]⟩ : ByteArray).size) : (⟨#[48, 49, 50, 51, 52, 53, 54, 55, 56, 57, 97, 98, 99, 100, 101, 102]⟩ : ByteArray)[n]'h = hd n := by
  have all : ∀ m : Fin 16, (⟨#[48, 49, 50, 51, 52, 53, 54, 55, 56, 57, 97, 98, 99, 100, 101, 102]⟩ : ByteArray)[m.val]'m.isLt = hd m.val := by decide
  exact all ⟨n, h⟩
theorem and15 (x : UInt8) : bits .and .u8 (x.toNat : Int) 15 = ((x.toNat % 16 : Nat) : Int) := by
  have all : ∀ m : Fin 256, bits .and .u8 (m.val : Int) 15 = ((m.val % 16 : Nat) : Int) := by decide +kernel
  exact all ⟨x.toNat, x.toNat_lt⟩
set_option maxHeartbeats 4000000 in
set_option maxRecDepth 100000 in
theorem hex_calls (d : List UInt8) (hd32 : d.length = 32) (w : World) :
    Calls Tryd.prog 27 #[.agg (Lib.byteCells d).toArray] w fun e w' => e = .returned (.string ⟨(hexL d).toArray⟩) ∧ Below w.heap.size w w' := by
  replace hd32 := Lib.hid hd32
  go_enter Tryd.func27, Tryd.ntmps27
  go_wp2_with (refine wpList_load_dig (o := ⟨some 6, _, _, _, _, _⟩) rfl (.tmp 1) rfl w.heap.size rfl d hd32.out 24 (0, 0) (by rw [Below.heap_alloc _ _ _ (by simp)]; exact heap_alloc_last _ _) ?_)
  generalize hw1 : (w.alloc _).alloc _ = w1
  have HI : Hid (Lib.IsBuilder 100 5 (w.heap.size + 1) (w.heap.size + 1) (Lib.byteCells (hexL (d.take 0))) w1) := by
    rw [← hw1]; refine Lib.hid (.inl ⟨Nat.le_refl _, .slice none 0 0, heap_at1 _ _ _, ⟨rfl, .inl ⟨rfl, rfl⟩⟩, by simp [Value.ownBlock]⟩)
  have HB : Hid (Below w.heap.size w w1) := by
    rw [← hw1]; exact Lib.hid (((Below.refl _ _).alloc (Nat.le_refl _) _).alloc (by simp) _)
  have HS : Hid (w.heap.size + 1 ≤ w1.heap.size) := by rw [← hw1]; exact Lib.hid (by simp)
  clear hw1
  go_loopw [7] (fun i wr => ∃ j : Nat, j ≤ 32 ∧ i = .int .i64 j ∧ Hid (Lib.IsBuilder 100 5 (w.heap.size + 1) (w.heap.size + 1) (Lib.byteCells (hexL (d.take j))) wr) ∧ Hid (Below w.heap.size w wr) ∧ Hid (w.heap.size + 1 ≤ wr.heap.size)) (fun i _ => 32 - (intOf i).toNat)
  case atStart => exact ⟨0, by omega, rfl, HI, HB, HS⟩
  case round =>
    clear HI HB HS
    obtain ⟨j, hj, rfl, HI, HB, HS⟩ := hrel
    by_cases h32 : j < 32
    · have k32 : (j : Int) < 32 := by omega
      have hjd : j < d.length := by rw [hd32.out]; exact h32
      have hix : d[j]? = some d[j] := List.getElem?_eq_getElem hjd
      have htk : d.take (j + 1) = d.take j ++ [d[j]] := by rw [List.take_succ_eq_append_getElem hjd]
      generalize d[j] = x at hix htk
      have hrun := fun w : World => run_index_dig d hd32.out j h32 x hix w
      replace htk := Lib.hid htk
      replace hix := Lib.hid hix
      have hx1 : (x.toNat : Int) / 16 < 16 := by have := x.toNat_lt; omega
      go_wp2_with fail
      rw [digit_at]
      have hlen : (hexL (d.take j)).length ≤ 64 := by rw [hexL_len, List.length_take]; omega
      have hb1 : (Lib.byteCells (hexL (d.take j))).length + 1 ≤ 140737488355328 := by rw [Lib.byteCells, List.length_map]; omega
      refine (writeByte_calls (w.heap.size + 1) (w.heap.size + 1) _ _ wr HI.out hb1 HS.out).mono ?_
      rintro e w2 ⟨rfl, hat, hb⟩
      have ha := and15 x
      have hx2 : x.toNat % 16 < 16 := by omega
      replace hlen := Lib.hid hlen
      replace hat := Lib.hid hat
      replace HB := Lib.hid (HB.out.trans (hb.mono (by omega)))
      replace HS := Lib.hid (Nat.le_trans HS.out hb.size)
      clear hb hb1
      go_wp2_with fail
      rw [digit_at]
      have hb2 : (Lib.byteCells (hexL (d.take j)) ++ [Value.int .u8 ((hd (x.toNat / 16)).toNat : Int)]).length + 1 ≤ 140737488355328 := by have := hlen.out; rw [List.length_append, Lib.byteCells, List.length_map]; simp; omega
      refine (writeByte_calls (w.heap.size + 1) (w.heap.size + 1) _ _ w2 (.inr hat.out) hb2 HS.out).mono ?_
      rintro e w3 ⟨rfl, hat3, hb⟩
      clear ha hx2
      replace hat3 := Lib.hid hat3
      replace HB := Lib.hid (HB.out.trans (hb.mono (by omega)))
      replace HS := Lib.hid (Nat.le_trans HS.out hb.size)
      clear hb hb2
      go_wp2_with fail
      go_roundw
      case rel =>
        refine ⟨j + 1, by omega, by go_num, Lib.hid (.inr ?_), HB, HS⟩
        rw [htk.out, hexL_snoc]
        have h9 := hat3.out
        simpa [Lib.byteCells, List.map_append] using h9
      case measure => simp [intOf]; omega
    · obtain rfl : j = 32 := by omega
      rw [List.take_of_length_le (by rw [hd32.out]; omega)] at HI
      go_wp2_with fail
      refine (Tryd.Builder_String_any (w.heap.size + 1) (w.heap.size + 1) (hexL d) wr HI.out HS.out).mono ?_
      rintro e w2 ⟨rfl, hb⟩
      replace HB := Lib.hid (HB.out.trans (hb.mono (by omega)))
      clear hb
      go_wp2_with fail
      go_ret
      exact ⟨rfl, HB.out⟩
end Go.Proofs.YtldpnmebjnkjeaaDoor.Sha
namespace Go.Proofs.YtldpnmebjnkjeaaDoor.Sha
open Go.RowKit Go.Proofs.YtldpnmebjnkjeaaDoorW.PrintWords
set_option linter.unusedVariables false
set_option linter.unusedSimpArgs false

/-- What a digit counts; below 0: it is none. -/
def val (b : UInt8) : Int := Lib.indexByte digitsL b
theorem val_bd (b : UInt8) : -1 ≤ val b ∧ val b < 16 := by
  have all : ∀ m : Fin 256, -1 ≤ val (UInt8.ofNat m.val) ∧ val (UInt8.ofNat m.val) < 16 := by decide +kernel
  have h := all ⟨b.toNat, b.toNat_lt⟩
  rwa [UInt8.ofNat_toNat] at h
def vb (b : UInt8) : UInt8 := UInt8.ofNat (val b).toNat
/-- The bytes that the first i digits make. -/
def dpAt (s : List UInt8) (i k : Nat) : UInt8 :=
  if 2 * k + 1 < i then UInt8.ofNat (16 * (val (s.getD (2 * k) 0)).toNat + (val (s.getD (2 * k + 1) 0)).toNat) else if 2 * k < i then vb (s.getD (2 * k) 0) else 0
def dp (s : List UInt8) (i : Nat) : List UInt8 := (List.range 32).map (dpAt s i)
theorem dp_len (s : List UInt8) (i : Nat) : (dp s i).length = 32 := by simp [dp]
theorem dp_get (s : List UInt8) (i k : Nat) (h : k < 32) : (dp s i)[k]? = some (dpAt s i k) := by simp [dp, h]
theorem dp_zero (s : List UInt8) : dp s 0 = List.replicate 32 0 := by
  apply List.ext_getElem?
  intro k
  by_cases h : k < 32
  · rw [dp_get s 0 k h, List.getElem?_replicate, if_pos h]; simp [dpAt]
  · rw [List.getElem?_eq_none (by rw [dp_len]; omega), List.getElem?_eq_none (by simp; omega)]
theorem dp_step (s : List UInt8) (i : Nat) (h : i < 64) (y : UInt8) (hy : y = dpAt s (i + 1) (i / 2)) : (dp s i).set (i / 2) y = dp s (i + 1) := by
  apply List.ext_getElem?
  intro k
  rw [List.getElem?_set]
  by_cases hk : i / 2 = k
  · subst hk
    rw [if_pos rfl, if_pos (by rw [dp_len]; omega), dp_get s (i + 1) _ (by omega), hy]
  · rw [if_neg hk]
    by_cases h32 : k < 32
    · rw [dp_get s i k h32, dp_get s (i + 1) k h32]
      congr 1
      unfold dpAt
      by_cases h1 : 2 * k + 1 < i
      · rw [if_pos h1, if_pos (by omega)]
      · rw [if_neg h1, if_neg (by omega : ¬ 2 * k + 1 < i + 1)]
        by_cases h2 : 2 * k < i
        · rw [if_pos h2, if_pos (by omega)]
        · rw [if_neg h2, if_neg (by omega)]
    · rw [List.getElem?_eq_none (by rw [dp_len]; omega), List.getElem?_eq_none (by rw [dp_len]; omega)]
theorem or_bits (a b : Nat) (ha : a < 16) (hb : b < 16) : bits .or .u8 ((a : Int) * 16 % 256) (b : Int) = ((16 * a + b : Nat) : Int) := by
  have all : ∀ m n : Fin 16, bits .or .u8 ((m.val : Int) * 16 % 256) (n.val : Int) = ((16 * m.val + n.val : Nat) : Int) := by decide +kernel
  exact all ⟨a, ha⟩ ⟨b, hb⟩
theorem dp_value (s : List UInt8) (i : Nat) (h : i < 64) (b : UInt8) (hb : s.getD i 0 = b) (hv : 0 ≤ val b) :
    bits .or .u8 (((dpAt s i (i / 2)).toNat : Int) * 16 % 256) (val b) = ((dpAt s (i + 1) (i / 2)).toNat : Int) := by
  obtain ⟨n, hn⟩ : ∃ n : Nat, val b = n := ⟨(val b).toNat, by omega⟩
  have hn16 : n < 16 := by have := (val_bd b).2; omega
  by_cases he : i % 2 = 0
  · have h1 : dpAt s i (i / 2) = 0 := by unfold dpAt; rw [if_neg (by omega), if_neg (by omega)]
    have h2 : dpAt s (i + 1) (i / 2) = UInt8.ofNat n := by
      unfold dpAt vb
      rw [if_neg (by omega), if_pos (by omega), show 2 * (i / 2) = i by omega, hb, hn]; rfl
    rw [h1, h2, hn]
    have := or_bits 0 n (by omega) hn16
    rw [show (((0 : UInt8).toNat : Int)) = ((0 : Nat) : Int) from rfl, this, UInt8.toNat_ofNat']
    omega
  · have h1 : dpAt s i (i / 2) = vb (s.getD (i - 1) 0) := by unfold dpAt; rw [if_neg (by omega), if_pos (by omega), show 2 * (i / 2) = i - 1 by omega]
    have h2 : dpAt s (i + 1) (i / 2) = UInt8.ofNat (16 * (val (s.getD (i - 1) 0)).toNat + n) := by
      unfold dpAt
      rw [if_pos (by omega), show 2 * (i / 2) = i - 1 by omega, show i - 1 + 1 = i by omega, hb, hn]; rfl
    have hc := val_bd (s.getD (i - 1) 0)
    have ho := or_bits (val (s.getD (i - 1) 0)).toNat n (by omega) hn16
    rw [h1, h2, hn]
    have e1 : ((vb (s.getD (i - 1) 0)).toNat : Int) = ((val (s.getD (i - 1) 0)).toNat : Int) := by
      unfold vb; rw [UInt8.toNat_ofNat']; omega
    rw [e1, ho, UInt8.toNat_ofNat']
    omega
/-- Are all digits? -/
def allDigits (s : List UInt8) : Bool := s.all fun b => decide (0 ≤ val b)
def parseV (s : ByteArray) : Value := .tuple (if s.size = 64 ∧ allDigits s.data.toList = true then #[.agg (Lib.byteCells (dp s.data.toList 64)).toArray, .int .i64 0] else #[zeroDig, .int .i64 3])
end Go.Proofs.YtldpnmebjnkjeaaDoor.Sha
namespace Go.Proofs.YtldpnmebjnkjeaaDoor.Ref10
open Go.RowKit Go.Proofs.YtldpnmebjnkjeaaDoorW.PrintWords Go.Proofs.YtldpnmebjnkjeaaDoor.PH1
open Go.Proofs.YtldpnmebjnkjeaaDoor.Sha (rotr ch maj ss0 ss1 be words sched nextW bx ba badd bshr bshl bor)
set_option linter.unusedVariables false
set_option linter.unusedSimpArgs false

/-! The document's turn, chosen and schedule are the program's. -/
theorem turn_f (x : UInt32) (n : Nat) (h1 : 1 ≤ n) (h2 : n < 32) : cashbookref10_turn.f (x.toNat : Int) (n : Int) = some ((rotr x n).toNat : Int) := by
  have e1 : IntKind.u64.wrap (n : Int) = (n : Int) := by simp [IntKind.wrap, IntKind.bits, IntKind.signed]; omega
  have e2 : wrap64 (32 - (n : Int)) = ((32 - n : Nat) : Int) := by
    rw [show (32 : Int) - (n : Int) = ((32 - n : Nat) : Int) by omega]
    exact w64_nat _ (by omega)
  have e3 : IntKind.u64.wrap ((32 - n : Nat) : Int) = ((32 - n : Nat) : Int) := by simp [IntKind.wrap, IntKind.bits, IntKind.signed]; omega
  have s1 : shr .u32 (x.toNat : Int) (n : Int) = ((x >>> UInt32.ofNat n).toNat : Int) := by
    show (x.toNat : Int) / 2 ^ min n 32 = _
    rw [Nat.min_eq_left (by omega)]
    exact bshr x n h2
  have s2 : shl .u32 (x.toNat : Int) ((32 - n : Nat) : Int) = ((x <<< UInt32.ofNat (32 - n)).toNat : Int) := by
    show IntKind.u32.wrap ((x.toNat : Int) * 2 ^ min (32 - n) 32) = _
    rw [Nat.min_eq_left (by omega)]
    have hb := bshl x (32 - n) (by omega)
    rw [← hb]
    simp only [IntKind.wrap, IntKind.bits, IntKind.signed]
    simp
  unfold cashbookref10_turn.f
  rw [e1, e2, e3, if_pos (by omega), if_pos (by omega), s1, s2, bor]
  rfl
theorem chosen_f (e f g : UInt32) : cashbookref10_chosen.f (e.toNat : Int) (f.toNat : Int) (g.toNat : Int) = some ((ch e f g).toNat : Int) := by
  unfold cashbookref10_chosen.f
  have hn : ((4294967295 : Int) - (e.toNat : Int)) % 4294967296 = ((~~~e).toNat : Int) := by
    rw [UInt32.toNat_not]
    have := e.toNat_lt
    have : UInt32.size = 4294967296 := rfl
    omega
  rw [hn, ba, ba, bor, Sha.or_xor_ch]
/-- Words as numbers. -/
def zw (l : List UInt32) : List Int := l.map fun x => (x.toNat : Int)
theorem zw_len (l : List UInt32) : (zw l).length = l.length := by simp [zw]
theorem zw_app (l m : List UInt32) : zw (l ++ m) = zw l ++ zw m := by simp [zw]
theorem zw_rd (l : List UInt32) (i : Nat) : rd (zw l) (i : Int) = ((l.getD i 0).toNat : Int) := by
  show (zw l).getD i 0 = _
  unfold zw
  rw [List.getD_eq_getElem?_getD, List.getElem?_map, List.getD_eq_getElem?_getD]
  cases l[i]? <;> rfl
theorem ss0_bits (x : UInt32) : bits .xor .u32 (bits .xor .u32 ((rotr x 7).toNat : Int) ((rotr x 18).toNat : Int)) ((x >>> UInt32.ofNat 3).toNat : Int) = ((ss0 x).toNat : Int) := by
  rw [bx (rotr x 7) (rotr x 18), bx (rotr x 7 ^^^ rotr x 18) (x >>> UInt32.ofNat 3)]
  rfl
theorem ss1_bits (x : UInt32) : bits .xor .u32 (bits .xor .u32 ((rotr x 17).toNat : Int) ((rotr x 19).toNat : Int)) ((x >>> UInt32.ofNat 10).toNat : Int) = ((ss1 x).toNat : Int) := by
  rw [bx (rotr x 17) (rotr x 19), bx (rotr x 17 ^^^ rotr x 19) (x >>> UInt32.ofNat 10)]
  rfl
theorem badd3 (a b c d : UInt32) : ((((a.toNat : Int) + (b.toNat : Int)) % 4294967296 + (c.toNat : Int)) % 4294967296 + (d.toNat : Int)) % 4294967296 = ((a + b + c + d).toNat : Int) := by
  rw [badd a b, badd (a + b) c, badd (a + b + c) d]
theorem next_run (b : List UInt8) (h : b.length = 64) : ∀ d n k, n + d = 48 → d < k →
    cashbookref10_schedule.l1 k (zw (sched b n)) ((16 + n : Nat) : Int) = some (zw (sched b 48))
  | 0, n, 0, hn, hk => by omega
  | d + 1, n, 0, hn, hk => by omega
  | 0, n, k + 1, hn, hk => by
    obtain rfl : n = 48 := by omega
    rw [cashbookref10_schedule.l1, if_neg (by omega)]
  | d + 1, n, k + 1, hn, hk => by
    have ih := next_run b h d (n + 1) k (by omega) (by omega)
    have hl := Sha.sched_len b h n
    have i15 : wrap64 (((16 + n : Nat) : Int) - 15) = ((16 + n - 15 : Nat) : Int) := by
      rw [show (((16 + n : Nat) : Int) - 15) = ((16 + n - 15 : Nat) : Int) by omega]; exact w64_nat _ (by omega)
    have i2 : wrap64 (((16 + n : Nat) : Int) - 2) = ((16 + n - 2 : Nat) : Int) := by
      rw [show (((16 + n : Nat) : Int) - 2) = ((16 + n - 2 : Nat) : Int) by omega]; exact w64_nat _ (by omega)
    have i16 : wrap64 (((16 + n : Nat) : Int) - 16) = ((16 + n - 16 : Nat) : Int) := by
      rw [show (((16 + n : Nat) : Int) - 16) = ((16 + n - 16 : Nat) : Int) by omega]; exact w64_nat _ (by omega)
    have i7 : wrap64 (((16 + n : Nat) : Int) - 7) = ((16 + n - 7 : Nat) : Int) := by
      rw [show (((16 + n : Nat) : Int) - 7) = ((16 + n - 7 : Nat) : Int) by omega]; exact w64_nat _ (by omega)
    have i1 : wrap64 (((16 + n : Nat) : Int) + 1) = ((16 + (n + 1) : Nat) : Int) := by
      rw [show (((16 + n : Nat) : Int) + 1) = ((16 + (n + 1) : Nat) : Int) by omega]; exact w64_nat _ (by omega)
    rw [cashbookref10_schedule.l1, i15, i2, i16, i7, i1, zw_len, hl, zw_rd, zw_rd, zw_rd, zw_rd]
    have t7 := turn_f ((sched b n).getD (16 + n - 15) 0) 7 (by omega) (by omega)
    have t18 := turn_f ((sched b n).getD (16 + n - 15) 0) 18 (by omega) (by omega)
    have t17 := turn_f ((sched b n).getD (16 + n - 2) 0) 17 (by omega) (by omega)
    have t19 := turn_f ((sched b n).getD (16 + n - 2) 0) 19 (by omega) (by omega)
    rw [show ((7 : Nat) : Int) = 7 from rfl] at t7
    rw [show ((18 : Nat) : Int) = 18 from rfl] at t18
    rw [show ((17 : Nat) : Int) = 17 from rfl] at t17
    rw [show ((19 : Nat) : Int) = 19 from rfl] at t19
    have s3 := bshr ((sched b n).getD (16 + n - 15) 0) 3 (by omega)
    have s10 := bshr ((sched b n).getD (16 + n - 2) 0) 10 (by omega)
    rw [show ((2 : Int) ^ 3) = 8 by decide] at s3
    rw [show ((2 : Int) ^ 10) = 1024 by decide] at s10
    rw [t7, t18, t17, t19, s3, s10]
    clear t7 t18 t17 t19 s3 s10 i15 i2 i16 i7 i1
    refine (if_pos (by omega)).trans ?_
    refine (if_pos (by omega)).trans ?_
    refine (if_pos (by omega)).trans ?_
    refine (Option.bind_some _ _).trans ?_
    refine (Option.bind_some _ _).trans ?_
    refine (if_pos (by omega)).trans ?_
    refine (if_pos (by omega)).trans ?_
    refine (Option.bind_some _ _).trans ?_
    refine (Option.bind_some _ _).trans ?_
    refine (if_pos (by omega)).trans ?_
    refine (if_pos (by omega)).trans ?_
    refine (if_pos (by omega)).trans ?_
    refine (if_pos (by omega)).trans ?_
    refine (if_pos (by omega)).trans ?_
    rw [ss0_bits, ss1_bits, badd3]
    rw [← ih]
    congr 1
    show _ = zw (sched b n ++ [nextW (sched b n) (16 + n)])
    rw [zw_app]
    rfl
theorem first_run (s : ByteArray) (h : s.data.toList.length = 64) : ∀ d j k, j + d = 16 → d + 49 < k →
    cashbookref10_schedule.l0 k s (zw ((words s.data.toList).take j)) ((4 * j : Nat) : Int) = some (zw (sched s.data.toList 48))
  | _, _, 0, hn, hk => by omega
  | 0, j, k + 1, hn, hk => by
    obtain rfl : j = 16 := by omega
    have hw := Sha.words_len 16 s.data.toList (by omega)
    rw [cashbookref10_schedule.l0, if_neg (by omega), List.take_of_length_le (by omega)]
    exact next_run s.data.toList h 48 0 k (by omega) (by omega)
  | d + 1, j, k + 1, hn, hk => by
    have ih := first_run s h d (j + 1) k (by omega) (by omega)
    have hw := Sha.words_len 16 s.data.toList (by omega)
    have hz : s.size = 64 := by rw [← h]; rfl
    have hb : ∀ i : Nat, i < 64 → bt s (i : Int) = ((s.data.toList.getD i 0).toNat : Int) := by
      intro i hi
      unfold bt
      rw [dif_pos (by show i < s.size; omega), List.getD_eq_getElem?_getD, List.getElem?_eq_getElem (by omega)]
      rfl
    have j1 : wrap64 (((4 * j : Nat) : Int) + 1) = ((4 * j + 1 : Nat) : Int) := w64_nat (4 * j + 1) (by omega)
    have j2 : wrap64 (((4 * j : Nat) : Int) + 2) = ((4 * j + 2 : Nat) : Int) := w64_nat (4 * j + 2) (by omega)
    have j3 : wrap64 (((4 * j : Nat) : Int) + 3) = ((4 * j + 3 : Nat) : Int) := w64_nat (4 * j + 3) (by omega)
    have j4 : wrap64 (((4 * j : Nat) : Int) + 4) = ((4 * (j + 1) : Nat) : Int) := w64_nat (4 * j + 4) (by omega)
    rw [cashbookref10_schedule.l0, j1, j2, j3, j4, hb (4 * j) (by omega), hb (4 * j + 1) (by omega), hb (4 * j + 2) (by omega), hb (4 * j + 3) (by omega), Sha.be_bits, hz, zw_len, List.length_take, hw]
    refine (if_pos (by omega)).trans ?_
    refine (if_pos (by omega)).trans ?_
    refine (if_pos (by omega)).trans ?_
    refine (if_pos (by omega)).trans ?_
    refine (if_pos (by omega)).trans ?_
    refine (if_pos (by omega)).trans ?_
    refine (if_pos (by omega)).trans ?_
    refine (if_pos (by omega)).trans ?_
    refine (if_pos (by omega)).trans ?_
    refine (if_pos (by omega)).trans ?_
    rw [← ih]
    congr 1
    have hj : j < (words s.data.toList).length := by omega
    have hg := Sha.words_get 16 j s.data.toList (by omega) (by omega)
    rw [List.getD_eq_getElem?_getD, List.getElem?_eq_getElem hj] at hg
    rw [List.take_succ_eq_append_getElem hj, zw_app]
    congr 1
    show _ = [(((words s.data.toList)[j]).toNat : Int)]
    rw [← hg]
    rfl
/-- What schedule(s) makes. -/
theorem sched_run (s : ByteArray) (h : s.data.toList.length = 64) : cashbookref10_schedule.f 2000 s = some (zw (sched s.data.toList 48)) := by
  unfold cashbookref10_schedule.f
  exact first_run s h 16 0 2000 (by omega) (by omega)
/-- So many bytes 0. -/
def zs (n : Nat) : ByteArray := ⟨(List.replicate n 0).toArray⟩
theorem zs_succ (n : Nat) : zs n ++ (⟨#[0]⟩ : ByteArray) = zs (n + 1) := by
  apply ByteArray.ext
  rw [ByteArray.data_append]
  show (List.replicate n 0).toArray ++ #[0] = (List.replicate (n + 1) 0).toArray
  apply Array.ext'
  rw [Array.toList_append, List.replicate_succ']
theorem zs_size (n : Nat) : (zs n).size = n := by
  show (List.replicate n 0).toArray.size = n
  simp
theorem blank_l0 (n : Nat) (hn : n < 1000000) : ∀ d j k, j + d = n → d < k → cashbookref10_blank.l0 k (n : Int) (zs j) (j : Int) = some (zs n)
  | _, _, 0, h, hk => by omega
  | 0, j, k + 1, h, hk => by
    obtain rfl : j = n := by omega
    rw [cashbookref10_blank.l0, if_neg (by omega)]
  | d + 1, j, k + 1, h, hk => by
    have ih := blank_l0 n hn d (j + 1) k (by omega) (by omega)
    rw [cashbookref10_blank.l0, if_pos (by omega), if_pos (by rw [zs_size]; omega), zs_succ, show wrap64 ((j : Int) + 1) = ((j + 1 : Nat) : Int) from w64_nat (j + 1) (by omega)]
    exact ih
theorem blank_run (n : Nat) (hn : n < 1000) : cashbookref10_blank.f 2000 (n : Int) = some (zs n) := by
  unfold cashbookref10_blank.f
  exact blank_l0 n (by omega) n 0 2000 (by omega) (by omega)
/-- The document's value of a digit is the program's. -/
theorem value_run (b : UInt8) : cashbookref10_value.f 2000 (b.toNat : Int) = some (Sha.val b) := by
  have all : ∀ m : Fin 256, cashbookref10_value.f 2000 (m.val : Int) = some (Sha.val (UInt8.ofNat m.val)) := by decide +kernel
  have := all ⟨b.toNat, b.toNat_lt⟩
  simpa using this
theorem digit_run (n : Nat) (h : n < 16) : cashbookref10_digit.f (n : Int) = some ⟨#[Sha.hd n]⟩ := by
  have all : ∀ m : Fin 16, cashbookref10_digit.f (m.val : Int) = some ⟨#[Sha.hd m.val]⟩ := by decide +kernel
  exact all ⟨n, h⟩
end Go.Proofs.YtldpnmebjnkjeaaDoor.Ref10
namespace Go.Proofs.YtldpnmebjnkjeaaDoor.Ref10
open Go.RowKit Go.Proofs.YtldpnmebjnkjeaaDoorW.PrintWords Go.Proofs.YtldpnmebjnkjeaaDoor.PH1 Go.Proofs.YtldpnmebjnkjeaaDoor Go.Proofs.YtldpnmebjnkjeaaDoorW.PrintLast Go.Proofs.YtldpnmebjnkjeaaDoorW.PrintMore
open Go.Proofs.YtldpnmebjnkjeaaDoor.Sha (hexL hd hexL_snoc hexL_len)
set_option linter.unusedVariables false
set_option linter.unusedSimpArgs false

theorem one_size (x : UInt8) : (⟨#[x]⟩ : ByteArray).size = 1 := rfl
set_option maxHeartbeats 4000000 in
set_option maxRecDepth 100000 in
theorem rhex_calls (d : List UInt8) (hd32 : d.length = 32) (w : World) :
    Calls Tryd.prog 28 #[.agg (Lib.byteCells d).toArray] w fun e w' => e = .returned (.string ⟨(hexL d).toArray⟩) ∧ Below w.heap.size w w' := by
  replace hd32 := Lib.hid hd32
  go_enter Tryd.func28, Tryd.ntmps28
  go_wp2_with (refine wpList_load_dig (o := ⟨some 6, _, _, _, _, _⟩) rfl (.tmp 1) rfl w.heap.size rfl d hd32.out 24 (0, 0) (heap_alloc_last _ _) ?_)
  generalize hw1 : w.alloc _ = w1
  have HB : Hid (Below w.heap.size w w1) := by
    rw [← hw1]; exact Lib.hid ((Below.refl _ _).alloc (Nat.le_refl _) _)
  clear hw1
  go_loopw [3, 7] (fun s i wr => ∃ (j : Nat) (t : ByteArray), j ≤ 32 ∧ s = .string t ∧ i = .int .i64 j ∧ Hid (t.data = (hexL (d.take j)).toArray) ∧ t.size ≤ 64 ∧ Hid (Below w.heap.size w wr)) (fun _ i _ => 32 - (intOf i).toNat)
  case atStart => exact ⟨0, _, by omega, rfl, rfl, Lib.hid rfl, by decide, HB⟩
  case round =>
    clear HB
    obtain ⟨j, t, hj, rfl, rfl, HT, hts, HB⟩ := hrel
    by_cases h32 : j < 32
    · have k32 : (j : Int) < 32 := by omega
      have hjd : j < d.length := by rw [hd32.out]; exact h32
      have hix : d[j]? = some d[j] := List.getElem?_eq_getElem hjd
      have htk : d.take (j + 1) = d.take j ++ [d[j]] := by rw [List.take_succ_eq_append_getElem hjd]
      have ht2 : t.size = 2 * j := by
        show t.data.size = _
        rw [HT.out]
        show (hexL (d.take j)).length = _
        rw [hexL_len, List.length_take, hd32.out]; omega
      generalize d[j] = x at hix htk
      have hrun := fun w : World => run_index_dig d hd32.out j h32 x hix w
      replace htk := Lib.hid htk
      replace hix := Lib.hid hix
      have hx1 : x.toNat / 16 < 16 := by have := x.toNat_lt; omega
      have hx2 : x.toNat % 16 < 16 := by omega
      have c1 := cashbookref10_digit.calls _ _ wr (digit_run _ hx1)
      have hxn : 0 ≤ (x.toNat : Int) := by omega
      have hxm : (x.toNat : Int) ≤ 255 := by have := x.toNat_lt; omega
      have q1 : (x.toNat : Int).tdiv 16 = ((x.toNat / 16 : Nat) : Int) := by rw [Int.tdiv_eq_ediv_of_nonneg hxn]; omega
      have q2 : (x.toNat : Int).tmod 16 = ((x.toNat % 16 : Nat) : Int) := by rw [Int.tmod_eq_emod_of_nonneg hxn]; omega
      have hz1 : (x.toNat / 16) < 16 := hx1
      have z1 := one_size (hd (x.toNat / 16))
      have z2 := one_size (hd (x.toNat % 16))
      have HA : Hid (∀ a b : UInt8, t ++ ⟨#[a]⟩ ++ ⟨#[b]⟩ = (⟨t.data ++ #[a] ++ #[b]⟩ : ByteArray)) := Lib.hid (fun a b => by
        apply ByteArray.ext; rw [ByteArray.data_append, ByteArray.data_append])
      go_wp2_with fail
      refine c1.mono ?_
      rintro e w2 ⟨rfl, hb⟩
      have c2 := cashbookref10_digit.calls _ _ w2 (digit_run _ hx2)
      replace HB := Lib.hid (HB.out.trans (hb.below.mono HB.out.size))
      clear hb c1
      go_wp2_with fail
      refine c2.mono ?_
      rintro e w3 ⟨rfl, hb⟩
      replace HB := Lib.hid (HB.out.trans (hb.below.mono HB.out.size))
      clear hb c2
      go_wp2_with fail
      refine ⟨⟨j + 1, _, by omega, rfl, by push_cast; rfl, Lib.hid ?_, ?_, HB⟩, by simp [intOf]; omega⟩
      · rw [HA.out, htk.out, hexL_snoc]
        show t.data ++ #[hd (x.toNat / 16)] ++ #[hd (x.toNat % 16)] = _
        rw [HT.out]
        apply Array.ext'
        rw [Array.toList_append, Array.toList_append]
      · rw [ByteArray.size_append, ByteArray.size_append]
        show t.size + 1 + 1 ≤ 64
        omega
    · obtain rfl : j = 32 := by omega
      rw [List.take_of_length_le (by rw [hd32.out]; omega)] at HT
      go_wp2_with fail
      go_ret
      refine ⟨?_, HB.out⟩
      have e : t = ⟨(hexL d).toArray⟩ := ByteArray.ext HT.out
      rw [← e]
      rfl
end Go.Proofs.YtldpnmebjnkjeaaDoor.Ref10
namespace Go.Proofs.YtldpnmebjnkjeaaDoor.Ref10
open Go.RowKit Go.Proofs.YtldpnmebjnkjeaaDoorW.PrintWords Go.Proofs.YtldpnmebjnkjeaaDoor.PH1 Go.Proofs.YtldpnmebjnkjeaaDoor
open Go.Proofs.YtldpnmebjnkjeaaDoor.Sha (V8 wv RowU rotr)
set_option linter.unusedVariables false
set_option linter.unusedSimpArgs false

/-! Eight words by value, whole: loads and stores. -/
def wag (v : V8) : Array Value := (v.list.map wv).toArray
theorem wag_all (v : V8) : (wag v).all (·.oneCell') = true := all_oneCell_toArray (by
  intro x hx
  rw [List.mem_map] at hx
  obtain ⟨y, _, rfl⟩ := hx
  rfl)
theorem wag_size (v : V8) : (wag v).size = 8 := rfl
theorem wpList_load_w8 {ops : Array Oper} {rest : List Oper} {o : Oper} {a : Act} {Q : Exit → Act → World → Prop} {w : World} (hgd : o.guard = none) (x : Operand) (ho : o.op = .load 29 x) (b off : Nat) (hx : a.eval x = .pointer (some ⟨b, off, none⟩))
    (v : V8) (hr : w.rangeAt b off (v.list.map wv)) (h : wpList Tryd.prog ops Q rest (a.put o.dst (.agg (wag v))) w) : wpList Tryd.prog ops Q (o :: rest) a w :=
  wpList_load_mid hgd 29 x ho b off hx (v.list.map wv) (.array 8 28) hr (by kernel_rfl) rfl (by show _ = some 8; kernel_rfl) h
theorem range_row {w : World} {g : Nat} {L : List Value} {t : TypeId} {fr : Nat × Nat} (h : w.heap[g]? = some (.cells L.toArray t fr)) : w.rangeAt g 0 L := by
  intro j v hv
  rw [Nat.zero_add, cell_of_row _ _ _ _ _ _ h]
  simpa using hv
theorem RowU.range {t : TypeId} {g : Nat} {L : List UInt32} {w : World} (h : RowU t g L w) : w.rangeAt g 0 (L.map wv) := range_row h
theorem wpList_store_w8 {ops : Array Oper} {rest : List Oper} {o : Oper} {a : Act} {Q : Exit → Act → World → Prop} {w : World} (hgd : o.guard = none) (x y : Operand) (ho : o.op = .store 29 x y) (b : Nat) (hx : a.eval x = .pointer (some ⟨b, 0, none⟩))
    (v : V8) (hy : a.eval y = .agg (wag v)) (old : Array Value) (t : TypeId) (hr : w.heap[b]? = some (.cells old t (0, 0))) (hs : old.size = 8)
    (h : ∀ w', Hid (RowU t b v.list w') → (∀ k, k ≠ b → w'.heap[k]? = w.heap[k]?) → (∀ {B : Nat} {w0 : World}, Below B w0 w → B ≤ b → Below B w0 w') → w'.heap.size = w.heap.size → wpList Tryd.prog ops Q rest (a.put o.dst undef) w') : wpList Tryd.prog ops Q (o :: rest) a w := by
  refine wpList_plain hgd fun _ hK => ?_
  unfold Oper.wp execOp
  simp only [ho, hx, hy, Instr.storeAt, Instr.sureAddr, Sem.run_bind, Sem.run_pure, Result.andThen_ok, run_storeVar_row w _ _ _ _ _ hr (show (Tryd.prog.info? 29).map (·.size) = some ((wag v)).size by rw [wag_size]; kernel_rfl) (by rw [wag_size, hs]) (wag_all v)]
  refine hK _ _ (h _ (Lib.hid (setRow_heap w b _ _ _ _ hr)) (fun k hk => setRow_other _ _ _ _ hk) (fun {B w0} hb hB => hb.trans ⟨rfl, rfl, rfl, by simp, fun k hk => setRow_other _ _ _ _ (by omega)⟩) (by simp))
theorem run_load_w8 {w : World} {b off : Nat} {v : V8} (hr : w.rangeAt b off (v.list.map wv)) :
    (loadVar 29 ⟨b, off, none⟩).run Tryd.prog w = .ok (.agg (wag v)) w :=
  run_loadVar_mid w b off 29 (v.list.map wv) (.array 8 28) hr (by kernel_rfl) rfl (by show _ = some 8; kernel_rfl)
def z8 : V8 := ⟨0, 0, 0, 0, 0, 0, 0, 0⟩
theorem z8_wag : wag z8 = #[.int .u32 0, .int .u32 0, .int .u32 0, .int .u32 0, .int .u32 0, .int .u32 0, .int .u32 0, .int .u32 0] := rfl
theorem quiet_d {P : Program} {f : FuncId} {args : Array Value} {v : Value} (h : ∀ W, Calls P f args W fun e w' => e = .returned v ∧ Drawn0 W w') {w : World} {n : Nat} : Calls P f args (w.drewN n) fun e w'' => e = .returned v ∧ ∃ m, w'' = w.drewN m :=
  Calls.quiet_of ((h _).mono fun e w' ⟨he, hd⟩ => ⟨he, by obtain ⟨m, rfl⟩ := hd; exact ⟨m, rfl⟩⟩)
theorem quiet_d1 {P : Program} {f : FuncId} {args : Array Value} {v : Value} {w : World} {n : Nat} (h : Calls P f args (w.drewN n) fun e w' => e = .returned v ∧ Drawn0 (w.drewN n) w') : Calls P f args (w.drewN n) fun e w'' => e = .returned v ∧ ∃ m, w'' = w.drewN m :=
  Calls.quiet_of (h.mono fun e w' ⟨he, hd⟩ => ⟨he, by obtain ⟨m, rfl⟩ := hd; exact ⟨m, rfl⟩⟩)
theorem rturn_calls (x : UInt32) (n : Nat) (h1 : 1 ≤ n) (h2 : n < 32) (W : World) : Calls Tryd.prog 103 #[.int .u32 (x.toNat : Int), .int .i64 (n : Int)] W fun e w' => e = .returned (.int .u32 ((rotr x n).toNat : Int)) ∧ Drawn0 W w' := cashbookref10_turn.calls _ _ _ W (turn_f x n h1 h2)
theorem rturn_6 (x : UInt32) (W : World) : Calls Tryd.prog 103 #[.int .u32 (x.toNat : Int), .int .i64 6] W fun e w' => e = .returned (.int .u32 ((rotr x 6).toNat : Int)) ∧ Drawn0 W w' := rturn_calls x 6 (by omega) (by omega) W
theorem rturn_11 (x : UInt32) (W : World) : Calls Tryd.prog 103 #[.int .u32 (x.toNat : Int), .int .i64 11] W fun e w' => e = .returned (.int .u32 ((rotr x 11).toNat : Int)) ∧ Drawn0 W w' := rturn_calls x 11 (by omega) (by omega) W
theorem rturn_25 (x : UInt32) (W : World) : Calls Tryd.prog 103 #[.int .u32 (x.toNat : Int), .int .i64 25] W fun e w' => e = .returned (.int .u32 ((rotr x 25).toNat : Int)) ∧ Drawn0 W w' := rturn_calls x 25 (by omega) (by omega) W
theorem rturn_2 (x : UInt32) (W : World) : Calls Tryd.prog 103 #[.int .u32 (x.toNat : Int), .int .i64 2] W fun e w' => e = .returned (.int .u32 ((rotr x 2).toNat : Int)) ∧ Drawn0 W w' := rturn_calls x 2 (by omega) (by omega) W
theorem rturn_13 (x : UInt32) (W : World) : Calls Tryd.prog 103 #[.int .u32 (x.toNat : Int), .int .i64 13] W fun e w' => e = .returned (.int .u32 ((rotr x 13).toNat : Int)) ∧ Drawn0 W w' := rturn_calls x 13 (by omega) (by omega) W
theorem rturn_22 (x : UInt32) (W : World) : Calls Tryd.prog 103 #[.int .u32 (x.toNat : Int), .int .i64 22] W fun e w' => e = .returned (.int .u32 ((rotr x 22).toNat : Int)) ∧ Drawn0 W w' := rturn_calls x 22 (by omega) (by omega) W
theorem rchosen_calls (e f g : UInt32) (W : World) : Calls Tryd.prog 104 #[.int .u32 (e.toNat : Int), .int .u32 (f.toNat : Int), .int .u32 (g.toNat : Int)] W fun en w' => en = .returned (.int .u32 ((Sha.ch e f g).toNat : Int)) ∧ Drawn0 W w' := cashbookref10_chosen.calls _ _ _ _ W (chosen_f e f g)
end Go.Proofs.YtldpnmebjnkjeaaDoor.Ref10
namespace Go.Proofs.YtldpnmebjnkjeaaDoor.Ref10
open Go.RowKit Go.Proofs.YtldpnmebjnkjeaaDoorW.PrintWords Go.Proofs.YtldpnmebjnkjeaaDoor.PH1 Go.Proofs.YtldpnmebjnkjeaaDoor
open Go.Proofs.YtldpnmebjnkjeaaDoor.Sha (V8 wv RowU)
set_option linter.unusedVariables false
set_option linter.unusedSimpArgs false

theorem w8_info : ∃ i j : TypeInfo, Tryd.prog.info? 29 = some i ∧ i.zero = some (.agg (wag z8)) ∧ Tryd.prog.info? 28 = some j ∧ j.size = 1 := by
  have h : (Tryd.prog.info? 29).map (fun i => i.zero) = some (some (.agg (wag z8))) := by kernel_rfl
  have h2 : (Tryd.prog.info? 28).map (fun i => i.size) = some 1 := by kernel_rfl
  cases hq : Tryd.prog.info? 29 with
  | none => rw [hq] at h; cases h
  | some i =>
    cases hp : Tryd.prog.info? 28 with
    | none => rw [hp] at h2; cases h2
    | some j =>
      rw [hq] at h
      rw [hp] at h2
      exact ⟨i, j, rfl, Option.some.inj h, rfl, Option.some.inj h2⟩
theorem fill_one (place : Nat → Option (Nat × Nat)) (cells : Array Value) (i : Nat) (v : Value) (rest : List (Nat × Value)) (off : Nat) (hp : place i = some (off, 1)) (hv : v.cells = #[v]) (hc : off < cells.size) :
    Instr.fill place cells ((i, v) :: rest) = Instr.fill place (cells.setIfInBounds off v) rest := by
  rw [Instr.fill]
  simp only [hp, hv]
  simp
  intro h; omega
theorem built_w8 (v : V8) : Tryd.prog.built 29 [(0, wv v.a), (1, wv v.b), (2, wv v.c), (3, wv v.d), (4, wv v.e), (5, wv v.f), (6, wv v.g), (7, wv v.h)] = some (wag v) := by
  obtain ⟨i, j, hi, hz, hj, hs⟩ := w8_info
  unfold Program.built
  rw [hi, show Tryd.prog.underlying 29 = some (.array 8 28) by kernel_rfl]
  simp only [hz, hj, hs]
  rw [show (Value.agg (wag z8)).cells = #[.int .u32 0, .int .u32 0, .int .u32 0, .int .u32 0, .int .u32 0, .int .u32 0, .int .u32 0, .int .u32 0] from rfl]
  rw [fill_one _ _ _ _ _ 0 rfl rfl (by simp), fill_one _ _ _ _ _ 1 rfl rfl (by simp), fill_one _ _ _ _ _ 2 rfl rfl (by simp), fill_one _ _ _ _ _ 3 rfl rfl (by simp), fill_one _ _ _ _ _ 4 rfl rfl (by simp), fill_one _ _ _ _ _ 5 rfl rfl (by simp), fill_one _ _ _ _ _ 6 rfl rfl (by simp), fill_one _ _ _ _ _ 7 rfl rfl (by simp), Instr.fill]
  simp [wag, V8.list]
theorem wpList_build_w8 {ops : Array Oper} {rest : List Oper} {o : Oper} {a : Act} {Q : Exit → Act → World → Prop} {w : World} (hgd : o.guard = none) (x0 x1 x2 x3 x4 x5 x6 x7 : Operand)
    (ho : o.op = .build 29 #[(0, x0), (1, x1), (2, x2), (3, x3), (4, x4), (5, x5), (6, x6), (7, x7)]) (v : V8)
    (h0 : a.eval x0 = .int .u32 (v.a.toNat : Int)) (h1 : a.eval x1 = .int .u32 (v.b.toNat : Int)) (h2 : a.eval x2 = .int .u32 (v.c.toNat : Int)) (h3 : a.eval x3 = .int .u32 (v.d.toNat : Int)) (h4 : a.eval x4 = .int .u32 (v.e.toNat : Int)) (h5 : a.eval x5 = .int .u32 (v.f.toNat : Int)) (h6 : a.eval x6 = .int .u32 (v.g.toNat : Int)) (h7 : a.eval x7 = .int .u32 (v.h.toNat : Int))
    (h : wpList Tryd.prog ops Q rest (a.put o.dst (.agg (wag v))) w) : wpList Tryd.prog ops Q (o :: rest) a w := by
  refine wpList_plain hgd fun _ hK => ?_
  unfold Oper.wp execOp
  simp only [ho, List.map_toArray, List.map_cons, List.map_nil, h0, h1, h2, h3, h4, h5, h6, h7]
  rw [Sem.run_bind, run_build w 29 #[(0, .int .u32 (v.a.toNat : Int)), (1, .int .u32 (v.b.toNat : Int)), (2, .int .u32 (v.c.toNat : Int)), (3, .int .u32 (v.d.toNat : Int)), (4, .int .u32 (v.e.toNat : Int)), (5, .int .u32 (v.f.toNat : Int)), (6, .int .u32 (v.g.toNat : Int)), (7, .int .u32 (v.h.toNat : Int))] (wag v) (built_w8 v)]
  exact hK _ _ h
end Go.Proofs.YtldpnmebjnkjeaaDoor.Ref10
namespace Go.Proofs.YtldpnmebjnkjeaaDoor.Ref10
open Go.RowKit Go.Proofs.YtldpnmebjnkjeaaDoorW.PrintWords Go.Proofs.YtldpnmebjnkjeaaDoor.PH1 Go.Proofs.YtldpnmebjnkjeaaDoor Go.Proofs.YtldpnmebjnkjeaaDoorW.PrintLast Go.Proofs.YtldpnmebjnkjeaaDoorW.PrintMore
open Go.Proofs.YtldpnmebjnkjeaaDoor.Sha (V8 wv RowU rotr kT sched rnds rnd takeP vadd mixL mixL_zero mixL_len mixL_get mixL_set mixL_all xo an ad rx ra rs rw32 Nr ch maj bs0 bs1 or_maj)
set_option linter.unusedVariables false
set_option linter.unusedSimpArgs false

def oo (a b : UInt32) : UInt32 := a ||| b
theorem ro (a b : UInt32) : bits .or .u32 (a.toNat : Int) (b.toNat : Int) = ((oo a b).toNat : Int) := Sha.bor a b
/-- chosen, shut. -/
def cc (a b c : UInt32) : UInt32 := ch a b c
theorem rcc (e f g : UInt32) (W : World) : Calls Tryd.prog 104 #[.int .u32 (e.toNat : Int), .int .u32 (f.toNat : Int), .int .u32 (g.toNat : Int)] W fun en w' => en = .returned (.int .u32 ((cc e f g).toNat : Int)) ∧ Drawn0 W w' := rchosen_calls e f g W
/-- A fact, shut: whnf does not open it. -/
structure Shut (p : Prop) : Prop where
  out : p
/-- An equation, shut. -/
structure EqU (a b : UInt32) : Prop where
  eq : a = b
/-- The constants' row. -/
def KC (w : World) (a : Addr) : Prop := Kd.C (Kd.int .u32) w (some a) 64 (zw kT)
theorem KC.below {w w1 : World} {a : Addr} (h : KC w a) (hb : Below w.heap.size w w1) : KC w1 a := Kd.C_below h hb
theorem at_word {w : World} {a : Addr} {L : List UInt32} {n : Nat} (h : Kd.C (Kd.int .u32) w (some a) n (zw L)) (j : Nat) (hj : j < n) : w.cell? (a.add j) = some (.int .u32 ((L.getD j 0).toNat : Int)) := by
  obtain ⟨a', he, hc⟩ := Kd.at_int h (j : Int) (by omega) (by omega)
  cases he
  rw [zw_rd, Int.toNat_natCast] at hc
  exact hc
set_option maxHeartbeats 8000000 in
set_option maxRecDepth 100000 in
theorem rtake_calls (ak : Addr) (c : Nat) (v : V8) (s : ByteArray) (hs : s.size = 64) (w : World) (hK : KC w ak) :
    Calls Tryd.prog 88 #[.slice (some ak) 64 c, .agg (wag v), .string s] w fun e w' => e = .returned (.agg (wag (takeP v s.data.toList))) ∧ Below w.heap.size w w' := by
  have hl64 : s.data.toList.length = 64 := by rw [← Lib.size_eq]; exact hs
  have hsl : (sched s.data.toList 48).length = 64 := Sha.sched_len _ hl64 48
  have hsr := sched_run s hl64
  have HK := Shut.mk hK
  have HK0 := Shut.mk hK
  clear hK hl64 hs
  go_enter Tryd.func88, Tryd.ntmps88
  go_wp2_with fail
  generalize hw1 : (w.alloc _).alloc _ = w1
  have HX : Shut (RowU 29 w.heap.size v.list w1) := by
    rw [← hw1]; refine Shut.mk ?_
    unfold RowU
    rw [Below.heap_alloc _ _ _ (by simp)]
    exact heap_alloc_last _ _
  have HR : Shut (RowU 29 (w.heap.size + 1) z8.list w1) := by
    rw [← hw1]; exact Shut.mk (Sha.heap_at1 _ _ _)
  have HB : Shut (Below w.heap.size w w1) := by
    rw [← hw1]; exact Shut.mk (((Below.refl _ _).alloc (Nat.le_refl _) _).alloc (by simp) _)
  have HS : Shut (w.heap.size + 2 ≤ w1.heap.size) := by rw [← hw1]; exact Shut.mk (by simp)
  clear hw1
  refine (cashbookref10_schedule.calls 2000 s _ w1 hsr).mono ?_
  rintro e w2 ⟨v7, rfl, hr, hb⟩
  obtain ⟨A, c7, rfl, hlc, HW⟩ := Kd.R_reads hr
  rw [zw_len, hsl] at HW hlc ⊢
  replace HX := Shut.mk (RowU.below HX.out hb)
  replace HR := Shut.mk (RowU.below HR.out hb)
  replace HB := Shut.mk (HB.out.trans (hb.mono HB.out.size))
  replace HS := Shut.mk (Nat.le_trans HS.out hb.size)
  replace HK := Shut.mk (HK.out.below HB.out)
  have hA : ∃ aw, A = some aw := by
    obtain ⟨aw, he, _⟩ := Kd.at_int HW 0 (by omega) (by omega)
    exact ⟨aw, he⟩
  obtain ⟨aw, rfl⟩ := hA
  replace HW := Shut.mk HW
  clear hb hr hsr
  replace hsl := Shut.mk hsl
  go_wp2_with (first | (refine wpList_load_w8 (o := ⟨some 15, _, _, _, _, _⟩) rfl (.tmp 4) rfl w.heap.size 0 rfl v (RowU.range HX.out) ?_) | (refine wpList_store_w8 rfl (.tmp 8) (.tmp 15) rfl w2.heap.size rfl v rfl (wag z8) 29 (heap_alloc_last w2 _) rfl ?_; intro w3 h9 hk9 hB9 hs9))
  have hb := hB9 ((Below.refl _ _).alloc (Nat.le_refl _) _) (Nat.le_refl _)
  have HV : Shut (RowU 29 w2.heap.size (rnds kT (sched s.data.toList 48) v 0).list w3) := ⟨h9.out⟩
  have hg : w.heap.size + 2 ≤ w2.heap.size := HS.out
  have hfk : Shut (ak.block ≠ w2.heap.size) := ⟨Kd.far_C (enc := Value.int .u32) 0 HK0.out (by omega) ak rfl (by omega)⟩
  have hfw : Shut (aw.block ≠ w2.heap.size) := ⟨Kd.far_C (enc := Value.int .u32) 0 HW.out (Nat.le_refl _) aw rfl (by omega)⟩
  replace HX := Shut.mk (RowU.below HX.out hb)
  replace HR := Shut.mk (RowU.below HR.out hb)
  replace HB := Shut.mk (HB.out.trans (hb.mono HB.out.size))
  replace HK := Shut.mk (HK.out.below hb)
  replace HW := Shut.mk (Kd.C_below HW.out hb)
  generalize w2.heap.size = g at HV hg hfk hfw ⊢
  clear hb h9 hk9 hB9 hs9 HS
  go_loopw [9] (fun i wx => ∃ t : Nat, t ≤ 64 ∧ i = .int .i64 t ∧ Shut (KC wx ak) ∧ Shut (Kd.C (Kd.int .u32) wx (some aw) 64 (zw (sched s.data.toList 48))) ∧ Shut (RowU 29 w.heap.size v.list wx) ∧ Shut (RowU 29 (w.heap.size + 1) z8.list wx) ∧ Shut (RowU 29 g (rnds kT (sched s.data.toList 48) v t).list wx) ∧ Shut (Below w.heap.size w wx)) (fun i _ => 64 - (intOf i).toNat)
  case atStart => exact ⟨0, by omega, rfl, HK, HW, HX, HR, HV, HB⟩
  case round =>
    clear HK HW HX HR HV HB
    obtain ⟨t, ht, rfl, HK, HW, HX, HR, HV, HB⟩ := hrel
    by_cases h64 : t < 64
    · as_aux_lemma =>
        have k64 : (t : Int) < 64 := by omega
        have HN : Nr (rnds kT (sched s.data.toList 48) v (t + 1)) _ _ _ := ⟨rfl⟩
        have ck := at_word HK.out t h64
        have cw := at_word HW.out t h64
        generalize rnds kT (sched s.data.toList 48) v t = x at HN HV
        generalize kT.getD t 0 = kk at HN ck
        generalize (sched s.data.toList 48).getD t 0 = ww at HN cw
        have x0 : wr.cell? ⟨g, 0, none⟩ = some (.int .u32 (x.a.toNat : Int)) := HV.out.cell 0 (by show 0 < 8; omega)
        have x1 : wr.cell? ⟨g, 1, none⟩ = some (.int .u32 (x.b.toNat : Int)) := HV.out.cell 1 (by show 1 < 8; omega)
        have x2 : wr.cell? ⟨g, 2, none⟩ = some (.int .u32 (x.c.toNat : Int)) := HV.out.cell 2 (by show 2 < 8; omega)
        have x3 : wr.cell? ⟨g, 3, none⟩ = some (.int .u32 (x.d.toNat : Int)) := HV.out.cell 3 (by show 3 < 8; omega)
        have x4 : wr.cell? ⟨g, 4, none⟩ = some (.int .u32 (x.e.toNat : Int)) := HV.out.cell 4 (by show 4 < 8; omega)
        have x5 : wr.cell? ⟨g, 5, none⟩ = some (.int .u32 (x.f.toNat : Int)) := HV.out.cell 5 (by show 5 < 8; omega)
        have x6 : wr.cell? ⟨g, 6, none⟩ = some (.int .u32 (x.g.toNat : Int)) := HV.out.cell 6 (by show 6 < 8; omega)
        have x7 : wr.cell? ⟨g, 7, none⟩ = some (.int .u32 (x.h.toNat : Int)) := HV.out.cell 7 (by show 7 < 8; omega)
        have RX := rx
        have RA := ra
        have RO := ro
        have RS := rw32
        have RM := rs
        have nt : (t : Int).toNat = t := by omega
        go_wp2_with fail
        go_quiet ((first | (with_reducible exact quiet_d (rturn_6 x.e)) | (with_reducible exact quiet_d (rturn_11 x.e)) | (with_reducible exact quiet_d (rturn_25 x.e)) | (with_reducible exact quiet_d (rcc x.e x.f x.g))))
        clear ck cw x0 x1 x2 x3 x4 x5 x6 x7
        replace HK : Shut (KC (wr.drewN nq) ak) := Shut.mk (HK.out.below (Drawn0.below ⟨nq, rfl⟩))
        replace HW : Shut (Kd.C (Kd.int .u32) (wr.drewN nq) (some aw) 64 (zw (sched s.data.toList 48))) := Shut.mk (Kd.C_below HW.out (Drawn0.below ⟨nq, rfl⟩))
        replace HX : Shut (RowU 29 w.heap.size v.list (wr.drewN nq)) := HX
        replace HR : Shut (RowU 29 (w.heap.size + 1) z8.list (wr.drewN nq)) := HR
        replace HV : Shut (RowU 29 g x.list (wr.drewN nq)) := HV
        replace HB : Shut (Below w.heap.size w (wr.drewN nq)) := Shut.mk (HB.out.trans (Below.mono (Drawn0.below ⟨nq, rfl⟩) HB.out.size))
        generalize wr.drewN nq = w6 at HK HW HX HR HV HB ⊢
        have x0 : w6.cell? ⟨g, 0, none⟩ = some (.int .u32 (x.a.toNat : Int)) := HV.out.cell 0 (by show 0 < 8; omega)
        have x1 : w6.cell? ⟨g, 1, none⟩ = some (.int .u32 (x.b.toNat : Int)) := HV.out.cell 1 (by show 1 < 8; omega)
        have x2 : w6.cell? ⟨g, 2, none⟩ = some (.int .u32 (x.c.toNat : Int)) := HV.out.cell 2 (by show 2 < 8; omega)
        have x3 : w6.cell? ⟨g, 3, none⟩ = some (.int .u32 (x.d.toNat : Int)) := HV.out.cell 3 (by show 3 < 8; omega)
        have x4 : w6.cell? ⟨g, 4, none⟩ = some (.int .u32 (x.e.toNat : Int)) := HV.out.cell 4 (by show 4 < 8; omega)
        have x5 : w6.cell? ⟨g, 5, none⟩ = some (.int .u32 (x.f.toNat : Int)) := HV.out.cell 5 (by show 5 < 8; omega)
        have x6 : w6.cell? ⟨g, 6, none⟩ = some (.int .u32 (x.g.toNat : Int)) := HV.out.cell 6 (by show 6 < 8; omega)
        have x7 : w6.cell? ⟨g, 7, none⟩ = some (.int .u32 (x.h.toNat : Int)) := HV.out.cell 7 (by show 7 < 8; omega)
        go_wp2_with fail
        go_quiet ((first | (with_reducible exact quiet_d (rturn_2 x.a)) | (with_reducible exact quiet_d (rturn_13 x.a)) | (with_reducible exact quiet_d (rturn_22 x.a))))
        clear x0 x1 x2 x3 x4 x5 x6 x7
        replace HK : Shut (KC (w6.drewN nq) ak) := Shut.mk (HK.out.below (Drawn0.below ⟨nq, rfl⟩))
        replace HW : Shut (Kd.C (Kd.int .u32) (w6.drewN nq) (some aw) 64 (zw (sched s.data.toList 48))) := Shut.mk (Kd.C_below HW.out (Drawn0.below ⟨nq, rfl⟩))
        replace HX : Shut (RowU 29 w.heap.size v.list (w6.drewN nq)) := HX
        replace HR : Shut (RowU 29 (w.heap.size + 1) z8.list (w6.drewN nq)) := HR
        replace HV : Shut (RowU 29 g x.list (w6.drewN nq)) := HV
        replace HB : Shut (Below w.heap.size w (w6.drewN nq)) := Shut.mk (HB.out.trans (Below.mono (Drawn0.below ⟨nq, rfl⟩) HB.out.size))
        generalize w6.drewN nq = w7 at HK HW HX HR HV HB ⊢
        have x0 : w7.cell? ⟨g, 0, none⟩ = some (.int .u32 (x.a.toNat : Int)) := HV.out.cell 0 (by show 0 < 8; omega)
        have x1 : w7.cell? ⟨g, 1, none⟩ = some (.int .u32 (x.b.toNat : Int)) := HV.out.cell 1 (by show 1 < 8; omega)
        have x2 : w7.cell? ⟨g, 2, none⟩ = some (.int .u32 (x.c.toNat : Int)) := HV.out.cell 2 (by show 2 < 8; omega)
        have x3 : w7.cell? ⟨g, 3, none⟩ = some (.int .u32 (x.d.toNat : Int)) := HV.out.cell 3 (by show 3 < 8; omega)
        have x4 : w7.cell? ⟨g, 4, none⟩ = some (.int .u32 (x.e.toNat : Int)) := HV.out.cell 4 (by show 4 < 8; omega)
        have x5 : w7.cell? ⟨g, 5, none⟩ = some (.int .u32 (x.f.toNat : Int)) := HV.out.cell 5 (by show 5 < 8; omega)
        have x6 : w7.cell? ⟨g, 6, none⟩ = some (.int .u32 (x.g.toNat : Int)) := HV.out.cell 6 (by show 6 < 8; omega)
        have x7 : w7.cell? ⟨g, 7, none⟩ = some (.int .u32 (x.h.toNat : Int)) := HV.out.cell 7 (by show 7 < 8; omega)
        generalize hp_ : (ad (ad (ad (ad x.h kk) ww) (xo (xo (rotr x.e 6) (rotr x.e 11)) (rotr x.e 25))) (cc x.e x.f x.g)) = p
        generalize hq_ : (ad (xo (xo (rotr x.a 2) (rotr x.a 13)) (rotr x.a 22)) (oo (oo (an x.a x.b) (an x.a x.c)) (an x.b x.c))) = q
        replace hp_ : EqU _ _ := ⟨hp_⟩
        replace hq_ : EqU _ _ := ⟨hq_⟩
        clear RX RA RO
        iterate 60 (first | go_values | go_skip | go_guarded | go_step | go_upon | go_back)
        refine wpList_build_w8 (o := ⟨some 100, _, _, _, _, _⟩) rfl (.tmp 83) (.tmp 85) (.tmp 87) (.tmp 89) (.tmp 93) (.tmp 95) (.tmp 97) (.tmp 99) rfl ⟨ad p q, x.a, x.b, x.c, ad x.d p, x.e, x.f, x.g⟩ rfl rfl rfl rfl rfl rfl rfl rfl ?_
        refine wpList_store_w8 (o := ⟨none, .store 29 (.tmp 8) (.tmp 100), _, _, _, _⟩) rfl (.tmp 8) (.tmp 100) rfl g rfl ⟨ad p q, x.a, x.b, x.c, ad x.d p, x.e, x.f, x.g⟩ rfl _ _ HV.out rfl ?_
        intro w8 h8 hk8 hB8 hs8
        clear RS RM x0 x1 x2 x3 x4 x5 x6 x7
        go_wp2_with fail
        go_roundw
        case rel =>
          refine ⟨t + 1, by omega, by go_num, Shut.mk ?_, Shut.mk ?_, Shut.mk ?_, Shut.mk ?_, Shut.mk ?_, Shut.mk (hB8 HB.out (by omega))⟩
          · exact Kd.C_keep (enc := Value.int .u32) 0 HK.out ⟨Nat.le_of_eq hs8.symm, fun i hi hne _ => hk8 i hne⟩ (fun ad' he _ => by cases he; exact hfk.out)
          · exact Kd.C_keep (enc := Value.int .u32) 0 HW.out ⟨Nat.le_of_eq hs8.symm, fun i hi hne _ => hk8 i hne⟩ (fun ad' he _ => by cases he; exact hfw.out)
          · exact (hk8 _ (by omega)).trans HX.out
          · exact (hk8 _ (by omega)).trans HR.out
          · rw [HN.eq]
            have e : rnd x kk ww = ⟨ad p q, x.a, x.b, x.c, ad x.d p, x.e, x.f, x.g⟩ := by
              rw [← hp_.eq, ← hq_.eq]
              show _ = V8.mk (x.h + kk + ww + bs1 x.e + ch x.e x.f x.g + (bs0 x.a + (x.a &&& x.b ||| x.a &&& x.c ||| x.b &&& x.c))) _ _ _ (x.d + (x.h + kk + ww + bs1 x.e + ch x.e x.f x.g)) _ _ _
              rw [or_maj]
              rfl
            rw [e]
            exact h8.out
        case measure => simp [intOf]; omega
    · obtain rfl : t = 64 := by omega
      clear h64 ht HK HW HK0 hfk hfw
      have HT : takeP v s.data.toList = vadd v (rnds kT (sched s.data.toList 48) v 64) := rfl
      generalize rnds kT (sched s.data.toList 48) v 64 = y at HV HT
      replace HT : Shut _ := ⟨HT⟩
      replace HX : Shut (RowU 29 w.heap.size (mixL v.list y.list 0) wr) := ⟨HX.out⟩
      go_wp2_with fail
      go_loopw [101] (fun i wx => ∃ t : Nat, t ≤ 8 ∧ i = .int .i64 t ∧ Shut (RowU 29 w.heap.size (mixL v.list y.list t) wx) ∧ Shut (RowU 29 (w.heap.size + 1) z8.list wx) ∧ Shut (RowU 29 g y.list wx) ∧ Shut (Below w.heap.size w wx)) (fun i _ => 8 - (intOf i).toNat)
      case atStart => exact ⟨0, by omega, rfl, HX, HR, HV, HB⟩
      case round =>
        clear HX HR HV HB
        obtain ⟨t, ht, rfl, HX, HR, HV, HB⟩ := hrel
        by_cases h8 : t < 8
        · as_aux_lemma =>
            have k8 : (t : Int) < 8 := by omega
            have hl8 : v.list.length = y.list.length := rfl
            have hml : (mixL v.list y.list t).length = 8 := mixL_len _ _ hl8 _ (by show t ≤ 8; omega)
            have hmg := mixL_get v.list y.list hl8 t h8
            have hms := mixL_set v.list y.list hl8 t h8
            have hmt : t < (mixL v.list y.list t).length := by omega
            replace hml := Lib.hid hml
            replace hl8 := Lib.hid hl8
            have c0 := HX.out.cell t hmt
            rw [hmg] at c0
            clear hmg
            have c1 := HV.out.cell t (by show t < 8; omega)
            have f0 := HX.out.f
            generalize v.list.getD t 0 = a0 at c0 hms
            generalize y.list.getD t 0 = b0 at c1 hms
            replace hms : Shut _ := ⟨hms⟩
            have RM := rs
            go_wp2_with fail
            go_region
            go_wp2_with fail
            clear RM
            go_roundw
            case rel =>
              refine ⟨t + 1, by omega, by go_num, Shut.mk ?_, Shut.mk ?_, Shut.mk ?_, Shut.mk ?_⟩
              · rw [← hms.out]
                exact (HX.out.set t (a0 + b0)).drew
              · exact (HR.out.far (by simp) _).drew
              · exact (HV.out.far (by simp; omega) _).drew
              · exact (HB.out.setCell (by simp) _).drew
            case measure => simp [intOf]; omega
        · obtain rfl : t = 8 := by omega
          have hmx : mixL v.list y.list 8 = (vadd v y).list := rfl
          rw [hmx] at HX
          clear hmx
          generalize vadd v y = z at HX HT
          go_wp2_with (first | (refine wpList_load_w8 (o := ⟨some 114, _, _, _, _, _⟩) rfl (.tmp 4) rfl w.heap.size 0 rfl z (RowU.range HX.out) ?_) | (refine wpList_store_w8 rfl (.tmp 6) (.tmp 114) rfl (w.heap.size + 1) rfl z rfl (wag z8) 29 HR.out rfl ?_; intro w9 h9 hk9 hB9 hs9))
          refine bodyPost_ret (v := .agg (wag z)) ?_ rfl ⟨by rw [HT.out], hB9 HB.out (by omega)⟩
          simp [results, Tryd.results88, asAddr, run_load_w8 (RowU.range h9.out), Act.put]
end Go.Proofs.YtldpnmebjnkjeaaDoor.Ref10
namespace Go.Proofs.YtldpnmebjnkjeaaDoor.Ref10
open Go.RowKit Go.Proofs.YtldpnmebjnkjeaaDoorW.PrintWords Go.Proofs.YtldpnmebjnkjeaaDoor.PH1 Go.Proofs.YtldpnmebjnkjeaaDoor
open Go.Proofs.YtldpnmebjnkjeaaDoor.Sha (V8 wv RowU)
set_option linter.unusedVariables false
set_option linter.unusedSimpArgs false

/-! Single operations of a drawn region: loads and stores of whole arrays. -/
theorem wpOp_wp {P : Program} {ops : Array Oper} {Q : Exit → Act → World → Prop} {i : Nat} {o : Oper} {a : Act} {w : World} {K : Act → World → Prop} (hi : ops[i]? = some o) (hw : Region.wanted o (yielded ops a.tmps) = true) (h : o.wp P a w K Q) : wpOp P ops Q i K a w := by
  unfold wpOp
  simp only [hi, hw, if_true]
  exact .inl h
theorem wp_load_w8 {o : Oper} {a : Act} {K : Act → World → Prop} {Q : Exit → Act → World → Prop} {w : World} (x : Operand) (ho : o.op = .load 29 x) (b off : Nat) (hx : a.eval x = .pointer (some ⟨b, off, none⟩))
    (v : V8) (hr : w.rangeAt b off (v.list.map wv)) (h : K (a.put o.dst (.agg (wag v))) w) : o.wp Tryd.prog a w K Q :=
  wp_load_mid 29 x ho b off hx (v.list.map wv) (.array 8 28) hr (by kernel_rfl) rfl (by show _ = some 8; kernel_rfl) h
theorem wp_store_w8 {o : Oper} {a : Act} {K : Act → World → Prop} {Q : Exit → Act → World → Prop} {w : World} (x y : Operand) (ho : o.op = .store 29 x y) (b : Nat) (hx : a.eval x = .pointer (some ⟨b, 0, none⟩))
    (v : V8) (hy : a.eval y = .agg (wag v)) (old : Array Value) (t : TypeId) (hr : w.heap[b]? = some (.cells old t (0, 0))) (hs : old.size = 8)
    (h : ∀ w', Hid (RowU t b v.list w') → (∀ k, k ≠ b → w'.heap[k]? = w.heap[k]?) → (∀ {B : Nat} {w0 : World}, Below B w0 w → B ≤ b → Below B w0 w') → w'.heap.size = w.heap.size → K (a.put o.dst undef) w') : o.wp Tryd.prog a w K Q := by
  unfold Oper.wp execOp
  simp only [ho, hx, hy, Instr.storeAt, Instr.sureAddr, Sem.run_bind, Sem.run_pure, Result.andThen_ok, run_storeVar_row w _ _ _ _ _ hr (show (Tryd.prog.info? 29).map (·.size) = some ((wag v)).size by rw [wag_size]; kernel_rfl) (by rw [wag_size, hs]) (wag_all v)]
  exact h _ (Lib.hid (setRow_heap w b _ _ _ _ hr)) (fun k hk => setRow_other _ _ _ _ hk) (fun {B w0} hb hB => hb.trans ⟨rfl, rfl, rfl, by simp, fun k hk => setRow_other _ _ _ _ (by omega)⟩) (by simp)
theorem wp_load_dig {o : Oper} {a : Act} {K : Act → World → Prop} {Q : Exit → Act → World → Prop} {w : World} (x : Operand) (ho : o.op = .load 24 x) (b off : Nat) (hx : a.eval x = .pointer (some ⟨b, off, none⟩))
    (l : List UInt8) (hl : l.length = 32) (hr : w.rangeAt b off (Lib.byteCells l)) (h : K (a.put o.dst (.agg (Lib.byteCells l).toArray)) w) : o.wp Tryd.prog a w K Q :=
  wp_load_mid 24 x ho b off hx (Lib.byteCells l) (.array 32 5) hr (by kernel_rfl) rfl (by rw [Lib.byteCells, List.length_map, hl]; kernel_rfl) h
theorem wp_store_dig {o : Oper} {a : Act} {K : Act → World → Prop} {Q : Exit → Act → World → Prop} {w : World} (x y : Operand) (ho : o.op = .store 24 x y) (b : Nat) (hx : a.eval x = .pointer (some ⟨b, 0, none⟩))
    (l : List UInt8) (hl : l.length = 32) (hy : a.eval y = .agg (Lib.byteCells l).toArray) (old : Array Value) (t : TypeId) (hr : w.heap[b]? = some (.cells old t (0, 0))) (hs : old.size = 32)
    (h : ∀ w', Hid (w'.heap[b]? = some (.cells (Lib.byteCells l).toArray t (0, 0))) → (∀ k, k ≠ b → w'.heap[k]? = w.heap[k]?) → (∀ {B : Nat} {w0 : World}, Below B w0 w → B ≤ b → Below B w0 w') → w'.heap.size = w.heap.size → K (a.put o.dst undef) w') : o.wp Tryd.prog a w K Q := by
  have hX : ((Lib.byteCells l).toArray).size = 32 := by rw [List.size_toArray, Lib.byteCells, List.length_map, hl]
  unfold Oper.wp execOp
  simp only [ho, hx, hy, Instr.storeAt, Instr.sureAddr, Sem.run_bind, Sem.run_pure, Result.andThen_ok, run_storeVar_row w _ _ _ _ _ hr (show (Tryd.prog.info? 24).map (·.size) = some ((Lib.byteCells l).toArray).size by rw [hX]; kernel_rfl) (by rw [hX, hs]) (all_bytes l)]
  exact h _ (Lib.hid (setRow_heap w b _ _ _ _ hr)) (fun k hk => setRow_other _ _ _ _ hk) (fun {B w0} hb hB => hb.trans ⟨rfl, rfl, rfl, by simp, fun k hk => setRow_other _ _ _ _ (by omega)⟩) (by simp)
end Go.Proofs.YtldpnmebjnkjeaaDoor.Ref10
namespace Go.Proofs.YtldpnmebjnkjeaaDoor.Ref10
open Go.RowKit Go.Proofs.YtldpnmebjnkjeaaDoorW.PrintWords Go.Proofs.YtldpnmebjnkjeaaDoor.PH1 Go.Proofs.YtldpnmebjnkjeaaDoor Go.Proofs.YtldpnmebjnkjeaaDoorW.PrintLast Go.Proofs.YtldpnmebjnkjeaaDoorW.PrintMore
open Go.Proofs.YtldpnmebjnkjeaaDoor.Sha (V8 wv RowU takeP feedP feedP_lt feedP_ge)
set_option linter.unusedVariables false
set_option linter.unusedSimpArgs false

set_option maxHeartbeats 4000000 in
set_option maxRecDepth 100000 in
theorem rall_calls (ak : Addr) (c : Nat) (v : V8) (s : ByteArray) (hs : s.size ≤ 4294967296) (w : World) (hK : KC w ak) :
    Calls Tryd.prog 57 #[.slice (some ak) 64 c, .agg (wag v), .string s] w fun e w' => e = .returned (.tuple #[.agg (wag (feedP v s.data.toList).1), .string ⟨(feedP v s.data.toList).2.toArray⟩]) ∧ Below w.heap.size w w' := by
  have hr : feedP v s.data.toList = feedP v s.data.toList := rfl
  generalize hF : feedP v s.data.toList = F at hr
  clear hr
  replace hF : Shut _ := ⟨hF⟩
  have HK0 := Shut.mk hK
  clear hK
  go_enter Tryd.func57, Tryd.ntmps57
  go_wp2_with fail
  generalize hw1 : (w.alloc _).alloc _ = w1
  have HX : Hid (RowU 29 w.heap.size v.list w1) := by
    rw [← hw1]; refine Lib.hid ?_
    unfold RowU
    rw [Below.heap_alloc _ _ _ (by simp)]
    exact heap_alloc_last _ _
  have HR : Hid (RowU 29 (w.heap.size + 1) z8.list w1) := by
    rw [← hw1]; exact Lib.hid (Sha.heap_at1 _ _ _)
  have HB : Hid (Below w.heap.size w w1) := by
    rw [← hw1]; exact Lib.hid (((Below.refl _ _).alloc (Nat.le_refl _) _).alloc (by simp) _)
  have hs' := Lib.hid hs
  clear hw1 hs
  go_loopw [2] (fun x wx => ∃ (u : V8) (r : ByteArray), x = .string r ∧ Hid (r.size ≤ 4294967296) ∧ Shut (feedP u r.data.toList = F) ∧ Hid (RowU 29 w.heap.size u.list wx) ∧ Hid (RowU 29 (w.heap.size + 1) z8.list wx) ∧ Hid (Below w.heap.size w wx)) (fun x _ => match x with | .string r => r.size | _ => 0)
  case atStart => exact ⟨v, s, rfl, hs', hF, HX, HR, HB⟩
  case round =>
    clear HX HR HB hs' hF
    obtain ⟨u, r, rfl, hs, hF, HX, HR, HB⟩ := hrel
    by_cases h64 : 64 ≤ r.size
    · have h64' : (64 : Int) ≤ (r.size : Int) := by omega
      have hs2 : (r.size : Int) ≤ 9223372036854775807 := by have := hs.out; omega
      have hb64 : (r.extract 0 64).size = 64 := by rw [ByteArray.size_extract]; omega
      replace hb64 := Lib.hid hb64
      go_wp2_with fail
      refine wp_region_any (by kernel_rfl) ?_
      change wpAny _ _ _ _ _ _ _ wr.drew
      refine wpAny_take (i := 0) (v := ?_) rfl (by kernel_rfl) (by kernel_rfl) (by kernel_rfl) (fun _ _ _ h => h) (Or.inl ⟨by rfl, ?_⟩) ?_
      rotate_left
      · intro v; go_simp; first | done | with_reducible rfl
      rotate_left
      simp only [Act.put, List.setIfInBounds_toArray, List.set_cons_zero, List.set_cons_succ]
      refine wpAny_take (i := 2) (v := ?_) rfl (by kernel_rfl) (by kernel_rfl) (by kernel_rfl) (fun _ _ _ h => h) (Or.inl ⟨by rfl, ?_⟩) ?_
      rotate_left
      · intro v; go_simp; first | done | with_reducible rfl
      rotate_left
      simp only [Act.put, List.setIfInBounds_toArray, List.set_cons_zero, List.set_cons_succ]
      refine wpAny_take (i := 3) (v := ?_) rfl (by kernel_rfl) (by kernel_rfl) (by kernel_rfl) (fun _ _ _ h => h) (Or.inl ⟨by rfl, ?_⟩) ?_
      rotate_left
      · intro v; go_simp; first | done | with_reducible rfl
      rotate_left
      simp only [Act.put, List.setIfInBounds_toArray, List.set_cons_zero, List.set_cons_succ]
      refine wpAny_all (rs := [1]) (by kernel_rfl) (by simp) ?_
      intro i hi
      simp only [List.mem_cons, List.not_mem_nil, or_false] at hi
      subst hi
      refine wpOp_wp rfl (by rfl) ?_
      refine wp_load_w8 (.tmp 4) rfl w.heap.size 0 rfl u (RowU.range (w := wr.drew) HX.out) ?_
      simp only [Act.put, List.setIfInBounds_toArray, List.set_cons_zero, List.set_cons_succ]
      refine wpAny_all (rs := [4]) (by kernel_rfl) (by simp) ?_
      intro i hi
      simp only [List.mem_cons, List.not_mem_nil, or_false] at hi
      subst hi
      refine wpOp_wp rfl (by rfl) ?_
      go_simp
      refine (rtake_calls ak c u (r.extract 0 64) hb64.out wr.drew (HK0.out.below HB.out.drew)).mono ?_
      rintro e w2 ⟨rfl, hb⟩
      have HX2 := Lib.hid (RowU.below (w := wr.drew) HX.out hb)
      have HR2 := Lib.hid (RowU.below (w := wr.drew) HR.out hb)
      have HB2 := Lib.hid (HB.out.drew.trans (Below.mono hb HB.out.size))
      clear hb HX HR HB
      simp only [Act.put, List.setIfInBounds_toArray, List.set_cons_zero, List.set_cons_succ]
      refine wpAny_all (rs := [5]) (by kernel_rfl) (by simp) ?_
      intro i hi
      simp only [List.mem_cons, List.not_mem_nil, or_false] at hi
      subst hi
      refine wpOp_wp rfl (by rfl) ?_
      refine wp_store_w8 (.tmp 4) (.tmp 15) rfl w.heap.size rfl _ rfl _ _ HX2.out rfl ?_
      intro w3 h9 hk9 hB9 hs9
      simp only [Act.put, List.setIfInBounds_toArray, List.set_cons_zero, List.set_cons_succ]
      refine wpAny_done (by kernel_rfl) ?_ _
      go_wp2_with fail
      go_roundw
      case rel =>
        have hl : r.size = r.data.toList.length := Lib.size_eq r
        refine ⟨_, _, rfl, Lib.hid (by have := hs.out; rw [ByteArray.size_extract]; omega), ⟨?_⟩, h9, Lib.hid ((hk9 _ (by omega)).trans HR2.out), Lib.hid (hB9 HB2.out (Nat.le_refl _))⟩
        rw [← hF.out, feedP_ge u r.data.toList (by omega), Lib.extract_data, Lib.extract_data, List.drop_zero, Nat.sub_zero]
        congr 2
        rw [List.take_of_length_le (by rw [List.length_drop]; omega)]
      case measure => simp; omega
    · have h64' : (r.size : Int) < 64 := by omega
      have hl : r.size = r.data.toList.length := Lib.size_eq r
      have hF2 : F = (u, r.data.toList) := by rw [← hF.out, feedP_lt u _ (by omega)]
      replace hl := Lib.hid hl
      go_wp2_with (first | (refine wpList_load_w8 (o := ⟨some 18, _, _, _, _, _⟩) rfl (.tmp 4) rfl w.heap.size 0 rfl u (RowU.range HX.out) ?_) | (refine wpList_store_w8 rfl (.tmp 6) (.tmp 18) rfl (w.heap.size + 1) rfl u rfl (wag z8) 29 HR.out rfl ?_; intro w9 h9 hk9 hB9 hs9))
      subst hF2
      refine bodyPost_ret (v := .tuple #[.agg (wag u), .string r]) ?_ rfl ⟨rfl, hB9 HB.out (by omega)⟩
      simp [results, Tryd.results57, asAddr, run_load_w8 (RowU.range h9.out), Act.put]
end Go.Proofs.YtldpnmebjnkjeaaDoor.Ref10
namespace Go.Proofs.YtldpnmebjnkjeaaDoor.Ref10
open Go.RowKit Go.Proofs.YtldpnmebjnkjeaaDoorW.PrintWords Go.Proofs.YtldpnmebjnkjeaaDoor.PH1 Go.Proofs.YtldpnmebjnkjeaaDoor Go.Proofs.YtldpnmebjnkjeaaDoorW.PrintLast Go.Proofs.YtldpnmebjnkjeaaDoorW.PrintMore
open Go.Proofs.YtldpnmebjnkjeaaDoor.Sha (V8 wv RowU tailL tailN bt8 tailN_next tailN_all tailN_len be8)
set_option linter.unusedVariables false
set_option linter.unusedSimpArgs false

theorem conv_one (b : UInt8) {W : World} {g : Nat} {ty : TypeId} {fr : Nat × Nat} (h : W.heap[g]? = some (.cells #[.int .u8 (b.toNat : Int)] ty fr)) : (convert 22 9 (.slice (some ⟨g, 0, none⟩) 1 1)).run Tryd.prog W = .ok (.string ⟨#[b]⟩) W := by
  refine Go.run_convert_bytes_back _ 22 9 5 ⟨_, 0, none⟩ 1 [b] (by kernel_rfl) (by kernel_rfl) (by kernel_rfl) ?_
  intro j hj
  obtain rfl : j = 0 := by simp at hj; omega
  show W.cell? ⟨g, 0, none⟩ = _
  rw [cell_of_row _ _ _ _ _ _ h]
  rfl
theorem conv_128 (W : World) (ty : TypeId) : (convert 22 9 (.slice (some ⟨W.heap.size, 0, none⟩) 1 1)).run Tryd.prog (W.alloc (.cells #[.int .u8 128] ty (0, 0))) = .ok (.string ⟨#[128]⟩) (W.alloc (.cells #[.int .u8 128] ty (0, 0))) := conv_one 128 (heap_alloc_last _ _)
theorem conv_128e (W : World) (ty : TypeId) : (convert 22 9 (.slice (some ⟨W.heap.size, 0, none⟩) 1 1)).run Tryd.prog (W.alloc (.cells #[.int .u8 128] ty (0, 0))).drew = .ok (.string ⟨#[128]⟩) (W.alloc (.cells #[.int .u8 128] ty (0, 0))).drew := conv_one 128 (W := (W.alloc (.cells #[.int .u8 128] ty (0, 0))).drew) (heap_alloc_last W _)
theorem conv_128d {W w3 : World} {ty : TypeId} (hb : Drawn0 (W.alloc (.cells #[.int .u8 128] ty (0, 0))).drew w3) : (convert 22 9 (.slice (some ⟨W.heap.size, 0, none⟩) 1 1)).run Tryd.prog w3 = .ok (.string ⟨#[128]⟩) w3 := conv_one 128 (blk_below (show (W.alloc (.cells #[.int .u8 128] ty (0, 0))).drew.heap[W.heap.size]? = _ from heap_alloc_last W _) hb.below)
set_option maxHeartbeats 4000000 in
set_option maxRecDepth 100000 in
theorem rtail_calls (n : Nat) (hn : n ≤ 1048576) (w : World) :
    Calls Tryd.prog 59 #[.int .i64 n] w fun e w' => e = .returned (.string ⟨(tailL n).toArray⟩) ∧ Below w.heap.size w w' := by
  have hbk := blank_run ((119 - n % 64) % 64) (by omega)
  have hbl := fun W => cashbookref10_blank.calls 2000 _ _ W hbk
  have hzs := zs_size ((119 - n % 64) % 64)
  generalize hZ : zs ((119 - n % 64) % 64) = Z at hbl hzs
  have hz1 : Z.size ≤ 64 := by omega
  have hlt : (9223372036854775807 < 1 + Z.size) = False := eq_false (by omega)
  generalize hm : (119 - n % 64) % 64 = m at hbl
  obtain ⟨q, hq⟩ : ∃ q, q = n % 64 := ⟨_, rfl⟩
  obtain ⟨r, hr⟩ : ∃ r, r = 119 - q := ⟨_, rfl⟩
  have e1 : (n : Int).tmod 64 = (q : Int) := by rw [Int.tmod_eq_emod_of_nonneg (by omega)]; omega
  have e1' : (n : Int) % 64 = (q : Int) := by omega
  have e3 : IntKind.i64.wrap (119 - (q : Int)) = (r : Int) := by
    rw [Go.IntWalk.i64_in _ (by omega)]; omega
  have e2 : (r : Int).tmod 64 = (m : Int) := by rw [Int.tmod_eq_emod_of_nonneg (by omega)]; omega
  have e2' : (r : Int) % 64 = (m : Int) := by omega
  replace hq := Lib.hid hq
  replace hr := Lib.hid hr
  replace hm := Lib.hid hm
  replace hZ := Lib.hid hZ
  replace hzs := Lib.hid hzs
  have hb1 := hbl w.drew
  have hb2 := hbl (w.alloc (.cells #[.int .u8 128] 5)).drew
  replace hb1 := Lib.hid hb1
  replace hb2 := Lib.hid hb2
  clear hbk hbl
  go_enter Tryd.func59, Tryd.ntmps59
  have hce := conv_128e w 5
  go_wp2_with fail
  go_cut [3] from 6 to 13 (fun p wx => p = .string (⟨#[128]⟩ ++ Z) ∧ Hid (Below w.heap.size w wx))
  case first =>
    go_region_law (first | (go_simp; go_at_call 89; (with_reducible refine hb1.out.mono ?_); rintro e w3 ⟨rfl, hb⟩; have hcd := conv_128 w3 5; have hB3 := Lib.hid hb.below; clear hb) | (go_simp; go_at_call 89; (with_reducible refine hb2.out.mono ?_); rintro e w3 ⟨rfl, hb⟩; have hcd := conv_128d hb; have hB3 := Lib.hid hb.below; clear hb))
    all_goals
      clear hce
      try clear hcd
      go_wp2_with fail
      go_meet
      refine ⟨rfl, Lib.hid ?_⟩
      first
        | exact (((Below.refl _ _).alloc (Nat.le_refl _) _).drew).trans (hB3.out.mono (by simp))
        | exact ((Below.refl _ _).drew.trans hB3.out).alloc hB3.out.size _
  case rest =>
    obtain ⟨rfl, HB⟩ := hcut
    clear hce hlt e1 e1' e3 e2 e2' hb1 hb2
    rename_i wc
    have hs1 : (⟨#[128]⟩ ++ Z : ByteArray).data = (tailN n 0).toArray := by
      rw [ByteArray.data_append, ← hZ.out]
      apply Array.ext'
      rw [Array.toList_append]
      show [128] ++ List.replicate ((119 - n % 64) % 64) 0 = 128 :: List.replicate ((119 - n % 64) % 64) 0 ++ List.take 0 _
      rw [List.take_zero, List.append_nil]
      rfl
    generalize (⟨#[128]⟩ ++ Z : ByteArray) = s0 at hs1 ⊢
    replace hs1 := Lib.hid hs1
    clear hZ hzs hm hq hr hz1
    go_wp2_with fail
    go_loopw [3, 5] (fun x i wx => ∃ (j : Nat) (t : ByteArray), j ≤ 8 ∧ x = .string t ∧ i = .int .i64 j ∧ Hid (t.data = (tailN n j).toArray) ∧ t.size ≤ 100 ∧ Hid (Below w.heap.size w wx)) (fun _ i _ => 8 - (intOf i).toNat)
    case atStart =>
      refine ⟨0, _, by omega, rfl, rfl, hs1, ?_, HB⟩
      show s0.data.size ≤ 100
      rw [hs1.out]
      show (tailN n 0).length ≤ 100
      rw [tailN_len n 0 (by omega)]; omega
    case round =>
      clear HB hs1
      obtain ⟨j, t, hj, rfl, rfl, HT, hts, HB⟩ := hrel
      by_cases h8 : j < 8
      · have k8 : (j : Int) < 8 := by omega
        have hbe := Sha.bt8_eq n j
        have hnx := tailN_next n j h8
        generalize bt8 n j = b at hbe hnx
        have hbe2 : (8 * (n : Int) / 2 ^ (56 - 8 * j)).tmod 256 % 256 = (b.toNat : Int) := by
          rw [Int.tmod_eq_emod_of_nonneg (Int.ediv_nonneg (by omega) (Int.le_of_lt (Int.pow_pos (by decide)))), Int.emod_emod_of_dvd _ (by decide : (256 : Int) ∣ 256), Int.mul_comm]
          exact hbe
        clear hbe
        have htl : (tailN n (j + 1)).length ≤ 100 := by rw [tailN_len n (j + 1) (by omega)]; omega
        replace hnx := Lib.hid hnx
        replace htl := Lib.hid htl
        have hce : (convert 22 9 (.slice (some ⟨wr.heap.size, 0, none⟩) 1 1)).run Tryd.prog (wr.alloc (.cells #[.int .u8 ((8 * (n : Int) / 2 ^ (56 - 8 * j)).tmod 256 % 256)] 5)) = .ok (.string ⟨#[b]⟩) (wr.alloc (.cells #[.int .u8 ((8 * (n : Int) / 2 ^ (56 - 8 * j)).tmod 256 % 256)] 5)) := by
          rw [hbe2]
          exact conv_one b (heap_alloc_last _ _)
        have z1 := one_size b
        have HA : Hid (t ++ ⟨#[b]⟩ = (⟨t.data ++ #[b]⟩ : ByteArray)) := Lib.hid (by
          apply ByteArray.ext; rw [ByteArray.data_append])
        replace hbe2 := Lib.hid hbe2
        go_wp2_with fail
        have hnew : (t ++ ⟨#[b]⟩ : ByteArray).data = (tailN n (j + 1)).toArray := by
          rw [HA.out, ← hnx.out]
          show t.data ++ #[b] = _
          rw [HT.out]
          apply Array.ext'
          rw [Array.toList_append]
        refine ⟨⟨j + 1, _, by omega, rfl, by push_cast; rfl, Lib.hid hnew, ?_, Lib.hid (HB.out.alloc HB.out.size _)⟩, by simp [intOf]; omega⟩
        show (t ++ ⟨#[b]⟩ : ByteArray).data.size ≤ 100
        rw [hnew]
        exact htl.out
      · obtain rfl : j = 8 := by omega
        rw [tailN_all] at HT
        go_wp2_with fail
        go_ret
        refine ⟨?_, HB.out⟩
        have e : t = ⟨(tailL n).toArray⟩ := ByteArray.ext HT.out
        rw [← e]
        rfl
end Go.Proofs.YtldpnmebjnkjeaaDoor.Ref10
namespace Go.Proofs.YtldpnmebjnkjeaaDoor.Ref10
open Go.RowKit Go.Proofs.YtldpnmebjnkjeaaDoorW.PrintWords Go.Proofs.YtldpnmebjnkjeaaDoor.PH1 Go.Proofs.YtldpnmebjnkjeaaDoor Go.Proofs.YtldpnmebjnkjeaaDoorW.PrintLast Go.Proofs.YtldpnmebjnkjeaaDoorW.PrintMore
open Go.Proofs.YtldpnmebjnkjeaaDoor.Sha (V8 wv RowU rotr digL dig dN dN_len dN_next dN_all dN_cells dig_eq set_row digL_len dN_zero z32_len)
set_option linter.unusedVariables false
set_option linter.unusedSimpArgs false

set_option maxHeartbeats 4000000 in
set_option maxRecDepth 100000 in
theorem rdigest_calls (v : V8) (w : World) :
    Calls Tryd.prog 60 #[.agg (wag v)] w fun e w' => e = .returned (.agg (Lib.byteCells (digL v)).toArray) ∧ Below w.heap.size w w' := by
  go_enter Tryd.func60, Tryd.ntmps60
  have hb3 : (((w.alloc (.cells (wag v) 29)).alloc (.cells (Lib.byteCells (List.replicate 32 0)).toArray 24)).alloc (.cells (Lib.byteCells (List.replicate 32 0)).toArray 24)).heap[w.heap.size + 2]? = some (.cells (Lib.byteCells (List.replicate 32 0)).toArray 24 (0, 0)) := by
    have h := heap_alloc_last ((w.alloc (.cells (wag v) 29)).alloc (.cells (Lib.byteCells (List.replicate 32 0)).toArray 24)) (.cells (Lib.byteCells (List.replicate 32 0)).toArray 24)
    rwa [show ((w.alloc (.cells (wag v) 29)).alloc (.cells (Lib.byteCells (List.replicate 32 0)).toArray 24)).heap.size = w.heap.size + 2 by simp] at h
  go_wp2_with (refine wpList_store_dig rfl (.tmp 3) (.tmp 5) rfl (w.heap.size + 2) rfl (List.replicate 32 0) z32_len rfl (Lib.byteCells (List.replicate 32 0)).toArray 24 hb3 (by rw [List.size_toArray, Lib.byteCells, List.length_map, z32_len]) ?_; intro w1 h9 hk9 hB9)
  have HX : Hid (RowU 29 w.heap.size v.list w1) := by
    refine Lib.hid ?_
    unfold RowU
    rw [hk9 _ (by omega), Below.heap_alloc _ _ _ (by simp; omega), Below.heap_alloc _ _ _ (by simp)]
    exact heap_alloc_last _ _
  have HZ : Hid (w1.heap[w.heap.size + 1]? = some (.cells (Lib.byteCells (List.replicate 32 0)).toArray 24 (0, 0))) := by
    refine Lib.hid ?_
    rw [hk9 _ (by omega), Below.heap_alloc _ _ _ (by simp)]
    exact Sha.heap_at1 _ _ _
  have HD : Hid (w1.heap[w.heap.size + 2]? = some (.cells (Lib.byteCells (dN v 0)).toArray 24 (0, 0))) := by
    rw [dN_zero]; exact h9
  have HB : Hid (Below w.heap.size w w1) := Lib.hid (hB9 ((((Below.refl _ _).alloc (Nat.le_refl _) _).alloc (by simp) _).alloc (by simp; omega) _) (by omega))
  clear hb3 h9 hk9 hB9
  go_loopw [6] (fun i wx => ∃ j : Nat, j ≤ 32 ∧ i = .int .i64 j ∧ Hid (wx.heap[w.heap.size + 2]? = some (.cells (Lib.byteCells (dN v j)).toArray 24 (0, 0))) ∧ Hid (RowU 29 w.heap.size v.list wx) ∧ Hid (wx.heap[w.heap.size + 1]? = some (.cells (Lib.byteCells (List.replicate 32 0)).toArray 24 (0, 0))) ∧ Hid (Below w.heap.size w wx)) (fun i _ => 32 - (intOf i).toNat)
  case atStart => exact ⟨0, by omega, rfl, HD, HX, HZ, HB⟩
  case round =>
    clear HD HX HZ HB
    obtain ⟨j, hj, rfl, HD, HX, HZ, HB⟩ := hrel
    by_cases h32 : j < 32
    · have k32 : (j : Int) < 32 := by omega
      have q0 : (j : Int) / 4 < 8 := by omega
      have c0 := HX.out.cell (j / 4) (by show j / 4 < 8; omega)
      have f0 : ∀ i, wr.frozen? ⟨w.heap.size + 2, i, none⟩ = false := fun i => frozen_of_row wr (w.heap.size + 2) i _ _ HD.out
      have hjl : j < (Lib.byteCells (dN v j)).length := by rw [Lib.byteCells, List.length_map, dN_len v j (by omega)]; exact h32
      obtain ⟨y, hy⟩ : ∃ y, wr.cell? ⟨w.heap.size + 2, j, none⟩ = some y := ⟨_, by rw [cell_of_row _ _ _ _ _ _ HD.out, List.getElem?_toArray, List.getElem?_eq_getElem hjl]⟩
      have hdg := dig_eq v j
      replace hdg := Lib.hid hdg
      replace hjl := Lib.hid hjl
      generalize hgu : v.list.getD (j / 4) 0 = uj at c0
      replace hgu := Lib.hid hgu
      go_wp2_with fail
      rw [← hgu.out]
      have e2 : (((v.list.getD (j / 4) 0).toNat : Int) / 2 ^ (24 - 8 * (j % 4))).tmod 256 % 256 = ((dig v j).toNat : Int) := by
        rw [Int.tmod_eq_emod_of_nonneg (Int.ediv_nonneg (by omega) (Int.le_of_lt (Int.pow_pos (by decide)))), Int.emod_emod_of_dvd _ (by decide : (256 : Int) ∣ 256), Nat.mul_comm]
        exact hdg.out
      rw [e2]
      go_roundw
      case rel =>
        refine ⟨j + 1, by omega, by go_num, Lib.hid ?_, Lib.hid ?_, Lib.hid ?_, Lib.hid ?_⟩
        · rw [set_row HD.out j, ← dN_next v j h32]
          simp [Lib.byteCells, List.map_set]
        · unfold RowU; rw [Below.heap_setCell _ _ _ _ (by simp; omega)]; exact HX.out
        · rw [Below.heap_setCell _ _ _ _ (by simp)]; exact HZ.out
        · exact HB.out.setCell (by simp; omega) _
      case measure => simp [intOf]; omega
    · obtain rfl : j = 32 := by omega
      clear hj h32
      rw [dN_all] at HD
      have hl32 := digL_len v
      replace hl32 := Lib.hid hl32
      generalize hE : digL v = D at HD hl32
      replace hE := Lib.hid hE
      go_wp2_with (first | (refine wpList_load_dig (o := ⟨some 24, _, _, _, _, _⟩) rfl (.tmp 3) rfl (w.heap.size + 2) rfl D hl32.out _ _ HD.out ?_) | (refine wpList_store_dig rfl (.tmp 2) (.tmp 24) rfl (w.heap.size + 1) rfl D hl32.out rfl _ _ HZ.out (by simp [Lib.byteCells]) ?_; intro w9 h9 _ hB9))
      refine bodyPost_ret (v := .agg (Lib.byteCells D).toArray) ?_ rfl ⟨by rw [hE.out], hB9 HB.out (by omega)⟩
      simp [results, Tryd.results60, asAddr, run_load_dig h9.out hl32.out, Act.put]
end Go.Proofs.YtldpnmebjnkjeaaDoor.Ref10
namespace Go.Proofs.YtldpnmebjnkjeaaDoor.Ref10
open Go.RowKit Go.Proofs.YtldpnmebjnkjeaaDoorW.PrintWords Go.Proofs.YtldpnmebjnkjeaaDoor.PH1 Go.Proofs.YtldpnmebjnkjeaaDoor Go.Proofs.YtldpnmebjnkjeaaDoorW.PrintLast Go.Proofs.YtldpnmebjnkjeaaDoorW.PrintMore
open Go.Proofs.YtldpnmebjnkjeaaDoor.Sha (V8 wv RowU)
set_option linter.unusedVariables false
set_option linter.unusedSimpArgs false

theorem first_at (j : Nat) (hj : j < 8) : r2 ((ps.take 8).getD j 0) = (Sha.v0.list.getD j 0).toNat := by
  have h := congrArg (fun l => l[j]?) r2_all
  have h1 : j < (ps.take 8).length := hj
  have h2 : j < Sha.v0.list.length := hj
  simp only [List.getElem?_map, List.getElem?_eq_getElem h1, List.getElem?_eq_getElem h2, Option.map_some, Option.some.injEq] at h
  rw [List.getD_eq_getElem?_getD, List.getElem?_eq_getElem h1, List.getD_eq_getElem?_getD, List.getElem?_eq_getElem h2]
  exact h
theorem root2 (j : Nat) (hj : j < 8) : cashbookref10_root.f 2000 (((ps.take 8).getD j 0 : Nat) : Int) 2 = some ((Sha.v0.list.getD j 0).toNat : Int) := by
  have hb : ∀ k : Fin 8, (ps.take 8).getD k.val 0 < 65536 := by decide
  have h := root_run ((ps.take 8).getD j 0) (hb ⟨j, hj⟩) 2 (.inl rfl) 2000 (by omega)
  rw [← first_at j hj]
  exact h
/-- The first j words. -/
def fsL (j : Nat) : List UInt32 := Sha.v0.list.take j ++ List.replicate (8 - j) 0
theorem fsL_len (j : Nat) (h : j ≤ 8) : (fsL j).length = 8 := by
  unfold fsL; rw [List.length_append, List.length_take, List.length_replicate]; show min j 8 + _ = 8; omega
theorem fsL_set (j : Nat) (h : j < 8) : (fsL j).set j (Sha.v0.list.getD j 0) = fsL (j + 1) := by
  have all : ∀ k : Fin 8, (fsL k.val).set k.val (Sha.v0.list.getD k.val 0) = fsL (k.val + 1) := by decide
  exact all ⟨j, h⟩
set_option maxHeartbeats 4000000 in
set_option maxRecDepth 100000 in
theorem first_calls (w : World) :
    Calls Tryd.prog 18 #[] w fun e w' => e = .returned (.agg (wag Sha.v0)) ∧ Below w.heap.size w w' := by
  have hb3 : ((w.alloc (.cells (wag z8) 29)).alloc (.cells (wag z8) 29)).heap[w.heap.size + 1]? = some (.cells (wag z8) 29 (0, 0)) := Sha.heap_at1 _ _ _
  have hb2 : ((w.alloc (.cells (wag z8) 29)).alloc (.cells (wag z8) 29)).heap[w.heap.size]? = some (.cells (wag z8) 29 (0, 0)) := by
    rw [Below.heap_alloc _ _ _ (by simp)]; exact heap_alloc_last _ _
  replace hb3 := Lib.hid hb3
  replace hb2 := Lib.hid hb2
  go_enter Tryd.func18, Tryd.ntmps18
  go_wp2_with (refine wpList_store_w8 rfl (.tmp 1) (.tmp 4) rfl (w.heap.size + 1) rfl z8 rfl (wag z8) 29 hb3.out rfl ?_; intro w1 h9 hk9 hB9 hs9)
  have HR : Hid (RowU 29 w.heap.size z8.list w1) := Lib.hid ((hk9 _ (by omega)).trans hb2.out)
  have HD : Hid (RowU 29 (w.heap.size + 1) (fsL 0) w1) := h9
  have HB : Hid (Below w.heap.size w w1) := Lib.hid (hB9 (((Below.refl _ _).alloc (Nat.le_refl _) _).alloc (by simp) _) (by omega))
  have HS : Hid (w.heap.size + 2 ≤ w1.heap.size) := Lib.hid (by rw [hs9]; simp)
  clear h9 hk9 hB9 hb3 hb2 hs9
  refine (cashbookref10_primes.calls 2000 8 _ w1 primes8).mono ?_
  rintro e w2 ⟨v5, rfl, hr, hb⟩
  obtain ⟨A, c, rfl, hlc, HC⟩ := Kd.R_reads hr
  have hfar : ∀ ad, A = some ad → w.heap.size + 2 ≤ ad.block := by
    intro ad he
    subst he
    obtain ⟨inner, ho⟩ := Kd.R_own hr
    rcases ho.2 with ⟨h1, _⟩ | ⟨g, cap, cur, hv, hg, _⟩
    · cases h1
    · cases hv; exact Nat.le_trans HS.out hg
  replace HC := Lib.hid HC
  replace HR := Lib.hid (RowU.below HR.out hb)
  replace HD := Lib.hid (RowU.below HD.out hb)
  replace HB := Lib.hid (HB.out.trans (hb.mono HB.out.size))
  have HS2 := Lib.hid (Nat.le_trans HS.out hb.size)
  have hl8 : (cz (ps.take 8)).length = 8 := by rw [cz_len]; rfl
  rw [hl8] at hlc HC ⊢
  clear hr hb HS hl8
  obtain ⟨ad, rfl, hc0⟩ := Kd.at_int HC.out 0 (by omega) (by omega)
  clear hc0
  have hfr := hfar ad rfl
  clear hfar
  go_wp2_with fail
  go_loopw [7] (fun i wx => ∃ j : Nat, j ≤ 8 ∧ i = .int .i64 j ∧ Hid (Kd.C (Kd.int .u64) wx (some ad) 8 (cz (ps.take 8))) ∧ Hid (RowU 29 w.heap.size z8.list wx) ∧ Hid (RowU 29 (w.heap.size + 1) (fsL j) wx) ∧ Hid (Below w.heap.size w wx) ∧ Hid (w.heap.size + 2 ≤ wx.heap.size)) (fun i _ => 8 - (intOf i).toNat)
  case atStart => exact ⟨0, by omega, rfl, HC, HR, HD, HB, HS2⟩
  case round =>
    clear HC HR HD HB HS2
    obtain ⟨j, hj, rfl, HC, HR, HD, HB, HS⟩ := hrel
    by_cases h8 : j < 8
    · have k8 : (j : Int) < 8 := by omega
      obtain ⟨ad', he, hc⟩ := Kd.at_int HC.out (j : Int) (by omega) (by omega)
      cases he
      rw [cz_rd, Int.toNat_natCast] at hc
      have hroot := root2 j h8
      generalize (ps.take 8).getD j 0 = p at hc hroot
      have hcr := cashbookref10_root.calls 2000 _ _ _ wr hroot
      have hset := fsL_set j h8
      generalize Sha.v0.list.getD j 0 = x at hcr hset
      clear hroot
      replace hset := Lib.hid hset
      replace hcr := Lib.hid hcr
      have hfl := fsL_len j hj
      replace hfl := Lib.hid hfl
      go_wp2_with fail
      refine hcr.out.mono ?_
      rintro e w3 ⟨rfl, hb⟩
      replace HC := Lib.hid (Kd.C_below HC.out hb)
      replace HR := Lib.hid (RowU.below HR.out hb)
      replace HD := Lib.hid (RowU.below HD.out hb)
      replace HB := Lib.hid (HB.out.trans (hb.mono HB.out.size))
      replace HS := Lib.hid (Nat.le_trans HS.out hb.size)
      clear hb hcr hc
      have c1 := HD.out.cell j (by rw [hfl.out]; exact h8)
      have f1 := HD.out.f
      go_wp2_with fail
      go_roundw
      case rel =>
        refine ⟨j + 1, by omega, by go_num, Lib.hid ?_, Lib.hid (HR.out.far (by simp) _), Lib.hid ?_, Lib.hid (HB.out.setCell (by simp) _), Lib.hid (by have := HS.out; simp [World.setCell]; exact this)⟩
        · exact Kd.C_keep (enc := Value.int .u64) 0 HC.out (KeepBut.set_ (KeepBut.refl _ _ none) _ _) (fun ad' he _ => by cases he; omega)
        · rw [← hset.out]; exact HD.out.set j x
      case measure => simp [intOf]; omega
    · obtain rfl : j = 8 := by omega
      have HV : Hid (RowU 29 (w.heap.size + 1) Sha.v0.list wr) := HD
      clear HD HC
      go_wp2_with (first | (refine wpList_load_w8 (o := ⟨some 17, _, _, _, _, _⟩) rfl (.tmp 1) rfl (w.heap.size + 1) 0 rfl Sha.v0 (RowU.range HV.out) ?_) | (refine wpList_store_w8 rfl (.tmp 0) (.tmp 17) rfl w.heap.size rfl Sha.v0 rfl (wag z8) 29 HR.out rfl ?_; intro w9 h9 hk9 hB9 hs9))
      refine bodyPost_ret (v := .agg (wag Sha.v0)) ?_ rfl ⟨rfl, hB9 HB.out (by omega)⟩
      simp [results, Tryd.results18, asAddr, run_load_w8 (RowU.range h9.out), Act.put]
end Go.Proofs.YtldpnmebjnkjeaaDoor.Ref10
namespace Go.Proofs.YtldpnmebjnkjeaaDoor.Ref10
open Go.RowKit Go.Proofs.YtldpnmebjnkjeaaDoorW.PrintWords Go.Proofs.YtldpnmebjnkjeaaDoor.PH1 Go.Proofs.YtldpnmebjnkjeaaDoor Go.Proofs.YtldpnmebjnkjeaaDoorW.PrintLast Go.Proofs.YtldpnmebjnkjeaaDoorW.PrintMore
open Go.Proofs.YtldpnmebjnkjeaaDoor.Sha (hexL hd hexL_snoc hexL_len)
set_option linter.unusedVariables false
set_option linter.unusedSimpArgs false

set_option maxHeartbeats 4000000 in
set_option maxRecDepth 100000 in
theorem rtext_calls (d : List UInt8) (hd32 : d.length = 32) (w : World) :
    Calls Tryd.prog 26 #[.agg (Lib.byteCells d).toArray] w fun e w' => e = .returned (.string ⟨(d).toArray⟩) ∧ Below w.heap.size w w' := by
  replace hd32 := Lib.hid hd32
  go_enter Tryd.func26, Tryd.ntmps26
  go_wp2_with (refine wpList_load_dig (o := ⟨some 6, _, _, _, _, _⟩) rfl (.tmp 1) rfl w.heap.size rfl d hd32.out 24 (0, 0) (heap_alloc_last _ _) ?_)
  generalize hw1 : w.alloc _ = w1
  have HB : Hid (Below w.heap.size w w1) := by
    rw [← hw1]; exact Lib.hid ((Below.refl _ _).alloc (Nat.le_refl _) _)
  clear hw1
  go_loopw [3, 7] (fun s i wr => ∃ (j : Nat) (t : ByteArray), j ≤ 32 ∧ s = .string t ∧ i = .int .i64 j ∧ Hid (t.data = (d.take j).toArray) ∧ t.size ≤ 64 ∧ Hid (Below w.heap.size w wr)) (fun _ i _ => 32 - (intOf i).toNat)
  case atStart => exact ⟨0, _, by omega, rfl, rfl, Lib.hid rfl, by decide, HB⟩
  case round =>
    clear HB
    obtain ⟨j, t, hj, rfl, rfl, HT, hts, HB⟩ := hrel
    by_cases h32 : j < 32
    · have k32 : (j : Int) < 32 := by omega
      have hjd : j < d.length := by rw [hd32.out]; exact h32
      have hix : d[j]? = some d[j] := List.getElem?_eq_getElem hjd
      have htk : d.take (j + 1) = d.take j ++ [d[j]] := by rw [List.take_succ_eq_append_getElem hjd]
      have ht2 : t.size = j := by
        show t.data.size = _
        rw [HT.out]
        show (d.take j).length = _
        rw [List.length_take, hd32.out]; omega
      generalize d[j] = x at hix htk
      have hrun := fun w : World => run_index_dig d hd32.out j h32 x hix w
      replace htk := Lib.hid htk
      replace hix := Lib.hid hix
      have z1 := one_size x
      have hconv : ∀ ty : TypeId, (convert 22 9 (.slice (some ⟨wr.heap.size, 0, none⟩) 1 1)).run Tryd.prog (wr.alloc (.cells #[.int .u8 (x.toNat : Int)] ty (0, 0))) = .ok (.string ⟨#[x]⟩) (wr.alloc (.cells #[.int .u8 (x.toNat : Int)] ty (0, 0))) := by
        intro ty
        refine Go.run_convert_bytes_back _ 22 9 5 ⟨_, 0, none⟩ 1 [x] (by kernel_rfl) (by kernel_rfl) (by kernel_rfl) ?_
        intro j hj
        obtain rfl : j = 0 := by simp at hj; omega
        show (wr.alloc (.cells #[.int .u8 (x.toNat : Int)] ty (0, 0))).cell? ⟨wr.heap.size, 0, none⟩ = _
        rw [cell_of_row _ _ _ _ _ _ (heap_alloc_last _ _)]
        rfl
      have HA : Hid (t ++ ⟨#[x]⟩ = (⟨t.data ++ #[x]⟩ : ByteArray)) := Lib.hid (by
        apply ByteArray.ext; rw [ByteArray.data_append])
      go_wp2_with fail
      refine ⟨⟨j + 1, _, by omega, rfl, by push_cast; rfl, Lib.hid ?_, ?_, Lib.hid (HB.out.alloc HB.out.size _)⟩, by simp [intOf]; omega⟩
      · rw [HA.out, htk.out]
        show t.data ++ #[x] = _
        rw [HT.out]
        apply Array.ext'
        rw [Array.toList_append]
      · rw [ByteArray.size_append]
        show t.size + 1 ≤ 64
        omega
    · obtain rfl : j = 32 := by omega
      rw [List.take_of_length_le (by rw [hd32.out]; omega)] at HT
      go_wp2_with fail
      go_ret
      refine ⟨?_, HB.out⟩
      have e : t = ⟨(d).toArray⟩ := ByteArray.ext HT.out
      rw [← e]
      rfl
end Go.Proofs.YtldpnmebjnkjeaaDoor.Ref10
namespace Go.Proofs.YtldpnmebjnkjeaaDoor.Ref10
open Go.RowKit Go.Proofs.YtldpnmebjnkjeaaDoorW.PrintWords Go.Proofs.YtldpnmebjnkjeaaDoor.PH1 Go.Proofs.YtldpnmebjnkjeaaDoor Go.Proofs.YtldpnmebjnkjeaaDoorW.PrintLast Go.Proofs.YtldpnmebjnkjeaaDoorW.PrintMore
open Go.Proofs.YtldpnmebjnkjeaaDoor.Sha (V8 wv RowU takeP feedP tailL tailL_len digL digL_len sumL sumL_all endP z32_len hashV)
set_option linter.unusedVariables false
set_option linter.unusedSimpArgs false

/-! The document's constants, and the words at first, as one value. -/
def CV (s : Value) (v : V8) : Array Value := (s :: v.list.map wv).toArray
theorem run_load_cell {P : Program} {w : World} {ad : Addr} {v : Value} {t : TypeId} (ht : ∀ w : World, (Go.isAgg t).run P w = .ok false w) (h : w.cell? ad = some v) : (loadVar t ad).run P w = .ok v w := by
  unfold loadVar
  rw [Sem.run_bind, ht w]
  simp [h]
theorem yieldsIf_cell {P : Program} {ops : Array Oper} {S : World → Prop} {op : Oper} {a : Act} (hw : Region.wanted op (yielded ops a.tmps) = true) (ty : TypeId) (x : Operand) (ho : op.op = .load ty x)
    (ad : Addr) (hx : a.eval x = .pointer (some ad)) (v : Value) (ht : ∀ w : World, (Go.isAgg ty).run P w = .ok false w) (hS : ∀ w, S w → w.cell? ad = some v) : YieldsIf P ops S op v a :=
  .inl ⟨hw, fun w hw' => by
    unfold execOp
    simp only [ho, hx, Instr.loadAt, Instr.sureAddr, Sem.run_bind, Sem.run_pure, Result.andThen_ok, run_load_cell ht (hS w hw')]⟩
theorem yieldsIf_w8 {ops : Array Oper} {S : World → Prop} {op : Oper} {a : Act} (hw : Region.wanted op (yielded ops a.tmps) = true) (x : Operand) (ho : op.op = .load 29 x)
    (b off : Nat) (hx : a.eval x = .pointer (some ⟨b, off, none⟩)) (v : V8) (hS : ∀ w, S w → w.rangeAt b off (v.list.map wv)) : YieldsIf Tryd.prog ops S op (.agg (wag v)) a :=
  yieldsIf_load_mid hw 29 x ho b off hx (v.list.map wv) (.array 8 28) hS (by kernel_rfl) rfl (by show _ = some 8; kernel_rfl)
theorem agg56 : ∀ w : World, (Go.isAgg 56).run Tryd.prog w = .ok false w := fun w => by simp [Tryd.isAgg56]
theorem agg9 : ∀ w : World, (Go.isAgg 9).run Tryd.prog w = .ok false w := fun w => by simp [Tryd.isAgg9]
theorem agg3 : ∀ w : World, (Go.isAgg 3).run Tryd.prog w = .ok false w := fun w => by simp [Tryd.isAgg3]
theorem c_info : ∃ i : TypeInfo, Tryd.prog.info? 58 = some i ∧ i.zero = some (.agg (CV (.slice none 0 0) z8)) := by
  have h : (Tryd.prog.info? 58).map (fun i => i.zero) = some (some (.agg (CV (.slice none 0 0) z8))) := by kernel_rfl
  cases hq : Tryd.prog.info? 58 with
  | none => rw [hq] at h; cases h
  | some i => rw [hq] at h; exact ⟨i, rfl, Option.some.inj h⟩
theorem built_C (s : Value) (hs : s.cells = #[s]) (v : V8) : Tryd.prog.built 58 [(0, s), (1, .agg (wag v))] = some (CV s v) := by
  obtain ⟨i, hi, hz⟩ := c_info
  obtain ⟨i8, j, h8, _, hj, hjs⟩ := w8_info
  have h8s : (Tryd.prog.info? 29).map (fun i => i.size) = some 8 := by kernel_rfl
  have hks : (Tryd.prog.info? 56).map (fun i => i.size) = some 1 := by kernel_rfl
  have hp : (([{ name := "K", type := 56, offset := 0, embedded := false, tag := "", pkgPath := "", byteOffset := 0 }, { name := "H", type := 29, offset := 1, embedded := false, tag := "", pkgPath := "", byteOffset := 24 }] : List Field).mapM fun f => (Tryd.prog.info? f.type).map fun i => (f.offset, i.size)) = some [(0, 1), (1, 8)] := by kernel_rfl
  unfold Program.built
  rw [hi, Tryd.underlying58]
  simp only [hz, hp]
  rw [show (Value.agg (CV (.slice none 0 0) z8)).cells = #[.slice none 0 0, .int .u32 0, .int .u32 0, .int .u32 0, .int .u32 0, .int .u32 0, .int .u32 0, .int .u32 0, .int .u32 0] from rfl]
  rw [fill_one _ _ _ _ _ 0 rfl hs (by simp), Instr.fill]
  simp [wag, V8.list, Value.cells, CV, Instr.fill, Array.zipIdx]
def COf (b : Nat) (ak : Addr) (c : Nat) (W : World) : Prop := W.cell? ⟨b, 0, none⟩ = some (.slice (some ak) 64 c)
theorem wpList_build_C {ops : Array Oper} {rest : List Oper} {o : Oper} {a : Act} {Q : Exit → Act → World → Prop} {w : World} (hgd : o.guard = none) (x0 x1 : Operand) (ho : o.op = .build 58 #[(0, x0), (1, x1)])
    (s : Value) (v : V8) (hs : s.cells = #[s]) (h0 : a.eval x0 = s) (h1 : a.eval x1 = .agg (wag v)) (h : wpList Tryd.prog ops Q rest (a.put o.dst (.agg (CV s v))) w) : wpList Tryd.prog ops Q (o :: rest) a w := by
  refine wpList_plain hgd fun _ hK => ?_
  unfold Oper.wp execOp
  simp only [ho, List.map_toArray, List.map_cons, List.map_nil, h0, h1]
  rw [Sem.run_bind, run_build w 58 #[(0, s), (1, .agg (wag v))] (CV s v) (built_C s hs v)]
  exact hK _ _ h
theorem CV_all (s : Value) (v : V8) (h : s.oneCell' = true) : (CV s v).all (·.oneCell') = true := all_oneCell_toArray (by
  intro x hx
  rcases List.mem_cons.1 hx with rfl | hx
  · exact h
  · rw [List.mem_map] at hx
    obtain ⟨y, _, rfl⟩ := hx
    rfl)
def CAt (b : Nat) (s : Value) (v : V8) (w : World) : Prop := w.heap[b]? = some (.cells (CV s v) 58 (0, 0))
namespace CAt
variable {b : Nat} {s : Value} {v : V8} {w w1 : World}
theorem below (h : CAt b s v w) (hb : Below w.heap.size w w1) : CAt b s v w1 := blk_below h hb
theorem cell0 (h : CAt b s v w) : w.cell? ⟨b, 0, none⟩ = some s := by rw [cell_of_row _ _ _ _ _ _ h]; rfl
theorem range (h : CAt b s v w) : w.rangeAt b 1 (v.list.map wv) := by
  intro j x hx
  rw [cell_of_row _ _ _ _ _ _ h]
  unfold CV
  rw [List.getElem?_toArray, Nat.add_comm 1 j, List.getElem?_cons_succ]
  exact hx
end CAt
theorem wpList_store_C {ops : Array Oper} {rest : List Oper} {o : Oper} {a : Act} {Q : Exit → Act → World → Prop} {w : World} (hgd : o.guard = none) (x y : Operand) (ho : o.op = .store 58 x y) (b : Nat) (hx : a.eval x = .pointer (some ⟨b, 0, none⟩))
    (s : Value) (v : V8) (hs1 : s.oneCell' = true) (hy : a.eval y = .agg (CV s v)) (old : Array Value) (t : TypeId) (hr : w.heap[b]? = some (.cells old t (0, 0))) (hs : old.size = 9)
    (h : ∀ w', Hid (w'.heap[b]? = some (.cells (CV s v) t (0, 0))) → (∀ k, k ≠ b → w'.heap[k]? = w.heap[k]?) → (∀ {B : Nat} {w0 : World}, Below B w0 w → B ≤ b → Below B w0 w') → w'.heap.size = w.heap.size → wpList Tryd.prog ops Q rest (a.put o.dst undef) w') : wpList Tryd.prog ops Q (o :: rest) a w := by
  refine wpList_plain hgd fun _ hK => ?_
  have hX : (CV s v).size = 9 := rfl
  unfold Oper.wp execOp
  simp only [ho, hx, hy, Instr.storeAt, Instr.sureAddr, Sem.run_bind, Sem.run_pure, Result.andThen_ok, run_storeVar_row w _ _ _ _ _ hr (show (Tryd.prog.info? 58).map (·.size) = some ((CV s v)).size by rw [hX]; kernel_rfl) (by rw [hX, hs]) (CV_all s v hs1)]
  refine hK _ _ (h _ (Lib.hid (setRow_heap w b _ _ _ _ hr)) (fun k hk => setRow_other _ _ _ _ hk) (fun {B w0} hb hB => hb.trans ⟨rfl, rfl, rfl, by simp, fun k hk => setRow_other _ _ _ _ (by omega)⟩) (by simp))
theorem run_load_C {w : World} {b : Nat} {s : Value} {v : V8} (hr : CAt b s v w) :
    (loadVar 58 ⟨b, 0, none⟩).run Tryd.prog w = .ok (.agg (CV s v)) w :=
  run_loadVar_mid w b 0 58 (s :: v.list.map wv) _ (range_row hr) Tryd.underlying58 rfl (by show _ = some 9; kernel_rfl)
set_option maxHeartbeats 4000000 in
set_option maxRecDepth 100000 in
theorem rmake_calls (w : World) :
    Calls Tryd.prog 31 #[] w fun e w' => ∃ ak c, e = .returned (.agg (CV (.slice (some ak) 64 c) Sha.v0)) ∧ KC w' ak ∧ Below w.heap.size w w' := by
  go_enter Tryd.func31, Tryd.ntmps31
  go_wp2_with fail
  generalize hw1 : w.alloc _ = w1
  have HZ : Hid (CAt w.heap.size (.slice none 0 0) z8 w1) := by
    rw [← hw1]; exact Lib.hid (heap_alloc_last _ _)
  have HB : Hid (Below w.heap.size w w1) := by
    rw [← hw1]; exact Lib.hid ((Below.refl _ _).alloc (Nat.le_refl _) _)
  have HS : w.heap.size < w1.heap.size := by rw [← hw1]; simp
  clear hw1
  refine (cashbookref10_constants.calls 2000 _ w1 const_run).mono ?_
  rintro e w2 ⟨v1, rfl, hr, hb⟩
  obtain ⟨A, c, rfl, hlc, HC⟩ := Kd.R_reads hr
  have hl64 : (Sha.kT.map fun x => (x.toNat : Int)).length = 64 := rfl
  rw [hl64] at hlc HC ⊢
  have hA : ∃ ak, A = some ak := by
    obtain ⟨ak, he, _⟩ := Kd.at_int HC 0 (by omega) (by omega)
    exact ⟨ak, he⟩
  obtain ⟨ak, rfl⟩ := hA
  have hfar : Shut (ak.block ≠ w.heap.size) := by
    obtain ⟨inner, ho⟩ := Kd.R_own hr
    rcases ho.2 with ⟨h1, _⟩ | ⟨g, cap, cur, hv, hg, _⟩
    · cases h1
    · cases hv; exact ⟨by show g ≠ _; omega⟩
  have HK : Shut (KC w2 ak) := ⟨HC⟩
  clear HS
  replace HZ := Lib.hid (HZ.out.below hb)
  replace HB := Lib.hid (HB.out.trans (hb.mono HB.out.size))
  clear hb hr HC hl64
  go_wp2_with fail
  refine (first_calls w2).mono ?_
  rintro e w3 ⟨rfl, hb⟩
  replace HK := Shut.mk (HK.out.below hb)
  replace HZ := Lib.hid (HZ.out.below hb)
  replace HB := Lib.hid (HB.out.trans (hb.mono HB.out.size))
  clear hb
  go_wp2_with (first | (refine wpList_build_C (o := ⟨some 3, _, _, _, _, _⟩) rfl (.tmp 1) (.tmp 2) rfl (.slice (some ak) 64 c) Sha.v0 rfl rfl rfl ?_) | (refine wpList_store_C rfl (.tmp 0) (.tmp 3) rfl w.heap.size rfl (.slice (some ak) 64 c) Sha.v0 rfl rfl _ _ HZ.out rfl ?_; intro w9 h9 hk9 hB9 hs9))
  refine bodyPost_ret (v := .agg (CV (.slice (some ak) 64 c) Sha.v0)) ?_ rfl ⟨ak, c, rfl, ?_, hB9 HB.out (by omega)⟩
  · simp [results, Tryd.results31, asAddr, run_load_C h9.out, Act.put]
  · exact Kd.C_keep (enc := Value.int .u32) 0 HK.out ⟨Nat.le_of_eq hs9.symm, fun i hi hne _ => hk9 i hne⟩ (fun ad' he _ => by cases he; exact hfar.out)
set_option maxHeartbeats 4000000 in
set_option maxRecDepth 100000 in
theorem rof_calls (ak : Addr) (c : Nat) (v : V8) (s : ByteArray) (hs : s.size ≤ 1048576) (w : World) (hK : KC w ak) :
    Calls Tryd.prog 63 #[.agg (CV (.slice (some ak) 64 c) v), .string s] w fun e w' => e = .returned (.agg (Lib.byteCells (endP (feedP v s.data.toList).1 (feedP v s.data.toList).2 s.size)).toArray) ∧ Below w.heap.size w w' := by
  have HK0 := Shut.mk hK
  clear hK
  go_enter Tryd.func63, Tryd.ntmps63
  go_upto_region 1 with fail
  generalize hw1 : (w.alloc _).alloc _ = w1
  have HC : Hid (CAt w.heap.size (.slice (some ak) 64 c) v w1) := by
    rw [← hw1]; refine Lib.hid ?_
    unfold CAt
    rw [Below.heap_alloc _ _ _ (by simp)]
    exact heap_alloc_last _ _
  have HR : Hid (w1.heap[w.heap.size + 1]? = some (.cells (Lib.byteCells (List.replicate 32 0)).toArray 24 (0, 0))) := by
    rw [← hw1]; exact Lib.hid (Sha.heap_at1 _ _ _)
  have HB : Hid (Below w.heap.size w w1) := by
    rw [← hw1]; exact Lib.hid (((Below.refl _ _).alloc (Nat.le_refl _) _).alloc (by simp) _)
  have HS : Hid (w.heap.size + 2 ≤ w1.heap.size) := by rw [← hw1]; exact Lib.hid (by simp)
  clear hw1
  have c0 := HC.out.cell0
  have hs' := Lib.hid hs
  go_wp2_with (refine wpList_load_w8 (o := ⟨some 11, _, _, _, _, _⟩) rfl (.tmp 10) rfl w.heap.size 1 rfl v HC.out.range ?_)
  refine (rall_calls ak c v s (by omega) w1 (HK0.out.below HB.out)).mono ?_
  rintro e w2 ⟨rfl, hb⟩
  clear c0
  replace HC := Lib.hid (HC.out.below hb)
  replace HR := Lib.hid (blk_below HR.out hb)
  replace HB := Lib.hid (HB.out.trans (hb.mono HB.out.size))
  replace HS := Lib.hid (Nat.le_trans HS.out hb.size)
  clear hb
  have hfl := Sha.feedP_len _ v s.data.toList (Nat.le_refl _)
  generalize hr1 : (feedP v s.data.toList).2 = r at hfl ⊢
  generalize hu1 : (feedP v s.data.toList).1 = u
  replace hr1 := Lib.hid hr1
  replace hu1 := Lib.hid hu1
  have hrl : r.length < 64 := by rw [hfl]; omega
  clear hfl
  replace hrl := Lib.hid hrl
  go_wp2_with (refine wpList_store_w8 rfl (.tmp 5) (.tmp 14) rfl w2.heap.size rfl u rfl (wag z8) 29 (heap_alloc_last w2 _) rfl ?_; intro w3 h9 hk9 hB9 hs9)
  have hb := hB9 ((Below.refl _ _).alloc (Nat.le_refl _) _) (Nat.le_refl _)
  have HV : Hid (RowU 29 w2.heap.size u.list w3) := h9
  have hg : w.heap.size + 2 ≤ w2.heap.size := HS.out
  replace HC := Lib.hid (HC.out.below hb)
  replace HR := Lib.hid (blk_below HR.out hb)
  replace HB := Lib.hid (HB.out.trans (hb.mono HB.out.size))
  generalize w2.heap.size = g at HV hg ⊢
  clear hb h9 hk9 hB9 hs9 HS
  have htc := fun W => rtail_calls s.size hs W
  obtain ⟨T, hT⟩ : ∃ T : ByteArray, T = ⟨(tailL s.size).toArray⟩ := ⟨_, rfl⟩
  rw [← hT] at htc
  obtain ⟨R, hR⟩ : ∃ R : ByteArray, R = ⟨r.toArray⟩ := ⟨_, rfl⟩
  rw [← hR]
  have hRs : R.size < 64 := by
    rw [hR]
    show r.toArray.size < 64
    rw [List.size_toArray]; exact hrl.out
  have hTs : T.size < 100 := by
    rw [hT]
    show (tailL s.size).toArray.size < 100
    rw [List.size_toArray, tailL_len]; omega
  have hrt : Hid ((R ++ T).size ≤ 4294967296) := by
    refine Lib.hid ?_
    rw [ByteArray.size_append]
    omega
  have hta : (R ++ T).data.toList = r ++ tailL s.size := by rw [ByteArray.data_append, Array.toList_append, hR, hT]
  have hlt : (9223372036854775807 < R.size + T.size) = False := eq_false (by omega)
  replace htc := Lib.hid htc
  replace hta := Lib.hid hta
  clear hT hR
  have hS : COf w.heap.size ak c w3.drew := HC.out.cell0
  refine wp_region_held (S := COf w.heap.size ak c) (by kernel_rfl) ?_
  change wpAnyH _ _ _ _ _ _ _ _ w3.drew
  refine wpAnyH_take (i := 0) (v := ?_) rfl (by kernel_rfl) (by kernel_rfl) (by kernel_rfl) (fun _ _ _ h => h) (Or.inl ⟨by rfl, ?_⟩) hS ?_
  rotate_left
  · intro v _; go_simp; first | done | with_reducible rfl
  rotate_left
  simp only [Act.put, List.setIfInBounds_toArray, List.set_cons_zero, List.set_cons_succ]
  refine wpAnyH_take (i := 1) (v := _) rfl (by kernel_rfl) (by kernel_rfl) (by kernel_rfl) (fun _ _ _ h => h) (yieldsIf_cell (by rfl) 56 (.tmp 17) rfl ⟨w.heap.size, 0, none⟩ rfl (.slice (some ak) 64 c) agg56 (fun _ h => h)) hS ?_
  simp only [Act.put, List.setIfInBounds_toArray, List.set_cons_zero, List.set_cons_succ]
  refine wpAnyH_take (i := 3) (v := ?_) rfl (by kernel_rfl) (by kernel_rfl) (by kernel_rfl) (fun _ _ _ h => h) (Or.inl ⟨by rfl, ?_⟩) hS ?_
  rotate_left
  · intro v _; go_simp; first | done | with_reducible rfl
  rotate_left
  simp only [Act.put, List.setIfInBounds_toArray, List.set_cons_zero, List.set_cons_succ]
  refine wpAnyH_take (i := 4) (v := ?_) rfl (by kernel_rfl) (by kernel_rfl) (by kernel_rfl) (fun _ _ _ h => h) (Or.inl ⟨by rfl, ?_⟩) hS ?_
  rotate_left
  · intro v _; go_simp; first | done | with_reducible rfl
  rotate_left
  simp only [Act.put, List.setIfInBounds_toArray, List.set_cons_zero, List.set_cons_succ]
  refine wpAnyH_take (i := 5) (v := ?_) rfl (by kernel_rfl) (by kernel_rfl) (by kernel_rfl) (fun _ _ _ h => h) (Or.inl ⟨by rfl, ?_⟩) hS ?_
  rotate_left
  · intro v _; go_simp; first | done | with_reducible rfl
  rotate_left
  simp only [Act.put, List.setIfInBounds_toArray, List.set_cons_zero, List.set_cons_succ]
  refine wpAnyH_all (rs := [2, 6]) (by kernel_rfl) (by simp) ?_
  intro i hi
  simp only [List.mem_cons, List.not_mem_nil, or_false] at hi
  rcases hi with rfl | rfl
  · skip
    refine wpOp_wp rfl (by rfl) ?_
    refine wp_load_w8 (.tmp 5) rfl g 0 rfl u (RowU.range (w := w3.drew) HV.out) ?_
    refine ⟨hS, ?_⟩
    try simp only [Act.put, List.setIfInBounds_toArray, List.set_cons_zero, List.set_cons_succ]
    refine wpAnyH_all (rs := [6]) (by kernel_rfl) (by simp) ?_
    intro i hi
    simp only [List.mem_cons, List.not_mem_nil, or_false] at hi
    subst hi
    refine wpOp_wp rfl (by rfl) ?_
    go_simp
    refine (htc.out w3.drew).mono ?_
    rintro e w3b ⟨rfl, hb⟩
    have HC3 := Lib.hid (CAt.below (w := w3.drew) HC.out hb)
    have hS : COf w.heap.size ak c w3b := HC3.out.cell0
    refine ⟨hS, ?_⟩
    have HV3 := Lib.hid (RowU.below (w := w3.drew) HV.out hb)
    have HR3 := Lib.hid (blk_below (show w3.drew.heap[w.heap.size + 1]? = _ from HR.out) hb)
    have HB3 := Lib.hid (HB.out.drew.trans (hb.mono HB.out.size))
    clear hb HV HR HB HC
    try simp only [Act.put, List.setIfInBounds_toArray, List.set_cons_zero, List.set_cons_succ]
    refine wpAnyH_take (i := 7) (v := ?_) rfl (by kernel_rfl) (by kernel_rfl) (by kernel_rfl) (fun _ _ _ h => h) (Or.inl ⟨by rfl, ?_⟩) hS ?_
    rotate_left
    · intro v _; go_simp; first | done | with_reducible rfl
    rotate_left
    simp only [Act.put, List.setIfInBounds_toArray, List.set_cons_zero, List.set_cons_succ]
    refine wpAnyH_all (rs := [8]) (by kernel_rfl) (by simp) ?_
    intro i hi
    simp only [List.mem_cons, List.not_mem_nil, or_false] at hi
    subst hi
    refine wpOp_wp rfl (by rfl) ?_
    go_simp
    refine (rall_calls ak c u (R ++ T) hrt.out _ (HK0.out.below HB3.out)).mono ?_
    rintro e w4 ⟨rfl, hb⟩
    rw [hta.out]
    have hE : endP u r s.size = digL (feedP u (r ++ tailL s.size)).1 := rfl
    generalize (feedP u (r ++ tailL s.size)).2 = r2
    generalize (feedP u (r ++ tailL s.size)).1 = z at hE ⊢
    replace hE := Lib.hid hE
    have hS : COf w.heap.size ak c w4 := (HC3.out.below hb).cell0
    refine ⟨hS, ?_⟩
    have HV4 := Lib.hid (HV3.out.below hb)
    have HR4 := Lib.hid (blk_below HR3.out hb)
    have HB4 := Lib.hid (HB3.out.trans (hb.mono HB3.out.size))
    have HC4 := Lib.hid (HC3.out.below hb)
    clear hb HV3 HR3 HB3 HC3
    try simp only [Act.put, List.setIfInBounds_toArray, List.set_cons_zero, List.set_cons_succ]
    refine wpAnyH_take (i := 9) (v := ?_) rfl (by kernel_rfl) (by kernel_rfl) (by kernel_rfl) (fun _ _ _ h => h) (Or.inl ⟨by rfl, ?_⟩) hS ?_
    rotate_left
    · intro v _; go_simp; first | done | with_reducible rfl
    rotate_left
    simp only [Act.put, List.setIfInBounds_toArray, List.set_cons_zero, List.set_cons_succ]
    refine wpAnyH_take (i := 10) (v := ?_) rfl (by kernel_rfl) (by kernel_rfl) (by kernel_rfl) (fun _ _ _ h => h) (Or.inl ⟨by rfl, ?_⟩) hS ?_
    rotate_left
    · intro v _; go_simp; first | done | with_reducible rfl
    rotate_left
    simp only [Act.put, List.setIfInBounds_toArray, List.set_cons_zero, List.set_cons_succ]
    refine wpAnyH_take (i := 11) (v := ?_) rfl (by kernel_rfl) (by kernel_rfl) (by kernel_rfl) (fun _ _ _ h => h) (Or.inl ⟨by rfl, ?_⟩) hS ?_
    rotate_left
    · intro v _; go_simp; first | done | with_reducible rfl
    rotate_left
    simp only [Act.put, List.setIfInBounds_toArray, List.set_cons_zero, List.set_cons_succ]
    refine wpAnyH_all (rs := [12]) (by kernel_rfl) (by simp) ?_
    intro i hi
    simp only [List.mem_cons, List.not_mem_nil, or_false] at hi
    subst hi
    refine wpOp_wp rfl (by rfl) ?_
    refine wp_store_w8 (.tmp 5) (.tmp 26) rfl g rfl _ rfl _ _ HV4.out rfl ?_
    intro w5 h9 hk9 hB9 hs9
    have HR5 := Lib.hid ((hk9 (w.heap.size + 1) (by omega)).trans HR4.out)
    have HB5 := Lib.hid (hB9 HB4.out (by omega))
    have hS : COf w.heap.size ak c w5 := by
      show w5.cell? ⟨w.heap.size, 0, none⟩ = _
      rw [cell_of_row _ _ _ _ _ _ ((hk9 w.heap.size (by omega)).trans HC4.out)]; rfl
    refine ⟨hS, ?_⟩
    clear hk9 hB9 hs9 HV4 HR4 HB4 HC4
    try simp only [Act.put, List.setIfInBounds_toArray, List.set_cons_zero, List.set_cons_succ]
    refine wpAnyH_done (by kernel_rfl) ?_ _
    clear hS
    go_wp2_with (refine wpList_load_w8 (o := ⟨some 28, _, _, _, _, _⟩) rfl (.tmp 5) rfl g 0 rfl z (RowU.range h9.out) ?_)
    refine (rdigest_calls z w5).mono ?_
    rintro e w6 ⟨rfl, hb⟩
    replace HR5 := Lib.hid (blk_below HR5.out hb)
    replace HB5 := Lib.hid (HB5.out.trans (hb.mono HB5.out.size))
    have hl := Lib.hid (digL_len z)
    clear hb h9
    generalize hD1 : digL z = D at hl ⊢
    replace hD1 := Lib.hid hD1
    go_wp2_with (refine wpList_store_dig rfl (.tmp 4) (.tmp 29) rfl (w.heap.size + 1) rfl D hl.out rfl _ _ HR5.out (by rw [List.size_toArray, Lib.byteCells, List.length_map, z32_len]) ?_; intro w9 h9 _ hB9)
    refine bodyPost_ret (v := .agg (Lib.byteCells D).toArray) ?_ rfl ⟨by rw [hr1.out, hu1.out, hE.out, hD1.out], hB9 HB5.out (by omega)⟩
    simp [results, Tryd.results63, asAddr, run_load_dig h9.out hl.out, Act.put]
  · skip
    refine wpOp_wp rfl (by rfl) ?_
    go_simp
    refine (htc.out w3.drew).mono ?_
    rintro e w3b ⟨rfl, hb⟩
    have HC3 := Lib.hid (CAt.below (w := w3.drew) HC.out hb)
    have hS : COf w.heap.size ak c w3b := HC3.out.cell0
    refine ⟨hS, ?_⟩
    have HV3 := Lib.hid (RowU.below (w := w3.drew) HV.out hb)
    have HR3 := Lib.hid (blk_below (show w3.drew.heap[w.heap.size + 1]? = _ from HR.out) hb)
    have HB3 := Lib.hid (HB.out.drew.trans (hb.mono HB.out.size))
    clear hb HV HR HB HC
    try simp only [Act.put, List.setIfInBounds_toArray, List.set_cons_zero, List.set_cons_succ]
    refine wpAnyH_take (i := 7) (v := ?_) rfl (by kernel_rfl) (by kernel_rfl) (by kernel_rfl) (fun _ _ _ h => h) (Or.inl ⟨by rfl, ?_⟩) hS ?_
    rotate_left
    · intro v _; go_simp; first | done | with_reducible rfl
    rotate_left
    simp only [Act.put, List.setIfInBounds_toArray, List.set_cons_zero, List.set_cons_succ]
    refine wpAnyH_all (rs := [2]) (by kernel_rfl) (by simp) ?_
    intro i hi
    simp only [List.mem_cons, List.not_mem_nil, or_false] at hi
    subst hi
    refine wpOp_wp rfl (by rfl) ?_
    refine wp_load_w8 (.tmp 5) rfl g 0 rfl u (RowU.range HV3.out) ?_
    refine ⟨hS, ?_⟩
    try simp only [Act.put, List.setIfInBounds_toArray, List.set_cons_zero, List.set_cons_succ]
    refine wpAnyH_all (rs := [8]) (by kernel_rfl) (by simp) ?_
    intro i hi
    simp only [List.mem_cons, List.not_mem_nil, or_false] at hi
    subst hi
    refine wpOp_wp rfl (by rfl) ?_
    go_simp
    refine (rall_calls ak c u (R ++ T) hrt.out _ (HK0.out.below HB3.out)).mono ?_
    rintro e w4 ⟨rfl, hb⟩
    rw [hta.out]
    have hE : endP u r s.size = digL (feedP u (r ++ tailL s.size)).1 := rfl
    generalize (feedP u (r ++ tailL s.size)).2 = r2
    generalize (feedP u (r ++ tailL s.size)).1 = z at hE ⊢
    replace hE := Lib.hid hE
    have hS : COf w.heap.size ak c w4 := (HC3.out.below hb).cell0
    refine ⟨hS, ?_⟩
    have HV4 := Lib.hid (HV3.out.below hb)
    have HR4 := Lib.hid (blk_below HR3.out hb)
    have HB4 := Lib.hid (HB3.out.trans (hb.mono HB3.out.size))
    have HC4 := Lib.hid (HC3.out.below hb)
    clear hb HV3 HR3 HB3 HC3
    try simp only [Act.put, List.setIfInBounds_toArray, List.set_cons_zero, List.set_cons_succ]
    refine wpAnyH_take (i := 9) (v := ?_) rfl (by kernel_rfl) (by kernel_rfl) (by kernel_rfl) (fun _ _ _ h => h) (Or.inl ⟨by rfl, ?_⟩) hS ?_
    rotate_left
    · intro v _; go_simp; first | done | with_reducible rfl
    rotate_left
    simp only [Act.put, List.setIfInBounds_toArray, List.set_cons_zero, List.set_cons_succ]
    refine wpAnyH_take (i := 10) (v := ?_) rfl (by kernel_rfl) (by kernel_rfl) (by kernel_rfl) (fun _ _ _ h => h) (Or.inl ⟨by rfl, ?_⟩) hS ?_
    rotate_left
    · intro v _; go_simp; first | done | with_reducible rfl
    rotate_left
    simp only [Act.put, List.setIfInBounds_toArray, List.set_cons_zero, List.set_cons_succ]
    refine wpAnyH_take (i := 11) (v := ?_) rfl (by kernel_rfl) (by kernel_rfl) (by kernel_rfl) (fun _ _ _ h => h) (Or.inl ⟨by rfl, ?_⟩) hS ?_
    rotate_left
    · intro v _; go_simp; first | done | with_reducible rfl
    rotate_left
    simp only [Act.put, List.setIfInBounds_toArray, List.set_cons_zero, List.set_cons_succ]
    refine wpAnyH_all (rs := [12]) (by kernel_rfl) (by simp) ?_
    intro i hi
    simp only [List.mem_cons, List.not_mem_nil, or_false] at hi
    subst hi
    refine wpOp_wp rfl (by rfl) ?_
    refine wp_store_w8 (.tmp 5) (.tmp 26) rfl g rfl _ rfl _ _ HV4.out rfl ?_
    intro w5 h9 hk9 hB9 hs9
    have HR5 := Lib.hid ((hk9 (w.heap.size + 1) (by omega)).trans HR4.out)
    have HB5 := Lib.hid (hB9 HB4.out (by omega))
    have hS : COf w.heap.size ak c w5 := by
      show w5.cell? ⟨w.heap.size, 0, none⟩ = _
      rw [cell_of_row _ _ _ _ _ _ ((hk9 w.heap.size (by omega)).trans HC4.out)]; rfl
    refine ⟨hS, ?_⟩
    clear hk9 hB9 hs9 HV4 HR4 HB4 HC4
    try simp only [Act.put, List.setIfInBounds_toArray, List.set_cons_zero, List.set_cons_succ]
    refine wpAnyH_done (by kernel_rfl) ?_ _
    clear hS
    go_wp2_with (refine wpList_load_w8 (o := ⟨some 28, _, _, _, _, _⟩) rfl (.tmp 5) rfl g 0 rfl z (RowU.range h9.out) ?_)
    refine (rdigest_calls z w5).mono ?_
    rintro e w6 ⟨rfl, hb⟩
    replace HR5 := Lib.hid (blk_below HR5.out hb)
    replace HB5 := Lib.hid (HB5.out.trans (hb.mono HB5.out.size))
    have hl := Lib.hid (digL_len z)
    clear hb h9
    generalize hD1 : digL z = D at hl ⊢
    replace hD1 := Lib.hid hD1
    go_wp2_with (refine wpList_store_dig rfl (.tmp 4) (.tmp 29) rfl (w.heap.size + 1) rfl D hl.out rfl _ _ HR5.out (by rw [List.size_toArray, Lib.byteCells, List.length_map, z32_len]) ?_; intro w9 h9 _ hB9)
    refine bodyPost_ret (v := .agg (Lib.byteCells D).toArray) ?_ rfl ⟨by rw [hr1.out, hu1.out, hE.out, hD1.out], hB9 HB5.out (by omega)⟩
    simp [results, Tryd.results63, asAddr, run_load_dig h9.out hl.out, Act.put]
end Go.Proofs.YtldpnmebjnkjeaaDoor.Ref10
