import Derived.Test.YtldpnmebjnkjeaaDoorOpen
import Derived.Test.YtldpnmebjnkjeaaDoorProg
import Derived.WideShapes
import Derived.Lib.BufferWrite
namespace Go.Proofs.YtldpnmebjnkjeaaDoor.ShaOpen
open Go.RowKit Go.Proofs.YtldpnmebjnkjeaaDoorW.PrintWords Go.ChangeShapes Go.WideShapes
set_option linter.unusedVariables false
set_option linter.unusedSimpArgs false

theorem okWide_arr {P : Program} {w : World} {r : Reach} {base : Nat} {t e : TypeId} {n : Nat} {v : Value} (ht : P.underlying t = some (.array n e)) (h : Value.okWide P w r base t v) : ∃ cs, v = .agg cs ∧ cs.size = P.cellsOf t := by
  simp only [Value.okWide, ht] at h
  obtain ⟨cs, h1, h2, _⟩ := h
  exact ⟨cs, h1, h2⟩
theorem und : Tryd.prog.underlying 24 = some (.array 32 5) := by kernel_rfl
set_option maxRecDepth 100000 in
theorem opens_dig : Op.Opens Tryd.prog 24 (Kd.arr 32 (Kd.int .u8) (by decide)) (fun l => ∀ x ∈ l, (Lit.int .u8 x).wf = true) :=
  Op.opens_arr und (Op.opens_int Tryd.underlying5) (by kernel_rfl) (by kernel_rfl) (by decide)
set_option maxRecDepth 100000 in
/-- A digest among the arguments: its bytes. -/
theorem open_dig {W : World} {r : Reach} {base : Nat} {v : Value} (hv : Value.okWide Tryd.prog W r base 24 v) {H : Type} {enc : TypeId × Value → H} {b0 : Nat} {spare : Nat → Bool} {held : Bool} {fuel : Nat} {x : DataW H × List MemPlace}
    (h : DataW.trod enc Tryd.prog W b0 spare held fuel 24 v.cells.toList = some x) : ∃ l : List UInt8, l.length = 32 ∧ v = .agg (Lib.byteCells l).toArray := by
  obtain ⟨cs, rfl, hcs⟩ := okWide_arr und hv
  obtain ⟨xs, hK, hI⟩ := opens_dig enc W b0 spare held fuel _ x h
  obtain ⟨hl, he⟩ := Kd.arr_cells hK
  refine ⟨xs.map fun z => UInt8.ofNat z.toNat, by simpa using hl, ?_⟩
  congr 1
  apply Array.toList_inj.1
  have e : (Value.agg cs).cells.toList = cs.toList := rfl
  rw [e] at he
  rw [he]
  show encs _ xs = Lib.byteCells _
  unfold encs Lib.byteCells
  rw [List.map_map]
  apply List.map_congr_left
  intro z hz
  have hw := hI z hz
  have hw2 : IntKind.u8.min ≤ z ∧ z ≤ IntKind.u8.max := by simpa [Lit.wf] using hw
  have hw3 : (0 : Int) ≤ z ∧ z ≤ 255 := hw2
  show Value.int .u8 z = Value.int .u8 ((UInt8.ofNat z.toNat).toNat : Int)
  rw [UInt8.toNat_ofNat']
  congr 1
  omega
theorem opens_ints : Op.Opens Tryd.prog 43 (Kd.slice 3 (Kd.int .i64)) (fun l => l.length ≤ maxLen ∧ ∀ x ∈ l, (Lit.int .i64 x).wf = true) :=
  Op.opens_slice Tryd.underlying43 (Op.opens_int Tryd.underlying3) (by kernel_rfl)
end Go.Proofs.YtldpnmebjnkjeaaDoor.ShaOpen
