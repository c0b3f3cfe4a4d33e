import Derived.Test.YtldpnmebjnkjeaaDoorShaJ
import Derived.Test.YtldpnmebjnkjeaaDoorShaG
import Derived.Test.YtldpnmebjnkjeaaDoorShaA
import Derived.RegionCalls
namespace Go.Proofs.YtldpnmebjnkjeaaDoor.Sha
open Go.RowKit Go.Proofs.YtldpnmebjnkjeaaDoorW.PrintWords
set_option linter.unusedVariables false
set_option linter.unusedSimpArgs false

theorem eqItems (w : World) (l m : List UInt8) : ∀ is : List Nat, (∀ i ∈ is, i < l.length ∧ i < m.length) →
    (Op.eqItems 9999 5 1 (Lib.byteCells l).toArray (Lib.byteCells m).toArray is).run Tryd.prog w = .ok (is.all fun i => l[i]? == m[i]?) w
  | [], _ => by simp [Op.eqItems]
  | i :: is, h => by
    have h1 := h i (by simp)
    have hp : Tryd.prog.plainKey 5 = true := by kernel_rfl
    have hu : Tryd.prog.underlying 5 = some (.int .u8) := by kernel_rfl
    have e1 : (Lib.byteCells l).toArray[i]? = some (.int .u8 (l[i].toNat : Int)) := by
      rw [List.getElem?_toArray, Lib.byteCells, List.getElem?_map, List.getElem?_eq_getElem h1.1]; rfl
    have e2 : (Lib.byteCells m).toArray[i]? = some (.int .u8 (m[i].toNat : Int)) := by
      rw [List.getElem?_toArray, Lib.byteCells, List.getElem?_map, List.getElem?_eq_getElem h1.2]; rfl
    have hb : ((l[i].toNat : Int) == (m[i].toNat : Int)) = (l[i]? == m[i]?) := by
      rw [List.getElem?_eq_getElem h1.1, List.getElem?_eq_getElem h1.2, Bool.eq_iff_iff]
      simp only [beq_iff_eq, Int.natCast_inj, Option.some.injEq]
      exact ⟨fun h => UInt8.toNat_inj.1 h, fun h => by rw [h]⟩
    simp only [Op.eqItems, Sem.run_bind, Nat.mul_one, run_part_plain w hp e1, run_part_plain w hp e2, Result.andThen_ok, run_equalIn_int w 9998 5 .u8 .u8 _ _ hu, hb, List.all_cons]
    cases l[i]? == m[i]?
    · simp
    · simpa using eqItems w l m is (fun j hj => h j (by simp [hj]))

/-- Are two digests one? -/
theorem eq32 (w : World) (l m : List UInt8) (hl : l.length = 32) (hm : m.length = 32) :
    (Op.equalIn 10000 24 (.agg (Lib.byteCells l).toArray) (.agg (Lib.byteCells m).toArray)).run Tryd.prog w = .ok (decide (l = m)) w := by
  have hc : Tryd.prog.cellsOf 5 = 1 := by kernel_rfl
  obtain ⟨i, hi⟩ : ∃ i, Tryd.prog.info? 5 = some i := by
    have h : (Tryd.prog.info? 5).isSome = true := by kernel_rfl
    exact Option.isSome_iff_exists.1 h
  rw [run_equalIn_array w 9999 _ _ (show Tryd.prog.underlying 24 = some (.array 32 5) by kernel_rfl) hi, hc, eqItems w l m _ (fun i hi => by have := List.mem_range.1 hi; omega)]
  refine congrArg (fun b => Result.ok b w) ?_
  rw [Bool.eq_iff_iff, List.all_eq_true, decide_eq_true_eq]
  constructor
  · intro h
    apply List.ext_getElem?
    intro i
    by_cases hi : i < 32
    · simpa using h i (List.mem_range.2 hi)
    · rw [List.getElem?_eq_none (by omega), List.getElem?_eq_none (by omega)]
  · rintro rfl i _
    simp
/-- A digest out of a variable, whatever the operation's guard, if it runs. -/
theorem wpList_load_digG {ops : Array Oper} {rest : List Oper} {o : Oper} {a : Act} {Q : Exit → Act → World → Prop} {w : World} (hw : Region.wanted o (yielded ops a.tmps) = true) (x : Operand) (ho : o.op = .load 24 x) (b : Nat) (hx : a.eval x = .pointer (some ⟨b, 0, none⟩))
    (l : List UInt8) (hl : l.length = 32) (t : TypeId) (fr : Nat × Nat) (hr : w.heap[b]? = some (.cells (Lib.byteCells l).toArray t fr)) (h : wpList Tryd.prog ops Q rest (a.put o.dst (.agg (Lib.byteCells l).toArray)) w) : wpList Tryd.prog ops Q (o :: rest) a w := by
  refine wpList_step fun K hK => ?_
  rw [if_pos hw]
  refine wp_load_mid 24 x ho b 0 hx (Lib.byteCells l) (.array 32 5) ?_ (by kernel_rfl) rfl (by rw [Lib.byteCells, List.length_map, hl]; kernel_rfl) (hK _ _ h)
  intro j v hv
  rw [Nat.zero_add, cell_of_row _ _ _ _ _ _ hr]
  simpa using hv
/-- A digest's variable. -/
def DigAt (b : Nat) (l : List UInt8) (w : World) : Prop := w.heap[b]? = some (.cells (Lib.byteCells l).toArray 24 (0, 0))
theorem DigAt.below {b : Nat} {l : List UInt8} {w w1 : World} (h : DigAt b l w) (hb : Below w.heap.size w w1) : DigAt b l w1 := blk_below h hb
set_option maxHeartbeats 4000000 in
set_option maxRecDepth 100000 in
theorem alive_calls (w : World) (hK : KAt w) : Calls Tryd.prog 15 #[] w fun e w' => e = .returned (.bool true) ∧ Below w.heap.size w w' := by
  have hab := abc_hex
  have hl := sumL_len [97, 98, 99]
  generalize hD : sumL [97, 98, 99] = D at hab hl
  replace hab := Lib.hid hab
  replace hl := Lib.hid hl
  replace hD := Lib.hid hD
  go_enter Tryd.func15, Tryd.ntmps15
  go_wp2_with fail
  refine (sum_ok ⟨#[97, 98, 99]⟩ w hK (by decide)).mono ?_
  rintro e w1 ⟨rfl, hb⟩
  rw [show ((⟨#[97, 98, 99]⟩ : ByteArray)).data.toList = [97, 98, 99] from rfl, hD.out]
  replace hb := Lib.hid hb
  go_wp2_with (first | (refine wpList_store_dig rfl (.tmp 1) (.tmp 5) rfl w1.heap.size rfl D hl.out rfl (Lib.byteCells (List.replicate 32 0)).toArray 24 (heap_alloc_last _ _) (by rw [List.size_toArray, Lib.byteCells, List.length_map, z32_len]) ?_; intro w2 h2 _ hB2) | (refine wpList_load_digG rfl (.tmp 1) rfl w1.heap.size rfl D hl.out _ _ h2.out ?_))
  refine (hex_calls D hl.out w2).mono ?_
  rintro e w3 ⟨rfl, hb3⟩
  rw [hab.out]
  have hB := Lib.hid (((hB2 ((Below.alloc hb.out hb.out.size _)) hb.out.size).trans (Below.mono hb3 (Below.size (hB2 ((Below.alloc hb.out hb.out.size _)) hb.out.size)))))
  clear hb3 hB2
  go_wp2_with fail
  go_ret
  exact ⟨rfl, hB.out⟩
end Go.Proofs.YtldpnmebjnkjeaaDoor.Sha
