import Derived.Test.YtldpnmebjnkjeaaDoorShaS
import Derived.Test.YtldpnmebjnkjeaaDoorBld
namespace Go.Proofs.YtldpnmebjnkjeaaDoor.Sha
open Go.RowKit Go.Proofs.YtldpnmebjnkjeaaDoorW.PrintWords
set_option linter.unusedVariables false
set_option linter.unusedSimpArgs false

def digitsL : List UInt8 := [48, 49, 50, 51, 52, 53, 54, 55, 56, 57, 97, 98, 99, 100, 101, 102]
def hd (n : Nat) : UInt8 := digitsL.getD n 0
/-- The digits of bytes. -/
def hexL (l : List UInt8) : List UInt8 := l.flatMap fun x => [hd (x.toNat / 16), hd (x.toNat % 16)]
theorem hexL_snoc (l : List UInt8) (x : UInt8) : hexL (l ++ [x]) = hexL l ++ [hd (x.toNat / 16)] ++ [hd (x.toNat % 16)] := by
  unfold hexL; rw [List.flatMap_append]; simp
theorem hexL_len (l : List UInt8) : (hexL l).length = 2 * l.length := by
  induction l with
  | nil => rfl
  | cons a l ih => unfold hexL at *; rw [List.flatMap_cons, List.length_append, ih]; simp; omega
theorem digit_at (n : Nat) (h : n < (⟨#[48, 49, 50, 51, 52, 53, 54, 55, 56, 57, 97, 98, 99, 100, 101, 102]⟩ : ByteArray).size) : (⟨#[48, 49, 50, 51, 52, 53, 54, 55, 56, 57, 97, 98, 99, 100, 101, 102]⟩ : ByteArray)[n]'h = hd n := by
  have all : ∀ m : Fin 16, (⟨#[48, 49, 50, 51, 52, 53, 54, 55, 56, 57, 97, 98, 99, 100, 101, 102]⟩ : ByteArray)[m.val]'m.isLt = hd m.val := by decide
  exact all ⟨n, h⟩
theorem and15 (x : UInt8) : bits .and .u8 (x.toNat : Int) 15 = ((x.toNat % 16 : Nat) : Int) := by
  have all : ∀ m : Fin 256, bits .and .u8 (m.val : Int) 15 = ((m.val % 16 : Nat) : Int) := by decide +kernel
  exact all ⟨x.toNat, x.toNat_lt⟩
set_option maxHeartbeats 4000000 in
set_option maxRecDepth 100000 in
theorem hex_calls (d : List UInt8) (hd32 : d.length = 32) (w : World) :
    Calls Tryd.prog 27 #[.agg (Lib.byteCells d).toArray] w fun e w' => e = .returned (.string ⟨(hexL d).toArray⟩) ∧ Below w.heap.size w w' := by
  replace hd32 := Lib.hid hd32
  go_enter Tryd.func27, Tryd.ntmps27
  go_wp2_with (refine wpList_load_dig (o := ⟨some 6, _, _, _, _, _⟩) rfl (.tmp 1) rfl w.heap.size rfl d hd32.out 24 (0, 0) (by rw [Below.heap_alloc _ _ _ (by simp)]; exact heap_alloc_last _ _) ?_)
  generalize hw1 : (w.alloc _).alloc _ = w1
  have HI : Hid (Lib.IsBuilder 100 5 (w.heap.size + 1) (w.heap.size + 1) (Lib.byteCells (hexL (d.take 0))) w1) := by
    rw [← hw1]; refine Lib.hid (.inl ⟨Nat.le_refl _, .slice none 0 0, heap_at1 _ _ _, ⟨rfl, .inl ⟨rfl, rfl⟩⟩, by simp [Value.ownBlock]⟩)
  have HB : Hid (Below w.heap.size w w1) := by
    rw [← hw1]; exact Lib.hid (((Below.refl _ _).alloc (Nat.le_refl _) _).alloc (by simp) _)
  have HS : Hid (w.heap.size + 1 ≤ w1.heap.size) := by rw [← hw1]; exact Lib.hid (by simp)
  clear hw1
  go_loopw [7] (fun i wr => ∃ j : Nat, j ≤ 32 ∧ i = .int .i64 j ∧ Hid (Lib.IsBuilder 100 5 (w.heap.size + 1) (w.heap.size + 1) (Lib.byteCells (hexL (d.take j))) wr) ∧ Hid (Below w.heap.size w wr) ∧ Hid (w.heap.size + 1 ≤ wr.heap.size)) (fun i _ => 32 - (intOf i).toNat)
  case atStart => exact ⟨0, by omega, rfl, HI, HB, HS⟩
  case round =>
    clear HI HB HS
    obtain ⟨j, hj, rfl, HI, HB, HS⟩ := hrel
    by_cases h32 : j < 32
    · have k32 : (j : Int) < 32 := by omega
      have hjd : j < d.length := by rw [hd32.out]; exact h32
      have hix : d[j]? = some d[j] := List.getElem?_eq_getElem hjd
      have htk : d.take (j + 1) = d.take j ++ [d[j]] := by rw [List.take_succ_eq_append_getElem hjd]
      generalize d[j] = x at hix htk
      have hrun := fun w : World => run_index_dig d hd32.out j h32 x hix w
      replace htk := Lib.hid htk
      replace hix := Lib.hid hix
      have hx1 : (x.toNat : Int) / 16 < 16 := by have := x.toNat_lt; omega
      go_wp2_with fail
      rw [digit_at]
      have hlen : (hexL (d.take j)).length ≤ 64 := by rw [hexL_len, List.length_take]; omega
      have hb1 : (Lib.byteCells (hexL (d.take j))).length + 1 ≤ 140737488355328 := by rw [Lib.byteCells, List.length_map]; omega
      refine (writeByte_calls (w.heap.size + 1) (w.heap.size + 1) _ _ wr HI.out hb1 HS.out).mono ?_
      rintro e w2 ⟨rfl, hat, hb⟩
      have ha := and15 x
      have hx2 : x.toNat % 16 < 16 := by omega
      replace hlen := Lib.hid hlen
      replace hat := Lib.hid hat
      replace HB := Lib.hid (HB.out.trans (hb.mono (by omega)))
      replace HS := Lib.hid (Nat.le_trans HS.out hb.size)
      clear hb hb1
      go_wp2_with fail
      rw [digit_at]
      have hb2 : (Lib.byteCells (hexL (d.take j)) ++ [Value.int .u8 ((hd (x.toNat / 16)).toNat : Int)]).length + 1 ≤ 140737488355328 := by have := hlen.out; rw [List.length_append, Lib.byteCells, List.length_map]; simp; omega
      refine (writeByte_calls (w.heap.size + 1) (w.heap.size + 1) _ _ w2 (.inr hat.out) hb2 HS.out).mono ?_
      rintro e w3 ⟨rfl, hat3, hb⟩
      clear ha hx2
      replace hat3 := Lib.hid hat3
      replace HB := Lib.hid (HB.out.trans (hb.mono (by omega)))
      replace HS := Lib.hid (Nat.le_trans HS.out hb.size)
      clear hb hb2
      go_wp2_with fail
      go_roundw
      case rel =>
        refine ⟨j + 1, by omega, by go_num, Lib.hid (.inr ?_), HB, HS⟩
        rw [htk.out, hexL_snoc]
        have h9 := hat3.out
        simpa [Lib.byteCells, List.map_append] using h9
      case measure => simp [intOf]; omega
    · obtain rfl : j = 32 := by omega
      rw [List.take_of_length_le (by rw [hd32.out]; omega)] at HI
      go_wp2_with fail
      refine (Tryd.Builder_String_any (w.heap.size + 1) (w.heap.size + 1) (hexL d) wr HI.out HS.out).mono ?_
      rintro e w2 ⟨rfl, hb⟩
      replace HB := Lib.hid (HB.out.trans (hb.mono (by omega)))
      clear hb
      go_wp2_with fail
      go_ret
      exact ⟨rfl, HB.out⟩
end Go.Proofs.YtldpnmebjnkjeaaDoor.Sha
