import Derived.Test.YtmefdlajjbcljaaProg
import Derived.Test.YtmefdlajjbcljaaPS8x0
import Derived.Test.YtmefdlajjbcljaaPS8x1
import Derived.WalkKit
import Derived.Below
import Derived.Deep.QuietTactic
import Derived.BigQuiet
import Derived.Outline
import Derived.LoopTactic
import Derived.Lib.Hide
import Derived.Lib.BufferWrite
import Derived.Deep.MidRow
import Derived.Deep.WholeRow
namespace Go.Proofs.Ytmefdlajjbcljaa
open Go.RowKit Go.Proofs.Ytmefdlajjbcljaa.PS8 Go.Proofs.YtmefdlajjbcljaaW.PrintWords
set_option linter.unusedVariables false
set_option linter.unusedSimpArgs false

namespace Sec
/-- The first sixty bytes of a sector. -/
def s60 (s : List UInt8) : List UInt8 := UInt8.ofNat s.length :: (s ++ List.replicate (58 - s.length) 0) ++ [165]
/-- The sum of bytes. -/
def sumU (l : List UInt8) : Nat := l.foldl (fun n x => (31 * n + x.toNat) % 4294967296) 1
/-- A byte of a sum. -/
def bt (n i : Nat) : UInt8 := UInt8.ofNat (n / 2 ^ (24 - 8 * i))
/-- A sector's bytes with the first i bytes of the sum. -/
def part (s : List UInt8) (i : Nat) : List UInt8 := s60 s ++ (List.range i).map (bt (sumU (s60 s))) ++ List.replicate (4 - i) 0
/-- A sector's bytes. -/
def sealL (s : List UInt8) : List UInt8 := s60 s ++ [bt (sumU (s60 s)) 0, bt (sumU (s60 s)) 1, bt (sumU (s60 s)) 2, bt (sumU (s60 s)) 3]
theorem part_four (s : List UInt8) : part s 4 = sealL s := by simp [part, sealL, List.range, List.range.loop]
theorem s60_length (s : List UInt8) (h : s.length ≤ 58) : (s60 s).length = 60 := by simp [s60]; omega
theorem part_length (s : List UInt8) (i : Nat) (h : s.length ≤ 58) (hi : i ≤ 4) : (part s i).length = 64 := by simp [part, s60_length s h]; omega
theorem sealL_length (s : List UInt8) (h : s.length ≤ 58) : (sealL s).length = 64 := by simp [sealL, s60_length s h]
theorem sumU_lt (l : List UInt8) : sumU l < 4294967296 := by
  unfold sumU
  rcases List.eq_nil_or_concat l with rfl | ⟨L, b, rfl⟩
  · decide
  · simp only [List.concat_eq_append, List.foldl_append, List.foldl_cons, List.foldl_nil]
    exact Nat.mod_lt _ (by decide)

theorem heap_at1 (w : World) (a b : Obj) : ((w.alloc a).alloc b).heap[w.heap.size + 1]? = some b := by
  have h := heap_alloc_last (w.alloc a) b
  rwa [show (w.alloc a).heap.size = w.heap.size + 1 by simp] at h

theorem start (w w3 : World) (c1 c2 c3 : Array Value) (t : TypeId) (h : ((w.alloc (.cells c1 t)).alloc (.cells c2 t)).setRow (w.heap.size + 1) c3 = w3) :
    Below w.heap.size w w3 ∧ w3.heap.size = w.heap.size + 2 ∧ w3.heap[w.heap.size + 1]? = some (.cells c3 t (0, 0)) ∧ w3.heap[w.heap.size]? = some (.cells c1 t (0, 0)) := by
  subst h
  refine ⟨⟨rfl, rfl, rfl, by simp; omega, fun k hk => ?_⟩, by simp, setRow_heap _ _ _ _ _ _ (heap_at1 _ _ _), ?_⟩
  · rw [setRow_other _ _ _ _ (by omega)]
    exact (((Below.refl w.heap.size w).alloc (Nat.le_refl _) _).alloc (by simp) _).block k hk
  · rw [setRow_other _ _ _ _ (by omega)]
    show ((w.heap.push _).push _)[w.heap.size]? = _
    simp [Array.getElem?_push]
/-- A row of bytes that lies at the head of a block reads as a row of numbers. -/
theorem bytes_C (w : World) (g : Nat) (l : List UInt8) (n : Nat) (T : TypeId) (hg : w.heap[g]? = some (.cells (Lib.byteCells l).toArray T (0, 0))) (hn : n ≤ l.length) (hb : l.length ≤ 9223372036854775807) :
    Kd.C (Kd.int .u8) w (some ⟨g, 0, none⟩) n ((l.take n).map fun b => (b.toNat : Int)) := by
  refine Kd.C_of_reads (d := (0 : Int)) (h1 := fun _ => rfl) ⟨by simp; omega, by omega, fun _ => ⟨_, rfl, fun i hi => ?_⟩⟩
  have hadd : (⟨g, 0, none⟩ : Addr).add i = ⟨g, i, none⟩ := by unfold Addr.add; simp; omega
  rw [hadd, cell_of_row w g i _ _ _ hg]
  have hi' : i < l.length := by omega
  rw [List.getElem?_toArray, Lib.byteCells, List.getElem?_map, List.getElem?_eq_getElem hi', List.getD_eq_getElem?_getD, List.getElem?_map, List.getElem?_take, if_pos hi, List.getElem?_eq_getElem hi']
  rfl

theorem row0 (s : List UInt8) (h : s.length ≤ 58) :
    ((Value.int .u8 (s.length : Int) :: List.replicate 63 (Value.int .u8 0)).take 1 ++ Lib.byteCells s ++ (Value.int .u8 (s.length : Int) :: List.replicate 63 (Value.int .u8 0)).drop (1 + s.length)).toArray
      = (Lib.byteCells (UInt8.ofNat s.length :: (s ++ List.replicate (63 - s.length) 0))).toArray := by
  congr 1
  have h8 : s.length % 256 = s.length := Nat.mod_eq_of_lt (by omega)
  rw [Nat.add_comm 1, List.drop_succ_cons, List.drop_replicate, List.take_succ_cons, List.take_zero]
  simp [Lib.byteCells, h8, List.map_replicate]

theorem row1 (s : List UInt8) (h : s.length ≤ 58) : (UInt8.ofNat s.length :: (s ++ List.replicate (63 - s.length) 0)).set 59 165 = part s 0 := by
  have e : List.replicate (63 - s.length) (0 : UInt8) = List.replicate (58 - s.length) 0 ++ (0 :: List.replicate 4 0) := by
    rw [← List.replicate_succ, List.replicate_append_replicate]; congr 1; omega
  unfold part s60
  rw [e, List.set_cons_succ, List.set_append_right _ _ (by omega), List.set_append_right _ _ (by simp)]
  rw [show 58 - s.length - (List.replicate (58 - s.length) (0 : UInt8)).length = 0 by simp]
  simp

theorem part_set (s : List UInt8) (i : Nat) (h : s.length ≤ 58) (hi : i < 4) : (part s i).set (60 + i) (bt (sumU (s60 s)) i) = part s (i + 1) := by
  unfold part
  have h60 := s60_length s h
  rw [List.set_append_right _ _ (by simp [h60]), List.length_append, List.length_map, List.length_range, h60, Nat.sub_self, List.range_succ, List.map_append, show 4 - i = (4 - (i + 1)) + 1 by omega, List.replicate_succ]
  simp
theorem store (w : World) (g i : Nat) (l : List UInt8) (b : UInt8) (T : TypeId) (hg : w.heap[g]? = some (.cells (Lib.byteCells l).toArray T (0, 0))) :
    (w.setCell ⟨g, i, none⟩ (.int .u8 (b.toNat : Int))).heap[g]? = some (.cells (Lib.byteCells (l.set i b)).toArray T (0, 0)) ∧ ∀ k, k ≠ g → (w.setCell ⟨g, i, none⟩ (.int .u8 (b.toNat : Int))).heap[k]? = w.heap[k]? := by
  refine ⟨?_, fun k hk => Below.heap_setCell _ _ _ _ hk⟩
  rw [World.setCell]
  simp only [Array.getElem?_modify, if_true, hg, Option.map_some]
  simp [Lib.byteCells, List.map_set]
theorem sum_loop : ∀ (l : List UInt8) (pre : List UInt8) (k : Nat), l.length < k → (pre ++ l).length ≤ 1000 →
    sector_sumOf.l0 k (sumU pre) ((pre ++ l).map fun b => (b.toNat : Int)) (((pre ++ l).map fun b => (b.toNat : Int)).length : Int) (pre.length : Int) = some ((sumU (pre ++ l) : Nat) : Int)
  | [], pre, k + 1, hk, hl => by
    simp [sector_sumOf.l0]
  | b :: l, pre, k + 1, hk, hl => by
    have h := sum_loop l (pre ++ [b]) k (by simpa using hk) (by simpa using hl)
    have hp : pre.length < ((pre ++ b :: l).map fun b => (b.toNat : Int)).length := by simp
    rw [sector_sumOf.l0, if_pos (by exact_mod_cast hp), if_pos (by omega), if_pos (by exact_mod_cast hp)]
    have hb : rd ((pre ++ b :: l).map fun b => (b.toNat : Int)) (pre.length : Int) = (b.toNat : Int) := by simp [rd]
    have h1 : wrap64 ((pre.length : Int) + 1) = ((pre ++ [b]).length : Int) := by
      rw [Go.IntWalk.wrap64_in _ (by simp at hl; omega)]; simp
    have h2 : (((31 * (sumU pre : Int)) % 4294967296) + ((rd ((pre ++ b :: l).map fun b => (b.toNat : Int)) (pre.length : Int)) % 4294967296)) % 4294967296 = (sumU (pre ++ [b]) : Int) := by
      have e : sumU (pre ++ [b]) = (31 * sumU pre + b.toNat) % 4294967296 := by simp [sumU, List.foldl_append]
      rw [hb, e]
      omega
    rw [h1, h2]
    simpa using h
theorem sum_run (l : List UInt8) (h : l.length ≤ 1000) (k : Nat) (hk : l.length < k) : sector_sumOf.f k (l.map fun b => (b.toNat : Int)) = some ((sumU l : Nat) : Int) := by
  have := sum_loop l [] k hk (by simpa using h)
  simpa [sector_sumOf.f, sumU] using this
end Sec

set_option maxHeartbeats 4000000 in
set_option maxRecDepth 100000 in
theorem sealed_calls (s : ByteArray) (w : World) (hs : s.size ≤ 58) :
    Calls Try.prog 48 #[.string s] w fun e w' => e = .returned (.agg (Lib.byteCells (Sec.sealL s.data.toList)).toArray) ∧ Below w.heap.size w w' := by
  go_enter Try.func48, Try.ntmps48
  go_wp2
  rw [Lib.run_copy_row_string (elem := 5) (hg := Sec.heap_at1 _ _ _) (hu := by kernel_rfl) (hs := by kernel_rfl) (hle := by omega) (hfit := by show 1 + s.size ≤ 64; omega)]
  generalize hw3 : World.setRow _ _ _ = w3
  have hsz : s.size = s.data.toList.length := Lib.size_eq s
  obtain ⟨hB3, hz3, hc3, hr3⟩ := Sec.start _ _ _ _ _ _ hw3
  clear hw3
  replace hB3 := Lib.hid hB3
  replace hz3 := Lib.hid hz3
  replace hr3 : Hid (w3.heap[w.heap.size]? = some (.cells (List.replicate 64 (Value.int .u8 0)).toArray 81 (0, 0))) := Lib.hid hr3
  replace hc3 : Hid (w3.heap[w.heap.size + 1]? = some (.cells (Lib.byteCells (UInt8.ofNat s.data.toList.length :: (s.data.toList ++ List.replicate (63 - s.data.toList.length) 0))).toArray 81 (0, 0))) := by
    rw [← Sec.row0 _ (by omega)]
    refine Lib.hid ?_
    rw [hsz] at hc3
    exact hc3
  have hl0 : Hid ((UInt8.ofNat s.data.toList.length :: (s.data.toList ++ List.replicate (63 - s.data.toList.length) 0) : List UInt8).length = 64) := by
    refine Lib.hid ?_
    simp
    omega
  replace hsz := Lib.hid hsz
  obtain ⟨v59, h59⟩ : ∃ v, w3.cell? ⟨w.heap.size + 1, 59, none⟩ = some v := by
    rw [cell_of_row _ _ _ _ _ _ hc3.out]
    refine ⟨_, Array.getElem?_eq_getElem ?_⟩
    simp only [List.size_toArray, Lib.byteCells, List.length_map]
    rw [hl0.out]
    decide
  have hf59 := frozen_of_row w3 (w.heap.size + 1) 59 _ _ hc3.out
  simp only [Result.andThen_ok, Oper.upon]
  rename_i hK
  refine hK _ _ ?_
  clear hK
  go_wp2_with fail
  obtain ⟨hc4, ho4⟩ := Sec.store w3 (w.heap.size + 1) 59 _ 165 _ hc3.out
  rw [Sec.row1 _ (by have := hsz.out; omega)] at hc4
  have hB4 : Below w.heap.size w (w3.setCell ⟨w.heap.size + 1, 59, none⟩ (.int .u8 ((165 : UInt8).toNat : Int))) := hB3.out.setCell (by simp) _
  have hz4 : (w3.setCell ⟨w.heap.size + 1, 59, none⟩ (.int .u8 ((165 : UInt8).toNat : Int))).heap.size = w.heap.size + 2 := by rw [← hz3.out]; simp [World.setCell]
  have hr4 := ho4 w.heap.size (by omega)
  rw [hr3.out] at hr4
  replace hc4 := Lib.hid hc4
  replace hB4 := Lib.hid hB4
  replace hz4 := Lib.hid hz4
  replace hr4 := Lib.hid hr4
  clear hc3 ho4 hB3 hz3 hr3 hl0 h59 hf59
  change Calls Try.prog 74 #[.slice (some ⟨w.heap.size + 1, 0, none⟩) 60 64] (w3.setCell ⟨w.heap.size + 1, 59, none⟩ (.int .u8 ((165 : UInt8).toNat : Int))) _
  generalize hw4 : w3.setCell ⟨w.heap.size + 1, 59, none⟩ (.int .u8 ((165 : UInt8).toNat : Int)) = w4
  rw [hw4] at hc4 hB4 hz4 hr4
  clear hw4 w3
  have hn60 : (Sec.s60 s.data.toList).length = 60 := Sec.s60_length _ (by have := hsz.out; omega)
  have hcall : Calls Try.prog 74 #[.slice (some ⟨w.heap.size + 1, 0, none⟩) 60 64] w4 fun e w' => e = .returned (.int .u32 ((Sec.sumU (Sec.s60 s.data.toList) : Nat) : Int)) ∧ Drawn0 w4 w' := by
    have hC := Sec.bytes_C w4 (w.heap.size + 1) _ 60 _ hc4.out (by rw [Sec.part_length _ _ (by have := hsz.out; omega) (by omega)]; omega) (by rw [Sec.part_length _ _ (by have := hsz.out; omega) (by omega)]; omega)
    have hS := Sec.sum_run (Sec.s60 s.data.toList) (by omega) 61 (by omega)
    have e60 : (Sec.part s.data.toList 0).take 60 = Sec.s60 s.data.toList := by
      unfold Sec.part
      rw [List.append_assoc, List.take_append_of_le_length (by omega), List.take_of_length_le (by omega)]
    rw [e60] at hC
    have hl : ((Sec.s60 s.data.toList).map fun b => (b.toNat : Int)).length = 60 := by rw [List.length_map, hn60]
    generalize ((Sec.s60 s.data.toList).map fun b => (b.toNat : Int)) = L at hC hS hl
    have := sector_sumOf.calls 61 (some ⟨w.heap.size + 1, 0, none⟩) 64 L _ w4 (by rw [hl]; exact hC) (by omega) hS
    rw [hl] at this
    exact this
  refine hcall.mono ?_
  rintro e w5 ⟨rfl, ⟨nd, rfl⟩⟩
  clear hcall
  obtain ⟨N, hN⟩ : ∃ N, N = Sec.sumU (Sec.s60 s.data.toList) := ⟨_, rfl⟩
  rw [← hN]
  replace hN := Lib.hid hN
  replace hn60 := Lib.hid hn60
  go_wp2_with fail
  go_loopw [16] (fun i wr => ∃ j : Nat, j ≤ 4 ∧ i = .int .i64 j ∧ Hid (Below w.heap.size w wr) ∧ Hid (wr.heap.size = w.heap.size + 2) ∧
      Hid (wr.heap[w.heap.size + 1]? = some (.cells (Lib.byteCells (Sec.part s.data.toList j)).toArray 81 (0, 0))) ∧
      Hid (wr.heap[w.heap.size]? = some (.cells (List.replicate 64 (Value.int .u8 0)).toArray 81 (0, 0)))) (fun i _ => 4 - (intOf i).toNat)
  case atStart => exact ⟨0, by omega, rfl, hB4.out.trans (Below.mono (Drawn0.below ⟨nd, rfl⟩) hB4.out.size), hz4, hc4, hr4⟩
  case round =>
    clear hB4 hz4 hc4 hr4 nd w4 v59
    obtain ⟨j, hj, rfl, hB, hz, hc, hr⟩ := hrel
    by_cases hlt : j < 4
    · obtain ⟨v, hv⟩ : ∃ v, wr.cell? ⟨w.heap.size + 1, 60 + j, none⟩ = some v := by
        rw [cell_of_row _ _ _ _ _ _ hc.out]
        refine ⟨_, Array.getElem?_eq_getElem ?_⟩
        simp only [List.size_toArray, Lib.byteCells, List.length_map]
        rw [Sec.part_length _ _ (by have := hsz.out; omega) hj]
        omega
      have hf := frozen_of_row wr (w.heap.size + 1) (60 + j) _ _ hc.out
      go_wp2_with fail
      have hb : (Value.int IntKind.u8 ((N : Int) / 2 ^ (24 - 8 * j) % 256)) = .int .u8 ((Sec.bt (Sec.sumU (Sec.s60 s.data.toList)) j).toNat : Int) := by
        rw [← hN.out, Sec.bt, UInt8.toNat_ofNat']
        push_cast
        rfl
      obtain ⟨hc2, ho2⟩ := Sec.store wr (w.heap.size + 1) (60 + j) _ (Sec.bt (Sec.sumU (Sec.s60 s.data.toList)) j) _ hc.out
      rw [Sec.part_set _ _ (by have := hsz.out; omega) hlt] at hc2
      refine ⟨⟨j + 1, by omega, by simp, ?_, ?_, ?_, ?_⟩, by simp [intOf]; omega⟩
      · exact hB.out.setCell (by simp) _
      · refine Lib.hid ?_
        rw [← hz.out]
        simp [World.setCell]
      · rw [hb]; exact hc2
      · rw [hb]
        refine Lib.hid ?_
        rw [ho2 _ (by omega)]
        exact hr.out
    · obtain rfl : j = 4 := by omega
      rw [Sec.part_four] at hc
      have h64 := Sec.sealL_length s.data.toList (by have := hsz.out; omega)
      generalize hX : (Lib.byteCells (Sec.sealL s.data.toList)).toArray = X at hc
      have hXs : X.size = 64 := by rw [← hX]; simp [Lib.byteCells, h64]
      have hX1 : X.all (·.oneCell') = true := by rw [← hX]; exact all_oneCell_toArray (Lib.byteCells_one _)
      have hLD : ∀ ops rest (a : Act) Q after, a.eval (.tmp 3) = .pointer (some ⟨w.heap.size + 1, 0, none⟩) → wpList Try.prog ops Q rest (a.put (some 29) (.agg X)) wr →
          wpList Try.prog ops Q ({ dst := some 29, op := .load 81 (.tmp 3), type := 81, pos := "sector.go:35", after := after, guard := none } :: rest) a wr := by
        intro ops rest a Q after ha h
        refine wpList_load_mid rfl 81 (.tmp 3) rfl (w.heap.size + 1) 0 ha X.toList (.array 64 5) ?_ (by kernel_rfl) rfl (by rw [Array.length_toList, hXs]; kernel_rfl) h
        intro i v hv
        rw [cell_of_row _ _ _ _ _ _ hc.out]
        simpa using hv
      have hST : ∀ ops rest (a : Act) Q after, a.eval (.tmp 2) = .pointer (some ⟨w.heap.size, 0, none⟩) → a.eval (.tmp 29) = .agg X → wpList Try.prog ops Q rest (a.put none undef) (wr.setRow w.heap.size X) →
          wpList Try.prog ops Q ({ dst := none, op := .store 81 (.tmp 2) (.tmp 29), type := 0, pos := "sector.go:35", after := after, guard := none } :: rest) a wr := by
        intro ops rest a Q after ha hb h
        refine wpList_plain rfl fun _ hK => ?_
        unfold Oper.wp execOp
        simp only [ha, hb, Instr.storeAt, Instr.sureAddr, Sem.run_bind, Sem.run_pure, Result.andThen_ok, run_storeVar_row wr _ _ _ _ _ hr.out (show (Try.prog.info? 81).map (·.size) = some X.size by rw [hXs]; kernel_rfl) (by rw [hXs]; simp) hX1]
        exact hK _ _ h
      have hrow := Lib.hid (setRow_heap wr w.heap.size _ X _ _ hr.out)
      have hBr := Lib.hid (show Below w.heap.size w (wr.setRow w.heap.size X) from hB.out.trans ⟨rfl, rfl, rfl, by simp, fun k hk => setRow_other _ _ _ _ (by omega)⟩)
      have hXs' := Lib.hid hXs
      clear h64 hXs hX1
      replace hX := Lib.hid hX
      go_wp2_with (first | (refine hLD _ _ _ _ _ rfl ?_) | (refine hST _ _ _ _ _ rfl rfl ?_))
      have hlv : (loadVar 81 ⟨w.heap.size, 0, none⟩).run Try.prog (wr.setRow w.heap.size X) = .ok (.agg X) (wr.setRow w.heap.size X) :=
        run_loadVar_row _ _ _ _ _ _ (.array 64 5) hrow.out (by kernel_rfl) rfl (by rw [hXs'.out]; kernel_rfl)
      refine bodyPost_ret (v := .agg X) ?_ rfl ⟨by rw [hX.out], hBr.out⟩
      simp [results, Try.results48, asAddr, hlv, Act.put]
end Go.Proofs.Ytmefdlajjbcljaa
