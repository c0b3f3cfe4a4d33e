import Derived.Test.YtldpnmebjnkjeaaDoorShaI
namespace Go.Proofs.YtldpnmebjnkjeaaDoor.Sha
open Go.RowKit Go.Proofs.YtldpnmebjnkjeaaDoorW.PrintWords
set_option linter.unusedVariables false
set_option linter.unusedSimpArgs false

theorem byteSlot (l : List UInt8) (j : Nat) : (Lib.byteCells l)[j]? = (l[j]?).map fun b => Value.int .u8 (b.toNat : Int) := by rw [Lib.byteCells, List.getElem?_map]
set_option maxHeartbeats 4000000 in
set_option maxRecDepth 100000 in
theorem parse_len (s : ByteArray) (w : World) (hs : s.size ≠ 64) :
    Calls Tryd.prog 22 #[.string s] w fun e w' => e = .returned (.tuple #[zeroDig, .int .i64 3]) ∧ Below w.heap.size w w' := by
  have h1 : ((s.size : Int) == 64) = false := by simp; omega
  have h2 : ((s.size : Int) != 64) = true := by simp; omega
  replace hs := Lib.hid hs
  go_enter Tryd.func22, Tryd.ntmps22
  go_wp2_with (refine wpList_store_dig rfl (.tmp 2) (.tmp 10) rfl w.heap.size rfl (List.replicate 32 0) z32_len rfl (Lib.byteCells (List.replicate 32 0)).toArray 24 (by rw [Below.heap_alloc _ _ _ (by simp)]; exact heap_alloc_last _ _) (by rw [List.size_toArray, Lib.byteCells, List.length_map, z32_len]) ?_; intro w9 h9 _ hB9)
  refine bodyPost_ret (v := .tuple #[zeroDig, .int .i64 3]) ?_ rfl ⟨rfl, hB9 (((Below.refl _ _).alloc (Nat.le_refl _) _).alloc (by simp) _) (by omega)⟩
  simp [results, Tryd.results22, asAddr, run_load_dig h9.out z32_len, Act.put, zeroDig]
set_option maxHeartbeats 8000000 in
set_option maxRecDepth 100000 in
theorem parse_full (s : ByteArray) (w : World) (hs : s.size = 64) :
    Calls Tryd.prog 22 #[.string s] w fun e w' => e = .returned (parseV s) ∧ Below w.heap.size w w' := by
  have hsl : s.data.toList.length = 64 := by rw [← Lib.size_eq]; exact hs
  have h1 : ((s.size : Int) == 64) = true := by simp; omega
  have h2 : ((s.size : Int) != 64) = false := by simp; omega
  replace hs := Lib.hid hs
  replace hsl := Lib.hid hsl
  go_enter Tryd.func22, Tryd.ntmps22
  go_wp2_with fail
  clear h1 h2
  generalize hw1 : (w.alloc _).alloc _ = w1
  have HR : Hid (w1.heap[w.heap.size]? = some (.cells (Lib.byteCells (List.replicate 32 0)).toArray 24 (0, 0))) := by
    rw [← hw1, Below.heap_alloc _ _ _ (by simp)]; exact heap_alloc_last _ _
  have HD : Hid (w1.heap[w.heap.size + 1]? = some (.cells (Lib.byteCells (dp s.data.toList 0)).toArray 24 (0, 0))) := by
    rw [← hw1, dp_zero]; exact heap_at1 _ _ _
  have HB : Hid (Below w.heap.size w w1) := by
    rw [← hw1]; exact Lib.hid (((Below.refl _ _).alloc (Nat.le_refl _) _).alloc (by simp) _)
  clear hw1
  have hz : (s.size : Int) = 64 := by have := hs.out; omega
  go_loopw [13] (fun i wr => ∃ j : Nat, j ≤ 64 ∧ i = .int .i64 j ∧ Hid (∀ k, k < j → 0 ≤ val (s.data.toList.getD k 0)) ∧ Hid (wr.heap[w.heap.size]? = some (.cells (Lib.byteCells (List.replicate 32 0)).toArray 24 (0, 0))) ∧ Hid (wr.heap[w.heap.size + 1]? = some (.cells (Lib.byteCells (dp s.data.toList j)).toArray 24 (0, 0))) ∧ Hid (Below w.heap.size w wr)) (fun i _ => 64 - (intOf i).toNat)
  case atStart => exact ⟨0, by omega, rfl, Lib.hid (fun k hk => by omega), HR, HD, HB⟩
  case round =>
    clear HR HD HB
    obtain ⟨j, hj, rfl, HV, HR, HD, HB⟩ := hrel
    by_cases h64 : j < 64
    · have k64 : (j : Int) < 64 := by omega
      have q0 : (j : Int) / 2 < 32 := by omega
      have hjs : j < s.size := by have := hs.out; omega
      have hjl : j < s.data.toList.length := by rw [hsl.out]; exact h64
      have hsj : s[j] = s.data.toList.getD j 0 := by
        rw [List.getD_eq_getElem?_getD, List.getElem?_eq_getElem hjl]
        rfl
      replace hsj := Lib.hid hsj
      replace hz := Lib.hid hz
      go_wp2_with fail
      refine (Tryd.strings_IndexByte _ _ wr).mono ?_
      rintro e w2 ⟨rfl, rfl⟩
      have hv : Lib.indexByte (⟨#[48, 49, 50, 51, 52, 53, 54, 55, 56, 57, 97, 98, 99, 100, 101, 102]⟩ : ByteArray).data.toList ((s[j].toNat : Int).toNat.toUInt8) = val (s.data.toList.getD j 0) := by
        rw [hsj.out]
        unfold val
        congr 1
        rw [Int.toNat_natCast]
        simp
      rw [hv]
      clear hv
      have hbd := val_bd (s.data.toList.getD j 0)
      by_cases hneg : val (s.data.toList.getD j 0) < 0
      · have hall : allDigits s.data.toList = false := by
          unfold allDigits
          rw [List.all_eq_false]
          refine ⟨s.data.toList.getD j 0, ?_, ?_⟩
          · rw [List.getD_eq_getElem?_getD, List.getElem?_eq_getElem hjl]; exact List.getElem_mem _
          · intro h; have := of_decide_eq_true h; omega
        replace hall := Lib.hid hall
        generalize val (s.data.toList.getD j 0) = v at hneg hbd ⊢
        go_wp2_with (refine wpList_store_dig rfl (.tmp 2) (.tmp 22) rfl w.heap.size rfl (List.replicate 32 0) z32_len rfl (Lib.byteCells (List.replicate 32 0)).toArray 24 HR.out (by rw [List.size_toArray, Lib.byteCells, List.length_map, z32_len]) ?_; intro w9 h9 _ hB9)
        refine bodyPost_ret (v := .tuple #[zeroDig, .int .i64 3]) ?_ rfl ⟨?_, hB9 HB.out (by omega)⟩
        · simp [results, Tryd.results22, asAddr, run_load_dig h9.out z32_len, Act.put, zeroDig]
        · unfold parseV; rw [if_neg (fun h3 => by have := h3.2; rw [hall.out] at this; cases this)]
      · have hpos : 0 ≤ val (s.data.toList.getD j 0) := by omega
        have hval := dp_value s.data.toList j h64 _ rfl hpos
        have hc : w2.cell? ⟨w.heap.size + 1, j / 2, none⟩ = some (.int .u8 ((dpAt s.data.toList j (j / 2)).toNat : Int)) := by
          rw [cell_of_row _ _ _ _ _ _ HD.out, List.getElem?_toArray, byteSlot, dp_get _ _ _ (by omega)]; rfl
        have hf : ∀ i, w2.frozen? ⟨w.heap.size + 1, i, none⟩ = false := fun i => frozen_of_row w2 _ i _ _ HD.out
        have hnext := dp_step s.data.toList j h64 _ rfl
        have hV2 : Hid (∀ k, k < j + 1 → 0 ≤ val (s.data.toList.getD k 0)) := Lib.hid (fun k hk => by
          by_cases h : k = j
          · subst h; exact hpos
          · exact HV.out k (by omega))
        generalize hD0 : dpAt s.data.toList j (j / 2) = d0 at hval hc
        generalize hD1 : dpAt s.data.toList (j + 1) (j / 2) = d1 at hval hnext
        generalize val (s.data.toList.getD j 0) = v at hpos hbd hval hneg ⊢
        replace hD0 := Lib.hid hD0
        replace hD1 := Lib.hid hD1
        replace hval := Lib.hid hval
        replace hnext := Lib.hid hnext
        go_wp2_with fail
        go_roundw
        case rel =>
          refine ⟨j + 1, by omega, by go_num, hV2, Lib.hid ?_, Lib.hid ?_, Lib.hid (HB.out.setCell (by simp) _)⟩
          · rw [Below.heap_setCell _ _ _ _ (by simp)]; exact HR.out
          · rw [set_row HD.out, ← hnext.out]
            rw [hval.out]
            simp [Lib.byteCells, List.map_set]
        case measure => simp [intOf]; omega
    · obtain rfl : j = 64 := by omega
      have hall : allDigits s.data.toList = true := by
        unfold allDigits
        rw [List.all_eq_true]
        intro x hx
        obtain ⟨k, hk, rfl⟩ := List.getElem_of_mem hx
        have := HV.out k (by rw [← hsl.out]; exact hk)
        rw [List.getD_eq_getElem?_getD, List.getElem?_eq_getElem hk] at this
        simpa using this
      have hdl := Lib.hid (dp_len s.data.toList 64)
      generalize hE : dp s.data.toList 64 = D at HD hdl
      replace hE := Lib.hid hE
      replace hall := Lib.hid hall
      go_wp2_with (first | (refine wpList_load_dig (o := ⟨some 35, _, _, _, _, _⟩) rfl (.tmp 4) rfl (w.heap.size + 1) rfl D hdl.out _ _ HD.out ?_) | (refine wpList_store_dig rfl (.tmp 2) (.tmp 35) rfl w.heap.size rfl D hdl.out rfl _ _ HR.out (by rw [List.size_toArray, Lib.byteCells, List.length_map, z32_len]) ?_; intro w9 h9 _ hB9))
      refine bodyPost_ret (v := .tuple #[.agg (Lib.byteCells D).toArray, .int .i64 0]) ?_ rfl ⟨?_, hB9 HB.out (by omega)⟩
      · simp [results, Tryd.results22, asAddr, run_load_dig h9.out hdl.out, Act.put]
      · unfold parseV; rw [if_pos ⟨hs.out, hall.out⟩, hE.out]
theorem parse_calls (s : ByteArray) (w : World) : Calls Tryd.prog 22 #[.string s] w fun e w' => e = .returned (parseV s) ∧ Below w.heap.size w w' := by
  by_cases h : s.size = 64
  · exact parse_full s w h
  · refine (parse_len s w h).mono ?_
    rintro e w' ⟨rfl, hb⟩
    exact ⟨by unfold parseV; rw [if_neg (fun h2 => h h2.1)], hb⟩
end Go.Proofs.YtldpnmebjnkjeaaDoor.Sha
