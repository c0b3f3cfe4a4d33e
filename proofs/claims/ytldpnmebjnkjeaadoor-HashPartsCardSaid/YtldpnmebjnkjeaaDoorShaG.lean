import Derived.Test.YtldpnmebjnkjeaaDoorShaS
import Derived.Laws.BytesString
namespace Go.Proofs.YtldpnmebjnkjeaaDoor.Sha
open Go.RowKit Go.Proofs.YtldpnmebjnkjeaaDoorW.PrintWords
set_option linter.unusedVariables false
set_option linter.unusedSimpArgs false

/-- The bytes of a digest's row as a string. -/
theorem conv_dig {w : World} {b : Nat} {l : List UInt8} {t : TypeId} {fr : Nat × Nat} (hr : w.heap[b]? = some (.cells (Lib.byteCells l).toArray t fr)) (hl : l.length = 32) :
    (convert 22 9 (.slice (some ⟨b, 0, none⟩) 32 32)).run Tryd.prog w = .ok (.string ⟨l.toArray⟩) w := by
  have h := Go.run_convert_bytes_back (P := Tryd.prog) w 22 9 5 ⟨b, 0, none⟩ 32 l (by kernel_rfl) (by kernel_rfl) (by kernel_rfl) (fun j hj => by
    have hh : (⟨b, 0, none⟩ : Addr).add j = ⟨b, j, none⟩ := by unfold Addr.add; simp; omega
    rw [hh, cell_of_row _ _ _ _ _ _ hr]
    simp [Lib.byteCells, hj])
  rwa [hl] at h
theorem fedV_first (s : ByteArray) : fedV v0 ⟨#[]⟩ 0 s = hashV (feedP v0 s.data.toList).1 ⟨(feedP v0 s.data.toList).2.toArray⟩ (s.size : Nat) := by
  unfold fedV; rw [Int.zero_add]; rfl
theorem rest_small (s : List UInt8) : ((⟨(feedP v0 s).2.toArray⟩ : ByteArray)).size ≤ 1048576 := by
  show ((feedP v0 s).2.toArray).size ≤ _
  rw [List.size_toArray, feedP_len _ v0 s (Nat.le_refl _)]; omega
theorem ended_first (s : ByteArray) (w : World) (hK : KAt w) (hn : s.size ≤ 4294967296) :
    Calls Tryd.prog 52 #[fedV v0 ⟨#[]⟩ 0 s] w fun e w' => e = .returned (.agg (Lib.byteCells (sumL s.data.toList)).toArray) ∧ Below w.heap.size w w' := by
  rw [fedV_first]
  have h := ended_calls (feedP v0 s.data.toList).1 ⟨(feedP v0 s.data.toList).2.toArray⟩ s.size w hK (rest_small _) hn
  have e : endP (feedP v0 s.data.toList).1 (⟨(feedP v0 s.data.toList).2.toArray⟩ : ByteArray).data.toList s.size = sumL s.data.toList := by
    unfold sumL; rw [Lib.size_eq]
  rwa [e] at h
theorem run_cells_dig {w : World} {b : Nat} {l : List UInt8} (hl : l.length = 32) {old : Array Value} {t : TypeId} (hr : w.heap[b]? = some (.cells old t (0, 0))) (hs : old.size = 32) :
    (storeCells ⟨b, 0, none⟩ (Lib.byteCells l)).run Tryd.prog w = .ok () (w.setRow b (Lib.byteCells l).toArray) := by
  have hX : (Lib.byteCells l).length = 32 := by rw [Lib.byteCells, List.length_map, hl]
  have h := run_storeCells_at Tryd.prog b 0 t (Lib.byteCells l) 0 old w hr (by omega) (Lib.byteCells_one _)
  have e : old.toList.take (0 + 0) ++ Lib.byteCells l ++ old.toList.drop (0 + 0 + (Lib.byteCells l).length) = Lib.byteCells l := by
    rw [List.drop_of_length_le (by rw [Array.length_toList]; omega)]; simp
  rwa [e] at h
set_option maxHeartbeats 8000000 in
set_option maxRecDepth 100000 in
theorem pair_calls (x y : List UInt8) (hx : x.length = 32) (hy : y.length = 32) (w : World) (hK : KAt w) :
    Calls Tryd.prog 25 #[.agg (Lib.byteCells x).toArray, .agg (Lib.byteCells y).toArray] w fun e w' => e = .returned (.agg (Lib.byteCells (sumL (x ++ y))).toArray) ∧ Below w.heap.size w w' := by
  replace hK := Lib.hid hK
  replace hx := Lib.hid hx
  replace hy := Lib.hid hy
  go_enter Tryd.func25, Tryd.ntmps25
  go_wp2_with fail
  generalize hw1 : World.alloc _ _ = w1
  have HX : Hid (w1.heap[w.heap.size]? = some (.cells (Lib.byteCells x).toArray 24 (0, 0))) := by
    rw [← hw1, Below.heap_alloc _ _ _ (by simp; omega), Below.heap_alloc _ _ _ (by simp)]; exact heap_alloc_last _ _
  have HY : Hid (w1.heap[w.heap.size + 1]? = some (.cells (Lib.byteCells y).toArray 24 (0, 0))) := by
    rw [← hw1, Below.heap_alloc _ _ _ (by simp)]; exact heap_at1 _ _ _
  have HZ : Hid (w1.heap[w.heap.size + 1 + 1]? = some (.cells (Lib.byteCells (List.replicate 32 0)).toArray 24 (0, 0))) := by
    rw [← hw1]
    have h := heap_alloc_last ((w.alloc (.cells (Lib.byteCells x).toArray 24)).alloc (.cells (Lib.byteCells y).toArray 24)) (.cells (Lib.byteCells (List.replicate 32 0)).toArray 24)
    rwa [show ((w.alloc (.cells (Lib.byteCells x).toArray 24)).alloc (.cells (Lib.byteCells y).toArray 24)).heap.size = w.heap.size + 1 + 1 by simp] at h
  have HB : Hid (Below w.heap.size w w1) := by
    rw [← hw1]; exact Lib.hid ((((Below.refl _ _).alloc (Nat.le_refl _) _).alloc (by simp) _).alloc (by simp; omega) _)
  clear hw1
  have cx := conv_dig (w := w1.drew) HX.out hx.out
  have cy := conv_dig (w := w1.drew) HY.out hy.out
  have hsz : ((⟨x.toArray⟩ ++ ⟨y.toArray⟩ : ByteArray)).size = 64 := by
    rw [ByteArray.size_append]
    show x.toArray.size + y.toArray.size = 64
    rw [List.size_toArray, List.size_toArray, hx.out, hy.out]
  have hlt : (9223372036854775807 < x.length + y.length) = False := eq_false (by rw [hx.out, hy.out]; omega)
  replace hsz := Lib.hid hsz
  have hxy : ((⟨x.toArray⟩ ++ ⟨y.toArray⟩ : ByteArray)).data.toList = x ++ y := by rw [ByteArray.data_append, Array.toList_append]
  replace hxy := Lib.hid hxy
  go_region_law (first
    | (go_simp; go_at_call 16; refine (begin_calls _).mono ?_; rintro e w2 ⟨rfl, hb⟩; have cx2 := conv_dig (blk_below (show w1.drew.heap[w.heap.size]? = _ from HX.out) hb) hx.out; have cy2 := conv_dig (blk_below (show w1.drew.heap[w.heap.size + 1]? = _ from HY.out) hb) hy.out; have hb2 := Lib.hid hb; clear hb)
    | (go_simp; go_at_call 54; refine (fed_calls v0 ⟨#[]⟩ 0 _ w2 ((hK.out.below (HB.out.drew)).below (hb2.out)) (by decide) (by have := hsz.out; omega) (by omega) (by omega)).mono ?_; rintro e w3 ⟨rfl, hb⟩; have hb3 := Lib.hid (hb2.out.trans (Below.mono hb hb2.out.size)); clear hb)
    | (go_simp; go_at_call 52; refine (ended_first _ w3 ((hK.out.below (HB.out.drew)).below (hb3.out)) (by have := hsz.out; omega)).mono ?_; rintro e w4 ⟨rfl, hb⟩; rw [hxy.out]; have hb4 := Lib.hid (hb3.out.trans (Below.mono hb hb3.out.size)); have hln : (Lib.byteCells (sumL (x ++ y))).length = 32 := (by rw [Lib.byteCells, List.length_map, sumL_len]); have hst := run_cells_dig (l := sumL (x ++ y)) (sumL_len _) (blk_below (show w1.drew.heap[w.heap.size + 1 + 1]? = _ from HZ.out) hb4.out) (by rw [List.size_toArray, Lib.byteCells, List.length_map, z32_len]); clear hb))
  all_goals
    have h9 := Lib.hid (setRow_heap w4 (w.heap.size + 1 + 1) _ (Lib.byteCells (sumL (x ++ y))).toArray _ _ (blk_below (show w1.drew.heap[w.heap.size + 1 + 1]? = _ from HZ.out) hb4.out))
    have hB9 := Lib.hid (show Below w.heap.size w (w4.setRow (w.heap.size + 1 + 1) (Lib.byteCells (sumL (x ++ y))).toArray) from
      (HB.out.drew.trans (Below.mono hb4.out HB.out.size)).trans ⟨rfl, rfl, rfl, by simp, fun k hk => setRow_other _ _ _ _ (by omega)⟩)
    clear hst hln hlt cx cy cx2 cy2
    go_wp2_with fail
    refine bodyPost_ret (v := .agg (Lib.byteCells (sumL (x ++ y))).toArray) ?_ rfl ⟨rfl, hB9.out⟩
    simp [results, Tryd.results25, asAddr, run_load_dig h9.out (sumL_len _), Act.put]
end Go.Proofs.YtldpnmebjnkjeaaDoor.Sha
