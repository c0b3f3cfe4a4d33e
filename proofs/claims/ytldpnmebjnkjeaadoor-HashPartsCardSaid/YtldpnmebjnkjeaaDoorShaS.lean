import Derived.Test.YtldpnmebjnkjeaaDoorShaE
namespace Go.Proofs.YtldpnmebjnkjeaaDoor.Sha
open Go.RowKit Go.Proofs.YtldpnmebjnkjeaaDoorW.PrintWords
set_option linter.unusedVariables false
set_option linter.unusedSimpArgs false

def zeroHash : Value := .agg #[.int .u32 0, .int .u32 0, .int .u32 0, .int .u32 0, .int .u32 0, .int .u32 0, .int .u32 0, .int .u32 0, .string ⟨#[]⟩, .int .i64 0]
def zeroDig : Value := .agg (Lib.byteCells (List.replicate 32 0)).toArray
/-- May a hash be? -/
def rightH (r : Nat) (n : Int) : Bool := decide (0 ≤ n) && decide (n ≤ 1048576) && decide ((r : Int) = n.tmod 64)
set_option maxHeartbeats 4000000 in
set_option maxRecDepth 100000 in
theorem begin_calls (w : World) : Calls Tryd.prog 16 #[] w fun e w' => e = .returned (hashV v0 ⟨#[]⟩ 0) ∧ Below w.heap.size w w' := by
  go_enter Tryd.func16, Tryd.ntmps16
  go_wp2_with fail
  refine bodyPost_ret (v := hashV v0 ⟨#[]⟩ 0) ?_ rfl ⟨rfl, ?_⟩
  · simp [results, Tryd.results16, go_sem, hashV, v0]
  · exact (Below.refl _ _).alloc (Nat.le_refl _) _
set_option maxHeartbeats 4000000 in
set_option maxRecDepth 100000 in
theorem isHash_calls (v : V8) (rest : ByteArray) (n : Int) (w : World) :
    Calls Tryd.prog 53 #[hashV v rest n] w fun e w' => e = .returned (.bool (rightH rest.size n)) ∧ Below w.heap.size w w' := by
  unfold hashV
  by_cases h0 : 0 ≤ n
  · by_cases h1 : n ≤ 1048576
    · have hr : rightH rest.size n = decide ((rest.size : Int) = n % 64) := by
        unfold rightH; rw [Int.tmod_eq_emod_of_nonneg h0]; simp [h0, h1]
      rw [hr]
      clear hr
      go_enter Tryd.func53, Tryd.ntmps53
      go_wp2_with fail
      go_ret
      exact ⟨rfl, (Below.refl _ _).alloc (Nat.le_refl _) _⟩
    · have hr : rightH rest.size n = false := by unfold rightH; simp [h1]
      rw [hr]
      clear hr
      have h1b : decide (n ≤ 1048576) = false := by simpa using h1
      go_enter Tryd.func53, Tryd.ntmps53
      go_wp2_with fail
      go_ret
      exact ⟨rfl, (Below.refl _ _).alloc (Nat.le_refl _) _⟩
  · have hr : rightH rest.size n = false := by unfold rightH; simp [h0]
    rw [hr]
    clear hr
    have h0b : decide (0 ≤ n) = false := by simpa using h0
    go_enter Tryd.func53, Tryd.ntmps53
    go_wp2_with fail
    go_ret
    exact ⟨rfl, (Below.refl _ _).alloc (Nat.le_refl _) _⟩
/-- A world with an argument's block and a result's block, behind a call. -/
theorem two_blocks {w w1 : World} {X Z : Array Value} {T U : TypeId} (hb : Below ((w.alloc (.cells X T)).alloc (.cells Z U)).heap.size ((w.alloc (.cells X T)).alloc (.cells Z U)) w1) :
    w1.heap[w.heap.size]? = some (.cells X T (0, 0)) ∧ w1.heap[w.heap.size + 1]? = some (.cells Z U (0, 0)) ∧ Below w.heap.size w w1 := by
  refine ⟨?_, ?_, ?_⟩
  · rw [hb.block _ (by simp; omega), Below.heap_alloc _ _ _ (by simp)]; exact heap_alloc_last _ _
  · rw [hb.block _ (by simp)]; exact heap_at1 _ _ _
  · exact (((Below.refl _ _).alloc (Nat.le_refl _) _).alloc (by simp) _).trans (hb.mono (by simp; omega))
set_option maxHeartbeats 4000000 in
set_option maxRecDepth 100000 in
theorem feed_bad (v : V8) (rest : ByteArray) (n : Int) (text : ByteArray) (w : World) (hK : KAt w) (hR : rightH rest.size n = false) :
    Calls Tryd.prog 14 #[hashV v rest n, .string text] w fun e w' => e = .returned (.tuple #[zeroHash, .int .i64 1]) ∧ Below w.heap.size w w' := by
  unfold hashV
  replace hK := Lib.hid hK
  replace hR := Lib.hid hR
  go_enter Tryd.func14, Tryd.ntmps14
  go_wp2_with fail
  refine (isHash_calls v rest n _).mono ?_
  rintro e w1 ⟨rfl, hb⟩
  rw [hR.out]
  obtain ⟨HX, HZ, HB⟩ := two_blocks hb
  have hK1 := Lib.hid (hK.out.below HB)
  have hS := Lib.hid (show w.heap.size + 2 ≤ w1.heap.size by have := hb.size; simp at this; omega)
  clear hb
  replace HX := Lib.hid HX
  replace HZ := Lib.hid HZ
  replace HB := Lib.hid HB
  have z0 : w1.cell? ⟨w.heap.size + 1, 0, none⟩ = some (.int .u32 0) := by rw [cell_of_row _ _ _ _ _ _ HZ.out]; rfl
  have z1 : w1.cell? ⟨w.heap.size + 1, 1, none⟩ = some (.int .u32 0) := by rw [cell_of_row _ _ _ _ _ _ HZ.out]; rfl
  have z2 : w1.cell? ⟨w.heap.size + 1, 2, none⟩ = some (.int .u32 0) := by rw [cell_of_row _ _ _ _ _ _ HZ.out]; rfl
  have z3 : w1.cell? ⟨w.heap.size + 1, 3, none⟩ = some (.int .u32 0) := by rw [cell_of_row _ _ _ _ _ _ HZ.out]; rfl
  have z4 : w1.cell? ⟨w.heap.size + 1, 4, none⟩ = some (.int .u32 0) := by rw [cell_of_row _ _ _ _ _ _ HZ.out]; rfl
  have z5 : w1.cell? ⟨w.heap.size + 1, 5, none⟩ = some (.int .u32 0) := by rw [cell_of_row _ _ _ _ _ _ HZ.out]; rfl
  have z6 : w1.cell? ⟨w.heap.size + 1, 6, none⟩ = some (.int .u32 0) := by rw [cell_of_row _ _ _ _ _ _ HZ.out]; rfl
  have z7 : w1.cell? ⟨w.heap.size + 1, 7, none⟩ = some (.int .u32 0) := by rw [cell_of_row _ _ _ _ _ _ HZ.out]; rfl
  have z8 : w1.cell? ⟨w.heap.size + 1, 8, none⟩ = some (.string ⟨#[]⟩) := by rw [cell_of_row _ _ _ _ _ _ HZ.out]; rfl
  have z9 : w1.cell? ⟨w.heap.size + 1, 9, none⟩ = some (.int .i64 0) := by rw [cell_of_row _ _ _ _ _ _ HZ.out]; rfl
  have zf : ∀ i, w1.frozen? ⟨w.heap.size + 1, i, none⟩ = false := fun i => frozen_of_row w1 (w.heap.size + 1) i _ _ HZ.out
  go_wp2_with fail
  refine bodyPost_ret (v := .tuple #[zeroHash, .int .i64 1]) (by simp [results, Tryd.results14, go_sem, zeroHash, z0, z1, z2, z3, z4, z5, z6, z7, z8, z9, zf]) rfl ⟨rfl, ?_⟩
  repeat (refine Below.setCell ?_ (by simp) _)
  exact HB.out
set_option maxHeartbeats 4000000 in
set_option maxRecDepth 100000 in
theorem feed_long (v : V8) (rest : ByteArray) (n : Int) (text : ByteArray) (w : World) (hK : KAt w) (hR : rightH rest.size n = true) (hl : 1048576 < n + text.size) (ht : text.size ≤ 140737488355328) (hn0 : 0 ≤ n) (hn : n ≤ 1048576) :
    Calls Tryd.prog 14 #[hashV v rest n, .string text] w fun e w' => e = .returned (.tuple #[zeroHash, .int .i64 4]) ∧ Below w.heap.size w w' := by
  unfold hashV
  replace hK := Lib.hid hK
  replace hR := Lib.hid hR
  go_enter Tryd.func14, Tryd.ntmps14
  go_wp2_with fail
  refine (isHash_calls v rest n _).mono ?_
  rintro e w1 ⟨rfl, hb⟩
  rw [hR.out]
  obtain ⟨HX, HZ, HB⟩ := two_blocks hb
  have hK1 := Lib.hid (hK.out.below HB)
  have hS := Lib.hid (show w.heap.size + 2 ≤ w1.heap.size by have := hb.size; simp at this; omega)
  clear hb
  replace HX := Lib.hid HX
  replace HZ := Lib.hid HZ
  replace HB := Lib.hid HB
  have x0 : w1.cell? ⟨w.heap.size, 0, none⟩ = some (.int .u32 (v.a.toNat : Int)) := by rw [cell_of_row _ _ _ _ _ _ HX.out]; rfl
  have x1 : w1.cell? ⟨w.heap.size, 1, none⟩ = some (.int .u32 (v.b.toNat : Int)) := by rw [cell_of_row _ _ _ _ _ _ HX.out]; rfl
  have x2 : w1.cell? ⟨w.heap.size, 2, none⟩ = some (.int .u32 (v.c.toNat : Int)) := by rw [cell_of_row _ _ _ _ _ _ HX.out]; rfl
  have x3 : w1.cell? ⟨w.heap.size, 3, none⟩ = some (.int .u32 (v.d.toNat : Int)) := by rw [cell_of_row _ _ _ _ _ _ HX.out]; rfl
  have x4 : w1.cell? ⟨w.heap.size, 4, none⟩ = some (.int .u32 (v.e.toNat : Int)) := by rw [cell_of_row _ _ _ _ _ _ HX.out]; rfl
  have x5 : w1.cell? ⟨w.heap.size, 5, none⟩ = some (.int .u32 (v.f.toNat : Int)) := by rw [cell_of_row _ _ _ _ _ _ HX.out]; rfl
  have x6 : w1.cell? ⟨w.heap.size, 6, none⟩ = some (.int .u32 (v.g.toNat : Int)) := by rw [cell_of_row _ _ _ _ _ _ HX.out]; rfl
  have x7 : w1.cell? ⟨w.heap.size, 7, none⟩ = some (.int .u32 (v.h.toNat : Int)) := by rw [cell_of_row _ _ _ _ _ _ HX.out]; rfl
  have x8 : w1.cell? ⟨w.heap.size, 8, none⟩ = some (.string rest) := by rw [cell_of_row _ _ _ _ _ _ HX.out]; rfl
  have x9 : w1.cell? ⟨w.heap.size, 9, none⟩ = some (.int .i64 n) := by rw [cell_of_row _ _ _ _ _ _ HX.out]; rfl
  have z0 : w1.cell? ⟨w.heap.size + 1, 0, none⟩ = some (.int .u32 0) := by rw [cell_of_row _ _ _ _ _ _ HZ.out]; rfl
  have z1 : w1.cell? ⟨w.heap.size + 1, 1, none⟩ = some (.int .u32 0) := by rw [cell_of_row _ _ _ _ _ _ HZ.out]; rfl
  have z2 : w1.cell? ⟨w.heap.size + 1, 2, none⟩ = some (.int .u32 0) := by rw [cell_of_row _ _ _ _ _ _ HZ.out]; rfl
  have z3 : w1.cell? ⟨w.heap.size + 1, 3, none⟩ = some (.int .u32 0) := by rw [cell_of_row _ _ _ _ _ _ HZ.out]; rfl
  have z4 : w1.cell? ⟨w.heap.size + 1, 4, none⟩ = some (.int .u32 0) := by rw [cell_of_row _ _ _ _ _ _ HZ.out]; rfl
  have z5 : w1.cell? ⟨w.heap.size + 1, 5, none⟩ = some (.int .u32 0) := by rw [cell_of_row _ _ _ _ _ _ HZ.out]; rfl
  have z6 : w1.cell? ⟨w.heap.size + 1, 6, none⟩ = some (.int .u32 0) := by rw [cell_of_row _ _ _ _ _ _ HZ.out]; rfl
  have z7 : w1.cell? ⟨w.heap.size + 1, 7, none⟩ = some (.int .u32 0) := by rw [cell_of_row _ _ _ _ _ _ HZ.out]; rfl
  have z8 : w1.cell? ⟨w.heap.size + 1, 8, none⟩ = some (.string ⟨#[]⟩) := by rw [cell_of_row _ _ _ _ _ _ HZ.out]; rfl
  have z9 : w1.cell? ⟨w.heap.size + 1, 9, none⟩ = some (.int .i64 0) := by rw [cell_of_row _ _ _ _ _ _ HZ.out]; rfl
  have zf : ∀ i, w1.frozen? ⟨w.heap.size + 1, i, none⟩ = false := fun i => frozen_of_row w1 (w.heap.size + 1) i _ _ HZ.out
  go_wp2_with fail
  refine bodyPost_ret (v := .tuple #[zeroHash, .int .i64 4]) (by simp [results, Tryd.results14, go_sem, zeroHash, z0, z1, z2, z3, z4, z5, z6, z7, z8, z9, zf]) rfl ⟨rfl, ?_⟩
  repeat (refine Below.setCell ?_ (by simp) _)
  exact HB.out
set_option maxHeartbeats 4000000 in
set_option maxRecDepth 100000 in
theorem feed_calls (v : V8) (rest : ByteArray) (n : Int) (text : ByteArray) (w : World) (hK : KAt w) (hR : rightH rest.size n = true) (hl : n + text.size ≤ 1048576) (hr : rest.size ≤ 64) (hn0 : 0 ≤ n) :
    Calls Tryd.prog 14 #[hashV v rest n, .string text] w fun e w' => e = .returned (.tuple #[fedV v rest n text, .int .i64 0]) ∧ Below w.heap.size w w' := by
  have ht0 : (0 : Int) ≤ (text.size : Int) := by omega
  unfold hashV
  replace hK := Lib.hid hK
  replace hR := Lib.hid hR
  go_enter Tryd.func14, Tryd.ntmps14
  go_wp2_with fail
  refine (isHash_calls v rest n _).mono ?_
  rintro e w1 ⟨rfl, hb⟩
  rw [hR.out]
  obtain ⟨HX, HZ, HB⟩ := two_blocks hb
  have hK1 := Lib.hid (hK.out.below HB)
  have hS := Lib.hid (show w.heap.size + 2 ≤ w1.heap.size by have := hb.size; simp at this; omega)
  clear hb
  replace HX := Lib.hid HX
  replace HZ := Lib.hid HZ
  replace HB := Lib.hid HB
  have x0 : w1.cell? ⟨w.heap.size, 0, none⟩ = some (.int .u32 (v.a.toNat : Int)) := by rw [cell_of_row _ _ _ _ _ _ HX.out]; rfl
  have x1 : w1.cell? ⟨w.heap.size, 1, none⟩ = some (.int .u32 (v.b.toNat : Int)) := by rw [cell_of_row _ _ _ _ _ _ HX.out]; rfl
  have x2 : w1.cell? ⟨w.heap.size, 2, none⟩ = some (.int .u32 (v.c.toNat : Int)) := by rw [cell_of_row _ _ _ _ _ _ HX.out]; rfl
  have x3 : w1.cell? ⟨w.heap.size, 3, none⟩ = some (.int .u32 (v.d.toNat : Int)) := by rw [cell_of_row _ _ _ _ _ _ HX.out]; rfl
  have x4 : w1.cell? ⟨w.heap.size, 4, none⟩ = some (.int .u32 (v.e.toNat : Int)) := by rw [cell_of_row _ _ _ _ _ _ HX.out]; rfl
  have x5 : w1.cell? ⟨w.heap.size, 5, none⟩ = some (.int .u32 (v.f.toNat : Int)) := by rw [cell_of_row _ _ _ _ _ _ HX.out]; rfl
  have x6 : w1.cell? ⟨w.heap.size, 6, none⟩ = some (.int .u32 (v.g.toNat : Int)) := by rw [cell_of_row _ _ _ _ _ _ HX.out]; rfl
  have x7 : w1.cell? ⟨w.heap.size, 7, none⟩ = some (.int .u32 (v.h.toNat : Int)) := by rw [cell_of_row _ _ _ _ _ _ HX.out]; rfl
  have x8 : w1.cell? ⟨w.heap.size, 8, none⟩ = some (.string rest) := by rw [cell_of_row _ _ _ _ _ _ HX.out]; rfl
  have x9 : w1.cell? ⟨w.heap.size, 9, none⟩ = some (.int .i64 n) := by rw [cell_of_row _ _ _ _ _ _ HX.out]; rfl
  go_wp2_with fail
  refine (fed_calls v rest n text w1 hK1.out (by omega) (by omega) (by omega) (by omega)).mono ?_
  rintro e w2 ⟨rfl, hb⟩
  clear x0 x1 x2 x3 x4 x5 x6 x7 x8 x9
  replace HZ := Lib.hid (blk_below HZ.out hb)
  replace HB := Lib.hid (HB.out.trans (Below.mono hb HB.out.size))
  clear hb
  have z0 : w2.cell? ⟨w.heap.size + 1, 0, none⟩ = some (.int .u32 0) := by rw [cell_of_row _ _ _ _ _ _ HZ.out]; rfl
  have z1 : w2.cell? ⟨w.heap.size + 1, 1, none⟩ = some (.int .u32 0) := by rw [cell_of_row _ _ _ _ _ _ HZ.out]; rfl
  have z2 : w2.cell? ⟨w.heap.size + 1, 2, none⟩ = some (.int .u32 0) := by rw [cell_of_row _ _ _ _ _ _ HZ.out]; rfl
  have z3 : w2.cell? ⟨w.heap.size + 1, 3, none⟩ = some (.int .u32 0) := by rw [cell_of_row _ _ _ _ _ _ HZ.out]; rfl
  have z4 : w2.cell? ⟨w.heap.size + 1, 4, none⟩ = some (.int .u32 0) := by rw [cell_of_row _ _ _ _ _ _ HZ.out]; rfl
  have z5 : w2.cell? ⟨w.heap.size + 1, 5, none⟩ = some (.int .u32 0) := by rw [cell_of_row _ _ _ _ _ _ HZ.out]; rfl
  have z6 : w2.cell? ⟨w.heap.size + 1, 6, none⟩ = some (.int .u32 0) := by rw [cell_of_row _ _ _ _ _ _ HZ.out]; rfl
  have z7 : w2.cell? ⟨w.heap.size + 1, 7, none⟩ = some (.int .u32 0) := by rw [cell_of_row _ _ _ _ _ _ HZ.out]; rfl
  have z8 : w2.cell? ⟨w.heap.size + 1, 8, none⟩ = some (.string ⟨#[]⟩) := by rw [cell_of_row _ _ _ _ _ _ HZ.out]; rfl
  have z9 : w2.cell? ⟨w.heap.size + 1, 9, none⟩ = some (.int .i64 0) := by rw [cell_of_row _ _ _ _ _ _ HZ.out]; rfl
  have zf : ∀ i, w2.frozen? ⟨w.heap.size + 1, i, none⟩ = false := fun i => frozen_of_row w2 (w.heap.size + 1) i _ _ HZ.out
  obtain ⟨u, r6, N6, hv⟩ : ∃ (u : V8) (r6 : List UInt8) (N6 : Int), fedV v rest n text = .agg #[.int .u32 (u.a.toNat : Int), .int .u32 (u.b.toNat : Int), .int .u32 (u.c.toNat : Int), .int .u32 (u.d.toNat : Int), .int .u32 (u.e.toNat : Int), .int .u32 (u.f.toNat : Int), .int .u32 (u.g.toNat : Int), .int .u32 (u.h.toNat : Int), .string ⟨r6.toArray⟩, .int .i64 N6] := ⟨_, _, _, rfl⟩
  rw [hv]
  replace hv := Lib.hid hv
  go_wp2_with fail
  refine bodyPost_ret (v := .tuple #[.agg #[.int .u32 (u.a.toNat : Int), .int .u32 (u.b.toNat : Int), .int .u32 (u.c.toNat : Int), .int .u32 (u.d.toNat : Int), .int .u32 (u.e.toNat : Int), .int .u32 (u.f.toNat : Int), .int .u32 (u.g.toNat : Int), .int .u32 (u.h.toNat : Int), .string ⟨r6.toArray⟩, .int .i64 N6], .int .i64 0]) (by simp [results, Tryd.results14, go_sem, z0, z1, z2, z3, z4, z5, z6, z7, z8, z9, zf]) rfl ⟨by rw [hv.out], ?_⟩
  repeat (refine Below.setCell ?_ (by simp) _)
  exact HB.out
theorem z32_len : (List.replicate 32 (0 : UInt8)).length = 32 := by simp
set_option maxHeartbeats 4000000 in
set_option maxRecDepth 100000 in
theorem end_bad (v : V8) (rest : ByteArray) (n : Int) (w : World) (hK : KAt w) (hR : rightH rest.size n = false) :
    Calls Tryd.prog 17 #[hashV v rest n] w fun e w' => e = .returned (.tuple #[zeroDig, .int .i64 1]) ∧ Below w.heap.size w w' := by
  unfold hashV
  replace hK := Lib.hid hK
  replace hR := Lib.hid hR
  go_enter Tryd.func17, Tryd.ntmps17
  go_wp2_with fail
  refine (isHash_calls v rest n _).mono ?_
  rintro e w1 ⟨rfl, hb⟩
  rw [hR.out]
  obtain ⟨HX, HZ, HB⟩ := two_blocks hb
  have hK1 := Lib.hid (hK.out.below HB)
  clear hb
  replace HX := Lib.hid HX
  replace HZ : Hid (w1.heap[w.heap.size + 1]? = some (.cells (Lib.byteCells (List.replicate 32 0)).toArray 24 (0, 0))) := Lib.hid HZ
  replace HB := Lib.hid HB
  go_wp2_with (refine wpList_store_dig rfl (.tmp 2) (.tmp 7) rfl (w.heap.size + 1) rfl (List.replicate 32 0) z32_len rfl _ _ HZ.out (by rw [List.size_toArray, Lib.byteCells, List.length_map, z32_len]) ?_; intro w9 h9 _ hB9)
  refine bodyPost_ret (v := .tuple #[zeroDig, .int .i64 1]) ?_ rfl ⟨rfl, hB9 HB.out (by omega)⟩
  simp [results, Tryd.results17, asAddr, run_load_dig h9.out z32_len, Act.put, zeroDig]
set_option maxHeartbeats 4000000 in
set_option maxRecDepth 100000 in
theorem end_calls (v : V8) (rest : ByteArray) (n : Nat) (w : World) (hK : KAt w) (hR : rightH rest.size n = true) (hr : rest.size ≤ 64) (hn : n ≤ 1048576) :
    Calls Tryd.prog 17 #[hashV v rest n] w fun e w' => e = .returned (.tuple #[.agg (Lib.byteCells (endP v rest.data.toList n)).toArray, .int .i64 0]) ∧ Below w.heap.size w w' := by
  unfold hashV
  replace hK := Lib.hid hK
  replace hR := Lib.hid hR
  go_enter Tryd.func17, Tryd.ntmps17
  go_wp2_with fail
  refine (isHash_calls v rest n _).mono ?_
  rintro e w1 ⟨rfl, hb⟩
  rw [hR.out]
  obtain ⟨HX, HZ, HB⟩ := two_blocks hb
  have hK1 := Lib.hid (hK.out.below HB)
  clear hb
  replace HX := Lib.hid HX
  replace HZ : Hid (w1.heap[w.heap.size + 1]? = some (.cells (Lib.byteCells (List.replicate 32 0)).toArray 24 (0, 0))) := Lib.hid HZ
  replace HB := Lib.hid HB
  have x0 : w1.cell? ⟨w.heap.size, 0, none⟩ = some (.int .u32 (v.a.toNat : Int)) := by rw [cell_of_row _ _ _ _ _ _ HX.out]; rfl
  have x1 : w1.cell? ⟨w.heap.size, 1, none⟩ = some (.int .u32 (v.b.toNat : Int)) := by rw [cell_of_row _ _ _ _ _ _ HX.out]; rfl
  have x2 : w1.cell? ⟨w.heap.size, 2, none⟩ = some (.int .u32 (v.c.toNat : Int)) := by rw [cell_of_row _ _ _ _ _ _ HX.out]; rfl
  have x3 : w1.cell? ⟨w.heap.size, 3, none⟩ = some (.int .u32 (v.d.toNat : Int)) := by rw [cell_of_row _ _ _ _ _ _ HX.out]; rfl
  have x4 : w1.cell? ⟨w.heap.size, 4, none⟩ = some (.int .u32 (v.e.toNat : Int)) := by rw [cell_of_row _ _ _ _ _ _ HX.out]; rfl
  have x5 : w1.cell? ⟨w.heap.size, 5, none⟩ = some (.int .u32 (v.f.toNat : Int)) := by rw [cell_of_row _ _ _ _ _ _ HX.out]; rfl
  have x6 : w1.cell? ⟨w.heap.size, 6, none⟩ = some (.int .u32 (v.g.toNat : Int)) := by rw [cell_of_row _ _ _ _ _ _ HX.out]; rfl
  have x7 : w1.cell? ⟨w.heap.size, 7, none⟩ = some (.int .u32 (v.h.toNat : Int)) := by rw [cell_of_row _ _ _ _ _ _ HX.out]; rfl
  have x8 : w1.cell? ⟨w.heap.size, 8, none⟩ = some (.string rest) := by rw [cell_of_row _ _ _ _ _ _ HX.out]; rfl
  have x9 : w1.cell? ⟨w.heap.size, 9, none⟩ = some (.int .i64 n) := by rw [cell_of_row _ _ _ _ _ _ HX.out]; rfl
  go_wp2_with fail
  refine (ended_calls v rest n w1 hK1.out (by omega) (by omega)).mono ?_
  rintro e w2 ⟨rfl, hb⟩
  have hl := Lib.hid (endP_len v rest.data.toList n)
  clear x0 x1 x2 x3 x4 x5 x6 x7 x8 x9
  replace HZ := Lib.hid (blk_below HZ.out hb)
  replace HB := Lib.hid (HB.out.trans (Below.mono hb HB.out.size))
  clear hb
  generalize hD : endP v rest.data.toList n = D at hl ⊢
  replace hD := Lib.hid hD
  go_wp2_with (refine wpList_store_dig rfl (.tmp 2) (.tmp 9) rfl (w.heap.size + 1) rfl D hl.out rfl _ _ HZ.out (by rw [List.size_toArray, Lib.byteCells, List.length_map, z32_len]) ?_; intro w9 h9 _ hB9)
  refine bodyPost_ret (v := .tuple #[.agg (Lib.byteCells D).toArray, .int .i64 0]) ?_ rfl ⟨by rw [hD.out], hB9 HB.out (by omega)⟩
  simp [results, Tryd.results17, asAddr, run_load_dig h9.out hl.out, Act.put]
theorem v0_right : rightH (⟨#[]⟩ : ByteArray).size 0 = true := rfl
/-- What Sum makes. -/
def sumV (s : ByteArray) : Value := .tuple (if s.size ≤ 1048576 then #[.agg (Lib.byteCells (sumL s.data.toList)).toArray, .int .i64 0] else #[zeroDig, .int .i64 4])
theorem dig_block {w w1 : World} {Z : Array Value} {U : TypeId} (hb : Below (w.alloc (.cells Z U)).heap.size (w.alloc (.cells Z U)) w1) :
    w1.heap[w.heap.size]? = some (.cells Z U (0, 0)) ∧ Below w.heap.size w w1 :=
  ⟨by rw [hb.block _ (by simp)]; exact heap_alloc_last _ _, ((Below.refl _ _).alloc (Nat.le_refl _) _).trans (hb.mono (by simp))⟩
set_option maxHeartbeats 4000000 in
set_option maxRecDepth 100000 in
theorem sum_long (s : ByteArray) (w : World) (hK : KAt w) (hs : 1048576 < s.size) (ht : s.size ≤ 140737488355328) :
    Calls Tryd.prog 13 #[.string s] w fun e w' => e = .returned (.tuple #[zeroDig, .int .i64 4]) ∧ Below w.heap.size w w' := by
  replace hK := Lib.hid hK
  go_enter Tryd.func13, Tryd.ntmps13
  go_wp2_with fail
  refine (begin_calls _).mono ?_
  rintro e w1 ⟨rfl, hb⟩
  obtain ⟨HZ, HB⟩ := dig_block hb
  clear hb
  replace HZ : Hid (w1.heap[w.heap.size]? = some (.cells (Lib.byteCells (List.replicate 32 0)).toArray 24 (0, 0))) := Lib.hid HZ
  replace HB := Lib.hid HB
  go_wp2_with fail
  refine (feed_long v0 ⟨#[]⟩ 0 s w1 (hK.out.below HB.out) v0_right (by omega) ht (by omega) (by omega)).mono ?_
  rintro e w2 ⟨rfl, hb⟩
  replace HZ := Lib.hid (blk_below HZ.out hb)
  replace HB := Lib.hid (HB.out.trans (Below.mono hb HB.out.size))
  clear hb
  unfold zeroHash
  go_wp2_with (refine wpList_store_dig rfl (.tmp 2) (.tmp 14) rfl w.heap.size rfl (List.replicate 32 0) z32_len rfl _ _ (blk_below HZ.out ((Below.refl _ _).alloc (Nat.le_refl _) _)) (by rw [List.size_toArray, Lib.byteCells, List.length_map, z32_len]) ?_; intro w9 h9 _ hB9)
  refine bodyPost_ret (v := .tuple #[zeroDig, .int .i64 4]) ?_ rfl ⟨rfl, hB9 (HB.out.alloc HB.out.size _) (by omega)⟩
  simp [results, Tryd.results13, asAddr, run_load_dig h9.out z32_len, Act.put, zeroDig]
set_option maxHeartbeats 4000000 in
set_option maxRecDepth 100000 in
theorem sum_ok (s : ByteArray) (w : World) (hK : KAt w) (hs : s.size ≤ 1048576) :
    Calls Tryd.prog 13 #[.string s] w fun e w' => e = .returned (.tuple #[.agg (Lib.byteCells (sumL s.data.toList)).toArray, .int .i64 0]) ∧ Below w.heap.size w w' := by
  replace hK := Lib.hid hK
  go_enter Tryd.func13, Tryd.ntmps13
  go_wp2_with fail
  refine (begin_calls _).mono ?_
  rintro e w1 ⟨rfl, hb⟩
  obtain ⟨HZ, HB⟩ := dig_block hb
  clear hb
  replace HZ : Hid (w1.heap[w.heap.size]? = some (.cells (Lib.byteCells (List.replicate 32 0)).toArray 24 (0, 0))) := Lib.hid HZ
  replace HB := Lib.hid HB
  go_wp2_with fail
  refine (feed_calls v0 ⟨#[]⟩ 0 s w1 (hK.out.below HB.out) v0_right (by omega) (by decide) (by omega)).mono ?_
  rintro e w2 ⟨rfl, hb⟩
  replace HZ := Lib.hid (blk_below HZ.out hb)
  replace HB := Lib.hid (HB.out.trans (Below.mono hb HB.out.size))
  clear hb
  have hfv : fedV v0 ⟨#[]⟩ 0 s = hashV (feedP v0 s.data.toList).1 ⟨(feedP v0 s.data.toList).2.toArray⟩ (s.size : Nat) := by
    unfold fedV; rw [Int.zero_add]; rfl
  have hE : endP (feedP v0 s.data.toList).1 (feedP v0 s.data.toList).2 s.size = sumL s.data.toList := by
    unfold sumL; rw [Lib.size_eq]
  have hrl : ((⟨(feedP v0 s.data.toList).2.toArray⟩ : ByteArray)).size ≤ 64 := by
    show ((feedP v0 s.data.toList).2.toArray).size ≤ 64
    rw [List.size_toArray, feedP_len _ v0 s.data.toList (Nat.le_refl _)]; omega
  rw [hfv]
  generalize (feedP v0 s.data.toList).2 = r6 at hE hrl ⊢
  generalize (feedP v0 s.data.toList).1 = u at hE ⊢
  replace hE := Lib.hid hE
  replace hrl := Lib.hid hrl
  clear hfv
  unfold hashV
  go_wp2_with fail
  refine (ended_calls u ⟨r6.toArray⟩ s.size _ (hK.out.below (HB.out.alloc HB.out.size _)) (by have := hrl.out; omega) (by omega)).mono ?_
  rintro e w3 ⟨rfl, hb⟩
  have hl := Lib.hid (endP_len u r6 s.size)
  replace HZ := Lib.hid (blk_below (blk_below HZ.out ((Below.refl _ _).alloc (Nat.le_refl _) _)) hb)
  replace HB := Lib.hid ((HB.out.alloc HB.out.size _).trans (Below.mono hb (HB.out.alloc HB.out.size _).size))
  clear hb
  rw [show (⟨r6.toArray⟩ : ByteArray).data.toList = r6 from rfl]
  rw [hE.out] at hl ⊢
  clear hE
  generalize hD : sumL s.data.toList = D at hl ⊢
  replace hD := Lib.hid hD
  go_wp2_with (refine wpList_store_dig rfl (.tmp 2) (.tmp 17) rfl w.heap.size rfl D hl.out rfl _ _ HZ.out (by rw [List.size_toArray, Lib.byteCells, List.length_map, z32_len]) ?_; intro w9 h9 _ hB9)
  refine bodyPost_ret (v := .tuple #[.agg (Lib.byteCells D).toArray, .int .i64 0]) ?_ rfl ⟨by rw [hD.out], hB9 HB.out (by omega)⟩
  simp [results, Tryd.results13, asAddr, run_load_dig h9.out hl.out, Act.put]
theorem sum_calls (s : ByteArray) (w : World) (hK : KAt w) (ht : s.size ≤ 140737488355328) :
    Calls Tryd.prog 13 #[.string s] w fun e w' => e = .returned (sumV s) ∧ Below w.heap.size w w' := by
  unfold sumV
  by_cases h : s.size ≤ 1048576
  · rw [if_pos h]; exact sum_ok s w hK h
  · rw [if_neg h]; exact sum_long s w hK (by omega) ht
end Go.Proofs.YtldpnmebjnkjeaaDoor.Sha
