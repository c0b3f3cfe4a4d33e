import Derived.Test.YtldpnmebjnkjeaaDoorShaL
import Derived.OwnWalk
namespace Go.Proofs.YtldpnmebjnkjeaaDoor.Sha
open Go.RowKit Go.Proofs.YtldpnmebjnkjeaaDoorW.PrintWords
set_option linter.unusedVariables false
set_option linter.unusedSimpArgs false

/-- So many zero bytes lie there. -/
def ZR (b n : Nat) (w : World) : Prop := b < w.heap.size ∧ ∀ j : Nat, j < n → w.cell? ⟨b, j, none⟩ = some (.int .u8 0)
theorem ZR.below {b n : Nat} {w w1 : World} (h : ZR b n w) (hb : Below w.heap.size w w1) : ZR b n w1 :=
  ⟨Nat.lt_of_lt_of_le h.1 hb.size, fun j hj => (hb.cell (p := ⟨b, j, none⟩) h.1).trans (h.2 j hj)⟩
theorem ZR.drew {b n : Nat} {w : World} (h : ZR b n w) : ZR b n w.drew := h
theorem ZR.conv {b n : Nat} {w : World} (h : ZR b n w) (k c : Nat) (hk : k ≤ n) :
    (convert 22 9 (.slice (some ⟨b, 0, none⟩) k c)).run Tryd.prog w = .ok (.string ⟨(List.replicate k (0 : UInt8)).toArray⟩) w := by
  have h1 := Go.run_convert_bytes_back (P := Tryd.prog) w 22 9 5 ⟨b, 0, none⟩ c (List.replicate k 0) (by kernel_rfl) (by kernel_rfl) (by kernel_rfl) (fun j hj => by
    have hj' : j < k := by simpa using hj
    have hh : (⟨b, 0, none⟩ : Addr).add j = ⟨b, j, none⟩ := by unfold Addr.add; simp; omega
    rw [hh, h.2 j (by omega)]
    simp)
  rwa [List.length_replicate] at h1
theorem ZR.of {base e : Nat} {b N : Nat} {w : World} (h : w.ownsRow base e 1 (.slice (some ⟨b, 0, none⟩) N N) N (madeCells (Value.int .u8 0).cells (N * 1)).toList) : ZR b N w := by
  obtain ⟨hl, h0 | ⟨g, cap, cur, hv, hg, hc, hn, hm, hsz, ht⟩⟩ := h
  · obtain ⟨h1, _⟩ := h0; cases h1
  · cases hv
    refine ⟨blk_lt hc, fun j hj => ?_⟩
    rw [cell_of_row _ _ _ _ _ _ hc]
    have h1 : (cur.toList.take (N * 1))[j]? = (madeCells (Value.int .u8 0).cells (N * 1)).toList[j]? := by rw [ht]
    rw [List.getElem?_take, if_pos (by omega)] at h1
    rw [← Array.getElem?_toList, h1]
    have hlen : j < (madeCells (Value.int .u8 0).cells (N * 1)).size := by simp [madeCells]; omega
    rw [Array.getElem?_toList, Array.getElem?_eq_getElem hlen]
    have h0 : j % 1 = 0 := Nat.mod_one j
    simp [madeCells, Value.cells, h0]
theorem after_two {w w6 w7 : World} {bu : Nat} {L : List UInt32} {R : List Value} (HB : Below w.heap.size w w6) (HU : RowX 31 bu L R w6)
    (hb : Below (w6.alloc (.cells #[.int .u32 0, .int .u32 0, .int .u32 0, .int .u32 0, .int .u32 0, .int .u32 0, .int .u32 0, .int .u32 0, .string ⟨#[]⟩, .int .i64 0] 31)).drew.heap.size (w6.alloc (.cells #[.int .u32 0, .int .u32 0, .int .u32 0, .int .u32 0, .int .u32 0, .int .u32 0, .int .u32 0, .int .u32 0, .string ⟨#[]⟩, .int .i64 0] 31)).drew w7) :
    Hid (Below w.heap.size w w7) ∧ Hid (RowX 31 bu L R w7) ∧ (∀ o, w7.frozen? ⟨w6.heap.size, o, none⟩ = false) ∧ w7.cell? ⟨w6.heap.size, 0, none⟩ = some (.int .u32 0) ∧ w7.cell? ⟨w6.heap.size, 1, none⟩ = some (.int .u32 0) ∧ w7.cell? ⟨w6.heap.size, 2, none⟩ = some (.int .u32 0) ∧ w7.cell? ⟨w6.heap.size, 3, none⟩ = some (.int .u32 0) ∧ w7.cell? ⟨w6.heap.size, 4, none⟩ = some (.int .u32 0) ∧ w7.cell? ⟨w6.heap.size, 5, none⟩ = some (.int .u32 0) ∧ w7.cell? ⟨w6.heap.size, 6, none⟩ = some (.int .u32 0) ∧ w7.cell? ⟨w6.heap.size, 7, none⟩ = some (.int .u32 0) ∧ w7.cell? ⟨w6.heap.size, 8, none⟩ = some (.string ⟨#[]⟩) ∧ w7.cell? ⟨w6.heap.size, 9, none⟩ = some (.int .i64 0) := by
  have HQ : w7.heap[w6.heap.size]? = some (.cells #[.int .u32 0, .int .u32 0, .int .u32 0, .int .u32 0, .int .u32 0, .int .u32 0, .int .u32 0, .int .u32 0, .string ⟨#[]⟩, .int .i64 0] 31 (0, 0)) := blk_below (show (w6.alloc (.cells #[.int .u32 0, .int .u32 0, .int .u32 0, .int .u32 0, .int .u32 0, .int .u32 0, .int .u32 0, .int .u32 0, .string ⟨#[]⟩, .int .i64 0] 31)).drew.heap[w6.heap.size]? = _ from heap_alloc_last _ _) hb
  refine ⟨(HB.alloc HB.size _).drew.trans (Below.mono hb (HB.alloc HB.size _).size), blk_below (show (w6.alloc (.cells #[.int .u32 0, .int .u32 0, .int .u32 0, .int .u32 0, .int .u32 0, .int .u32 0, .int .u32 0, .int .u32 0, .string ⟨#[]⟩, .int .i64 0] 31)).drew.heap[bu]? = _ from (blk_below HU ((Below.refl _ _).alloc (Nat.le_refl _) _).drew)) hb, fun o => frozen_of_row w7 _ o _ _ HQ, by rw [cell_of_row _ _ _ _ _ _ HQ]; rfl, by rw [cell_of_row _ _ _ _ _ _ HQ]; rfl, by rw [cell_of_row _ _ _ _ _ _ HQ]; rfl, by rw [cell_of_row _ _ _ _ _ _ HQ]; rfl, by rw [cell_of_row _ _ _ _ _ _ HQ]; rfl, by rw [cell_of_row _ _ _ _ _ _ HQ]; rfl, by rw [cell_of_row _ _ _ _ _ _ HQ]; rfl, by rw [cell_of_row _ _ _ _ _ _ HQ]; rfl, by rw [cell_of_row _ _ _ _ _ _ HQ]; rfl, by rw [cell_of_row _ _ _ _ _ _ HQ]; rfl⟩
theorem rowX_below {w w1 : World} {t : TypeId} {g : Nat} {L : List UInt32} {R : List Value} (h : RowX t g L R w) (hb : Below w.heap.size w w1) : RowX t g L R w1 := blk_below h hb
theorem alloc_keep {w w7 : World} {bu : Nat} {L : List UInt32} {R : List Value} (hb : Below w.heap.size w w7) (hU : RowX 31 bu L R w7) :
    Below w.heap.size w (w7.alloc (.cells #[.int .u32 0, .int .u32 0, .int .u32 0, .int .u32 0, .int .u32 0, .int .u32 0, .int .u32 0, .int .u32 0, .string ⟨#[]⟩, .int .i64 0] 31)) ∧ RowX 31 bu L R (w7.alloc (.cells #[.int .u32 0, .int .u32 0, .int .u32 0, .int .u32 0, .int .u32 0, .int .u32 0, .int .u32 0, .int .u32 0, .string ⟨#[]⟩, .int .i64 0] 31)) :=
  ⟨hb.alloc hb.size _, blk_below hU ((Below.refl _ _).alloc (Nat.le_refl _) _)⟩
theorem ten_keep {w w7 : World} {bu b6 : Nat} {L : List UInt32} {R : List Value} (hb : Below w.heap.size w w7) (hU : RowX 31 bu L R w7) (h6 : w.heap.size ≤ b6) (hne : bu ≠ b6) :
    Below w.heap.size w ((((((((((w7.setCell ⟨b6, 0, none⟩ (.int .u32 0)).setCell ⟨b6, 1, none⟩ (.int .u32 0)).setCell ⟨b6, 2, none⟩ (.int .u32 0)).setCell ⟨b6, 3, none⟩ (.int .u32 0)).setCell ⟨b6, 4, none⟩ (.int .u32 0)).setCell ⟨b6, 5, none⟩ (.int .u32 0)).setCell ⟨b6, 6, none⟩ (.int .u32 0)).setCell ⟨b6, 7, none⟩ (.int .u32 0)).setCell ⟨b6, 8, none⟩ (.string ⟨#[]⟩)).setCell ⟨b6, 9, none⟩ (.int .i64 0)) ∧ RowX 31 bu L R ((((((((((w7.setCell ⟨b6, 0, none⟩ (.int .u32 0)).setCell ⟨b6, 1, none⟩ (.int .u32 0)).setCell ⟨b6, 2, none⟩ (.int .u32 0)).setCell ⟨b6, 3, none⟩ (.int .u32 0)).setCell ⟨b6, 4, none⟩ (.int .u32 0)).setCell ⟨b6, 5, none⟩ (.int .u32 0)).setCell ⟨b6, 6, none⟩ (.int .u32 0)).setCell ⟨b6, 7, none⟩ (.int .u32 0)).setCell ⟨b6, 8, none⟩ (.string ⟨#[]⟩)).setCell ⟨b6, 9, none⟩ (.int .i64 0)) := by
  refine ⟨((((((((((hb.setCell (p := ⟨b6, 0, none⟩) h6 _).setCell (p := ⟨b6, 1, none⟩) h6 _).setCell (p := ⟨b6, 2, none⟩) h6 _).setCell (p := ⟨b6, 3, none⟩) h6 _).setCell (p := ⟨b6, 4, none⟩) h6 _).setCell (p := ⟨b6, 5, none⟩) h6 _).setCell (p := ⟨b6, 6, none⟩) h6 _).setCell (p := ⟨b6, 7, none⟩) h6 _).setCell (p := ⟨b6, 8, none⟩) h6 _).setCell (p := ⟨b6, 9, none⟩) h6 _), ?_⟩
  unfold RowX
  iterate 10 rw [Below.heap_setCell _ _ _ _ hne]
  exact hU
def v00 : V8 := ⟨0, 0, 0, 0, 0, 0, 0, 0⟩
theorem fed_64 : ∃ u : V8, fedV v00 ⟨#[]⟩ 1048512 ⟨Array.replicate 64 0⟩ = hashV u ⟨#[]⟩ 1048576 := by
  have h : (feedP v00 ((⟨#[]⟩ : ByteArray).data.toList ++ (⟨Array.replicate 64 0⟩ : ByteArray).data.toList)).2 = [] := by
    apply List.eq_nil_of_length_eq_zero
    rw [feedP_len _ _ _ (Nat.le_refl _)]
    rfl
  refine ⟨(feedP v00 ((⟨#[]⟩ : ByteArray).data.toList ++ (⟨Array.replicate 64 0⟩ : ByteArray).data.toList)).1, ?_⟩
  unfold fedV
  rw [h]
  rfl
theorem tmod100 (x : Int) : -100 < x.tmod 100 ∧ x.tmod 100 < 100 :=
  ⟨by have := Int.lt_tmod_of_pos x (show (0 : Int) < 100 by omega); omega, Int.tmod_lt_of_pos x (show (0 : Int) < 100 by omega)⟩
set_option maxHeartbeats 4000000 in
set_option maxRecDepth 100000 in
theorem long_calls (more : Int) (w : World) (hK : KAt w) : Calls Tryd.prog 3 #[.int .i64 more] w fun e w' => e = .returned (.bool true) ∧ Below w.heap.size w w' := by
  obtain ⟨t1, t2⟩ := tmod100 more
  obtain ⟨i, hi⟩ : ∃ i : Nat, (more.tmod 100 + 100) % 100 = (i : Int) := ⟨((more.tmod 100 + 100) % 100).toNat, by omega⟩
  have hi100 : i < 100 := by omega
  have hw : wrap64 (more.tmod 100 + 100) = more.tmod 100 + 100 := Go.IntWalk.wrap64_in _ ⟨by omega, by omega⟩
  have hi2 : (more.tmod 100 + 100).tmod 100 = (i : Int) := by rw [Int.tmod_eq_emod_of_nonneg (by omega)]; exact hi
  have i0 : (0 : Int) ≤ (i : Int) := by omega
  have i1 : (i : Int) < 100 := by omega
  clear t1 t2 hi
  obtain ⟨N, hN⟩ : ∃ N : Nat, N = 1048676 := ⟨_, rfl⟩
  have hN1 : (1048676 : Int) ≤ (N : Int) := by omega
  have hN2 : (N : Int) ≤ 1048676 := by omega
  replace hN := Lib.hid hN
  obtain ⟨s64, hs64⟩ : ∃ s : ByteArray, s = ⟨(List.replicate 64 (0 : UInt8)).toArray⟩ := ⟨_, rfl⟩
  obtain ⟨u, hu⟩ := fed_64
  have hfu : fedV v00 ⟨#[]⟩ 1048512 s64 = hashV u ⟨#[]⟩ 1048576 := by rw [hs64]; exact hu
  have hs64z : s64.size = 64 := by rw [hs64]; rfl
  clear hu
  replace hs64 := Lib.hid hs64
  replace hs64z := Lib.hid hs64z
  replace hfu := Lib.hid hfu
  obtain ⟨ti, hti, htz, hts, htb⟩ := u8_info
  replace hK := Lib.hid hK
  replace hti := Lib.hid hti
  replace htz := Lib.hid htz
  replace hts := Lib.hid hts
  replace htb := Lib.hid htb
  go_enter Tryd.func3, Tryd.ntmps3
  go_wp2_with (refine wpList_make_full w (o := ⟨some 15, _, _, _, _, _⟩) rfl (.const (.int .i64 1048676)) (.const (.int .i64 1048676)) 22 rfl w.heap.size 5 ti (.int .u8 0) 1 (by kernel_rfl) hti.out htz.out hts.out .i64 .i64 1048676 1048676 N rfl rfl (by rw [hN.out]; rfl) (by rw [hN.out]; rfl) (by rw [htb.out, hN.out]; decide) (by rw [hN.out]; decide) (Nat.le_refl _) ?_; intro w2 hown hgr; have hz := Lib.hid (ZR.of hown); have hcv := (ZR.of hown).conv (1048576 + (1 + i)) N (by omega); have HB := Lib.hid ((Below.refl w.heap.size w).grown hgr (Nat.le_refl _) (fun k hk => by cases hk)); clear hown hgr)
  clear hcv
  have hsz : (⟨Array.replicate (1048576 + (1 + i)) (0 : UInt8)⟩ : ByteArray).size = 1048576 + (1 + i) := by
    show (Array.replicate (1048576 + (1 + i)) (0 : UInt8)).size = _
    simp
  refine (sum_long _ w2 (hK.out.below HB.out) (by rw [hsz]; omega) (by rw [hsz]; omega)).mono ?_
  rintro e w3 ⟨rfl, hb⟩
  replace hsz := Lib.hid hsz
  replace HB := Lib.hid (HB.out.trans (Below.mono hb HB.out.size))
  replace hz := Lib.hid (hz.out.below hb)
  clear hb
  unfold zeroDig
  go_wp2_with (refine wpList_store_dig rfl (.tmp 4) (.tmp 23) rfl w3.heap.size rfl (List.replicate 32 0) z32_len rfl (Lib.byteCells (List.replicate 32 0)).toArray 24 (heap_alloc_last _ _) (by rw [List.size_toArray, Lib.byteCells, List.length_map, z32_len]) ?_; intro w4 h4 _ hB4; have hz4 := Lib.hid (hz.out.below (hB4 ((Below.refl _ _).alloc (Nat.le_refl _) _) (Nat.le_refl _))); have hcv : (convert 22 9 (.slice (some ⟨w.heap.size, 0, none⟩) 64 N)).run Tryd.prog w4 = .ok (.string s64) w4 := (by rw [hs64.out]; exact hz4.out.conv 64 N (by have := hN.out; omega)); have HB4 := Lib.hid (hB4 (HB.out.alloc HB.out.size _) HB.out.size))
  clear hcv
  refine (feed_calls v00 ⟨#[]⟩ 1048512 s64 w4 (hK.out.below HB4.out) rfl (by rw [hs64z.out]; omega) (by decide) (by omega)).mono ?_
  rintro e w5 ⟨rfl, hb⟩
  rw [hfu.out]
  replace HB := Lib.hid (HB4.out.trans (Below.mono hb HB4.out.size))
  replace hz := Lib.hid (hz4.out.below hb)
  clear hb hz4 HB4 h4 hB4
  unfold hashV
  go_wp2_with fail
  generalize hw6 : World.alloc _ _ = w6
  have HU : Hid (RowX 31 w5.heap.size u.list [.string ⟨#[]⟩, .int .i64 1048576] w6) := by
    rw [← hw6]; exact heap_alloc_last _ _
  have hb6 : Below w5.heap.size w5 w6 := by rw [← hw6]; exact (Below.refl _ _).alloc (Nat.le_refl _) _
  replace hz := Lib.hid (hz.out.below hb6)
  replace HB := Lib.hid (HB.out.trans (Below.mono hb6 HB.out.size))
  have hlt : w5.heap.size < w6.heap.size := by rw [← hw6]; simp
  clear hw6 hb6
  generalize w5.heap.size = bu at HU hlt ⊢
  replace hlt := Lib.hid hlt
  have hK6 := Lib.hid ((hK.out.below HB.out))
  obtain ⟨sm, hsm⟩ : ∃ s : ByteArray, s = ⟨(List.replicate (1 + i) (0 : UInt8)).toArray⟩ := ⟨_, rfl⟩
  have hsmz : sm.size = 1 + i := by
    rw [hsm]
    show (List.replicate (1 + i) (0 : UInt8)).toArray.size = _
    rw [List.size_toArray, List.length_replicate]
  have hcv : (convert 22 9 (.slice (some ⟨w.heap.size, 0, none⟩) (1 + i) N)).run Tryd.prog w6.drew = .ok (.string sm) w6.drew := by
    rw [hsm]; exact hz.out.drew.conv (1 + i) N (by have := hN.out; omega)
  replace hsm := Lib.hid hsm
  replace hsmz := Lib.hid hsmz
  have x0 : w6.cell? ⟨bu, 0, none⟩ = some (.int .u32 (u.a.toNat : Int)) := by rw [cell_of_row _ _ _ _ _ _ HU.out]; rfl
  have x1 : w6.cell? ⟨bu, 1, none⟩ = some (.int .u32 (u.b.toNat : Int)) := by rw [cell_of_row _ _ _ _ _ _ HU.out]; rfl
  have x2 : w6.cell? ⟨bu, 2, none⟩ = some (.int .u32 (u.c.toNat : Int)) := by rw [cell_of_row _ _ _ _ _ _ HU.out]; rfl
  have x3 : w6.cell? ⟨bu, 3, none⟩ = some (.int .u32 (u.d.toNat : Int)) := by rw [cell_of_row _ _ _ _ _ _ HU.out]; rfl
  have x4 : w6.cell? ⟨bu, 4, none⟩ = some (.int .u32 (u.e.toNat : Int)) := by rw [cell_of_row _ _ _ _ _ _ HU.out]; rfl
  have x5 : w6.cell? ⟨bu, 5, none⟩ = some (.int .u32 (u.f.toNat : Int)) := by rw [cell_of_row _ _ _ _ _ _ HU.out]; rfl
  have x6 : w6.cell? ⟨bu, 6, none⟩ = some (.int .u32 (u.g.toNat : Int)) := by rw [cell_of_row _ _ _ _ _ _ HU.out]; rfl
  have x7 : w6.cell? ⟨bu, 7, none⟩ = some (.int .u32 (u.h.toNat : Int)) := by rw [cell_of_row _ _ _ _ _ _ HU.out]; rfl
  have x8 : w6.cell? ⟨bu, 8, none⟩ = some (.string ⟨#[]⟩) := by rw [cell_of_row _ _ _ _ _ _ HU.out]; rfl
  have x9 : w6.cell? ⟨bu, 9, none⟩ = some (.int .i64 1048576) := by rw [cell_of_row _ _ _ _ _ _ HU.out]; rfl
  have hfeed := Lib.hid (feed_long u ⟨#[]⟩ 1048576 sm w6.drew hK6.out rfl (by rw [hsmz.out]; omega) (by rw [hsmz.out]; omega) (by omega) (by omega))
  have hK6' : KAt (w6.alloc (.cells #[.int .u32 0, .int .u32 0, .int .u32 0, .int .u32 0, .int .u32 0, .int .u32 0, .int .u32 0, .int .u32 0, .string ⟨#[]⟩, .int .i64 0] 31)).drew := hK6.out.below ((Below.refl _ _).alloc (Nat.le_refl _) _).drew
  have hfeed2 := Lib.hid (feed_long u ⟨#[]⟩ 1048576 sm (w6.alloc (.cells #[.int .u32 0, .int .u32 0, .int .u32 0, .int .u32 0, .int .u32 0, .int .u32 0, .int .u32 0, .int .u32 0, .string ⟨#[]⟩, .int .i64 0] 31)).drew hK6' rfl (by rw [hsmz.out]; omega) (by rw [hsmz.out]; omega) (by omega) (by omega))
  replace hK6' := Lib.hid hK6'
  have hcv2 : (convert 22 9 (.slice (some ⟨w.heap.size, 0, none⟩) (1 + i) N)).run Tryd.prog (w6.alloc (.cells #[.int .u32 0, .int .u32 0, .int .u32 0, .int .u32 0, .int .u32 0, .int .u32 0, .int .u32 0, .int .u32 0, .string ⟨#[]⟩, .int .i64 0] 31)).drew = .ok (.string sm) (w6.alloc (.cells #[.int .u32 0, .int .u32 0, .int .u32 0, .int .u32 0, .int .u32 0, .int .u32 0, .int .u32 0, .int .u32 0, .string ⟨#[]⟩, .int .i64 0] 31)).drew := by
    rw [hsm.out]; exact (hz.out.below ((Below.refl _ _).alloc (Nat.le_refl _) _)).drew.conv (1 + i) N (by have := hN.out; omega)
  have hlt' := hlt.out
  have b0 : (0 : Int) ≤ 1 + (i : Int) := by omega
  have b1 : 1 + (i : Int) ≤ (N : Int) := by omega
  have b2 : (1 + (i : Int)).toNat = 1 + i := by omega
  go_region_law (first
    | (go_simp; go_at_call 14; refine (hfeed.out).mono ?_; rintro e w7 ⟨rfl, hb⟩; have hb7 := Lib.hid (HB.out.drew.trans (Below.mono hb HB.out.size)); have HU7 := Lib.hid (rowX_below (show RowX 31 bu u.list [.string ⟨#[]⟩, .int .i64 1048576] w6.drew from HU.out) hb); clear hb; unfold zeroHash)
    | (go_simp; go_at_call 14; refine (hfeed2.out).mono ?_; rintro e w7 ⟨rfl, hb⟩; obtain ⟨hb7, HU7, HQF, z0, z1, z2, z3, z4, z5, z6, z7, z8, z9⟩ := after_two HB.out HU.out hb; clear hb; unfold zeroHash))
  all_goals
    clear x0 x1 x2 x3 x4 x5 x6 x7 x8 x9 hcv hcv2 b0 b1 b2
    have h6 : w.heap.size ≤ w6.heap.size := HB.out.size
    have hne6 : bu ≠ w6.heap.size := by omega
    replace h6 := Lib.hid h6
    replace hne6 := Lib.hid hne6
    go_wp2_with fail
    first
      | (with_reducible refine (alive_calls _ (hK.out.below (alloc_keep hb7.out HU7.out).1)).mono ?_)
      | (with_reducible refine (alive_calls _ (hK.out.below (ten_keep hb7.out HU7.out h6.out hne6.out).1)).mono ?_)
    rintro e w8 ⟨rfl, hb8⟩
    have hAK : Below w.heap.size w w8 ∧ RowX 31 bu u.list [.string ⟨#[]⟩, .int .i64 1048576] w8 := by
      first
        | (with_reducible exact ⟨(alloc_keep hb7.out HU7.out).1.trans (Below.mono hb8 (alloc_keep hb7.out HU7.out).1.size), rowX_below (alloc_keep hb7.out HU7.out).2 hb8⟩)
        | (with_reducible exact ⟨(ten_keep hb7.out HU7.out h6.out hne6.out).1.trans (Below.mono hb8 (ten_keep hb7.out HU7.out h6.out hne6.out).1.size), rowX_below (ten_keep hb7.out HU7.out h6.out hne6.out).2 hb8⟩)
    have HB8 := Lib.hid hAK.1
    have HU8 := Lib.hid hAK.2
    clear hAK
    have y9 : w8.cell? ⟨bu, 9, none⟩ = some (.int .i64 1048576) := by rw [cell_of_row _ _ _ _ _ _ HU8.out]; rfl
    clear hb8
    go_wp2_with fail
    go_ret
    exact ⟨rfl, HB8.out⟩
end Go.Proofs.YtldpnmebjnkjeaaDoor.Sha
