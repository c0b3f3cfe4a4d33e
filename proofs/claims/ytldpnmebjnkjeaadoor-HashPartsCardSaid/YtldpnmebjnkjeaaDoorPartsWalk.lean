import Derived.Test.YtldpnmebjnkjeaaDoorShaL
import Derived.Test.YtldpnmebjnkjeaaDoorLongWalk
import Derived.RegionTactic
import Derived.BigRegion
import Derived.Deep.CutRange
import Derived.Deep.CutBlock
import Derived.Deep.DeepCutAuto
import Derived.Outline
import Derived.LoopTactic
import Derived.OrdersHeld
import Derived.Deep.MidRow
namespace Go.Proofs.YtldpnmebjnkjeaaDoor.Sha
open Go.RowKit Go.Proofs.YtldpnmebjnkjeaaDoorW.PrintWords
set_option linter.unusedVariables false
set_option linter.unusedSimpArgs false

/-- So much is fed, and so much is left. -/
structure Pst (T : List UInt8) (u : V8) (r : List UInt8) (n : Nat) (s : ByteArray) : Prop where
  ex : ∃ done : List UInt8, done ++ s.data.toList = T ∧ feedP v0 done = (u, r) ∧ n = done.length
theorem Pst.size {T : List UInt8} {u : V8} {r : List UInt8} {n : Nat} {s : ByteArray} (h : Pst T u r n s) : n + s.size = T.length ∧ r.length = n % 64 := by
  obtain ⟨d, h1, h2, rfl⟩ := h.ex
  have h3 := feedP_len _ v0 d (Nat.le_refl _)
  rw [h2] at h3
  exact ⟨by rw [← h1, List.length_append, Lib.size_eq], h3⟩
theorem Pst.right {T : List UInt8} {u : V8} {r : List UInt8} {n : Nat} {s : ByteArray} (h : Pst T u r n s) (hT : T.length ≤ 1000) : rightH (⟨r.toArray⟩ : ByteArray).size (n : Int) = true := by
  obtain ⟨h1, h2⟩ := h.size
  have h3 : (⟨r.toArray⟩ : ByteArray).size = n % 64 := by show r.toArray.size = _; rw [List.size_toArray, h2]
  unfold rightH
  rw [h3, Int.tmod_eq_emod_of_nonneg (by omega)]
  simp
  omega
/-- One piece more. -/
theorem Pst.feed {T : List UInt8} {u : V8} {r : List UInt8} {n : Nat} {s : ByteArray} (h : Pst T u r n s) (k : Nat) (hk : k ≤ s.size) :
    Pst T (feedP u (r ++ (s.extract 0 k).data.toList)).1 (feedP u (r ++ (s.extract 0 k).data.toList)).2 (n + k) (s.extract k s.size) := by
  obtain ⟨d, h1, h2, rfl⟩ := h.ex
  have hl : s.size = s.data.toList.length := Lib.size_eq s
  refine ⟨d ++ (s.extract 0 k).data.toList, ?_, ?_, ?_⟩
  · rw [← h1, List.append_assoc, Lib.extract_data, Lib.extract_data, List.drop_zero, Nat.sub_zero]
    congr 1
    have e : List.take (s.size - k) (List.drop k s.data.toList) = List.drop k s.data.toList := List.take_of_length_le (by rw [List.length_drop]; omega)
    rw [e]
    exact List.take_append_drop k _
  · rw [feedP_app d.length v0 d _ (Nat.le_refl _), h2]
  · rw [List.length_append, Lib.extract_data, List.drop_zero, Nat.sub_zero, List.length_take]; omega
theorem Pst.zero (s : ByteArray) : Pst s.data.toList v0 [] 0 s := ⟨[], rfl, rfl, rfl⟩
/-- All is fed. -/
theorem Pst.all {T : List UInt8} {u : V8} {r : List UInt8} {n : Nat} {s : ByteArray} (h : Pst T u r n s) :
    (feedP u (r ++ s.data.toList)) = feedP v0 T ∧ n + s.size = T.length := by
  obtain ⟨d, h1, h2, h3⟩ := h.ex
  refine ⟨?_, h.size.1⟩
  rw [← h1, feedP_app d.length v0 d _ (Nat.le_refl _), h2]
/-- Behind a feed: the old hash, and the new one. -/
structure FinP (w : World) (b5 : Nat) (c5 : Array Value) (b9 : Nat) (c9 : Array Value) (W : World) : Prop where
  below : Below w.heap.size w W
  r5 : W.heap[b5]? = some (.cells c5 31 (0, 0))
  r9 : W.heap[b9]? = some (.cells c9 31 (0, 0))
  k : KAt W
  ne : b5 ≠ b9
theorem finPA {w wr w7 : World} {b5 : Nat} {c5 : Array Value} (HB : Below w.heap.size w wr) (H5 : wr.heap[b5]? = some (.cells c5 31 (0, 0))) (HK : KAt wr) (hb : Below wr.drew.heap.size wr.drew w7) (c9 : Array Value) :
    FinP w b5 c5 w7.heap.size c9 (w7.alloc (.cells c9 31)) := by
  have h1 : Below wr.heap.size wr (w7.alloc (.cells c9 31)) := ((Below.refl _ _).drew.trans (show Below wr.heap.size wr.drew w7 from hb)).alloc hb.size _
  have hl := blk_lt H5
  have hs : wr.heap.size ≤ w7.heap.size := hb.size
  exact ⟨HB.trans (h1.mono HB.size), blk_below H5 h1, heap_alloc_last w7 _, HK.below h1, by omega⟩
theorem finPB {w wr w7 : World} {b5 : Nat} {c5 : Array Value} (HB : Below w.heap.size w wr) (H5 : wr.heap[b5]? = some (.cells c5 31 (0, 0))) (HK : KAt wr)
    (hb : Below (wr.alloc (.cells #[.int .u32 0, .int .u32 0, .int .u32 0, .int .u32 0, .int .u32 0, .int .u32 0, .int .u32 0, .int .u32 0, .string ⟨#[]⟩, .int .i64 0] 31)).drew.heap.size (wr.alloc (.cells #[.int .u32 0, .int .u32 0, .int .u32 0, .int .u32 0, .int .u32 0, .int .u32 0, .int .u32 0, .int .u32 0, .string ⟨#[]⟩, .int .i64 0] 31)).drew w7) (x0 x1 x2 x3 x4 x5 x6 x7 x8 x9 : Value) :
    FinP w b5 c5 wr.heap.size #[x0, x1, x2, x3, x4, x5, x6, x7, x8, x9] ((((((((((w7.setCell ⟨wr.heap.size, 0, none⟩ x0).setCell ⟨wr.heap.size, 1, none⟩ x1).setCell ⟨wr.heap.size, 2, none⟩ x2).setCell ⟨wr.heap.size, 3, none⟩ x3).setCell ⟨wr.heap.size, 4, none⟩ x4).setCell ⟨wr.heap.size, 5, none⟩ x5).setCell ⟨wr.heap.size, 6, none⟩ x6).setCell ⟨wr.heap.size, 7, none⟩ x7).setCell ⟨wr.heap.size, 8, none⟩ x8).setCell ⟨wr.heap.size, 9, none⟩ x9) := by
  have hB : Below wr.heap.size wr w7 := ((Below.refl _ _).alloc (Nat.le_refl _) _).drew.trans (hb.mono (by simp))
  have h1 : Below wr.heap.size wr ((((((((((w7.setCell ⟨wr.heap.size, 0, none⟩ x0).setCell ⟨wr.heap.size, 1, none⟩ x1).setCell ⟨wr.heap.size, 2, none⟩ x2).setCell ⟨wr.heap.size, 3, none⟩ x3).setCell ⟨wr.heap.size, 4, none⟩ x4).setCell ⟨wr.heap.size, 5, none⟩ x5).setCell ⟨wr.heap.size, 6, none⟩ x6).setCell ⟨wr.heap.size, 7, none⟩ x7).setCell ⟨wr.heap.size, 8, none⟩ x8).setCell ⟨wr.heap.size, 9, none⟩ x9) := ((((((((((hB.setCell (p := ⟨wr.heap.size, 0, none⟩) (Nat.le_refl _) _).setCell (p := ⟨wr.heap.size, 1, none⟩) (Nat.le_refl _) _).setCell (p := ⟨wr.heap.size, 2, none⟩) (Nat.le_refl _) _).setCell (p := ⟨wr.heap.size, 3, none⟩) (Nat.le_refl _) _).setCell (p := ⟨wr.heap.size, 4, none⟩) (Nat.le_refl _) _).setCell (p := ⟨wr.heap.size, 5, none⟩) (Nat.le_refl _) _).setCell (p := ⟨wr.heap.size, 6, none⟩) (Nat.le_refl _) _).setCell (p := ⟨wr.heap.size, 7, none⟩) (Nat.le_refl _) _).setCell (p := ⟨wr.heap.size, 8, none⟩) (Nat.le_refl _) _).setCell (p := ⟨wr.heap.size, 9, none⟩) (Nat.le_refl _) _)
  have hl := blk_lt H5
  have hq : w7.heap[wr.heap.size]? = some (.cells #[.int .u32 0, .int .u32 0, .int .u32 0, .int .u32 0, .int .u32 0, .int .u32 0, .int .u32 0, .int .u32 0, .string ⟨#[]⟩, .int .i64 0] 31 (0, 0)) := blk_below (show (wr.alloc (.cells #[.int .u32 0, .int .u32 0, .int .u32 0, .int .u32 0, .int .u32 0, .int .u32 0, .int .u32 0, .int .u32 0, .string ⟨#[]⟩, .int .i64 0] 31)).drew.heap[wr.heap.size]? = _ from heap_alloc_last _ _) hb
  exact ⟨HB.trans (h1.mono HB.size), blk_below H5 h1, set_ten (L := [.int .u32 0, .int .u32 0, .int .u32 0, .int .u32 0, .int .u32 0, .int .u32 0, .int .u32 0, .int .u32 0, .string ⟨#[]⟩, .int .i64 0]) hq rfl _ _ _ _ _ _ _ _ _ _, HK.below h1, by omega⟩
theorem wpOp_wp {P : Program} {ops : Array Oper} {Q : Exit → Act → World → Prop} {i : Nat} {o : Oper} {a : Act} {w : World} {K : Act → World → Prop} (hi : ops[i]? = some o) (hw : Region.wanted o (yielded ops a.tmps) = true) (h : o.wp P a w K Q) : wpOp P ops Q i K a w := by
  unfold wpOp
  simp only [hi, hw, if_true]
  exact .inl h
theorem range_of_row {w : World} {b : Nat} {L : List Value} {t : TypeId} {fr : Nat × Nat} (h : w.heap[b]? = some (.cells L.toArray t fr)) : w.rangeAt b 0 L := by
  intro j u hu
  rw [Nat.zero_add, cell_of_row _ _ _ _ _ _ h, List.getElem?_toArray]
  exact hu
theorem cut_mod (q : Int) (m : Nat) (hm : m ≤ 1000) : ∃ k : Nat, wrap64 ((IntKind.u64.wrap q).tmod ((m : Int) + 1)) = (k : Int) ∧ k ≤ m := by
  have h0 : 0 ≤ IntKind.u64.wrap q := by simp [IntKind.wrap, IntKind.bits, IntKind.signed]; omega
  rw [Int.tmod_eq_emod_of_nonneg h0]
  have h1 := Int.emod_nonneg (IntKind.u64.wrap q) (show ((m : Int) + 1) ≠ 0 by omega)
  have h2 := Int.emod_lt_of_pos (IntKind.u64.wrap q) (show (0 : Int) < (m : Int) + 1 by omega)
  generalize IntKind.u64.wrap q % ((m : Int) + 1) = z at h1 h2
  exact ⟨z.toNat, by rw [Go.IntWalk.wrap64_in _ ⟨by omega, by omega⟩]; omega, by omega⟩
set_option maxHeartbeats 8000000 in
set_option maxRecDepth 100000 in
theorem parts_law (text : ByteArray) (A : Option Addr) (c : Nat) (cuts : List Int) (w : World) (ht : text.size ≤ 9223372036854775807) (hC : Kd.C (Kd.int .i64) w A cuts.length cuts) (hc : cuts.length ≤ c) (hcm : cuts.length ≤ 9223372036854775807) (hK : KAt w) :
    Calls Tryd.prog 5 #[.string text, .slice A cuts.length c] w fun e w' => e = .returned (.bool true) ∧ Below w.heap.size w w' := by
  have hxl : (text.extract 0 (min (text.size : Int) 1000).toNat).size ≤ 1000 := by rw [ByteArray.size_extract]; omega
  obtain ⟨M, hM⟩ : ∃ M : Nat, min (cuts.length : Int) 20 = (M : Int) := ⟨min cuts.length 20, by omega⟩
  have hMl : M ≤ cuts.length := by omega
  have hM20 : M ≤ 20 := by omega
  replace hC := Lib.hid hC
  have hK0 := Lib.hid hK
  go_enter Tryd.func5, Tryd.ntmps5
  go_wp2_with fail
  generalize text.extract 0 (min (text.size : Int) 1000).toNat = x at hxl ⊢
  refine (begin_calls w).mono ?_
  rintro e w1 ⟨rfl, hb⟩
  replace hK := Lib.hid (hK.below hb)
  replace hxl := Lib.hid hxl
  have HB := Lib.hid hb
  clear hb
  unfold hashV
  go_wp2_with fail
  generalize hw2 : World.alloc w1 _ = w2
  have HU : Hid (RowX 31 w1.heap.size v0.list [.string ⟨([] : List UInt8).toArray⟩, .int .i64 ((0 : Nat) : Int)] w2) := by
    rw [← hw2]; exact heap_alloc_last _ _
  have hb2 : Below w1.heap.size w1 w2 := by rw [← hw2]; exact (Below.refl _ _).alloc (Nat.le_refl _) _
  have hlb := HB.out.size
  replace HB := Lib.hid (HB.out.trans (Below.mono hb2 HB.out.size))
  replace hK := Lib.hid (hK.out.below hb2)
  clear hw2 hb2
  generalize w1.heap.size = b5 at HU hlb ⊢
  replace hlb := Lib.hid hlb
  have HP : Pst x.data.toList v0 [] 0 x := Pst.zero x
  have hTl : x.data.toList.length ≤ 1000 := by rw [← Lib.size_eq]; exact hxl.out
  generalize hT : x.data.toList = T at HP hTl
  replace hT := Lib.hid hT
  replace hTl := Lib.hid hTl
  go_loopw [6, 29] (fun y i wr => ∃ (t : Nat) (u : V8) (r : List UInt8) (n : Nat) (s : ByteArray), t ≤ M ∧ i = .int .i64 t ∧ y = .string s ∧ Pst T u r n s ∧ Hid (RowX 31 b5 u.list [.string ⟨r.toArray⟩, .int .i64 (n : Int)] wr) ∧ Hid (Below w.heap.size w wr) ∧ Hid (KAt wr)) (fun _ i _ => M - (intOf i).toNat)
  case atStart => exact ⟨0, v0, [], 0, x, by omega, rfl, rfl, HP, HU, HB, hK⟩
  case round =>
    clear HP HU HB hK
    obtain ⟨t, u, r, n, s, htM, rfl, rfl, HP, HU, HB, HK⟩ := hrel
    by_cases hlt : t < M
    · obtain ⟨ad, hA, hcell⟩ := Kd.at_int (Kd.C_below hC.out HB.out) (t : Int) (by omega) (by omega)
      subst hA
      rw [Int.toNat_natCast] at hcell
      generalize rd cuts (t : Int) = q at hcell
      have hss := HP.size
      have hsz1 : (s.size : Int) ≤ 1000 := by have := hTl.out; omega
      have hs0 : (0 : Int) ≤ (s.size : Int) := by omega
      replace hss := Lib.hid hss
      go_upto_region 7 with fail
      obtain ⟨k, hk, hks⟩ := cut_mod q s.size (by omega)
      rw [hk]
      replace hk := Lib.hid hk
      have hkb : (k : Int) ≤ (s.size : Int) := by omega
      have hk0 : (0 : Int) ≤ (k : Int) := by omega
      have hkn : (k : Int).toNat = k := by omega
      have hks2 := hks
      replace hks := Lib.hid hks
      have hsegz : (s.extract 0 k).size = k := by rw [ByteArray.size_extract]; omega
      have hnext := HP.feed k hks2
      have hrt := HP.right hTl.out
      have hrz : (⟨r.toArray⟩ : ByteArray).size ≤ 64 := by
        show r.toArray.size ≤ 64
        have := hss.out.2
        rw [List.size_toArray]; omega
      have hbn : (n : Int) + ((s.extract 0 k).size : Int) ≤ 1048576 := by rw [hsegz]; have := hss.out.1; have := hTl.out; omega
      have hf1 := feed_calls u ⟨r.toArray⟩ n (s.extract 0 k) wr.drew (show KAt wr.drew from HK.out) hrt hbn hrz (by omega)
      have hbz : Below wr.heap.size wr (wr.alloc (.cells #[.int .u32 0, .int .u32 0, .int .u32 0, .int .u32 0, .int .u32 0, .int .u32 0, .int .u32 0, .int .u32 0, .string ⟨#[]⟩, .int .i64 0] 31)).drew := ((Below.refl _ _).alloc (Nat.le_refl _) _).drew
      have hf2 := feed_calls u ⟨r.toArray⟩ n (s.extract 0 k) (wr.alloc (.cells #[.int .u32 0, .int .u32 0, .int .u32 0, .int .u32 0, .int .u32 0, .int .u32 0, .int .u32 0, .int .u32 0, .string ⟨#[]⟩, .int .i64 0] 31)).drew (HK.out.below hbz) hrt hbn hrz (by omega)
      have hfv : fedV u ⟨r.toArray⟩ n (s.extract 0 k) = .agg #[.int .u32 ((feedP u (r ++ (s.extract 0 k).data.toList)).1.a.toNat : Int), .int .u32 ((feedP u (r ++ (s.extract 0 k).data.toList)).1.b.toNat : Int), .int .u32 ((feedP u (r ++ (s.extract 0 k).data.toList)).1.c.toNat : Int), .int .u32 ((feedP u (r ++ (s.extract 0 k).data.toList)).1.d.toNat : Int), .int .u32 ((feedP u (r ++ (s.extract 0 k).data.toList)).1.e.toNat : Int), .int .u32 ((feedP u (r ++ (s.extract 0 k).data.toList)).1.f.toNat : Int), .int .u32 ((feedP u (r ++ (s.extract 0 k).data.toList)).1.g.toNat : Int), .int .u32 ((feedP u (r ++ (s.extract 0 k).data.toList)).1.h.toNat : Int), .string ⟨(feedP u (r ++ (s.extract 0 k).data.toList)).2.toArray⟩, .int .i64 ((n : Int) + (k : Int))] := by
        unfold fedV hashV; rw [hsegz]
      rw [hfv] at hf1 hf2
      generalize (feedP u (r ++ (s.extract 0 k).data.toList)).1 = u9 at hf1 hf2 hnext
      generalize (feedP u (r ++ (s.extract 0 k).data.toList)).2 = r9 at hf1 hf2 hnext
      clear hfv hbz
      replace hf1 := Lib.hid hf1
      replace hf2 := Lib.hid hf2
      replace hsegz := Lib.hid hsegz
      replace hrt := Lib.hid hrt
      replace hbn := Lib.hid hbn
      replace hrz := Lib.hid hrz
      have H5 : Hid (wr.heap[b5]? = some (.cells #[.int .u32 (u.a.toNat : Int), .int .u32 (u.b.toNat : Int), .int .u32 (u.c.toNat : Int), .int .u32 (u.d.toNat : Int), .int .u32 (u.e.toNat : Int), .int .u32 (u.f.toNat : Int), .int .u32 (u.g.toNat : Int), .int .u32 (u.h.toNat : Int), .string ⟨r.toArray⟩, .int .i64 (n : Int)] 31 (0, 0))) := HU
      go_cut [9, 10] from 41 to 48 (fun p e wx => ∃ b9 : Nat, p = .pointer (some ⟨b9, 0, none⟩) ∧ e = .int .i64 0 ∧ Hid (FinP w b5 #[.int .u32 (u.a.toNat : Int), .int .u32 (u.b.toNat : Int), .int .u32 (u.c.toNat : Int), .int .u32 (u.d.toNat : Int), .int .u32 (u.e.toNat : Int), .int .u32 (u.f.toNat : Int), .int .u32 (u.g.toNat : Int), .int .u32 (u.h.toNat : Int), .string ⟨r.toArray⟩, .int .i64 (n : Int)] b9 #[.int .u32 (u9.a.toNat : Int), .int .u32 (u9.b.toNat : Int), .int .u32 (u9.c.toNat : Int), .int .u32 (u9.d.toNat : Int), .int .u32 (u9.e.toNat : Int), .int .u32 (u9.f.toNat : Int), .int .u32 (u9.g.toNat : Int), .int .u32 (u9.h.toNat : Int), .string ⟨r9.toArray⟩, .int .i64 ((n : Int) + (k : Int))] wx))
      case first =>
        have c0 : wr.cell? ⟨b5, 0, none⟩ = some (.int .u32 (u.a.toNat : Int)) := by rw [cell_of_row _ _ _ _ _ _ HU.out]; rfl
        have c1 : wr.cell? ⟨b5, 1, none⟩ = some (.int .u32 (u.b.toNat : Int)) := by rw [cell_of_row _ _ _ _ _ _ HU.out]; rfl
        have c2 : wr.cell? ⟨b5, 2, none⟩ = some (.int .u32 (u.c.toNat : Int)) := by rw [cell_of_row _ _ _ _ _ _ HU.out]; rfl
        have c3 : wr.cell? ⟨b5, 3, none⟩ = some (.int .u32 (u.d.toNat : Int)) := by rw [cell_of_row _ _ _ _ _ _ HU.out]; rfl
        have c4 : wr.cell? ⟨b5, 4, none⟩ = some (.int .u32 (u.e.toNat : Int)) := by rw [cell_of_row _ _ _ _ _ _ HU.out]; rfl
        have c5 : wr.cell? ⟨b5, 5, none⟩ = some (.int .u32 (u.f.toNat : Int)) := by rw [cell_of_row _ _ _ _ _ _ HU.out]; rfl
        have c6 : wr.cell? ⟨b5, 6, none⟩ = some (.int .u32 (u.g.toNat : Int)) := by rw [cell_of_row _ _ _ _ _ _ HU.out]; rfl
        have c7 : wr.cell? ⟨b5, 7, none⟩ = some (.int .u32 (u.h.toNat : Int)) := by rw [cell_of_row _ _ _ _ _ _ HU.out]; rfl
        have c8 : wr.cell? ⟨b5, 8, none⟩ = some (.string ⟨r.toArray⟩) := by rw [cell_of_row _ _ _ _ _ _ HU.out]; rfl
        have c9 : wr.cell? ⟨b5, 9, none⟩ = some (.int .i64 (n : Int)) := by rw [cell_of_row _ _ _ _ _ _ HU.out]; rfl
        have hl5 : b5 < wr.heap.size := blk_lt HU.out
        go_region_law (first
          | (go_simp; go_at_call 14; refine hf1.out.mono ?_; rintro e w7 ⟨rfl, hb⟩; have hF := Lib.hid (finPA HB.out H5.out HK.out hb #[.int .u32 (u9.a.toNat : Int), .int .u32 (u9.b.toNat : Int), .int .u32 (u9.c.toNat : Int), .int .u32 (u9.d.toNat : Int), .int .u32 (u9.e.toNat : Int), .int .u32 (u9.f.toNat : Int), .int .u32 (u9.g.toNat : Int), .int .u32 (u9.h.toNat : Int), .string ⟨r9.toArray⟩, .int .i64 ((n : Int) + (k : Int))]); clear hb)
          | (go_simp; go_at_call 14; refine hf2.out.mono ?_; rintro e w7 ⟨rfl, hb⟩; have hF := Lib.hid (finPB HB.out H5.out HK.out hb (.int .u32 (u9.a.toNat : Int)) (.int .u32 (u9.b.toNat : Int)) (.int .u32 (u9.c.toNat : Int)) (.int .u32 (u9.d.toNat : Int)) (.int .u32 (u9.e.toNat : Int)) (.int .u32 (u9.f.toNat : Int)) (.int .u32 (u9.g.toNat : Int)) (.int .u32 (u9.h.toNat : Int)) (.string ⟨r9.toArray⟩) (.int .i64 ((n : Int) + (k : Int)))); obtain ⟨_, _, HQF, z0, z1, z2, z3, z4, z5, z6, z7, z8, z9⟩ := after_two HB.out HU.out hb; clear hb))
        all_goals
          go_wp2_with fail
          go_meet
          exact ⟨_, rfl, rfl, hF⟩
      case rest =>
        obtain ⟨b9, rfl, rfl, hF⟩ := hcut
        rename_i wc
        go_wp2_with fail
        have hne := hF.out.ne
        have n9 : wc.drew.rangeAt b9 0 [.int .u32 (u9.a.toNat : Int), .int .u32 (u9.b.toNat : Int), .int .u32 (u9.c.toNat : Int), .int .u32 (u9.d.toNat : Int), .int .u32 (u9.e.toNat : Int), .int .u32 (u9.f.toNat : Int), .int .u32 (u9.g.toNat : Int), .int .u32 (u9.h.toNat : Int), .string ⟨r9.toArray⟩, .int .i64 ((n : Int) + (k : Int))] := range_of_row (show wc.drew.heap[b9]? = _ from hF.out.r9)
        have r5' : Hid (wc.drew.heap[b5]? = some (.cells #[.int .u32 (u.a.toNat : Int), .int .u32 (u.b.toNat : Int), .int .u32 (u.c.toNat : Int), .int .u32 (u.d.toNat : Int), .int .u32 (u.e.toNat : Int), .int .u32 (u.f.toNat : Int), .int .u32 (u.g.toNat : Int), .int .u32 (u.h.toNat : Int), .string ⟨r.toArray⟩, .int .i64 (n : Int)] 31 (0, 0))) := hF.out.r5
        have r9' : Hid (wc.drew.heap[b9]? = some (.cells ([.int .u32 (u9.a.toNat : Int), .int .u32 (u9.b.toNat : Int), .int .u32 (u9.c.toNat : Int), .int .u32 (u9.d.toNat : Int), .int .u32 (u9.e.toNat : Int), .int .u32 (u9.f.toNat : Int), .int .u32 (u9.g.toNat : Int), .int .u32 (u9.h.toNat : Int), .string ⟨r9.toArray⟩, .int .i64 ((n : Int) + (k : Int))]).toArray 31 (0, 0))) := hF.out.r9
        have hB' : Hid (Below w.heap.size w wc.drew) := Lib.hid hF.out.below.drew
        refine wp_region_held (S := fun v : World => v.rangeAt b9 0 [.int .u32 (u9.a.toNat : Int), .int .u32 (u9.b.toNat : Int), .int .u32 (u9.c.toNat : Int), .int .u32 (u9.d.toNat : Int), .int .u32 (u9.e.toNat : Int), .int .u32 (u9.f.toNat : Int), .int .u32 (u9.g.toNat : Int), .int .u32 (u9.h.toNat : Int), .string ⟨r9.toArray⟩, .int .i64 ((n : Int) + (k : Int))]) (by kernel_rfl) ?_
        change wpAnyH _ _ _ _ _ _ _ _ wc.drew
        clear hF
        generalize wc.drew = wz at n9 r5' r9' hB' ⊢
        refine wpAnyH_take (i := 0) (v := _) rfl (by kernel_rfl) (by kernel_rfl) (by kernel_rfl) (fun _ _ _ h => h) (yieldsIf_load_mid (by rfl) 31 (.tmp 9) rfl b9 0 rfl [.int .u32 (u9.a.toNat : Int), .int .u32 (u9.b.toNat : Int), .int .u32 (u9.c.toNat : Int), .int .u32 (u9.d.toNat : Int), .int .u32 (u9.e.toNat : Int), .int .u32 (u9.f.toNat : Int), .int .u32 (u9.g.toNat : Int), .int .u32 (u9.h.toNat : Int), .string ⟨r9.toArray⟩, .int .i64 ((n : Int) + (k : Int))] _ (fun _ h => h) Tryd.underlying31 rfl (by kernel_rfl)) (by assumption) ?_
        simp only [Act.put, List.setIfInBounds_toArray, List.set_cons_zero, List.set_cons_succ]
        refine wpAnyH_take (i := 1) (v := ?_) rfl (by kernel_rfl) (by kernel_rfl) (by kernel_rfl) (fun _ _ _ h => h) (Or.inl ⟨by rfl, ?_⟩) (by assumption) ?_
        rotate_left
        · intro v _; go_simp; first | done | with_reducible rfl
        rotate_left
        simp only [Act.put, List.setIfInBounds_toArray, List.set_cons_zero, List.set_cons_succ]
        refine wpAnyH_take (i := 2) (v := ?_) rfl (by kernel_rfl) (by kernel_rfl) (by kernel_rfl) (fun _ _ _ h => h) (Or.inl ⟨by rfl, ?_⟩) (by assumption) ?_
        rotate_left
        · intro v _; go_simp; first | done | with_reducible rfl
        rotate_left
        simp only [Act.put, List.setIfInBounds_toArray, List.set_cons_zero, List.set_cons_succ]
        refine wpAnyH_take (i := 3) (v := ?_) rfl (by kernel_rfl) (by kernel_rfl) (by kernel_rfl) (fun _ _ _ h => h) (Or.inl ⟨by rfl, ?_⟩) (by assumption) ?_
        rotate_left
        · intro v _; go_simp; first | done | with_reducible rfl
        rotate_left
        simp only [Act.put, List.setIfInBounds_toArray, List.set_cons_zero, List.set_cons_succ]
        refine wpAnyH_all (rs := [4]) (by kernel_rfl) (by simp) ?_
        intro i hi
        simp only [List.mem_cons, List.not_mem_nil, or_false] at hi
        subst hi
        refine wpOp_wp rfl (by rfl) ?_
        have c0 : wz.cell? ⟨b5, 0, none⟩ = some (.int .u32 (u.a.toNat : Int)) := by rw [cell_of_row _ _ _ _ _ _ r5'.out]; rfl
        have c1 : wz.cell? ⟨b5, 1, none⟩ = some (.int .u32 (u.b.toNat : Int)) := by rw [cell_of_row _ _ _ _ _ _ r5'.out]; rfl
        have c2 : wz.cell? ⟨b5, 2, none⟩ = some (.int .u32 (u.c.toNat : Int)) := by rw [cell_of_row _ _ _ _ _ _ r5'.out]; rfl
        have c3 : wz.cell? ⟨b5, 3, none⟩ = some (.int .u32 (u.d.toNat : Int)) := by rw [cell_of_row _ _ _ _ _ _ r5'.out]; rfl
        have c4 : wz.cell? ⟨b5, 4, none⟩ = some (.int .u32 (u.e.toNat : Int)) := by rw [cell_of_row _ _ _ _ _ _ r5'.out]; rfl
        have c5 : wz.cell? ⟨b5, 5, none⟩ = some (.int .u32 (u.f.toNat : Int)) := by rw [cell_of_row _ _ _ _ _ _ r5'.out]; rfl
        have c6 : wz.cell? ⟨b5, 6, none⟩ = some (.int .u32 (u.g.toNat : Int)) := by rw [cell_of_row _ _ _ _ _ _ r5'.out]; rfl
        have c7 : wz.cell? ⟨b5, 7, none⟩ = some (.int .u32 (u.h.toNat : Int)) := by rw [cell_of_row _ _ _ _ _ _ r5'.out]; rfl
        have c8 : wz.cell? ⟨b5, 8, none⟩ = some (.string ⟨r.toArray⟩) := by rw [cell_of_row _ _ _ _ _ _ r5'.out]; rfl
        have c9 : wz.cell? ⟨b5, 9, none⟩ = some (.int .i64 (n : Int)) := by rw [cell_of_row _ _ _ _ _ _ r5'.out]; rfl
        have f5 : ∀ i, wz.frozen? ⟨b5, i, none⟩ = false := fun i => frozen_of_row wz b5 i _ _ r5'.out
        go_simp
        clear c0 c1 c2 c3 c4 c5 c6 c7 c8 c9 f5 n9
        generalize hw4 : World.setCell _ ⟨b5, 9, none⟩ _ = w4
        have n9 : w4.rangeAt b9 0 [.int .u32 (u9.a.toNat : Int), .int .u32 (u9.b.toNat : Int), .int .u32 (u9.c.toNat : Int), .int .u32 (u9.d.toNat : Int), .int .u32 (u9.e.toNat : Int), .int .u32 (u9.f.toNat : Int), .int .u32 (u9.g.toNat : Int), .int .u32 (u9.h.toNat : Int), .string ⟨r9.toArray⟩, .int .i64 ((n : Int) + (k : Int))] := by
          refine range_of_row (t := 31) (fr := (0, 0)) ?_
          rw [← hw4]
          iterate 10 rw [Below.heap_setCell _ _ _ _ (Ne.symm hne)]
          exact r9'.out
        have HU4 : Hid (w4.heap[b5]? = some (.cells ([.int .u32 (u9.a.toNat : Int), .int .u32 (u9.b.toNat : Int), .int .u32 (u9.c.toNat : Int), .int .u32 (u9.d.toNat : Int), .int .u32 (u9.e.toNat : Int), .int .u32 (u9.f.toNat : Int), .int .u32 (u9.g.toNat : Int), .int .u32 (u9.h.toNat : Int), .string ⟨r9.toArray⟩, .int .i64 ((n : Int) + (k : Int))]).toArray 31 (0, 0))) := by
          rw [← hw4]; exact Lib.hid (set_ten (L := [.int .u32 (u.a.toNat : Int), .int .u32 (u.b.toNat : Int), .int .u32 (u.c.toNat : Int), .int .u32 (u.d.toNat : Int), .int .u32 (u.e.toNat : Int), .int .u32 (u.f.toNat : Int), .int .u32 (u.g.toNat : Int), .int .u32 (u.h.toNat : Int), .string ⟨r.toArray⟩, .int .i64 (n : Int)]) r5'.out rfl _ _ _ _ _ _ _ _ _ _)
        have HB4 : Hid (Below w.heap.size w w4) := by
          rw [← hw4]; exact Lib.hid (((((((((((hB'.out.setCell (p := ⟨b5, 0, none⟩) hlb.out _).setCell (p := ⟨b5, 1, none⟩) hlb.out _).setCell (p := ⟨b5, 2, none⟩) hlb.out _).setCell (p := ⟨b5, 3, none⟩) hlb.out _).setCell (p := ⟨b5, 4, none⟩) hlb.out _).setCell (p := ⟨b5, 5, none⟩) hlb.out _).setCell (p := ⟨b5, 6, none⟩) hlb.out _).setCell (p := ⟨b5, 7, none⟩) hlb.out _).setCell (p := ⟨b5, 8, none⟩) hlb.out _).setCell (p := ⟨b5, 9, none⟩) hlb.out _))
        clear hw4 r5' r9' hB'
        refine ⟨n9, ?_⟩
        try simp only [Act.put, List.setIfInBounds_toArray, List.set_cons_zero, List.set_cons_succ]
        refine wpAnyH_take (i := 5) (v := ?_) rfl (by kernel_rfl) (by kernel_rfl) (by kernel_rfl) (fun _ _ _ h => h) (Or.inl ⟨by rfl, ?_⟩) (by assumption) ?_
        rotate_left
        · intro v _; go_simp; first | done | with_reducible rfl
        rotate_left
        simp only [Act.put, List.setIfInBounds_toArray, List.set_cons_zero, List.set_cons_succ]
        clear n9
        refine wpAnyH_done (by kernel_rfl) ?_ _
        go_wp2_with fail
        go_roundw
        case rel =>
          refine ⟨t + 1, u9, r9, n + k, s.extract k s.size, by omega, by go_num, rfl, hnext, Lib.hid ?_, Lib.hid ?_, Lib.hid ?_⟩
          · unfold RowX
            rw [Int.natCast_add]
            exact HU4.out
          · exact HB4.out
          · exact hK0.out.below HB4.out
        case measure => simp [intOf]; omega
    · obtain rfl : t = M := by omega
      clear hlt
      have hss := HP.size
      have hall := HP.all
      have hrt := HP.right hTl.out
      have hrz : (⟨r.toArray⟩ : ByteArray).size ≤ 64 := by
        show r.toArray.size ≤ 64
        have := hss.2
        rw [List.size_toArray]; omega
      have hbn : (n : Int) + (s.size : Int) ≤ 1048576 := by have := hss.1; have := hTl.out; omega
      have hf1 := feed_calls u ⟨r.toArray⟩ n s wr HK.out hrt hbn hrz (by omega)
      have hfv : fedV u ⟨r.toArray⟩ n s = hashV (feedP v0 T).1 ⟨(feedP v0 T).2.toArray⟩ (T.length : Nat) := by
        unfold fedV
        rw [show (⟨r.toArray⟩ : ByteArray).data.toList = r from rfl, hall.1, ← hall.2, Int.natCast_add]
      have hD : endP (feedP v0 T).1 (feedP v0 T).2 T.length = sumL T := rfl
      have hR : rightH (⟨(feedP v0 T).2.toArray⟩ : ByteArray).size (T.length : Nat) = true := by
        have h2 := feedP_len _ v0 T (Nat.le_refl _)
        have h3 : (⟨(feedP v0 T).2.toArray⟩ : ByteArray).size = T.length % 64 := by show (feedP v0 T).2.toArray.size = _; rw [List.size_toArray, h2]
        have := hTl.out
        unfold rightH
        rw [h3, Int.tmod_eq_emod_of_nonneg (by omega)]
        simp
        omega
      have hRz : (⟨(feedP v0 T).2.toArray⟩ : ByteArray).size ≤ 64 := by
        have h2 := feedP_len _ v0 T (Nat.le_refl _)
        show (feedP v0 T).2.toArray.size ≤ _
        rw [List.size_toArray, h2]; omega
      have hxT : x.size = T.length := by rw [← hT.out, Lib.size_eq]
      have hDl := sumL_len T
      have hsum : ∀ W : World, KAt W → Calls Tryd.prog 13 #[.string x] W fun e w' => e = .returned (.tuple #[.agg (Lib.byteCells (sumL T)).toArray, .int .i64 0]) ∧ Below W.heap.size W w' := fun W hk => by
        have h := sum_ok x W hk (by have := hxl.out; omega)
        rwa [hT.out] at h
      rw [hfv] at hf1
      clear hfv
      generalize sumL T = D at hD hDl hsum
      generalize (feedP v0 T).2 = R9 at hf1 hD hR hRz
      generalize (feedP v0 T).1 = U9 at hf1 hD
      have hNl := hTl.out
      generalize T.length = N9 at hf1 hD hR hxT hNl
      have hend : ∀ W : World, KAt W → Calls Tryd.prog 17 #[hashV U9 ⟨R9.toArray⟩ (N9 : Int)] W fun e w' => e = .returned (.tuple #[.agg (Lib.byteCells D).toArray, .int .i64 0]) ∧ Below W.heap.size W w' := fun W hk => by
        have h := end_calls U9 ⟨R9.toArray⟩ N9 W hk hR hRz (by omega)
        rw [show (⟨R9.toArray⟩ : ByteArray).data.toList = R9 from rfl, hD] at h
        exact h
      have heq : ∀ v : World, (Op.equalIn 10000 24 (.agg (Lib.byteCells D).toArray) (.agg (Lib.byteCells D).toArray)).run Tryd.prog v = .ok true v := fun v => by rw [eq32 v D D hDl hDl]; simp
      unfold hashV at hf1 hend
      clear hD hR hRz hbn hrz hrt hall hss
      replace hf1 := Lib.hid hf1
      replace hend := Lib.hid hend
      replace hsum := Lib.hid hsum
      replace heq := Lib.hid heq
      replace hDl := Lib.hid hDl
      replace hxT := Lib.hid hxT
      have c0 : wr.cell? ⟨b5, 0, none⟩ = some (.int .u32 (u.a.toNat : Int)) := by rw [cell_of_row _ _ _ _ _ _ HU.out]; rfl
      have c1 : wr.cell? ⟨b5, 1, none⟩ = some (.int .u32 (u.b.toNat : Int)) := by rw [cell_of_row _ _ _ _ _ _ HU.out]; rfl
      have c2 : wr.cell? ⟨b5, 2, none⟩ = some (.int .u32 (u.c.toNat : Int)) := by rw [cell_of_row _ _ _ _ _ _ HU.out]; rfl
      have c3 : wr.cell? ⟨b5, 3, none⟩ = some (.int .u32 (u.d.toNat : Int)) := by rw [cell_of_row _ _ _ _ _ _ HU.out]; rfl
      have c4 : wr.cell? ⟨b5, 4, none⟩ = some (.int .u32 (u.e.toNat : Int)) := by rw [cell_of_row _ _ _ _ _ _ HU.out]; rfl
      have c5 : wr.cell? ⟨b5, 5, none⟩ = some (.int .u32 (u.f.toNat : Int)) := by rw [cell_of_row _ _ _ _ _ _ HU.out]; rfl
      have c6 : wr.cell? ⟨b5, 6, none⟩ = some (.int .u32 (u.g.toNat : Int)) := by rw [cell_of_row _ _ _ _ _ _ HU.out]; rfl
      have c7 : wr.cell? ⟨b5, 7, none⟩ = some (.int .u32 (u.h.toNat : Int)) := by rw [cell_of_row _ _ _ _ _ _ HU.out]; rfl
      have c8 : wr.cell? ⟨b5, 8, none⟩ = some (.string ⟨r.toArray⟩) := by rw [cell_of_row _ _ _ _ _ _ HU.out]; rfl
      have c9 : wr.cell? ⟨b5, 9, none⟩ = some (.int .i64 (n : Int)) := by rw [cell_of_row _ _ _ _ _ _ HU.out]; rfl
      go_wp2_with fail
      refine hf1.out.mono ?_
      rintro e w3 ⟨rfl, hb⟩
      clear c0 c1 c2 c3 c4 c5 c6 c7 c8 c9 hf1
      replace HU := Lib.hid (rowX_below HU.out hb)
      replace HB := Lib.hid (HB.out.trans (Below.mono hb HB.out.size))
      replace HK := Lib.hid (HK.out.below hb)
      clear hb
      have c0 : w3.cell? ⟨b5, 0, none⟩ = some (.int .u32 (u.a.toNat : Int)) := by rw [cell_of_row _ _ _ _ _ _ HU.out]; rfl
      have c1 : w3.cell? ⟨b5, 1, none⟩ = some (.int .u32 (u.b.toNat : Int)) := by rw [cell_of_row _ _ _ _ _ _ HU.out]; rfl
      have c2 : w3.cell? ⟨b5, 2, none⟩ = some (.int .u32 (u.c.toNat : Int)) := by rw [cell_of_row _ _ _ _ _ _ HU.out]; rfl
      have c3 : w3.cell? ⟨b5, 3, none⟩ = some (.int .u32 (u.d.toNat : Int)) := by rw [cell_of_row _ _ _ _ _ _ HU.out]; rfl
      have c4 : w3.cell? ⟨b5, 4, none⟩ = some (.int .u32 (u.e.toNat : Int)) := by rw [cell_of_row _ _ _ _ _ _ HU.out]; rfl
      have c5 : w3.cell? ⟨b5, 5, none⟩ = some (.int .u32 (u.f.toNat : Int)) := by rw [cell_of_row _ _ _ _ _ _ HU.out]; rfl
      have c6 : w3.cell? ⟨b5, 6, none⟩ = some (.int .u32 (u.g.toNat : Int)) := by rw [cell_of_row _ _ _ _ _ _ HU.out]; rfl
      have c7 : w3.cell? ⟨b5, 7, none⟩ = some (.int .u32 (u.h.toNat : Int)) := by rw [cell_of_row _ _ _ _ _ _ HU.out]; rfl
      have c8 : w3.cell? ⟨b5, 8, none⟩ = some (.string ⟨r.toArray⟩) := by rw [cell_of_row _ _ _ _ _ _ HU.out]; rfl
      have c9 : w3.cell? ⟨b5, 9, none⟩ = some (.int .i64 (n : Int)) := by rw [cell_of_row _ _ _ _ _ _ HU.out]; rfl
      have f5 : ∀ i, w3.frozen? ⟨b5, i, none⟩ = false := fun i => frozen_of_row w3 b5 i _ _ HU.out
      go_wp2_with fail
      clear c0 c1 c2 c3 c4 c5 c6 c7 c8 c9 f5
      generalize hw4 : World.setCell _ ⟨b5, 9, none⟩ _ = w4
      have HU4 : Hid (w4.heap[b5]? = some (.cells #[.int .u32 (U9.a.toNat : Int), .int .u32 (U9.b.toNat : Int), .int .u32 (U9.c.toNat : Int), .int .u32 (U9.d.toNat : Int), .int .u32 (U9.e.toNat : Int), .int .u32 (U9.f.toNat : Int), .int .u32 (U9.g.toNat : Int), .int .u32 (U9.h.toNat : Int), .string ⟨R9.toArray⟩, .int .i64 (N9 : Int)] 31 (0, 0))) := by
        rw [← hw4]; exact Lib.hid (set_ten (L := [.int .u32 (u.a.toNat : Int), .int .u32 (u.b.toNat : Int), .int .u32 (u.c.toNat : Int), .int .u32 (u.d.toNat : Int), .int .u32 (u.e.toNat : Int), .int .u32 (u.f.toNat : Int), .int .u32 (u.g.toNat : Int), .int .u32 (u.h.toNat : Int), .string ⟨r.toArray⟩, .int .i64 (n : Int)]) HU.out rfl _ _ _ _ _ _ _ _ _ _)
      have HB4 : Hid (Below w.heap.size w w4) := by
        rw [← hw4]; exact Lib.hid (((((((((((HB.out.setCell (p := ⟨b5, 0, none⟩) hlb.out _).setCell (p := ⟨b5, 1, none⟩) hlb.out _).setCell (p := ⟨b5, 2, none⟩) hlb.out _).setCell (p := ⟨b5, 3, none⟩) hlb.out _).setCell (p := ⟨b5, 4, none⟩) hlb.out _).setCell (p := ⟨b5, 5, none⟩) hlb.out _).setCell (p := ⟨b5, 6, none⟩) hlb.out _).setCell (p := ⟨b5, 7, none⟩) hlb.out _).setCell (p := ⟨b5, 8, none⟩) hlb.out _).setCell (p := ⟨b5, 9, none⟩) hlb.out _))
      have HK4 : Hid (KAt w4) := Lib.hid (hK0.out.below HB4.out)
      clear hw4 HU HB HK
      refine (hend.out w4 HK4.out).mono ?_
      rintro e w5 ⟨rfl, hb⟩
      have HU5 := Lib.hid (blk_below HU4.out hb)
      have HB5 := Lib.hid (HB4.out.trans (Below.mono hb HB4.out.size))
      have HK5 := Lib.hid (HK4.out.below hb)
      clear hb HU4 HB4 HK4 hend
      go_wp2_with (refine wpList_store_dig rfl (.tmp 12) (.tmp 65) rfl w5.heap.size rfl D hDl.out rfl (Lib.byteCells (List.replicate 32 0)).toArray 24 (heap_alloc_last _ _) (by rw [List.size_toArray, Lib.byteCells, List.length_map, z32_len]) ?_; intro w6 h6 _ hB6; have hb6 : Below w5.heap.size w5 w6 := hB6 ((Below.refl _ _).alloc (Nat.le_refl _) _) (Nat.le_refl _))
      have H12 : Hid (DigAt w5.heap.size D w6) := h6
      have HU6 := Lib.hid (blk_below HU5.out hb6)
      have HB6 := Lib.hid (HB5.out.trans (Below.mono hb6 HB5.out.size))
      have HK6 := Lib.hid (HK5.out.below hb6)
      clear hb6 h6 hB6 HU5 HB5 HK5
      generalize w5.heap.size = b12 at H12 ⊢
      refine (hsum.out w6 HK6.out).mono ?_
      rintro e w7 ⟨rfl, hb⟩
      have H12b := Lib.hid (H12.out.below hb)
      have HU7 := Lib.hid (blk_below HU6.out hb)
      have HB7 := Lib.hid (HB6.out.trans (Below.mono hb HB6.out.size))
      have HK7 := Lib.hid (HK6.out.below hb)
      clear hb H12 HU6 HB6 HK6 hsum
      go_wp2_with (refine wpList_store_dig rfl (.tmp 14) (.tmp 70) rfl w7.heap.size rfl D hDl.out rfl (Lib.byteCells (List.replicate 32 0)).toArray 24 (heap_alloc_last _ _) (by rw [List.size_toArray, Lib.byteCells, List.length_map, z32_len]) ?_; intro w8 h8 _ hB8; have hb8 : Below w7.heap.size w7 w8 := hB8 ((Below.refl _ _).alloc (Nat.le_refl _) _) (Nat.le_refl _))
      have H14 : Hid (DigAt w7.heap.size D w8) := h8
      have H12 := Lib.hid (H12b.out.below hb8)
      have HU8 := Lib.hid (blk_below HU7.out hb8)
      have HB8 := Lib.hid (HB7.out.trans (Below.mono hb8 HB7.out.size))
      have HK8 := Lib.hid (HK7.out.below hb8)
      clear hb8 h8 hB8 HU7 HB7 HK7 H12b
      generalize w7.heap.size = b14 at H14 ⊢
      refine (alive_calls w8 HK8.out).mono ?_
      rintro e w9 ⟨rfl, hb⟩
      have H12b := Lib.hid (H12.out.below hb)
      have H14b := Lib.hid (H14.out.below hb)
      have HU9 := Lib.hid (blk_below HU8.out hb)
      have HB9 := Lib.hid (HB8.out.trans (Below.mono hb HB8.out.size))
      clear hb H12 H14 HU8 HB8 HK8
      have y9 : w9.cell? ⟨b5, 9, none⟩ = some (.int .i64 (N9 : Int)) := by rw [cell_of_row _ _ _ _ _ _ HU9.out]; rfl
      have hxN : (x.size : Int) = (N9 : Int) := by rw [hxT.out]
      have hqo := heq.out
      go_wp2_with (first | (refine wpList_load_digG (o := ⟨some 86, _, _, _, _, _⟩) rfl (.tmp 12) rfl b12 rfl D hDl.out _ _ H12b.out ?_) | (refine wpList_load_digG (o := ⟨some 87, _, _, _, _, _⟩) rfl (.tmp 14) rfl b14 rfl D hDl.out _ _ H14b.out ?_))
      go_ret
      exact ⟨rfl, HB9.out⟩
end Go.Proofs.YtldpnmebjnkjeaaDoor.Sha
