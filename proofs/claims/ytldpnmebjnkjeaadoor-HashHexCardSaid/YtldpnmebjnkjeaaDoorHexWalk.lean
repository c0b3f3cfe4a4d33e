import Derived.Test.YtldpnmebjnkjeaaDoorShaL
import Derived.Test.YtldpnmebjnkjeaaDoorShaM
import Derived.Deep.CutRange
import Derived.Deep.RegionHeld3
import Derived.Deep.CutBlock
import Derived.Deep.DeepCutAuto
import Derived.Outline
namespace Go.Proofs.YtldpnmebjnkjeaaDoor.Sha
open Go.RowKit Go.Proofs.YtldpnmebjnkjeaaDoorW.PrintWords
set_option linter.unusedVariables false
set_option linter.unusedSimpArgs false

/-- What stands behind the sum. -/
structure Fin7 (w : World) (a b D : List UInt8) (b12 : Nat) (W : World) : Prop where
  below : Below w.heap.size w W
  da : DigAt w.heap.size a W
  db : DigAt (w.heap.size + 1) b W
  k : KAt W
  d12 : DigAt b12 D W
theorem fin7A {w w8 w9 : World} {a b D : List UInt8} (HB : Below w.heap.size w w8) (HA : DigAt w.heap.size a w8) (HC : DigAt (w.heap.size + 1) b w8) (HK : KAt w8) (hb : Below w8.drew.heap.size w8.drew w9) :
    Fin7 w a b D w9.heap.size ((w9.alloc (.cells #[.int .u8 0, .int .u8 0, .int .u8 0, .int .u8 0, .int .u8 0, .int .u8 0, .int .u8 0, .int .u8 0, .int .u8 0, .int .u8 0, .int .u8 0, .int .u8 0, .int .u8 0, .int .u8 0, .int .u8 0, .int .u8 0, .int .u8 0, .int .u8 0, .int .u8 0, .int .u8 0, .int .u8 0, .int .u8 0, .int .u8 0, .int .u8 0, .int .u8 0, .int .u8 0, .int .u8 0, .int .u8 0, .int .u8 0, .int .u8 0, .int .u8 0, .int .u8 0] 24)).setRow w9.heap.size (Lib.byteCells D).toArray) := by
  have h1 : Below w8.heap.size w8 (w9.alloc (.cells #[.int .u8 0, .int .u8 0, .int .u8 0, .int .u8 0, .int .u8 0, .int .u8 0, .int .u8 0, .int .u8 0, .int .u8 0, .int .u8 0, .int .u8 0, .int .u8 0, .int .u8 0, .int .u8 0, .int .u8 0, .int .u8 0, .int .u8 0, .int .u8 0, .int .u8 0, .int .u8 0, .int .u8 0, .int .u8 0, .int .u8 0, .int .u8 0, .int .u8 0, .int .u8 0, .int .u8 0, .int .u8 0, .int .u8 0, .int .u8 0, .int .u8 0, .int .u8 0] 24)) := ((Below.refl _ _).drew.trans (show Below w8.heap.size w8.drew w9 from hb)).alloc hb.size _
  have h2 : Below w8.heap.size w8 ((w9.alloc (.cells #[.int .u8 0, .int .u8 0, .int .u8 0, .int .u8 0, .int .u8 0, .int .u8 0, .int .u8 0, .int .u8 0, .int .u8 0, .int .u8 0, .int .u8 0, .int .u8 0, .int .u8 0, .int .u8 0, .int .u8 0, .int .u8 0, .int .u8 0, .int .u8 0, .int .u8 0, .int .u8 0, .int .u8 0, .int .u8 0, .int .u8 0, .int .u8 0, .int .u8 0, .int .u8 0, .int .u8 0, .int .u8 0, .int .u8 0, .int .u8 0, .int .u8 0, .int .u8 0] 24)).setRow w9.heap.size (Lib.byteCells D).toArray) := below_setRow h1 hb.size _
  exact ⟨HB.trans (h2.mono HB.size), HA.below h2, HC.below h2, HK.below h2, setRow_heap _ _ _ _ _ _ (heap_alloc_last w9 _)⟩
theorem fin7B {w w8 w9 : World} {a b D : List UInt8} (HB : Below w.heap.size w w8) (HA : DigAt w.heap.size a w8) (HC : DigAt (w.heap.size + 1) b w8) (HK : KAt w8)
    (hb : Below (w8.alloc (.cells #[.int .u8 0, .int .u8 0, .int .u8 0, .int .u8 0, .int .u8 0, .int .u8 0, .int .u8 0, .int .u8 0, .int .u8 0, .int .u8 0, .int .u8 0, .int .u8 0, .int .u8 0, .int .u8 0, .int .u8 0, .int .u8 0, .int .u8 0, .int .u8 0, .int .u8 0, .int .u8 0, .int .u8 0, .int .u8 0, .int .u8 0, .int .u8 0, .int .u8 0, .int .u8 0, .int .u8 0, .int .u8 0, .int .u8 0, .int .u8 0, .int .u8 0, .int .u8 0] 24)).drew.heap.size (w8.alloc (.cells #[.int .u8 0, .int .u8 0, .int .u8 0, .int .u8 0, .int .u8 0, .int .u8 0, .int .u8 0, .int .u8 0, .int .u8 0, .int .u8 0, .int .u8 0, .int .u8 0, .int .u8 0, .int .u8 0, .int .u8 0, .int .u8 0, .int .u8 0, .int .u8 0, .int .u8 0, .int .u8 0, .int .u8 0, .int .u8 0, .int .u8 0, .int .u8 0, .int .u8 0, .int .u8 0, .int .u8 0, .int .u8 0, .int .u8 0, .int .u8 0, .int .u8 0, .int .u8 0] 24)).drew w9) :
    Fin7 w a b D w8.heap.size (w9.setRow w8.heap.size (Lib.byteCells D).toArray) := by
  have h1 : Below w8.heap.size w8 w9 := ((Below.refl _ _).alloc (Nat.le_refl _) _).drew.trans (hb.mono (by simp))
  have h2 : Below w8.heap.size w8 (w9.setRow w8.heap.size (Lib.byteCells D).toArray) := below_setRow h1 (Nat.le_refl _) _
  exact ⟨HB.trans (h2.mono HB.size), HA.below h2, HC.below h2, HK.below h2, setRow_heap _ _ _ _ _ _ (blk_below (show (w8.alloc (.cells #[.int .u8 0, .int .u8 0, .int .u8 0, .int .u8 0, .int .u8 0, .int .u8 0, .int .u8 0, .int .u8 0, .int .u8 0, .int .u8 0, .int .u8 0, .int .u8 0, .int .u8 0, .int .u8 0, .int .u8 0, .int .u8 0, .int .u8 0, .int .u8 0, .int .u8 0, .int .u8 0, .int .u8 0, .int .u8 0, .int .u8 0, .int .u8 0, .int .u8 0, .int .u8 0, .int .u8 0, .int .u8 0, .int .u8 0, .int .u8 0, .int .u8 0, .int .u8 0] 24)).drew.heap[w8.heap.size]? = _ from heap_alloc_last _ _) hb)⟩
theorem storeA {w9 : World} {D : List UInt8} (hD : D.length = 32) : (storeCells ⟨w9.heap.size, 0, none⟩ (Lib.byteCells D)).run Tryd.prog (w9.alloc (.cells #[.int .u8 0, .int .u8 0, .int .u8 0, .int .u8 0, .int .u8 0, .int .u8 0, .int .u8 0, .int .u8 0, .int .u8 0, .int .u8 0, .int .u8 0, .int .u8 0, .int .u8 0, .int .u8 0, .int .u8 0, .int .u8 0, .int .u8 0, .int .u8 0, .int .u8 0, .int .u8 0, .int .u8 0, .int .u8 0, .int .u8 0, .int .u8 0, .int .u8 0, .int .u8 0, .int .u8 0, .int .u8 0, .int .u8 0, .int .u8 0, .int .u8 0, .int .u8 0] 24)) = .ok () ((w9.alloc (.cells #[.int .u8 0, .int .u8 0, .int .u8 0, .int .u8 0, .int .u8 0, .int .u8 0, .int .u8 0, .int .u8 0, .int .u8 0, .int .u8 0, .int .u8 0, .int .u8 0, .int .u8 0, .int .u8 0, .int .u8 0, .int .u8 0, .int .u8 0, .int .u8 0, .int .u8 0, .int .u8 0, .int .u8 0, .int .u8 0, .int .u8 0, .int .u8 0, .int .u8 0, .int .u8 0, .int .u8 0, .int .u8 0, .int .u8 0, .int .u8 0, .int .u8 0, .int .u8 0] 24)).setRow w9.heap.size (Lib.byteCells D).toArray) :=
  run_cells_dig hD (heap_alloc_last w9 _) rfl
theorem storeB {w8 w9 : World} {D : List UInt8} (hD : D.length = 32) (hb : Below (w8.alloc (.cells #[.int .u8 0, .int .u8 0, .int .u8 0, .int .u8 0, .int .u8 0, .int .u8 0, .int .u8 0, .int .u8 0, .int .u8 0, .int .u8 0, .int .u8 0, .int .u8 0, .int .u8 0, .int .u8 0, .int .u8 0, .int .u8 0, .int .u8 0, .int .u8 0, .int .u8 0, .int .u8 0, .int .u8 0, .int .u8 0, .int .u8 0, .int .u8 0, .int .u8 0, .int .u8 0, .int .u8 0, .int .u8 0, .int .u8 0, .int .u8 0, .int .u8 0, .int .u8 0] 24)).drew.heap.size (w8.alloc (.cells #[.int .u8 0, .int .u8 0, .int .u8 0, .int .u8 0, .int .u8 0, .int .u8 0, .int .u8 0, .int .u8 0, .int .u8 0, .int .u8 0, .int .u8 0, .int .u8 0, .int .u8 0, .int .u8 0, .int .u8 0, .int .u8 0, .int .u8 0, .int .u8 0, .int .u8 0, .int .u8 0, .int .u8 0, .int .u8 0, .int .u8 0, .int .u8 0, .int .u8 0, .int .u8 0, .int .u8 0, .int .u8 0, .int .u8 0, .int .u8 0, .int .u8 0, .int .u8 0] 24)).drew w9) :
    (storeCells ⟨w8.heap.size, 0, none⟩ (Lib.byteCells D)).run Tryd.prog w9 = .ok () (w9.setRow w8.heap.size (Lib.byteCells D).toArray) :=
  run_cells_dig hD (blk_below (show (w8.alloc (.cells #[.int .u8 0, .int .u8 0, .int .u8 0, .int .u8 0, .int .u8 0, .int .u8 0, .int .u8 0, .int .u8 0, .int .u8 0, .int .u8 0, .int .u8 0, .int .u8 0, .int .u8 0, .int .u8 0, .int .u8 0, .int .u8 0, .int .u8 0, .int .u8 0, .int .u8 0, .int .u8 0, .int .u8 0, .int .u8 0, .int .u8 0, .int .u8 0, .int .u8 0, .int .u8 0, .int .u8 0, .int .u8 0, .int .u8 0, .int .u8 0, .int .u8 0, .int .u8 0] 24)).drew.heap[w8.heap.size]? = _ from heap_alloc_last _ _) hb) rfl
theorem at_dig {v : World} {p : Nat} {l : List UInt8} (h : DigAt p l v) (hl : l.length = 32) : (Instr.loadAt 24 (.pointer (some ⟨p, 0, none⟩))).run Tryd.prog v = .ok (.agg (Lib.byteCells l).toArray) v := by
  refine run_loadAt_mid v p 0 24 (Lib.byteCells l) (.array 32 5) ?_ (by kernel_rfl) rfl (by rw [Lib.byteCells, List.length_map, hl]; kernel_rfl)
  intro j u hu
  rw [Nat.zero_add, cell_of_row _ _ _ _ _ _ h]
  simpa using hu
theorem DigAt.range {p : Nat} {l : List UInt8} {v : World} (h : DigAt p l v) : v.rangeAt p 0 (Lib.byteCells l) := by
  intro j u hu
  rw [Nat.zero_add, cell_of_row _ _ _ _ _ _ h]
  simpa using hu
theorem info_dig {l : List UInt8} (hl : l.length = 32) : (Tryd.prog.info? 24).map (·.size) = some (Lib.byteCells l).length := by rw [Lib.byteCells, List.length_map, hl]; kernel_rfl
theorem und_dig : Tryd.prog.underlying 24 = some (.array 32 5) := by kernel_rfl
theorem wpOp_wp {P : Program} {ops : Array Oper} {Q : Exit → Act → World → Prop} {i : Nat} {o : Oper} {a : Act} {w : World} {K : Act → World → Prop} (hi : ops[i]? = some o) (hw : Region.wanted o (yielded ops a.tmps) = true) (h : o.wp P a w K Q) : wpOp P ops Q i K a w := by
  unfold wpOp
  simp only [hi, hw, if_true]
  exact .inl h
theorem zrow_size : ((Lib.byteCells (List.replicate 32 0)).toArray).size = 32 := by rw [List.size_toArray, Lib.byteCells, List.length_map, z32_len]
set_option maxHeartbeats 8000000 in
set_option maxRecDepth 100000 in
theorem hex_law (a b : List UInt8) (ha : a.length = 32) (hbl : b.length = 32) (hex : ByteArray) (w : World) (hx : hex.size ≤ 9223372036854775807) (hK : KAt w) :
    Calls Tryd.prog 7 #[.agg (Lib.byteCells a).toArray, .agg (Lib.byteCells b).toArray, .string hex] w fun e w' => e = .returned (.bool true) ∧ Below w.heap.size w w' := by
  have hxl : (hex.extract 0 (min (hex.size : Int) 70).toNat).size ≤ 70 := by rw [ByteArray.size_extract]; omega
  replace ha := Lib.hid ha
  replace hbl := Lib.hid hbl
  go_enter Tryd.func7, Tryd.ntmps7
  go_upto_region 2 with fail
  generalize hex.extract 0 (min (hex.size : Int) 70).toNat = x at hxl ⊢
  replace hxl := Lib.hid hxl
  generalize hw1 : (w.alloc _).alloc _ = w1
  have HA : Hid (DigAt w.heap.size a w1) := by
    rw [← hw1]; refine Lib.hid ?_; unfold DigAt; rw [Below.heap_alloc _ _ _ (by simp)]; exact heap_alloc_last _ _
  have HC : Hid (DigAt (w.heap.size + 1) b w1) := by
    rw [← hw1]; exact heap_at1 _ _ _
  have HB : Hid (Below w.heap.size w w1) := by
    rw [← hw1]; exact Lib.hid (((Below.refl _ _).alloc (Nat.le_refl _) _).alloc (by simp) _)
  have HK : Hid (KAt w1) := Lib.hid (hK.below HB.out)
  clear hw1 hK
  obtain ⟨sa, hsa⟩ : ∃ s : ByteArray, s = ⟨(hexL a).toArray⟩ := ⟨_, rfl⟩
  have hsz : sa.size = 64 := by
    rw [hsa]
    show (hexL a).toArray.size = 64
    rw [List.size_toArray, hexL_len, ha.out]
  have hpa := parseV_hex a ha.out
  rw [← hsa] at hpa
  have hcall := hex_calls a ha.out w1
  rw [← hsa] at hcall
  replace hsa := Lib.hid hsa
  replace hpa := Lib.hid hpa
  replace hcall := Lib.hid hcall
  replace hsz := Lib.hid hsz
  go_wp2_with (refine wpList_load_dig (o := ⟨some 19, _, _, _, _, _⟩) rfl (.tmp 3) rfl w.heap.size rfl a ha.out _ _ HA.out ?_)
  refine hcall.out.mono ?_
  rintro e w2 ⟨rfl, hb⟩
  replace HA : Hid (DigAt w.heap.size a w2) := Lib.hid (HA.out.below hb)
  replace HC : Hid (DigAt (w.heap.size + 1) b w2) := Lib.hid (HC.out.below hb)
  replace HK : Hid (KAt w2) := Lib.hid (HK.out.below hb)
  replace HB : Hid (Below w.heap.size w w2) := Lib.hid (HB.out.trans (Below.mono hb HB.out.size))
  clear hb hcall
  go_wp2_with fail
  refine (parse_calls sa w2).mono ?_
  rintro e w3 ⟨rfl, hb⟩
  rw [hpa.out]
  replace HA : Hid (DigAt w.heap.size a w3) := Lib.hid (HA.out.below hb)
  replace HC : Hid (DigAt (w.heap.size + 1) b w3) := Lib.hid (HC.out.below hb)
  replace HK : Hid (KAt w3) := Lib.hid (HK.out.below hb)
  replace HB : Hid (Below w.heap.size w w3) := Lib.hid (HB.out.trans (Below.mono hb HB.out.size))
  clear hb
  go_wp2_with (refine wpList_store_dig rfl (.tmp 8) (.tmp 24) rfl w3.heap.size rfl a ha.out rfl (Lib.byteCells (List.replicate 32 0)).toArray 24 (heap_alloc_last _ _) zrow_size ?_; intro w4 h4 _ hB4; have hb4 : Below w3.heap.size w3 w4 := hB4 ((Below.refl _ _).alloc (Nat.le_refl _) _) (Nat.le_refl _))
  replace HA : Hid (DigAt w.heap.size a w4) := Lib.hid (HA.out.below hb4)
  replace HC : Hid (DigAt (w.heap.size + 1) b w4) := Lib.hid (HC.out.below hb4)
  replace HK : Hid (KAt w4) := Lib.hid (HK.out.below hb4)
  replace HB : Hid (Below w.heap.size w w4) := Lib.hid (HB.out.trans (Below.mono hb4 HB.out.size))
  clear hB4 hb4
  have H8 : Hid (DigAt w3.heap.size a w4) := h4
  clear h4
  generalize w3.heap.size = b8 at H8 ⊢
  refine (parse_calls x w4).mono ?_
  rintro e w5 ⟨rfl, hb⟩
  replace HA : Hid (DigAt w.heap.size a w5) := Lib.hid (HA.out.below hb)
  replace HC : Hid (DigAt (w.heap.size + 1) b w5) := Lib.hid (HC.out.below hb)
  replace HK : Hid (KAt w5) := Lib.hid (HK.out.below hb)
  replace HB : Hid (Below w.heap.size w w5) := Lib.hid (HB.out.trans (Below.mono hb HB.out.size))
  replace H8 := Lib.hid (H8.out.below hb)
  clear hb
  have heqa : ∀ v : World, (Op.equalIn 10000 24 (.agg (Lib.byteCells a).toArray) (.agg (Lib.byteCells a).toArray)).run Tryd.prog v = .ok true v := fun v => by rw [eq32 v a a ha.out ha.out]; simp
  replace heqa := Lib.hid heqa
  by_cases hP : x.size = 64 ∧ allDigits x.data.toList = true
  · have hpv : parseV x = .tuple #[.agg (Lib.byteCells (dp x.data.toList 64)).toArray, .int .i64 0] := by unfold parseV; rw [if_pos hP]
    have hback : (⟨(hexL (dp x.data.toList 64)).toArray⟩ : ByteArray) = x := by
      rw [hex_dp x.data.toList (by rw [← Lib.size_eq]; exact hP.1) hP.2]
    rw [hpv]
    have hyl := dp_len x.data.toList 64
    generalize dp x.data.toList 64 = y at hback hyl ⊢
    replace hback := Lib.hid hback
    replace hyl := Lib.hid hyl
    clear hpv hP
    go_upto_region 5 with (refine wpList_store_dig rfl (.tmp 10) (.tmp 29) rfl w5.heap.size rfl y hyl.out rfl (Lib.byteCells (List.replicate 32 0)).toArray 24 (heap_alloc_last _ _) zrow_size ?_; intro w6 h6 _ hB6; have hb6 : Below w5.heap.size w5 w6 := hB6 ((Below.refl _ _).alloc (Nat.le_refl _) _) (Nat.le_refl _))
    replace HA : Hid (DigAt w.heap.size a w6) := Lib.hid (HA.out.below hb6)
    replace HC : Hid (DigAt (w.heap.size + 1) b w6) := Lib.hid (HC.out.below hb6)
    replace HK : Hid (KAt w6) := Lib.hid (HK.out.below hb6)
    replace HB : Hid (Below w.heap.size w w6) := Lib.hid (HB.out.trans (Below.mono hb6 HB.out.size))
    replace H8 := Lib.hid (H8.out.below hb6)
    have H10 : Hid (DigAt w5.heap.size y w6) := h6
    clear hB6 hb6 h6
    generalize w5.heap.size = b10 at H10 ⊢
    have heqo := heqa.out
    have hszo := hsz.out
    go_wp2_with (first | (refine wpList_load_digG (o := ⟨some 34, _, _, _, _, _⟩) rfl (.tmp 8) rfl b8 rfl a ha.out _ _ H8.out ?_) | (refine wpList_load_digG (o := ⟨some 35, _, _, _, _, _⟩) rfl (.tmp 3) rfl w.heap.size rfl a ha.out _ _ HA.out ?_) | (refine wpList_load_digG (o := ⟨some 47, _, _, _, _, _⟩) rfl (.tmp 10) rfl b10 rfl y hyl.out _ _ H10.out ?_))
    clear heqo hszo
    refine (hex_calls y hyl.out w6).mono ?_
    rintro e w7 ⟨rfl, hb⟩
    rw [hback.out]
    replace HA : Hid (DigAt w.heap.size a w7) := Lib.hid (HA.out.below hb)
    replace HC : Hid (DigAt (w.heap.size + 1) b w7) := Lib.hid (HC.out.below hb)
    replace HK : Hid (KAt w7) := Lib.hid (HK.out.below hb)
    replace HB : Hid (Below w.heap.size w w7) := Lib.hid (HB.out.trans (Below.mono hb HB.out.size))
    clear hb
    go_wp2_with fail
    refine (alive_calls w7 HK.out).mono ?_
    rintro e w8 ⟨rfl, hb⟩
    replace HA : Hid (DigAt w.heap.size a w8) := Lib.hid (HA.out.below hb)
    replace HC : Hid (DigAt (w.heap.size + 1) b w8) := Lib.hid (HC.out.below hb)
    replace HK : Hid (KAt w8) := Lib.hid (HK.out.below hb)
    replace HB : Hid (Below w.heap.size w w8) := Lib.hid (HB.out.trans (Below.mono hb HB.out.size))
    clear hb
    go_upto_region 7 with fail
    clear H8 heqa
    try clear H10 hback hyl
    have cx := conv_dig (w := w8.drew) HA.out ha.out
    have cy := conv_dig (w := w8.drew) HC.out hbl.out
    have hbz : Below w8.heap.size w8 (w8.alloc (.cells #[.int .u8 0, .int .u8 0, .int .u8 0, .int .u8 0, .int .u8 0, .int .u8 0, .int .u8 0, .int .u8 0, .int .u8 0, .int .u8 0, .int .u8 0, .int .u8 0, .int .u8 0, .int .u8 0, .int .u8 0, .int .u8 0, .int .u8 0, .int .u8 0, .int .u8 0, .int .u8 0, .int .u8 0, .int .u8 0, .int .u8 0, .int .u8 0, .int .u8 0, .int .u8 0, .int .u8 0, .int .u8 0, .int .u8 0, .int .u8 0, .int .u8 0, .int .u8 0] 24)).drew := ((Below.refl _ _).alloc (Nat.le_refl _) _).drew
    have cx2 := conv_dig (w := (w8.alloc (.cells #[.int .u8 0, .int .u8 0, .int .u8 0, .int .u8 0, .int .u8 0, .int .u8 0, .int .u8 0, .int .u8 0, .int .u8 0, .int .u8 0, .int .u8 0, .int .u8 0, .int .u8 0, .int .u8 0, .int .u8 0, .int .u8 0, .int .u8 0, .int .u8 0, .int .u8 0, .int .u8 0, .int .u8 0, .int .u8 0, .int .u8 0, .int .u8 0, .int .u8 0, .int .u8 0, .int .u8 0, .int .u8 0, .int .u8 0, .int .u8 0, .int .u8 0, .int .u8 0] 24)).drew) (HA.out.below hbz) ha.out
    have cy2 := conv_dig (w := (w8.alloc (.cells #[.int .u8 0, .int .u8 0, .int .u8 0, .int .u8 0, .int .u8 0, .int .u8 0, .int .u8 0, .int .u8 0, .int .u8 0, .int .u8 0, .int .u8 0, .int .u8 0, .int .u8 0, .int .u8 0, .int .u8 0, .int .u8 0, .int .u8 0, .int .u8 0, .int .u8 0, .int .u8 0, .int .u8 0, .int .u8 0, .int .u8 0, .int .u8 0, .int .u8 0, .int .u8 0, .int .u8 0, .int .u8 0, .int .u8 0, .int .u8 0, .int .u8 0, .int .u8 0] 24)).drew) (HC.out.below hbz) hbl.out
    have hab : ((⟨a.toArray⟩ ++ ⟨b.toArray⟩ : ByteArray)).data.toList = a ++ b := by rw [ByteArray.data_append, Array.toList_append]
    have habz : ((⟨a.toArray⟩ ++ ⟨b.toArray⟩ : ByteArray)).size ≤ 1048576 := by
      rw [ByteArray.size_append]
      show a.toArray.size + b.toArray.size ≤ _
      rw [List.size_toArray, List.size_toArray, ha.out, hbl.out]; omega
    have hs1 := sum_ok (⟨a.toArray⟩ ++ ⟨b.toArray⟩) w8.drew (show KAt w8.drew from HK.out) habz
    have hs2 := sum_ok (⟨a.toArray⟩ ++ ⟨b.toArray⟩) (w8.alloc (.cells #[.int .u8 0, .int .u8 0, .int .u8 0, .int .u8 0, .int .u8 0, .int .u8 0, .int .u8 0, .int .u8 0, .int .u8 0, .int .u8 0, .int .u8 0, .int .u8 0, .int .u8 0, .int .u8 0, .int .u8 0, .int .u8 0, .int .u8 0, .int .u8 0, .int .u8 0, .int .u8 0, .int .u8 0, .int .u8 0, .int .u8 0, .int .u8 0, .int .u8 0, .int .u8 0, .int .u8 0, .int .u8 0, .int .u8 0, .int .u8 0, .int .u8 0, .int .u8 0] 24)).drew (HK.out.below hbz) habz
    rw [hab] at hs1 hs2
    have hpr := fun (W : World) (hk : KAt W) => pair_calls a b ha.out hbl.out W hk
    have hDl := sumL_len (a ++ b)
    generalize sumL (a ++ b) = D at hs1 hs2 hpr hDl
    have heqd : ∀ v : World, (Op.equalIn 10000 24 (.agg (Lib.byteCells D).toArray) (.agg (Lib.byteCells D).toArray)).run Tryd.prog v = .ok true v := fun v => by rw [eq32 v D D hDl hDl]; simp
    have hlt : (9223372036854775807 < a.length + b.length) = False := eq_false (by rw [ha.out, hbl.out]; omega)
    have hcl : (Lib.byteCells D).length = 32 := by rw [Lib.byteCells, List.length_map, hDl]
    replace hs1 := Lib.hid hs1
    replace hs2 := Lib.hid hs2
    replace hpr := Lib.hid hpr
    replace hDl := Lib.hid hDl
    replace heqd := Lib.hid heqd
    replace hab := Lib.hid hab
    replace habz := Lib.hid habz
    clear hbz
    go_cut [12, 13] from 57 to 65 (fun p q wx => ∃ b12 : Nat, p = .pointer (some ⟨b12, 0, none⟩) ∧ q = .int .i64 0 ∧ Hid (Fin7 w a b D b12 wx))
    case first =>
      go_region_law (first
        | (go_simp; go_at_call 13; refine hs1.out.mono ?_; rintro e w9 ⟨rfl, hb⟩; have hF := Lib.hid (fin7A (D := D) HB.out HA.out HC.out HK.out hb); have hst := storeA (w9 := w9) hDl.out; clear hb)
        | (go_simp; go_at_call 13; refine hs2.out.mono ?_; rintro e w9 ⟨rfl, hb⟩; have hF := Lib.hid (fin7B (D := D) HB.out HA.out HC.out HK.out hb); have hst := storeB hDl.out hb; clear hb))
      all_goals
        clear cx cy cx2 cy2 hlt hst hs1 hs2
        generalize World.setRow _ _ _ = W at hF ⊢
        go_wp2_with fail
        go_meet
        exact ⟨_, rfl, rfl, hF⟩
    case rest =>
      obtain ⟨b12, rfl, rfl, hF⟩ := hcut
      rename_i wc
      clear cx cy cx2 cy2 hlt hs1 hs2 HA HC HB HK
      go_wp2_with fail
      have n1 := DigAt.range (v := wc.drew) hF.out.da
      have n2 := DigAt.range (v := wc.drew) hF.out.db
      have n3 := DigAt.range (v := wc.drew) hF.out.d12
      have hud := und_dig
      have hia := info_dig ha.out
      have hib := info_dig hbl.out
      have hid := info_dig hDl.out
      have heqo := heqd.out
      have hp8 := Lib.hid (hpr.out wc.drew (show KAt wc.drew from hF.out.k))
      have hS0 : (fun v : World => v.rangeAt w.heap.size 0 (Lib.byteCells a) ∧ v.rangeAt (w.heap.size + 1) 0 (Lib.byteCells b) ∧ v.rangeAt b12 0 (Lib.byteCells D)) wc.drew := ⟨n1, n2, n3⟩
      refine wp_region_held (S := fun v : World => v.rangeAt w.heap.size 0 (Lib.byteCells a) ∧ v.rangeAt (w.heap.size + 1) 0 (Lib.byteCells b) ∧ v.rangeAt b12 0 (Lib.byteCells D)) (by kernel_rfl) ?_
      change wpAnyH _ _ _ _ _ _ _ _ wc.drew
      refine wpAnyH_take (i := 0) (v := ?_) rfl (by kernel_rfl) (by kernel_rfl) (by kernel_rfl) (fun _ _ _ h => h) (Or.inl ⟨by rfl, ?_⟩) (by assumption) ?_
      rotate_left
      · intro v _; go_simp; first | done | with_reducible rfl
      rotate_left
      simp only [Act.put, List.setIfInBounds_toArray, List.set_cons_zero, List.set_cons_succ]
      refine wpAnyH_take (i := 1) (v := ?_) rfl (by kernel_rfl) (by kernel_rfl) (by kernel_rfl) (fun _ _ _ h => h) (Or.inl ⟨by rfl, ?_⟩) (by assumption) ?_
      rotate_left
      · intro v _; go_simp; first | done | with_reducible rfl
      rotate_left
      simp only [Act.put, List.setIfInBounds_toArray, List.set_cons_zero, List.set_cons_succ]
      refine wpAnyH_take (i := 2) (v := ?_) rfl (by kernel_rfl) (by kernel_rfl) (by kernel_rfl) (fun _ _ _ h => h) (Or.inl ⟨by rfl, ?_⟩) (by assumption) ?_
      rotate_left
      · intro v _; go_simp; first | done | with_reducible rfl
      rotate_left
      simp only [Act.put, List.setIfInBounds_toArray, List.set_cons_zero, List.set_cons_succ]
      refine wpAnyH_take (i := 3) (v := _) rfl (by kernel_rfl) (by kernel_rfl) (by kernel_rfl) (fun _ _ _ h => h) (yieldsIf_load_mid (by rfl) 24 (.tmp 3) rfl w.heap.size 0 rfl (Lib.byteCells a) (.array 32 5) (fun _ h => h.1) hud rfl hia) (by assumption) ?_
      simp only [Act.put, List.setIfInBounds_toArray, List.set_cons_zero, List.set_cons_succ]
      refine wpAnyH_take (i := 4) (v := _) rfl (by kernel_rfl) (by kernel_rfl) (by kernel_rfl) (fun _ _ _ h => h) (yieldsIf_load_mid (by rfl) 24 (.tmp 4) rfl (w.heap.size + 1) 0 rfl (Lib.byteCells b) (.array 32 5) (fun _ h => h.2.1) hud rfl hib) (by assumption) ?_
      simp only [Act.put, List.setIfInBounds_toArray, List.set_cons_zero, List.set_cons_succ]
      refine wpAnyH_take (i := 6) (v := _) rfl (by kernel_rfl) (by kernel_rfl) (by kernel_rfl) (fun _ _ _ h => h) (yieldsIf_load_mid (by rfl) 24 (.tmp 12) rfl b12 0 rfl (Lib.byteCells D) (.array 32 5) (fun _ h => h.2.2) hud rfl hid) (by assumption) ?_
      simp only [Act.put, List.setIfInBounds_toArray, List.set_cons_zero, List.set_cons_succ]
      refine wpAnyH_all (rs := [5]) (by kernel_rfl) (by simp) ?_
      intro i hi
      simp only [List.mem_cons, List.not_mem_nil, or_false] at hi
      subst hi
      refine wpOp_wp rfl (by rfl) ?_
      go_simp
      refine hp8.out.mono ?_
      rintro e w10 ⟨rfl, hb⟩
      have hBe := Lib.hid (hF.out.below.drew.trans (Below.mono hb hF.out.below.size))
      refine ⟨⟨(DigAt.below (show DigAt w.heap.size a wc.drew from hF.out.da) hb).range, (DigAt.below (show DigAt (w.heap.size + 1) b wc.drew from hF.out.db) hb).range, (DigAt.below (show DigAt b12 D wc.drew from hF.out.d12) hb).range⟩, ?_⟩
      have hS1 : (fun v : World => v.rangeAt w.heap.size 0 (Lib.byteCells a) ∧ v.rangeAt (w.heap.size + 1) 0 (Lib.byteCells b) ∧ v.rangeAt b12 0 (Lib.byteCells D)) w10 := ⟨(DigAt.below (show DigAt w.heap.size a wc.drew from hF.out.da) hb).range, (DigAt.below (show DigAt (w.heap.size + 1) b wc.drew from hF.out.db) hb).range, (DigAt.below (show DigAt b12 D wc.drew from hF.out.d12) hb).range⟩
      clear hb hS0
      try simp only [Act.put, List.setIfInBounds_toArray, List.set_cons_zero, List.set_cons_succ]
      refine wpAnyH_take (i := 7) (v := ?_) rfl (by kernel_rfl) (by kernel_rfl) (by kernel_rfl) (fun _ _ _ h => h) (Or.inl ⟨by rfl, ?_⟩) (by assumption) ?_
      rotate_left
      · intro v _; go_simp; first | done | with_reducible rfl
      rotate_left
      simp only [Act.put, List.setIfInBounds_toArray, List.set_cons_zero, List.set_cons_succ]
      refine wpAnyH_take (i := 8) (v := ?_) rfl (by kernel_rfl) (by kernel_rfl) (by kernel_rfl) (fun _ _ _ h => h) (Or.inl ⟨by rfl, ?_⟩) (by assumption) ?_
      rotate_left
      · intro v _; go_simp; first | done | with_reducible rfl
      rotate_left
      simp only [Act.put, List.setIfInBounds_toArray, List.set_cons_zero, List.set_cons_succ]
      refine wpAnyH_take (i := 9) (v := ?_) rfl (by kernel_rfl) (by kernel_rfl) (by kernel_rfl) (fun _ _ _ h => h) (Or.inl ⟨by rfl, ?_⟩) (by assumption) ?_
      rotate_left
      · intro v _; go_simp; first | done | with_reducible rfl
      rotate_left
      simp only [Act.put, List.setIfInBounds_toArray, List.set_cons_zero, List.set_cons_succ]
      refine wpAnyH_done (by kernel_rfl) ?_ _
      go_wp2_with fail
      go_ret
      exact ⟨rfl, hBe.out⟩
  · have hpv : parseV x = .tuple #[zeroDig, .int .i64 3] := by unfold parseV; rw [if_neg hP]
    rw [hpv]
    clear hpv
    replace hP := Lib.hid hP
    unfold zeroDig
    go_upto_region 5 with (refine wpList_store_dig rfl (.tmp 10) (.tmp 29) rfl w5.heap.size rfl (List.replicate 32 0) z32_len rfl (Lib.byteCells (List.replicate 32 0)).toArray 24 (heap_alloc_last _ _) zrow_size ?_; intro w6 h6 _ hB6; have hb6 : Below w5.heap.size w5 w6 := hB6 ((Below.refl _ _).alloc (Nat.le_refl _) _) (Nat.le_refl _))
    replace HA : Hid (DigAt w.heap.size a w6) := Lib.hid (HA.out.below hb6)
    replace HC : Hid (DigAt (w.heap.size + 1) b w6) := Lib.hid (HC.out.below hb6)
    replace HK : Hid (KAt w6) := Lib.hid (HK.out.below hb6)
    replace HB : Hid (Below w.heap.size w w6) := Lib.hid (HB.out.trans (Below.mono hb6 HB.out.size))
    replace H8 := Lib.hid (H8.out.below hb6)
    clear hB6 hb6 h6
    have heqo := heqa.out
    have hszo := hsz.out
    go_wp2_with (first | (refine wpList_load_digG (o := ⟨some 34, _, _, _, _, _⟩) rfl (.tmp 8) rfl b8 rfl a ha.out _ _ H8.out ?_) | (refine wpList_load_digG (o := ⟨some 35, _, _, _, _, _⟩) rfl (.tmp 3) rfl w.heap.size rfl a ha.out _ _ HA.out ?_))
    clear heqo hszo
    refine (alive_calls w6 HK.out).mono ?_
    rintro e w8 ⟨rfl, hb⟩
    replace HA : Hid (DigAt w.heap.size a w8) := Lib.hid (HA.out.below hb)
    replace HC : Hid (DigAt (w.heap.size + 1) b w8) := Lib.hid (HC.out.below hb)
    replace HK : Hid (KAt w8) := Lib.hid (HK.out.below hb)
    replace HB : Hid (Below w.heap.size w w8) := Lib.hid (HB.out.trans (Below.mono hb HB.out.size))
    clear hb
    go_upto_region 7 with fail
    clear H8 heqa
    try clear H10 hback hyl
    have cx := conv_dig (w := w8.drew) HA.out ha.out
    have cy := conv_dig (w := w8.drew) HC.out hbl.out
    have hbz : Below w8.heap.size w8 (w8.alloc (.cells #[.int .u8 0, .int .u8 0, .int .u8 0, .int .u8 0, .int .u8 0, .int .u8 0, .int .u8 0, .int .u8 0, .int .u8 0, .int .u8 0, .int .u8 0, .int .u8 0, .int .u8 0, .int .u8 0, .int .u8 0, .int .u8 0, .int .u8 0, .int .u8 0, .int .u8 0, .int .u8 0, .int .u8 0, .int .u8 0, .int .u8 0, .int .u8 0, .int .u8 0, .int .u8 0, .int .u8 0, .int .u8 0, .int .u8 0, .int .u8 0, .int .u8 0, .int .u8 0] 24)).drew := ((Below.refl _ _).alloc (Nat.le_refl _) _).drew
    have cx2 := conv_dig (w := (w8.alloc (.cells #[.int .u8 0, .int .u8 0, .int .u8 0, .int .u8 0, .int .u8 0, .int .u8 0, .int .u8 0, .int .u8 0, .int .u8 0, .int .u8 0, .int .u8 0, .int .u8 0, .int .u8 0, .int .u8 0, .int .u8 0, .int .u8 0, .int .u8 0, .int .u8 0, .int .u8 0, .int .u8 0, .int .u8 0, .int .u8 0, .int .u8 0, .int .u8 0, .int .u8 0, .int .u8 0, .int .u8 0, .int .u8 0, .int .u8 0, .int .u8 0, .int .u8 0, .int .u8 0] 24)).drew) (HA.out.below hbz) ha.out
    have cy2 := conv_dig (w := (w8.alloc (.cells #[.int .u8 0, .int .u8 0, .int .u8 0, .int .u8 0, .int .u8 0, .int .u8 0, .int .u8 0, .int .u8 0, .int .u8 0, .int .u8 0, .int .u8 0, .int .u8 0, .int .u8 0, .int .u8 0, .int .u8 0, .int .u8 0, .int .u8 0, .int .u8 0, .int .u8 0, .int .u8 0, .int .u8 0, .int .u8 0, .int .u8 0, .int .u8 0, .int .u8 0, .int .u8 0, .int .u8 0, .int .u8 0, .int .u8 0, .int .u8 0, .int .u8 0, .int .u8 0] 24)).drew) (HC.out.below hbz) hbl.out
    have hab : ((⟨a.toArray⟩ ++ ⟨b.toArray⟩ : ByteArray)).data.toList = a ++ b := by rw [ByteArray.data_append, Array.toList_append]
    have habz : ((⟨a.toArray⟩ ++ ⟨b.toArray⟩ : ByteArray)).size ≤ 1048576 := by
      rw [ByteArray.size_append]
      show a.toArray.size + b.toArray.size ≤ _
      rw [List.size_toArray, List.size_toArray, ha.out, hbl.out]; omega
    have hs1 := sum_ok (⟨a.toArray⟩ ++ ⟨b.toArray⟩) w8.drew (show KAt w8.drew from HK.out) habz
    have hs2 := sum_ok (⟨a.toArray⟩ ++ ⟨b.toArray⟩) (w8.alloc (.cells #[.int .u8 0, .int .u8 0, .int .u8 0, .int .u8 0, .int .u8 0, .int .u8 0, .int .u8 0, .int .u8 0, .int .u8 0, .int .u8 0, .int .u8 0, .int .u8 0, .int .u8 0, .int .u8 0, .int .u8 0, .int .u8 0, .int .u8 0, .int .u8 0, .int .u8 0, .int .u8 0, .int .u8 0, .int .u8 0, .int .u8 0, .int .u8 0, .int .u8 0, .int .u8 0, .int .u8 0, .int .u8 0, .int .u8 0, .int .u8 0, .int .u8 0, .int .u8 0] 24)).drew (HK.out.below hbz) habz
    rw [hab] at hs1 hs2
    have hpr := fun (W : World) (hk : KAt W) => pair_calls a b ha.out hbl.out W hk
    have hDl := sumL_len (a ++ b)
    generalize sumL (a ++ b) = D at hs1 hs2 hpr hDl
    have heqd : ∀ v : World, (Op.equalIn 10000 24 (.agg (Lib.byteCells D).toArray) (.agg (Lib.byteCells D).toArray)).run Tryd.prog v = .ok true v := fun v => by rw [eq32 v D D hDl hDl]; simp
    have hlt : (9223372036854775807 < a.length + b.length) = False := eq_false (by rw [ha.out, hbl.out]; omega)
    have hcl : (Lib.byteCells D).length = 32 := by rw [Lib.byteCells, List.length_map, hDl]
    replace hs1 := Lib.hid hs1
    replace hs2 := Lib.hid hs2
    replace hpr := Lib.hid hpr
    replace hDl := Lib.hid hDl
    replace heqd := Lib.hid heqd
    replace hab := Lib.hid hab
    replace habz := Lib.hid habz
    clear hbz
    go_cut [12, 13] from 57 to 65 (fun p q wx => ∃ b12 : Nat, p = .pointer (some ⟨b12, 0, none⟩) ∧ q = .int .i64 0 ∧ Hid (Fin7 w a b D b12 wx))
    case first =>
      go_region_law (first
        | (go_simp; go_at_call 13; refine hs1.out.mono ?_; rintro e w9 ⟨rfl, hb⟩; have hF := Lib.hid (fin7A (D := D) HB.out HA.out HC.out HK.out hb); have hst := storeA (w9 := w9) hDl.out; clear hb)
        | (go_simp; go_at_call 13; refine hs2.out.mono ?_; rintro e w9 ⟨rfl, hb⟩; have hF := Lib.hid (fin7B (D := D) HB.out HA.out HC.out HK.out hb); have hst := storeB hDl.out hb; clear hb))
      all_goals
        clear cx cy cx2 cy2 hlt hst hs1 hs2
        generalize World.setRow _ _ _ = W at hF ⊢
        go_wp2_with fail
        go_meet
        exact ⟨_, rfl, rfl, hF⟩
    case rest =>
      obtain ⟨b12, rfl, rfl, hF⟩ := hcut
      rename_i wc
      clear cx cy cx2 cy2 hlt hs1 hs2 HA HC HB HK
      go_wp2_with fail
      have n1 := DigAt.range (v := wc.drew) hF.out.da
      have n2 := DigAt.range (v := wc.drew) hF.out.db
      have n3 := DigAt.range (v := wc.drew) hF.out.d12
      have hud := und_dig
      have hia := info_dig ha.out
      have hib := info_dig hbl.out
      have hid := info_dig hDl.out
      have heqo := heqd.out
      have hp8 := Lib.hid (hpr.out wc.drew (show KAt wc.drew from hF.out.k))
      have hS0 : (fun v : World => v.rangeAt w.heap.size 0 (Lib.byteCells a) ∧ v.rangeAt (w.heap.size + 1) 0 (Lib.byteCells b) ∧ v.rangeAt b12 0 (Lib.byteCells D)) wc.drew := ⟨n1, n2, n3⟩
      refine wp_region_held (S := fun v : World => v.rangeAt w.heap.size 0 (Lib.byteCells a) ∧ v.rangeAt (w.heap.size + 1) 0 (Lib.byteCells b) ∧ v.rangeAt b12 0 (Lib.byteCells D)) (by kernel_rfl) ?_
      change wpAnyH _ _ _ _ _ _ _ _ wc.drew
      refine wpAnyH_take (i := 0) (v := ?_) rfl (by kernel_rfl) (by kernel_rfl) (by kernel_rfl) (fun _ _ _ h => h) (Or.inl ⟨by rfl, ?_⟩) (by assumption) ?_
      rotate_left
      · intro v _; go_simp; first | done | with_reducible rfl
      rotate_left
      simp only [Act.put, List.setIfInBounds_toArray, List.set_cons_zero, List.set_cons_succ]
      refine wpAnyH_take (i := 1) (v := ?_) rfl (by kernel_rfl) (by kernel_rfl) (by kernel_rfl) (fun _ _ _ h => h) (Or.inl ⟨by rfl, ?_⟩) (by assumption) ?_
      rotate_left
      · intro v _; go_simp; first | done | with_reducible rfl
      rotate_left
      simp only [Act.put, List.setIfInBounds_toArray, List.set_cons_zero, List.set_cons_succ]
      refine wpAnyH_take (i := 2) (v := ?_) rfl (by kernel_rfl) (by kernel_rfl) (by kernel_rfl) (fun _ _ _ h => h) (Or.inl ⟨by rfl, ?_⟩) (by assumption) ?_
      rotate_left
      · intro v _; go_simp; first | done | with_reducible rfl
      rotate_left
      simp only [Act.put, List.setIfInBounds_toArray, List.set_cons_zero, List.set_cons_succ]
      refine wpAnyH_take (i := 3) (v := _) rfl (by kernel_rfl) (by kernel_rfl) (by kernel_rfl) (fun _ _ _ h => h) (yieldsIf_load_mid (by rfl) 24 (.tmp 3) rfl w.heap.size 0 rfl (Lib.byteCells a) (.array 32 5) (fun _ h => h.1) hud rfl hia) (by assumption) ?_
      simp only [Act.put, List.setIfInBounds_toArray, List.set_cons_zero, List.set_cons_succ]
      refine wpAnyH_take (i := 4) (v := _) rfl (by kernel_rfl) (by kernel_rfl) (by kernel_rfl) (fun _ _ _ h => h) (yieldsIf_load_mid (by rfl) 24 (.tmp 4) rfl (w.heap.size + 1) 0 rfl (Lib.byteCells b) (.array 32 5) (fun _ h => h.2.1) hud rfl hib) (by assumption) ?_
      simp only [Act.put, List.setIfInBounds_toArray, List.set_cons_zero, List.set_cons_succ]
      refine wpAnyH_take (i := 6) (v := _) rfl (by kernel_rfl) (by kernel_rfl) (by kernel_rfl) (fun _ _ _ h => h) (yieldsIf_load_mid (by rfl) 24 (.tmp 12) rfl b12 0 rfl (Lib.byteCells D) (.array 32 5) (fun _ h => h.2.2) hud rfl hid) (by assumption) ?_
      simp only [Act.put, List.setIfInBounds_toArray, List.set_cons_zero, List.set_cons_succ]
      refine wpAnyH_all (rs := [5]) (by kernel_rfl) (by simp) ?_
      intro i hi
      simp only [List.mem_cons, List.not_mem_nil, or_false] at hi
      subst hi
      refine wpOp_wp rfl (by rfl) ?_
      go_simp
      refine hp8.out.mono ?_
      rintro e w10 ⟨rfl, hb⟩
      have hBe := Lib.hid (hF.out.below.drew.trans (Below.mono hb hF.out.below.size))
      refine ⟨⟨(DigAt.below (show DigAt w.heap.size a wc.drew from hF.out.da) hb).range, (DigAt.below (show DigAt (w.heap.size + 1) b wc.drew from hF.out.db) hb).range, (DigAt.below (show DigAt b12 D wc.drew from hF.out.d12) hb).range⟩, ?_⟩
      have hS1 : (fun v : World => v.rangeAt w.heap.size 0 (Lib.byteCells a) ∧ v.rangeAt (w.heap.size + 1) 0 (Lib.byteCells b) ∧ v.rangeAt b12 0 (Lib.byteCells D)) w10 := ⟨(DigAt.below (show DigAt w.heap.size a wc.drew from hF.out.da) hb).range, (DigAt.below (show DigAt (w.heap.size + 1) b wc.drew from hF.out.db) hb).range, (DigAt.below (show DigAt b12 D wc.drew from hF.out.d12) hb).range⟩
      clear hb hS0
      try simp only [Act.put, List.setIfInBounds_toArray, List.set_cons_zero, List.set_cons_succ]
      refine wpAnyH_take (i := 7) (v := ?_) rfl (by kernel_rfl) (by kernel_rfl) (by kernel_rfl) (fun _ _ _ h => h) (Or.inl ⟨by rfl, ?_⟩) (by assumption) ?_
      rotate_left
      · intro v _; go_simp; first | done | with_reducible rfl
      rotate_left
      simp only [Act.put, List.setIfInBounds_toArray, List.set_cons_zero, List.set_cons_succ]
      refine wpAnyH_take (i := 8) (v := ?_) rfl (by kernel_rfl) (by kernel_rfl) (by kernel_rfl) (fun _ _ _ h => h) (Or.inl ⟨by rfl, ?_⟩) (by assumption) ?_
      rotate_left
      · intro v _; go_simp; first | done | with_reducible rfl
      rotate_left
      simp only [Act.put, List.setIfInBounds_toArray, List.set_cons_zero, List.set_cons_succ]
      refine wpAnyH_take (i := 9) (v := ?_) rfl (by kernel_rfl) (by kernel_rfl) (by kernel_rfl) (fun _ _ _ h => h) (Or.inl ⟨by rfl, ?_⟩) (by assumption) ?_
      rotate_left
      · intro v _; go_simp; first | done | with_reducible rfl
      rotate_left
      simp only [Act.put, List.setIfInBounds_toArray, List.set_cons_zero, List.set_cons_succ]
      refine wpAnyH_done (by kernel_rfl) ?_ _
      go_wp2_with fail
      go_ret
      exact ⟨rfl, hBe.out⟩
end Go.Proofs.YtldpnmebjnkjeaaDoor.Sha
