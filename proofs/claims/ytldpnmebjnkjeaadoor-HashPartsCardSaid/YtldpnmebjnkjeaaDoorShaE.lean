import Derived.Test.YtldpnmebjnkjeaaDoorShaF
import Derived.Test.YtldpnmebjnkjeaaDoorByR
namespace Go.Proofs.YtldpnmebjnkjeaaDoor.Sha
open Go.RowKit Go.Proofs.YtldpnmebjnkjeaaDoorW.PrintWords
set_option linter.unusedVariables false
set_option linter.unusedSimpArgs false

def tailN (n j : Nat) : List UInt8 := 128 :: List.replicate ((119 - n % 64) % 64) 0 ++ (be8 (8 * n)).take j
def bt8 (n j : Nat) : UInt8 := UInt8.ofNat (8 * n / 2 ^ (56 - 8 * j))
theorem bt8_eq (n j : Nat) : (n : Int) * 8 / 2 ^ (56 - 8 * j) % 256 = ((bt8 n j).toNat : Int) := by
  unfold bt8
  rw [UInt8.toNat_ofNat', Nat.mul_comm 8 n, Int.natCast_emod, Int.natCast_ediv, Int.natCast_mul, Int.natCast_pow]
  rfl
theorem tailN_len (n j : Nat) (h : j ≤ 8) : (tailN n j).length = 1 + (119 - n % 64) % 64 + j := by simp [tailN, be8]; omega
theorem tailN_next (n j : Nat) (h : j < 8) : tailN n j ++ [bt8 n j] = tailN n (j + 1) := by
  have hl : j < (be8 (8 * n)).length := by simp [be8]; exact h
  unfold tailN
  rw [List.append_assoc, List.take_succ_eq_append_getElem hl]
  congr 2
  simp [be8, bt8]
theorem tailN_all (n : Nat) : tailN n 8 = tailL n := by
  unfold tailN tailL
  rw [List.take_of_length_le (by simp [be8])]
  rfl
theorem set_row {w : World} {g : Nat} {L : List Value} {t : TypeId} {fr : Nat × Nat} (h : w.heap[g]? = some (.cells L.toArray t fr)) (i : Nat) (x : Value) : (w.setCell ⟨g, i, none⟩ x).heap[g]? = some (.cells (L.set i x).toArray t fr) := by
  rw [World.setCell]
  simp only [Array.getElem?_modify, if_true, h, Option.map_some]
  simp
/-- All ten cells of a hash written. -/
theorem set_ten {w : World} {g : Nat} {L : List Value} {t : TypeId} {fr : Nat × Nat} (h : w.heap[g]? = some (.cells L.toArray t fr)) (hl : L.length = 10) (x0 x1 x2 x3 x4 x5 x6 x7 x8 x9 : Value) :
    ((((((((((w.setCell ⟨g, 0, none⟩ x0).setCell ⟨g, 1, none⟩ x1).setCell ⟨g, 2, none⟩ x2).setCell ⟨g, 3, none⟩ x3).setCell ⟨g, 4, none⟩ x4).setCell ⟨g, 5, none⟩ x5).setCell ⟨g, 6, none⟩ x6).setCell ⟨g, 7, none⟩ x7).setCell ⟨g, 8, none⟩ x8).setCell ⟨g, 9, none⟩ x9).heap[g]? = some (.cells #[x0, x1, x2, x3, x4, x5, x6, x7, x8, x9] t fr) := by
  rw [set_row (set_row (set_row (set_row (set_row (set_row (set_row (set_row (set_row (set_row h 0 x0) 1 x1) 2 x2) 3 x3) 4 x4) 5 x5) 6 x6) 7 x7) 8 x8) 9 x9]
  match L, hl with
  | [a0, a1, a2, a3, a4, a5, a6, a7, a8, a9], _ => rfl
/-- The first i bytes of the digest. -/
def dN (u : V8) (i : Nat) : List UInt8 := (digL u).take i ++ List.replicate (32 - i) 0
theorem dN_len (u : V8) (i : Nat) (h : i ≤ 32) : (dN u i).length = 32 := by simp [dN, digL]; omega
theorem dN_next (u : V8) (i : Nat) (h : i < 32) : (dN u i).set i (dig u i) = dN u (i + 1) := by
  have hl : i < (digL u).length := by rw [digL_len]; exact h
  unfold dN
  rw [List.set_append_right _ _ (by rw [List.length_take]; omega), List.length_take, show i - min i (digL u).length = 0 by omega, show 32 - i = (32 - (i + 1)) + 1 by omega, List.replicate_succ, List.set_cons_zero, List.take_succ_eq_append_getElem hl, List.append_assoc]
  congr 2
  simp [digL]
theorem dN_all (u : V8) : dN u 32 = digL u := by
  unfold dN
  rw [List.take_of_length_le (by rw [digL_len]; omega)]
  simp
theorem dN_zero (u : V8) : dN u 0 = List.replicate 32 0 := rfl
theorem dN_cells (u : V8) : (Lib.byteCells (dN u 0)).toArray = Array.replicate 32 (.int .u8 0) := by rw [dN_zero]; rfl
theorem dig_eq (u : V8) (i : Nat) : ((u.list.getD (i / 4) 0).toNat : Int) / 2 ^ (24 - i % 4 * 8) % 256 = ((dig u i).toNat : Int) := by
  unfold dig
  rw [UInt8.toNat_ofNat', Nat.mul_comm 8, Int.natCast_emod, Int.natCast_ediv, Int.natCast_pow]
  rfl
theorem repeat_one (b : UInt8) : ∀ n, Lib.repeatL (⟨#[b]⟩ : ByteArray).data.toList n = List.replicate n b := by
  intro n
  induction n with
  | zero => rfl
  | succ n ih => rw [List.replicate_succ, ← ih]; rfl
set_option maxHeartbeats 8000000 in
set_option maxRecDepth 100000 in
theorem ended_calls (v : V8) (rest : ByteArray) (n : Nat) (w : World) (hK : KAt w) (hr : rest.size ≤ 1048576) (hn : n ≤ 4294967296) :
    Calls Tryd.prog 52 #[hashV v rest n] w fun e w' => e = .returned (.agg (Lib.byteCells (endP v rest.data.toList n)).toArray) ∧ Below w.heap.size w w' := by
  unfold hashV
  replace hK := Lib.hid hK
  go_enter Tryd.func52, Tryd.ntmps52
  go_wp2_with fail
  have hmz : ((119 - (n : Int)) % 64) = (((119 - n % 64) % 64 : Nat) : Int) := by omega
  rw [hmz]
  clear hmz
  generalize hw1 : (w.alloc _).alloc _ = w1
  have HX : Hid (RowX 31 w.heap.size v.list [.string rest, .int .i64 n] w1) := by
    rw [← hw1]; refine Lib.hid ?_
    unfold RowX
    rw [Below.heap_alloc _ _ _ (by simp)]
    exact heap_alloc_last _ _
  have HZ : Hid (w1.heap[w.heap.size + 1]? = some (.cells (Array.replicate 32 (.int .u8 0)) 24 (0, 0))) := by
    rw [← hw1]; exact heap_at1 _ _ _
  have HB : Hid (Below w.heap.size w w1) := by
    rw [← hw1]; exact Lib.hid (((Below.refl _ _).alloc (Nat.le_refl _) _).alloc (by simp) _)
  have HS : Hid (w.heap.size + 2 ≤ w1.heap.size) := by rw [← hw1]; exact Lib.hid (by simp)
  clear hw1
  refine (Tryd.strings_Repeat ⟨#[0]⟩ ((119 - n % 64) % 64) w1 (by omega) (by show 1 * _ ≤ _; omega)).mono ?_
  rintro e w2 ⟨rfl, hb⟩
  replace HX : Hid (RowX 31 w.heap.size v.list [.string rest, .int .i64 n] w2) := Lib.hid (blk_below HX.out hb)
  replace HZ : Hid (w2.heap[w.heap.size + 1]? = some (.cells (Array.replicate 32 (.int .u8 0)) 24 (0, 0))) := Lib.hid (blk_below HZ.out hb)
  replace HB : Hid (Below w.heap.size w w2) := Lib.hid (HB.out.trans (Below.mono hb HB.out.size))
  replace HS : Hid (w.heap.size + 2 ≤ w2.heap.size) := Lib.hid (Nat.le_trans HS.out hb.size)
  clear hb w1
  have hrz : (Lib.repeatL (⟨#[0]⟩ : ByteArray).data.toList ((119 - n % 64) % 64)) = List.replicate ((119 - n % 64) % 64) 0 := repeat_one _ _
  rw [hrz]
  clear hrz
  generalize hZ : (⟨(List.replicate ((119 - n % 64) % 64) (0 : UInt8)).toArray⟩ : ByteArray) = zs
  have hzl : zs.size = (119 - n % 64) % 64 := by rw [← hZ]; simp [ByteArray.size]
  have hlt : (9223372036854775807 < ((⟨#[128]⟩ : ByteArray).size : Int) + (zs.size : Int)) = False := eq_false (by rw [show ((⟨#[128]⟩ : ByteArray).size) = 1 from rfl]; omega)
  have hz1 : zs.size ≤ 64 := by omega
  replace hzl := Lib.hid hzl
  replace hZ := Lib.hid hZ
  go_wp2_with (refine wpList_convert_bytes (o := ⟨some 19, _, _, _, _, _⟩) rfl (.tmp 18) rfl (⟨#[128]⟩ ++ zs) rfl ?_; intro v4 w3 hown hb3)
  have hT0 : (⟨#[128]⟩ ++ zs : ByteArray).data.toList = 128 :: List.replicate ((119 - n % 64) % 64) 0 := by
    rw [ByteArray.data_append, Array.toList_append, ← hZ.out]
    rfl
  rw [hT0, show (128 :: List.replicate ((119 - n % 64) % 64) 0 : List UInt8) = tailN n 0 by simp [tailN]] at hown
  replace hT0 := Lib.hid hT0
  replace HX : Hid (RowX 31 w.heap.size v.list [.string rest, .int .i64 n] w3) := Lib.hid (blk_below HX.out hb3)
  replace HZ : Hid (w3.heap[w.heap.size + 1]? = some (.cells (Array.replicate 32 (.int .u8 0)) 24 (0, 0))) := Lib.hid (blk_below HZ.out hb3)
  replace HB : Hid (Below w.heap.size w w3) := Lib.hid (HB.out.trans (Below.mono hb3 HB.out.size))
  have HO : Hid (OB (w.heap.size + 2) v4 (tailN n 0) w3) := Lib.hid (hown.out.lower HS.out)
  replace HS : Hid (w.heap.size + 2 ≤ w3.heap.size) := Lib.hid (Nat.le_trans HS.out hb3.size)
  clear hb3 hown hlt
  go_loopw [4, 20] (fun x i wr => ∃ j : Nat, j ≤ 8 ∧ i = .int .i64 j ∧ Hid (OB (w.heap.size + 2) x (tailN n j) wr) ∧ Hid (RowX 31 w.heap.size v.list [.string rest, .int .i64 n] wr) ∧ Hid (wr.heap[w.heap.size + 1]? = some (.cells (Array.replicate 32 (.int .u8 0)) 24 (0, 0))) ∧ Hid (Below w.heap.size w wr) ∧ Hid (w.heap.size + 2 ≤ wr.heap.size)) (fun _ i _ => 8 - (intOf i).toNat)
  case atStart => exact ⟨0, by omega, rfl, HO, HX, HZ, HB, HS⟩
  case round =>
    clear HO HX HZ HB HS
    rename_i x4 _ _
    obtain ⟨j, hj, rfl, HO, HX, HZ, HB, HS⟩ := hrel
    by_cases h8 : j < 8
    · have k8 : (j : Int) < 8 := by omega
      have hS := HS.out
      have hcb : (n : Int) * 8 / 2 ^ (56 - 8 * j) % 256 = ((bt8 n j).toNat : Int) := bt8_eq n j
      have hlb : (tailN n j).length ≤ 1073741824 := by rw [tailN_len n j (by omega)]; omega
      have Hc : (wr.alloc (.cells #[.int .u8 ((n : Int) * 8 / 2 ^ (56 - 8 * j) % 256)] 5)).cell? ⟨wr.heap.size, 0, none⟩ = some (.int .u8 ((bt8 n j).toNat : Int)) := by
        rw [hcb, cell_of_row _ _ _ _ _ _ (heap_alloc_last _ _)]; rfl
      replace Hc := Lib.hid Hc
      clear hcb
      replace hlb := Lib.hid hlb
      go_wp2_with (refine wpList_append_byte (o := ⟨some 31, _, _, _, _, _⟩) rfl (.tmp 23) (.tmp 30) rfl rfl (HO.out.alloc _) ⟨wr.heap.size, 0, none⟩ rfl (bt8 n j) Hc.out (by simp; omega) hlb.out ?_; intro v5 w5 hown5 hb5)
      go_roundw
      case rel =>
        rw [tailN_next n j h8] at hown5
        have hba : Below (w.heap.size + 2) wr w5 := ((Below.refl _ _).alloc hS _).trans hb5
        refine ⟨j + 1, by omega, by go_num, hown5, Lib.hid ?_, Lib.hid ?_, Lib.hid (HB.out.trans (hba.mono (by omega))), Lib.hid (Nat.le_trans hS hba.size)⟩
        · unfold RowX; rw [hba.block _ (by omega)]; exact HX.out
        · rw [hba.block _ (by omega)]; exact HZ.out
      case measure => simp [intOf]; omega
    · obtain rfl : j = 8 := by omega
      clear hj h8
      have hT8 : tailN n 8 = tailL n := tailN_all n
      rw [hT8] at HO
      have hcs := HO.out.string
      obtain ⟨g4, c4, rfl⟩ := HO.out.slice
      have x0 : wr.cell? ⟨w.heap.size, 0, none⟩ = some (.int .u32 (v.a.toNat : Int)) := HX.out.cell 0 (by show 0 < 8; omega)
      have x1 : wr.cell? ⟨w.heap.size, 1, none⟩ = some (.int .u32 (v.b.toNat : Int)) := HX.out.cell 1 (by show 1 < 8; omega)
      have x2 : wr.cell? ⟨w.heap.size, 2, none⟩ = some (.int .u32 (v.c.toNat : Int)) := HX.out.cell 2 (by show 2 < 8; omega)
      have x3 : wr.cell? ⟨w.heap.size, 3, none⟩ = some (.int .u32 (v.d.toNat : Int)) := HX.out.cell 3 (by show 3 < 8; omega)
      have x4 : wr.cell? ⟨w.heap.size, 4, none⟩ = some (.int .u32 (v.e.toNat : Int)) := HX.out.cell 4 (by show 4 < 8; omega)
      have x5 : wr.cell? ⟨w.heap.size, 5, none⟩ = some (.int .u32 (v.f.toNat : Int)) := HX.out.cell 5 (by show 5 < 8; omega)
      have x6 : wr.cell? ⟨w.heap.size, 6, none⟩ = some (.int .u32 (v.g.toNat : Int)) := HX.out.cell 6 (by show 6 < 8; omega)
      have x7 : wr.cell? ⟨w.heap.size, 7, none⟩ = some (.int .u32 (v.h.toNat : Int)) := HX.out.cell 7 (by show 7 < 8; omega)
      have x8 : wr.cell? ⟨w.heap.size, 8, none⟩ = some (.string rest) := by rw [cell_of_row _ _ _ _ _ _ HX.out]; rfl
      have x9 : wr.cell? ⟨w.heap.size, 9, none⟩ = some (.int .i64 (n : Int)) := by rw [cell_of_row _ _ _ _ _ _ HX.out]; rfl
      have xf := HX.out.f
      go_wp2_with fail
      have hts : (⟨(tailL n).toArray⟩ : ByteArray).size ≤ 4294967296 := by
        have := tailL_len n
        show (tailL n).toArray.size ≤ _
        rw [List.size_toArray]; omega
      replace hts := Lib.hid hts
      refine (fed_calls v rest n ⟨(tailL n).toArray⟩ wr (hK.out.below HB.out) (by omega) hts.out (by omega) (by omega)).mono ?_
      rintro e w6 ⟨rfl, hb⟩
      clear x0 x1 x2 x3 x4 x5 x6 x7 x8 x9 xf hcs
      replace HX : Hid (RowX 31 w.heap.size v.list [.string rest, .int .i64 n] w6) := Lib.hid (blk_below HX.out hb)
      replace HZ : Hid (w6.heap[w.heap.size + 1]? = some (.cells (Array.replicate 32 (.int .u8 0)) 24 (0, 0))) := Lib.hid (blk_below HZ.out hb)
      replace HB : Hid (Below w.heap.size w w6) := Lib.hid (HB.out.trans (Below.mono hb HB.out.size))
      replace HS : Hid (w.heap.size + 2 ≤ w6.heap.size) := Lib.hid (Nat.le_trans HS.out hb.size)
      clear hb HO
      have hE : endP v rest.data.toList n = digL (feedP v (rest.data.toList ++ tailL n)).1 := rfl
      unfold fedV hashV
      rw [show (⟨(tailL n).toArray⟩ : ByteArray).data.toList = tailL n from rfl]
      generalize (feedP v (rest.data.toList ++ tailL n)).2 = r6
      generalize (feedP v (rest.data.toList ++ tailL n)).1 = u at hE ⊢
      generalize (n : Int) + ((⟨(tailL n).toArray⟩ : ByteArray).size : Int) = N6
      replace hE := Lib.hid hE
      have x0 : w6.cell? ⟨w.heap.size, 0, none⟩ = some (.int .u32 (v.a.toNat : Int)) := HX.out.cell 0 (by show 0 < 8; omega)
      have x1 : w6.cell? ⟨w.heap.size, 1, none⟩ = some (.int .u32 (v.b.toNat : Int)) := HX.out.cell 1 (by show 1 < 8; omega)
      have x2 : w6.cell? ⟨w.heap.size, 2, none⟩ = some (.int .u32 (v.c.toNat : Int)) := HX.out.cell 2 (by show 2 < 8; omega)
      have x3 : w6.cell? ⟨w.heap.size, 3, none⟩ = some (.int .u32 (v.d.toNat : Int)) := HX.out.cell 3 (by show 3 < 8; omega)
      have x4 : w6.cell? ⟨w.heap.size, 4, none⟩ = some (.int .u32 (v.e.toNat : Int)) := HX.out.cell 4 (by show 4 < 8; omega)
      have x5 : w6.cell? ⟨w.heap.size, 5, none⟩ = some (.int .u32 (v.f.toNat : Int)) := HX.out.cell 5 (by show 5 < 8; omega)
      have x6 : w6.cell? ⟨w.heap.size, 6, none⟩ = some (.int .u32 (v.g.toNat : Int)) := HX.out.cell 6 (by show 6 < 8; omega)
      have x7 : w6.cell? ⟨w.heap.size, 7, none⟩ = some (.int .u32 (v.h.toNat : Int)) := HX.out.cell 7 (by show 7 < 8; omega)
      have x8 : w6.cell? ⟨w.heap.size, 8, none⟩ = some (.string rest) := by rw [cell_of_row _ _ _ _ _ _ HX.out]; rfl
      have x9 : w6.cell? ⟨w.heap.size, 9, none⟩ = some (.int .i64 (n : Int)) := by rw [cell_of_row _ _ _ _ _ _ HX.out]; rfl
      have xf := HX.out.f
      have hS := HS.out
      go_wp2_with fail
      generalize hwA : World.setCell _ ⟨w.heap.size, 9, none⟩ _ = wA
      have HA : Hid (RowX 31 w.heap.size u.list [.string ⟨r6.toArray⟩, .int .i64 N6] wA) := by
        rw [← hwA]; refine Lib.hid ?_
        exact set_ten HX.out rfl _ _ _ _ _ _ _ _ _ _
      have HBA : Hid (Below w.heap.size w wA) := by
        rw [← hwA]; refine Lib.hid ?_
        repeat (refine Below.setCell ?_ (by simp) _)
        exact HB.out
      have HZA : Hid (wA.heap[w.heap.size + 1]? = some (.cells (Array.replicate 32 (.int .u8 0)) 24 (0, 0))) := by
        rw [← hwA]; refine Lib.hid ?_
        iterate 10 rw [Below.heap_setCell _ _ _ _ (by simp)]
        exact HZ.out
      have hsA : w6.heap.size = wA.heap.size := by rw [← hwA]; simp [World.setCell]
      rw [hsA] at hS ⊢
      clear hwA x0 x1 x2 x3 x4 x5 x6 x7 x8 x9 xf HX HB HZ HS hsA
      replace hS := Lib.hid hS
      generalize hwB : wA.alloc _ = wB
      have HD : Hid (wB.heap[wA.heap.size]? = some (.cells (Lib.byteCells (dN u 0)).toArray 24 (0, 0))) := by
        rw [← hwB, dN_cells]; exact heap_alloc_last _ _
      have hBB : Below wA.heap.size wA wB := by rw [← hwB]; exact (Below.refl _ _).alloc (Nat.le_refl _) _
      have HX : Hid (RowX 31 w.heap.size u.list [.string ⟨r6.toArray⟩, .int .i64 N6] wB) := Lib.hid (blk_below HA.out hBB)
      have HZ : Hid (wB.heap[w.heap.size + 1]? = some (.cells (Array.replicate 32 (.int .u8 0)) 24 (0, 0))) := Lib.hid (blk_below HZA.out hBB)
      have HB : Hid (Below w.heap.size w wB) := Lib.hid (HBA.out.trans (Below.mono hBB HBA.out.size))
      generalize wA.heap.size = bd at HD hS ⊢
      clear hwB hBB HA HBA HZA
      go_loopw [37] (fun i wx => ∃ j : Nat, j ≤ 32 ∧ i = .int .i64 j ∧ Hid (wx.heap[bd]? = some (.cells (Lib.byteCells (dN u j)).toArray 24 (0, 0))) ∧ Hid (RowX 31 w.heap.size u.list [.string ⟨r6.toArray⟩, .int .i64 N6] wx) ∧ Hid (wx.heap[w.heap.size + 1]? = some (.cells (Array.replicate 32 (.int .u8 0)) 24 (0, 0))) ∧ Hid (Below w.heap.size w wx)) (fun i _ => 32 - (intOf i).toNat)
      case atStart => exact ⟨0, by omega, rfl, HD, HX, HZ, HB⟩
      case round =>
        clear HD HX HZ HB
        obtain ⟨j, hj, rfl, HD, HX, HZ, HB⟩ := hrel
        by_cases h32 : j < 32
        · have k32 : (j : Int) < 32 := by omega
          have q0 : (j : Int) / 4 < 8 := by omega
          have c0 := HX.out.cell (j / 4) (by show j / 4 < 8; omega)
          have f0 : ∀ i, wr.frozen? ⟨bd, i, none⟩ = false := fun i => frozen_of_row wr bd i _ _ HD.out
          have hjl : j < (Lib.byteCells (dN u j)).length := by rw [Lib.byteCells, List.length_map, dN_len u j (by omega)]; exact h32
          obtain ⟨y, hy⟩ : ∃ y, wr.cell? ⟨bd, j, none⟩ = some y := ⟨_, by rw [cell_of_row _ _ _ _ _ _ HD.out, List.getElem?_toArray, List.getElem?_eq_getElem hjl]⟩
          have hdg := dig_eq u j
          replace hdg := Lib.hid hdg
          replace hjl := Lib.hid hjl
          generalize hgu : u.list.getD (j / 4) 0 = uj at c0
          replace hgu := Lib.hid hgu
          go_wp2_with fail
          rw [← hgu.out, hdg.out]
          go_roundw
          case rel =>
            refine ⟨j + 1, by omega, by go_num, Lib.hid ?_, Lib.hid ?_, Lib.hid ?_, Lib.hid ?_⟩
            · rw [set_row HD.out j, ← dN_next u j h32]
              simp [Lib.byteCells, List.map_set]
            · unfold RowX; rw [Below.heap_setCell _ _ _ _ (by show _ ≠ bd; have := hS.out; omega)]; exact HX.out
            · rw [Below.heap_setCell _ _ _ _ (by show _ ≠ bd; have := hS.out; omega)]; exact HZ.out
            · exact HB.out.setCell (by show _ ≤ bd; have := hS.out; omega) _
          case measure => simp [intOf]; omega
        · obtain rfl : j = 32 := by omega
          clear hj h32
          rw [dN_all] at HD
          have hl32 := digL_len u
          replace hl32 := Lib.hid hl32
          replace hE := Lib.hid hE.out
          generalize digL u = D at HD hl32 hE
          go_wp2_with (first | (refine wpList_load_dig (o := ⟨some 54, _, _, _, _, _⟩) rfl (.tmp 6) rfl bd rfl D hl32.out _ _ HD.out ?_) | (refine wpList_store_dig rfl (.tmp 2) (.tmp 54) rfl (w.heap.size + 1) rfl D hl32.out rfl _ _ HZ.out (by simp) ?_; intro w9 h9 _ hB9))
          refine bodyPost_ret (v := .agg (Lib.byteCells D).toArray) ?_ rfl ⟨by rw [hE.out], hB9 HB.out (by omega)⟩
          simp [results, Tryd.results52, asAddr, run_load_dig h9.out hl32.out, Act.put]
end Go.Proofs.YtldpnmebjnkjeaaDoor.Sha
