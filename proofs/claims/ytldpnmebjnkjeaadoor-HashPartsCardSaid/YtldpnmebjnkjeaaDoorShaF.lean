import Derived.Test.YtldpnmebjnkjeaaDoorShaK
import Derived.Test.YtldpnmebjnkjeaaDoorShaQ
import Derived.Test.YtldpnmebjnkjeaaDoorShelf
import Derived.ShutString
namespace Go.Proofs.YtldpnmebjnkjeaaDoor.Sha
open Go.RowKit Go.Proofs.YtldpnmebjnkjeaaDoorW.PrintWords
set_option linter.unusedVariables false
set_option linter.unusedSimpArgs false

theorem heap_at1 (w : World) (a b : Obj) : ((w.alloc a).alloc b).heap[w.heap.size + 1]? = some b := by
  have h := heap_alloc_last (w.alloc a) b
  rwa [show (w.alloc a).heap.size = w.heap.size + 1 by simp] at h
namespace Kept
variable {g : Nat} {R : List Value} {w w' w0 : World} {L : List UInt32}
theorem other (h : Kept g R w L w') {k : Nat} (hk : k < w.heap.size) (hne : k ≠ g) : w'.heap[k]? = w.heap[k]? := by
  have hb := h.block k hk
  rw [setRow_other _ _ _ _ hne] at hb
  exact hb
theorem size (h : Kept g R w L w') : w.heap.size ≤ w'.heap.size := by have := Below.size h; simpa using this
theorem below (h : Kept g R w L w') {B : Nat} (hb : Below B w0 w) (hg : B ≤ g) (hB : B ≤ w.heap.size) : Below B w0 w' :=
  (below_setRow hb hg _).trans (Below.mono h hB)
end Kept
theorem clone_calls (s : ByteArray) (w : World) (hlim : s.size ≤ 281474976710656) :
    Calls Tryd.prog 82 #[.string s] w fun e w' => e = .returned (.string s) ∧ Below w.heap.size w w' := by
  go_enter Tryd.func82, Tryd.ntmps82
  go_wp2_with fail
  refine (Tryd.stringslite_Clone s w hlim).mono ?_
  rintro e w' ⟨rfl, hb⟩
  go_wp2_with fail
  go_ret
  exact ⟨rfl, hb⟩
/-- A hash, by value. -/
def hashV (v : V8) (rest : ByteArray) (n : Int) : Value := .agg #[.int .u32 (v.a.toNat : Int), .int .u32 (v.b.toNat : Int), .int .u32 (v.c.toNat : Int), .int .u32 (v.d.toNat : Int), .int .u32 (v.e.toNat : Int), .int .u32 (v.f.toNat : Int), .int .u32 (v.g.toNat : Int), .int .u32 (v.h.toNat : Int), .string rest, .int .i64 n]
/-- What a feed makes. -/
def fedV (v : V8) (rest : ByteArray) (n : Int) (text : ByteArray) : Value :=
  hashV (feedP v (rest.data.toList ++ text.data.toList)).1 ⟨(feedP v (rest.data.toList ++ text.data.toList)).2.toArray⟩ (n + text.size)
theorem bytes_mk (s : ByteArray) : (⟨s.data.toList.toArray⟩ : ByteArray) = s := rfl
/-- What is left to be taken, shut. -/
structure Fd (v u : V8) (all : List UInt8) (s : ByteArray) : Prop where
  eq : feedP u s.data.toList = feedP v all
set_option maxHeartbeats 4000000 in
set_option maxRecDepth 100000 in
theorem fed_calls (v : V8) (rest : ByteArray) (n : Int) (text : ByteArray) (w : World) (hK : KAt w) (hr : rest.size ≤ 4294967296) (ht : text.size ≤ 4294967296) (hn0 : 0 ≤ n) (hn : n ≤ 4294967296) :
    Calls Tryd.prog 54 #[hashV v rest n, .string text] w fun e w' => e = .returned (fedV v rest n text) ∧ Below w.heap.size w w' := by
  unfold fedV hashV
  have hlt : (9223372036854775807 < (rest.size : Int) + (text.size : Int)) = False := by simp; omega
  replace hK := Lib.hid hK
  go_enter Tryd.func54, Tryd.ntmps54
  go_wp2_with fail
  generalize hw1 : (w.alloc _).alloc _ = w1
  have HX : Hid (RowX 31 w.heap.size v.list [.string rest, .int .i64 (n + text.size)] w1) := by
    rw [← hw1]; refine Lib.hid ?_
    unfold RowX
    rw [Below.heap_alloc _ _ _ (by simp)]
    exact heap_alloc_last _ _
  have HZ : Hid (w1.heap[w.heap.size + 1]? = some (.cells [.int .u32 0, .int .u32 0, .int .u32 0, .int .u32 0, .int .u32 0, .int .u32 0, .int .u32 0, .int .u32 0, .string ⟨#[]⟩, .int .i64 0].toArray 31 (0, 0))) := by
    rw [← hw1]; exact heap_at1 _ _ _
  have HB : Hid (Below w.heap.size w w1) := by
    rw [← hw1]; exact Lib.hid (((Below.refl _ _).alloc (Nat.le_refl _) _).alloc (by simp) _)
  have HS : Hid (w.heap.size + 2 ≤ w1.heap.size) := by rw [← hw1]; exact Lib.hid (by simp)
  clear hw1
  have HE : Fd v v (rest.data.toList ++ text.data.toList) (rest ++ text) := ⟨by rw [ByteArray.data_append, Array.toList_append]⟩
  generalize hq : rest.data.toList ++ text.data.toList = all at HE ⊢
  replace hq := Lib.hid hq
  have hsz : (rest ++ text).size ≤ 8589934592 := by rw [ByteArray.size_append]; omega
  generalize rest ++ text = s0 at HE hsz ⊢
  replace hsz := Lib.hid hsz
  generalize hN : n + (text.size : Int) = N at HX ⊢
  replace hN := Lib.hid hN
  replace hlt := Lib.hid hlt
  go_loopw [5] (fun x wr => ∃ (u : V8) (s : ByteArray), x = .string s ∧ Hid (s.size ≤ 8589934592) ∧ Fd v u all s ∧ Hid (RowX 31 w.heap.size u.list [.string rest, .int .i64 N] wr) ∧ Hid (wr.heap[w.heap.size + 1]? = some (.cells [.int .u32 0, .int .u32 0, .int .u32 0, .int .u32 0, .int .u32 0, .int .u32 0, .int .u32 0, .int .u32 0, .string ⟨#[]⟩, .int .i64 0].toArray 31 (0, 0))) ∧ Hid (Below w.heap.size w wr) ∧ Hid (w.heap.size + 2 ≤ wr.heap.size)) (fun x _ => match x with | .string s => s.size | _ => 0)
  case atStart => exact ⟨v, s0, rfl, hsz, HE, HX, HZ, HB, HS⟩
  case round =>
    clear HX HZ HB HS HE hsz
    obtain ⟨u, s, rfl, hsz, HE, HX, HZ, HB, HS⟩ := hrel
    by_cases h64 : 64 ≤ s.size
    · have h64' : (64 : Int) ≤ (s.size : Int) := by omega
      have hs2 : (s.size : Int) ≤ 9223372036854775807 := by have := hsz.out; omega
      have hb64 : (s.extract 0 64).size = 64 := by rw [ByteArray.size_extract]; omega
      replace hb64 := Lib.hid hb64
      go_wp2_with fail
      refine (take_calls w.heap.size u _ _ (s.extract 0 64) hb64.out _ (hK.out.below HB.out) HX.out).mono ?_
      rintro e w2 ⟨rfl, hk⟩
      replace hk := Lib.hid hk
      go_wp2_with fail
      go_roundw
      case rel =>
        have h3 := HS.out
        have hl : s.size = s.data.toList.length := Lib.size_eq s
        refine ⟨_, _, rfl, Lib.hid (by have := hsz.out; rw [ByteArray.size_extract]; omega), ⟨?_⟩, Lib.hid (Kept.row hk.out HX.out (by omega)), Lib.hid ?_, Lib.hid (hk.out.below HB.out (Nat.le_refl _) (by omega)), Lib.hid (by have := hk.out.size; omega)⟩
        · rw [← HE.eq, feedP_ge u s.data.toList (by omega), Lib.extract_data, Lib.extract_data, List.drop_zero, Nat.sub_zero]
          congr 2
          rw [List.take_of_length_le (by rw [List.length_drop]; omega)]
        · rw [hk.out.other (by omega) (by omega)]; exact HZ.out
      case measure => simp; omega
    · have h64' : (s.size : Int) < 64 := by omega
      have hl : s.size = s.data.toList.length := Lib.size_eq s
      have hF : feedP v all = (u, s.data.toList) := by rw [← HE.eq, feedP_lt u _ (by omega)]
      replace hl := Lib.hid hl
      replace hF := Lib.hid hF
      have hs9 := hsz.out
      go_wp2_with fail
      refine (clone_calls s wr (by omega)).mono ?_
      rintro e w2 ⟨rfl, hb⟩
      replace HX : Hid (RowX 31 w.heap.size u.list [.string rest, .int .i64 N] w2) := Lib.hid (blk_below HX.out hb)
      replace HZ : Hid (w2.heap[w.heap.size + 1]? = some (.cells [.int .u32 0, .int .u32 0, .int .u32 0, .int .u32 0, .int .u32 0, .int .u32 0, .int .u32 0, .int .u32 0, .string ⟨#[]⟩, .int .i64 0].toArray 31 (0, 0))) := Lib.hid (blk_below HZ.out hb)
      replace HB : Hid (Below w.heap.size w w2) := Lib.hid (HB.out.trans (Below.mono hb HB.out.size))
      clear hb hK HS HE
      have x0 : w2.cell? ⟨w.heap.size, 0, none⟩ = some (.int .u32 (u.a.toNat : Int)) := HX.out.cell 0 (by show 0 < 8; omega)
      have x1 : w2.cell? ⟨w.heap.size, 1, none⟩ = some (.int .u32 (u.b.toNat : Int)) := HX.out.cell 1 (by show 1 < 8; omega)
      have x2 : w2.cell? ⟨w.heap.size, 2, none⟩ = some (.int .u32 (u.c.toNat : Int)) := HX.out.cell 2 (by show 2 < 8; omega)
      have x3 : w2.cell? ⟨w.heap.size, 3, none⟩ = some (.int .u32 (u.d.toNat : Int)) := HX.out.cell 3 (by show 3 < 8; omega)
      have x4 : w2.cell? ⟨w.heap.size, 4, none⟩ = some (.int .u32 (u.e.toNat : Int)) := HX.out.cell 4 (by show 4 < 8; omega)
      have x5 : w2.cell? ⟨w.heap.size, 5, none⟩ = some (.int .u32 (u.f.toNat : Int)) := HX.out.cell 5 (by show 5 < 8; omega)
      have x6 : w2.cell? ⟨w.heap.size, 6, none⟩ = some (.int .u32 (u.g.toNat : Int)) := HX.out.cell 6 (by show 6 < 8; omega)
      have x7 : w2.cell? ⟨w.heap.size, 7, none⟩ = some (.int .u32 (u.h.toNat : Int)) := HX.out.cell 7 (by show 7 < 8; omega)
      have x8 : w2.cell? ⟨w.heap.size, 8, none⟩ = some (.string rest) := by rw [cell_of_row _ _ _ _ _ _ HX.out]; rfl
      have x9 : w2.cell? ⟨w.heap.size, 9, none⟩ = some (.int .i64 N) := by rw [cell_of_row _ _ _ _ _ _ HX.out]; rfl
      have z0 : w2.cell? ⟨w.heap.size + 1, 0, none⟩ = some (.int .u32 0) := by rw [cell_of_row _ _ _ _ _ _ HZ.out]; rfl
      have z1 : w2.cell? ⟨w.heap.size + 1, 1, none⟩ = some (.int .u32 0) := by rw [cell_of_row _ _ _ _ _ _ HZ.out]; rfl
      have z2 : w2.cell? ⟨w.heap.size + 1, 2, none⟩ = some (.int .u32 0) := by rw [cell_of_row _ _ _ _ _ _ HZ.out]; rfl
      have z3 : w2.cell? ⟨w.heap.size + 1, 3, none⟩ = some (.int .u32 0) := by rw [cell_of_row _ _ _ _ _ _ HZ.out]; rfl
      have z4 : w2.cell? ⟨w.heap.size + 1, 4, none⟩ = some (.int .u32 0) := by rw [cell_of_row _ _ _ _ _ _ HZ.out]; rfl
      have z5 : w2.cell? ⟨w.heap.size + 1, 5, none⟩ = some (.int .u32 0) := by rw [cell_of_row _ _ _ _ _ _ HZ.out]; rfl
      have z6 : w2.cell? ⟨w.heap.size + 1, 6, none⟩ = some (.int .u32 0) := by rw [cell_of_row _ _ _ _ _ _ HZ.out]; rfl
      have z7 : w2.cell? ⟨w.heap.size + 1, 7, none⟩ = some (.int .u32 0) := by rw [cell_of_row _ _ _ _ _ _ HZ.out]; rfl
      have z8 : w2.cell? ⟨w.heap.size + 1, 8, none⟩ = some (.string ⟨#[]⟩) := by rw [cell_of_row _ _ _ _ _ _ HZ.out]; rfl
      have z9 : w2.cell? ⟨w.heap.size + 1, 9, none⟩ = some (.int .i64 0) := by rw [cell_of_row _ _ _ _ _ _ HZ.out]; rfl
      have xf := HX.out.f
      have zf : ∀ i, w2.frozen? ⟨w.heap.size + 1, i, none⟩ = false := fun i => frozen_of_row w2 (w.heap.size + 1) i _ _ HZ.out
      go_wp2_with fail
      refine bodyPost_ret (v := .agg #[.int .u32 (u.a.toNat : Int), .int .u32 (u.b.toNat : Int), .int .u32 (u.c.toNat : Int), .int .u32 (u.d.toNat : Int), .int .u32 (u.e.toNat : Int), .int .u32 (u.f.toNat : Int), .int .u32 (u.g.toNat : Int), .int .u32 (u.h.toNat : Int), .string s, .int .i64 N]) (by simp [results, Tryd.results54, go_sem, z0, z1, z2, z3, z4, z5, z6, z7, z8, z9, zf]) rfl ⟨?_, ?_⟩
      · rw [hq.out, hF.out, hN.out]
      · repeat (refine Below.setCell ?_ (by simp) _)
        exact HB.out
end Go.Proofs.YtldpnmebjnkjeaaDoor.Sha
