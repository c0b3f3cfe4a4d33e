/-
  Lemmas for the last text of this claim, merged out of several texts.
-/
import Derived.Test.YtldpnmebjnkjeaaDoorTeC
import Derived.RegionTactic
import Derived.BigRegion
import Derived.Lib.Strings
import Derived.StillTailTactics
import Derived.Deep.WholeRow
import Derived.Deep.MidRow
import Derived.Deep.RegionLaw
import Derived.Laws.CopyOwn
import Derived.Shelf.Strings.Builder1
import Derived.Shelf.Strings.Builder2
import Derived.Shelf.Small.Strs
import Derived.Shelf.Strings.BuilderF
import Derived.Shelf.Strings.BuilderK
import Derived.Shelf.Strings.Builder2Cap
import Derived.Shelf.LaysM
import Derived.Shelf.Strconv.Clone
import Derived.Shelf.Strings.Search1
import Derived.Shelf.Strings.Prefix
import Derived.Shelf.Bits.Mul64
import Derived.Shelf.Strings.Repeat
import Derived.Shelf.Strings.BuilderCap
import Derived.ShutString
import Derived.Deep.AppendSrc
import Derived.Laws.IdiomStrings
import Derived.Lib.BufferWrite
import Derived.Laws.Tables
import Derived.Laws.BytesString
import Derived.RegionCalls
import Derived.LoopTactic
import Derived.Laws.EntriesVeiled
namespace Go.Proofs.YtldpnmebjnkjeaaDoor.Sha
open Go.RowKit Go.Proofs.YtldpnmebjnkjeaaDoorW.PrintWords
set_option linter.unusedVariables false
set_option linter.unusedSimpArgs false

def wv (x : UInt32) : Value := .int .u32 (x.toNat : Int)
/-- A row of words. -/
def RowU (t : TypeId) (g : Nat) (L : List UInt32) (w : World) : Prop := w.heap[g]? = some (.cells (L.map wv).toArray t (0, 0))
namespace RowU
variable {t : TypeId} {g : Nat} {L : List UInt32} {w w1 : World}
theorem below (h : RowU t g L w) (hb : Below w.heap.size w w1) : RowU t g L w1 := blk_below h hb
theorem lt (h : RowU t g L w) : g < w.heap.size := blk_lt h
theorem f (h : RowU t g L w) (i : Nat) : w.frozen? ⟨g, i, none⟩ = false := frozen_of_row w g i _ _ h
theorem cell (h : RowU t g L w) (j : Nat) (hj : j < L.length) : w.cell? ⟨g, j, none⟩ = some (.int .u32 ((L.getD j 0).toNat : Int)) := by
  rw [cell_of_row _ _ _ _ _ _ h, List.getElem?_toArray, List.getElem?_map, List.getElem?_eq_getElem hj, List.getD_eq_getElem?_getD, List.getElem?_eq_getElem hj]
  rfl
theorem set (h : RowU t g L w) (j : Nat) (x : UInt32) : RowU t g (L.set j x) (w.setCell ⟨g, j, none⟩ (.int .u32 (x.toNat : Int))) := by
  unfold RowU at *
  rw [World.setCell]
  simp only [Array.getElem?_modify, if_true, h, Option.map_some, List.map_set]
  simp [wv]
theorem far (h : RowU t g L w) {p : Addr} (hp : g ≠ p.block) (u : Value) : RowU t g L (w.setCell p u) := by
  unfold RowU at *; rw [Below.heap_setCell _ _ _ _ hp]; exact h
theorem drew (h : RowU t g L w) : RowU t g L w.drew := h
end RowU
/-- So many words are there. -/
def st (b : List UInt8) (t : Nat) : List UInt32 := (List.range 64).map fun i => if i < t then wsAt b i else 0
theorem st_len (b : List UInt8) (t : Nat) : (st b t).length = 64 := by simp [st]
theorem st_get (b : List UInt8) (t i : Nat) (h : i < t) (hi : i < 64) : (st b t).getD i 0 = wsAt b i := by
  unfold st
  simp [List.getD_eq_getElem?_getD, hi, h]
theorem st_set (b : List UInt8) (t : Nat) (ht : t < 64) : (st b t).set t (wsAt b t) = st b (t + 1) := by
  apply List.ext_getElem?
  intro i
  rw [List.getElem?_set]
  unfold st
  by_cases hi : t = i
  · subst hi; simp [ht]
  · rw [if_neg hi]
    by_cases h64 : i < 64
    · simp only [List.getElem?_map, List.getElem?_range h64, Option.map_some]
      by_cases h : i < t
      · rw [if_pos h, if_pos (by omega)]
      · rw [if_neg h, if_neg (by omega)]
    · rw [List.getElem?_eq_none (by simp; omega), List.getElem?_eq_none (by simp; omega)]
theorem st_zero (b : List UInt8) : st b 0 = List.replicate 64 0 := by
  unfold st
  simp only [Nat.not_lt_zero, if_false]
  rfl
theorem ext_byte (s : ByteArray) (hs : s.size = 64) (t i : Nat) (h : i < (s.extract (4 * t) 64).size) : (s.extract (4 * t) 64)[i] = s.data.toList.getD (4 * t + i) 0 := by
  have h2 : i < 64 - 4 * t := by rw [ByteArray.size_extract] at h; omega
  have h3 : 4 * t + i < s.data.toList.length := by rw [← Lib.size_eq]; omega
  rw [List.getD_eq_getElem?_getD, List.getElem?_eq_getElem h3]
  show (s.extract (4 * t) 64).data[i]'h = _
  simp [ByteArray.data_extract]
/-- The next word, shut: the walk does not look into it. -/
structure Nx (x a b c d : UInt32) : Prop where
  eq : x = a + b + ss0 c + ss1 d
def xo (a b : UInt32) : UInt32 := a ^^^ b
def an (a b : UInt32) : UInt32 := a &&& b
def no (a : UInt32) : UInt32 := ~~~a
def ad (a b : UInt32) : UInt32 := a + b
theorem rx (a b : UInt32) : bits .xor .u32 (a.toNat : Int) (b.toNat : Int) = ((xo a b).toNat : Int) := bx a b
theorem ra (a b : UInt32) : bits .and .u32 (a.toNat : Int) (b.toNat : Int) = ((an a b).toNat : Int) := ba a b
theorem rn (a : UInt32) : bits .xor .u32 4294967295 (a.toNat : Int) = ((no a).toNat : Int) := bnot a
theorem rs (a b : UInt32) : ((a.toNat : Int) + (b.toNat : Int)) % 4294967296 = ((ad a b).toNat : Int) := badd a b
theorem rw32 (a b : UInt32) : IntKind.u32.wrap ((a.toNat : Int) + (b.toNat : Int)) = ((ad a b).toNat : Int) := by
  rw [← rs]; simp [IntKind.wrap, IntKind.bits, IntKind.signed]
theorem nx_bits (a b c d : UInt32) :
    ((a.toNat : Int) + b.toNat + bits .xor .u32 (bits .xor .u32 ((rotr c 7).toNat : Int) (rotr c 18).toNat) ((c.toNat : Int) / 8) + bits .xor .u32 (bits .xor .u32 ((rotr d 17).toNat : Int) (rotr d 19).toNat) ((d.toNat : Int) / 1024)) % 4294967296 = ((a + b + ss0 c + ss1 d).toNat : Int) := by
  have h3 := bshr c 3 (by omega)
  have h10 := bshr d 10 (by omega)
  rw [show ((2 : Int) ^ 3) = 8 by decide] at h3
  rw [show ((2 : Int) ^ 10) = 1024 by decide] at h10
  rw [h3, h10, bx, bx, bx, bx]
  have e : ∀ p q r s : UInt32, ((p.toNat : Int) + q.toNat + r.toNat + s.toNat) % 4294967296 = ((p + q + r + s).toNat : Int) := by
    intro p q r s
    rw [UInt32.toNat_add, UInt32.toNat_add, UInt32.toNat_add]; omega
  exact e _ _ _ _
theorem turn_7 (x : UInt32) (w : World) : Calls Tryd.prog 99 #[.int .u32 (x.toNat : Int), .int .i64 7] w fun e w' => e = .returned (.int .u32 ((rotr x 7).toNat : Int)) ∧ w' = w := turn_calls x 7 (by omega) (by omega) w
theorem turn_18 (x : UInt32) (w : World) : Calls Tryd.prog 99 #[.int .u32 (x.toNat : Int), .int .i64 18] w fun e w' => e = .returned (.int .u32 ((rotr x 18).toNat : Int)) ∧ w' = w := turn_calls x 18 (by omega) (by omega) w
theorem turn_17 (x : UInt32) (w : World) : Calls Tryd.prog 99 #[.int .u32 (x.toNat : Int), .int .i64 17] w fun e w' => e = .returned (.int .u32 ((rotr x 17).toNat : Int)) ∧ w' = w := turn_calls x 17 (by omega) (by omega) w
theorem turn_19 (x : UInt32) (w : World) : Calls Tryd.prog 99 #[.int .u32 (x.toNat : Int), .int .i64 19] w fun e w' => e = .returned (.int .u32 ((rotr x 19).toNat : Int)) ∧ w' = w := turn_calls x 19 (by omega) (by omega) w
theorem turn_6 (x : UInt32) (w : World) : Calls Tryd.prog 99 #[.int .u32 (x.toNat : Int), .int .i64 6] w fun e w' => e = .returned (.int .u32 ((rotr x 6).toNat : Int)) ∧ w' = w := turn_calls x 6 (by omega) (by omega) w
theorem turn_11 (x : UInt32) (w : World) : Calls Tryd.prog 99 #[.int .u32 (x.toNat : Int), .int .i64 11] w fun e w' => e = .returned (.int .u32 ((rotr x 11).toNat : Int)) ∧ w' = w := turn_calls x 11 (by omega) (by omega) w
theorem turn_25 (x : UInt32) (w : World) : Calls Tryd.prog 99 #[.int .u32 (x.toNat : Int), .int .i64 25] w fun e w' => e = .returned (.int .u32 ((rotr x 25).toNat : Int)) ∧ w' = w := turn_calls x 25 (by omega) (by omega) w
theorem turn_2 (x : UInt32) (w : World) : Calls Tryd.prog 99 #[.int .u32 (x.toNat : Int), .int .i64 2] w fun e w' => e = .returned (.int .u32 ((rotr x 2).toNat : Int)) ∧ w' = w := turn_calls x 2 (by omega) (by omega) w
theorem turn_13 (x : UInt32) (w : World) : Calls Tryd.prog 99 #[.int .u32 (x.toNat : Int), .int .i64 13] w fun e w' => e = .returned (.int .u32 ((rotr x 13).toNat : Int)) ∧ w' = w := turn_calls x 13 (by omega) (by omega) w
theorem turn_22 (x : UInt32) (w : World) : Calls Tryd.prog 99 #[.int .u32 (x.toNat : Int), .int .i64 22] w fun e w' => e = .returned (.int .u32 ((rotr x 22).toNat : Int)) ∧ w' = w := turn_calls x 22 (by omega) (by omega) w
/-- The next round, shut. -/
structure Nr (y x : V8) (k w : UInt32) : Prop where
  eq : y = rnd x k w
/-- The table of the constants. -/
def KAt (w : World) : Prop := ∃ t fr, w.heap[0]? = some (.cells (kT.map wv).toArray t fr)
theorem KAt.below {w w1 : World} (h : KAt w) (hb : Below w.heap.size w w1) : KAt w1 := by
  obtain ⟨t, fr, h⟩ := h
  exact ⟨t, fr, blk_below h hb⟩
theorem KAt.lt {w : World} (h : KAt w) : 0 < w.heap.size := by
  obtain ⟨t, fr, h⟩ := h
  exact blk_lt h
theorem KAt.cell {w : World} (h : KAt w) (j : Nat) (hj : j < 64) : w.cell? ⟨0, j, none⟩ = some (.int .u32 ((kT.getD j 0).toNat : Int)) := by
  obtain ⟨t, fr, h⟩ := h
  have hj' : j < kT.length := hj
  rw [cell_of_row _ _ _ _ _ _ h, List.getElem?_toArray, List.getElem?_map, List.getElem?_eq_getElem hj', List.getD_eq_getElem?_getD, List.getElem?_eq_getElem hj']
  rfl
/-- Words ahead of other cells. -/
def RowX (t : TypeId) (g : Nat) (L : List UInt32) (R : List Value) (w : World) : Prop := w.heap[g]? = some (.cells (L.map wv ++ R).toArray t (0, 0))
namespace RowX
variable {t : TypeId} {g : Nat} {L : List UInt32} {R : List Value} {w w1 : World}
theorem f (h : RowX t g L R w) (i : Nat) : w.frozen? ⟨g, i, none⟩ = false := frozen_of_row w g i _ _ h
theorem cell (h : RowX t g L R w) (j : Nat) (hj : j < L.length) : w.cell? ⟨g, j, none⟩ = some (.int .u32 ((L.getD j 0).toNat : Int)) := by
  rw [cell_of_row _ _ _ _ _ _ h, List.getElem?_toArray, List.getElem?_append_left (by simpa using hj), List.getElem?_map, List.getElem?_eq_getElem hj, List.getD_eq_getElem?_getD, List.getElem?_eq_getElem hj]
  rfl
theorem range (h : RowX t g L R w) : w.rangeAt g 0 (L.map wv) := by
  intro j v hv
  rw [Nat.zero_add, cell_of_row _ _ _ _ _ _ h, List.getElem?_toArray]
  have hj : j < (L.map wv).length := by
    rcases Nat.lt_or_ge j (L.map wv).length with h1 | h1
    · exact h1
    · rw [List.getElem?_eq_none h1] at hv; cases hv
  rw [List.getElem?_append_left hj]; exact hv
end RowX
/-- The sums of the first i words. -/
def mixL (u v : List UInt32) (i : Nat) : List UInt32 := (List.zipWith (· + ·) u v).take i ++ u.drop i
theorem mixL_len (u v : List UInt32) (h : u.length = v.length) (i : Nat) (hi : i ≤ u.length) : (mixL u v i).length = u.length := by
  unfold mixL; rw [List.length_append, List.length_take, List.length_zipWith, List.length_drop]; omega
theorem mixL_get (u v : List UInt32) (h : u.length = v.length) (i : Nat) (hi : i < u.length) : (mixL u v i).getD i 0 = u.getD i 0 := by
  unfold mixL
  rw [List.getD_eq_getElem?_getD, List.getElem?_append_right (by rw [List.length_take, List.length_zipWith]; omega), List.length_take, List.length_zipWith, List.getElem?_drop, List.getD_eq_getElem?_getD]
  congr 2; omega
theorem mixL_set (u v : List UInt32) (h : u.length = v.length) (i : Nat) (hi : i < u.length) : (mixL u v i).set i (u.getD i 0 + v.getD i 0) = mixL u v (i + 1) := by
  have hz : i < (List.zipWith (· + ·) u v).length := by rw [List.length_zipWith]; omega
  unfold mixL
  rw [List.set_append_right _ _ (by rw [List.length_take]; omega), List.length_take, show i - min i (List.zipWith (· + ·) u v).length = 0 by omega, List.drop_eq_getElem_cons hi, List.set_cons_zero, List.take_succ_eq_append_getElem hz, List.append_assoc]
  congr 2
  rw [List.getElem_zipWith]
  simp [List.getD_eq_getElem?_getD, hi, show i < v.length by omega]
theorem mixL_all (u v : V8) : mixL u.list v.list 8 = (vadd u v).list := rfl
/-- All of memory but the words at hand: as it was. -/
def Kept (g : Nat) (R : List Value) (w : World) (L : List UInt32) (w' : World) : Prop := Below w.heap.size (w.setRow g (L.map wv ++ R).toArray) w'
theorem Kept.set {g : Nat} {R : List Value} {w w' : World} {L : List UInt32} (h : Kept g R w L w') (hg : g < w.heap.size) (hc : ∃ t fr C, w.heap[g]? = some (.cells C t fr)) (i : Nat) (hi : i < L.length) (x : UInt32) : Kept g R w (L.set i x) (w'.setCell ⟨g, i, none⟩ (.int .u32 (x.toNat : Int))) := by
  obtain ⟨t, fr, C, hc⟩ := hc
  refine ⟨h.os, h.tape, h.output, by have := h.size; simp [World.setCell] at this ⊢; exact this, fun k hk => ?_⟩
  have hb := h.block k hk
  by_cases hkg : k = g
  · subst hkg
    rw [setRow_heap _ _ _ _ _ _ hc] at hb ⊢
    rw [World.setCell]
    simp only [Array.getElem?_modify, if_true, hb, Option.map_some, List.map_set]
    congr 2
    apply Array.toList_inj.1
    simp [wv, List.set_append, hi]
  · rw [setRow_other _ _ _ _ hkg] at hb ⊢
    rw [Below.heap_setCell _ _ _ _ hkg]
    exact hb
theorem Kept.row {g : Nat} {R : List Value} {w w' : World} {L L0 : List UInt32} {t : TypeId} (h : Kept g R w L w') (h0 : RowX t g L0 R w) (hg : g < w.heap.size) : RowX t g L R w' := by
  have hb := h.block g hg
  rw [setRow_heap _ _ _ _ _ _ h0] at hb
  exact hb
theorem Kept.drew {g : Nat} {R : List Value} {w w' : World} {L : List UInt32} (h : Kept g R w L w') : Kept g R w L w'.drew := Below.drew h
theorem V8.len (v : V8) : v.list.length = 8 := rfl
set_option maxHeartbeats 20000000 in
set_option maxRecDepth 100000 in
theorem take_calls (g : Nat) (v : V8) (R : List Value) (T : TypeId) (blk : ByteArray) (hs : blk.size = 64) (w : World) (hK : KAt w) (hG : RowX T g v.list R w) :
    Calls Tryd.prog 81 #[.pointer (some ⟨g, 0, none⟩), .string blk] w fun e w' => e = .returned (.tuple #[]) ∧ Kept g R w (takeP v blk.data.toList).list w' := by
  have hgl : g < w.heap.size := blk_lt hG
  have hs' := Lib.hid hs
  replace hK := Lib.hid hK
  replace hG := Lib.hid hG
  go_enter Tryd.func81, Tryd.ntmps81
  go_wp2_with fail
  go_loopw [16] (fun i wr => ∃ t : Nat, t ≤ 64 ∧ i = .int .i64 t ∧ Hid (RowU 136 w.heap.size (st blk.data.toList t) wr) ∧ Hid (Below w.heap.size w wr) ∧ Hid (wr.heap.size = w.heap.size + 1)) (fun i _ => 64 - (intOf i).toNat)
  case atStart =>
    refine ⟨0, by omega, rfl, Lib.hid ?_, Lib.hid ((Below.refl _ _).alloc (Nat.le_refl _) _), Lib.hid (by simp)⟩
    rw [st_zero]
    exact heap_alloc_last _ _
  case round =>
    obtain ⟨t, ht, rfl, HW, HB, HZ⟩ := hrel
    by_cases h16 : t < 16
    · as_aux_lemma =>
        have k1 : (0 : Int) ≤ 4 * (t : Int) := by omega
        have k2 : 4 * (t : Int) ≤ 64 := by omega
        have p0 : 0 < 64 - 4 * t := by omega
        have p1 : (1 : Int) < ((64 - 4 * t : Nat) : Int) := by omega
        have p2 : (2 : Int) < ((64 - 4 * t : Nat) : Int) := by omega
        have p3 : (3 : Int) < ((64 - 4 * t : Nat) : Int) := by omega
        have c0 := HW.out.cell t (by rw [st_len]; omega)
        have cf := HW.out.f
        go_wp2_with fail
        go_region
        go_wp2_with fail
        go_roundw
        case rel =>
          have hl64 : blk.data.toList.length = 64 := by rw [← Lib.size_eq]; exact hs
          rw [be_bits, ext_byte blk hs t 0, ext_byte blk hs t 1, ext_byte blk hs t 2, ext_byte blk hs t 3]
          refine ⟨t + 1, by omega, by go_num, Lib.hid ?_, Lib.hid ?_, Lib.hid ?_⟩
          · have h := ws_lo blk.data.toList hl64 t h16
            have h2 := (HW.out.set t (wsAt blk.data.toList t)).drew
            rw [st_set _ t (by omega), h] at h2
            exact h2
          · exact (HB.out.setCell (Nat.le_refl _) _).drew
          · show (World.setCell _ _ _).heap.size = _
            rw [← HZ.out]; simp [World.setCell]
        case measure => simp [intOf]; omega
    · by_cases h64 : t < 64
      · as_aux_lemma =>
          have hl64 : blk.data.toList.length = 64 := by rw [← Lib.size_eq]; exact hs
          have c1 := HW.out.cell (t - 15) (by rw [st_len]; omega)
          have c2 := HW.out.cell (t - 2) (by rw [st_len]; omega)
          have c3 := HW.out.cell (t - 16) (by rw [st_len]; omega)
          have c4 := HW.out.cell (t - 7) (by rw [st_len]; omega)
          rw [st_get _ _ _ (by omega) (by omega)] at c1 c2 c3 c4
          have HH : Nx _ _ _ _ _ := ⟨ws_hi blk.data.toList hl64 t (by omega) (by omega)⟩
          clear hl64 hs
          generalize wsAt blk.data.toList (t - 16) = v0 at c3 HH
          generalize wsAt blk.data.toList (t - 15) = v1 at c1 HH
          generalize wsAt blk.data.toList (t - 2) = v14 at c2 HH
          generalize wsAt blk.data.toList (t - 7) = v9 at c4 HH
          have k16 : (16 : Int) ≤ (t : Int) := by omega
          have k64 : (t : Int) < 64 := by omega
          go_wp2_with fail
          go_quiet (fail)
          go_wp2_with fail
          have e16 : IntKind.i64.wrap ((t : Int) - 16) = (t : Int) - 16 := Go.IntWalk.i64_in _ (by omega)
          have e7 : IntKind.i64.wrap ((t : Int) - 7) = (t : Int) - 7 := Go.IntWalk.i64_in _ (by omega)
          have k7 : (7 : Int) ≤ (t : Int) := by omega
          have p16 : 0 ≤ (t : Int) - 16 := by omega
          have p7 : 0 ≤ (t : Int) - 7 := by omega
          have q16 : (t : Int) - 16 < 64 := by omega
          have q7 : (t : Int) - 7 < 64 := by omega
          have n16 : ((t : Int) - 16).toNat = t - 16 := by omega
          have n7 : ((t : Int) - 7).toNat = t - 7 := by omega
          have nt : (t : Int).toNat = t := by omega
          refine wp_region_still_tail 29 (by kernel_rfl) (by kernel_rfl) ?_
          simp only [List.take_succ_cons, List.take_zero, List.drop_succ_cons, List.drop_zero]
          have d3 : (wr.drewN nq).drew.cell? ⟨w.heap.size, t - 16, none⟩ = _ := c3
          have d4 : (wr.drewN nq).drew.cell? ⟨w.heap.size, t - 7, none⟩ = _ := c4
          clear c1 c2 c3 c4
          change wpStill _ _ ((wr.drewN nq).drew) _ _ _
          generalize (wr.drewN nq).drew = wq at d3 d4 ⊢
          repeat (first | still_step | (refine wpStill_step (fun K hK => ?_); go_simp; apply Exists.intro; (first | refine And.intro (turn_7 v1 _) ?_ | refine And.intro (turn_18 v1 _) ?_ | refine And.intro (turn_17 v14 _) ?_ | refine And.intro (turn_19 v14 _) ?_); refine hK _ ?_; clear hK K))
          refine wpStill_nil ?_
          clear d3 d4 e16 e7 p16 p7 q16 q7 n16 n7 nt
          change wpList _ _ _ _ _ ((wr.drewN nq).drew)
          replace HW : Hid (RowU 136 w.heap.size (st blk.data.toList t) (wr.drewN nq).drew) := HW
          replace HB : Hid (Below w.heap.size w (wr.drewN nq).drew) := Lib.hid (HB.out.trans (Below.mono (Drawn0.below ⟨nq, rfl⟩) HB.out.size)).drew
          replace HZ : Hid ((wr.drewN nq).drew.heap.size = w.heap.size + 1) := HZ
          generalize (wr.drewN nq).drew = wz at HW HB HZ ⊢
          have df := HW.out.f
          have d0 := HW.out.cell t (by rw [st_len]; omega)
          go_wp2_with fail
          go_roundw
          case rel =>
            refine ⟨t + 1, by omega, by go_num, Lib.hid ?_, Lib.hid ?_, Lib.hid ?_⟩
            · rw [nx_bits, ← HH.eq]
              have h2 := HW.out.set t (wsAt blk.data.toList t)
              rw [st_set _ t (by omega)] at h2
              exact h2
            · exact HB.out.setCell (Nat.le_refl _) _
            · rw [← HZ.out]; simp [World.setCell]
          case measure => simp [intOf]; omega
      · obtain rfl : t = 64 := by omega
        clear h16 h64 ht
        have gc0 : wr.cell? ⟨g, 0, none⟩ = some (.int .u32 (v.a.toNat : Int)) := (HB.out.cell (p := ⟨g, 0, none⟩) hgl).trans (hG.out.cell 0 (by show 0 < 8; omega))
        have gc1 : wr.cell? ⟨g, 1, none⟩ = some (.int .u32 (v.b.toNat : Int)) := (HB.out.cell (p := ⟨g, 1, none⟩) hgl).trans (hG.out.cell 1 (by show 1 < 8; omega))
        have gc2 : wr.cell? ⟨g, 2, none⟩ = some (.int .u32 (v.c.toNat : Int)) := (HB.out.cell (p := ⟨g, 2, none⟩) hgl).trans (hG.out.cell 2 (by show 2 < 8; omega))
        have gc3 : wr.cell? ⟨g, 3, none⟩ = some (.int .u32 (v.d.toNat : Int)) := (HB.out.cell (p := ⟨g, 3, none⟩) hgl).trans (hG.out.cell 3 (by show 3 < 8; omega))
        have gc4 : wr.cell? ⟨g, 4, none⟩ = some (.int .u32 (v.e.toNat : Int)) := (HB.out.cell (p := ⟨g, 4, none⟩) hgl).trans (hG.out.cell 4 (by show 4 < 8; omega))
        have gc5 : wr.cell? ⟨g, 5, none⟩ = some (.int .u32 (v.f.toNat : Int)) := (HB.out.cell (p := ⟨g, 5, none⟩) hgl).trans (hG.out.cell 5 (by show 5 < 8; omega))
        have gc6 : wr.cell? ⟨g, 6, none⟩ = some (.int .u32 (v.g.toNat : Int)) := (HB.out.cell (p := ⟨g, 6, none⟩) hgl).trans (hG.out.cell 6 (by show 6 < 8; omega))
        have gc7 : wr.cell? ⟨g, 7, none⟩ = some (.int .u32 (v.h.toNat : Int)) := (HB.out.cell (p := ⟨g, 7, none⟩) hgl).trans (hG.out.cell 7 (by show 7 < 8; omega))
        go_wp2_with fail
        clear gc0 gc1 gc2 gc3 gc4 gc5 gc6 gc7
        generalize hw3 : wr.alloc _ = w3
        have HV : Hid (RowU 29 (w.heap.size + 1) v.list w3) := by
          rw [← HZ.out, ← hw3]; exact heap_alloc_last _ _
        replace HW : Hid (RowU 136 w.heap.size (st blk.data.toList 64) w3) := by
          rw [← hw3]; exact Lib.hid (HW.out.below ((Below.refl _ _).alloc (Nat.le_refl _) _))
        replace HB : Hid (Below w.heap.size w w3) := by
          rw [← hw3]; exact Lib.hid (HB.out.alloc HB.out.size _)
        have HZ3 : Hid (w.heap.size + 2 ≤ w3.heap.size) := by
          rw [← hw3]; refine Lib.hid ?_; have := HZ.out; simp; omega
        rw [HZ.out]
        rw [show ((64 : Nat) : Int) = 64 from rfl]
        clear hw3 HZ
        go_loopw [86] (fun i wx => ∃ t : Nat, t ≤ 64 ∧ i = .int .i64 t ∧ Hid (RowU 136 w.heap.size (st blk.data.toList 64) wx) ∧ Hid (RowU 29 (w.heap.size + 1) (rnds kT (sched blk.data.toList 48) v t).list wx) ∧ Hid (Below w.heap.size w wx) ∧ Hid (w.heap.size + 2 ≤ wx.heap.size)) (fun i _ => 64 - (intOf i).toNat)
        case atStart => exact ⟨0, by omega, rfl, HW, HV, HB, HZ3⟩
        case round =>
          clear HW HV HB HZ3
          obtain ⟨t, ht, rfl, HW, HV, HB, HZ⟩ := hrel
          by_cases h64 : t < 64
          · as_aux_lemma =>
              have k64 : (t : Int) < 64 := by omega
              have HX : Nr (rnds kT (sched blk.data.toList 48) v (t + 1)) _ _ _ := ⟨rfl⟩
              have ck := (HB.out.cell (p := ⟨0, t, none⟩) hK.out.lt).trans (hK.out.cell t h64)
              have cw := HW.out.cell t (by rw [st_len]; omega)
              rw [st_get _ _ _ h64 h64] at cw
              change _ = some (Value.int _ (((sched blk.data.toList 48).getD t 0).toNat : Int)) at cw
              generalize rnds kT (sched blk.data.toList 48) v t = x at HX HV
              generalize kT.getD t 0 = kk at HX ck
              generalize (sched blk.data.toList 48).getD t 0 = ww at HX cw
              replace ck := Lib.hid ck
              replace cw := Lib.hid cw
              have x0 : wr.cell? ⟨w.heap.size + 1, 0, none⟩ = some (.int .u32 (x.a.toNat : Int)) := HV.out.cell 0 (by show 0 < 8; omega)
              have x1 : wr.cell? ⟨w.heap.size + 1, 1, none⟩ = some (.int .u32 (x.b.toNat : Int)) := HV.out.cell 1 (by show 1 < 8; omega)
              have x2 : wr.cell? ⟨w.heap.size + 1, 2, none⟩ = some (.int .u32 (x.c.toNat : Int)) := HV.out.cell 2 (by show 2 < 8; omega)
              have x3 : wr.cell? ⟨w.heap.size + 1, 3, none⟩ = some (.int .u32 (x.d.toNat : Int)) := HV.out.cell 3 (by show 3 < 8; omega)
              have x4 : wr.cell? ⟨w.heap.size + 1, 4, none⟩ = some (.int .u32 (x.e.toNat : Int)) := HV.out.cell 4 (by show 4 < 8; omega)
              have x5 : wr.cell? ⟨w.heap.size + 1, 5, none⟩ = some (.int .u32 (x.f.toNat : Int)) := HV.out.cell 5 (by show 5 < 8; omega)
              have x6 : wr.cell? ⟨w.heap.size + 1, 6, none⟩ = some (.int .u32 (x.g.toNat : Int)) := HV.out.cell 6 (by show 6 < 8; omega)
              have x7 : wr.cell? ⟨w.heap.size + 1, 7, none⟩ = some (.int .u32 (x.h.toNat : Int)) := HV.out.cell 7 (by show 7 < 8; omega)
              go_wp2_with fail
              go_quiet (fail)
              clear x0 x1 x2 x3 x4 x5 x6 x7
              replace ck : Hid ((wr.drewN nq).cell? ⟨0, t, none⟩ = _) := ck
              replace cw : Hid ((wr.drewN nq).cell? ⟨w.heap.size, t, none⟩ = _) := cw
              replace HW : Hid (RowU 136 w.heap.size (st blk.data.toList 64) (wr.drewN nq)) := HW
              replace HV : Hid (RowU 29 (w.heap.size + 1) x.list (wr.drewN nq)) := HV
              replace HB : Hid (Below w.heap.size w (wr.drewN nq)) := Lib.hid (HB.out.trans (Below.mono (Drawn0.below ⟨_, rfl⟩) HB.out.size))
              replace HZ : Hid (w.heap.size + 2 ≤ (wr.drewN nq).heap.size) := HZ
              generalize wr.drewN nq = w5 at ck cw HW HV HB HZ ⊢
              have x0 : w5.cell? ⟨w.heap.size + 1, 0, none⟩ = some (.int .u32 (x.a.toNat : Int)) := HV.out.cell 0 (by show 0 < 8; omega)
              have x1 : w5.cell? ⟨w.heap.size + 1, 1, none⟩ = some (.int .u32 (x.b.toNat : Int)) := HV.out.cell 1 (by show 1 < 8; omega)
              have x2 : w5.cell? ⟨w.heap.size + 1, 2, none⟩ = some (.int .u32 (x.c.toNat : Int)) := HV.out.cell 2 (by show 2 < 8; omega)
              have x3 : w5.cell? ⟨w.heap.size + 1, 3, none⟩ = some (.int .u32 (x.d.toNat : Int)) := HV.out.cell 3 (by show 3 < 8; omega)
              have x4 : w5.cell? ⟨w.heap.size + 1, 4, none⟩ = some (.int .u32 (x.e.toNat : Int)) := HV.out.cell 4 (by show 4 < 8; omega)
              have x5 : w5.cell? ⟨w.heap.size + 1, 5, none⟩ = some (.int .u32 (x.f.toNat : Int)) := HV.out.cell 5 (by show 5 < 8; omega)
              have x6 : w5.cell? ⟨w.heap.size + 1, 6, none⟩ = some (.int .u32 (x.g.toNat : Int)) := HV.out.cell 6 (by show 6 < 8; omega)
              have x7 : w5.cell? ⟨w.heap.size + 1, 7, none⟩ = some (.int .u32 (x.h.toNat : Int)) := HV.out.cell 7 (by show 7 < 8; omega)
              have ck' := ck.out
              have cw' := cw.out
              have RX := rx
              have RA := ra
              have RN := rn
              have RS := rw32
              have RM := rs
              have RN2 : ∀ a : UInt32, bits .xor .u32 IntKind.u32.max (a.toNat : Int) = ((no a).toNat : Int) := rn
              have nt : (t : Int).toNat = t := by omega
              go_wp2_with fail
              go_quiet ((first | (with_reducible exact Calls.quiet_of_same (turn_6 x.e _)) | (with_reducible exact Calls.quiet_of_same (turn_11 x.e _)) | (with_reducible exact Calls.quiet_of_same (turn_25 x.e _))))
              clear ck' cw' ck cw
              clear x0 x1 x2 x3 x4 x5 x6 x7
              replace HW : Hid (RowU 136 w.heap.size (st blk.data.toList 64) (w5.drewN nq)) := HW
              replace HV : Hid (RowU 29 (w.heap.size + 1) x.list (w5.drewN nq)) := HV
              replace HB : Hid (Below w.heap.size w (w5.drewN nq)) := Lib.hid (HB.out.trans (Below.mono (Drawn0.below ⟨_, rfl⟩) HB.out.size))
              replace HZ : Hid (w.heap.size + 2 ≤ (w5.drewN nq).heap.size) := HZ
              generalize w5.drewN nq = w6 at HW HV HB HZ ⊢
              have x0 : w6.cell? ⟨w.heap.size + 1, 0, none⟩ = some (.int .u32 (x.a.toNat : Int)) := HV.out.cell 0 (by show 0 < 8; omega)
              have x1 : w6.cell? ⟨w.heap.size + 1, 1, none⟩ = some (.int .u32 (x.b.toNat : Int)) := HV.out.cell 1 (by show 1 < 8; omega)
              have x2 : w6.cell? ⟨w.heap.size + 1, 2, none⟩ = some (.int .u32 (x.c.toNat : Int)) := HV.out.cell 2 (by show 2 < 8; omega)
              have x3 : w6.cell? ⟨w.heap.size + 1, 3, none⟩ = some (.int .u32 (x.d.toNat : Int)) := HV.out.cell 3 (by show 3 < 8; omega)
              have x4 : w6.cell? ⟨w.heap.size + 1, 4, none⟩ = some (.int .u32 (x.e.toNat : Int)) := HV.out.cell 4 (by show 4 < 8; omega)
              have x5 : w6.cell? ⟨w.heap.size + 1, 5, none⟩ = some (.int .u32 (x.f.toNat : Int)) := HV.out.cell 5 (by show 5 < 8; omega)
              have x6 : w6.cell? ⟨w.heap.size + 1, 6, none⟩ = some (.int .u32 (x.g.toNat : Int)) := HV.out.cell 6 (by show 6 < 8; omega)
              have x7 : w6.cell? ⟨w.heap.size + 1, 7, none⟩ = some (.int .u32 (x.h.toNat : Int)) := HV.out.cell 7 (by show 7 < 8; omega)
              go_wp2_with fail
              go_quiet ((first | (with_reducible exact Calls.quiet_of_same (turn_2 x.a _)) | (with_reducible exact Calls.quiet_of_same (turn_13 x.a _)) | (with_reducible exact Calls.quiet_of_same (turn_22 x.a _))))
              clear x0 x1 x2 x3 x4 x5 x6 x7
              replace HW : Hid (RowU 136 w.heap.size (st blk.data.toList 64) (w6.drewN nq)) := HW
              replace HV : Hid (RowU 29 (w.heap.size + 1) x.list (w6.drewN nq)) := HV
              replace HB : Hid (Below w.heap.size w (w6.drewN nq)) := Lib.hid (HB.out.trans (Below.mono (Drawn0.below ⟨_, rfl⟩) HB.out.size))
              replace HZ : Hid (w.heap.size + 2 ≤ (w6.drewN nq).heap.size) := HZ
              generalize w6.drewN nq = w7 at HW HV HB HZ ⊢
              go_wp2_with fail
              clear RX RA RN RS RM RN2
              generalize hp_ : (ad (ad (ad (ad x.h kk) ww) (xo (xo (rotr x.e 6) (rotr x.e 11)) (rotr x.e 25))) (xo (an x.e x.f) (an (no x.e) x.g))) = p
              replace hp_ := Lib.hid hp_
              generalize hq_ : (ad (xo (xo (rotr x.a 2) (rotr x.a 13)) (rotr x.a 22)) (xo (xo (an x.a x.b) (an x.a x.c)) (an x.b x.c))) = q
              replace hq_ := Lib.hid hq_
              have hsrc : ∀ j v, ([wv x.a, wv x.b, wv x.c, wv x.d, wv x.e, wv x.f, wv x.g] : List Value)[j]? = some v → w7.drew.cell? ((⟨w.heap.size + 1, 0, none⟩ : Addr).add j) = some v := by
                intro j v hv
                rw [Addr.add_mid, Nat.zero_add]
                have hj : j < 7 := by
                  rcases Nat.lt_or_ge j 7 with h1 | h1
                  · exact h1
                  · rw [List.getElem?_eq_none (by simpa using h1)] at hv; cases hv
                have hc := HV.out.cell j (by show j < 8; omega)
                have e : some (Value.int .u32 ((x.list.getD j 0).toNat : Int)) = some v := by
                  rw [← hv]
                  match j, hj with
                  | 0, _ => rfl
                  | 1, _ => rfl
                  | 2, _ => rfl
                  | 3, _ => rfl
                  | 4, _ => rfl
                  | 5, _ => rfl
                  | 6, _ => rfl
                exact hc.trans e
              replace hsrc := Lib.hid hsrc
              go_region_law (refine step_copy_splice rfl (.tmp 147) (.tmp 148) 56 56 rfl 28 (by kernel_rfl) (by kernel_rfl) (some ⟨w.heap.size + 1, 1, none⟩) (some ⟨w.heap.size + 1, 0, none⟩) 7 7 7 8 (by simp [Act.eval, Act.put]) (by simp [Act.eval, Act.put]) (w.heap.size + 1) 1 (x.list.map wv) 29 HV.out [wv x.a, wv x.b, wv x.c, wv x.d, wv x.e, wv x.f, wv x.g] rfl (fun _ => ⟨rfl, ⟨w.heap.size + 1, 0, none⟩, rfl, hsrc.out⟩) (by show 1 + 7 ≤ 8; omega) (by intro v hv; simp at hv; rcases hv with rfl | rfl | rfl | rfl | rfl | rfl | rfl <;> rfl) (w.heap.size + 1) w7 (Below.refl _ _).drew (Nat.le_refl _) ?_; intro w8 hg8 hb8)
              clear hsrc
              have HV8 : Hid (RowU 29 (w.heap.size + 1) [x.a, x.a, x.b, x.c, x.d, x.e, x.f, x.g] w8) := hg8
              clear hg8 HV
              replace HW := Lib.hid (RowU.below HW.out (Below.refl _ _ : Below w7.heap.size w7 w7))
              have HW8 : Hid (RowU 136 w.heap.size (st blk.data.toList 64) w8) := by
                refine Lib.hid ?_
                unfold RowU
                rw [hb8.block _ (by omega)]; exact HW.out
              have HB8 : Hid (Below w.heap.size w w8) := Lib.hid (HB.out.trans (Below.mono hb8 (by omega)))
              have HZ8 : Hid (w.heap.size + 2 ≤ w8.heap.size) := by have := hb8.size; have := HZ.out; exact Lib.hid (by omega)
              clear hb8 HW HB HZ w7
              have y0 : w8.cell? ⟨w.heap.size + 1, 0, none⟩ = some (.int .u32 (x.a.toNat : Int)) := HV8.out.cell 0 (by show 0 < 8; omega)
              have y4 : w8.cell? ⟨w.heap.size + 1, 4, none⟩ = some (.int .u32 (x.d.toNat : Int)) := HV8.out.cell 4 (by show 4 < 8; omega)
              have yf := HV8.out.f
              have RS := rw32
              have RM := rs
              go_wp2_with fail
              clear RS RM
              go_roundw
              case rel =>
                refine ⟨t + 1, by omega, by go_num, Lib.hid ?_, Lib.hid ?_, Lib.hid ?_, Lib.hid ?_⟩
                · exact (HW8.out.far (by simp) _).far (by simp) _
                · have h2 := (HV8.out.set 0 (ad p q)).set 4 (ad x.d p)
                  rw [HX.eq]
                  have e : (rnd x kk ww).list = ([x.a, x.a, x.b, x.c, x.d, x.e, x.f, x.g].set 0 (ad p q)).set 4 (ad x.d p) := by
                    rw [← hp_.out, ← hq_.out]; rfl
                  rw [e]; exact h2
                · exact (HB8.out.setCell (by simp) _).setCell (by simp) _
                · have := HZ8.out; simp [World.setCell]; exact this
              case measure => simp [intOf]; omega
          · obtain rfl : t = 64 := by omega
            clear h64 ht
            have HKp : Hid (Kept g R w v.list wr) := by
              have e : w.setRow g (v.list.map wv ++ R).toArray = w := setRow_self _ _ _ _ _ hG.out
              refine Lib.hid ?_
              unfold Kept
              rw [e]; exact HB.out
            have HT : takeP v blk.data.toList = vadd v (rnds kT (sched blk.data.toList 48) v 64) := rfl
            generalize rnds kT (sched blk.data.toList 48) v 64 = y at HV HT
            replace HT := Lib.hid HT
            clear HW HB
            go_wp2_with fail
            rw [show ((64 : Nat) : Int) = 64 from rfl]
            go_loopw [160] (fun i wx => ∃ t : Nat, t ≤ 8 ∧ i = .int .i64 t ∧ Hid (Kept g R w (mixL v.list y.list t) wx) ∧ Hid (RowU 29 (w.heap.size + 1) y.list wx)) (fun i _ => 8 - (intOf i).toNat)
            case atStart => exact ⟨0, by omega, rfl, HKp, HV⟩
            case round =>
              clear HKp HV HZ
              obtain ⟨t, ht, rfl, HKp, HV⟩ := hrel
              by_cases h8 : t < 8
              · as_aux_lemma =>
                  have k8 : (t : Int) < 8 := by omega
                  have hl8 : v.list.length = y.list.length := rfl
                  have hml : (mixL v.list y.list t).length = 8 := mixL_len _ _ hl8 _ (by show t ≤ 8; omega)
                  have hmg := mixL_get v.list y.list hl8 t h8
                  have hms := mixL_set v.list y.list hl8 t h8
                  have hmt : t < (mixL v.list y.list t).length := by omega
                  replace hml := Lib.hid hml
                  replace hl8 := Lib.hid hl8
                  replace hms := Lib.hid hms
                  have HR := Lib.hid (Kept.row HKp.out hG.out hgl)
                  have c0 := HR.out.cell t hmt
                  rw [hmg] at c0
                  clear hmg
                  have c1 := HV.out.cell t (by show t < 8; omega)
                  have f0 := HR.out.f
                  have hne : g ≠ w.heap.size + 1 := by omega
                  generalize hga : v.list.getD t 0 = a0 at c0
                  generalize hgb : y.list.getD t 0 = b0 at c1
                  replace hga := Lib.hid hga
                  replace hgb := Lib.hid hgb
                  have RM := rs
                  go_wp2_with fail
                  go_region
                  go_wp2_with fail
                  clear RM
                  go_roundw
                  case rel =>
                    refine ⟨t + 1, by omega, by go_num, Lib.hid ?_, Lib.hid ?_⟩
                    · have h2 := HKp.out.set hgl ⟨_, _, _, hG.out⟩ t hmt (v.list.getD t 0 + y.list.getD t 0)
                      rw [hms.out, hga.out, hgb.out] at h2
                      exact h2.drew
                    · exact (HV.out.far (by simp; omega) _).drew
                  case measure => simp [intOf]; omega
              · obtain rfl : t = 8 := by omega
                go_wp2_with fail
                go_end0
                refine ⟨rfl, ?_⟩
                rw [HT.out, ← mixL_all]
                exact HKp.out
end Go.Proofs.YtldpnmebjnkjeaaDoor.Sha
namespace Go.Proofs
open Go.Shelf
def Tryd.lays169_ren : Go.Shelf.Ren := ⟨fun | 169 => 65 | n => n, fun | 70 => 98 | 9 => 9 | 0 => 0 | 72 => 100 | 37 => 22 | 127 => 126 | 3 => 3 | 5 => 5 | n => n, fun | n => n⟩
theorem Tryd.lays169 : Go.Proofs.Lays.n169 Tryd.prog Tryd.lays169_ren := {
  mixed := by kernel_rfl
  f169 := Tryd.func65.trans (congrArg some (by kernel_rfl))
  t0 := Tryd.underlying0
  a0 := Tryd.isAgg0
  z0 := Tryd.sizeOf0
  v0 := Tryd.zeroValue0
  t3 := Tryd.underlying3
  a3 := Tryd.isAgg3
  z3 := Tryd.sizeOf3
  v3 := Tryd.zeroValue3
  t9 := Tryd.underlying9
  a9 := Tryd.isAgg9
  z9 := Tryd.sizeOf9
  v9 := Tryd.zeroValue9
  t37 := Tryd.underlying22
  a37 := Tryd.isAgg22
  z37 := Tryd.sizeOf22
  v37 := Tryd.zeroValue22
  t70 := Tryd.underlying98
  a70 := Tryd.isAgg98
  z70 := Tryd.sizeOf98
  v70 := Tryd.zeroValue98
  t72 := Tryd.underlying100
  a72 := Tryd.isAgg100
  z72 := Tryd.sizeOf100
  v72 := Tryd.zeroValue100
  t127 := Tryd.underlying126
  a127 := Tryd.isAgg126
  z127 := Tryd.sizeOf126
  v127 := Tryd.zeroValue126 }
theorem Tryd.Builder_Extra_169 : Builder.Extra Tryd.prog Tryd.lays169_ren := {
  sizeBuilder := by kernel_rfl
  liesBuilder := by kernel_rfl
  t5 := Tryd.underlying5
  a5 := Tryd.isAgg5
  z5 := Tryd.sizeOf5
  v5 := Tryd.zeroValue5
  infoByte := by kernel_rfl
  cellsByte := by kernel_rfl
  sizeByte := by kernel_rfl
  neB5 := by decide }
open Go.RowKit in
/-- (*strings.Builder).String: "String returns the accumulated string.": WHATEVER THE BUILDER HOLDS. (LAID: no walk: one application.) -/
theorem Tryd.Builder_String_any (B b : Nat) (l : List UInt8) (w : World) (h : Lib.IsBuilder 100 5 B b (Lib.byteCells l) w) (hBw : B ≤ w.heap.size) :
    Calls Tryd.prog 65 #[.pointer (some ⟨b, 0, none⟩)] w fun e w' => e = .returned (.string ⟨l.toArray⟩) ∧ Below B w w' := Any.Builder_String_any Tryd.lays169 Tryd.Builder_Extra_169 B b l w h hBw
def Tryd.laysM316_ren : Go.Shelf.Ren := ⟨fun | 316 => 100 | n => n, fun | 9 => 9 | 3 => 3 | 4 => 4 | 37 => 22 | 0 => 0 | 127 => 126 | 5 => 5 | n => n, fun | n => n⟩
theorem Tryd.laysM316 : Go.Proofs.LaysM.n316 Tryd.prog Tryd.laysM316_ren := {
  mixed := by kernel_rfl
  f316 := Tryd.func100.trans (congrArg some (by kernel_rfl))
  t0 := Tryd.underlying0
  a0 := Tryd.isAgg0
  z0 := Tryd.sizeOf0
  v0 := Tryd.zeroValue0
  t3 := Tryd.underlying3
  a3 := Tryd.isAgg3
  z3 := Tryd.sizeOf3
  v3 := Tryd.zeroValue3
  t4 := Tryd.underlying4
  a4 := Tryd.isAgg4
  z4 := Tryd.sizeOf4
  v4 := Tryd.zeroValue4
  t9 := Tryd.underlying9
  a9 := Tryd.isAgg9
  z9 := Tryd.sizeOf9
  v9 := Tryd.zeroValue9
  t37 := Tryd.underlying22
  a37 := Tryd.isAgg22
  z37 := Tryd.sizeOf22
  v37 := Tryd.zeroValue22
  t127 := Tryd.underlying126
  a127 := Tryd.isAgg126
  z127 := Tryd.sizeOf126
  v127 := Tryd.zeroValue126
  t5 := Tryd.underlying5
  a5 := Tryd.isAgg5
  z5 := Tryd.sizeOf5
  v5 := Tryd.zeroValue5
  i0 := by kernel_rfl
  i3 := by kernel_rfl
  i4 := by kernel_rfl
  i5 := by kernel_rfl
  i9 := by kernel_rfl
  i37 := by kernel_rfl
  i127 := by kernel_rfl }
open Go.RowKit in
/-- internal/stringslite.Clone (what strings.Clone calls): "Clone returns a fresh copy of s.": THE SAME BYTES. Of what was there nothing has turned (a new row is laid, and frozen, where s is not empty). (LAID: no walk: one application.) -/
theorem Tryd.stringslite_Clone (s : ByteArray) (w : World) (hlim : s.size ≤ 281474976710656) :
    Calls Tryd.prog 100 #[.string s] w fun e w' => e = .returned (.string s) ∧ Below w.heap.size w w' := Any.stringslite_Clone Tryd.laysM316 s w hlim
def Tryd.lays105_ren : Go.Shelf.Ren := ⟨fun | 105 => 80 | 212 => 94 | 99 => 95 | 165 => 96 | 166 => 97 | 170 => 98 | 169 => 65 | 263 => 108 | 264 => 109 | 206 => 110 | 240 => 91 | 241 => 111 | 276 => 106 | 277 => 113 | n => n, fun | 9 => 9 | 3 => 3 | 4 => 4 | 20 => 20 | 0 => 0 | 46 => 96 | 109 => 129 | 5 => 5 | 72 => 100 | 76 => 133 | 51 => 28 | 146 => 144 | 53 => 44 | 148 => 146 | 70 => 98 | 37 => 22 | 75 => 102 | 127 => 126 | 164 => 141 | 80 => 104 | n => n, fun | n => n⟩
theorem Tryd.lays105 : Go.Proofs.Lays.n105 Tryd.prog Tryd.lays105_ren := {
  mixed := by kernel_rfl
  f99 := Tryd.func95.trans (congrArg some (by kernel_rfl))
  f105 := Tryd.func80.trans (congrArg some (by kernel_rfl))
  f165 := Tryd.func96.trans (congrArg some (by kernel_rfl))
  f166 := Tryd.func97.trans (congrArg some (by kernel_rfl))
  f169 := Tryd.func65.trans (congrArg some (by kernel_rfl))
  f170 := Tryd.func98.trans (congrArg some (by kernel_rfl))
  f206 := Tryd.func110.trans (congrArg some (by kernel_rfl))
  f212 := Tryd.func94.trans (congrArg some (by kernel_rfl))
  f240 := Tryd.func91.trans (congrArg some (by kernel_rfl))
  f241 := Tryd.func111.trans (congrArg some (by kernel_rfl))
  f263 := Tryd.func108.trans (congrArg some (by kernel_rfl))
  f264 := Tryd.func109.trans (congrArg some (by kernel_rfl))
  f276 := Tryd.func106.trans (congrArg some (by kernel_rfl))
  f277 := Tryd.func113.trans (congrArg some (by kernel_rfl))
  t0 := Tryd.underlying0
  a0 := Tryd.isAgg0
  z0 := Tryd.sizeOf0
  v0 := Tryd.zeroValue0
  t3 := Tryd.underlying3
  a3 := Tryd.isAgg3
  z3 := Tryd.sizeOf3
  v3 := Tryd.zeroValue3
  t4 := Tryd.underlying4
  a4 := Tryd.isAgg4
  z4 := Tryd.sizeOf4
  v4 := Tryd.zeroValue4
  t5 := Tryd.underlying5
  a5 := Tryd.isAgg5
  z5 := Tryd.sizeOf5
  v5 := Tryd.zeroValue5
  t9 := Tryd.underlying9
  a9 := Tryd.isAgg9
  z9 := Tryd.sizeOf9
  v9 := Tryd.zeroValue9
  t20 := Tryd.underlying20
  a20 := Tryd.isAgg20
  z20 := Tryd.sizeOf20
  v20 := Tryd.zeroValue20
  t37 := Tryd.underlying22
  a37 := Tryd.isAgg22
  z37 := Tryd.sizeOf22
  v37 := Tryd.zeroValue22
  t46 := Tryd.underlying96
  a46 := Tryd.isAgg96
  z46 := Tryd.sizeOf96
  v46 := Tryd.zeroValue96
  t51 := Tryd.underlying28
  a51 := Tryd.isAgg28
  z51 := Tryd.sizeOf28
  v51 := Tryd.zeroValue28
  t53 := Tryd.underlying44
  a53 := Tryd.isAgg44
  z53 := Tryd.sizeOf44
  v53 := Tryd.zeroValue44
  t70 := Tryd.underlying98
  a70 := Tryd.isAgg98
  z70 := Tryd.sizeOf98
  v70 := Tryd.zeroValue98
  t72 := Tryd.underlying100
  a72 := Tryd.isAgg100
  z72 := Tryd.sizeOf100
  v72 := Tryd.zeroValue100
  t75 := Tryd.underlying102
  a75 := Tryd.isAgg102
  z75 := Tryd.sizeOf102
  v75 := Tryd.zeroValue102
  t76 := Tryd.underlying133
  a76 := Tryd.isAgg133
  z76 := Tryd.sizeOf133
  v76 := Tryd.zeroValue133
  t109 := Tryd.underlying129
  a109 := Tryd.isAgg129
  z109 := Tryd.sizeOf129
  v109 := Tryd.zeroValue129
  t127 := Tryd.underlying126
  a127 := Tryd.isAgg126
  z127 := Tryd.sizeOf126
  v127 := Tryd.zeroValue126
  t146 := Tryd.underlying144
  a146 := Tryd.isAgg144
  z146 := Tryd.sizeOf144
  v146 := Tryd.zeroValue144
  t148 := Tryd.underlying146
  a148 := Tryd.isAgg146
  z148 := Tryd.sizeOf146
  v148 := Tryd.zeroValue146
  t164 := Tryd.underlying141
  a164 := Tryd.isAgg141
  z164 := Tryd.sizeOf141
  v164 := Tryd.zeroValue141 }
theorem Tryd.Builder_Extra_105 : Builder.Extra Tryd.prog Tryd.lays105_ren := {
  sizeBuilder := by kernel_rfl
  liesBuilder := by kernel_rfl
  t5 := Tryd.underlying5
  a5 := Tryd.isAgg5
  z5 := Tryd.sizeOf5
  v5 := Tryd.zeroValue5
  infoByte := by kernel_rfl
  cellsByte := by kernel_rfl
  sizeByte := by kernel_rfl
  neB5 := by decide }
open Go.RowKit Go.Lib in
/-- **strings.Repeat: count ≥ 0, the result within one allocation: count copies of s.** (LAID: no walk: one application.) -/
theorem Tryd.strings_Repeat (s : ByteArray) (c : Nat) (w : World) (hc : c ≤ 9223372036854775807) (hlen : s.size * c ≤ 140737488355328) :
    Calls Tryd.prog 80 #[.string s, .int .i64 c] w fun e w' => e = .returned (.string ⟨(Lib.repeatL s.data.toList c).toArray⟩) ∧ Below w.heap.size w w' := Any.strings_Repeat Tryd.lays105 Tryd.Builder_Extra_105 s c w hc hlen
end Go.Proofs
namespace Go.Proofs.YtldpnmebjnkjeaaDoor.Sha
open Go.RowKit Go.Proofs.YtldpnmebjnkjeaaDoorW.PrintWords
set_option linter.unusedVariables false
set_option linter.unusedSimpArgs false

theorem heap_at1 (w : World) (a b : Obj) : ((w.alloc a).alloc b).heap[w.heap.size + 1]? = some b := by
  have h := heap_alloc_last (w.alloc a) b
  rwa [show (w.alloc a).heap.size = w.heap.size + 1 by simp] at h
namespace Kept
variable {g : Nat} {R : List Value} {w w' w0 : World} {L : List UInt32}
theorem other (h : Kept g R w L w') {k : Nat} (hk : k < w.heap.size) (hne : k ≠ g) : w'.heap[k]? = w.heap[k]? := by
  have hb := h.block k hk
  rw [setRow_other _ _ _ _ hne] at hb
  exact hb
theorem size (h : Kept g R w L w') : w.heap.size ≤ w'.heap.size := by have := Below.size h; simpa using this
theorem below (h : Kept g R w L w') {B : Nat} (hb : Below B w0 w) (hg : B ≤ g) (hB : B ≤ w.heap.size) : Below B w0 w' :=
  (below_setRow hb hg _).trans (Below.mono h hB)
end Kept
theorem clone_calls (s : ByteArray) (w : World) (hlim : s.size ≤ 281474976710656) :
    Calls Tryd.prog 82 #[.string s] w fun e w' => e = .returned (.string s) ∧ Below w.heap.size w w' := by
  go_enter Tryd.func82, Tryd.ntmps82
  go_wp2_with fail
  refine (Tryd.stringslite_Clone s w hlim).mono ?_
  rintro e w' ⟨rfl, hb⟩
  go_wp2_with fail
  go_ret
  exact ⟨rfl, hb⟩
/-- A hash, by value. -/
def hashV (v : V8) (rest : ByteArray) (n : Int) : Value := .agg #[.int .u32 (v.a.toNat : Int), .int .u32 (v.b.toNat : Int), .int .u32 (v.c.toNat : Int), .int .u32 (v.d.toNat : Int), .int .u32 (v.e.toNat : Int), .int .u32 (v.f.toNat : Int), .int .u32 (v.g.toNat : Int), .int .u32 (v.h.toNat : Int), .string rest, .int .i64 n]
/-- What a feed makes. -/
def fedV (v : V8) (rest : ByteArray) (n : Int) (text : ByteArray) : Value :=
  hashV (feedP v (rest.data.toList ++ text.data.toList)).1 ⟨(feedP v (rest.data.toList ++ text.data.toList)).2.toArray⟩ (n + text.size)
/-- What is left to be taken, shut. -/
structure Fd (v u : V8) (all : List UInt8) (s : ByteArray) : Prop where
  eq : feedP u s.data.toList = feedP v all
set_option maxHeartbeats 4000000 in
set_option maxRecDepth 100000 in
theorem fed_calls (v : V8) (rest : ByteArray) (n : Int) (text : ByteArray) (w : World) (hK : KAt w) (hr : rest.size ≤ 4294967296) (ht : text.size ≤ 4294967296) (hn0 : 0 ≤ n) (hn : n ≤ 4294967296) :
    Calls Tryd.prog 54 #[hashV v rest n, .string text] w fun e w' => e = .returned (fedV v rest n text) ∧ Below w.heap.size w w' := by
  unfold fedV hashV
  have hlt : (9223372036854775807 < (rest.size : Int) + (text.size : Int)) = False := by simp; omega
  replace hK := Lib.hid hK
  go_enter Tryd.func54, Tryd.ntmps54
  go_wp2_with fail
  generalize hw1 : (w.alloc _).alloc _ = w1
  have HX : Hid (RowX 31 w.heap.size v.list [.string rest, .int .i64 (n + text.size)] w1) := by
    rw [← hw1]; refine Lib.hid ?_
    unfold RowX
    rw [Below.heap_alloc _ _ _ (by simp)]
    exact heap_alloc_last _ _
  have HZ : Hid (w1.heap[w.heap.size + 1]? = some (.cells [.int .u32 0, .int .u32 0, .int .u32 0, .int .u32 0, .int .u32 0, .int .u32 0, .int .u32 0, .int .u32 0, .string ⟨#[]⟩, .int .i64 0].toArray 31 (0, 0))) := by
    rw [← hw1]; exact heap_at1 _ _ _
  have HB : Hid (Below w.heap.size w w1) := by
    rw [← hw1]; exact Lib.hid (((Below.refl _ _).alloc (Nat.le_refl _) _).alloc (by simp) _)
  have HS : Hid (w.heap.size + 2 ≤ w1.heap.size) := by rw [← hw1]; exact Lib.hid (by simp)
  clear hw1
  have HE : Fd v v (rest.data.toList ++ text.data.toList) (rest ++ text) := ⟨by rw [ByteArray.data_append, Array.toList_append]⟩
  generalize hq : rest.data.toList ++ text.data.toList = all at HE ⊢
  replace hq := Lib.hid hq
  have hsz : (rest ++ text).size ≤ 8589934592 := by rw [ByteArray.size_append]; omega
  generalize rest ++ text = s0 at HE hsz ⊢
  replace hsz := Lib.hid hsz
  generalize hN : n + (text.size : Int) = N at HX ⊢
  replace hN := Lib.hid hN
  replace hlt := Lib.hid hlt
  go_loopw [5] (fun x wr => ∃ (u : V8) (s : ByteArray), x = .string s ∧ Hid (s.size ≤ 8589934592) ∧ Fd v u all s ∧ Hid (RowX 31 w.heap.size u.list [.string rest, .int .i64 N] wr) ∧ Hid (wr.heap[w.heap.size + 1]? = some (.cells [.int .u32 0, .int .u32 0, .int .u32 0, .int .u32 0, .int .u32 0, .int .u32 0, .int .u32 0, .int .u32 0, .string ⟨#[]⟩, .int .i64 0].toArray 31 (0, 0))) ∧ Hid (Below w.heap.size w wr) ∧ Hid (w.heap.size + 2 ≤ wr.heap.size)) (fun x _ => match x with | .string s => s.size | _ => 0)
  case atStart => exact ⟨v, s0, rfl, hsz, HE, HX, HZ, HB, HS⟩
  case round =>
    clear HX HZ HB HS HE hsz
    obtain ⟨u, s, rfl, hsz, HE, HX, HZ, HB, HS⟩ := hrel
    by_cases h64 : 64 ≤ s.size
    · have h64' : (64 : Int) ≤ (s.size : Int) := by omega
      have hs2 : (s.size : Int) ≤ 9223372036854775807 := by have := hsz.out; omega
      have hb64 : (s.extract 0 64).size = 64 := by rw [ByteArray.size_extract]; omega
      replace hb64 := Lib.hid hb64
      go_wp2_with fail
      refine (take_calls w.heap.size u _ _ (s.extract 0 64) hb64.out _ (hK.out.below HB.out) HX.out).mono ?_
      rintro e w2 ⟨rfl, hk⟩
      replace hk := Lib.hid hk
      go_wp2_with fail
      go_roundw
      case rel =>
        have h3 := HS.out
        have hl : s.size = s.data.toList.length := Lib.size_eq s
        refine ⟨_, _, rfl, Lib.hid (by have := hsz.out; rw [ByteArray.size_extract]; omega), ⟨?_⟩, Lib.hid (Kept.row hk.out HX.out (by omega)), Lib.hid ?_, Lib.hid (hk.out.below HB.out (Nat.le_refl _) (by omega)), Lib.hid (by have := hk.out.size; omega)⟩
        · rw [← HE.eq, feedP_ge u s.data.toList (by omega), Lib.extract_data, Lib.extract_data, List.drop_zero, Nat.sub_zero]
          congr 2
          rw [List.take_of_length_le (by rw [List.length_drop]; omega)]
        · rw [hk.out.other (by omega) (by omega)]; exact HZ.out
      case measure => simp; omega
    · have h64' : (s.size : Int) < 64 := by omega
      have hl : s.size = s.data.toList.length := Lib.size_eq s
      have hF : feedP v all = (u, s.data.toList) := by rw [← HE.eq, feedP_lt u _ (by omega)]
      replace hl := Lib.hid hl
      replace hF := Lib.hid hF
      have hs9 := hsz.out
      go_wp2_with fail
      refine (clone_calls s wr (by omega)).mono ?_
      rintro e w2 ⟨rfl, hb⟩
      replace HX : Hid (RowX 31 w.heap.size u.list [.string rest, .int .i64 N] w2) := Lib.hid (blk_below HX.out hb)
      replace HZ : Hid (w2.heap[w.heap.size + 1]? = some (.cells [.int .u32 0, .int .u32 0, .int .u32 0, .int .u32 0, .int .u32 0, .int .u32 0, .int .u32 0, .int .u32 0, .string ⟨#[]⟩, .int .i64 0].toArray 31 (0, 0))) := Lib.hid (blk_below HZ.out hb)
      replace HB : Hid (Below w.heap.size w w2) := Lib.hid (HB.out.trans (Below.mono hb HB.out.size))
      clear hb hK HS HE
      have x0 : w2.cell? ⟨w.heap.size, 0, none⟩ = some (.int .u32 (u.a.toNat : Int)) := HX.out.cell 0 (by show 0 < 8; omega)
      have x1 : w2.cell? ⟨w.heap.size, 1, none⟩ = some (.int .u32 (u.b.toNat : Int)) := HX.out.cell 1 (by show 1 < 8; omega)
      have x2 : w2.cell? ⟨w.heap.size, 2, none⟩ = some (.int .u32 (u.c.toNat : Int)) := HX.out.cell 2 (by show 2 < 8; omega)
      have x3 : w2.cell? ⟨w.heap.size, 3, none⟩ = some (.int .u32 (u.d.toNat : Int)) := HX.out.cell 3 (by show 3 < 8; omega)
      have x4 : w2.cell? ⟨w.heap.size, 4, none⟩ = some (.int .u32 (u.e.toNat : Int)) := HX.out.cell 4 (by show 4 < 8; omega)
      have x5 : w2.cell? ⟨w.heap.size, 5, none⟩ = some (.int .u32 (u.f.toNat : Int)) := HX.out.cell 5 (by show 5 < 8; omega)
      have x6 : w2.cell? ⟨w.heap.size, 6, none⟩ = some (.int .u32 (u.g.toNat : Int)) := HX.out.cell 6 (by show 6 < 8; omega)
      have x7 : w2.cell? ⟨w.heap.size, 7, none⟩ = some (.int .u32 (u.h.toNat : Int)) := HX.out.cell 7 (by show 7 < 8; omega)
      have x8 : w2.cell? ⟨w.heap.size, 8, none⟩ = some (.string rest) := by rw [cell_of_row _ _ _ _ _ _ HX.out]; rfl
      have x9 : w2.cell? ⟨w.heap.size, 9, none⟩ = some (.int .i64 N) := by rw [cell_of_row _ _ _ _ _ _ HX.out]; rfl
      have z0 : w2.cell? ⟨w.heap.size + 1, 0, none⟩ = some (.int .u32 0) := by rw [cell_of_row _ _ _ _ _ _ HZ.out]; rfl
      have z1 : w2.cell? ⟨w.heap.size + 1, 1, none⟩ = some (.int .u32 0) := by rw [cell_of_row _ _ _ _ _ _ HZ.out]; rfl
      have z2 : w2.cell? ⟨w.heap.size + 1, 2, none⟩ = some (.int .u32 0) := by rw [cell_of_row _ _ _ _ _ _ HZ.out]; rfl
      have z3 : w2.cell? ⟨w.heap.size + 1, 3, none⟩ = some (.int .u32 0) := by rw [cell_of_row _ _ _ _ _ _ HZ.out]; rfl
      have z4 : w2.cell? ⟨w.heap.size + 1, 4, none⟩ = some (.int .u32 0) := by rw [cell_of_row _ _ _ _ _ _ HZ.out]; rfl
      have z5 : w2.cell? ⟨w.heap.size + 1, 5, none⟩ = some (.int .u32 0) := by rw [cell_of_row _ _ _ _ _ _ HZ.out]; rfl
      have z6 : w2.cell? ⟨w.heap.size + 1, 6, none⟩ = some (.int .u32 0) := by rw [cell_of_row _ _ _ _ _ _ HZ.out]; rfl
      have z7 : w2.cell? ⟨w.heap.size + 1, 7, none⟩ = some (.int .u32 0) := by rw [cell_of_row _ _ _ _ _ _ HZ.out]; rfl
      have z8 : w2.cell? ⟨w.heap.size + 1, 8, none⟩ = some (.string ⟨#[]⟩) := by rw [cell_of_row _ _ _ _ _ _ HZ.out]; rfl
      have z9 : w2.cell? ⟨w.heap.size + 1, 9, none⟩ = some (.int .i64 0) := by rw [cell_of_row _ _ _ _ _ _ HZ.out]; rfl
      have xf := HX.out.f
      have zf : ∀ i, w2.frozen? ⟨w.heap.size + 1, i, none⟩ = false := fun i => frozen_of_row w2 (w.heap.size + 1) i _ _ HZ.out
      go_wp2_with fail
      refine bodyPost_ret (v := .agg #[.int .u32 (u.a.toNat : Int), .int .u32 (u.b.toNat : Int), .int .u32 (u.c.toNat : Int), .int .u32 (u.d.toNat : Int), .int .u32 (u.e.toNat : Int), .int .u32 (u.f.toNat : Int), .int .u32 (u.g.toNat : Int), .int .u32 (u.h.toNat : Int), .string s, .int .i64 N]) (by simp [results, Tryd.results54, go_sem, z0, z1, z2, z3, z4, z5, z6, z7, z8, z9, zf]) rfl ⟨?_, ?_⟩
      · rw [hq.out, hF.out, hN.out]
      · repeat (refine Below.setCell ?_ (by simp) _)
        exact HB.out
end Go.Proofs.YtldpnmebjnkjeaaDoor.Sha
namespace Go.Proofs.YtldpnmebjnkjeaaDoor
open Go.RowKit
set_option linter.unusedVariables false
set_option linter.unusedSimpArgs false

/-- The slice v holds the bytes l, in a block from base on, whose cells up to the capacity are there and may be written. -/
def OB (base : Nat) (v : Value) (l : List UInt8) (w : World) : Prop :=
  ∃ g cap cur t fr, v = .slice (some ⟨g, 0, none⟩) l.length cap ∧ base ≤ g ∧ l.length ≤ cap ∧ w.heap[g]? = some (.cells cur t fr) ∧ cap ≤ cur.size ∧ (∀ (j : Nat) (u : Value), (Lib.byteCells l)[j]? = some u → cur[j]? = some u) ∧ (∀ j : Nat, j < cap → w.frozen? ⟨g, j, none⟩ = false)
namespace OB
variable {base : Nat} {v : Value} {l : List UInt8} {w w1 : World}
theorem step (h : OB base v l w) (hb : ∀ g, base ≤ g → g < w.heap.size → w1.heap[g]? = w.heap[g]?) : OB base v l w1 := by
  obtain ⟨g, cap, cur, t, fr, hv, hg, hc, hr, hs, hl, hf⟩ := h
  have hlt : g < w.heap.size := by
    rcases Nat.lt_or_ge g w.heap.size with h1 | h1
    · exact h1
    · rw [Array.getElem?_eq_none h1] at hr; cases hr
  have e := hb g hg hlt
  exact ⟨g, cap, cur, t, fr, hv, hg, hc, e.trans hr, hs, hl, fun j hj => (World.frozen?_of_block (a := ⟨g, j, none⟩) e).trans (hf j hj)⟩
theorem below (h : OB base v l w) (hb : Below w.heap.size w w1) : OB base v l w1 := h.step fun g _ hg => hb.block g hg
theorem alloc (h : OB base v l w) (o : Obj) : OB base v l (w.alloc o) := h.step fun g _ hg => Below.heap_alloc _ _ _ hg
theorem far (h : OB base v l w) {p : Addr} (hp : p.block < base) (u : Value) : OB base v l (w.setCell p u) := h.step fun g hg _ => Below.heap_setCell _ _ _ _ (by omega)
theorem lower (h : OB base v l w) {b0 : Nat} (hb : b0 ≤ base) : OB b0 v l w := by
  obtain ⟨g, cap, cur, t, fr, hv, hg, r⟩ := h
  exact ⟨g, cap, cur, t, fr, hv, by omega, r⟩
theorem slice (h : OB base v l w) : ∃ g cap, v = .slice (some ⟨g, 0, none⟩) l.length cap := by
  obtain ⟨g, cap, cur, t, fr, hv, r⟩ := h
  exact ⟨g, cap, hv⟩
theorem conv (w : World) (e : TypeId) (s : ByteArray) : OB w.heap.size (.slice (some ⟨w.heap.size, 0, none⟩) s.size (grownCap w s.size 0 e)) s.data.toList (Lib.bytesWorld w e s) := by
  have hl : s.size = s.data.toList.length := Lib.size_eq s
  have hg := grownCap_ge w s.size 0 e
  have hC : (Lib.bytesCells w e s).size = grownCap w s.size 0 e := by
    unfold Lib.bytesCells
    rw [Array.size_append, Array.size_map, Array.size_replicate]
    show s.size + _ = _
    omega
  refine ⟨w.heap.size, grownCap w s.size 0 e, _, _, _, by rw [hl], Nat.le_refl _, by omega, Lib.bytesWorld_at_new w e s, by omega, fun j u hj => ?_, fun j hj => ?_⟩
  · have hj' : j < s.data.toList.length := by
      have := (List.getElem?_eq_some_iff.1 hj).1
      simpa [Lib.byteCells] using this
    rw [← hj]
    unfold Lib.bytesCells Lib.byteCells
    rw [Array.getElem?_append_left (by rw [Array.size_map]; simpa using hj')]
    simp
  · unfold World.frozen?
    rw [Lib.bytesWorld_at_new w e s]
    simp only [hC]
    have : ¬ (grownCap w s.size 0 e ≤ j) := by omega
    simp [this]
end OB
theorem u8_info : ∃ i : TypeInfo, Tryd.prog.info? 5 = some i ∧ i.zero = some (.int .u8 0) ∧ i.size = 1 ∧ i.bytes = 1 := by
  have h : (Tryd.prog.info? 5).map (fun i => (i.zero, i.size, i.bytes)) = some (some (.int .u8 0), 1, 1) := by kernel_rfl
  cases hq : Tryd.prog.info? 5 with
  | none => rw [hq] at h; cases h
  | some i =>
    rw [hq] at h
    have h3 := Option.some.inj h
    exact ⟨i, rfl, congrArg Prod.fst h3, congrArg (fun p => p.2.1) h3, congrArg (fun p => p.2.2) h3⟩
/-- One byte more. -/
theorem run_append_byte {base : Nat} {v : Value} {l : List UInt8} {w : World} (h : OB base v l w) (ty : TypeId) (ad : Addr) (b : UInt8) (hx : w.cell? ad = some (.int .u8 (b.toNat : Int))) (hbase : base ≤ w.heap.size) (hl : l.length ≤ 1073741824) :
    ∃ v' w', (Builtin.append_ #[22, 22] ty #[v, .slice (some ad) 1 1]).run Tryd.prog w = .ok v' w' ∧ OB base v' (l ++ [b]) w' ∧ Below base w w' := by
  obtain ⟨g, cap, cur, t, fr, rfl, hg, hc, hr, hcs, hcur, hf⟩ := h
  obtain ⟨i, hi, hz, h1, hb1⟩ := u8_info
  have ht : Tryd.prog.underlying 22 = some (.slice 5) := by kernel_rfl
  have hsp : ad.spot = none := by
    unfold World.cell? at hx
    split at hx
    · split at hx
      · cases hx
      · rename_i h; simpa using h
    · cases hx
  have hS : Src Tryd.prog i.size 22 (.slice (some ad) 1 1) 1 [.int .u8 (b.toNat : Int)] w := by
    rw [h1]
    refine Src.ofSlice w ht ad 1 1 _ rfl (fun j u hj => ?_) (by intro u hu; simp at hu; subst hu; rfl)
    cases j with
    | zero =>
      have ha : ad.add 0 = ad := by unfold Addr.add; cases ad; simp_all
      rw [← hj, ha]; exact hx
    | succ j => simp at hj
  by_cases hroom : l.length + 1 ≤ cap
  · have hcell : (w.cell? ⟨g, l.length, none⟩).isSome = true := by
      unfold World.cell?
      simp only [hr]
      simp
      omega
    have hrun := run_append_room_src (P := Tryd.prog) w 22 22 ty 5 i ht hi g 0 l.length cap (.slice (some ad) 1 1) 1 [.int .u8 (b.toNat : Int)] hS hroom
      (by intro j hj; simp at hj; subst hj; rw [h1]; simpa using hcell) (by intro j hj; simp at hj; subst hj; rw [h1]; simpa using hf l.length (by omega))
    rw [h1] at hrun
    simp only [Nat.zero_add, Nat.mul_one] at hrun
    refine ⟨_, _, hrun, ⟨g, cap, cur.setIfInBounds l.length (.int .u8 (b.toNat : Int)), t, fr, by rw [List.length_append]; rfl, hg, by rw [List.length_append]; exact hroom, ?_, by simpa using hcs, fun j u hj => ?_, fun j hj => ?_⟩, ?_⟩
    · show (w.setCell _ _).heap[g]? = _
      rw [World.setCell]
      simp only [Array.getElem?_modify, if_true, hr, Option.map_some]
      rfl
    · rw [Lib.byteCells, List.map_append] at hj
      rcases Nat.lt_trichotomy j l.length with h2 | h2 | h2
      · rw [List.getElem?_append_left (by simpa using h2)] at hj
        rw [Array.getElem?_setIfInBounds_ne (by omega)]
        exact hcur j u hj
      · subst h2
        rw [List.getElem?_append_right (by simp)] at hj
        simp at hj
        rw [Array.getElem?_setIfInBounds_self_of_lt (by omega), ← hj]
      · rw [List.getElem?_eq_none (by simp; omega)] at hj; cases hj
    · exact (World.frozen?_setCell _ _ _ _).trans (hf j hj)
    · exact (Below.refl _ _).setCell hg _
  · have hlc : cap = l.length := by omega
    have hold : (Builtin.firstCells i.size l.length (.slice (some ⟨g, 0, none⟩) l.length cap)).run Tryd.prog w.drew = .ok (Lib.byteCells l).toArray w.drew := by
      refine run_firstCells_some w.drew i.size l.length ⟨g, 0, none⟩ l.length cap (Lib.byteCells l) (by rw [h1]; simp [Lib.byteCells]) (fun j u hj => ?_)
      have hh : (⟨g, 0, none⟩ : Addr).add j = ⟨g, j, none⟩ := by unfold Addr.add; simp; omega
      rw [hh]
      show w.cell? _ = _
      rw [cell_of_row _ _ _ _ _ _ hr]
      exact hcur j u hj
    have hrun := run_append_grow_src (P := Tryd.prog) w 22 22 ty 5 i (.int .u8 0) ht hi hz (some ⟨g, 0, none⟩) l.length cap (Lib.byteCells l) hold (.slice (some ad) 1 1) 1 [.int .u8 (b.toNat : Int)] hS (by omega) (by omega) (by rw [hb1]; exact growslice_fits (by omega) (by omega))
    have hgc := grownCap_ge w (l.length + 1) cap 5
    refine ⟨_, _, hrun, ⟨w.heap.size, _, _, _, _, by rw [List.length_append]; rfl, hbase, by rw [List.length_append]; exact hgc, heap_alloc_last _ _, ?_, fun j u hj => ?_, fun j hj => ?_⟩, ((Below.refl _ _).drew).alloc hbase _⟩
    · simp [Builtin.zeroCells, Lib.byteCells, Value.cells]
      omega
    · have hj' := (List.getElem?_eq_some_iff.1 hj).1
      rw [Array.getElem?_append_left (by simpa [Lib.byteCells] using hj'), List.getElem?_toArray, ← hj]
      simp [Lib.byteCells]
    · exact World.frozen?_alloc_new _ _ _ _
theorem wpList_append_byte {ops : Array Oper} {rest : List Oper} {o : Oper} {a : Act} {Q : Exit → Act → World → Prop} {w : World} (hgd : o.guard = none) (s x : Operand)
    (ho : o.op = .call { callee := .builtin .append, args := #[s, x], argTypes := #[22, 22] }) {base : Nat} {v : Value} {l : List UInt8} (hv : a.eval s = v) (hown : OB base v l w) (ad : Addr) (hx : a.eval x = .slice (some ad) 1 1)
    (b : UInt8) (hc : w.cell? ad = some (.int .u8 (b.toNat : Int))) (hbase : base ≤ w.heap.size) (hl : l.length ≤ 1073741824)
    (h : ∀ v' w', Hid (OB base v' (l ++ [b]) w') → Below base w w' → wpList Tryd.prog ops Q rest (a.put o.dst v') w') : wpList Tryd.prog ops Q (o :: rest) a w := by
  refine wpList_plain hgd fun K hK => ?_
  obtain ⟨v', w', hrun, h1, h2⟩ := run_append_byte hown o.type ad b hc hbase hl
  unfold Oper.wp
  simp [execOp, ho, resolve, invoke, builtin, hv, hx, hrun, Result.andThen]
  exact hK _ _ (h v' w' h1 h2)
/-- The bytes as a string. -/
theorem OB.string {base : Nat} {v : Value} {l : List UInt8} {w : World} (h : OB base v l w) : (convert 22 9 v).run Tryd.prog w = .ok (.string ⟨l.toArray⟩) w := by
  obtain ⟨g, cap, cur, t, fr, rfl, hg, hc, hr, hcs, hcur, hf⟩ := h
  refine Go.run_convert_bytes_back w 22 9 5 ⟨g, 0, none⟩ cap l (by kernel_rfl) (by kernel_rfl) (by kernel_rfl) ?_
  intro j hj
  have hh : (⟨g, 0, none⟩ : Addr).add j = ⟨g, j, none⟩ := by unfold Addr.add; simp; omega
  rw [hh, cell_of_row _ _ _ _ _ _ hr]
  exact hcur j _ (by simp [Lib.byteCells, hj])
/-- '[]byte(s)', as a step of a list. -/
theorem wpList_convert_bytes {ops : Array Oper} {rest : List Oper} {o : Oper} {a : Act} {Q : Exit → Act → World → Prop} {w : World} (hgd : o.guard = none) (x : Operand) (ho : o.op = .convert 9 22 x) (s : ByteArray) (hx : a.eval x = .string s)
    (h : ∀ v W, Hid (OB w.heap.size v s.data.toList W) → Below w.heap.size w W → wpList Tryd.prog ops Q rest (a.put o.dst v) W) : wpList Tryd.prog ops Q (o :: rest) a w := by
  refine wpList_plain hgd fun K hK => ?_
  unfold Oper.wp execOp
  simp only [ho, hx, Sem.run_bind, Sem.run_pure, Result.andThen_ok, Lib.run_convert_string_bytes w 9 22 5 s (show Tryd.prog.underlying 9 = some .string by kernel_rfl) (show Tryd.prog.underlying 22 = some (.slice 5) by kernel_rfl) (show Tryd.prog.underlying 5 = some (.int .u8) by kernel_rfl), Oper.upon]
  exact hK _ _ (h _ _ (Lib.hid (OB.conv w _ s)) ⟨rfl, rfl, rfl, by rw [Lib.bytesWorld_size]; omega, fun k hk => Lib.bytesWorld_at_old w _ s k hk⟩)
theorem all_bytes (l : List UInt8) : ((Lib.byteCells l).toArray).all (·.oneCell') = true := all_oneCell_toArray (Lib.byteCells_one _)
theorem wpList_load_dig {ops : Array Oper} {rest : List Oper} {o : Oper} {a : Act} {Q : Exit → Act → World → Prop} {w : World} (hgd : o.guard = none) (x : Operand) (ho : o.op = .load 24 x) (b : Nat) (hx : a.eval x = .pointer (some ⟨b, 0, none⟩))
    (l : List UInt8) (hl : l.length = 32) (t : TypeId) (fr : Nat × Nat) (hr : w.heap[b]? = some (.cells (Lib.byteCells l).toArray t fr)) (h : wpList Tryd.prog ops Q rest (a.put o.dst (.agg (Lib.byteCells l).toArray)) w) : wpList Tryd.prog ops Q (o :: rest) a w := by
  refine wpList_load_mid hgd 24 x ho b 0 hx (Lib.byteCells l) (.array 32 5) ?_ (by kernel_rfl) rfl (by rw [Lib.byteCells, List.length_map, hl]; kernel_rfl) h
  intro j v hv
  rw [Nat.zero_add, cell_of_row _ _ _ _ _ _ hr]
  simpa using hv
theorem wpList_store_dig {ops : Array Oper} {rest : List Oper} {o : Oper} {a : Act} {Q : Exit → Act → World → Prop} {w : World} (hgd : o.guard = none) (x y : Operand) (ho : o.op = .store 24 x y) (b : Nat) (hx : a.eval x = .pointer (some ⟨b, 0, none⟩))
    (l : List UInt8) (hl : l.length = 32) (hy : a.eval y = .agg (Lib.byteCells l).toArray) (old : Array Value) (t : TypeId) (hr : w.heap[b]? = some (.cells old t (0, 0))) (hs : old.size = 32)
    (h : ∀ w', Hid (w'.heap[b]? = some (.cells (Lib.byteCells l).toArray t (0, 0))) → (∀ k, k ≠ b → w'.heap[k]? = w.heap[k]?) → (∀ {B : Nat} {w0 : World}, Below B w0 w → B ≤ b → Below B w0 w') → wpList Tryd.prog ops Q rest (a.put o.dst undef) w') : wpList Tryd.prog ops Q (o :: rest) a w := by
  refine wpList_plain hgd fun _ hK => ?_
  have hX : ((Lib.byteCells l).toArray).size = 32 := by rw [List.size_toArray, Lib.byteCells, List.length_map, hl]
  unfold Oper.wp execOp
  simp only [ho, hx, hy, Instr.storeAt, Instr.sureAddr, Sem.run_bind, Sem.run_pure, Result.andThen_ok, run_storeVar_row w _ _ _ _ _ hr (show (Tryd.prog.info? 24).map (·.size) = some ((Lib.byteCells l).toArray).size by rw [hX]; kernel_rfl) (by rw [hX, hs]) (all_bytes l)]
  refine hK _ _ (h _ (setRow_heap w b _ _ _ _ hr) (fun k hk => setRow_other _ _ _ _ hk) (fun {B w0} hb hB => hb.trans ⟨rfl, rfl, rfl, by simp, fun k hk => setRow_other _ _ _ _ (by omega)⟩))
theorem run_load_dig {w : World} {b : Nat} {l : List UInt8} {t : TypeId} {fr : Nat × Nat} (hr : w.heap[b]? = some (.cells (Lib.byteCells l).toArray t fr)) (hl : l.length = 32) :
    (loadVar 24 ⟨b, 0, none⟩).run Tryd.prog w = .ok (.agg (Lib.byteCells l).toArray) w := by
  refine run_loadVar_mid w b 0 24 (Lib.byteCells l) (.array 32 5) ?_ (by kernel_rfl) rfl (by rw [Lib.byteCells, List.length_map, hl]; kernel_rfl)
  intro j v hv
  rw [Nat.zero_add, cell_of_row _ _ _ _ _ _ hr]
  simpa using hv
theorem run_index_dig (l : List UInt8) (hl : l.length = 32) (j : Nat) (hj : j < 32) (x : UInt8) (hx : l[j]? = some x) (w : World) :
    (Instr.index 24 (.agg (Lib.byteCells l).toArray) (.int .i64 (j : Int))).run Tryd.prog w = .ok (.int .u8 (x.toNat : Int)) w := by
  have hcl : (Lib.byteCells l)[j]? = some (.int .u8 (x.toNat : Int)) := by rw [Lib.byteCells, List.getElem?_map, hx]; rfl
  simp [Instr.index, run_underlying (show Tryd.prog.underlying 24 = some (.array 32 5) by kernel_rfl), asIntOf, hj, Tryd.sizeOf5, part, Tryd.isAgg5, hcl]
end Go.Proofs.YtldpnmebjnkjeaaDoor
namespace Go.Proofs.YtldpnmebjnkjeaaDoor.Sha
open Go.RowKit Go.Proofs.YtldpnmebjnkjeaaDoorW.PrintWords
set_option linter.unusedVariables false
set_option linter.unusedSimpArgs false

def tailN (n j : Nat) : List UInt8 := 128 :: List.replicate ((119 - n % 64) % 64) 0 ++ (be8 (8 * n)).take j
def bt8 (n j : Nat) : UInt8 := UInt8.ofNat (8 * n / 2 ^ (56 - 8 * j))
theorem bt8_eq (n j : Nat) : (n : Int) * 8 / 2 ^ (56 - 8 * j) % 256 = ((bt8 n j).toNat : Int) := by
  unfold bt8
  rw [UInt8.toNat_ofNat', Nat.mul_comm 8 n, Int.natCast_emod, Int.natCast_ediv, Int.natCast_mul, Int.natCast_pow]
  rfl
theorem tailN_len (n j : Nat) (h : j ≤ 8) : (tailN n j).length = 1 + (119 - n % 64) % 64 + j := by simp [tailN, be8]; omega
theorem tailN_next (n j : Nat) (h : j < 8) : tailN n j ++ [bt8 n j] = tailN n (j + 1) := by
  have hl : j < (be8 (8 * n)).length := by simp [be8]; exact h
  unfold tailN
  rw [List.append_assoc, List.take_succ_eq_append_getElem hl]
  congr 2
  simp [be8, bt8]
theorem tailN_all (n : Nat) : tailN n 8 = tailL n := by
  unfold tailN tailL
  rw [List.take_of_length_le (by simp [be8])]
  rfl
theorem set_row {w : World} {g : Nat} {L : List Value} {t : TypeId} {fr : Nat × Nat} (h : w.heap[g]? = some (.cells L.toArray t fr)) (i : Nat) (x : Value) : (w.setCell ⟨g, i, none⟩ x).heap[g]? = some (.cells (L.set i x).toArray t fr) := by
  rw [World.setCell]
  simp only [Array.getElem?_modify, if_true, h, Option.map_some]
  simp
/-- All ten cells of a hash written. -/
theorem set_ten {w : World} {g : Nat} {L : List Value} {t : TypeId} {fr : Nat × Nat} (h : w.heap[g]? = some (.cells L.toArray t fr)) (hl : L.length = 10) (x0 x1 x2 x3 x4 x5 x6 x7 x8 x9 : Value) :
    ((((((((((w.setCell ⟨g, 0, none⟩ x0).setCell ⟨g, 1, none⟩ x1).setCell ⟨g, 2, none⟩ x2).setCell ⟨g, 3, none⟩ x3).setCell ⟨g, 4, none⟩ x4).setCell ⟨g, 5, none⟩ x5).setCell ⟨g, 6, none⟩ x6).setCell ⟨g, 7, none⟩ x7).setCell ⟨g, 8, none⟩ x8).setCell ⟨g, 9, none⟩ x9).heap[g]? = some (.cells #[x0, x1, x2, x3, x4, x5, x6, x7, x8, x9] t fr) := by
  rw [set_row (set_row (set_row (set_row (set_row (set_row (set_row (set_row (set_row (set_row h 0 x0) 1 x1) 2 x2) 3 x3) 4 x4) 5 x5) 6 x6) 7 x7) 8 x8) 9 x9]
  match L, hl with
  | [a0, a1, a2, a3, a4, a5, a6, a7, a8, a9], _ => rfl
/-- The first i bytes of the digest. -/
def dN (u : V8) (i : Nat) : List UInt8 := (digL u).take i ++ List.replicate (32 - i) 0
theorem dN_len (u : V8) (i : Nat) (h : i ≤ 32) : (dN u i).length = 32 := by simp [dN, digL]; omega
theorem dN_next (u : V8) (i : Nat) (h : i < 32) : (dN u i).set i (dig u i) = dN u (i + 1) := by
  have hl : i < (digL u).length := by rw [digL_len]; exact h
  unfold dN
  rw [List.set_append_right _ _ (by rw [List.length_take]; omega), List.length_take, show i - min i (digL u).length = 0 by omega, show 32 - i = (32 - (i + 1)) + 1 by omega, List.replicate_succ, List.set_cons_zero, List.take_succ_eq_append_getElem hl, List.append_assoc]
  congr 2
  simp [digL]
theorem dN_all (u : V8) : dN u 32 = digL u := by
  unfold dN
  rw [List.take_of_length_le (by rw [digL_len]; omega)]
  simp
theorem dN_zero (u : V8) : dN u 0 = List.replicate 32 0 := rfl
theorem dN_cells (u : V8) : (Lib.byteCells (dN u 0)).toArray = Array.replicate 32 (.int .u8 0) := by rw [dN_zero]; rfl
theorem dig_eq (u : V8) (i : Nat) : ((u.list.getD (i / 4) 0).toNat : Int) / 2 ^ (24 - i % 4 * 8) % 256 = ((dig u i).toNat : Int) := by
  unfold dig
  rw [UInt8.toNat_ofNat', Nat.mul_comm 8, Int.natCast_emod, Int.natCast_ediv, Int.natCast_pow]
  rfl
theorem repeat_one (b : UInt8) : ∀ n, Lib.repeatL (⟨#[b]⟩ : ByteArray).data.toList n = List.replicate n b := by
  intro n
  induction n with
  | zero => rfl
  | succ n ih => rw [List.replicate_succ, ← ih]; rfl
set_option maxHeartbeats 8000000 in
set_option maxRecDepth 100000 in
theorem ended_calls (v : V8) (rest : ByteArray) (n : Nat) (w : World) (hK : KAt w) (hr : rest.size ≤ 1048576) (hn : n ≤ 4294967296) :
    Calls Tryd.prog 52 #[hashV v rest n] w fun e w' => e = .returned (.agg (Lib.byteCells (endP v rest.data.toList n)).toArray) ∧ Below w.heap.size w w' := by
  unfold hashV
  replace hK := Lib.hid hK
  go_enter Tryd.func52, Tryd.ntmps52
  go_wp2_with fail
  have hmz : ((119 - (n : Int)) % 64) = (((119 - n % 64) % 64 : Nat) : Int) := by omega
  rw [hmz]
  clear hmz
  generalize hw1 : (w.alloc _).alloc _ = w1
  have HX : Hid (RowX 31 w.heap.size v.list [.string rest, .int .i64 n] w1) := by
    rw [← hw1]; refine Lib.hid ?_
    unfold RowX
    rw [Below.heap_alloc _ _ _ (by simp)]
    exact heap_alloc_last _ _
  have HZ : Hid (w1.heap[w.heap.size + 1]? = some (.cells (Array.replicate 32 (.int .u8 0)) 24 (0, 0))) := by
    rw [← hw1]; exact heap_at1 _ _ _
  have HB : Hid (Below w.heap.size w w1) := by
    rw [← hw1]; exact Lib.hid (((Below.refl _ _).alloc (Nat.le_refl _) _).alloc (by simp) _)
  have HS : Hid (w.heap.size + 2 ≤ w1.heap.size) := by rw [← hw1]; exact Lib.hid (by simp)
  clear hw1
  refine (Tryd.strings_Repeat ⟨#[0]⟩ ((119 - n % 64) % 64) w1 (by omega) (by show 1 * _ ≤ _; omega)).mono ?_
  rintro e w2 ⟨rfl, hb⟩
  replace HX : Hid (RowX 31 w.heap.size v.list [.string rest, .int .i64 n] w2) := Lib.hid (blk_below HX.out hb)
  replace HZ : Hid (w2.heap[w.heap.size + 1]? = some (.cells (Array.replicate 32 (.int .u8 0)) 24 (0, 0))) := Lib.hid (blk_below HZ.out hb)
  replace HB : Hid (Below w.heap.size w w2) := Lib.hid (HB.out.trans (Below.mono hb HB.out.size))
  replace HS : Hid (w.heap.size + 2 ≤ w2.heap.size) := Lib.hid (Nat.le_trans HS.out hb.size)
  clear hb w1
  have hrz : (Lib.repeatL (⟨#[0]⟩ : ByteArray).data.toList ((119 - n % 64) % 64)) = List.replicate ((119 - n % 64) % 64) 0 := repeat_one _ _
  rw [hrz]
  clear hrz
  generalize hZ : (⟨(List.replicate ((119 - n % 64) % 64) (0 : UInt8)).toArray⟩ : ByteArray) = zs
  have hzl : zs.size = (119 - n % 64) % 64 := by rw [← hZ]; simp [ByteArray.size]
  have hlt : (9223372036854775807 < ((⟨#[128]⟩ : ByteArray).size : Int) + (zs.size : Int)) = False := eq_false (by rw [show ((⟨#[128]⟩ : ByteArray).size) = 1 from rfl]; omega)
  have hz1 : zs.size ≤ 64 := by omega
  replace hzl := Lib.hid hzl
  replace hZ := Lib.hid hZ
  go_wp2_with (refine wpList_convert_bytes (o := ⟨some 19, _, _, _, _, _⟩) rfl (.tmp 18) rfl (⟨#[128]⟩ ++ zs) rfl ?_; intro v4 w3 hown hb3)
  have hT0 : (⟨#[128]⟩ ++ zs : ByteArray).data.toList = 128 :: List.replicate ((119 - n % 64) % 64) 0 := by
    rw [ByteArray.data_append, Array.toList_append, ← hZ.out]
    rfl
  rw [hT0, show (128 :: List.replicate ((119 - n % 64) % 64) 0 : List UInt8) = tailN n 0 by simp [tailN]] at hown
  replace hT0 := Lib.hid hT0
  replace HX : Hid (RowX 31 w.heap.size v.list [.string rest, .int .i64 n] w3) := Lib.hid (blk_below HX.out hb3)
  replace HZ : Hid (w3.heap[w.heap.size + 1]? = some (.cells (Array.replicate 32 (.int .u8 0)) 24 (0, 0))) := Lib.hid (blk_below HZ.out hb3)
  replace HB : Hid (Below w.heap.size w w3) := Lib.hid (HB.out.trans (Below.mono hb3 HB.out.size))
  have HO : Hid (OB (w.heap.size + 2) v4 (tailN n 0) w3) := Lib.hid (hown.out.lower HS.out)
  replace HS : Hid (w.heap.size + 2 ≤ w3.heap.size) := Lib.hid (Nat.le_trans HS.out hb3.size)
  clear hb3 hown hlt
  go_loopw [4, 20] (fun x i wr => ∃ j : Nat, j ≤ 8 ∧ i = .int .i64 j ∧ Hid (OB (w.heap.size + 2) x (tailN n j) wr) ∧ Hid (RowX 31 w.heap.size v.list [.string rest, .int .i64 n] wr) ∧ Hid (wr.heap[w.heap.size + 1]? = some (.cells (Array.replicate 32 (.int .u8 0)) 24 (0, 0))) ∧ Hid (Below w.heap.size w wr) ∧ Hid (w.heap.size + 2 ≤ wr.heap.size)) (fun _ i _ => 8 - (intOf i).toNat)
  case atStart => exact ⟨0, by omega, rfl, HO, HX, HZ, HB, HS⟩
  case round =>
    clear HO HX HZ HB HS
    rename_i x4 _ _
    obtain ⟨j, hj, rfl, HO, HX, HZ, HB, HS⟩ := hrel
    by_cases h8 : j < 8
    · have k8 : (j : Int) < 8 := by omega
      have hS := HS.out
      have hcb : (n : Int) * 8 / 2 ^ (56 - 8 * j) % 256 = ((bt8 n j).toNat : Int) := bt8_eq n j
      have hlb : (tailN n j).length ≤ 1073741824 := by rw [tailN_len n j (by omega)]; omega
      have Hc : (wr.alloc (.cells #[.int .u8 ((n : Int) * 8 / 2 ^ (56 - 8 * j) % 256)] 5)).cell? ⟨wr.heap.size, 0, none⟩ = some (.int .u8 ((bt8 n j).toNat : Int)) := by
        rw [hcb, cell_of_row _ _ _ _ _ _ (heap_alloc_last _ _)]; rfl
      replace Hc := Lib.hid Hc
      clear hcb
      replace hlb := Lib.hid hlb
      go_wp2_with (refine wpList_append_byte (o := ⟨some 31, _, _, _, _, _⟩) rfl (.tmp 23) (.tmp 30) rfl rfl (HO.out.alloc _) ⟨wr.heap.size, 0, none⟩ rfl (bt8 n j) Hc.out (by simp; omega) hlb.out ?_; intro v5 w5 hown5 hb5)
      go_roundw
      case rel =>
        rw [tailN_next n j h8] at hown5
        have hba : Below (w.heap.size + 2) wr w5 := ((Below.refl _ _).alloc hS _).trans hb5
        refine ⟨j + 1, by omega, by go_num, hown5, Lib.hid ?_, Lib.hid ?_, Lib.hid (HB.out.trans (hba.mono (by omega))), Lib.hid (Nat.le_trans hS hba.size)⟩
        · unfold RowX; rw [hba.block _ (by omega)]; exact HX.out
        · rw [hba.block _ (by omega)]; exact HZ.out
      case measure => simp [intOf]; omega
    · obtain rfl : j = 8 := by omega
      clear hj h8
      have hT8 : tailN n 8 = tailL n := tailN_all n
      rw [hT8] at HO
      have hcs := HO.out.string
      obtain ⟨g4, c4, rfl⟩ := HO.out.slice
      have x0 : wr.cell? ⟨w.heap.size, 0, none⟩ = some (.int .u32 (v.a.toNat : Int)) := HX.out.cell 0 (by show 0 < 8; omega)
      have x1 : wr.cell? ⟨w.heap.size, 1, none⟩ = some (.int .u32 (v.b.toNat : Int)) := HX.out.cell 1 (by show 1 < 8; omega)
      have x2 : wr.cell? ⟨w.heap.size, 2, none⟩ = some (.int .u32 (v.c.toNat : Int)) := HX.out.cell 2 (by show 2 < 8; omega)
      have x3 : wr.cell? ⟨w.heap.size, 3, none⟩ = some (.int .u32 (v.d.toNat : Int)) := HX.out.cell 3 (by show 3 < 8; omega)
      have x4 : wr.cell? ⟨w.heap.size, 4, none⟩ = some (.int .u32 (v.e.toNat : Int)) := HX.out.cell 4 (by show 4 < 8; omega)
      have x5 : wr.cell? ⟨w.heap.size, 5, none⟩ = some (.int .u32 (v.f.toNat : Int)) := HX.out.cell 5 (by show 5 < 8; omega)
      have x6 : wr.cell? ⟨w.heap.size, 6, none⟩ = some (.int .u32 (v.g.toNat : Int)) := HX.out.cell 6 (by show 6 < 8; omega)
      have x7 : wr.cell? ⟨w.heap.size, 7, none⟩ = some (.int .u32 (v.h.toNat : Int)) := HX.out.cell 7 (by show 7 < 8; omega)
      have x8 : wr.cell? ⟨w.heap.size, 8, none⟩ = some (.string rest) := by rw [cell_of_row _ _ _ _ _ _ HX.out]; rfl
      have x9 : wr.cell? ⟨w.heap.size, 9, none⟩ = some (.int .i64 (n : Int)) := by rw [cell_of_row _ _ _ _ _ _ HX.out]; rfl
      have xf := HX.out.f
      go_wp2_with fail
      have hts : (⟨(tailL n).toArray⟩ : ByteArray).size ≤ 4294967296 := by
        have := tailL_len n
        show (tailL n).toArray.size ≤ _
        rw [List.size_toArray]; omega
      replace hts := Lib.hid hts
      refine (fed_calls v rest n ⟨(tailL n).toArray⟩ wr (hK.out.below HB.out) (by omega) hts.out (by omega) (by omega)).mono ?_
      rintro e w6 ⟨rfl, hb⟩
      clear x0 x1 x2 x3 x4 x5 x6 x7 x8 x9 xf hcs
      replace HX : Hid (RowX 31 w.heap.size v.list [.string rest, .int .i64 n] w6) := Lib.hid (blk_below HX.out hb)
      replace HZ : Hid (w6.heap[w.heap.size + 1]? = some (.cells (Array.replicate 32 (.int .u8 0)) 24 (0, 0))) := Lib.hid (blk_below HZ.out hb)
      replace HB : Hid (Below w.heap.size w w6) := Lib.hid (HB.out.trans (Below.mono hb HB.out.size))
      replace HS : Hid (w.heap.size + 2 ≤ w6.heap.size) := Lib.hid (Nat.le_trans HS.out hb.size)
      clear hb HO
      have hE : endP v rest.data.toList n = digL (feedP v (rest.data.toList ++ tailL n)).1 := rfl
      unfold fedV hashV
      rw [show (⟨(tailL n).toArray⟩ : ByteArray).data.toList = tailL n from rfl]
      generalize (feedP v (rest.data.toList ++ tailL n)).2 = r6
      generalize (feedP v (rest.data.toList ++ tailL n)).1 = u at hE ⊢
      generalize (n : Int) + ((⟨(tailL n).toArray⟩ : ByteArray).size : Int) = N6
      replace hE := Lib.hid hE
      have x0 : w6.cell? ⟨w.heap.size, 0, none⟩ = some (.int .u32 (v.a.toNat : Int)) := HX.out.cell 0 (by show 0 < 8; omega)
      have x1 : w6.cell? ⟨w.heap.size, 1, none⟩ = some (.int .u32 (v.b.toNat : Int)) := HX.out.cell 1 (by show 1 < 8; omega)
      have x2 : w6.cell? ⟨w.heap.size, 2, none⟩ = some (.int .u32 (v.c.toNat : Int)) := HX.out.cell 2 (by show 2 < 8; omega)
      have x3 : w6.cell? ⟨w.heap.size, 3, none⟩ = some (.int .u32 (v.d.toNat : Int)) := HX.out.cell 3 (by show 3 < 8; omega)
      have x4 : w6.cell? ⟨w.heap.size, 4, none⟩ = some (.int .u32 (v.e.toNat : Int)) := HX.out.cell 4 (by show 4 < 8; omega)
      have x5 : w6.cell? ⟨w.heap.size, 5, none⟩ = some (.int .u32 (v.f.toNat : Int)) := HX.out.cell 5 (by show 5 < 8; omega)
      have x6 : w6.cell? ⟨w.heap.size, 6, none⟩ = some (.int .u32 (v.g.toNat : Int)) := HX.out.cell 6 (by show 6 < 8; omega)
      have x7 : w6.cell? ⟨w.heap.size, 7, none⟩ = some (.int .u32 (v.h.toNat : Int)) := HX.out.cell 7 (by show 7 < 8; omega)
      have x8 : w6.cell? ⟨w.heap.size, 8, none⟩ = some (.string rest) := by rw [cell_of_row _ _ _ _ _ _ HX.out]; rfl
      have x9 : w6.cell? ⟨w.heap.size, 9, none⟩ = some (.int .i64 (n : Int)) := by rw [cell_of_row _ _ _ _ _ _ HX.out]; rfl
      have xf := HX.out.f
      have hS := HS.out
      go_wp2_with fail
      generalize hwA : World.setCell _ ⟨w.heap.size, 9, none⟩ _ = wA
      have HA : Hid (RowX 31 w.heap.size u.list [.string ⟨r6.toArray⟩, .int .i64 N6] wA) := by
        rw [← hwA]; refine Lib.hid ?_
        exact set_ten HX.out rfl _ _ _ _ _ _ _ _ _ _
      have HBA : Hid (Below w.heap.size w wA) := by
        rw [← hwA]; refine Lib.hid ?_
        repeat (refine Below.setCell ?_ (by simp) _)
        exact HB.out
      have HZA : Hid (wA.heap[w.heap.size + 1]? = some (.cells (Array.replicate 32 (.int .u8 0)) 24 (0, 0))) := by
        rw [← hwA]; refine Lib.hid ?_
        iterate 10 rw [Below.heap_setCell _ _ _ _ (by simp)]
        exact HZ.out
      have hsA : w6.heap.size = wA.heap.size := by rw [← hwA]; simp [World.setCell]
      rw [hsA] at hS ⊢
      clear hwA x0 x1 x2 x3 x4 x5 x6 x7 x8 x9 xf HX HB HZ HS hsA
      replace hS := Lib.hid hS
      generalize hwB : wA.alloc _ = wB
      have HD : Hid (wB.heap[wA.heap.size]? = some (.cells (Lib.byteCells (dN u 0)).toArray 24 (0, 0))) := by
        rw [← hwB, dN_cells]; exact heap_alloc_last _ _
      have hBB : Below wA.heap.size wA wB := by rw [← hwB]; exact (Below.refl _ _).alloc (Nat.le_refl _) _
      have HX : Hid (RowX 31 w.heap.size u.list [.string ⟨r6.toArray⟩, .int .i64 N6] wB) := Lib.hid (blk_below HA.out hBB)
      have HZ : Hid (wB.heap[w.heap.size + 1]? = some (.cells (Array.replicate 32 (.int .u8 0)) 24 (0, 0))) := Lib.hid (blk_below HZA.out hBB)
      have HB : Hid (Below w.heap.size w wB) := Lib.hid (HBA.out.trans (Below.mono hBB HBA.out.size))
      generalize wA.heap.size = bd at HD hS ⊢
      clear hwB hBB HA HBA HZA
      go_loopw [37] (fun i wx => ∃ j : Nat, j ≤ 32 ∧ i = .int .i64 j ∧ Hid (wx.heap[bd]? = some (.cells (Lib.byteCells (dN u j)).toArray 24 (0, 0))) ∧ Hid (RowX 31 w.heap.size u.list [.string ⟨r6.toArray⟩, .int .i64 N6] wx) ∧ Hid (wx.heap[w.heap.size + 1]? = some (.cells (Array.replicate 32 (.int .u8 0)) 24 (0, 0))) ∧ Hid (Below w.heap.size w wx)) (fun i _ => 32 - (intOf i).toNat)
      case atStart => exact ⟨0, by omega, rfl, HD, HX, HZ, HB⟩
      case round =>
        clear HD HX HZ HB
        obtain ⟨j, hj, rfl, HD, HX, HZ, HB⟩ := hrel
        by_cases h32 : j < 32
        · have k32 : (j : Int) < 32 := by omega
          have q0 : (j : Int) / 4 < 8 := by omega
          have c0 := HX.out.cell (j / 4) (by show j / 4 < 8; omega)
          have f0 : ∀ i, wr.frozen? ⟨bd, i, none⟩ = false := fun i => frozen_of_row wr bd i _ _ HD.out
          have hjl : j < (Lib.byteCells (dN u j)).length := by rw [Lib.byteCells, List.length_map, dN_len u j (by omega)]; exact h32
          obtain ⟨y, hy⟩ : ∃ y, wr.cell? ⟨bd, j, none⟩ = some y := ⟨_, by rw [cell_of_row _ _ _ _ _ _ HD.out, List.getElem?_toArray, List.getElem?_eq_getElem hjl]⟩
          have hdg := dig_eq u j
          replace hdg := Lib.hid hdg
          replace hjl := Lib.hid hjl
          generalize hgu : u.list.getD (j / 4) 0 = uj at c0
          replace hgu := Lib.hid hgu
          go_wp2_with fail
          rw [← hgu.out, hdg.out]
          go_roundw
          case rel =>
            refine ⟨j + 1, by omega, by go_num, Lib.hid ?_, Lib.hid ?_, Lib.hid ?_, Lib.hid ?_⟩
            · rw [set_row HD.out j, ← dN_next u j h32]
              simp [Lib.byteCells, List.map_set]
            · unfold RowX; rw [Below.heap_setCell _ _ _ _ (by show _ ≠ bd; have := hS.out; omega)]; exact HX.out
            · rw [Below.heap_setCell _ _ _ _ (by show _ ≠ bd; have := hS.out; omega)]; exact HZ.out
            · exact HB.out.setCell (by show _ ≤ bd; have := hS.out; omega) _
          case measure => simp [intOf]; omega
        · obtain rfl : j = 32 := by omega
          clear hj h32
          rw [dN_all] at HD
          have hl32 := digL_len u
          replace hl32 := Lib.hid hl32
          replace hE := Lib.hid hE.out
          generalize digL u = D at HD hl32 hE
          go_wp2_with (first | (refine wpList_load_dig (o := ⟨some 54, _, _, _, _, _⟩) rfl (.tmp 6) rfl bd rfl D hl32.out _ _ HD.out ?_) | (refine wpList_store_dig rfl (.tmp 2) (.tmp 54) rfl (w.heap.size + 1) rfl D hl32.out rfl _ _ HZ.out (by simp) ?_; intro w9 h9 _ hB9))
          refine bodyPost_ret (v := .agg (Lib.byteCells D).toArray) ?_ rfl ⟨by rw [hE.out], hB9 HB.out (by omega)⟩
          simp [results, Tryd.results52, asAddr, run_load_dig h9.out hl32.out, Act.put]
end Go.Proofs.YtldpnmebjnkjeaaDoor.Sha
namespace Go.Proofs.YtldpnmebjnkjeaaDoor.Sha
open Go.RowKit Go.Proofs.YtldpnmebjnkjeaaDoorW.PrintWords
set_option linter.unusedVariables false
set_option linter.unusedSimpArgs false

def zeroDig : Value := .agg (Lib.byteCells (List.replicate 32 0)).toArray
/-- May a hash be? -/
def rightH (r : Nat) (n : Int) : Bool := decide (0 ≤ n) && decide (n ≤ 1048576) && decide ((r : Int) = n.tmod 64)
set_option maxHeartbeats 4000000 in
set_option maxRecDepth 100000 in
theorem begin_calls (w : World) : Calls Tryd.prog 16 #[] w fun e w' => e = .returned (hashV v0 ⟨#[]⟩ 0) ∧ Below w.heap.size w w' := by
  go_enter Tryd.func16, Tryd.ntmps16
  go_wp2_with fail
  refine bodyPost_ret (v := hashV v0 ⟨#[]⟩ 0) ?_ rfl ⟨rfl, ?_⟩
  · simp [results, Tryd.results16, go_sem, hashV, v0]
  · exact (Below.refl _ _).alloc (Nat.le_refl _) _
set_option maxHeartbeats 4000000 in
set_option maxRecDepth 100000 in
theorem isHash_calls (v : V8) (rest : ByteArray) (n : Int) (w : World) :
    Calls Tryd.prog 53 #[hashV v rest n] w fun e w' => e = .returned (.bool (rightH rest.size n)) ∧ Below w.heap.size w w' := by
  unfold hashV
  by_cases h0 : 0 ≤ n
  · by_cases h1 : n ≤ 1048576
    · have hr : rightH rest.size n = decide ((rest.size : Int) = n % 64) := by
        unfold rightH; rw [Int.tmod_eq_emod_of_nonneg h0]; simp [h0, h1]
      rw [hr]
      clear hr
      go_enter Tryd.func53, Tryd.ntmps53
      go_wp2_with fail
      go_ret
      exact ⟨rfl, (Below.refl _ _).alloc (Nat.le_refl _) _⟩
    · have hr : rightH rest.size n = false := by unfold rightH; simp [h1]
      rw [hr]
      clear hr
      have h1b : decide (n ≤ 1048576) = false := by simpa using h1
      go_enter Tryd.func53, Tryd.ntmps53
      go_wp2_with fail
      go_ret
      exact ⟨rfl, (Below.refl _ _).alloc (Nat.le_refl _) _⟩
  · have hr : rightH rest.size n = false := by unfold rightH; simp [h0]
    rw [hr]
    clear hr
    have h0b : decide (0 ≤ n) = false := by simpa using h0
    go_enter Tryd.func53, Tryd.ntmps53
    go_wp2_with fail
    go_ret
    exact ⟨rfl, (Below.refl _ _).alloc (Nat.le_refl _) _⟩
/-- A world with an argument's block and a result's block, behind a call. -/
theorem two_blocks {w w1 : World} {X Z : Array Value} {T U : TypeId} (hb : Below ((w.alloc (.cells X T)).alloc (.cells Z U)).heap.size ((w.alloc (.cells X T)).alloc (.cells Z U)) w1) :
    w1.heap[w.heap.size]? = some (.cells X T (0, 0)) ∧ w1.heap[w.heap.size + 1]? = some (.cells Z U (0, 0)) ∧ Below w.heap.size w w1 := by
  refine ⟨?_, ?_, ?_⟩
  · rw [hb.block _ (by simp; omega), Below.heap_alloc _ _ _ (by simp)]; exact heap_alloc_last _ _
  · rw [hb.block _ (by simp)]; exact heap_at1 _ _ _
  · exact (((Below.refl _ _).alloc (Nat.le_refl _) _).alloc (by simp) _).trans (hb.mono (by simp; omega))
set_option maxHeartbeats 4000000 in
set_option maxRecDepth 100000 in
theorem feed_calls (v : V8) (rest : ByteArray) (n : Int) (text : ByteArray) (w : World) (hK : KAt w) (hR : rightH rest.size n = true) (hl : n + text.size ≤ 1048576) (hr : rest.size ≤ 64) (hn0 : 0 ≤ n) :
    Calls Tryd.prog 14 #[hashV v rest n, .string text] w fun e w' => e = .returned (.tuple #[fedV v rest n text, .int .i64 0]) ∧ Below w.heap.size w w' := by
  have ht0 : (0 : Int) ≤ (text.size : Int) := by omega
  unfold hashV
  replace hK := Lib.hid hK
  replace hR := Lib.hid hR
  go_enter Tryd.func14, Tryd.ntmps14
  go_wp2_with fail
  refine (isHash_calls v rest n _).mono ?_
  rintro e w1 ⟨rfl, hb⟩
  rw [hR.out]
  obtain ⟨HX, HZ, HB⟩ := two_blocks hb
  have hK1 := Lib.hid (hK.out.below HB)
  have hS := Lib.hid (show w.heap.size + 2 ≤ w1.heap.size by have := hb.size; simp at this; omega)
  clear hb
  replace HX := Lib.hid HX
  replace HZ := Lib.hid HZ
  replace HB := Lib.hid HB
  have x0 : w1.cell? ⟨w.heap.size, 0, none⟩ = some (.int .u32 (v.a.toNat : Int)) := by rw [cell_of_row _ _ _ _ _ _ HX.out]; rfl
  have x1 : w1.cell? ⟨w.heap.size, 1, none⟩ = some (.int .u32 (v.b.toNat : Int)) := by rw [cell_of_row _ _ _ _ _ _ HX.out]; rfl
  have x2 : w1.cell? ⟨w.heap.size, 2, none⟩ = some (.int .u32 (v.c.toNat : Int)) := by rw [cell_of_row _ _ _ _ _ _ HX.out]; rfl
  have x3 : w1.cell? ⟨w.heap.size, 3, none⟩ = some (.int .u32 (v.d.toNat : Int)) := by rw [cell_of_row _ _ _ _ _ _ HX.out]; rfl
  have x4 : w1.cell? ⟨w.heap.size, 4, none⟩ = some (.int .u32 (v.e.toNat : Int)) := by rw [cell_of_row _ _ _ _ _ _ HX.out]; rfl
  have x5 : w1.cell? ⟨w.heap.size, 5, none⟩ = some (.int .u32 (v.f.toNat : Int)) := by rw [cell_of_row _ _ _ _ _ _ HX.out]; rfl
  have x6 : w1.cell? ⟨w.heap.size, 6, none⟩ = some (.int .u32 (v.g.toNat : Int)) := by rw [cell_of_row _ _ _ _ _ _ HX.out]; rfl
  have x7 : w1.cell? ⟨w.heap.size, 7, none⟩ = some (.int .u32 (v.h.toNat : Int)) := by rw [cell_of_row _ _ _ _ _ _ HX.out]; rfl
  have x8 : w1.cell? ⟨w.heap.size, 8, none⟩ = some (.string rest) := by rw [cell_of_row _ _ _ _ _ _ HX.out]; rfl
  have x9 : w1.cell? ⟨w.heap.size, 9, none⟩ = some (.int .i64 n) := by rw [cell_of_row _ _ _ _ _ _ HX.out]; rfl
  go_wp2_with fail
  refine (fed_calls v rest n text w1 hK1.out (by omega) (by omega) (by omega) (by omega)).mono ?_
  rintro e w2 ⟨rfl, hb⟩
  clear x0 x1 x2 x3 x4 x5 x6 x7 x8 x9
  replace HZ := Lib.hid (blk_below HZ.out hb)
  replace HB := Lib.hid (HB.out.trans (Below.mono hb HB.out.size))
  clear hb
  have z0 : w2.cell? ⟨w.heap.size + 1, 0, none⟩ = some (.int .u32 0) := by rw [cell_of_row _ _ _ _ _ _ HZ.out]; rfl
  have z1 : w2.cell? ⟨w.heap.size + 1, 1, none⟩ = some (.int .u32 0) := by rw [cell_of_row _ _ _ _ _ _ HZ.out]; rfl
  have z2 : w2.cell? ⟨w.heap.size + 1, 2, none⟩ = some (.int .u32 0) := by rw [cell_of_row _ _ _ _ _ _ HZ.out]; rfl
  have z3 : w2.cell? ⟨w.heap.size + 1, 3, none⟩ = some (.int .u32 0) := by rw [cell_of_row _ _ _ _ _ _ HZ.out]; rfl
  have z4 : w2.cell? ⟨w.heap.size + 1, 4, none⟩ = some (.int .u32 0) := by rw [cell_of_row _ _ _ _ _ _ HZ.out]; rfl
  have z5 : w2.cell? ⟨w.heap.size + 1, 5, none⟩ = some (.int .u32 0) := by rw [cell_of_row _ _ _ _ _ _ HZ.out]; rfl
  have z6 : w2.cell? ⟨w.heap.size + 1, 6, none⟩ = some (.int .u32 0) := by rw [cell_of_row _ _ _ _ _ _ HZ.out]; rfl
  have z7 : w2.cell? ⟨w.heap.size + 1, 7, none⟩ = some (.int .u32 0) := by rw [cell_of_row _ _ _ _ _ _ HZ.out]; rfl
  have z8 : w2.cell? ⟨w.heap.size + 1, 8, none⟩ = some (.string ⟨#[]⟩) := by rw [cell_of_row _ _ _ _ _ _ HZ.out]; rfl
  have z9 : w2.cell? ⟨w.heap.size + 1, 9, none⟩ = some (.int .i64 0) := by rw [cell_of_row _ _ _ _ _ _ HZ.out]; rfl
  have zf : ∀ i, w2.frozen? ⟨w.heap.size + 1, i, none⟩ = false := fun i => frozen_of_row w2 (w.heap.size + 1) i _ _ HZ.out
  obtain ⟨u, r6, N6, hv⟩ : ∃ (u : V8) (r6 : List UInt8) (N6 : Int), fedV v rest n text = .agg #[.int .u32 (u.a.toNat : Int), .int .u32 (u.b.toNat : Int), .int .u32 (u.c.toNat : Int), .int .u32 (u.d.toNat : Int), .int .u32 (u.e.toNat : Int), .int .u32 (u.f.toNat : Int), .int .u32 (u.g.toNat : Int), .int .u32 (u.h.toNat : Int), .string ⟨r6.toArray⟩, .int .i64 N6] := ⟨_, _, _, rfl⟩
  rw [hv]
  replace hv := Lib.hid hv
  go_wp2_with fail
  refine bodyPost_ret (v := .tuple #[.agg #[.int .u32 (u.a.toNat : Int), .int .u32 (u.b.toNat : Int), .int .u32 (u.c.toNat : Int), .int .u32 (u.d.toNat : Int), .int .u32 (u.e.toNat : Int), .int .u32 (u.f.toNat : Int), .int .u32 (u.g.toNat : Int), .int .u32 (u.h.toNat : Int), .string ⟨r6.toArray⟩, .int .i64 N6], .int .i64 0]) (by simp [results, Tryd.results14, go_sem, z0, z1, z2, z3, z4, z5, z6, z7, z8, z9, zf]) rfl ⟨by rw [hv.out], ?_⟩
  repeat (refine Below.setCell ?_ (by simp) _)
  exact HB.out
theorem z32_len : (List.replicate 32 (0 : UInt8)).length = 32 := by simp
theorem v0_right : rightH (⟨#[]⟩ : ByteArray).size 0 = true := rfl
theorem dig_block {w w1 : World} {Z : Array Value} {U : TypeId} (hb : Below (w.alloc (.cells Z U)).heap.size (w.alloc (.cells Z U)) w1) :
    w1.heap[w.heap.size]? = some (.cells Z U (0, 0)) ∧ Below w.heap.size w w1 :=
  ⟨by rw [hb.block _ (by simp)]; exact heap_alloc_last _ _, ((Below.refl _ _).alloc (Nat.le_refl _) _).trans (hb.mono (by simp))⟩
set_option maxHeartbeats 4000000 in
set_option maxRecDepth 100000 in
theorem sum_ok (s : ByteArray) (w : World) (hK : KAt w) (hs : s.size ≤ 1048576) :
    Calls Tryd.prog 13 #[.string s] w fun e w' => e = .returned (.tuple #[.agg (Lib.byteCells (sumL s.data.toList)).toArray, .int .i64 0]) ∧ Below w.heap.size w w' := by
  replace hK := Lib.hid hK
  go_enter Tryd.func13, Tryd.ntmps13
  go_wp2_with fail
  refine (begin_calls _).mono ?_
  rintro e w1 ⟨rfl, hb⟩
  obtain ⟨HZ, HB⟩ := dig_block hb
  clear hb
  replace HZ : Hid (w1.heap[w.heap.size]? = some (.cells (Lib.byteCells (List.replicate 32 0)).toArray 24 (0, 0))) := Lib.hid HZ
  replace HB := Lib.hid HB
  go_wp2_with fail
  refine (feed_calls v0 ⟨#[]⟩ 0 s w1 (hK.out.below HB.out) v0_right (by omega) (by decide) (by omega)).mono ?_
  rintro e w2 ⟨rfl, hb⟩
  replace HZ := Lib.hid (blk_below HZ.out hb)
  replace HB := Lib.hid (HB.out.trans (Below.mono hb HB.out.size))
  clear hb
  have hfv : fedV v0 ⟨#[]⟩ 0 s = hashV (feedP v0 s.data.toList).1 ⟨(feedP v0 s.data.toList).2.toArray⟩ (s.size : Nat) := by
    unfold fedV; rw [Int.zero_add]; rfl
  have hE : endP (feedP v0 s.data.toList).1 (feedP v0 s.data.toList).2 s.size = sumL s.data.toList := by
    unfold sumL; rw [Lib.size_eq]
  have hrl : ((⟨(feedP v0 s.data.toList).2.toArray⟩ : ByteArray)).size ≤ 64 := by
    show ((feedP v0 s.data.toList).2.toArray).size ≤ 64
    rw [List.size_toArray, feedP_len _ v0 s.data.toList (Nat.le_refl _)]; omega
  rw [hfv]
  generalize (feedP v0 s.data.toList).2 = r6 at hE hrl ⊢
  generalize (feedP v0 s.data.toList).1 = u at hE ⊢
  replace hE := Lib.hid hE
  replace hrl := Lib.hid hrl
  clear hfv
  unfold hashV
  go_wp2_with fail
  refine (ended_calls u ⟨r6.toArray⟩ s.size _ (hK.out.below (HB.out.alloc HB.out.size _)) (by have := hrl.out; omega) (by omega)).mono ?_
  rintro e w3 ⟨rfl, hb⟩
  have hl := Lib.hid (endP_len u r6 s.size)
  replace HZ := Lib.hid (blk_below (blk_below HZ.out ((Below.refl _ _).alloc (Nat.le_refl _) _)) hb)
  replace HB := Lib.hid ((HB.out.alloc HB.out.size _).trans (Below.mono hb (HB.out.alloc HB.out.size _).size))
  clear hb
  rw [show (⟨r6.toArray⟩ : ByteArray).data.toList = r6 from rfl]
  rw [hE.out] at hl ⊢
  clear hE
  generalize hD : sumL s.data.toList = D at hl ⊢
  replace hD := Lib.hid hD
  go_wp2_with (refine wpList_store_dig rfl (.tmp 2) (.tmp 17) rfl w.heap.size rfl D hl.out rfl _ _ HZ.out (by rw [List.size_toArray, Lib.byteCells, List.length_map, z32_len]) ?_; intro w9 h9 _ hB9)
  refine bodyPost_ret (v := .tuple #[.agg (Lib.byteCells D).toArray, .int .i64 0]) ?_ rfl ⟨by rw [hD.out], hB9 HB.out (by omega)⟩
  simp [results, Tryd.results13, asAddr, run_load_dig h9.out hl.out, Act.put]
end Go.Proofs.YtldpnmebjnkjeaaDoor.Sha
namespace Go.Proofs.YtldpnmebjnkjeaaDoor
open Go.Shelf Go.RowKit
set_option linter.unusedVariables false

def wb_ren : Go.Shelf.Ren := ⟨fun | 167 => 64 | 240 => 91 | 276 => 106 | n => n, fun | 80 => 104 | 75 => 102 | 70 => 98 | 3 => 3 | 0 => 0 | 4 => 4 | 9 => 9 | 20 => 20 | 72 => 100 | 37 => 22 | 164 => 141 | 5 => 5 | n => n, fun | n => n⟩
theorem wb_lays : Go.Proofs.Lays.n167 Tryd.prog wb_ren := {
  mixed := by kernel_rfl
  f167 := Tryd.func64.trans (congrArg some (by kernel_rfl))
  f240 := Tryd.func91.trans (congrArg some (by kernel_rfl))
  f276 := Tryd.func106.trans (congrArg some (by kernel_rfl))
  t0 := Tryd.underlying0
  a0 := Tryd.isAgg0
  z0 := Tryd.sizeOf0
  v0 := Tryd.zeroValue0
  t4 := Tryd.underlying4
  a4 := Tryd.isAgg4
  z4 := Tryd.sizeOf4
  v4 := Tryd.zeroValue4
  t5 := Tryd.underlying5
  a5 := Tryd.isAgg5
  z5 := Tryd.sizeOf5
  v5 := Tryd.zeroValue5
  t9 := Tryd.underlying9
  a9 := Tryd.isAgg9
  z9 := Tryd.sizeOf9
  v9 := Tryd.zeroValue9
  t20 := Tryd.underlying20
  a20 := Tryd.isAgg20
  z20 := Tryd.sizeOf20
  v20 := Tryd.zeroValue20
  t37 := Tryd.underlying22
  a37 := Tryd.isAgg22
  z37 := Tryd.sizeOf22
  v37 := Tryd.zeroValue22
  t70 := Tryd.underlying98
  a70 := Tryd.isAgg98
  z70 := Tryd.sizeOf98
  v70 := Tryd.zeroValue98
  t72 := Tryd.underlying100
  a72 := Tryd.isAgg100
  z72 := Tryd.sizeOf100
  v72 := Tryd.zeroValue100
  t75 := Tryd.underlying102
  a75 := Tryd.isAgg102
  z75 := Tryd.sizeOf102
  v75 := Tryd.zeroValue102
  t164 := Tryd.underlying141
  a164 := Tryd.isAgg141
  z164 := Tryd.sizeOf141
  v164 := Tryd.zeroValue141 }
theorem wb_extra : Builder.Extra Tryd.prog wb_ren := {
  sizeBuilder := by kernel_rfl
  liesBuilder := by kernel_rfl
  t5 := Tryd.underlying5
  a5 := Tryd.isAgg5
  z5 := Tryd.sizeOf5
  v5 := Tryd.zeroValue5
  infoByte := by kernel_rfl
  cellsByte := by kernel_rfl
  sizeByte := by kernel_rfl
  neB5 := by decide }
theorem writeByte_calls (B b : Nat) (bs : List Value) (c : Int) (w : World) (h : Lib.IsBuilder 100 5 B b bs w) (hlen : bs.length + 1 ≤ 140737488355328) (hBw : B ≤ w.heap.size) :
    Calls Tryd.prog 64 #[.pointer (some ⟨b, 0, none⟩), .int .u8 c] w fun e w' => e = .returned .nilIface ∧ (Lib.BuilderAt 100 5 B b (.pointer (some ⟨b, 0, none⟩)) (bs ++ [.int .u8 c]) w' ∧ Below B w w') :=
  Any.Builder_WriteByte wb_lays wb_extra B b bs c w h hlen hBw
end Go.Proofs.YtldpnmebjnkjeaaDoor
namespace Go.Proofs.YtldpnmebjnkjeaaDoor.Sha
open Go.RowKit Go.Proofs.YtldpnmebjnkjeaaDoorW.PrintWords
set_option linter.unusedVariables false
set_option linter.unusedSimpArgs false

def digitsL : List UInt8 := [48, 49, 50, 51, 52, 53, 54, 55, 56, 57, 97, 98, 99, 100, 101, 102]
def hd (n : Nat) : UInt8 := digitsL.getD n 0
/-- The digits of bytes. -/
def hexL (l : List UInt8) : List UInt8 := l.flatMap fun x => [hd (x.toNat / 16), hd (x.toNat % 16)]
theorem hexL_snoc (l : List UInt8) (x : UInt8) : hexL (l ++ [x]) = hexL l ++ [hd (x.toNat / 16)] ++ [hd (x.toNat % 16)] := by
  unfold hexL; rw [List.flatMap_append]; simp
theorem hexL_len (l : List UInt8) : (hexL l).length = 2 * l.length := by
  induction l with
  | nil => rfl
  | cons a l ih => unfold hexL at *; rw [List.flatMap_cons, List.length_append, ih]; simp; omega
theorem digit_at (n : Nat) (h : n < (⟨#[48, 49, 50, 51, 52, 53, 54, 55, 56, 57, 97, 98, 99, 100, 101, 102]⟩ : ByteArray).size) : (⟨#[48, 49, 50, 51, 52, 53, 54, 55, 56, 57, 97, 98, 99, 100, 101, 102]⟩ : ByteArray)[n]'h = hd n := by
  have all : ∀ m : Fin 16, (⟨#[48, 49, 50, 51, 52, 53, 54, 55, 56, 57, 97, 98, 99, 100, 101, 102]⟩ : ByteArray)[m.val]'m.isLt = hd m.val := by decide
  exact all ⟨n, h⟩
theorem and15 (x : UInt8) : bits .and .u8 (x.toNat : Int) 15 = ((x.toNat % 16 : Nat) : Int) := by
  have all : ∀ m : Fin 256, bits .and .u8 (m.val : Int) 15 = ((m.val % 16 : Nat) : Int) := by decide +kernel
  exact all ⟨x.toNat, x.toNat_lt⟩
set_option maxHeartbeats 4000000 in
set_option maxRecDepth 100000 in
theorem hex_calls (d : List UInt8) (hd32 : d.length = 32) (w : World) :
    Calls Tryd.prog 27 #[.agg (Lib.byteCells d).toArray] w fun e w' => e = .returned (.string ⟨(hexL d).toArray⟩) ∧ Below w.heap.size w w' := by
  replace hd32 := Lib.hid hd32
  go_enter Tryd.func27, Tryd.ntmps27
  go_wp2_with (refine wpList_load_dig (o := ⟨some 6, _, _, _, _, _⟩) rfl (.tmp 1) rfl w.heap.size rfl d hd32.out 24 (0, 0) (by rw [Below.heap_alloc _ _ _ (by simp)]; exact heap_alloc_last _ _) ?_)
  generalize hw1 : (w.alloc _).alloc _ = w1
  have HI : Hid (Lib.IsBuilder 100 5 (w.heap.size + 1) (w.heap.size + 1) (Lib.byteCells (hexL (d.take 0))) w1) := by
    rw [← hw1]; refine Lib.hid (.inl ⟨Nat.le_refl _, .slice none 0 0, heap_at1 _ _ _, ⟨rfl, .inl ⟨rfl, rfl⟩⟩, by simp [Value.ownBlock]⟩)
  have HB : Hid (Below w.heap.size w w1) := by
    rw [← hw1]; exact Lib.hid (((Below.refl _ _).alloc (Nat.le_refl _) _).alloc (by simp) _)
  have HS : Hid (w.heap.size + 1 ≤ w1.heap.size) := by rw [← hw1]; exact Lib.hid (by simp)
  clear hw1
  go_loopw [7] (fun i wr => ∃ j : Nat, j ≤ 32 ∧ i = .int .i64 j ∧ Hid (Lib.IsBuilder 100 5 (w.heap.size + 1) (w.heap.size + 1) (Lib.byteCells (hexL (d.take j))) wr) ∧ Hid (Below w.heap.size w wr) ∧ Hid (w.heap.size + 1 ≤ wr.heap.size)) (fun i _ => 32 - (intOf i).toNat)
  case atStart => exact ⟨0, by omega, rfl, HI, HB, HS⟩
  case round =>
    clear HI HB HS
    obtain ⟨j, hj, rfl, HI, HB, HS⟩ := hrel
    by_cases h32 : j < 32
    · have k32 : (j : Int) < 32 := by omega
      have hjd : j < d.length := by rw [hd32.out]; exact h32
      have hix : d[j]? = some d[j] := List.getElem?_eq_getElem hjd
      have htk : d.take (j + 1) = d.take j ++ [d[j]] := by rw [List.take_succ_eq_append_getElem hjd]
      generalize d[j] = x at hix htk
      have hrun := fun w : World => run_index_dig d hd32.out j h32 x hix w
      replace htk := Lib.hid htk
      replace hix := Lib.hid hix
      have hx1 : (x.toNat : Int) / 16 < 16 := by have := x.toNat_lt; omega
      go_wp2_with fail
      rw [digit_at]
      have hlen : (hexL (d.take j)).length ≤ 64 := by rw [hexL_len, List.length_take]; omega
      have hb1 : (Lib.byteCells (hexL (d.take j))).length + 1 ≤ 140737488355328 := by rw [Lib.byteCells, List.length_map]; omega
      refine (writeByte_calls (w.heap.size + 1) (w.heap.size + 1) _ _ wr HI.out hb1 HS.out).mono ?_
      rintro e w2 ⟨rfl, hat, hb⟩
      have ha := and15 x
      have hx2 : x.toNat % 16 < 16 := by omega
      replace hlen := Lib.hid hlen
      replace hat := Lib.hid hat
      replace HB := Lib.hid (HB.out.trans (hb.mono (by omega)))
      replace HS := Lib.hid (Nat.le_trans HS.out hb.size)
      clear hb hb1
      go_wp2_with fail
      rw [digit_at]
      have hb2 : (Lib.byteCells (hexL (d.take j)) ++ [Value.int .u8 ((hd (x.toNat / 16)).toNat : Int)]).length + 1 ≤ 140737488355328 := by have := hlen.out; rw [List.length_append, Lib.byteCells, List.length_map]; simp; omega
      refine (writeByte_calls (w.heap.size + 1) (w.heap.size + 1) _ _ w2 (.inr hat.out) hb2 HS.out).mono ?_
      rintro e w3 ⟨rfl, hat3, hb⟩
      clear ha hx2
      replace hat3 := Lib.hid hat3
      replace HB := Lib.hid (HB.out.trans (hb.mono (by omega)))
      replace HS := Lib.hid (Nat.le_trans HS.out hb.size)
      clear hb hb2
      go_wp2_with fail
      go_roundw
      case rel =>
        refine ⟨j + 1, by omega, by go_num, Lib.hid (.inr ?_), HB, HS⟩
        rw [htk.out, hexL_snoc]
        have h9 := hat3.out
        simpa [Lib.byteCells, List.map_append] using h9
      case measure => simp [intOf]; omega
    · obtain rfl : j = 32 := by omega
      rw [List.take_of_length_le (by rw [hd32.out]; omega)] at HI
      go_wp2_with fail
      refine (Tryd.Builder_String_any (w.heap.size + 1) (w.heap.size + 1) (hexL d) wr HI.out HS.out).mono ?_
      rintro e w2 ⟨rfl, hb⟩
      replace HB := Lib.hid (HB.out.trans (hb.mono (by omega)))
      clear hb
      go_wp2_with fail
      go_ret
      exact ⟨rfl, HB.out⟩
end Go.Proofs.YtldpnmebjnkjeaaDoor.Sha
namespace Go.Proofs.YtldpnmebjnkjeaaDoor.Sha
open Go.RowKit Go.Proofs.YtldpnmebjnkjeaaDoorW.PrintWords
set_option linter.unusedVariables false
set_option linter.unusedSimpArgs false

/-- What a digit counts; below 0: it is none. -/
def val (b : UInt8) : Int := Lib.indexByte digitsL b
def vb (b : UInt8) : UInt8 := UInt8.ofNat (val b).toNat
end Go.Proofs.YtldpnmebjnkjeaaDoor.Sha
namespace Go.Proofs.YtldpnmebjnkjeaaDoor.Ref10
open Go.RowKit Go.Proofs.YtldpnmebjnkjeaaDoorW.PrintWords Go.Proofs.YtldpnmebjnkjeaaDoor.PH1
open Go.Proofs.YtldpnmebjnkjeaaDoor.Sha (rotr ch maj ss0 ss1 be words sched nextW bx ba badd bshr bshl bor)
set_option linter.unusedVariables false
set_option linter.unusedSimpArgs false

theorem turn_f (x : UInt32) (n : Nat) (h1 : 1 ≤ n) (h2 : n < 32) : cashbookref10_turn.f (x.toNat : Int) (n : Int) = some ((rotr x n).toNat : Int) := by
  have e1 : IntKind.u64.wrap (n : Int) = (n : Int) := by simp [IntKind.wrap, IntKind.bits, IntKind.signed]; omega
  have e2 : wrap64 (32 - (n : Int)) = ((32 - n : Nat) : Int) := by
    rw [show (32 : Int) - (n : Int) = ((32 - n : Nat) : Int) by omega]
    exact w64_nat _ (by omega)
  have e3 : IntKind.u64.wrap ((32 - n : Nat) : Int) = ((32 - n : Nat) : Int) := by simp [IntKind.wrap, IntKind.bits, IntKind.signed]; omega
  have s1 : shr .u32 (x.toNat : Int) (n : Int) = ((x >>> UInt32.ofNat n).toNat : Int) := by
    show (x.toNat : Int) / 2 ^ min n 32 = _
    rw [Nat.min_eq_left (by omega)]
    exact bshr x n h2
  have s2 : shl .u32 (x.toNat : Int) ((32 - n : Nat) : Int) = ((x <<< UInt32.ofNat (32 - n)).toNat : Int) := by
    show IntKind.u32.wrap ((x.toNat : Int) * 2 ^ min (32 - n) 32) = _
    rw [Nat.min_eq_left (by omega)]
    have hb := bshl x (32 - n) (by omega)
    rw [← hb]
    simp only [IntKind.wrap, IntKind.bits, IntKind.signed]
    simp
  unfold cashbookref10_turn.f
  rw [e1, e2, e3, if_pos (by omega), if_pos (by omega), s1, s2, bor]
  rfl
theorem chosen_f (e f g : UInt32) : cashbookref10_chosen.f (e.toNat : Int) (f.toNat : Int) (g.toNat : Int) = some ((ch e f g).toNat : Int) := by
  unfold cashbookref10_chosen.f
  have hn : ((4294967295 : Int) - (e.toNat : Int)) % 4294967296 = ((~~~e).toNat : Int) := by
    rw [UInt32.toNat_not]
    have := e.toNat_lt
    have : UInt32.size = 4294967296 := rfl
    omega
  rw [hn, ba, ba, bor, Sha.or_xor_ch]
/-- Words as numbers. -/
def zw (l : List UInt32) : List Int := l.map fun x => (x.toNat : Int)
theorem zw_len (l : List UInt32) : (zw l).length = l.length := by simp [zw]
theorem zw_app (l m : List UInt32) : zw (l ++ m) = zw l ++ zw m := by simp [zw]
theorem zw_rd (l : List UInt32) (i : Nat) : rd (zw l) (i : Int) = ((l.getD i 0).toNat : Int) := by
  show (zw l).getD i 0 = _
  unfold zw
  rw [List.getD_eq_getElem?_getD, List.getElem?_map, List.getD_eq_getElem?_getD]
  cases l[i]? <;> rfl
theorem ss0_bits (x : UInt32) : bits .xor .u32 (bits .xor .u32 ((rotr x 7).toNat : Int) ((rotr x 18).toNat : Int)) ((x >>> UInt32.ofNat 3).toNat : Int) = ((ss0 x).toNat : Int) := by
  rw [bx (rotr x 7) (rotr x 18), bx (rotr x 7 ^^^ rotr x 18) (x >>> UInt32.ofNat 3)]
  rfl
theorem ss1_bits (x : UInt32) : bits .xor .u32 (bits .xor .u32 ((rotr x 17).toNat : Int) ((rotr x 19).toNat : Int)) ((x >>> UInt32.ofNat 10).toNat : Int) = ((ss1 x).toNat : Int) := by
  rw [bx (rotr x 17) (rotr x 19), bx (rotr x 17 ^^^ rotr x 19) (x >>> UInt32.ofNat 10)]
  rfl
theorem badd3 (a b c d : UInt32) : ((((a.toNat : Int) + (b.toNat : Int)) % 4294967296 + (c.toNat : Int)) % 4294967296 + (d.toNat : Int)) % 4294967296 = ((a + b + c + d).toNat : Int) := by
  rw [badd a b, badd (a + b) c, badd (a + b + c) d]
theorem next_run (b : List UInt8) (h : b.length = 64) : ∀ d n k, n + d = 48 → d < k →
    cashbookref10_schedule.l1 k (zw (sched b n)) ((16 + n : Nat) : Int) = some (zw (sched b 48))
  | 0, n, 0, hn, hk => by omega
  | d + 1, n, 0, hn, hk => by omega
  | 0, n, k + 1, hn, hk => by
    obtain rfl : n = 48 := by omega
    rw [cashbookref10_schedule.l1, if_neg (by omega)]
  | d + 1, n, k + 1, hn, hk => by
    have ih := next_run b h d (n + 1) k (by omega) (by omega)
    have hl := Sha.sched_len b h n
    have i15 : wrap64 (((16 + n : Nat) : Int) - 15) = ((16 + n - 15 : Nat) : Int) := by
      rw [show (((16 + n : Nat) : Int) - 15) = ((16 + n - 15 : Nat) : Int) by omega]; exact w64_nat _ (by omega)
    have i2 : wrap64 (((16 + n : Nat) : Int) - 2) = ((16 + n - 2 : Nat) : Int) := by
      rw [show (((16 + n : Nat) : Int) - 2) = ((16 + n - 2 : Nat) : Int) by omega]; exact w64_nat _ (by omega)
    have i16 : wrap64 (((16 + n : Nat) : Int) - 16) = ((16 + n - 16 : Nat) : Int) := by
      rw [show (((16 + n : Nat) : Int) - 16) = ((16 + n - 16 : Nat) : Int) by omega]; exact w64_nat _ (by omega)
    have i7 : wrap64 (((16 + n : Nat) : Int) - 7) = ((16 + n - 7 : Nat) : Int) := by
      rw [show (((16 + n : Nat) : Int) - 7) = ((16 + n - 7 : Nat) : Int) by omega]; exact w64_nat _ (by omega)
    have i1 : wrap64 (((16 + n : Nat) : Int) + 1) = ((16 + (n + 1) : Nat) : Int) := by
      rw [show (((16 + n : Nat) : Int) + 1) = ((16 + (n + 1) : Nat) : Int) by omega]; exact w64_nat _ (by omega)
    rw [cashbookref10_schedule.l1, i15, i2, i16, i7, i1, zw_len, hl, zw_rd, zw_rd, zw_rd, zw_rd]
    have t7 := turn_f ((sched b n).getD (16 + n - 15) 0) 7 (by omega) (by omega)
    have t18 := turn_f ((sched b n).getD (16 + n - 15) 0) 18 (by omega) (by omega)
    have t17 := turn_f ((sched b n).getD (16 + n - 2) 0) 17 (by omega) (by omega)
    have t19 := turn_f ((sched b n).getD (16 + n - 2) 0) 19 (by omega) (by omega)
    rw [show ((7 : Nat) : Int) = 7 from rfl] at t7
    rw [show ((18 : Nat) : Int) = 18 from rfl] at t18
    rw [show ((17 : Nat) : Int) = 17 from rfl] at t17
    rw [show ((19 : Nat) : Int) = 19 from rfl] at t19
    have s3 := bshr ((sched b n).getD (16 + n - 15) 0) 3 (by omega)
    have s10 := bshr ((sched b n).getD (16 + n - 2) 0) 10 (by omega)
    rw [show ((2 : Int) ^ 3) = 8 by decide] at s3
    rw [show ((2 : Int) ^ 10) = 1024 by decide] at s10
    rw [t7, t18, t17, t19, s3, s10]
    clear t7 t18 t17 t19 s3 s10 i15 i2 i16 i7 i1
    refine (if_pos (by omega)).trans ?_
    refine (if_pos (by omega)).trans ?_
    refine (if_pos (by omega)).trans ?_
    refine (Option.bind_some _ _).trans ?_
    refine (Option.bind_some _ _).trans ?_
    refine (if_pos (by omega)).trans ?_
    refine (if_pos (by omega)).trans ?_
    refine (Option.bind_some _ _).trans ?_
    refine (Option.bind_some _ _).trans ?_
    refine (if_pos (by omega)).trans ?_
    refine (if_pos (by omega)).trans ?_
    refine (if_pos (by omega)).trans ?_
    refine (if_pos (by omega)).trans ?_
    refine (if_pos (by omega)).trans ?_
    rw [ss0_bits, ss1_bits, badd3]
    rw [← ih]
    congr 1
    show _ = zw (sched b n ++ [nextW (sched b n) (16 + n)])
    rw [zw_app]
    rfl
theorem first_run (s : ByteArray) (h : s.data.toList.length = 64) : ∀ d j k, j + d = 16 → d + 49 < k →
    cashbookref10_schedule.l0 k s (zw ((words s.data.toList).take j)) ((4 * j : Nat) : Int) = some (zw (sched s.data.toList 48))
  | _, _, 0, hn, hk => by omega
  | 0, j, k + 1, hn, hk => by
    obtain rfl : j = 16 := by omega
    have hw := Sha.words_len 16 s.data.toList (by omega)
    rw [cashbookref10_schedule.l0, if_neg (by omega), List.take_of_length_le (by omega)]
    exact next_run s.data.toList h 48 0 k (by omega) (by omega)
  | d + 1, j, k + 1, hn, hk => by
    have ih := first_run s h d (j + 1) k (by omega) (by omega)
    have hw := Sha.words_len 16 s.data.toList (by omega)
    have hz : s.size = 64 := by rw [← h]; rfl
    have hb : ∀ i : Nat, i < 64 → bt s (i : Int) = ((s.data.toList.getD i 0).toNat : Int) := by
      intro i hi
      unfold bt
      rw [dif_pos (by show i < s.size; omega), List.getD_eq_getElem?_getD, List.getElem?_eq_getElem (by omega)]
      rfl
    have j1 : wrap64 (((4 * j : Nat) : Int) + 1) = ((4 * j + 1 : Nat) : Int) := w64_nat (4 * j + 1) (by omega)
    have j2 : wrap64 (((4 * j : Nat) : Int) + 2) = ((4 * j + 2 : Nat) : Int) := w64_nat (4 * j + 2) (by omega)
    have j3 : wrap64 (((4 * j : Nat) : Int) + 3) = ((4 * j + 3 : Nat) : Int) := w64_nat (4 * j + 3) (by omega)
    have j4 : wrap64 (((4 * j : Nat) : Int) + 4) = ((4 * (j + 1) : Nat) : Int) := w64_nat (4 * j + 4) (by omega)
    rw [cashbookref10_schedule.l0, j1, j2, j3, j4, hb (4 * j) (by omega), hb (4 * j + 1) (by omega), hb (4 * j + 2) (by omega), hb (4 * j + 3) (by omega), Sha.be_bits, hz, zw_len, List.length_take, hw]
    refine (if_pos (by omega)).trans ?_
    refine (if_pos (by omega)).trans ?_
    refine (if_pos (by omega)).trans ?_
    refine (if_pos (by omega)).trans ?_
    refine (if_pos (by omega)).trans ?_
    refine (if_pos (by omega)).trans ?_
    refine (if_pos (by omega)).trans ?_
    refine (if_pos (by omega)).trans ?_
    refine (if_pos (by omega)).trans ?_
    refine (if_pos (by omega)).trans ?_
    rw [← ih]
    congr 1
    have hj : j < (words s.data.toList).length := by omega
    have hg := Sha.words_get 16 j s.data.toList (by omega) (by omega)
    rw [List.getD_eq_getElem?_getD, List.getElem?_eq_getElem hj] at hg
    rw [List.take_succ_eq_append_getElem hj, zw_app]
    congr 1
    show _ = [(((words s.data.toList)[j]).toNat : Int)]
    rw [← hg]
    rfl
/-- What schedule(s) makes. -/
theorem sched_run (s : ByteArray) (h : s.data.toList.length = 64) : cashbookref10_schedule.f 2000 s = some (zw (sched s.data.toList 48)) := by
  unfold cashbookref10_schedule.f
  exact first_run s h 16 0 2000 (by omega) (by omega)
/-- So many bytes 0. -/
def zs (n : Nat) : ByteArray := ⟨(List.replicate n 0).toArray⟩
theorem zs_succ (n : Nat) : zs n ++ (⟨#[0]⟩ : ByteArray) = zs (n + 1) := by
  apply ByteArray.ext
  rw [ByteArray.data_append]
  show (List.replicate n 0).toArray ++ #[0] = (List.replicate (n + 1) 0).toArray
  apply Array.ext'
  rw [Array.toList_append, List.replicate_succ']
theorem zs_size (n : Nat) : (zs n).size = n := by
  show (List.replicate n 0).toArray.size = n
  simp
theorem blank_l0 (n : Nat) (hn : n < 1000000) : ∀ d j k, j + d = n → d < k → cashbookref10_blank.l0 k (n : Int) (zs j) (j : Int) = some (zs n)
  | _, _, 0, h, hk => by omega
  | 0, j, k + 1, h, hk => by
    obtain rfl : j = n := by omega
    rw [cashbookref10_blank.l0, if_neg (by omega)]
  | d + 1, j, k + 1, h, hk => by
    have ih := blank_l0 n hn d (j + 1) k (by omega) (by omega)
    rw [cashbookref10_blank.l0, if_pos (by omega), if_pos (by rw [zs_size]; omega), zs_succ, show wrap64 ((j : Int) + 1) = ((j + 1 : Nat) : Int) from w64_nat (j + 1) (by omega)]
    exact ih
theorem blank_run (n : Nat) (hn : n < 1000) : cashbookref10_blank.f 2000 (n : Int) = some (zs n) := by
  unfold cashbookref10_blank.f
  exact blank_l0 n (by omega) n 0 2000 (by omega) (by omega)
end Go.Proofs.YtldpnmebjnkjeaaDoor.Ref10
namespace Go.Proofs.YtldpnmebjnkjeaaDoor.Ref10
open Go.RowKit Go.Proofs.YtldpnmebjnkjeaaDoorW.PrintWords Go.Proofs.YtldpnmebjnkjeaaDoor.PH1 Go.Proofs.YtldpnmebjnkjeaaDoor Go.Proofs.YtldpnmebjnkjeaaDoorW.PrintLast Go.Proofs.YtldpnmebjnkjeaaDoorW.PrintMore
open Go.Proofs.YtldpnmebjnkjeaaDoor.Sha (hexL hd hexL_snoc hexL_len)
set_option linter.unusedVariables false
set_option linter.unusedSimpArgs false

theorem one_size (x : UInt8) : (⟨#[x]⟩ : ByteArray).size = 1 := rfl
end Go.Proofs.YtldpnmebjnkjeaaDoor.Ref10
namespace Go.Proofs.YtldpnmebjnkjeaaDoor.Ref10
open Go.RowKit Go.Proofs.YtldpnmebjnkjeaaDoorW.PrintWords Go.Proofs.YtldpnmebjnkjeaaDoor.PH1 Go.Proofs.YtldpnmebjnkjeaaDoor
open Go.Proofs.YtldpnmebjnkjeaaDoor.Sha (V8 wv RowU rotr)
set_option linter.unusedVariables false
set_option linter.unusedSimpArgs false

def wag (v : V8) : Array Value := (v.list.map wv).toArray
theorem wag_all (v : V8) : (wag v).all (·.oneCell') = true := all_oneCell_toArray (by
  intro x hx
  rw [List.mem_map] at hx
  obtain ⟨y, _, rfl⟩ := hx
  rfl)
theorem wag_size (v : V8) : (wag v).size = 8 := rfl
theorem wpList_load_w8 {ops : Array Oper} {rest : List Oper} {o : Oper} {a : Act} {Q : Exit → Act → World → Prop} {w : World} (hgd : o.guard = none) (x : Operand) (ho : o.op = .load 29 x) (b off : Nat) (hx : a.eval x = .pointer (some ⟨b, off, none⟩))
    (v : V8) (hr : w.rangeAt b off (v.list.map wv)) (h : wpList Tryd.prog ops Q rest (a.put o.dst (.agg (wag v))) w) : wpList Tryd.prog ops Q (o :: rest) a w :=
  wpList_load_mid hgd 29 x ho b off hx (v.list.map wv) (.array 8 28) hr (by kernel_rfl) rfl (by show _ = some 8; kernel_rfl) h
theorem range_row {w : World} {g : Nat} {L : List Value} {t : TypeId} {fr : Nat × Nat} (h : w.heap[g]? = some (.cells L.toArray t fr)) : w.rangeAt g 0 L := by
  intro j v hv
  rw [Nat.zero_add, cell_of_row _ _ _ _ _ _ h]
  simpa using hv
theorem RowU.range {t : TypeId} {g : Nat} {L : List UInt32} {w : World} (h : RowU t g L w) : w.rangeAt g 0 (L.map wv) := range_row h
theorem wpList_store_w8 {ops : Array Oper} {rest : List Oper} {o : Oper} {a : Act} {Q : Exit → Act → World → Prop} {w : World} (hgd : o.guard = none) (x y : Operand) (ho : o.op = .store 29 x y) (b : Nat) (hx : a.eval x = .pointer (some ⟨b, 0, none⟩))
    (v : V8) (hy : a.eval y = .agg (wag v)) (old : Array Value) (t : TypeId) (hr : w.heap[b]? = some (.cells old t (0, 0))) (hs : old.size = 8)
    (h : ∀ w', Hid (RowU t b v.list w') → (∀ k, k ≠ b → w'.heap[k]? = w.heap[k]?) → (∀ {B : Nat} {w0 : World}, Below B w0 w → B ≤ b → Below B w0 w') → w'.heap.size = w.heap.size → wpList Tryd.prog ops Q rest (a.put o.dst undef) w') : wpList Tryd.prog ops Q (o :: rest) a w := by
  refine wpList_plain hgd fun _ hK => ?_
  unfold Oper.wp execOp
  simp only [ho, hx, hy, Instr.storeAt, Instr.sureAddr, Sem.run_bind, Sem.run_pure, Result.andThen_ok, run_storeVar_row w _ _ _ _ _ hr (show (Tryd.prog.info? 29).map (·.size) = some ((wag v)).size by rw [wag_size]; kernel_rfl) (by rw [wag_size, hs]) (wag_all v)]
  refine hK _ _ (h _ (Lib.hid (setRow_heap w b _ _ _ _ hr)) (fun k hk => setRow_other _ _ _ _ hk) (fun {B w0} hb hB => hb.trans ⟨rfl, rfl, rfl, by simp, fun k hk => setRow_other _ _ _ _ (by omega)⟩) (by simp))
theorem run_load_w8 {w : World} {b off : Nat} {v : V8} (hr : w.rangeAt b off (v.list.map wv)) :
    (loadVar 29 ⟨b, off, none⟩).run Tryd.prog w = .ok (.agg (wag v)) w :=
  run_loadVar_mid w b off 29 (v.list.map wv) (.array 8 28) hr (by kernel_rfl) rfl (by show _ = some 8; kernel_rfl)
def z8 : V8 := ⟨0, 0, 0, 0, 0, 0, 0, 0⟩
theorem quiet_d {P : Program} {f : FuncId} {args : Array Value} {v : Value} (h : ∀ W, Calls P f args W fun e w' => e = .returned v ∧ Drawn0 W w') {w : World} {n : Nat} : Calls P f args (w.drewN n) fun e w'' => e = .returned v ∧ ∃ m, w'' = w.drewN m :=
  Calls.quiet_of ((h _).mono fun e w' ⟨he, hd⟩ => ⟨he, by obtain ⟨m, rfl⟩ := hd; exact ⟨m, rfl⟩⟩)
theorem rturn_calls (x : UInt32) (n : Nat) (h1 : 1 ≤ n) (h2 : n < 32) (W : World) : Calls Tryd.prog 103 #[.int .u32 (x.toNat : Int), .int .i64 (n : Int)] W fun e w' => e = .returned (.int .u32 ((rotr x n).toNat : Int)) ∧ Drawn0 W w' := cashbookref10_turn.calls _ _ _ W (turn_f x n h1 h2)
theorem rturn_6 (x : UInt32) (W : World) : Calls Tryd.prog 103 #[.int .u32 (x.toNat : Int), .int .i64 6] W fun e w' => e = .returned (.int .u32 ((rotr x 6).toNat : Int)) ∧ Drawn0 W w' := rturn_calls x 6 (by omega) (by omega) W
theorem rturn_11 (x : UInt32) (W : World) : Calls Tryd.prog 103 #[.int .u32 (x.toNat : Int), .int .i64 11] W fun e w' => e = .returned (.int .u32 ((rotr x 11).toNat : Int)) ∧ Drawn0 W w' := rturn_calls x 11 (by omega) (by omega) W
theorem rturn_25 (x : UInt32) (W : World) : Calls Tryd.prog 103 #[.int .u32 (x.toNat : Int), .int .i64 25] W fun e w' => e = .returned (.int .u32 ((rotr x 25).toNat : Int)) ∧ Drawn0 W w' := rturn_calls x 25 (by omega) (by omega) W
theorem rturn_2 (x : UInt32) (W : World) : Calls Tryd.prog 103 #[.int .u32 (x.toNat : Int), .int .i64 2] W fun e w' => e = .returned (.int .u32 ((rotr x 2).toNat : Int)) ∧ Drawn0 W w' := rturn_calls x 2 (by omega) (by omega) W
theorem rturn_13 (x : UInt32) (W : World) : Calls Tryd.prog 103 #[.int .u32 (x.toNat : Int), .int .i64 13] W fun e w' => e = .returned (.int .u32 ((rotr x 13).toNat : Int)) ∧ Drawn0 W w' := rturn_calls x 13 (by omega) (by omega) W
theorem rturn_22 (x : UInt32) (W : World) : Calls Tryd.prog 103 #[.int .u32 (x.toNat : Int), .int .i64 22] W fun e w' => e = .returned (.int .u32 ((rotr x 22).toNat : Int)) ∧ Drawn0 W w' := rturn_calls x 22 (by omega) (by omega) W
theorem rchosen_calls (e f g : UInt32) (W : World) : Calls Tryd.prog 104 #[.int .u32 (e.toNat : Int), .int .u32 (f.toNat : Int), .int .u32 (g.toNat : Int)] W fun en w' => en = .returned (.int .u32 ((Sha.ch e f g).toNat : Int)) ∧ Drawn0 W w' := cashbookref10_chosen.calls _ _ _ _ W (chosen_f e f g)
end Go.Proofs.YtldpnmebjnkjeaaDoor.Ref10
namespace Go.Proofs.YtldpnmebjnkjeaaDoor.Ref10
open Go.RowKit Go.Proofs.YtldpnmebjnkjeaaDoorW.PrintWords Go.Proofs.YtldpnmebjnkjeaaDoor.PH1 Go.Proofs.YtldpnmebjnkjeaaDoor
open Go.Proofs.YtldpnmebjnkjeaaDoor.Sha (V8 wv RowU)
set_option linter.unusedVariables false
set_option linter.unusedSimpArgs false

theorem w8_info : ∃ i j : TypeInfo, Tryd.prog.info? 29 = some i ∧ i.zero = some (.agg (wag z8)) ∧ Tryd.prog.info? 28 = some j ∧ j.size = 1 := by
  have h : (Tryd.prog.info? 29).map (fun i => i.zero) = some (some (.agg (wag z8))) := by kernel_rfl
  have h2 : (Tryd.prog.info? 28).map (fun i => i.size) = some 1 := by kernel_rfl
  cases hq : Tryd.prog.info? 29 with
  | none => rw [hq] at h; cases h
  | some i =>
    cases hp : Tryd.prog.info? 28 with
    | none => rw [hp] at h2; cases h2
    | some j =>
      rw [hq] at h
      rw [hp] at h2
      exact ⟨i, j, rfl, Option.some.inj h, rfl, Option.some.inj h2⟩
theorem fill_one (place : Nat → Option (Nat × Nat)) (cells : Array Value) (i : Nat) (v : Value) (rest : List (Nat × Value)) (off : Nat) (hp : place i = some (off, 1)) (hv : v.cells = #[v]) (hc : off < cells.size) :
    Instr.fill place cells ((i, v) :: rest) = Instr.fill place (cells.setIfInBounds off v) rest := by
  rw [Instr.fill]
  simp only [hp, hv]
  simp
  intro h; omega
theorem built_w8 (v : V8) : Tryd.prog.built 29 [(0, wv v.a), (1, wv v.b), (2, wv v.c), (3, wv v.d), (4, wv v.e), (5, wv v.f), (6, wv v.g), (7, wv v.h)] = some (wag v) := by
  obtain ⟨i, j, hi, hz, hj, hs⟩ := w8_info
  unfold Program.built
  rw [hi, show Tryd.prog.underlying 29 = some (.array 8 28) by kernel_rfl]
  simp only [hz, hj, hs]
  rw [show (Value.agg (wag z8)).cells = #[.int .u32 0, .int .u32 0, .int .u32 0, .int .u32 0, .int .u32 0, .int .u32 0, .int .u32 0, .int .u32 0] from rfl]
  rw [fill_one _ _ _ _ _ 0 rfl rfl (by simp), fill_one _ _ _ _ _ 1 rfl rfl (by simp), fill_one _ _ _ _ _ 2 rfl rfl (by simp), fill_one _ _ _ _ _ 3 rfl rfl (by simp), fill_one _ _ _ _ _ 4 rfl rfl (by simp), fill_one _ _ _ _ _ 5 rfl rfl (by simp), fill_one _ _ _ _ _ 6 rfl rfl (by simp), fill_one _ _ _ _ _ 7 rfl rfl (by simp), Instr.fill]
  simp [wag, V8.list]
theorem wpList_build_w8 {ops : Array Oper} {rest : List Oper} {o : Oper} {a : Act} {Q : Exit → Act → World → Prop} {w : World} (hgd : o.guard = none) (x0 x1 x2 x3 x4 x5 x6 x7 : Operand)
    (ho : o.op = .build 29 #[(0, x0), (1, x1), (2, x2), (3, x3), (4, x4), (5, x5), (6, x6), (7, x7)]) (v : V8)
    (h0 : a.eval x0 = .int .u32 (v.a.toNat : Int)) (h1 : a.eval x1 = .int .u32 (v.b.toNat : Int)) (h2 : a.eval x2 = .int .u32 (v.c.toNat : Int)) (h3 : a.eval x3 = .int .u32 (v.d.toNat : Int)) (h4 : a.eval x4 = .int .u32 (v.e.toNat : Int)) (h5 : a.eval x5 = .int .u32 (v.f.toNat : Int)) (h6 : a.eval x6 = .int .u32 (v.g.toNat : Int)) (h7 : a.eval x7 = .int .u32 (v.h.toNat : Int))
    (h : wpList Tryd.prog ops Q rest (a.put o.dst (.agg (wag v))) w) : wpList Tryd.prog ops Q (o :: rest) a w := by
  refine wpList_plain hgd fun _ hK => ?_
  unfold Oper.wp execOp
  simp only [ho, List.map_toArray, List.map_cons, List.map_nil, h0, h1, h2, h3, h4, h5, h6, h7]
  rw [Sem.run_bind, run_build w 29 #[(0, .int .u32 (v.a.toNat : Int)), (1, .int .u32 (v.b.toNat : Int)), (2, .int .u32 (v.c.toNat : Int)), (3, .int .u32 (v.d.toNat : Int)), (4, .int .u32 (v.e.toNat : Int)), (5, .int .u32 (v.f.toNat : Int)), (6, .int .u32 (v.g.toNat : Int)), (7, .int .u32 (v.h.toNat : Int))] (wag v) (built_w8 v)]
  exact hK _ _ h
end Go.Proofs.YtldpnmebjnkjeaaDoor.Ref10
namespace Go.Proofs.YtldpnmebjnkjeaaDoor.Ref10
open Go.RowKit Go.Proofs.YtldpnmebjnkjeaaDoorW.PrintWords Go.Proofs.YtldpnmebjnkjeaaDoor.PH1 Go.Proofs.YtldpnmebjnkjeaaDoor
open Go.Proofs.YtldpnmebjnkjeaaDoor.Sha (V8 wv RowU)
set_option linter.unusedVariables false
set_option linter.unusedSimpArgs false

theorem wpOp_wp {P : Program} {ops : Array Oper} {Q : Exit → Act → World → Prop} {i : Nat} {o : Oper} {a : Act} {w : World} {K : Act → World → Prop} (hi : ops[i]? = some o) (hw : Region.wanted o (yielded ops a.tmps) = true) (h : o.wp P a w K Q) : wpOp P ops Q i K a w := by
  unfold wpOp
  simp only [hi, hw, if_true]
  exact .inl h
theorem wp_load_w8 {o : Oper} {a : Act} {K : Act → World → Prop} {Q : Exit → Act → World → Prop} {w : World} (x : Operand) (ho : o.op = .load 29 x) (b off : Nat) (hx : a.eval x = .pointer (some ⟨b, off, none⟩))
    (v : V8) (hr : w.rangeAt b off (v.list.map wv)) (h : K (a.put o.dst (.agg (wag v))) w) : o.wp Tryd.prog a w K Q :=
  wp_load_mid 29 x ho b off hx (v.list.map wv) (.array 8 28) hr (by kernel_rfl) rfl (by show _ = some 8; kernel_rfl) h
theorem wp_store_w8 {o : Oper} {a : Act} {K : Act → World → Prop} {Q : Exit → Act → World → Prop} {w : World} (x y : Operand) (ho : o.op = .store 29 x y) (b : Nat) (hx : a.eval x = .pointer (some ⟨b, 0, none⟩))
    (v : V8) (hy : a.eval y = .agg (wag v)) (old : Array Value) (t : TypeId) (hr : w.heap[b]? = some (.cells old t (0, 0))) (hs : old.size = 8)
    (h : ∀ w', Hid (RowU t b v.list w') → (∀ k, k ≠ b → w'.heap[k]? = w.heap[k]?) → (∀ {B : Nat} {w0 : World}, Below B w0 w → B ≤ b → Below B w0 w') → w'.heap.size = w.heap.size → K (a.put o.dst undef) w') : o.wp Tryd.prog a w K Q := by
  unfold Oper.wp execOp
  simp only [ho, hx, hy, Instr.storeAt, Instr.sureAddr, Sem.run_bind, Sem.run_pure, Result.andThen_ok, run_storeVar_row w _ _ _ _ _ hr (show (Tryd.prog.info? 29).map (·.size) = some ((wag v)).size by rw [wag_size]; kernel_rfl) (by rw [wag_size, hs]) (wag_all v)]
  exact h _ (Lib.hid (setRow_heap w b _ _ _ _ hr)) (fun k hk => setRow_other _ _ _ _ hk) (fun {B w0} hb hB => hb.trans ⟨rfl, rfl, rfl, by simp, fun k hk => setRow_other _ _ _ _ (by omega)⟩) (by simp)
theorem wp_load_dig {o : Oper} {a : Act} {K : Act → World → Prop} {Q : Exit → Act → World → Prop} {w : World} (x : Operand) (ho : o.op = .load 24 x) (b off : Nat) (hx : a.eval x = .pointer (some ⟨b, off, none⟩))
    (l : List UInt8) (hl : l.length = 32) (hr : w.rangeAt b off (Lib.byteCells l)) (h : K (a.put o.dst (.agg (Lib.byteCells l).toArray)) w) : o.wp Tryd.prog a w K Q :=
  wp_load_mid 24 x ho b off hx (Lib.byteCells l) (.array 32 5) hr (by kernel_rfl) rfl (by rw [Lib.byteCells, List.length_map, hl]; kernel_rfl) h
theorem wp_store_dig {o : Oper} {a : Act} {K : Act → World → Prop} {Q : Exit → Act → World → Prop} {w : World} (x y : Operand) (ho : o.op = .store 24 x y) (b : Nat) (hx : a.eval x = .pointer (some ⟨b, 0, none⟩))
    (l : List UInt8) (hl : l.length = 32) (hy : a.eval y = .agg (Lib.byteCells l).toArray) (old : Array Value) (t : TypeId) (hr : w.heap[b]? = some (.cells old t (0, 0))) (hs : old.size = 32)
    (h : ∀ w', Hid (w'.heap[b]? = some (.cells (Lib.byteCells l).toArray t (0, 0))) → (∀ k, k ≠ b → w'.heap[k]? = w.heap[k]?) → (∀ {B : Nat} {w0 : World}, Below B w0 w → B ≤ b → Below B w0 w') → w'.heap.size = w.heap.size → K (a.put o.dst undef) w') : o.wp Tryd.prog a w K Q := by
  have hX : ((Lib.byteCells l).toArray).size = 32 := by rw [List.size_toArray, Lib.byteCells, List.length_map, hl]
  unfold Oper.wp execOp
  simp only [ho, hx, hy, Instr.storeAt, Instr.sureAddr, Sem.run_bind, Sem.run_pure, Result.andThen_ok, run_storeVar_row w _ _ _ _ _ hr (show (Tryd.prog.info? 24).map (·.size) = some ((Lib.byteCells l).toArray).size by rw [hX]; kernel_rfl) (by rw [hX, hs]) (all_bytes l)]
  exact h _ (Lib.hid (setRow_heap w b _ _ _ _ hr)) (fun k hk => setRow_other _ _ _ _ hk) (fun {B w0} hb hB => hb.trans ⟨rfl, rfl, rfl, by simp, fun k hk => setRow_other _ _ _ _ (by omega)⟩) (by simp)
end Go.Proofs.YtldpnmebjnkjeaaDoor.Ref10
namespace Go.Proofs.YtldpnmebjnkjeaaDoor.Sha
open Go.RowKit Go.Proofs.YtldpnmebjnkjeaaDoorW.PrintWords
set_option linter.unusedVariables false
set_option linter.unusedSimpArgs false

/-- The bytes of a digest's row as a string. -/
theorem conv_dig {w : World} {b : Nat} {l : List UInt8} {t : TypeId} {fr : Nat × Nat} (hr : w.heap[b]? = some (.cells (Lib.byteCells l).toArray t fr)) (hl : l.length = 32) :
    (convert 22 9 (.slice (some ⟨b, 0, none⟩) 32 32)).run Tryd.prog w = .ok (.string ⟨l.toArray⟩) w := by
  have h := Go.run_convert_bytes_back (P := Tryd.prog) w 22 9 5 ⟨b, 0, none⟩ 32 l (by kernel_rfl) (by kernel_rfl) (by kernel_rfl) (fun j hj => by
    have hh : (⟨b, 0, none⟩ : Addr).add j = ⟨b, j, none⟩ := by unfold Addr.add; simp; omega
    rw [hh, cell_of_row _ _ _ _ _ _ hr]
    simp [Lib.byteCells, hj])
  rwa [hl] at h
end Go.Proofs.YtldpnmebjnkjeaaDoor.Sha
namespace Go.Proofs.YtldpnmebjnkjeaaDoor.Sha
/-- Three bytes. -/
theorem abc_hex : hexL (sumL [97, 98, 99]) = [98, 97, 55, 56, 49, 54, 98, 102, 56, 102, 48, 49, 99, 102, 101, 97, 52, 49, 52, 49, 52, 48, 100, 101, 53, 100, 97, 101, 50, 50, 50, 51, 98, 48, 48, 51, 54, 49, 97, 51, 57, 54, 49, 55, 55, 97, 57, 99, 98, 52, 49, 48, 102, 102, 54, 49, 102, 50, 48, 48, 49, 53, 97, 100] := by decide +kernel
end Go.Proofs.YtldpnmebjnkjeaaDoor.Sha
namespace Go.Proofs.YtldpnmebjnkjeaaDoor.Sha
open Go.RowKit Go.Proofs.YtldpnmebjnkjeaaDoorW.PrintWords
set_option linter.unusedVariables false
set_option linter.unusedSimpArgs false

theorem eqItems (w : World) (l m : List UInt8) : ∀ is : List Nat, (∀ i ∈ is, i < l.length ∧ i < m.length) →
    (Op.eqItems 9999 5 1 (Lib.byteCells l).toArray (Lib.byteCells m).toArray is).run Tryd.prog w = .ok (is.all fun i => l[i]? == m[i]?) w
  | [], _ => by simp [Op.eqItems]
  | i :: is, h => by
    have h1 := h i (by simp)
    have hp : Tryd.prog.plainKey 5 = true := by kernel_rfl
    have hu : Tryd.prog.underlying 5 = some (.int .u8) := by kernel_rfl
    have e1 : (Lib.byteCells l).toArray[i]? = some (.int .u8 (l[i].toNat : Int)) := by
      rw [List.getElem?_toArray, Lib.byteCells, List.getElem?_map, List.getElem?_eq_getElem h1.1]; rfl
    have e2 : (Lib.byteCells m).toArray[i]? = some (.int .u8 (m[i].toNat : Int)) := by
      rw [List.getElem?_toArray, Lib.byteCells, List.getElem?_map, List.getElem?_eq_getElem h1.2]; rfl
    have hb : ((l[i].toNat : Int) == (m[i].toNat : Int)) = (l[i]? == m[i]?) := by
      rw [List.getElem?_eq_getElem h1.1, List.getElem?_eq_getElem h1.2, Bool.eq_iff_iff]
      simp only [beq_iff_eq, Int.natCast_inj, Option.some.injEq]
      exact ⟨fun h => UInt8.toNat_inj.1 h, fun h => by rw [h]⟩
    simp only [Op.eqItems, Sem.run_bind, Nat.mul_one, run_part_plain w hp e1, run_part_plain w hp e2, Result.andThen_ok, run_equalIn_int w 9998 5 .u8 .u8 _ _ hu, hb, List.all_cons]
    cases l[i]? == m[i]?
    · simp
    · simpa using eqItems w l m is (fun j hj => h j (by simp [hj]))

/-- Are two digests one? -/
theorem eq32 (w : World) (l m : List UInt8) (hl : l.length = 32) (hm : m.length = 32) :
    (Op.equalIn 10000 24 (.agg (Lib.byteCells l).toArray) (.agg (Lib.byteCells m).toArray)).run Tryd.prog w = .ok (decide (l = m)) w := by
  have hc : Tryd.prog.cellsOf 5 = 1 := by kernel_rfl
  obtain ⟨i, hi⟩ : ∃ i, Tryd.prog.info? 5 = some i := by
    have h : (Tryd.prog.info? 5).isSome = true := by kernel_rfl
    exact Option.isSome_iff_exists.1 h
  rw [run_equalIn_array w 9999 _ _ (show Tryd.prog.underlying 24 = some (.array 32 5) by kernel_rfl) hi, hc, eqItems w l m _ (fun i hi => by have := List.mem_range.1 hi; omega)]
  refine congrArg (fun b => Result.ok b w) ?_
  rw [Bool.eq_iff_iff, List.all_eq_true, decide_eq_true_eq]
  constructor
  · intro h
    apply List.ext_getElem?
    intro i
    by_cases hi : i < 32
    · simpa using h i (List.mem_range.2 hi)
    · rw [List.getElem?_eq_none (by omega), List.getElem?_eq_none (by omega)]
  · rintro rfl i _
    simp
/-- A digest out of a variable, whatever the operation's guard, if it runs. -/
theorem wpList_load_digG {ops : Array Oper} {rest : List Oper} {o : Oper} {a : Act} {Q : Exit → Act → World → Prop} {w : World} (hw : Region.wanted o (yielded ops a.tmps) = true) (x : Operand) (ho : o.op = .load 24 x) (b : Nat) (hx : a.eval x = .pointer (some ⟨b, 0, none⟩))
    (l : List UInt8) (hl : l.length = 32) (t : TypeId) (fr : Nat × Nat) (hr : w.heap[b]? = some (.cells (Lib.byteCells l).toArray t fr)) (h : wpList Tryd.prog ops Q rest (a.put o.dst (.agg (Lib.byteCells l).toArray)) w) : wpList Tryd.prog ops Q (o :: rest) a w := by
  refine wpList_step fun K hK => ?_
  rw [if_pos hw]
  refine wp_load_mid 24 x ho b 0 hx (Lib.byteCells l) (.array 32 5) ?_ (by kernel_rfl) rfl (by rw [Lib.byteCells, List.length_map, hl]; kernel_rfl) (hK _ _ h)
  intro j v hv
  rw [Nat.zero_add, cell_of_row _ _ _ _ _ _ hr]
  simpa using hv
/-- A digest's variable. -/
def DigAt (b : Nat) (l : List UInt8) (w : World) : Prop := w.heap[b]? = some (.cells (Lib.byteCells l).toArray 24 (0, 0))
theorem DigAt.below {b : Nat} {l : List UInt8} {w w1 : World} (h : DigAt b l w) (hb : Below w.heap.size w w1) : DigAt b l w1 := blk_below h hb
set_option maxHeartbeats 4000000 in
set_option maxRecDepth 100000 in
theorem alive_calls (w : World) (hK : KAt w) : Calls Tryd.prog 15 #[] w fun e w' => e = .returned (.bool true) ∧ Below w.heap.size w w' := by
  have hab := abc_hex
  have hl := sumL_len [97, 98, 99]
  generalize hD : sumL [97, 98, 99] = D at hab hl
  replace hab := Lib.hid hab
  replace hl := Lib.hid hl
  replace hD := Lib.hid hD
  go_enter Tryd.func15, Tryd.ntmps15
  go_wp2_with fail
  refine (sum_ok ⟨#[97, 98, 99]⟩ w hK (by decide)).mono ?_
  rintro e w1 ⟨rfl, hb⟩
  rw [show ((⟨#[97, 98, 99]⟩ : ByteArray)).data.toList = [97, 98, 99] from rfl, hD.out]
  replace hb := Lib.hid hb
  go_wp2_with (first | (refine wpList_store_dig rfl (.tmp 1) (.tmp 5) rfl w1.heap.size rfl D hl.out rfl (Lib.byteCells (List.replicate 32 0)).toArray 24 (heap_alloc_last _ _) (by rw [List.size_toArray, Lib.byteCells, List.length_map, z32_len]) ?_; intro w2 h2 _ hB2) | (refine wpList_load_digG rfl (.tmp 1) rfl w1.heap.size rfl D hl.out _ _ h2.out ?_))
  refine (hex_calls D hl.out w2).mono ?_
  rintro e w3 ⟨rfl, hb3⟩
  rw [hab.out]
  have hB := Lib.hid (((hB2 ((Below.alloc hb.out hb.out.size _)) hb.out.size).trans (Below.mono hb3 (Below.size (hB2 ((Below.alloc hb.out hb.out.size _)) hb.out.size)))))
  clear hb3 hB2
  go_wp2_with fail
  go_ret
  exact ⟨rfl, hB.out⟩
end Go.Proofs.YtldpnmebjnkjeaaDoor.Sha
namespace Go.Proofs.YtldpnmebjnkjeaaDoor.TrW
open Go.RowKit Go.Proofs.YtldpnmebjnkjeaaDoorW.PrintWords Go.Proofs.YtldpnmebjnkjeaaDoor.PH1 Go.Proofs.YtldpnmebjnkjeaaDoor Go.Proofs.YtldpnmebjnkjeaaDoorW.PrintLast Go.Proofs.YtldpnmebjnkjeaaDoorW.PrintMore
open Go.Proofs.YtldpnmebjnkjeaaDoor.Sha
open Go.Proofs.YtldpnmebjnkjeaaDoor.Ref10 (wp_store_dig wp_load_dig wpOp_wp range_row)
set_option linter.unusedVariables false
set_option linter.unusedSimpArgs false

def leafP (s : List UInt8) : List UInt8 := sumL (0 :: s)
def joinP (a b : List UInt8) : List UInt8 := sumL (1 :: (a ++ b))
def alg : Tr.Alg (List UInt8) (List UInt8) := ⟨sumL [], leafP, joinP⟩
theorem zrow : ((Lib.byteCells (List.replicate 32 0)).toArray).size = 32 := by rw [List.size_toArray, Lib.byteCells, List.length_map, z32_len]
set_option maxHeartbeats 4000000 in
set_option maxRecDepth 100000 in
theorem tsum_calls (s : ByteArray) (hs : s.size ≤ 1048576) (w : World) (hK : KAt w) :
    Calls Tryd.prog 71 #[.string s] w fun e w' => e = .returned (.agg (Lib.byteCells (sumL s.data.toList)).toArray) ∧ Below w.heap.size w w' := by
  have hl := Lib.hid (sumL_len s.data.toList)
  have hcall := fun W hk => sum_ok s W hk hs
  generalize sumL s.data.toList = D at hl hcall ⊢
  replace hcall := Lib.hid hcall
  go_enter Tryd.func71, Tryd.ntmps71
  go_wp2_with fail
  generalize hw1 : w.alloc _ = w1
  have HR : Hid (DigAt w.heap.size (List.replicate 32 0) w1) := by
    rw [← hw1]; exact Lib.hid (heap_alloc_last _ _)
  have HB : Hid (Below w.heap.size w w1) := by
    rw [← hw1]; exact Lib.hid ((Below.refl _ _).alloc (Nat.le_refl _) _)
  have HS : Hid (w.heap.size < w1.heap.size) := by rw [← hw1]; exact Lib.hid (by simp)
  clear hw1
  refine (hcall.out w1 (hK.below HB.out)).mono ?_
  rintro e w2 ⟨rfl, hb⟩
  replace HR := Lib.hid (HR.out.below hb)
  replace HB := Lib.hid (HB.out.trans (hb.mono HB.out.size))
  replace HS := Lib.hid (Nat.lt_of_lt_of_le HS.out hb.size)
  clear hb hcall hK
  go_upto_region 2 with (guard_target = wpList _ _ _ (⟨none, _, _, _, _, _⟩ :: _) _ _; refine wpList_store_dig rfl (.tmp 3) (.tmp 8) rfl w2.heap.size rfl D hl.out rfl (Lib.byteCells (List.replicate 32 0)).toArray 24 (heap_alloc_last _ _) zrow ?_; intro w4 h4 _ hB4; have hb4 : Below w2.heap.size w2 w4 := hB4 ((Below.refl _ _).alloc (Nat.le_refl _) _) (Nat.le_refl _))
  have H3 : Hid (DigAt w2.heap.size D w4) := h4
  replace HR := Lib.hid (HR.out.below hb4)
  replace HB := Lib.hid (HB.out.trans (hb4.mono HB.out.size))
  have hS := HS.out
  generalize w2.heap.size = b3 at H3 hS ⊢
  clear h4 hB4 hb4 HS
  go_wp2_with (first | (guard_target = wpList _ _ _ (⟨some 10, _, _, _, _, _⟩ :: _) _ _; refine wpList_load_dig rfl (.tmp 3) rfl b3 rfl D hl.out _ _ H3.out ?_) | (guard_target = wpList _ _ _ (⟨none, _, _, _, _, _⟩ :: _) _ _; refine wpList_store_dig rfl (.tmp 2) (.tmp 10) rfl w.heap.size rfl D hl.out rfl _ _ HR.out zrow ?_; intro w9 h9 _ hB9))
  refine bodyPost_ret (v := .agg (Lib.byteCells D).toArray) ?_ rfl ⟨rfl, hB9 HB.out (by omega)⟩
  simp [results, Tryd.results71, asAddr, run_load_dig h9.out hl.out, Act.put]
set_option maxHeartbeats 4000000 in
set_option maxRecDepth 100000 in
theorem tleaf_calls (s : ByteArray) (hs : s.size ≤ 1048575) (w : World) (hK : KAt w) :
    Calls Tryd.prog 41 #[.string s] w fun e w' => e = .returned (.agg (Lib.byteCells (leafP s.data.toList)).toArray) ∧ Below w.heap.size w w' := by
  have hsz : (⟨#[0]⟩ ++ s : ByteArray).size ≤ 1048576 := by rw [ByteArray.size_append]; show 1 + s.size ≤ _; omega
  have hda : (⟨#[0]⟩ ++ s : ByteArray).data.toList = 0 :: s.data.toList := by rw [ByteArray.data_append, Array.toList_append]; rfl
  have hcall := fun W hk => tsum_calls (⟨#[0]⟩ ++ s) hsz W hk
  rw [hda] at hcall
  have hl := Lib.hid (sumL_len (0 :: s.data.toList))
  unfold leafP
  generalize sumL (0 :: s.data.toList) = D at hl hcall ⊢
  replace hcall := Lib.hid hcall
  have hlt : (9223372036854775807 < 1 + s.size) = False := eq_false (by omega)
  clear hda hsz
  go_enter Tryd.func41, Tryd.ntmps41
  go_wp2_with fail
  generalize hw1 : w.alloc _ = w1
  have HR : Hid (DigAt w.heap.size (List.replicate 32 0) w1) := by
    rw [← hw1]; exact Lib.hid (heap_alloc_last _ _)
  have HB : Hid (Below w.heap.size w w1) := by
    rw [← hw1]; exact Lib.hid ((Below.refl _ _).alloc (Nat.le_refl _) _)
  clear hw1
  refine (hcall.out w1 (hK.below HB.out)).mono ?_
  rintro e w2 ⟨rfl, hb⟩
  replace HR := Lib.hid (HR.out.below hb)
  replace HB := Lib.hid (HB.out.trans (hb.mono HB.out.size))
  clear hb hcall hK
  go_wp2_with (guard_target = wpList _ _ _ (⟨none, _, _, _, _, _⟩ :: _) _ _; refine wpList_store_dig rfl (.tmp 2) (.tmp 5) rfl w.heap.size rfl D hl.out rfl _ _ HR.out zrow ?_; intro w9 h9 _ hB9)
  refine bodyPost_ret (v := .agg (Lib.byteCells D).toArray) ?_ rfl ⟨rfl, hB9 HB.out (by omega)⟩
  simp [results, Tryd.results41, asAddr, run_load_dig h9.out hl.out, Act.put]
theorem yieldsIf_conv_dig {ops : Array Oper} {S : World → Prop} {op : Oper} {a : Act} (hw : Region.wanted op (yielded ops a.tmps) = true) (x : Operand) (ho : op.op = .convert 22 9 x)
    (b : Nat) (hx : a.eval x = .slice (some ⟨b, 0, none⟩) 32 32) (l : List UInt8) (hl : l.length = 32) (s : ByteArray) (hs : s = ⟨l.toArray⟩) (hS : ∀ w, S w → DigAt b l w) : YieldsIf Tryd.prog ops S op (.string s) a :=
  .inl ⟨hw, fun w h => by
    unfold execOp
    simp only [ho, hx]
    rw [Sem.run_bind, conv_dig (hS w h) hl, hs]
    rfl⟩
def S2 (b : Nat) (x : List UInt8) (c : Nat) (y : List UInt8) (W : World) : Prop := DigAt b x W ∧ DigAt c y W
set_option maxHeartbeats 4000000 in
set_option maxRecDepth 100000 in
theorem tjoin_calls (x y : List UInt8) (hx : x.length = 32) (hy : y.length = 32) (w : World) (hK : KAt w) :
    Calls Tryd.prog 35 #[.agg (Lib.byteCells x).toArray, .agg (Lib.byteCells y).toArray] w fun e w' => e = .returned (.agg (Lib.byteCells (joinP x y)).toArray) ∧ Below w.heap.size w w' := by
  obtain ⟨SA, hSA⟩ : ∃ s : ByteArray, s = ⟨x.toArray⟩ := ⟨_, rfl⟩
  obtain ⟨SB, hSB⟩ : ∃ s : ByteArray, s = ⟨y.toArray⟩ := ⟨_, rfl⟩
  have hA32 : SA.size = 32 := by rw [hSA]; show x.toArray.size = 32; rw [List.size_toArray, hx]
  have hB32 : SB.size = 32 := by rw [hSB]; show y.toArray.size = 32; rw [List.size_toArray, hy]
  have hsz : (⟨#[1]⟩ ++ SA ++ SB : ByteArray).size ≤ 1048576 := by rw [ByteArray.size_append, ByteArray.size_append]; show 1 + SA.size + SB.size ≤ _; omega
  have hda : (⟨#[1]⟩ ++ SA ++ SB : ByteArray).data.toList = 1 :: (x ++ y) := by rw [ByteArray.data_append, ByteArray.data_append, Array.toList_append, Array.toList_append, hSA, hSB]; rfl
  have hcall := fun W hk => tsum_calls (⟨#[1]⟩ ++ SA ++ SB) hsz W hk
  rw [hda] at hcall
  unfold joinP
  have hl := Lib.hid (sumL_len (1 :: (x ++ y)))
  generalize sumL (1 :: (x ++ y)) = D at hl hcall ⊢
  replace hcall := Lib.hid hcall
  have hlt1 : (9223372036854775807 < 1 + SA.size) = False := eq_false (by omega)
  have hlt2 : (9223372036854775807 < 1 + SA.size + SB.size) = False := eq_false (by omega)
  replace hSA := Lib.hid hSA
  replace hSB := Lib.hid hSB
  replace hx := Lib.hid hx
  replace hy := Lib.hid hy
  replace hA32 := Lib.hid hA32
  replace hB32 := Lib.hid hB32
  clear hda hsz
  go_enter Tryd.func35, Tryd.ntmps35
  go_upto_region 1 with fail
  generalize hw1 : World.alloc _ _ = w1
  have HX : Hid (DigAt w.heap.size x w1) := by
    rw [← hw1]; refine Lib.hid ?_; unfold DigAt
    rw [Below.heap_alloc _ _ _ (by simp; omega), Below.heap_alloc _ _ _ (by simp)]; exact heap_alloc_last _ _
  have HY : Hid (DigAt (w.heap.size + 1) y w1) := by
    rw [← hw1]; refine Lib.hid ?_; unfold DigAt
    rw [Below.heap_alloc _ _ _ (by simp)]; exact heap_at1 _ _ _
  have HR : Hid (DigAt (w.heap.size + 2) (List.replicate 32 0) w1) := by
    rw [← hw1]; refine Lib.hid ?_; unfold DigAt
    have h := heap_alloc_last ((w.alloc (.cells (Lib.byteCells x).toArray 24)).alloc (.cells (Lib.byteCells y).toArray 24)) (.cells (Lib.byteCells (List.replicate 32 0)).toArray 24)
    rwa [show ((w.alloc (.cells (Lib.byteCells x).toArray 24)).alloc (.cells (Lib.byteCells y).toArray 24)).heap.size = w.heap.size + 2 by simp] at h
  have HB : Hid (Below w.heap.size w w1) := by
    rw [← hw1]; exact Lib.hid ((((Below.refl _ _).alloc (Nat.le_refl _) _).alloc (by simp) _).alloc (by simp; omega) _)
  clear hw1
  refine wp_region_held (S := S2 w.heap.size x (w.heap.size + 1) y) (by kernel_rfl) ?_
  change wpAnyH _ _ _ _ _ _ _ _ w1.drew
  replace HX : Hid (DigAt w.heap.size x w1.drew) := HX
  replace HY : Hid (DigAt (w.heap.size + 1) y w1.drew) := HY
  replace HR : Hid (DigAt (w.heap.size + 2) (List.replicate 32 0) w1.drew) := HR
  replace HB := Lib.hid HB.out.drew
  generalize w1.drew = v0 at HX HY HR HB ⊢
  have hS : S2 w.heap.size x (w.heap.size + 1) y v0 := ⟨HX.out, HY.out⟩
  refine wpAnyH_take (i := 0) (v := ?_) rfl (by kernel_rfl) (by kernel_rfl) (by kernel_rfl) (fun _ _ _ h => h) (Or.inl ⟨by rfl, ?_⟩) hS ?_
  rotate_left
  · intro v _; go_simp; first | done | with_reducible rfl
  rotate_left
  simp only [List.getElem_toArray, List.getElem_cons_succ, List.getElem_cons_zero, Act.put, List.setIfInBounds_toArray, List.set_cons_zero, List.set_cons_succ]
  refine wpAnyH_take (i := 1) (v := _) rfl (by kernel_rfl) (by kernel_rfl) (by kernel_rfl) (fun _ _ _ h => h) (yieldsIf_conv_dig (by rfl) (.tmp 5) rfl w.heap.size rfl x hx.out SA hSA.out (fun _ h => h.1)) hS ?_
  try simp only [List.getElem_toArray, List.getElem_cons_succ, List.getElem_cons_zero, Act.put, List.setIfInBounds_toArray, List.set_cons_zero, List.set_cons_succ]
  refine wpAnyH_take (i := 2) (v := ?_) rfl (by kernel_rfl) (by kernel_rfl) (by kernel_rfl) (fun _ _ _ h => h) (Or.inl ⟨by rfl, ?_⟩) hS ?_
  rotate_left
  · intro v _; go_simp; first | done | with_reducible rfl
  rotate_left
  simp only [List.getElem_toArray, List.getElem_cons_succ, List.getElem_cons_zero, Act.put, List.setIfInBounds_toArray, List.set_cons_zero, List.set_cons_succ]
  refine wpAnyH_take (i := 3) (v := ?_) rfl (by kernel_rfl) (by kernel_rfl) (by kernel_rfl) (fun _ _ _ h => h) (Or.inl ⟨by rfl, ?_⟩) hS ?_
  rotate_left
  · intro v _; go_simp; first | done | with_reducible rfl
  rotate_left
  simp only [List.getElem_toArray, List.getElem_cons_succ, List.getElem_cons_zero, Act.put, List.setIfInBounds_toArray, List.set_cons_zero, List.set_cons_succ]
  refine wpAnyH_take (i := 4) (v := _) rfl (by kernel_rfl) (by kernel_rfl) (by kernel_rfl) (fun _ _ _ h => h) (yieldsIf_conv_dig (by rfl) (.tmp 8) rfl (w.heap.size + 1) rfl y hy.out SB hSB.out (fun _ h => h.2)) hS ?_
  try simp only [List.getElem_toArray, List.getElem_cons_succ, List.getElem_cons_zero, Act.put, List.setIfInBounds_toArray, List.set_cons_zero, List.set_cons_succ]
  refine wpAnyH_take (i := 5) (v := ?_) rfl (by kernel_rfl) (by kernel_rfl) (by kernel_rfl) (fun _ _ _ h => h) (Or.inl ⟨by rfl, ?_⟩) hS ?_
  rotate_left
  · intro v _; go_simp; first | done | with_reducible rfl
  rotate_left
  simp only [List.getElem_toArray, List.getElem_cons_succ, List.getElem_cons_zero, Act.put, List.setIfInBounds_toArray, List.set_cons_zero, List.set_cons_succ]
  refine wpAnyH_all (rs := [6]) (by kernel_rfl) (by simp) ?_
  intro i hi
  simp only [List.mem_cons, List.not_mem_nil, or_false] at hi
  subst hi
  refine wpOp_wp rfl (by rfl) ?_
  go_simp
  refine (hcall.out v0 (hK.below HB.out)).mono ?_
  rintro e v1 ⟨rfl, hb⟩
  replace HX := Lib.hid (HX.out.below hb)
  replace HY := Lib.hid (HY.out.below hb)
  replace HR := Lib.hid (HR.out.below hb)
  replace HB := Lib.hid (HB.out.trans (Below.mono hb HB.out.size))
  clear hb hS
  have hS : S2 w.heap.size x (w.heap.size + 1) y v1 := ⟨HX.out, HY.out⟩
  refine ⟨hS, ?_⟩
  try simp only [List.getElem_toArray, List.getElem_cons_succ, List.getElem_cons_zero, Act.put, List.setIfInBounds_toArray, List.set_cons_zero, List.set_cons_succ]
  refine wpAnyH_all (rs := [7]) (by kernel_rfl) (by simp) ?_
  intro i hi
  simp only [List.mem_cons, List.not_mem_nil, or_false] at hi
  subst hi
  refine wpOp_wp rfl (by rfl) ?_
  refine wp_store_dig (.tmp 4) (.tmp 11) rfl (w.heap.size + 2) rfl D hl.out rfl _ _ HR.out zrow ?_
  intro v2 h9 hk9 hB9 hs9
  have hS2 : S2 w.heap.size x (w.heap.size + 1) y v2 := ⟨(hk9 _ (by omega)).trans HX.out, (hk9 _ (by omega)).trans HY.out⟩
  refine ⟨hS2, ?_⟩
  try simp only [List.getElem_toArray, List.getElem_cons_succ, List.getElem_cons_zero, Act.put, List.setIfInBounds_toArray, List.set_cons_zero, List.set_cons_succ]
  refine wpAnyH_done (by kernel_rfl) ?_ _
  clear hS hS2 hlt1 hlt2
  go_wp2_with fail
  refine bodyPost_ret (v := .agg (Lib.byteCells D).toArray) ?_ rfl ⟨rfl, hB9 HB.out (by omega)⟩
  simp [results, Tryd.results35, asAddr, run_load_dig h9.out hl.out, Act.put]
end Go.Proofs.YtldpnmebjnkjeaaDoor.TrW
namespace Go.Proofs.YtldpnmebjnkjeaaDoor.TrW
open Go.RowKit Go.Proofs.YtldpnmebjnkjeaaDoorW.PrintWords Go.Proofs.YtldpnmebjnkjeaaDoor.PH1 Go.Proofs.YtldpnmebjnkjeaaDoor Go.Proofs.YtldpnmebjnkjeaaDoorW.PrintLast Go.Proofs.YtldpnmebjnkjeaaDoorW.PrintMore
open Go.Proofs.YtldpnmebjnkjeaaDoor.Sha
open Go.Proofs.YtldpnmebjnkjeaaDoor.Ref10 (wp_store_dig wp_load_dig wpOp_wp range_row)
set_option linter.unusedVariables false
set_option linter.unusedSimpArgs false

theorem split_run (n : Nat) (h : n ≤ 1024) : tree_split.f 20 (n : Int) = some ((Tr.sp n : Nat) : Int) := by
  have all : ∀ m : Fin 1025, tree_split.f 20 (m.val : Int) = some ((Tr.sp m.val : Nat) : Int) := by decide +kernel
  exact all ⟨n, by omega⟩
theorem rsplit_run (n : Nat) (h : n ≤ 1024) : cashbookref11_Split.f 20 (n : Int) = some ((Tr.sp n : Nat) : Int) := by
  have all : ∀ m : Fin 1025, cashbookref11_Split.f 20 (m.val : Int) = some ((Tr.sp m.val : Nat) : Int) := by decide +kernel
  exact all ⟨n, by omega⟩
theorem split_calls (n : Nat) (h : n ≤ 1024) (w : World) : Calls Tryd.prog 69 #[.int .i64 (n : Int)] w fun e w' => e = .returned (.int .i64 ((Tr.sp n : Nat) : Int)) ∧ Drawn0 w w' := tree_split.calls 20 _ _ w (split_run n h)
/-- The texts as bytes. -/
def bl (L : List ByteArray) : List (List UInt8) := L.map fun s => s.data.toList
theorem bl_len (L : List ByteArray) : (bl L).length = L.length := by simp [bl]
theorem bl_take (L : List ByteArray) (k : Nat) : bl (L.take k) = (bl L).take k := by simp [bl, List.map_take]
theorem bl_drop (L : List ByteArray) (k : Nat) : bl (L.drop k) = (bl L).drop k := by simp [bl, List.map_drop]
theorem str_info : ∃ i : TypeInfo, Tryd.prog.info? 9 = some i ∧ i.size = 1 := by
  have h : (Tryd.prog.info? 9).map (fun i => i.size) = some 1 := by kernel_rfl
  cases hq : Tryd.prog.info? 9 with
  | none => rw [hq] at h; cases h
  | some i => rw [hq] at h; exact ⟨i, rfl, Option.some.inj h⟩
theorem und_strs : Tryd.prog.underlying 53 = some (.slice 9) := by kernel_rfl
/-- The first texts of a row. -/
theorem cut_take {A : Option Addr} {c : Nat} {L : List ByteArray} (k : Nat) (hk : k ≤ L.length) (hc : L.length ≤ c) (W : World) :
    (Instr.slice 53 (.slice A L.length c) none (some (.int .i64 (k : Int))) none).run Tryd.prog W = .ok (.slice A (L.take k).length c) W := by
  obtain ⟨i, hi, hs⟩ := str_info
  exact (print_take_of (P := Tryd.prog) Value.string ByteArray.empty 53 9 .i64 und_strs hi hs A c L (k : Int) (by omega) (by omega) hc).1 W
/-- The last texts of a row. -/
theorem cut_drop {A : Option Addr} {c : Nat} {L : List ByteArray} (k : Nat) (hk : k ≤ L.length) (hc : L.length ≤ c) :
    ∃ A' : Option Addr, (∀ W : World, (Instr.slice 53 (.slice A L.length c) (some (.int .i64 (k : Int))) none none).run Tryd.prog W = .ok (.slice A' (L.drop k).length (c - k)) W) ∧
      (∀ w : World, Kd.C Kd.string w A L.length L → Kd.C Kd.string w A' (L.drop k).length (L.drop k)) ∧ (L.drop k).length ≤ c - k := by
  obtain ⟨i, hi, hs⟩ := str_info
  obtain ⟨A', h1, h2, h3⟩ := print_drop_of (P := Tryd.prog) Value.string ByteArray.empty 53 9 .i64 und_strs hi hs A c L (k : Int) (by omega) (by omega) hc
  exact ⟨A', h1, fun w h => Kd.C_of_reads (h2 w (Kd.reads_of_C h)), h3⟩
theorem yieldsIf_slice {P : Program} {ops : Array Oper} {S : World → Prop} {op : Oper} {a : Act} (hw : Region.wanted op (yielded ops a.tmps) = true) {t : TypeId} (hu : P.underlying t = some (.slice (P.elem t))) {x : Operand} {lo hi : Option Operand} (ho : op.op = .slice t x lo hi none) (vx : Value) (hx : a.eval x = vx)
    (vlo vhi : Option Value) (hlo : lo.map a.eval = vlo) (hhi : hi.map a.eval = vhi) (r : Value) (hr : ∀ W : World, (Instr.slice t vx vlo vhi none).run P W = .ok r W) : YieldsIf P ops S op r a :=
  .inl ⟨hw, fun w h => by
    subst hlo hhi hx
    unfold execOp
    simp only [ho, Option.map_none]
    rw [Sem.run_bind, run_sliceAt_slice w t _ _ _ _ hu, hr w]
    rfl⟩
theorem und_strs' : Tryd.prog.underlying 53 = some (.slice (Tryd.prog.elem 53)) := by kernel_rfl
/-- All texts are so long at most. -/
def Small (L : List ByteArray) : Prop := ∀ s ∈ L, s.size ≤ 1048575
theorem Small.take {L : List ByteArray} (h : Small L) (k : Nat) : Small (L.take k) := fun s hs => h s (List.mem_of_mem_take hs)
theorem Small.drop {L : List ByteArray} (h : Small L) (k : Nat) : Small (L.drop k) := fun s hs => h s (List.mem_of_mem_drop hs)
set_option maxHeartbeats 8000000 in
set_option maxRecDepth 100000 in
theorem root_none (A : Option Addr) (c : Nat) (w : World) (hK : KAt w) :
    Calls Tryd.prog 68 #[.slice A 0 c] w fun e w' => e = .returned (.agg (Lib.byteCells (Tr.root alg [])).toArray) ∧ Below w.heap.size w w' := by
  rw [show Tr.root alg [] = sumL [] from Tr.root_nil alg]
  have hcall := fun W hk => tsum_calls ⟨#[]⟩ (by decide) W hk
  have hl := Lib.hid (sumL_len [])
  rw [show (⟨#[]⟩ : ByteArray).data.toList = [] from rfl] at hcall
  generalize sumL [] = D at hl hcall ⊢
  replace hcall := Lib.hid hcall
  go_enter Tryd.func68, Tryd.ntmps68
  go_wp2_with fail
  generalize hw1 : w.alloc _ = w1
  have HR : Hid (DigAt w.heap.size (List.replicate 32 0) w1) := by
    rw [← hw1]; exact Lib.hid (heap_alloc_last _ _)
  have HB : Hid (Below w.heap.size w w1) := by
    rw [← hw1]; exact Lib.hid ((Below.refl _ _).alloc (Nat.le_refl _) _)
  clear hw1
  refine (hcall.out w1 (hK.below HB.out)).mono ?_
  rintro e w2 ⟨rfl, hb⟩
  replace HR := Lib.hid (HR.out.below hb)
  replace HB := Lib.hid (HB.out.trans (Below.mono hb HB.out.size))
  clear hb
  go_wp2_with (guard_target = wpList _ _ _ (⟨none, _, _, _, _, _⟩ :: _) _ _; refine wpList_store_dig rfl (.tmp 2) (.tmp 8) rfl w.heap.size rfl D hl.out rfl _ _ HR.out zrow ?_; intro w9 h9 _ hB9)
  refine bodyPost_ret (v := .agg (Lib.byteCells D).toArray) ?_ rfl ⟨rfl, hB9 HB.out (by omega)⟩
  simp [results, Tryd.results68, asAddr, run_load_dig h9.out hl.out, Act.put]
set_option maxHeartbeats 8000000 in
set_option maxRecDepth 100000 in
theorem root_single (A : Option Addr) (c : Nat) (s : ByteArray) (hs : s.size ≤ 1048575) (w : World) (hC : Kd.C Kd.string w A 1 [s]) (hK : KAt w) :
    Calls Tryd.prog 68 #[.slice A 1 c] w fun e w' => e = .returned (.agg (Lib.byteCells (Tr.root alg [s.data.toList])).toArray) ∧ Below w.heap.size w w' := by
  rw [show Tr.root alg [s.data.toList] = leafP s.data.toList from Tr.root_one alg _]
  obtain ⟨ad, rfl, hc⟩ := Kd.at_string hC 0 (by omega) (by omega)
  have hc0 : w.cell? ad = some (.string s) := by
    rw [show ad.add ((0 : Int).toNat) = ad by unfold Addr.add; simp] at hc
    exact hc
  have hal : ad.block < w.heap.size := by
    rcases Nat.lt_or_ge ad.block w.heap.size with h | h
    · exact h
    · unfold World.cell? at hc0
      rw [Array.getElem?_eq_none h] at hc0
      cases hc0
  clear hc
  have hcall := fun W hk => tleaf_calls s hs W hk
  have hl : Hid ((leafP s.data.toList).length = 32) := Lib.hid (sumL_len _)
  generalize leafP s.data.toList = D at hl hcall ⊢
  replace hcall := Lib.hid hcall
  replace hc0 := Lib.hid hc0
  go_enter Tryd.func68, Tryd.ntmps68
  go_upto_region 5 with fail
  generalize hw1 : w.alloc _ = w1
  have HR : Hid (DigAt w.heap.size (List.replicate 32 0) w1) := by
    rw [← hw1]; exact Lib.hid (heap_alloc_last _ _)
  have HB : Hid (Below w.heap.size w w1) := by
    rw [← hw1]; exact Lib.hid ((Below.refl _ _).alloc (Nat.le_refl _) _)
  clear hw1
  have hc1 : w1.cell? ad = some (.string s) := (HB.out.cell hal).trans hc0.out
  go_wp2_with fail
  refine (hcall.out w1 (hK.below HB.out)).mono ?_
  rintro e w2 ⟨rfl, hb⟩
  clear hc1
  replace HR := Lib.hid (HR.out.below hb)
  replace HB := Lib.hid (HB.out.trans (Below.mono hb HB.out.size))
  clear hb
  go_wp2_with (guard_target = wpList _ _ _ (⟨none, _, _, _, _, _⟩ :: _) _ _; refine wpList_store_dig rfl (.tmp 2) (.tmp 14) rfl w.heap.size rfl D hl.out rfl _ _ HR.out zrow ?_; intro w9 h9 _ hB9)
  refine bodyPost_ret (v := .agg (Lib.byteCells D).toArray) ?_ rfl ⟨rfl, hB9 HB.out (by omega)⟩
  simp [results, Tryd.results68, asAddr, run_load_dig h9.out hl.out, Act.put]
theorem rlen (L : List (List UInt8)) : (Tr.root alg L).length = 32 := by
  match L with
  | [] => rw [Tr.root_nil]; exact sumL_len _
  | [x] => rw [Tr.root_one]; exact sumL_len _
  | x :: y :: r => rw [Tr.root_join alg _ (by simp)]; exact sumL_len _
/-- Nothing is asked of the world where the texts lie, but that they are there. -/
def TT (w : World) : Prop := True
set_option maxHeartbeats 8000000 in
set_option maxRecDepth 100000 in
theorem troot_calls : ∀ (m : Nat) (A : Option Addr) (c : Nat) (L : List ByteArray) (w : World), L.length ≤ m → L.length ≤ 1024 → Small L → L.length ≤ c → Kd.C Kd.string w A L.length L → KAt w →
    Calls Tryd.prog 68 #[.slice A L.length c] w fun e w' => e = .returned (.agg (Lib.byteCells (Tr.root alg (bl L))).toArray) ∧ Below w.heap.size w w' := by
  intro m
  induction m with
  | zero =>
    intro A c L w hm hL hS hc hC hK
    obtain rfl : L = [] := List.eq_nil_of_length_eq_zero (by omega)
    exact root_none A c w hK
  | succ m ih =>
    intro A c L w hm hL hS hc hC hK
    match L, hm, hL, hS, hc, hC with
    | [], _, _, _, _, _ => exact root_none A c w hK
    | [s], _, _, hS, _, hC => exact root_single A c s (hS s (by simp)) w hC hK
    | x :: y :: r, hm, hL, hS, hc, hC =>
      generalize hLL : x :: y :: r = L at hm hL hS hc hC ⊢
      have h2 : 2 ≤ L.length := by rw [← hLL]; simp
      clear hLL x y r
      have h3 := Tr.sp_lt h2
      have h4 := Tr.sp_pos L.length
      have hj : Tr.root alg (bl L) = joinP (Tr.root alg (bl (L.take (Tr.sp L.length)))) (Tr.root alg (bl (L.drop (Tr.sp L.length)))) := by
        rw [Tr.root_join alg (bl L) (by rw [bl_len]; exact h2), bl_len, bl_take, bl_drop]
        rfl
      rw [hj]
      clear hj
      have hsp := fun W => split_calls L.length hL W
      have hi1 : (L.length == 0) = false := by rw [beq_eq_false_iff_ne]; omega
      have hi2 : (L.length == 1) = false := by rw [beq_eq_false_iff_ne]; omega
      have hi3 : ((L.length : Int) == 0) = false := by rw [beq_eq_false_iff_ne]; omega
      have hi4 : ((L.length : Int) == 1) = false := by rw [beq_eq_false_iff_ne]; omega
      obtain ⟨k, hk⟩ : ∃ k, k = Tr.sp L.length := ⟨_, rfl⟩
      rw [← hk] at h3 h4 hsp ⊢
      replace hk := Lib.hid hk
      have tk1 := fun W => cut_take (A := A) (c := c) (L := L) k (by omega) hc W
      obtain ⟨A', dk1, dk2, dk3⟩ := cut_drop (A := A) (c := c) (L := L) k (by omega) hc
      have hc1 := fun W hC hk => ih A c (L.take k) W (by rw [List.length_take]; omega) (by rw [List.length_take]; omega) (hS.take k) (by rw [List.length_take]; omega) hC hk
      have hc2 := fun W hC hk => ih A' (c - k) (L.drop k) W (by rw [List.length_drop]; omega) (by rw [List.length_drop]; omega) (hS.drop k) dk3 hC hk
      have hCt := Kd.C_take (m := k) hC (by omega)
      have hCd := dk2 w hC
      have l1 := rlen (bl (L.take k))
      have l2 := rlen (bl (L.drop k))
      have hjn := fun W hk => tjoin_calls _ _ l1 l2 W hk
      have hl : (joinP (Tr.root alg (bl (L.take k))) (Tr.root alg (bl (L.drop k)))).length = 32 := sumL_len _
      generalize joinP (Tr.root alg (bl (L.take k))) (Tr.root alg (bl (L.drop k))) = D at hjn hl ⊢
      generalize Tr.root alg (bl (L.take k)) = D1 at hc1 l1 hjn
      generalize Tr.root alg (bl (L.drop k)) = D2 at hc2 l2 hjn
      obtain ⟨L1, hL1⟩ : ∃ L1, L1 = L.take k := ⟨_, rfl⟩
      obtain ⟨L2, hL2⟩ : ∃ L2, L2 = L.drop k := ⟨_, rfl⟩
      rw [← hL1] at tk1 hc1 hCt
      rw [← hL2] at dk1 hc2 hCd
      clear hL1 hL2 dk3
      replace hjn := Lib.hid hjn
      replace hc1 := Lib.hid hc1
      replace hc2 := Lib.hid hc2
      replace tk1 := Lib.hid tk1
      replace dk1 := Lib.hid dk1
      replace hsp := Lib.hid hsp
      replace hl := Lib.hid hl
      replace l1 := Lib.hid l1
      replace l2 := Lib.hid l2
      replace hCt := Lib.hid hCt
      replace hCd := Lib.hid hCd
      replace hC := Lib.hid hC
      replace hS := Lib.hid hS
      replace hK := Lib.hid hK
      clear ih dk2
      go_enter Tryd.func68, Tryd.ntmps68
      go_wp2_with fail
      generalize hw1 : w.alloc _ = w1
      have HR : Hid (DigAt w.heap.size (List.replicate 32 0) w1) := by
        rw [← hw1]; exact Lib.hid (heap_alloc_last _ _)
      have HB : Hid (Below w.heap.size w w1) := by
        rw [← hw1]; exact Lib.hid ((Below.refl _ _).alloc (Nat.le_refl _) _)
      clear hw1
      refine (hsp.out w1).mono ?_
      rintro e w2 ⟨rfl, hb⟩
      replace hb := hb.below
      replace HR := Lib.hid (HR.out.below hb)
      replace HB := Lib.hid (HB.out.trans (Below.mono hb HB.out.size))
      clear hb
      go_upto_region 7 with fail
      replace HR : Hid (DigAt w.heap.size (List.replicate 32 0) w2.drew) := HR
      replace HB := Lib.hid HB.out.drew
      refine wp_region_held (S := TT) (by kernel_rfl) ?_
      change wpAnyH _ _ _ _ _ _ _ _ w2.drew
      generalize w2.drew = v0 at HR HB ⊢
      have hS : TT v0 := trivial
      refine wpAnyH_take (i := 0) (v := ?_) rfl (by kernel_rfl) (by kernel_rfl) (by kernel_rfl) (fun _ _ _ h => h) (Or.inl ⟨by rfl, ?_⟩) hS ?_
      rotate_left
      · intro v _; go_simp; first | done | with_reducible rfl
      rotate_left
      simp only [List.getElem_toArray, List.getElem_cons_succ, List.getElem_cons_zero, Act.put, List.setIfInBounds_toArray, List.set_cons_zero, List.set_cons_succ]
      refine wpAnyH_take (i := 1) (v := ?_) rfl (by kernel_rfl) (by kernel_rfl) (by kernel_rfl) (fun _ _ _ h => h) (Or.inl ⟨by rfl, ?_⟩) hS ?_
      rotate_left
      · intro v _; go_simp; first | done | with_reducible rfl
      rotate_left
      simp only [List.getElem_toArray, List.getElem_cons_succ, List.getElem_cons_zero, Act.put, List.setIfInBounds_toArray, List.set_cons_zero, List.set_cons_succ]
      refine wpAnyH_take (i := 2) (v := _) rfl (by kernel_rfl) (by kernel_rfl) (by kernel_rfl) (fun _ _ _ h => h) (yieldsIf_slice (by rfl) und_strs' rfl (.slice A L.length c) rfl none (some (.int .i64 k)) rfl rfl _ tk1.out) hS ?_
      try simp only [List.getElem_toArray, List.getElem_cons_succ, List.getElem_cons_zero, Act.put, List.setIfInBounds_toArray, List.set_cons_zero, List.set_cons_succ]
      refine wpAnyH_take (i := 4) (v := ?_) rfl (by kernel_rfl) (by kernel_rfl) (by kernel_rfl) (fun _ _ _ h => h) (Or.inl ⟨by rfl, ?_⟩) hS ?_
      rotate_left
      · intro v _; go_simp; first | done | with_reducible rfl
      rotate_left
      simp only [List.getElem_toArray, List.getElem_cons_succ, List.getElem_cons_zero, Act.put, List.setIfInBounds_toArray, List.set_cons_zero, List.set_cons_succ]
      refine wpAnyH_take (i := 5) (v := ?_) rfl (by kernel_rfl) (by kernel_rfl) (by kernel_rfl) (fun _ _ _ h => h) (Or.inl ⟨by rfl, ?_⟩) hS ?_
      rotate_left
      · intro v _; go_simp; first | done | with_reducible rfl
      rotate_left
      simp only [List.getElem_toArray, List.getElem_cons_succ, List.getElem_cons_zero, Act.put, List.setIfInBounds_toArray, List.set_cons_zero, List.set_cons_succ]
      refine wpAnyH_take (i := 6) (v := _) rfl (by kernel_rfl) (by kernel_rfl) (by kernel_rfl) (fun _ _ _ h => h) (yieldsIf_slice (by rfl) und_strs' rfl (.slice A L.length c) rfl (some (.int .i64 k)) none rfl rfl _ dk1.out) hS ?_
      try simp only [List.getElem_toArray, List.getElem_cons_succ, List.getElem_cons_zero, Act.put, List.setIfInBounds_toArray, List.set_cons_zero, List.set_cons_succ]
      refine wpAnyH_all (rs := [3]) (by kernel_rfl) (by simp) ?_
      intro i hi
      simp only [List.mem_cons, List.not_mem_nil, or_false] at hi
      subst hi
      refine wpOp_wp rfl (by rfl) ?_
      go_simp
      refine (hc1.out v0 (Kd.C_below hCt.out HB.out) (hK.out.below HB.out)).mono ?_
      rintro e v1 ⟨rfl, hb⟩
      replace HR := Lib.hid (HR.out.below hb)
      replace HB := Lib.hid (HB.out.trans (Below.mono hb HB.out.size))
      clear hb
      have hS : TT v1 := trivial
      refine ⟨hS, ?_⟩
      try simp only [List.getElem_toArray, List.getElem_cons_succ, List.getElem_cons_zero, Act.put, List.setIfInBounds_toArray, List.set_cons_zero, List.set_cons_succ]
      refine wpAnyH_all (rs := [7]) (by kernel_rfl) (by simp) ?_
      intro i hi
      simp only [List.mem_cons, List.not_mem_nil, or_false] at hi
      subst hi
      refine wpOp_wp rfl (by rfl) ?_
      go_simp
      refine (hc2.out v1 (Kd.C_below hCd.out HB.out) (hK.out.below HB.out)).mono ?_
      rintro e v2 ⟨rfl, hb⟩
      replace HR := Lib.hid (HR.out.below hb)
      replace HB := Lib.hid (HB.out.trans (Below.mono hb HB.out.size))
      clear hb
      have hS : TT v2 := trivial
      refine ⟨hS, ?_⟩
      try simp only [List.getElem_toArray, List.getElem_cons_succ, List.getElem_cons_zero, Act.put, List.setIfInBounds_toArray, List.set_cons_zero, List.set_cons_succ]
      refine wpAnyH_all (rs := [8]) (by kernel_rfl) (by simp) ?_
      intro i hi
      simp only [List.mem_cons, List.not_mem_nil, or_false] at hi
      subst hi
      refine wpOp_wp rfl (by rfl) ?_
      go_simp
      refine (hjn.out v2 (hK.out.below HB.out)).mono ?_
      rintro e v3 ⟨rfl, hb⟩
      replace HR := Lib.hid (HR.out.below hb)
      replace HB := Lib.hid (HB.out.trans (Below.mono hb HB.out.size))
      clear hb
      have hS : TT v3 := trivial
      refine ⟨hS, ?_⟩
      try simp only [List.getElem_toArray, List.getElem_cons_succ, List.getElem_cons_zero, Act.put, List.setIfInBounds_toArray, List.set_cons_zero, List.set_cons_succ]
      refine wpAnyH_all (rs := [9]) (by kernel_rfl) (by simp) ?_
      intro i hi
      simp only [List.mem_cons, List.not_mem_nil, or_false] at hi
      subst hi
      refine wpOp_wp rfl (by rfl) ?_
      refine wp_store_dig (.tmp 2) (.tmp 26) rfl w.heap.size rfl D hl.out rfl _ _ HR.out zrow ?_
      intro v4 h9 hk9 hB9 hs9
      have hS : TT v4 := trivial
      refine ⟨hS, ?_⟩
      try simp only [List.getElem_toArray, List.getElem_cons_succ, List.getElem_cons_zero, Act.put, List.setIfInBounds_toArray, List.set_cons_zero, List.set_cons_succ]
      refine wpAnyH_done (by kernel_rfl) ?_ _
      go_wp2_with fail
      refine bodyPost_ret (v := .agg (Lib.byteCells D).toArray) ?_ rfl ⟨rfl, hB9 HB.out (by omega)⟩
      simp [results, Tryd.results68, asAddr, run_load_dig h9.out hl.out, Act.put]
end Go.Proofs.YtldpnmebjnkjeaaDoor.TrW
namespace Go.Proofs.YtldpnmebjnkjeaaDoor.TrW
open Go.RowKit Go.Proofs.YtldpnmebjnkjeaaDoorW.PrintWords Go.Proofs.YtldpnmebjnkjeaaDoor.PH1 Go.Proofs.YtldpnmebjnkjeaaDoor Go.Proofs.YtldpnmebjnkjeaaDoorW.PrintLast Go.Proofs.YtldpnmebjnkjeaaDoorW.PrintMore
open Go.Proofs.YtldpnmebjnkjeaaDoor.Sha
open Go.Proofs.YtldpnmebjnkjeaaDoor.Ref10 (wp_store_dig wp_load_dig wpOp_wp range_row)
set_option linter.unusedVariables false
set_option linter.unusedSimpArgs false

def IdxSays (p : ByteArray → Bool) (l : List ByteArray) (i : Int) : Prop := (0 ≤ i) ↔ l.any p = true
set_option maxHeartbeats 400000 in
theorem indexLong (A : Option Addr) (c : Nat) (l : List ByteArray) (p : ByteArray → Bool)  (w : World) (hr : Kd.C Kd.string w A l.length l) (hm : l.length ≤ 9223372036854775807)
    (hG : Hid (∀ (x : ByteArray) (W : World), Below w.heap.size w W → Calls Tryd.prog 92 #[.string x] W fun e w' => e = .returned (.bool (p x)) ∧ Below W.heap.size W w')) :
    Calls Tryd.prog 107 #[.slice A l.length c, .func (.func 92) #[] #[]] w fun e w' => ∃ i : Int, e = .returned (.int .i64 i) ∧ IdxSays p l i ∧ Below w.heap.size w w' := by
  have HR := Lib.hid hr; clear hr
  have HB := Lib.hid (Below.refl w.heap.size w)
  go_enter Tryd.func107, Tryd.ntmps107
  go_wp2
  go_loopw [8] (fun i wr => ∃ k : Nat, k ≤ l.length ∧ i = .int .i64 k ∧ Hid (l.any p = (l.drop k).any p) ∧ Hid (Below w.heap.size w wr)) (fun i _ => l.length - (intOf i).toNat)
  case atStart => exact ⟨0, Nat.zero_le _, rfl, rfl, HB⟩
  case round =>
    clear HB
    obtain ⟨k, hk, rfl, hs, HB⟩ := hrel
    have HR2 := Lib.hid (Kd.C_below HR.out HB.out)
    by_cases hlt : k < l.length
    · obtain ⟨ad, hA, hc⟩ := ReadsOf.at_ (Kd.reads_of_C (d := ByteArray.empty) HR2.out) k (by omega) (by omega)
      subst hA
      simp only [Int.toNat_natCast] at hc
      have hdrop : l.drop k = rdOf ByteArray.empty l k :: l.drop (k + 1) := by
        rw [List.drop_eq_getElem_cons hlt]; congr 1; unfold rdOf; simp [hlt]
      generalize rdOf ByteArray.empty l (k : Int) = x at hc hdrop
      have HD := Lib.hid hdrop
      clear hdrop
      cases hx : p x with
      | false =>
        have HS : Hid (l.any p = (l.drop (k + 1)).any p) := by
          refine hs.out.trans ?_; rw [HD.out]; simp [hx]
        replace hx := Lib.hid hx
        go_wp2_with fail
        refine (hG.out x _ HB.out).mono ?_
        rintro e w1 ⟨rfl, hb1⟩
        rw [hx.out]
        replace hb1 := Lib.hid hb1
        go_wp2_with fail
        go_roundw
        case rel => exact ⟨k + 1, by omega, by go_num, HS, HB.out.trans (Below.mono hb1.out HB.out.size)⟩
        case measure => simp [intOf]; omega
      | true =>
        have HS : Hid (l.any p = true) := by
          refine hs.out.trans ?_; rw [HD.out]; simp [hx]
        replace hx := Lib.hid hx
        go_wp2_with fail
        refine (hG.out x _ HB.out).mono ?_
        rintro e w1 ⟨rfl, hb1⟩
        rw [hx.out]
        replace hb1 := Lib.hid hb1
        go_wp2_with fail
        go_ret
        exact ⟨k, rfl, by unfold IdxSays; rw [HS.out]; simp, HB.out.trans (Below.mono hb1.out HB.out.size)⟩
    · have HS : Hid (l.any p = false) := by
        refine hs.out.trans ?_; rw [List.drop_eq_nil_of_le (by omega)]; rfl
      go_wp2
      go_ret
      exact ⟨-1, rfl, by unfold IdxSays; rw [HS.out]; simp, HB.out⟩
set_option maxHeartbeats 400000 in
theorem containsLong (A : Option Addr) (c : Nat) (l : List ByteArray) (p : ByteArray → Bool)  (w : World) (hr : Kd.C Kd.string w A l.length l) (hm : l.length ≤ 9223372036854775807)
    (hG : Hid (∀ (x : ByteArray) (W : World), Below w.heap.size w W → Calls Tryd.prog 92 #[.string x] W fun e w' => e = .returned (.bool (p x)) ∧ Below W.heap.size W w')) :
    Calls Tryd.prog 93 #[.slice A l.length c, .func (.func 92) #[] #[]] w fun e w' => e = .returned (.bool (l.any p)) ∧ Below w.heap.size w w' := by
  have HR := Lib.hid hr; clear hr
  go_enter Tryd.func93, Tryd.ntmps93
  go_wp2_with fail
  refine (indexLong _ _ _ p  _ HR.out hm hG).mono ?_
  rintro e w' ⟨i, rfl, hi, hb⟩
  replace hi := Lib.hid hi
  go_wp2_with fail
  go_ret
  refine ⟨?_, hb⟩
  have : decide (0 ≤ i) = l.any p := by
    rw [Bool.eq_iff_iff, decide_eq_true_eq]; exact hi.out
  rw [← this]; rfl
def longB (x : ByteArray) : Bool := decide (1000 < (x.size : Int))
theorem long_calls (x : ByteArray) (w : World) : Calls Tryd.prog 92 #[.string x] w fun e w' => e = .returned (.bool (longB x)) ∧ Below w.heap.size w w' := by
  unfold longB
  go_enter Tryd.func92, Tryd.ntmps92
  go_wp2_with fail
  go_ret
  exact ⟨rfl, Below.refl _ _⟩
/-- What is wrong with a log. -/
def wrongN (L : List ByteArray) : Int := if 1024 < L.length ∨ L.any longB = true then 4 else 0
set_option maxHeartbeats 1000000 in
set_option maxRecDepth 100000 in
theorem twrong_calls (A : Option Addr) (c : Nat) (L : List ByteArray) (w : World) (hC : Kd.C Kd.string w A L.length L) :
    Calls Tryd.prog 67 #[.slice A L.length c] w fun e w' => e = .returned (.int .i64 (wrongN L)) ∧ Below w.heap.size w w' := by
  have hmax := Kd.C_max hC
  have hmf : ∀ (fn : Fn) (first cap : Array Value) (w : World), (Instr.makeFunc fn first cap).run Tryd.prog w = .ok (.func fn first cap) w := fun _ _ _ _ => rfl
  by_cases h : 1024 < L.length
  · have hw : wrongN L = 4 := by unfold wrongN; rw [if_pos (Or.inl h)]
    rw [hw]
    have h2 : (1024 : Int) < (L.length : Int) := by omega
    replace hC := Lib.hid hC
    go_enter Tryd.func67, Tryd.ntmps67
    go_wp2_with fail
    go_ret
    exact ⟨rfl, Below.refl _ _⟩
  · have h2 : ¬ (1024 : Int) < (L.length : Int) := by omega
    have h3 : decide ((1024 : Int) < (L.length : Int)) = false := by rw [decide_eq_false_iff_not]; omega
    have hcall := fun W hW => containsLong A c L longB W hW hmax (Lib.hid (fun x W _ => long_calls x W))
    cases hb : L.any longB with
    | true =>
      have hw : wrongN L = 4 := by unfold wrongN; rw [if_pos (Or.inr hb)]
      rw [hw]
      rw [hb] at hcall
      replace hcall := Lib.hid hcall
      replace hb := Lib.hid hb
      replace hw := Lib.hid hw
      replace hC := Lib.hid hC
      go_enter Tryd.func67, Tryd.ntmps67
      go_wp2_with fail
      refine (hcall.out w hC.out).mono ?_
      rintro e w1 ⟨rfl, hb1⟩
      replace hb1 := Lib.hid hb1
      go_wp2_with fail
      go_ret
      exact ⟨rfl, hb1.out⟩
    | false =>
      have hw : wrongN L = 0 := by unfold wrongN; rw [if_neg (fun h9 => by rcases h9 with h9 | h9; exact h h9; rw [hb] at h9; cases h9)]
      rw [hw]
      rw [hb] at hcall
      replace hcall := Lib.hid hcall
      replace hb := Lib.hid hb
      replace hw := Lib.hid hw
      replace hC := Lib.hid hC
      go_enter Tryd.func67, Tryd.ntmps67
      go_wp2_with fail
      refine (hcall.out w hC.out).mono ?_
      rintro e w1 ⟨rfl, hb1⟩
      replace hb1 := Lib.hid hb1
      go_wp2_with fail
      go_ret
      exact ⟨rfl, hb1.out⟩
theorem wrong_ok {L : List ByteArray} (h : wrongN L = 0) : L.length ≤ 1024 ∧ ∀ s ∈ L, s.size ≤ 1000 := by
  unfold wrongN at h
  split at h
  · cases h
  · rename_i h2
    refine ⟨by omega, fun s hs => ?_⟩
    have h3 : ¬ L.any longB = true := fun h9 => h2 (Or.inr h9)
    rw [List.any_eq_true] at h3
    rcases Nat.lt_or_ge 1000 s.size with h4 | h4
    · exact absurd ⟨s, hs, by unfold longB; simp; omega⟩ h3
    · exact h4
theorem wrong_01 (L : List ByteArray) : wrongN L = 0 ∨ wrongN L = 4 := by
  unfold wrongN; split
  · exact Or.inr rfl
  · exact Or.inl rfl
theorem small_of {L : List ByteArray} (h : ∀ s ∈ L, s.size ≤ 1000) : Small L := fun s hs => by have := h s hs; omega
set_option maxHeartbeats 4000000 in
set_option maxRecDepth 100000 in
theorem tRoot_bad (A : Option Addr) (c : Nat) (L : List ByteArray) (w : World) (hC : Kd.C Kd.string w A L.length L) (hw : wrongN L = 4) :
    Calls Tryd.prog 32 #[.slice A L.length c] w fun e w' => e = .returned (.tuple #[zeroDig, .int .i64 4]) ∧ Below w.heap.size w w' := by
  have hcall := fun W hW => twrong_calls A c L W hW
  rw [hw] at hcall
  replace hcall := Lib.hid hcall
  replace hC := Lib.hid hC
  clear hw
  go_enter Tryd.func32, Tryd.ntmps32
  go_wp2_with fail
  generalize hw1 : w.alloc _ = w1
  have HR : Hid (DigAt w.heap.size (List.replicate 32 0) w1) := by
    rw [← hw1]; exact Lib.hid (heap_alloc_last _ _)
  have HB : Hid (Below w.heap.size w w1) := by
    rw [← hw1]; exact Lib.hid ((Below.refl _ _).alloc (Nat.le_refl _) _)
  clear hw1
  refine (hcall.out w1 (Kd.C_below hC.out HB.out)).mono ?_
  rintro e w2 ⟨rfl, hb⟩
  replace HR := Lib.hid (HR.out.below hb)
  replace HB := Lib.hid (HB.out.trans (Below.mono hb HB.out.size))
  clear hb hcall
  go_wp2_with (guard_target = wpList _ _ _ (⟨none, _, _, _, _, _⟩ :: _) _ _; refine wpList_store_dig rfl (.tmp 2) (.tmp 9) rfl w.heap.size rfl (List.replicate 32 0) z32_len rfl _ _ HR.out zrow ?_; intro w9 h9 _ hB9)
  refine bodyPost_ret (v := .tuple #[zeroDig, .int .i64 4]) ?_ rfl ⟨rfl, hB9 HB.out (by omega)⟩
  simp [results, Tryd.results32, asAddr, run_load_dig h9.out z32_len, Act.put, zeroDig]
set_option maxHeartbeats 4000000 in
set_option maxRecDepth 100000 in
theorem tRoot_ok (A : Option Addr) (c : Nat) (L : List ByteArray) (w : World) (hC : Kd.C Kd.string w A L.length L) (hc : L.length ≤ c) (hw : wrongN L = 0) (hK : KAt w) :
    Calls Tryd.prog 32 #[.slice A L.length c] w fun e w' => e = .returned (.tuple #[.agg (Lib.byteCells (Tr.root alg (bl L))).toArray, .int .i64 0]) ∧ Below w.heap.size w w' := by
  have hcall := fun W hW => twrong_calls A c L W hW
  have hroot := fun W hW hk => troot_calls L.length A c L W (Nat.le_refl _) (wrong_ok hw).1 (small_of (wrong_ok hw).2) hc hW hk
  rw [hw] at hcall
  have hl := Lib.hid (rlen (bl L))
  generalize Tr.root alg (bl L) = D at hroot hl ⊢
  replace hcall := Lib.hid hcall
  replace hroot := Lib.hid hroot
  replace hC := Lib.hid hC
  replace hK := Lib.hid hK
  clear hw
  go_enter Tryd.func32, Tryd.ntmps32
  go_wp2_with fail
  generalize hw1 : w.alloc _ = w1
  have HR : Hid (DigAt w.heap.size (List.replicate 32 0) w1) := by
    rw [← hw1]; exact Lib.hid (heap_alloc_last _ _)
  have HB : Hid (Below w.heap.size w w1) := by
    rw [← hw1]; exact Lib.hid ((Below.refl _ _).alloc (Nat.le_refl _) _)
  clear hw1
  refine (hcall.out w1 (Kd.C_below hC.out HB.out)).mono ?_
  rintro e w2 ⟨rfl, hb⟩
  replace HR := Lib.hid (HR.out.below hb)
  replace HB := Lib.hid (HB.out.trans (Below.mono hb HB.out.size))
  clear hb hcall
  go_wp2_with fail
  refine (hroot.out w2 (Kd.C_below hC.out HB.out) (hK.out.below HB.out)).mono ?_
  rintro e w3 ⟨rfl, hb⟩
  replace HR := Lib.hid (HR.out.below hb)
  replace HB := Lib.hid (HB.out.trans (Below.mono hb HB.out.size))
  clear hb hroot
  go_wp2_with (guard_target = wpList _ _ _ (⟨none, _, _, _, _, _⟩ :: _) _ _; refine wpList_store_dig rfl (.tmp 2) (.tmp 12) rfl w.heap.size rfl D hl.out rfl _ _ HR.out zrow ?_; intro w9 h9 _ hB9)
  refine bodyPost_ret (v := .tuple #[.agg (Lib.byteCells D).toArray, .int .i64 0]) ?_ rfl ⟨rfl, hB9 HB.out (by omega)⟩
  simp [results, Tryd.results32, asAddr, run_load_dig h9.out hl.out, Act.put]
end Go.Proofs.YtldpnmebjnkjeaaDoor.TrW
namespace Go.Proofs.YtldpnmebjnkjeaaDoor.TrW
open Go.RowKit Go.Proofs.YtldpnmebjnkjeaaDoorW.PrintWords Go.Proofs.YtldpnmebjnkjeaaDoor.PH1 Go.Proofs.YtldpnmebjnkjeaaDoor Go.Proofs.YtldpnmebjnkjeaaDoorW.PrintLast Go.Proofs.YtldpnmebjnkjeaaDoorW.PrintMore
open Go.Proofs.YtldpnmebjnkjeaaDoor.Sha
set_option linter.unusedVariables false
set_option linter.unusedSimpArgs false

theorem sides_le : ∀ (k i n : Nat), n ≤ k → (Tr.sides i n).length ≤ n := by
  intro k
  induction k with
  | zero => intro i n h; rw [Tr.sides_small _ _ (by omega)]; exact Nat.zero_le _
  | succ k ih =>
    intro i n h
    by_cases h2 : 2 ≤ n
    · have h3 := Tr.sp_lt h2
      have h4 := Tr.sp_pos n
      by_cases h1 : i < Tr.sp n
      · rw [Tr.sides_left _ _ h2 h1, List.length_cons]
        have := ih i (Tr.sp n) (by omega)
        omega
      · rw [Tr.sides_right _ _ h2 h1, List.length_cons]
        have := ih (i - Tr.sp n) (n - Tr.sp n) (by omega)
        omega
    · rw [Tr.sides_small _ _ (by omega)]; exact Nat.zero_le _
theorem way_le : ∀ (k m n : Nat), n ≤ k → (Tr.way m n).length ≤ n := by
  intro k
  induction k with
  | zero => intro m n h; rw [Tr.way_end _ _ (by omega)]; exact Nat.zero_le _
  | succ k ih =>
    intro m n h
    by_cases h2 : 1 ≤ m ∧ m < n
    · have h3 := Tr.sp_lt (n := n) (by omega)
      have h4 := Tr.sp_pos n
      by_cases h1 : m ≤ Tr.sp n
      · rw [Tr.way_left _ _ h2 h1, List.length_cons]
        have := ih m (Tr.sp n) (by omega)
        omega
      · rw [Tr.way_right _ _ h2 h1, List.length_cons]
        have := ih (m - Tr.sp n) (n - Tr.sp n) (by omega)
        omega
    · rw [Tr.way_end _ _ h2]; exact Nat.zero_le _
theorem info_bool : (Tryd.prog.info? 4).map (fun i => (i.zero, i.size, i.bytes)) = some (some (.bool false), 1, 1) := by kernel_rfl
/-- A row of truths of the call's own. -/
def RB (b : Nat) (v : Value) (xs : List Bool) (w : World) : Prop := Kd.bool.R 4 w b (fun _ => True) v xs
theorem RB.below {b : Nat} {v : Value} {xs : List Bool} {w w1 : World} (h : RB b v xs w) (hb : Below w.heap.size w w1) : RB b v xs w1 := Kd.R_below h hb
/-- One truth more. -/
theorem wpList_append_bool {ops : Array Oper} {rest : List Oper} {o : Oper} {a : Act} {Q : Exit → Act → World → Prop} {W : World} (hgd : o.guard = none) (s x : Operand) (ho : o.op = .call { callee := .builtin .append, args := #[s, x], argTypes := #[108, 108] })
    {b : Nat} {w0 : World} (v : Value) (xs : List Bool) (p : Bool) (hs : a.eval s = v) (hx : a.eval x = .slice (some ⟨W.heap.size, 0, none⟩) 1 1) (HO : RB b v xs W) (HB : Below b w0 W) (hbase : b ≤ W.heap.size) (hl : xs.length ≤ 1073741824)
    (h : ∀ v1 w1, Hid (RB b v1 (xs ++ [p]) w1) → Below b w0 w1 → wpList Tryd.prog ops Q rest (a.put o.dst v1) w1) : wpList Tryd.prog ops Q (o :: rest) a (W.alloc (.cells #[.bool p] 4)) :=
  Kd.R_append Kd.bool b hgd s x 108 4 (.bool false) 1 ho Tryd.underlying108 info_bool rfl (by decide) (by decide) v xs p [.bool p] (fun _ => True) (fun _ => False) hs hx rfl (fun _ hk => hk.elim) (fun _ _ => trivial) HO HB hbase (by omega) (fun v1 w1 h1 h2 _ _ => h v1 w1 (Lib.hid h1) h2)
set_option maxHeartbeats 4000000 in
set_option maxRecDepth 100000 in
theorem tsides_calls (i0 n0 : Nat) (hi0 : i0 < n0) (hn0 : n0 ≤ 1024) (w : World) :
    Calls Tryd.prog 75 #[.int .i64 (i0 : Int), .int .i64 (n0 : Int)] w fun e w' => ∃ v, e = .returned v ∧ RB w.heap.size v (Tr.sides i0 n0) w' ∧ Below w.heap.size w w' := by
  have HB := Lib.hid (Below.refl w.heap.size w)
  have HO : Hid (RB w.heap.size (.slice none 0 0) [] w) := Lib.hid (Kd.R_nil _ _ _ _ _)
  have HE : Hid ([] ++ Tr.sides i0 n0 = Tr.sides i0 n0) := Lib.hid rfl
  have hle := Lib.hid (sides_le n0 i0 n0 (Nat.le_refl _))
  go_enter Tryd.func75, Tryd.ntmps75
  go_wp2_with fail
  go_loopw [0, 1, 5] (fun a b v wx => ∃ (i n : Nat) (xs : List Bool) (u : Value), a = .int .i64 i ∧ b = .int .i64 n ∧ u = v ∧ i < n ∧ n ≤ 1024 ∧ Hid (xs ++ Tr.sides i n = Tr.sides i0 n0) ∧ Hid (RB w.heap.size u xs wx) ∧ Hid (Below w.heap.size w wx)) (fun _ b _ _ => (intOf b).toNat)
  case atStart => exact ⟨i0, n0, [], _, rfl, rfl, rfl, hi0, hn0, HE, HO, HB⟩
  case round =>
    clear HE HO HB
    obtain ⟨i, n, xs, v5, rfl, rfl, rfl, hi, hn, HE, HO, HB⟩ := hrel
    by_cases h2 : 2 ≤ n
    · have hn1 : (1 : Int) < (n : Int) := by omega
      have h3 := Tr.sp_lt h2
      have h4 := Tr.sp_pos n
      have hsp := fun W => split_calls n hn W
      have hxl : Hid (xs.length ≤ 1073741824) := by
        have h5 := congrArg List.length HE.out
        rw [List.length_append] at h5
        have := hle.out
        exact Lib.hid (by omega)
      by_cases h1 : i < Tr.sp n
      · have HE2 : Hid ((xs ++ [true]) ++ Tr.sides i (Tr.sp n) = Tr.sides i0 n0) := by
          refine Lib.hid ?_
          rw [← HE.out, Tr.sides_left _ _ h2 h1, List.append_assoc]; rfl
        obtain ⟨k, hk⟩ : ∃ k, k = Tr.sp n := ⟨_, rfl⟩
        rw [← hk] at h3 h4 h1 hsp HE2
        replace hk := Lib.hid hk
        have h1' : (i : Int) < (k : Int) := by omega
        replace hsp := Lib.hid hsp
        go_wp2_with fail
        refine (hsp.out wr).mono ?_
        rintro e w2 ⟨rfl, hb⟩
        replace hb := hb.below
        replace HO := Lib.hid (HO.out.below hb)
        replace HB := Lib.hid (HB.out.trans (Below.mono hb HB.out.size))
        clear hb hsp
        go_wp2_with (guard_target = wpList _ _ _ (⟨some 16, _, _, _, _, _⟩ :: _) _ _; refine wpList_append_bool rfl (.tmp 11) (.tmp 15) rfl v5 xs true rfl rfl HO.out HB.out HB.out.size hxl.out ?_; intro v1 w1 HO1 HB1)
        refine ⟨⟨i, k, xs ++ [true], v1, rfl, rfl, rfl, h1, by omega, HE2, HO1, Lib.hid HB1⟩, by simp [intOf]; omega⟩
      · have HE2 : Hid ((xs ++ [false]) ++ Tr.sides (i - Tr.sp n) (n - Tr.sp n) = Tr.sides i0 n0) := by
          refine Lib.hid ?_
          rw [← HE.out, Tr.sides_right _ _ h2 h1, List.append_assoc]; rfl
        obtain ⟨k, hk⟩ : ∃ k, k = Tr.sp n := ⟨_, rfl⟩
        rw [← hk] at h3 h4 h1 hsp HE2
        replace hk := Lib.hid hk
        have h1' : ¬ (i : Int) < (k : Int) := by omega
        have h1b : decide ((i : Int) < (k : Int)) = false := by rw [decide_eq_false_iff_not]; exact h1'
        have e1 : (i : Int) - (k : Int) = ((i - k : Nat) : Int) := by omega
        have e2 : (n : Int) - (k : Int) = ((n - k : Nat) : Int) := by omega
        replace e1 := Lib.hid e1
        replace e2 := Lib.hid e2
        replace hsp := Lib.hid hsp
        go_wp2_with fail
        refine (hsp.out wr).mono ?_
        rintro e w2 ⟨rfl, hb⟩
        replace hb := hb.below
        replace HO := Lib.hid (HO.out.below hb)
        replace HB := Lib.hid (HB.out.trans (Below.mono hb HB.out.size))
        clear hb hsp
        go_wp2_with (guard_target = wpList _ _ _ (⟨some 16, _, _, _, _, _⟩ :: _) _ _; refine wpList_append_bool rfl (.tmp 11) (.tmp 15) rfl v5 xs false rfl rfl HO.out HB.out HB.out.size hxl.out ?_; intro v1 w1 HO1 HB1)
        refine ⟨⟨i - k, n - k, xs ++ [false], v1, by rw [e1.out], by rw [e2.out], rfl, by omega, by omega, HE2, HO1, Lib.hid HB1⟩, by simp [intOf]; omega⟩
    · have hn1 : ¬ (1 : Int) < (n : Int) := by omega
      rw [Tr.sides_small _ _ (by omega), List.append_nil] at HE
      go_wp2_with fail
      go_ret
      exact ⟨v5, rfl, by rw [← HE.out]; exact HO.out, HB.out⟩
set_option maxHeartbeats 4000000 in
set_option maxRecDepth 100000 in
theorem tway_calls (m0 n0 : Nat) (hm0 : 1 ≤ m0) (hmn : m0 ≤ n0) (hn0 : n0 ≤ 1024) (w : World) :
    Calls Tryd.prog 77 #[.int .i64 (m0 : Int), .int .i64 (n0 : Int)] w fun e w' => ∃ v, e = .returned (.tuple #[v, .bool (Tr.whole m0 n0)]) ∧ RB w.heap.size v (Tr.way m0 n0) w' ∧ Below w.heap.size w w' := by
  have HB := Lib.hid (Below.refl w.heap.size w)
  have HO : Hid (RB w.heap.size (.slice none 0 0) [] w) := Lib.hid (Kd.R_nil _ _ _ _ _)
  have HE : Hid ([] ++ Tr.way m0 n0 = Tr.way m0 n0) := Lib.hid rfl
  have hle := Lib.hid (way_le n0 m0 n0 (Nat.le_refl _))
  have HW : Hid (([] : List Bool).all (fun b => b) = true) := Lib.hid rfl
  go_enter Tryd.func77, Tryd.ntmps77
  go_wp2_with fail
  go_loopw [0, 1, 6, 7] (fun a b v f wx => ∃ (i n : Nat) (xs : List Bool) (u : Value) (wb : Bool), a = .int .i64 i ∧ b = .int .i64 n ∧ u = v ∧ f = .bool wb ∧ 1 ≤ i ∧ i ≤ n ∧ n ≤ 1024 ∧ Hid (xs ++ Tr.way i n = Tr.way m0 n0) ∧ Hid (xs.all (fun b => b) = wb) ∧ Hid (RB w.heap.size u xs wx) ∧ Hid (Below w.heap.size w wx)) (fun _ b _ _ _ => (intOf b).toNat)
  case atStart => exact ⟨m0, n0, [], _, true, rfl, rfl, rfl, rfl, hm0, hmn, hn0, HE, HW, HO, HB⟩
  case round =>
    clear HE HO HB HW
    obtain ⟨i, n, xs, v5, wb, rfl, rfl, rfl, rfl, hi1, hi, hn, HE, HW, HO, HB⟩ := hrel
    by_cases h2 : i < n
    · have hn1 : (i : Int) < (n : Int) := by omega
      have h3 := Tr.sp_lt (n := n) (by omega)
      have h4 := Tr.sp_pos n
      have h9 := Tr.sp_ge (n := n) (by omega)
      have hsp := fun W => split_calls n hn W
      have hxl : Hid (xs.length ≤ 1073741824) := by
        have h5 := congrArg List.length HE.out
        rw [List.length_append] at h5
        have := hle.out
        exact Lib.hid (by omega)
      by_cases h1 : i ≤ Tr.sp n
      · have HE2 : Hid ((xs ++ [true]) ++ Tr.way i (Tr.sp n) = Tr.way m0 n0) := by
          refine Lib.hid ?_
          rw [← HE.out, Tr.way_left _ _ ⟨hi1, h2⟩ h1, List.append_assoc]; rfl
        have HW2 : Hid ((xs ++ [true]).all (fun b => b) = wb) := by
          refine Lib.hid ?_
          rw [List.all_append, HW.out]; simp
        obtain ⟨k, hk⟩ : ∃ k, k = Tr.sp n := ⟨_, rfl⟩
        rw [← hk] at h3 h4 h1 hsp HE2 h9
        replace hk := Lib.hid hk
        have h1' : (i : Int) ≤ (k : Int) := by omega
        replace hsp := Lib.hid hsp
        go_wp2_with fail
        refine (hsp.out wr).mono ?_
        rintro e w2 ⟨rfl, hb⟩
        replace hb := hb.below
        replace HO := Lib.hid (HO.out.below hb)
        replace HB := Lib.hid (HB.out.trans (Below.mono hb HB.out.size))
        clear hb hsp
        go_wp2_with (guard_target = wpList _ _ _ (⟨some 19, _, _, _, _, _⟩ :: _) _ _; refine wpList_append_bool rfl (.tmp 14) (.tmp 18) rfl v5 xs true rfl rfl HO.out HB.out HB.out.size hxl.out ?_; intro v1 w1 HO1 HB1)
        refine ⟨⟨i, k, xs ++ [true], v1, wb, rfl, rfl, rfl, rfl, hi1, h1, by omega, HE2, HW2, HO1, Lib.hid HB1⟩, by simp [intOf]; omega⟩
      · have HE2 : Hid ((xs ++ [false]) ++ Tr.way (i - Tr.sp n) (n - Tr.sp n) = Tr.way m0 n0) := by
          refine Lib.hid ?_
          rw [← HE.out, Tr.way_right _ _ ⟨hi1, h2⟩ h1, List.append_assoc]; rfl
        have HW2 : Hid ((xs ++ [false]).all (fun b => b) = false) := by
          refine Lib.hid ?_
          rw [List.all_append]; simp
        obtain ⟨k, hk⟩ : ∃ k, k = Tr.sp n := ⟨_, rfl⟩
        rw [← hk] at h3 h4 h1 hsp HE2 h9
        replace hk := Lib.hid hk
        have h1' : ¬ (i : Int) ≤ (k : Int) := by omega
        have h1b : decide ((i : Int) ≤ (k : Int)) = false := by rw [decide_eq_false_iff_not]; exact h1'
        have e1 : (i : Int) - (k : Int) = ((i - k : Nat) : Int) := by omega
        have e2 : (n : Int) - (k : Int) = ((n - k : Nat) : Int) := by omega
        replace e1 := Lib.hid e1
        replace e2 := Lib.hid e2
        replace hsp := Lib.hid hsp
        go_wp2_with fail
        refine (hsp.out wr).mono ?_
        rintro e w2 ⟨rfl, hb⟩
        replace hb := hb.below
        replace HO := Lib.hid (HO.out.below hb)
        replace HB := Lib.hid (HB.out.trans (Below.mono hb HB.out.size))
        clear hb hsp
        go_wp2_with (guard_target = wpList _ _ _ (⟨some 19, _, _, _, _, _⟩ :: _) _ _; refine wpList_append_bool rfl (.tmp 14) (.tmp 18) rfl v5 xs false rfl rfl HO.out HB.out HB.out.size hxl.out ?_; intro v1 w1 HO1 HB1)
        refine ⟨⟨i - k, n - k, xs ++ [false], v1, false, by rw [e1.out], by rw [e2.out], rfl, rfl, by omega, by omega, by omega, HE2, HW2, HO1, Lib.hid HB1⟩, by simp [intOf]; omega⟩
    · have hn1 : ¬ (i : Int) < (n : Int) := by omega
      have HW3 : Hid (Tr.whole m0 n0 = wb) := by
        refine Lib.hid ?_
        unfold Tr.whole
        rw [← HE.out, List.all_append, HW.out, Tr.way_end i n (by omega)]; simp
      rw [Tr.way_end _ _ (by omega), List.append_nil] at HE
      go_wp2_with fail
      go_ret2
      exact ⟨v5, by rw [HW3.out]; rfl, by rw [← HE.out]; exact HO.out, HB.out⟩
end Go.Proofs.YtldpnmebjnkjeaaDoor.TrW
namespace Go.Proofs.YtldpnmebjnkjeaaDoor.TrW
open Go.RowKit Go.Proofs.YtldpnmebjnkjeaaDoorW.PrintWords Go.Proofs.YtldpnmebjnkjeaaDoor.PH1 Go.Proofs.YtldpnmebjnkjeaaDoor Go.Proofs.YtldpnmebjnkjeaaDoorW.PrintLast Go.Proofs.YtldpnmebjnkjeaaDoorW.PrintMore
open Go.Proofs.YtldpnmebjnkjeaaDoor.Sha
set_option linter.unusedVariables false
set_option linter.unusedSimpArgs false

def kDig : Kd (List UInt8) := Kd.iso (Kd.arr 32 (Kd.int .u8) (by decide)) (fun l => l.map fun b => (b.toNat : Int))
theorem kDig_sz : kDig.sz = 32 := rfl
theorem kDig_K {w : World} {x : List UInt8} {cs : List Value} (h : kDig.K w x cs) : x.length = 32 ∧ cs = Lib.byteCells x := by
  obtain ⟨h1, h2⟩ := Kd.arr_cells (hs := by decide) h
  refine ⟨by simpa using h1, ?_⟩
  rw [h2]
  unfold encs Lib.byteCells
  rw [List.map_map]
  rfl
theorem kDig_M (w : World) (base : Nat) (ok : Nat → Prop) {x : List UInt8} (h : x.length = 32) : kDig.M w base ok x (Lib.byteCells x) := by
  have h1 := Kd.arr_of_cells (w := w) (base := base) (ok := ok) (enc := Value.int .u8) (h1 := fun _ => rfl) (n := 32) (hs := by decide) (xs := x.map fun b => (b.toNat : Int)) (by simpa using h)
  have e : encs (Value.int .u8) (x.map fun b => (b.toNat : Int)) = Lib.byteCells x := by
    unfold encs Lib.byteCells
    rw [List.map_map]
    rfl
  rw [← e]
  exact h1
theorem info_digest : (Tryd.prog.info? 24).map (fun i => (i.zero, i.size, i.bytes)) = some (some (.agg (Lib.byteCells (List.replicate 32 0)).toArray), 32, 32) := by kernel_rfl
/-- A row of digests of the call's own. -/
def RD (b : Nat) (v : Value) (xs : List (List UInt8)) (w : World) : Prop := kDig.R 24 w b (fun _ => True) v xs
theorem RD.below {b : Nat} {v : Value} {xs : List (List UInt8)} {w w1 : World} (h : RD b v xs w) (hb : Below w.heap.size w w1) : RD b v xs w1 := Kd.R_below h hb
/-- One digest more. -/
theorem wpList_append_dig {ops : Array Oper} {rest : List Oper} {o : Oper} {a : Act} {Q : Exit → Act → World → Prop} {W : World} (hgd : o.guard = none) (s x : Operand) (ho : o.op = .call { callee := .builtin .append, args := #[s, x], argTypes := #[61, 61] })
    {b : Nat} {w0 : World} (v : Value) (xs : List (List UInt8)) (p : List UInt8) (hp : p.length = 32) (hs : a.eval s = v) (hx : a.eval x = .slice (some ⟨W.heap.size, 0, none⟩) 1 1) (HO : RD b v xs W) (HB : Below b w0 W) (hbase : b ≤ W.heap.size) (hl : xs.length ≤ 1073741824)
    (h : ∀ v1 w1, Hid (RD b v1 (xs ++ [p]) w1) → Below b w0 w1 → wpList Tryd.prog ops Q rest (a.put o.dst v1) w1) : wpList Tryd.prog ops Q (o :: rest) a (W.alloc (.cells (Lib.byteCells p).toArray 24)) :=
  Kd.R_append kDig b hgd s x 61 24 (.agg (Lib.byteCells (List.replicate 32 0)).toArray) 32 ho Tryd.underlying61 info_digest rfl (by decide) (by decide) v xs p (Lib.byteCells p) (fun _ => True) (fun _ => False) hs hx (kDig_M W b _ hp) (fun _ hk => hk.elim) (fun _ _ => trivial) HO HB hbase (by omega) (fun v1 w1 h1 h2 _ _ => h v1 w1 (Lib.hid h1) h2)
theorem fold_set : ∀ (L : List Value) (k : Nat) (P S : List Value), S.length = L.length → P.length = k →
    (L.zipIdx k).foldl (fun (cs : Array Value) (x : Value × Nat) => cs.setIfInBounds (0 + x.2) x.1) (P ++ S).toArray = (P ++ L).toArray
  | [], k, P, S, hS, hP => by
    have : S = [] := List.eq_nil_of_length_eq_zero (by simpa using hS)
    rw [this]; rfl
  | c :: L, k, P, [], hS, hP => by simp at hS
  | c :: L, k, P, s :: S, hS, hP => by
    rw [List.zipIdx_cons, List.foldl_cons]
    have e : (P ++ s :: S).toArray.setIfInBounds (0 + k) c = ((P ++ [c]) ++ S).toArray := by
      rw [List.setIfInBounds_toArray, Nat.zero_add, List.set_append_right _ _ (by omega), hP, Nat.sub_self]
      simp
    show List.foldl _ ((P ++ s :: S).toArray.setIfInBounds (0 + k) c) _ = _
    rw [e, fold_set L (k + 1) (P ++ [c]) S (by simpa using hS) (by simp [hP])]
    simp
theorem fill_dig (place : Nat → Option (Nat × Nat)) (hp : place 0 = some (0, 32)) (l : List UInt8) (hl : l.length = 32) (cells : Array Value) (hc : cells.size = 32) :
    Instr.fill place cells [(0, .agg (Lib.byteCells l).toArray)] = some (Lib.byteCells l).toArray := by
  have hlb : (Lib.byteCells l).length = 32 := by rw [Lib.byteCells, List.length_map, hl]
  have hcells : (Value.agg (Lib.byteCells l).toArray).cells = (Lib.byteCells l).toArray := rfl
  rw [Instr.fill]
  simp only [hp, hcells]
  rw [if_neg (by simp [hlb, hc]), Instr.fill]
  congr 1
  have h := fold_set (Lib.byteCells l) 0 [] cells.toList (by rw [Array.length_toList, hc, hlb]) rfl
  rw [← Array.foldl_toList, Array.toList_zipIdx]
  simpa using h
theorem run_buildSlice_dig (W : World) (l : List UInt8) (hl : l.length = 32) :
    (Instr.buildSlice 61 1 #[(0, .agg (Lib.byteCells l).toArray)]).run Tryd.prog W = .ok (.slice (some ⟨W.heap.size, 0, none⟩) 1 1) (W.alloc (.cells (Lib.byteCells l).toArray 24)) := by
  obtain ⟨i, hi, hz⟩ := Option.map_eq_some_iff.1 info_digest
  simp only [Prod.mk.injEq] at hz
  obtain ⟨hz0, hz1, hz2⟩ := hz
  have hsz : ∀ v : Array Value, ((Array.range (1 * 32)).map (fun j => v[j % v.size]!)).size = 32 := fun v => by simp
  unfold Instr.buildSlice
  simp [run_underlying Tryd.underlying61, run_sizeOf W hi, hz1, zeroValue, typeInfo, hi, hz0]
  have hc : Tryd.prog.cellsOf 24 = 32 := by kernel_rfl
  rw [hc, if_neg (by omega), if_neg (by omega), fill_dig _ rfl l hl _ (by simp)]
  rfl
theorem wpList_buildSlice_dig {ops : Array Oper} {rest : List Oper} {o : Oper} {a : Act} {Q : Exit → Act → World → Prop} {W : World} (hgd : o.guard = none) (x : Operand) (ho : o.op = .buildSlice 61 1 #[(0, x)])
    (l : List UInt8) (hl : l.length = 32) (hx : a.eval x = .agg (Lib.byteCells l).toArray)
    (h : wpList Tryd.prog ops Q rest (a.put o.dst (.slice (some ⟨W.heap.size, 0, none⟩) 1 1)) (W.alloc (.cells (Lib.byteCells l).toArray 24))) : wpList Tryd.prog ops Q (o :: rest) a W := by
  refine wpList_plain hgd fun _ hK => ?_
  unfold Oper.wp execOp
  simp only [ho, List.map_toArray, List.map_cons, List.map_nil, hx]
  rw [Sem.run_bind, run_buildSlice_dig W l hl]
  exact hK _ _ h
end Go.Proofs.YtldpnmebjnkjeaaDoor.TrW
