import Derived.Test.YtldpnmebjnkjeaaDoorShaT
import Derived.Test.YtldpnmebjnkjeaaDoorShaP
import Derived.RegionTactic
import Derived.BigRegion
import Derived.Deep.QuietTactic
import Derived.BigQuiet
import Derived.Lib.Strings
import Derived.StillTailTactics
import Derived.Deep.WholeRow
import Derived.Deep.MidRow
import Derived.Deep.RegionLaw
import Derived.Laws.CopyOwn
import Derived.Test.YtldpnmebjnkjeaaDoorShaQ
namespace Go.Proofs.YtldpnmebjnkjeaaDoor.Sha
open Go.RowKit Go.Proofs.YtldpnmebjnkjeaaDoorW.PrintWords
set_option linter.unusedVariables false
set_option linter.unusedSimpArgs false

def wv (x : UInt32) : Value := .int .u32 (x.toNat : Int)
/-- A row of words. -/
def RowU (t : TypeId) (g : Nat) (L : List UInt32) (w : World) : Prop := w.heap[g]? = some (.cells (L.map wv).toArray t (0, 0))
namespace RowU
variable {t : TypeId} {g : Nat} {L : List UInt32} {w w1 : World}
theorem below (h : RowU t g L w) (hb : Below w.heap.size w w1) : RowU t g L w1 := blk_below h hb
theorem lt (h : RowU t g L w) : g < w.heap.size := blk_lt h
theorem f (h : RowU t g L w) (i : Nat) : w.frozen? ⟨g, i, none⟩ = false := frozen_of_row w g i _ _ h
theorem cell (h : RowU t g L w) (j : Nat) (hj : j < L.length) : w.cell? ⟨g, j, none⟩ = some (.int .u32 ((L.getD j 0).toNat : Int)) := by
  rw [cell_of_row _ _ _ _ _ _ h, List.getElem?_toArray, List.getElem?_map, List.getElem?_eq_getElem hj, List.getD_eq_getElem?_getD, List.getElem?_eq_getElem hj]
  rfl
theorem set (h : RowU t g L w) (j : Nat) (x : UInt32) : RowU t g (L.set j x) (w.setCell ⟨g, j, none⟩ (.int .u32 (x.toNat : Int))) := by
  unfold RowU at *
  rw [World.setCell]
  simp only [Array.getElem?_modify, if_true, h, Option.map_some, List.map_set]
  simp [wv]
theorem far (h : RowU t g L w) {p : Addr} (hp : g ≠ p.block) (u : Value) : RowU t g L (w.setCell p u) := by
  unfold RowU at *; rw [Below.heap_setCell _ _ _ _ hp]; exact h
theorem drew (h : RowU t g L w) : RowU t g L w.drew := h
end RowU
/-- So many words are there. -/
def st (b : List UInt8) (t : Nat) : List UInt32 := (List.range 64).map fun i => if i < t then wsAt b i else 0
theorem st_len (b : List UInt8) (t : Nat) : (st b t).length = 64 := by simp [st]
theorem st_get (b : List UInt8) (t i : Nat) (h : i < t) (hi : i < 64) : (st b t).getD i 0 = wsAt b i := by
  unfold st
  simp [List.getD_eq_getElem?_getD, hi, h]
theorem st_set (b : List UInt8) (t : Nat) (ht : t < 64) : (st b t).set t (wsAt b t) = st b (t + 1) := by
  apply List.ext_getElem?
  intro i
  rw [List.getElem?_set]
  unfold st
  by_cases hi : t = i
  · subst hi; simp [ht]
  · rw [if_neg hi]
    by_cases h64 : i < 64
    · simp only [List.getElem?_map, List.getElem?_range h64, Option.map_some]
      by_cases h : i < t
      · rw [if_pos h, if_pos (by omega)]
      · rw [if_neg h, if_neg (by omega)]
    · rw [List.getElem?_eq_none (by simp; omega), List.getElem?_eq_none (by simp; omega)]
theorem st_zero (b : List UInt8) : st b 0 = List.replicate 64 0 := by
  unfold st
  simp only [Nat.not_lt_zero, if_false]
  rfl
theorem ext_byte (s : ByteArray) (hs : s.size = 64) (t i : Nat) (h : i < (s.extract (4 * t) 64).size) : (s.extract (4 * t) 64)[i] = s.data.toList.getD (4 * t + i) 0 := by
  have h2 : i < 64 - 4 * t := by rw [ByteArray.size_extract] at h; omega
  have h3 : 4 * t + i < s.data.toList.length := by rw [← Lib.size_eq]; omega
  rw [List.getD_eq_getElem?_getD, List.getElem?_eq_getElem h3]
  show (s.extract (4 * t) 64).data[i]'h = _
  simp [ByteArray.data_extract]
/-- The next word, shut: the walk does not look into it. -/
structure Nx (x a b c d : UInt32) : Prop where
  eq : x = a + b + ss0 c + ss1 d
/-! Shut words: the walk does not look into them. -/
def xo (a b : UInt32) : UInt32 := a ^^^ b
def an (a b : UInt32) : UInt32 := a &&& b
def no (a : UInt32) : UInt32 := ~~~a
def ad (a b : UInt32) : UInt32 := a + b
theorem rx (a b : UInt32) : bits .xor .u32 (a.toNat : Int) (b.toNat : Int) = ((xo a b).toNat : Int) := bx a b
theorem ra (a b : UInt32) : bits .and .u32 (a.toNat : Int) (b.toNat : Int) = ((an a b).toNat : Int) := ba a b
theorem rn (a : UInt32) : bits .xor .u32 4294967295 (a.toNat : Int) = ((no a).toNat : Int) := bnot a
theorem rs (a b : UInt32) : ((a.toNat : Int) + (b.toNat : Int)) % 4294967296 = ((ad a b).toNat : Int) := badd a b
theorem rw32 (a b : UInt32) : IntKind.u32.wrap ((a.toNat : Int) + (b.toNat : Int)) = ((ad a b).toNat : Int) := by
  rw [← rs]; simp [IntKind.wrap, IntKind.bits, IntKind.signed]
theorem nx_bits (a b c d : UInt32) :
    ((a.toNat : Int) + b.toNat + bits .xor .u32 (bits .xor .u32 ((rotr c 7).toNat : Int) (rotr c 18).toNat) ((c.toNat : Int) / 8) + bits .xor .u32 (bits .xor .u32 ((rotr d 17).toNat : Int) (rotr d 19).toNat) ((d.toNat : Int) / 1024)) % 4294967296 = ((a + b + ss0 c + ss1 d).toNat : Int) := by
  have h3 := bshr c 3 (by omega)
  have h10 := bshr d 10 (by omega)
  rw [show ((2 : Int) ^ 3) = 8 by decide] at h3
  rw [show ((2 : Int) ^ 10) = 1024 by decide] at h10
  rw [h3, h10, bx, bx, bx, bx]
  have e : ∀ p q r s : UInt32, ((p.toNat : Int) + q.toNat + r.toNat + s.toNat) % 4294967296 = ((p + q + r + s).toNat : Int) := by
    intro p q r s
    rw [UInt32.toNat_add, UInt32.toNat_add, UInt32.toNat_add]; omega
  exact e _ _ _ _
theorem turn_7 (x : UInt32) (w : World) : Calls Tryd.prog 99 #[.int .u32 (x.toNat : Int), .int .i64 7] w fun e w' => e = .returned (.int .u32 ((rotr x 7).toNat : Int)) ∧ w' = w := turn_calls x 7 (by omega) (by omega) w
theorem turn_18 (x : UInt32) (w : World) : Calls Tryd.prog 99 #[.int .u32 (x.toNat : Int), .int .i64 18] w fun e w' => e = .returned (.int .u32 ((rotr x 18).toNat : Int)) ∧ w' = w := turn_calls x 18 (by omega) (by omega) w
theorem turn_17 (x : UInt32) (w : World) : Calls Tryd.prog 99 #[.int .u32 (x.toNat : Int), .int .i64 17] w fun e w' => e = .returned (.int .u32 ((rotr x 17).toNat : Int)) ∧ w' = w := turn_calls x 17 (by omega) (by omega) w
theorem turn_19 (x : UInt32) (w : World) : Calls Tryd.prog 99 #[.int .u32 (x.toNat : Int), .int .i64 19] w fun e w' => e = .returned (.int .u32 ((rotr x 19).toNat : Int)) ∧ w' = w := turn_calls x 19 (by omega) (by omega) w
theorem turn_6 (x : UInt32) (w : World) : Calls Tryd.prog 99 #[.int .u32 (x.toNat : Int), .int .i64 6] w fun e w' => e = .returned (.int .u32 ((rotr x 6).toNat : Int)) ∧ w' = w := turn_calls x 6 (by omega) (by omega) w
theorem turn_11 (x : UInt32) (w : World) : Calls Tryd.prog 99 #[.int .u32 (x.toNat : Int), .int .i64 11] w fun e w' => e = .returned (.int .u32 ((rotr x 11).toNat : Int)) ∧ w' = w := turn_calls x 11 (by omega) (by omega) w
theorem turn_25 (x : UInt32) (w : World) : Calls Tryd.prog 99 #[.int .u32 (x.toNat : Int), .int .i64 25] w fun e w' => e = .returned (.int .u32 ((rotr x 25).toNat : Int)) ∧ w' = w := turn_calls x 25 (by omega) (by omega) w
theorem turn_2 (x : UInt32) (w : World) : Calls Tryd.prog 99 #[.int .u32 (x.toNat : Int), .int .i64 2] w fun e w' => e = .returned (.int .u32 ((rotr x 2).toNat : Int)) ∧ w' = w := turn_calls x 2 (by omega) (by omega) w
theorem turn_13 (x : UInt32) (w : World) : Calls Tryd.prog 99 #[.int .u32 (x.toNat : Int), .int .i64 13] w fun e w' => e = .returned (.int .u32 ((rotr x 13).toNat : Int)) ∧ w' = w := turn_calls x 13 (by omega) (by omega) w
theorem turn_22 (x : UInt32) (w : World) : Calls Tryd.prog 99 #[.int .u32 (x.toNat : Int), .int .i64 22] w fun e w' => e = .returned (.int .u32 ((rotr x 22).toNat : Int)) ∧ w' = w := turn_calls x 22 (by omega) (by omega) w
/-- The next round, shut. -/
structure Nr (y x : V8) (k w : UInt32) : Prop where
  eq : y = rnd x k w
/-- The table of the constants. -/
def KAt (w : World) : Prop := ∃ t fr, w.heap[0]? = some (.cells (kT.map wv).toArray t fr)
theorem KAt.below {w w1 : World} (h : KAt w) (hb : Below w.heap.size w w1) : KAt w1 := by
  obtain ⟨t, fr, h⟩ := h
  exact ⟨t, fr, blk_below h hb⟩
theorem KAt.lt {w : World} (h : KAt w) : 0 < w.heap.size := by
  obtain ⟨t, fr, h⟩ := h
  exact blk_lt h
theorem KAt.cell {w : World} (h : KAt w) (j : Nat) (hj : j < 64) : w.cell? ⟨0, j, none⟩ = some (.int .u32 ((kT.getD j 0).toNat : Int)) := by
  obtain ⟨t, fr, h⟩ := h
  have hj' : j < kT.length := hj
  rw [cell_of_row _ _ _ _ _ _ h, List.getElem?_toArray, List.getElem?_map, List.getElem?_eq_getElem hj', List.getD_eq_getElem?_getD, List.getElem?_eq_getElem hj']
  rfl
/-- Words ahead of other cells. -/
def RowX (t : TypeId) (g : Nat) (L : List UInt32) (R : List Value) (w : World) : Prop := w.heap[g]? = some (.cells (L.map wv ++ R).toArray t (0, 0))
namespace RowX
variable {t : TypeId} {g : Nat} {L : List UInt32} {R : List Value} {w w1 : World}
theorem f (h : RowX t g L R w) (i : Nat) : w.frozen? ⟨g, i, none⟩ = false := frozen_of_row w g i _ _ h
theorem cell (h : RowX t g L R w) (j : Nat) (hj : j < L.length) : w.cell? ⟨g, j, none⟩ = some (.int .u32 ((L.getD j 0).toNat : Int)) := by
  rw [cell_of_row _ _ _ _ _ _ h, List.getElem?_toArray, List.getElem?_append_left (by simpa using hj), List.getElem?_map, List.getElem?_eq_getElem hj, List.getD_eq_getElem?_getD, List.getElem?_eq_getElem hj]
  rfl
theorem range (h : RowX t g L R w) : w.rangeAt g 0 (L.map wv) := by
  intro j v hv
  rw [Nat.zero_add, cell_of_row _ _ _ _ _ _ h, List.getElem?_toArray]
  have hj : j < (L.map wv).length := by
    rcases Nat.lt_or_ge j (L.map wv).length with h1 | h1
    · exact h1
    · rw [List.getElem?_eq_none h1] at hv; cases hv
  rw [List.getElem?_append_left hj]; exact hv
end RowX
/-- The sums of the first i words. -/
def mixL (u v : List UInt32) (i : Nat) : List UInt32 := (List.zipWith (· + ·) u v).take i ++ u.drop i
theorem mixL_zero (u v : List UInt32) : mixL u v 0 = u := rfl
theorem mixL_len (u v : List UInt32) (h : u.length = v.length) (i : Nat) (hi : i ≤ u.length) : (mixL u v i).length = u.length := by
  unfold mixL; rw [List.length_append, List.length_take, List.length_zipWith, List.length_drop]; omega
theorem mixL_get (u v : List UInt32) (h : u.length = v.length) (i : Nat) (hi : i < u.length) : (mixL u v i).getD i 0 = u.getD i 0 := by
  unfold mixL
  rw [List.getD_eq_getElem?_getD, List.getElem?_append_right (by rw [List.length_take, List.length_zipWith]; omega), List.length_take, List.length_zipWith, List.getElem?_drop, List.getD_eq_getElem?_getD]
  congr 2; omega
theorem mixL_set (u v : List UInt32) (h : u.length = v.length) (i : Nat) (hi : i < u.length) : (mixL u v i).set i (u.getD i 0 + v.getD i 0) = mixL u v (i + 1) := by
  have hz : i < (List.zipWith (· + ·) u v).length := by rw [List.length_zipWith]; omega
  unfold mixL
  rw [List.set_append_right _ _ (by rw [List.length_take]; omega), List.length_take, show i - min i (List.zipWith (· + ·) u v).length = 0 by omega, List.drop_eq_getElem_cons hi, List.set_cons_zero, List.take_succ_eq_append_getElem hz, List.append_assoc]
  congr 2
  rw [List.getElem_zipWith]
  simp [List.getD_eq_getElem?_getD, hi, show i < v.length by omega]
theorem mixL_all (u v : V8) : mixL u.list v.list 8 = (vadd u v).list := rfl
/-- All of memory but the words at hand: as it was. -/
def Kept (g : Nat) (R : List Value) (w : World) (L : List UInt32) (w' : World) : Prop := Below w.heap.size (w.setRow g (L.map wv ++ R).toArray) w'
theorem Kept.set {g : Nat} {R : List Value} {w w' : World} {L : List UInt32} (h : Kept g R w L w') (hg : g < w.heap.size) (hc : ∃ t fr C, w.heap[g]? = some (.cells C t fr)) (i : Nat) (hi : i < L.length) (x : UInt32) : Kept g R w (L.set i x) (w'.setCell ⟨g, i, none⟩ (.int .u32 (x.toNat : Int))) := by
  obtain ⟨t, fr, C, hc⟩ := hc
  refine ⟨h.os, h.tape, h.output, by have := h.size; simp [World.setCell] at this ⊢; exact this, fun k hk => ?_⟩
  have hb := h.block k hk
  by_cases hkg : k = g
  · subst hkg
    rw [setRow_heap _ _ _ _ _ _ hc] at hb ⊢
    rw [World.setCell]
    simp only [Array.getElem?_modify, if_true, hb, Option.map_some, List.map_set]
    congr 2
    apply Array.toList_inj.1
    simp [wv, List.set_append, hi]
  · rw [setRow_other _ _ _ _ hkg] at hb ⊢
    rw [Below.heap_setCell _ _ _ _ hkg]
    exact hb
theorem Kept.row {g : Nat} {R : List Value} {w w' : World} {L L0 : List UInt32} {t : TypeId} (h : Kept g R w L w') (h0 : RowX t g L0 R w) (hg : g < w.heap.size) : RowX t g L R w' := by
  have hb := h.block g hg
  rw [setRow_heap _ _ _ _ _ _ h0] at hb
  exact hb
theorem Kept.drew {g : Nat} {R : List Value} {w w' : World} {L : List UInt32} (h : Kept g R w L w') : Kept g R w L w'.drew := Below.drew h
theorem V8.len (v : V8) : v.list.length = 8 := rfl
set_option maxHeartbeats 20000000 in
set_option maxRecDepth 100000 in
theorem take_calls (g : Nat) (v : V8) (R : List Value) (T : TypeId) (blk : ByteArray) (hs : blk.size = 64) (w : World) (hK : KAt w) (hG : RowX T g v.list R w) :
    Calls Tryd.prog 81 #[.pointer (some ⟨g, 0, none⟩), .string blk] w fun e w' => e = .returned (.tuple #[]) ∧ Kept g R w (takeP v blk.data.toList).list w' := by
  have hgl : g < w.heap.size := blk_lt hG
  have hs' := Lib.hid hs
  replace hK := Lib.hid hK
  replace hG := Lib.hid hG
  go_enter Tryd.func81, Tryd.ntmps81
  go_wp2_with fail
  go_loopw [16] (fun i wr => ∃ t : Nat, t ≤ 64 ∧ i = .int .i64 t ∧ Hid (RowU 136 w.heap.size (st blk.data.toList t) wr) ∧ Hid (Below w.heap.size w wr) ∧ Hid (wr.heap.size = w.heap.size + 1)) (fun i _ => 64 - (intOf i).toNat)
  case atStart =>
    refine ⟨0, by omega, rfl, Lib.hid ?_, Lib.hid ((Below.refl _ _).alloc (Nat.le_refl _) _), Lib.hid (by simp)⟩
    rw [st_zero]
    exact heap_alloc_last _ _
  case round =>
    obtain ⟨t, ht, rfl, HW, HB, HZ⟩ := hrel
    by_cases h16 : t < 16
    · as_aux_lemma =>
        have k1 : (0 : Int) ≤ 4 * (t : Int) := by omega
        have k2 : 4 * (t : Int) ≤ 64 := by omega
        have p0 : 0 < 64 - 4 * t := by omega
        have p1 : (1 : Int) < ((64 - 4 * t : Nat) : Int) := by omega
        have p2 : (2 : Int) < ((64 - 4 * t : Nat) : Int) := by omega
        have p3 : (3 : Int) < ((64 - 4 * t : Nat) : Int) := by omega
        have c0 := HW.out.cell t (by rw [st_len]; omega)
        have cf := HW.out.f
        go_wp2_with fail
        go_region
        go_wp2_with fail
        go_roundw
        case rel =>
          have hl64 : blk.data.toList.length = 64 := by rw [← Lib.size_eq]; exact hs
          rw [be_bits, ext_byte blk hs t 0, ext_byte blk hs t 1, ext_byte blk hs t 2, ext_byte blk hs t 3]
          refine ⟨t + 1, by omega, by go_num, Lib.hid ?_, Lib.hid ?_, Lib.hid ?_⟩
          · have h := ws_lo blk.data.toList hl64 t h16
            have h2 := (HW.out.set t (wsAt blk.data.toList t)).drew
            rw [st_set _ t (by omega), h] at h2
            exact h2
          · exact (HB.out.setCell (Nat.le_refl _) _).drew
          · show (World.setCell _ _ _).heap.size = _
            rw [← HZ.out]; simp [World.setCell]
        case measure => simp [intOf]; omega
    · by_cases h64 : t < 64
      · as_aux_lemma =>
          have hl64 : blk.data.toList.length = 64 := by rw [← Lib.size_eq]; exact hs
          have c1 := HW.out.cell (t - 15) (by rw [st_len]; omega)
          have c2 := HW.out.cell (t - 2) (by rw [st_len]; omega)
          have c3 := HW.out.cell (t - 16) (by rw [st_len]; omega)
          have c4 := HW.out.cell (t - 7) (by rw [st_len]; omega)
          rw [st_get _ _ _ (by omega) (by omega)] at c1 c2 c3 c4
          have HH : Nx _ _ _ _ _ := ⟨ws_hi blk.data.toList hl64 t (by omega) (by omega)⟩
          clear hl64 hs
          generalize wsAt blk.data.toList (t - 16) = v0 at c3 HH
          generalize wsAt blk.data.toList (t - 15) = v1 at c1 HH
          generalize wsAt blk.data.toList (t - 2) = v14 at c2 HH
          generalize wsAt blk.data.toList (t - 7) = v9 at c4 HH
          have k16 : (16 : Int) ≤ (t : Int) := by omega
          have k64 : (t : Int) < 64 := by omega
          go_wp2_with fail
          go_quiet (fail)
          go_wp2_with fail
          have e16 : IntKind.i64.wrap ((t : Int) - 16) = (t : Int) - 16 := Go.IntWalk.i64_in _ (by omega)
          have e7 : IntKind.i64.wrap ((t : Int) - 7) = (t : Int) - 7 := Go.IntWalk.i64_in _ (by omega)
          have k7 : (7 : Int) ≤ (t : Int) := by omega
          have p16 : 0 ≤ (t : Int) - 16 := by omega
          have p7 : 0 ≤ (t : Int) - 7 := by omega
          have q16 : (t : Int) - 16 < 64 := by omega
          have q7 : (t : Int) - 7 < 64 := by omega
          have n16 : ((t : Int) - 16).toNat = t - 16 := by omega
          have n7 : ((t : Int) - 7).toNat = t - 7 := by omega
          have nt : (t : Int).toNat = t := by omega
          refine wp_region_still_tail 29 (by kernel_rfl) (by kernel_rfl) ?_
          simp only [List.take_succ_cons, List.take_zero, List.drop_succ_cons, List.drop_zero]
          have d3 : (wr.drewN nq).drew.cell? ⟨w.heap.size, t - 16, none⟩ = _ := c3
          have d4 : (wr.drewN nq).drew.cell? ⟨w.heap.size, t - 7, none⟩ = _ := c4
          clear c1 c2 c3 c4
          change wpStill _ _ ((wr.drewN nq).drew) _ _ _
          generalize (wr.drewN nq).drew = wq at d3 d4 ⊢
          repeat (first | still_step | (refine wpStill_step (fun K hK => ?_); go_simp; apply Exists.intro; (first | refine And.intro (turn_7 v1 _) ?_ | refine And.intro (turn_18 v1 _) ?_ | refine And.intro (turn_17 v14 _) ?_ | refine And.intro (turn_19 v14 _) ?_); refine hK _ ?_; clear hK K))
          refine wpStill_nil ?_
          clear d3 d4 e16 e7 p16 p7 q16 q7 n16 n7 nt
          change wpList _ _ _ _ _ ((wr.drewN nq).drew)
          replace HW : Hid (RowU 136 w.heap.size (st blk.data.toList t) (wr.drewN nq).drew) := HW
          replace HB : Hid (Below w.heap.size w (wr.drewN nq).drew) := Lib.hid (HB.out.trans (Below.mono (Drawn0.below ⟨nq, rfl⟩) HB.out.size)).drew
          replace HZ : Hid ((wr.drewN nq).drew.heap.size = w.heap.size + 1) := HZ
          generalize (wr.drewN nq).drew = wz at HW HB HZ ⊢
          have df := HW.out.f
          have d0 := HW.out.cell t (by rw [st_len]; omega)
          go_wp2_with fail
          go_roundw
          case rel =>
            refine ⟨t + 1, by omega, by go_num, Lib.hid ?_, Lib.hid ?_, Lib.hid ?_⟩
            · rw [nx_bits, ← HH.eq]
              have h2 := HW.out.set t (wsAt blk.data.toList t)
              rw [st_set _ t (by omega)] at h2
              exact h2
            · exact HB.out.setCell (Nat.le_refl _) _
            · rw [← HZ.out]; simp [World.setCell]
          case measure => simp [intOf]; omega
      · obtain rfl : t = 64 := by omega
        clear h16 h64 ht
        have gc0 : wr.cell? ⟨g, 0, none⟩ = some (.int .u32 (v.a.toNat : Int)) := (HB.out.cell (p := ⟨g, 0, none⟩) hgl).trans (hG.out.cell 0 (by show 0 < 8; omega))
        have gc1 : wr.cell? ⟨g, 1, none⟩ = some (.int .u32 (v.b.toNat : Int)) := (HB.out.cell (p := ⟨g, 1, none⟩) hgl).trans (hG.out.cell 1 (by show 1 < 8; omega))
        have gc2 : wr.cell? ⟨g, 2, none⟩ = some (.int .u32 (v.c.toNat : Int)) := (HB.out.cell (p := ⟨g, 2, none⟩) hgl).trans (hG.out.cell 2 (by show 2 < 8; omega))
        have gc3 : wr.cell? ⟨g, 3, none⟩ = some (.int .u32 (v.d.toNat : Int)) := (HB.out.cell (p := ⟨g, 3, none⟩) hgl).trans (hG.out.cell 3 (by show 3 < 8; omega))
        have gc4 : wr.cell? ⟨g, 4, none⟩ = some (.int .u32 (v.e.toNat : Int)) := (HB.out.cell (p := ⟨g, 4, none⟩) hgl).trans (hG.out.cell 4 (by show 4 < 8; omega))
        have gc5 : wr.cell? ⟨g, 5, none⟩ = some (.int .u32 (v.f.toNat : Int)) := (HB.out.cell (p := ⟨g, 5, none⟩) hgl).trans (hG.out.cell 5 (by show 5 < 8; omega))
        have gc6 : wr.cell? ⟨g, 6, none⟩ = some (.int .u32 (v.g.toNat : Int)) := (HB.out.cell (p := ⟨g, 6, none⟩) hgl).trans (hG.out.cell 6 (by show 6 < 8; omega))
        have gc7 : wr.cell? ⟨g, 7, none⟩ = some (.int .u32 (v.h.toNat : Int)) := (HB.out.cell (p := ⟨g, 7, none⟩) hgl).trans (hG.out.cell 7 (by show 7 < 8; omega))
        go_wp2_with fail
        clear gc0 gc1 gc2 gc3 gc4 gc5 gc6 gc7
        generalize hw3 : wr.alloc _ = w3
        have HV : Hid (RowU 29 (w.heap.size + 1) v.list w3) := by
          rw [← HZ.out, ← hw3]; exact heap_alloc_last _ _
        replace HW : Hid (RowU 136 w.heap.size (st blk.data.toList 64) w3) := by
          rw [← hw3]; exact Lib.hid (HW.out.below ((Below.refl _ _).alloc (Nat.le_refl _) _))
        replace HB : Hid (Below w.heap.size w w3) := by
          rw [← hw3]; exact Lib.hid (HB.out.alloc HB.out.size _)
        have HZ3 : Hid (w.heap.size + 2 ≤ w3.heap.size) := by
          rw [← hw3]; refine Lib.hid ?_; have := HZ.out; simp; omega
        rw [HZ.out]
        rw [show ((64 : Nat) : Int) = 64 from rfl]
        clear hw3 HZ
        go_loopw [86] (fun i wx => ∃ t : Nat, t ≤ 64 ∧ i = .int .i64 t ∧ Hid (RowU 136 w.heap.size (st blk.data.toList 64) wx) ∧ Hid (RowU 29 (w.heap.size + 1) (rnds kT (sched blk.data.toList 48) v t).list wx) ∧ Hid (Below w.heap.size w wx) ∧ Hid (w.heap.size + 2 ≤ wx.heap.size)) (fun i _ => 64 - (intOf i).toNat)
        case atStart => exact ⟨0, by omega, rfl, HW, HV, HB, HZ3⟩
        case round =>
          clear HW HV HB HZ3
          obtain ⟨t, ht, rfl, HW, HV, HB, HZ⟩ := hrel
          by_cases h64 : t < 64
          · as_aux_lemma =>
              have k64 : (t : Int) < 64 := by omega
              have HX : Nr (rnds kT (sched blk.data.toList 48) v (t + 1)) _ _ _ := ⟨rfl⟩
              have ck := (HB.out.cell (p := ⟨0, t, none⟩) hK.out.lt).trans (hK.out.cell t h64)
              have cw := HW.out.cell t (by rw [st_len]; omega)
              rw [st_get _ _ _ h64 h64] at cw
              change _ = some (Value.int _ (((sched blk.data.toList 48).getD t 0).toNat : Int)) at cw
              generalize rnds kT (sched blk.data.toList 48) v t = x at HX HV
              generalize kT.getD t 0 = kk at HX ck
              generalize (sched blk.data.toList 48).getD t 0 = ww at HX cw
              replace ck := Lib.hid ck
              replace cw := Lib.hid cw
              have x0 : wr.cell? ⟨w.heap.size + 1, 0, none⟩ = some (.int .u32 (x.a.toNat : Int)) := HV.out.cell 0 (by show 0 < 8; omega)
              have x1 : wr.cell? ⟨w.heap.size + 1, 1, none⟩ = some (.int .u32 (x.b.toNat : Int)) := HV.out.cell 1 (by show 1 < 8; omega)
              have x2 : wr.cell? ⟨w.heap.size + 1, 2, none⟩ = some (.int .u32 (x.c.toNat : Int)) := HV.out.cell 2 (by show 2 < 8; omega)
              have x3 : wr.cell? ⟨w.heap.size + 1, 3, none⟩ = some (.int .u32 (x.d.toNat : Int)) := HV.out.cell 3 (by show 3 < 8; omega)
              have x4 : wr.cell? ⟨w.heap.size + 1, 4, none⟩ = some (.int .u32 (x.e.toNat : Int)) := HV.out.cell 4 (by show 4 < 8; omega)
              have x5 : wr.cell? ⟨w.heap.size + 1, 5, none⟩ = some (.int .u32 (x.f.toNat : Int)) := HV.out.cell 5 (by show 5 < 8; omega)
              have x6 : wr.cell? ⟨w.heap.size + 1, 6, none⟩ = some (.int .u32 (x.g.toNat : Int)) := HV.out.cell 6 (by show 6 < 8; omega)
              have x7 : wr.cell? ⟨w.heap.size + 1, 7, none⟩ = some (.int .u32 (x.h.toNat : Int)) := HV.out.cell 7 (by show 7 < 8; omega)
              go_wp2_with fail
              go_quiet (fail)
              clear x0 x1 x2 x3 x4 x5 x6 x7
              replace ck : Hid ((wr.drewN nq).cell? ⟨0, t, none⟩ = _) := ck
              replace cw : Hid ((wr.drewN nq).cell? ⟨w.heap.size, t, none⟩ = _) := cw
              replace HW : Hid (RowU 136 w.heap.size (st blk.data.toList 64) (wr.drewN nq)) := HW
              replace HV : Hid (RowU 29 (w.heap.size + 1) x.list (wr.drewN nq)) := HV
              replace HB : Hid (Below w.heap.size w (wr.drewN nq)) := Lib.hid (HB.out.trans (Below.mono (Drawn0.below ⟨_, rfl⟩) HB.out.size))
              replace HZ : Hid (w.heap.size + 2 ≤ (wr.drewN nq).heap.size) := HZ
              generalize wr.drewN nq = w5 at ck cw HW HV HB HZ ⊢
              have x0 : w5.cell? ⟨w.heap.size + 1, 0, none⟩ = some (.int .u32 (x.a.toNat : Int)) := HV.out.cell 0 (by show 0 < 8; omega)
              have x1 : w5.cell? ⟨w.heap.size + 1, 1, none⟩ = some (.int .u32 (x.b.toNat : Int)) := HV.out.cell 1 (by show 1 < 8; omega)
              have x2 : w5.cell? ⟨w.heap.size + 1, 2, none⟩ = some (.int .u32 (x.c.toNat : Int)) := HV.out.cell 2 (by show 2 < 8; omega)
              have x3 : w5.cell? ⟨w.heap.size + 1, 3, none⟩ = some (.int .u32 (x.d.toNat : Int)) := HV.out.cell 3 (by show 3 < 8; omega)
              have x4 : w5.cell? ⟨w.heap.size + 1, 4, none⟩ = some (.int .u32 (x.e.toNat : Int)) := HV.out.cell 4 (by show 4 < 8; omega)
              have x5 : w5.cell? ⟨w.heap.size + 1, 5, none⟩ = some (.int .u32 (x.f.toNat : Int)) := HV.out.cell 5 (by show 5 < 8; omega)
              have x6 : w5.cell? ⟨w.heap.size + 1, 6, none⟩ = some (.int .u32 (x.g.toNat : Int)) := HV.out.cell 6 (by show 6 < 8; omega)
              have x7 : w5.cell? ⟨w.heap.size + 1, 7, none⟩ = some (.int .u32 (x.h.toNat : Int)) := HV.out.cell 7 (by show 7 < 8; omega)
              have ck' := ck.out
              have cw' := cw.out
              have RX := rx
              have RA := ra
              have RN := rn
              have RS := rw32
              have RM := rs
              have RN2 : ∀ a : UInt32, bits .xor .u32 IntKind.u32.max (a.toNat : Int) = ((no a).toNat : Int) := rn
              have nt : (t : Int).toNat = t := by omega
              go_wp2_with fail
              go_quiet ((first | (with_reducible exact Calls.quiet_of_same (turn_6 x.e _)) | (with_reducible exact Calls.quiet_of_same (turn_11 x.e _)) | (with_reducible exact Calls.quiet_of_same (turn_25 x.e _))))
              clear ck' cw' ck cw
              clear x0 x1 x2 x3 x4 x5 x6 x7
              replace HW : Hid (RowU 136 w.heap.size (st blk.data.toList 64) (w5.drewN nq)) := HW
              replace HV : Hid (RowU 29 (w.heap.size + 1) x.list (w5.drewN nq)) := HV
              replace HB : Hid (Below w.heap.size w (w5.drewN nq)) := Lib.hid (HB.out.trans (Below.mono (Drawn0.below ⟨_, rfl⟩) HB.out.size))
              replace HZ : Hid (w.heap.size + 2 ≤ (w5.drewN nq).heap.size) := HZ
              generalize w5.drewN nq = w6 at HW HV HB HZ ⊢
              have x0 : w6.cell? ⟨w.heap.size + 1, 0, none⟩ = some (.int .u32 (x.a.toNat : Int)) := HV.out.cell 0 (by show 0 < 8; omega)
              have x1 : w6.cell? ⟨w.heap.size + 1, 1, none⟩ = some (.int .u32 (x.b.toNat : Int)) := HV.out.cell 1 (by show 1 < 8; omega)
              have x2 : w6.cell? ⟨w.heap.size + 1, 2, none⟩ = some (.int .u32 (x.c.toNat : Int)) := HV.out.cell 2 (by show 2 < 8; omega)
              have x3 : w6.cell? ⟨w.heap.size + 1, 3, none⟩ = some (.int .u32 (x.d.toNat : Int)) := HV.out.cell 3 (by show 3 < 8; omega)
              have x4 : w6.cell? ⟨w.heap.size + 1, 4, none⟩ = some (.int .u32 (x.e.toNat : Int)) := HV.out.cell 4 (by show 4 < 8; omega)
              have x5 : w6.cell? ⟨w.heap.size + 1, 5, none⟩ = some (.int .u32 (x.f.toNat : Int)) := HV.out.cell 5 (by show 5 < 8; omega)
              have x6 : w6.cell? ⟨w.heap.size + 1, 6, none⟩ = some (.int .u32 (x.g.toNat : Int)) := HV.out.cell 6 (by show 6 < 8; omega)
              have x7 : w6.cell? ⟨w.heap.size + 1, 7, none⟩ = some (.int .u32 (x.h.toNat : Int)) := HV.out.cell 7 (by show 7 < 8; omega)
              go_wp2_with fail
              go_quiet ((first | (with_reducible exact Calls.quiet_of_same (turn_2 x.a _)) | (with_reducible exact Calls.quiet_of_same (turn_13 x.a _)) | (with_reducible exact Calls.quiet_of_same (turn_22 x.a _))))
              clear x0 x1 x2 x3 x4 x5 x6 x7
              replace HW : Hid (RowU 136 w.heap.size (st blk.data.toList 64) (w6.drewN nq)) := HW
              replace HV : Hid (RowU 29 (w.heap.size + 1) x.list (w6.drewN nq)) := HV
              replace HB : Hid (Below w.heap.size w (w6.drewN nq)) := Lib.hid (HB.out.trans (Below.mono (Drawn0.below ⟨_, rfl⟩) HB.out.size))
              replace HZ : Hid (w.heap.size + 2 ≤ (w6.drewN nq).heap.size) := HZ
              generalize w6.drewN nq = w7 at HW HV HB HZ ⊢
              go_wp2_with fail
              clear RX RA RN RS RM RN2
              generalize hp_ : (ad (ad (ad (ad x.h kk) ww) (xo (xo (rotr x.e 6) (rotr x.e 11)) (rotr x.e 25))) (xo (an x.e x.f) (an (no x.e) x.g))) = p
              replace hp_ := Lib.hid hp_
              generalize hq_ : (ad (xo (xo (rotr x.a 2) (rotr x.a 13)) (rotr x.a 22)) (xo (xo (an x.a x.b) (an x.a x.c)) (an x.b x.c))) = q
              replace hq_ := Lib.hid hq_
              have hsrc : ∀ j v, ([wv x.a, wv x.b, wv x.c, wv x.d, wv x.e, wv x.f, wv x.g] : List Value)[j]? = some v → w7.drew.cell? ((⟨w.heap.size + 1, 0, none⟩ : Addr).add j) = some v := by
                intro j v hv
                rw [Addr.add_mid, Nat.zero_add]
                have hj : j < 7 := by
                  rcases Nat.lt_or_ge j 7 with h1 | h1
                  · exact h1
                  · rw [List.getElem?_eq_none (by simpa using h1)] at hv; cases hv
                have hc := HV.out.cell j (by show j < 8; omega)
                have e : some (Value.int .u32 ((x.list.getD j 0).toNat : Int)) = some v := by
                  rw [← hv]
                  match j, hj with
                  | 0, _ => rfl
                  | 1, _ => rfl
                  | 2, _ => rfl
                  | 3, _ => rfl
                  | 4, _ => rfl
                  | 5, _ => rfl
                  | 6, _ => rfl
                exact hc.trans e
              replace hsrc := Lib.hid hsrc
              go_region_law (refine step_copy_splice rfl (.tmp 147) (.tmp 148) 56 56 rfl 28 (by kernel_rfl) (by kernel_rfl) (some ⟨w.heap.size + 1, 1, none⟩) (some ⟨w.heap.size + 1, 0, none⟩) 7 7 7 8 (by simp [Act.eval, Act.put]) (by simp [Act.eval, Act.put]) (w.heap.size + 1) 1 (x.list.map wv) 29 HV.out [wv x.a, wv x.b, wv x.c, wv x.d, wv x.e, wv x.f, wv x.g] rfl (fun _ => ⟨rfl, ⟨w.heap.size + 1, 0, none⟩, rfl, hsrc.out⟩) (by show 1 + 7 ≤ 8; omega) (by intro v hv; simp at hv; rcases hv with rfl | rfl | rfl | rfl | rfl | rfl | rfl <;> rfl) (w.heap.size + 1) w7 (Below.refl _ _).drew (Nat.le_refl _) ?_; intro w8 hg8 hb8)
              clear hsrc
              have HV8 : Hid (RowU 29 (w.heap.size + 1) [x.a, x.a, x.b, x.c, x.d, x.e, x.f, x.g] w8) := hg8
              clear hg8 HV
              replace HW := Lib.hid (RowU.below HW.out (Below.refl _ _ : Below w7.heap.size w7 w7))
              have HW8 : Hid (RowU 136 w.heap.size (st blk.data.toList 64) w8) := by
                refine Lib.hid ?_
                unfold RowU
                rw [hb8.block _ (by omega)]; exact HW.out
              have HB8 : Hid (Below w.heap.size w w8) := Lib.hid (HB.out.trans (Below.mono hb8 (by omega)))
              have HZ8 : Hid (w.heap.size + 2 ≤ w8.heap.size) := by have := hb8.size; have := HZ.out; exact Lib.hid (by omega)
              clear hb8 HW HB HZ w7
              have y0 : w8.cell? ⟨w.heap.size + 1, 0, none⟩ = some (.int .u32 (x.a.toNat : Int)) := HV8.out.cell 0 (by show 0 < 8; omega)
              have y4 : w8.cell? ⟨w.heap.size + 1, 4, none⟩ = some (.int .u32 (x.d.toNat : Int)) := HV8.out.cell 4 (by show 4 < 8; omega)
              have yf := HV8.out.f
              have RS := rw32
              have RM := rs
              go_wp2_with fail
              clear RS RM
              go_roundw
              case rel =>
                refine ⟨t + 1, by omega, by go_num, Lib.hid ?_, Lib.hid ?_, Lib.hid ?_, Lib.hid ?_⟩
                · exact (HW8.out.far (by simp) _).far (by simp) _
                · have h2 := (HV8.out.set 0 (ad p q)).set 4 (ad x.d p)
                  rw [HX.eq]
                  have e : (rnd x kk ww).list = ([x.a, x.a, x.b, x.c, x.d, x.e, x.f, x.g].set 0 (ad p q)).set 4 (ad x.d p) := by
                    rw [← hp_.out, ← hq_.out]; rfl
                  rw [e]; exact h2
                · exact (HB8.out.setCell (by simp) _).setCell (by simp) _
                · have := HZ8.out; simp [World.setCell]; exact this
              case measure => simp [intOf]; omega
          · obtain rfl : t = 64 := by omega
            clear h64 ht
            have HKp : Hid (Kept g R w v.list wr) := by
              have e : w.setRow g (v.list.map wv ++ R).toArray = w := setRow_self _ _ _ _ _ hG.out
              refine Lib.hid ?_
              unfold Kept
              rw [e]; exact HB.out
            have HT : takeP v blk.data.toList = vadd v (rnds kT (sched blk.data.toList 48) v 64) := rfl
            generalize rnds kT (sched blk.data.toList 48) v 64 = y at HV HT
            replace HT := Lib.hid HT
            clear HW HB
            go_wp2_with fail
            rw [show ((64 : Nat) : Int) = 64 from rfl]
            go_loopw [160] (fun i wx => ∃ t : Nat, t ≤ 8 ∧ i = .int .i64 t ∧ Hid (Kept g R w (mixL v.list y.list t) wx) ∧ Hid (RowU 29 (w.heap.size + 1) y.list wx)) (fun i _ => 8 - (intOf i).toNat)
            case atStart => exact ⟨0, by omega, rfl, HKp, HV⟩
            case round =>
              clear HKp HV HZ
              obtain ⟨t, ht, rfl, HKp, HV⟩ := hrel
              by_cases h8 : t < 8
              · as_aux_lemma =>
                  have k8 : (t : Int) < 8 := by omega
                  have hl8 : v.list.length = y.list.length := rfl
                  have hml : (mixL v.list y.list t).length = 8 := mixL_len _ _ hl8 _ (by show t ≤ 8; omega)
                  have hmg := mixL_get v.list y.list hl8 t h8
                  have hms := mixL_set v.list y.list hl8 t h8
                  have hmt : t < (mixL v.list y.list t).length := by omega
                  replace hml := Lib.hid hml
                  replace hl8 := Lib.hid hl8
                  replace hms := Lib.hid hms
                  have HR := Lib.hid (Kept.row HKp.out hG.out hgl)
                  have c0 := HR.out.cell t hmt
                  rw [hmg] at c0
                  clear hmg
                  have c1 := HV.out.cell t (by show t < 8; omega)
                  have f0 := HR.out.f
                  have hne : g ≠ w.heap.size + 1 := by omega
                  generalize hga : v.list.getD t 0 = a0 at c0
                  generalize hgb : y.list.getD t 0 = b0 at c1
                  replace hga := Lib.hid hga
                  replace hgb := Lib.hid hgb
                  have RM := rs
                  go_wp2_with fail
                  go_region
                  go_wp2_with fail
                  clear RM
                  go_roundw
                  case rel =>
                    refine ⟨t + 1, by omega, by go_num, Lib.hid ?_, Lib.hid ?_⟩
                    · have h2 := HKp.out.set hgl ⟨_, _, _, hG.out⟩ t hmt (v.list.getD t 0 + y.list.getD t 0)
                      rw [hms.out, hga.out, hgb.out] at h2
                      exact h2.drew
                    · exact (HV.out.far (by simp; omega) _).drew
                  case measure => simp [intOf]; omega
              · obtain rfl : t = 8 := by omega
                go_wp2_with fail
                go_end0
                refine ⟨rfl, ?_⟩
                rw [HT.out, ← mixL_all]
                exact HKp.out
end Go.Proofs.YtldpnmebjnkjeaaDoor.Sha
