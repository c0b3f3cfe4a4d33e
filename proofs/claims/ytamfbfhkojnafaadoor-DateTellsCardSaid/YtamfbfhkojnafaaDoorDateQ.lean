import Derived.Test.YtamfbfhkojnafaaDoorPD4x3
import Derived.Test.YtamfbfhkojnafaaDoorDateV
import Derived.ChangeKeysEq
import Derived.Deep.Draws
import Derived.Lib.Hide
import Derived.Outline
import Derived.LoopTactic
import Derived.BigRegion
import Derived.BigQuiet
import Derived.Deep.QuietTactic
import Derived.RegionCalls
namespace Go.Proofs.YtamfbfhkojnafaaDoor.Ar
open Go.RowKit Go.Instr
set_option linter.unusedVariables false
set_option linter.unusedSimpArgs false
theorem run_index {P : Program} {t e : TypeId} {n : Nat} {k : IntKind} {i : Nat} {cs : Array Value} {v : Value} {ti : TypeInfo} (hu : P.underlying t = some (.array n e)) (hp : P.plainKey e = true) (hs : P.info? e = some ti) (h1 : ti.size = 1) (hi : i < n)
    (hv : cs[i]? = some v) (w : World) : (Instr.index t (.agg cs) (.int k (i : Int))).run P w = .ok v w := by
  have hpart := run_part_plain w hp hv
  simp [Instr.index, asIntOf, run_underlying hu, Go.sizeOf, typeInfo, hs, h1, hi, hpart]
end Go.Proofs.YtamfbfhkojnafaaDoor.Ar
namespace Go.Proofs.YtamfbfhkojnafaaDoor
open Go.RowKit Go.Proofs.YtamfbfhkojnafaaDoor.PD4 Go.Proofs.YtamfbfhkojnafaaDoorW.PrintWords
set_option linter.unusedVariables false
set_option linter.unusedSimpArgs false

def digB (b : UInt8) : Bool := decide (48 ≤ b.toNat) && decide (b.toNat ≤ 57)
def numL (l : List UInt8) : Nat := l.foldl (fun n b => 10 * n + (b.toNat - 48)) 0
theorem numL_snoc (l : List UInt8) (b : UInt8) : numL (l ++ [b]) = 10 * numL l + (b.toNat - 48) := by unfold numL; rw [List.foldl_append]; rfl
theorem numL_lt (l : List UInt8) (h : l.all digB = true) : numL l < 10 ^ l.length := by
  rcases List.eq_nil_or_concat l with rfl | ⟨m, b, rfl⟩
  · decide
  · have := numL_lt m (by rw [List.concat_eq_append, List.all_append] at h; exact (Bool.and_eq_true_iff.1 h).1)
    rw [List.concat_eq_append, numL_snoc, List.length_append, List.length_singleton, Nat.pow_succ]
    rw [List.concat_eq_append, List.all_append] at h
    have hb := (Bool.and_eq_true_iff.1 h).2
    simp [digB] at hb
    omega
termination_by l.length
decreasing_by rename_i e; subst e; simp
def segs (s0 s1 s2 : ByteArray) : Bool := s0.data.toList.all digB && (s1.data.toList.all digB && s2.data.toList.all digB)
def parse3 (s0 s1 s2 : ByteArray) : Int × Int := if segs s0 s1 s2 then joinR (numL s0.data.toList) (numL s1.data.toList) (numL s2.data.toList) else (0, 3)

def Par (g : Nat) (p0 p1 p2 : Int) (w : World) : Prop := w.heap[g]? = some (.cells #[.int .i64 p0, .int .i64 p1, .int .i64 p2] 64 (0, 0))
theorem Par.set0 {g : Nat} {p0 p1 p2 : Int} {w : World} (h : Par g p0 p1 p2 w) (x : Int) : Par g x p1 p2 (w.setCell ⟨g, 0, none⟩ (.int .i64 x)) := by
  unfold Par at *; rw [World.setCell]; simp only [Array.getElem?_modify, if_true, h, Option.map_some]; rfl
theorem Par.set1 {g : Nat} {p0 p1 p2 : Int} {w : World} (h : Par g p0 p1 p2 w) (x : Int) : Par g p0 x p2 (w.setCell ⟨g, 1, none⟩ (.int .i64 x)) := by
  unfold Par at *; rw [World.setCell]; simp only [Array.getElem?_modify, if_true, h, Option.map_some]; rfl
theorem Par.set2 {g : Nat} {p0 p1 p2 : Int} {w : World} (h : Par g p0 p1 p2 w) (x : Int) : Par g p0 p1 x (w.setCell ⟨g, 2, none⟩ (.int .i64 x)) := by
  unfold Par at *; rw [World.setCell]; simp only [Array.getElem?_modify, if_true, h, Option.map_some]; rfl
theorem Par.c0 {g : Nat} {p0 p1 p2 : Int} {w : World} (h : Par g p0 p1 p2 w) : w.cell? ⟨g, 0, none⟩ = some (.int .i64 p0) := by rw [cell_of_row _ _ _ _ _ _ h]; rfl
theorem Par.c1 {g : Nat} {p0 p1 p2 : Int} {w : World} (h : Par g p0 p1 p2 w) : w.cell? ⟨g, 1, none⟩ = some (.int .i64 p1) := by rw [cell_of_row _ _ _ _ _ _ h]; rfl
theorem Par.c2 {g : Nat} {p0 p1 p2 : Int} {w : World} (h : Par g p0 p1 p2 w) : w.cell? ⟨g, 2, none⟩ = some (.int .i64 p2) := by rw [cell_of_row _ _ _ _ _ _ h]; rfl
theorem Par.f {g : Nat} {p0 p1 p2 : Int} {w : World} (h : Par g p0 p1 p2 w) (i : Nat) : w.frozen? ⟨g, i, none⟩ = false := frozen_of_row w g i _ _ h
theorem Par.drew {g : Nat} {p0 p1 p2 : Int} {w : World} (h : Par g p0 p1 p2 w) : Par g p0 p1 p2 w.drew := h
theorem take_snoc_b (s : ByteArray) (k : Nat) (h : k < s.size) : s.data.toList.take (k + 1) = s.data.toList.take k ++ [s[k]] := by
  rw [List.take_succ_eq_append_getElem (by simpa using h)]; rfl

def SegOk (s0 s1 s2 : ByteArray) (k : Nat) : Prop := (0 < k → s0.data.toList.all digB = true) ∧ (1 < k → s1.data.toList.all digB = true) ∧ (2 < k → s2.data.toList.all digB = true)
theorem not_all (s : ByteArray) (q : Nat) (h : q < s.size) (hb : digB s[q] = false) : s.data.toList.all digB = false := by
  rw [← Bool.not_eq_true, List.all_eq_true]
  intro h2
  have := h2 s[q] (by rw [ByteArray.getElem_eq_getElem_data]; simp)
  rw [hb] at this
  cases this
set_option maxHeartbeats 4000000 in
set_option maxRecDepth 100000 in
theorem parse_ten (t s0 s1 s2 : ByteArray) (w : World) (hs4 : 4 < t.size) (hs7 : 7 < t.size) (ht2 : ((t.size : Int) != 10) = false) (h4 : (((t[4]'hs4).toNat : Int) != 45) = false) (h7 : (((t[7]'hs7).toNat : Int) != 45) = false)
    (hT : TabsAt w) (z0 : s0.size ≤ 4) (z1 : s1.size ≤ 4) (z2 : s2.size ≤ 4)
    (e0 : ∀ w : World, (Instr.slice 9 (.string t) none (some (.int .i64 4)) none).run Tryd.prog w = .ok (.string s0) w)
    (e1 : ∀ w : World, (Instr.slice 9 (.string t) (some (.int .i64 5)) (some (.int .i64 7)) none).run Tryd.prog w = .ok (.string s1) w)
    (e2 : ∀ w : World, (Instr.slice 9 (.string t) (some (.int .i64 8)) none none).run Tryd.prog w = .ok (.string s2) w) :
    Calls Tryd.prog 49 #[.string t] w fun e w' => e = .returned (.tuple #[.int .i32 (parse3 s0 s1 s2).1, .int .i64 (parse3 s0 s1 s2).2]) ∧ Below w.heap.size w w' := by
  have HX := Lib.hid (show parse3 s0 s1 s2 = (if segs s0 s1 s2 then joinR (numL s0.data.toList) (numL s1.data.toList) (numL s2.data.toList) else (0, 3)) from rfl)
  generalize parse3 s0 s1 s2 = X at HX
  have HT := Lib.hid hT
  clear hT
  obtain ⟨ti, hti, hti1⟩ : ∃ ti, Tryd.prog.info? 9 = some ti ∧ ti.size = 1 := by
    have h : (Tryd.prog.info? 9).map (·.size) = some 1 := by kernel_rfl
    cases hq : Tryd.prog.info? 9 with
    | none => rw [hq] at h; cases h
    | some ti => rw [hq] at h; exact ⟨ti, rfl, Option.some.inj h⟩
  have hx0 : ∀ w : World, (Instr.index 91 (.agg #[.string s0, .string s1, .string s2]) (.int .i64 0)).run Tryd.prog w = .ok (.string s0) w := fun w => Ar.run_index (i := 0) (by kernel_rfl) (show Tryd.prog.plainKey 9 = true by kernel_rfl) hti hti1 (by omega : 0 < 3) rfl w
  have hx1 : ∀ w : World, (Instr.index 91 (.agg #[.string s0, .string s1, .string s2]) (.int .i64 1)).run Tryd.prog w = .ok (.string s1) w := fun w => Ar.run_index (i := 1) (by kernel_rfl) (show Tryd.prog.plainKey 9 = true by kernel_rfl) hti hti1 (by omega : 1 < 3) rfl w
  have hx2 : ∀ w : World, (Instr.index 91 (.agg #[.string s0, .string s1, .string s2]) (.int .i64 2)).run Tryd.prog w = .ok (.string s2) w := fun w => Ar.run_index (i := 2) (by kernel_rfl) (show Tryd.prog.plainKey 9 = true by kernel_rfl) hti hti1 (by omega : 2 < 3) rfl w
  clear hti hti1 ti
  go_enter Tryd.func49, Tryd.ntmps49
  go_wp2_with fail
  go_quiet (fail)
  clear e0 e1 e2 h4 h7 ht2
  have HP := Lib.hid (show Par w.heap.size 0 0 0 ((w.alloc (.cells #[.int .i64 0, .int .i64 0, .int .i64 0] 64)).drewN nq) from heap_alloc_new w _)
  have HB := Lib.hid (show Below w.heap.size w ((w.alloc (.cells #[.int .i64 0, .int .i64 0, .int .i64 0] 64)).drewN nq) from pw_below_drewN ((Below.refl _ _).alloc (Nat.le_refl _) _) _)
  generalize ((w.alloc (.cells #[.int .i64 0, .int .i64 0, .int .i64 0] 64)).drewN nq) = w1 at HP HB ⊢
  go_wp2_with fail
  clear nq
  go_loopw [28] (fun i wr => ∃ k : Nat, k ≤ 3 ∧ i = .int .i64 k ∧ Hid (SegOk s0 s1 s2 k) ∧ Hid (Par w.heap.size (if 0 < k then (numL s0.data.toList : Int) else 0) (if 1 < k then (numL s1.data.toList : Int) else 0) (if 2 < k then (numL s2.data.toList : Int) else 0) wr) ∧ Hid (Below w.heap.size w wr)) (fun i _ => 3 - (intOf i).toNat)
  case atStart => exact ⟨0, by omega, rfl, ⟨fun h => by omega, fun h => by omega, fun h => by omega⟩, HP, HB⟩
  case round =>
    clear HP HB
    obtain ⟨k, hk, rfl, hS, HP, HB⟩ := hrel
    rcases (show k = 0 ∨ k = 1 ∨ k = 2 ∨ k = 3 by omega) with rfl | rfl | rfl | rfl
    · replace HP : Hid (Par w.heap.size 0 0 0 wr) := HP
      simp only [show ((0 : Nat) : Int) = 0 from rfl]
      have HP0 := Lib.hid HP.out.f
      have hc_ := HP.out.c0
      have hf_ := HP.out.f 0
      go_wp2_with fail
      clear hc_ hf_
      go_loopw [34] (fun i wr => ∃ q : Nat, q ≤ s0.size ∧ i = .int .i64 q ∧ Hid ((s0.data.toList.take q).all digB = true) ∧ Hid (∃ m : Nat, m = numL (s0.data.toList.take q) ∧ Par w.heap.size m 0 0 wr) ∧ Hid (Below w.heap.size w wr)) (fun i _ => s0.size - (intOf i).toNat)
      case atStart => exact ⟨0, Nat.zero_le _, rfl, rfl, ⟨0, rfl, HP.out⟩, HB⟩
      case round =>
        clear HP HB HP0
        obtain ⟨q, hq, rfl, hd, HP, HB⟩ := hrel
        by_cases hlt : q < s0.size
        · have hts := Lib.hid (take_snoc_b s0 q hlt)
          have hnb := numL_lt _ hd.out
          have hnl : numL (s0.data.toList.take q) < 1000 := by
            refine Nat.lt_of_lt_of_le hnb (Nat.le_trans (Nat.pow_le_pow_right (by omega) (show (s0.data.toList.take q).length ≤ 3 by rw [List.length_take]; omega)) (by decide))
          clear hnb
          obtain ⟨m, hm, HP⟩ := HP.out
          rw [← hm] at hnl
          replace hm := Lib.hid hm
          replace HP := Lib.hid HP
          have hc_ := HP.out.c0
          have hf_ := HP.out.f 0
          by_cases hlo : (s0[q].toNat : Int) < 48
          · have hbad := Lib.hid (not_all s0 q hlt (by unfold digB; simp; omega))
            go_wp2_with fail
            go_ret2
            exact ⟨by rw [HX.out, segs, hbad.out]; simp, HB.out⟩
          · by_cases hhi : 57 < (s0[q].toNat : Int)
            · have hbad := Lib.hid (not_all s0 q hlt (by unfold digB; simp; omega))
              go_wp2_with fail
              go_ret2
              exact ⟨by rw [HX.out, segs, hbad.out]; simp, HB.out⟩
            · have hgood : digB s0[q] = true := by unfold digB; simp; omega
              have hd2 : Hid ((s0.data.toList.take (q + 1)).all digB = true) := Lib.hid (by rw [hts.out, List.all_append, hd.out]; simp [hgood])
              have hnum : Hid (((numL (s0.data.toList.take (q + 1)) : Nat) : Int) = 10 * (m : Int) + ((s0[q].toNat : Int) - 48)) := Lib.hid (by rw [hts.out, numL_snoc, ← hm.out]; omega)
              clear hgood
              have w1 : IntKind.i64.wrap (10 * (m : Int)) = 10 * m := by rw [IntKind.wrap_i64]; omega
              have w2 : IntKind.i64.wrap (10 * (m : Int) + ((s0[q].toNat : Int) - 48)) = 10 * m + ((s0[q].toNat : Int) - 48) := by rw [IntKind.wrap_i64]; omega
              go_wp2_with fail
              go_region
              go_wp2_with fail
              go_roundw
              case rel => exact ⟨q + 1, by omega, by go_num, hd2, ⟨numL (s0.data.toList.take (q + 1)), rfl, by rw [hnum.out]; exact HP.out.set0 _⟩, (HB.out.setCell (by simp) _).drew⟩
              case measure => simp [intOf]; omega
        · obtain rfl : q = s0.size := by omega
          have hfull := Lib.hid (show s0.data.toList.take s0.size = s0.data.toList from List.take_of_length_le (by simp))
          rw [hfull.out] at hd
          obtain ⟨m, hm, HP⟩ := HP.out
          rw [hfull.out] at hm
          subst hm
          replace HP := Lib.hid HP
          go_wp2_with fail
          go_roundw
          case rel => exact ⟨1, by omega, rfl, ⟨fun _ => hd.out, fun h => by omega, fun h => by omega⟩, HP, HB⟩
          case measure => simp [intOf]
    · replace HP : Hid (Par w.heap.size (numL s0.data.toList : Int) 0 0 wr) := HP
      obtain ⟨p0, hp0⟩ : ∃ p : Int, p = (numL s0.data.toList : Int) := ⟨_, rfl⟩
      rw [← hp0] at HP
      replace hp0 := Lib.hid hp0
      simp only [show ((1 : Nat) : Int) = 1 from rfl]
      have HP0 := Lib.hid HP.out.f
      have hc_ := HP.out.c1
      have hf_ := HP.out.f 1
      go_wp2_with fail
      clear hc_ hf_
      go_loopw [34] (fun i wr => ∃ q : Nat, q ≤ s1.size ∧ i = .int .i64 q ∧ Hid ((s1.data.toList.take q).all digB = true) ∧ Hid (∃ m : Nat, m = numL (s1.data.toList.take q) ∧ Par w.heap.size p0 m 0 wr) ∧ Hid (Below w.heap.size w wr)) (fun i _ => s1.size - (intOf i).toNat)
      case atStart => exact ⟨0, Nat.zero_le _, rfl, rfl, ⟨0, rfl, HP.out⟩, HB⟩
      case round =>
        clear HP HB HP0
        obtain ⟨q, hq, rfl, hd, HP, HB⟩ := hrel
        by_cases hlt : q < s1.size
        · have hts := Lib.hid (take_snoc_b s1 q hlt)
          have hnb := numL_lt _ hd.out
          have hnl : numL (s1.data.toList.take q) < 1000 := by
            refine Nat.lt_of_lt_of_le hnb (Nat.le_trans (Nat.pow_le_pow_right (by omega) (show (s1.data.toList.take q).length ≤ 3 by rw [List.length_take]; omega)) (by decide))
          clear hnb
          obtain ⟨m, hm, HP⟩ := HP.out
          rw [← hm] at hnl
          replace hm := Lib.hid hm
          replace HP := Lib.hid HP
          have hc_ := HP.out.c1
          have hf_ := HP.out.f 1
          by_cases hlo : (s1[q].toNat : Int) < 48
          · have hbad := Lib.hid (not_all s1 q hlt (by unfold digB; simp; omega))
            go_wp2_with fail
            go_ret2
            exact ⟨by rw [HX.out, segs, hbad.out]; simp, HB.out⟩
          · by_cases hhi : 57 < (s1[q].toNat : Int)
            · have hbad := Lib.hid (not_all s1 q hlt (by unfold digB; simp; omega))
              go_wp2_with fail
              go_ret2
              exact ⟨by rw [HX.out, segs, hbad.out]; simp, HB.out⟩
            · have hgood : digB s1[q] = true := by unfold digB; simp; omega
              have hd2 : Hid ((s1.data.toList.take (q + 1)).all digB = true) := Lib.hid (by rw [hts.out, List.all_append, hd.out]; simp [hgood])
              have hnum : Hid (((numL (s1.data.toList.take (q + 1)) : Nat) : Int) = 10 * (m : Int) + ((s1[q].toNat : Int) - 48)) := Lib.hid (by rw [hts.out, numL_snoc, ← hm.out]; omega)
              clear hgood
              have w1 : IntKind.i64.wrap (10 * (m : Int)) = 10 * m := by rw [IntKind.wrap_i64]; omega
              have w2 : IntKind.i64.wrap (10 * (m : Int) + ((s1[q].toNat : Int) - 48)) = 10 * m + ((s1[q].toNat : Int) - 48) := by rw [IntKind.wrap_i64]; omega
              go_wp2_with fail
              go_region
              go_wp2_with fail
              go_roundw
              case rel => exact ⟨q + 1, by omega, by go_num, hd2, ⟨numL (s1.data.toList.take (q + 1)), rfl, by rw [hnum.out]; exact HP.out.set1 _⟩, (HB.out.setCell (by simp) _).drew⟩
              case measure => simp [intOf]; omega
        · obtain rfl : q = s1.size := by omega
          have hfull := Lib.hid (show s1.data.toList.take s1.size = s1.data.toList from List.take_of_length_le (by simp))
          rw [hfull.out] at hd
          obtain ⟨m, hm, HP⟩ := HP.out
          rw [hfull.out] at hm
          subst hm
          replace HP := Lib.hid HP
          go_wp2_with fail
          go_roundw
          case rel => exact ⟨2, by omega, rfl, ⟨fun _ => hS.out.1 (by omega), fun _ => hd.out, fun h => by omega⟩, (Lib.hid (by have h := HP.out; rw [hp0.out] at h; exact h)), HB⟩
          case measure => simp [intOf]
    · replace HP : Hid (Par w.heap.size (numL s0.data.toList : Int) (numL s1.data.toList : Int) 0 wr) := HP
      obtain ⟨p0, hp0⟩ : ∃ p : Int, p = (numL s0.data.toList : Int) := ⟨_, rfl⟩
      obtain ⟨p1, hp1⟩ : ∃ p : Int, p = (numL s1.data.toList : Int) := ⟨_, rfl⟩
      rw [← hp0, ← hp1] at HP
      replace hp0 := Lib.hid hp0
      replace hp1 := Lib.hid hp1
      simp only [show ((2 : Nat) : Int) = 2 from rfl]
      have HP0 := Lib.hid HP.out.f
      have hc_ := HP.out.c2
      have hf_ := HP.out.f 2
      go_wp2_with fail
      clear hc_ hf_
      go_loopw [34] (fun i wr => ∃ q : Nat, q ≤ s2.size ∧ i = .int .i64 q ∧ Hid ((s2.data.toList.take q).all digB = true) ∧ Hid (∃ m : Nat, m = numL (s2.data.toList.take q) ∧ Par w.heap.size p0 p1 m wr) ∧ Hid (Below w.heap.size w wr)) (fun i _ => s2.size - (intOf i).toNat)
      case atStart => exact ⟨0, Nat.zero_le _, rfl, rfl, ⟨0, rfl, HP.out⟩, HB⟩
      case round =>
        clear HP HB HP0
        obtain ⟨q, hq, rfl, hd, HP, HB⟩ := hrel
        by_cases hlt : q < s2.size
        · have hts := Lib.hid (take_snoc_b s2 q hlt)
          have hnb := numL_lt _ hd.out
          have hnl : numL (s2.data.toList.take q) < 1000 := by
            refine Nat.lt_of_lt_of_le hnb (Nat.le_trans (Nat.pow_le_pow_right (by omega) (show (s2.data.toList.take q).length ≤ 3 by rw [List.length_take]; omega)) (by decide))
          clear hnb
          obtain ⟨m, hm, HP⟩ := HP.out
          rw [← hm] at hnl
          replace hm := Lib.hid hm
          replace HP := Lib.hid HP
          have hc_ := HP.out.c2
          have hf_ := HP.out.f 2
          by_cases hlo : (s2[q].toNat : Int) < 48
          · have hbad := Lib.hid (not_all s2 q hlt (by unfold digB; simp; omega))
            go_wp2_with fail
            go_ret2
            exact ⟨by rw [HX.out, segs, hbad.out]; simp, HB.out⟩
          · by_cases hhi : 57 < (s2[q].toNat : Int)
            · have hbad := Lib.hid (not_all s2 q hlt (by unfold digB; simp; omega))
              go_wp2_with fail
              go_ret2
              exact ⟨by rw [HX.out, segs, hbad.out]; simp, HB.out⟩
            · have hgood : digB s2[q] = true := by unfold digB; simp; omega
              have hd2 : Hid ((s2.data.toList.take (q + 1)).all digB = true) := Lib.hid (by rw [hts.out, List.all_append, hd.out]; simp [hgood])
              have hnum : Hid (((numL (s2.data.toList.take (q + 1)) : Nat) : Int) = 10 * (m : Int) + ((s2[q].toNat : Int) - 48)) := Lib.hid (by rw [hts.out, numL_snoc, ← hm.out]; omega)
              clear hgood
              have w1 : IntKind.i64.wrap (10 * (m : Int)) = 10 * m := by rw [IntKind.wrap_i64]; omega
              have w2 : IntKind.i64.wrap (10 * (m : Int) + ((s2[q].toNat : Int) - 48)) = 10 * m + ((s2[q].toNat : Int) - 48) := by rw [IntKind.wrap_i64]; omega
              go_wp2_with fail
              go_region
              go_wp2_with fail
              go_roundw
              case rel => exact ⟨q + 1, by omega, by go_num, hd2, ⟨numL (s2.data.toList.take (q + 1)), rfl, by rw [hnum.out]; exact HP.out.set2 _⟩, (HB.out.setCell (by simp) _).drew⟩
              case measure => simp [intOf]; omega
        · obtain rfl : q = s2.size := by omega
          have hfull := Lib.hid (show s2.data.toList.take s2.size = s2.data.toList from List.take_of_length_le (by simp))
          rw [hfull.out] at hd
          obtain ⟨m, hm, HP⟩ := HP.out
          rw [hfull.out] at hm
          subst hm
          replace HP := Lib.hid HP
          go_wp2_with fail
          go_roundw
          case rel => exact ⟨3, by omega, rfl, ⟨fun _ => hS.out.1 (by omega), fun _ => hS.out.2.1 (by omega), fun _ => hd.out⟩, (Lib.hid (by have h := HP.out; rw [hp0.out, hp1.out] at h; exact h)), HB⟩
          case measure => simp [intOf]
    · replace HP : Hid (Par w.heap.size (numL s0.data.toList : Int) (numL s1.data.toList : Int) (numL s2.data.toList : Int) wr) := HP
      obtain ⟨p0, hp0⟩ : ∃ p : Int, p = (numL s0.data.toList : Int) := ⟨_, rfl⟩
      obtain ⟨p1, hp1⟩ : ∃ p : Int, p = (numL s1.data.toList : Int) := ⟨_, rfl⟩
      obtain ⟨p2, hp2⟩ : ∃ p : Int, p = (numL s2.data.toList : Int) := ⟨_, rfl⟩
      rw [← hp0, ← hp1, ← hp2] at HP
      have HX2 : Hid (X = joinR p0 p1 p2) := Lib.hid (by rw [HX.out, segs, hS.out.1 (by omega), hS.out.2.1 (by omega), hS.out.2.2 (by omega), hp0, hp1, hp2]; rfl)
      clear hp0 hp1 hp2 HX
      obtain ⟨j1, j2, hJ⟩ : ∃ j1 j2, joinR p0 p1 p2 = (j1, j2) := ⟨_, _, rfl⟩
      rw [hJ] at HX2
      replace hJ := Lib.hid hJ
      have hc0 := HP.out.c0
      have hc1 := HP.out.c1
      have hc2 := HP.out.c2
      go_wp2_with fail
      refine (date_Join.calls 1 p0 p1 p2 _ _ _ (TabsAt.below HT.out HB.out) ((join_f 0 p0 p1 p2).trans (congrArg some hJ.out))).mono ?_
      rintro e w2 ⟨rfl, hb2⟩
      go_wp2_with fail
      go_ret2
      refine ⟨?_, HB.out.trans (Below.mono hb2.below HB.out.size)⟩
      rw [HX2.out]; rfl

/-- A date's text: ten bytes, of which two are '-'. -/
def formD (t : ByteArray) : Bool := decide (t.size = 10) && (decide ((t.data.toList.getD 4 0).toNat = 45) && decide ((t.data.toList.getD 7 0).toNat = 45))
def parseR (t : ByteArray) : Int × Int := if formD t then parse3 (t.extract 0 4) (t.extract 5 7) (t.extract 8 t.size) else (0, 3)
theorem getD_b (t : ByteArray) (i : Nat) (h : i < t.size) : t.data.toList.getD i 0 = t[i] := by
  rw [List.getD_eq_getElem?_getD, List.getElem?_eq_getElem (by simpa using h)]; rfl

set_option maxHeartbeats 4000000 in
theorem parse_calls (t : ByteArray) (w : World) (hT : TabsAt w) : Calls Tryd.prog 49 #[.string t] w fun e w' => e = .returned (.tuple #[.int .i32 (parseR t).1, .int .i64 (parseR t).2]) ∧ Below w.heap.size w w' := by
  cases hf : formD t with
  | false =>
    have hR : parseR t = (0, 3) := by unfold parseR; rw [hf]; rfl
    rw [hR]
    by_cases h10 : t.size = 10
    · have ht2 : ((t.size : Int) != 10) = false := by rw [h10]; rfl
      have hs4 : 4 < t.size := by omega
      have hs7 : 7 < t.size := by omega
      have h47 : (((t[4]'hs4).toNat : Int) != 45) = true ∨ ((((t[4]'hs4).toNat : Int) != 45) = false ∧ (((t[7]'hs7).toNat : Int) != 45) = true) := by
        unfold formD at hf
        rw [getD_b t 4 hs4, getD_b t 7 hs7] at hf
        simp [h10] at hf
        by_cases h4 : (t[4]'hs4).toNat = 45
        · right
          have := hf h4
          exact ⟨by rw [h4]; rfl, by rw [bne_iff_ne]; omega⟩
        · left; rw [bne_iff_ne]; omega
      clear hf hR
      replace h10 := Lib.hid h10
      rcases h47 with h4 | ⟨h4, h7⟩
      · go_enter Tryd.func49, Tryd.ntmps49
        go_wp2_with fail
        go_ret2
        exact ⟨rfl, Below.refl _ _⟩
      · go_enter Tryd.func49, Tryd.ntmps49
        go_wp2_with fail
        go_ret2
        exact ⟨rfl, Below.refl _ _⟩
    · have ht2 : ((t.size : Int) != 10) = true := by rw [bne_iff_ne]; omega
      clear hf hR h10
      go_enter Tryd.func49, Tryd.ntmps49
      go_wp2_with fail
      go_ret2
      exact ⟨rfl, Below.refl _ _⟩
  | true =>
    have hR : parseR t = parse3 (t.extract 0 4) (t.extract 5 7) (t.extract 8 t.size) := by unfold parseR; rw [hf]; rfl
    rw [hR]
    unfold formD at hf
    rw [Bool.and_eq_true_iff, Bool.and_eq_true_iff, decide_eq_true_eq, decide_eq_true_eq, decide_eq_true_eq] at hf
    obtain ⟨h10, h4, h7⟩ := hf
    have hs4 : 4 < t.size := by omega
    have hs7 : 7 < t.size := by omega
    have g4 := getD_b t 4 hs4
    have g7 := getD_b t 7 hs7
    rw [g4] at h4
    rw [g7] at h7
    refine parse_ten t _ _ _ w hs4 hs7 (by rw [h10]; rfl) (by rw [h4]; rfl) (by rw [h7]; rfl) hT (by rw [ByteArray.size_extract]; omega) (by rw [ByteArray.size_extract]; omega) (by rw [ByteArray.size_extract]; omega) ?_ ?_ ?_
    · intro w
      rw [run_slice_string_to_if _ _ _ _ _ (by kernel_rfl), if_pos (by omega)]; rfl
    · intro w
      exact run_slice_string w 9 t .i64 .i64 5 7 (by kernel_rfl) (by omega) (by omega) (by omega)
    · intro w
      rw [run_slice_string_from_if _ _ _ _ _ (by kernel_rfl), if_pos (by omega)]; rfl
end Go.Proofs.YtamfbfhkojnafaaDoor
