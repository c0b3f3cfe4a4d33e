/-
  HashFeeds of cashbooklaw10 returns true at every input: a hash at first, and any one behind any bytes, and its end, are as the document says, or refused; the arguments read behind the call as they did. Conditions: those of the given row (the table of the constants is laid as the text of the program says, tied by the given tie), none of its own.
-/
import Derived.Test.YtldpnmebjnkjeaaDoorTmC
import Derived.Laws.BytesString
import Derived.RegionCalls
import Derived.Test.YtldpnmebjnkjeaaDoorRows
import Derived.WalkKit
import Derived.ProofKit
import Derived.OpenShut
import Derived.Deep.DeepHandedRow
import Derived.Lib.LaidTab
import Derived.Lib.LaidU8
import Derived.Test.YtldpnmebjnkjeaaDoorWWords
import Derived.Test.YtldpnmebjnkjeaaDoorWArr
import Derived.ChangeArms
import Derived.ChangeSame
import Derived.ChangeSlices
import Derived.Test.YtldpnmebjnkjeaaDoorProg
import Derived.WideShapes
import Derived.Lib.BufferWrite
import Derived.Test.YtldpnmebjnkjeaaDoorCards
import Derived.Test.YtldpnmebjnkjeaaDoorTie
import Derived.ShutString
import Derived.ChangeOld
import Derived.SizedLaws
namespace Go.Proofs.YtldpnmebjnkjeaaDoor.Ref10
open Go.RowKit Go.Proofs.YtldpnmebjnkjeaaDoorW.PrintWords Go.Proofs.YtldpnmebjnkjeaaDoor.PH1 Go.Proofs.YtldpnmebjnkjeaaDoor Go.Proofs.YtldpnmebjnkjeaaDoorW.PrintLast Go.Proofs.YtldpnmebjnkjeaaDoorW.PrintMore
open Go.Proofs.YtldpnmebjnkjeaaDoor.Sha (V8 wv RowU RowX takeP feedP tailL tailL_len digL digL_len sumL sumL_len sumL_all endP endP_len z32_len hashV fedV)
set_option linter.unusedVariables false
set_option linter.unusedSimpArgs false

set_option maxHeartbeats 4000000 in
set_option maxRecDepth 100000 in
theorem rsum_calls (s : ByteArray) (hs : s.size ≤ 1048576) (w : World) :
    Calls Tryd.prog 24 #[.string s] w fun e w' => e = .returned (.agg (Lib.byteCells (sumL s.data.toList)).toArray) ∧ Below w.heap.size w w' := by
  have hE : endP (feedP Sha.v0 s.data.toList).1 (feedP Sha.v0 s.data.toList).2 s.size = sumL s.data.toList := by
    unfold sumL; rw [Lib.size_eq]
  go_enter Tryd.func24, Tryd.ntmps24
  go_wp2_with fail
  generalize hw1 : w.alloc _ = w1
  have HR : Hid (w1.heap[w.heap.size]? = some (.cells (Lib.byteCells (List.replicate 32 0)).toArray 24 (0, 0))) := by
    rw [← hw1]; exact Lib.hid (heap_alloc_last _ _)
  have HB : Hid (Below w.heap.size w w1) := by
    rw [← hw1]; exact Lib.hid ((Below.refl _ _).alloc (Nat.le_refl _) _)
  clear hw1
  refine (rmake_calls w1).mono ?_
  rintro e w2 ⟨ak, c, rfl, hk, hb⟩
  replace HR := Lib.hid (blk_below HR.out hb)
  replace HB := Lib.hid (HB.out.trans (hb.mono HB.out.size))
  have hk2 := Shut.mk hk
  clear hb hk
  go_wp2_with fail
  refine (rof_calls ak c Sha.v0 s hs w2 hk2.out).mono ?_
  rintro e w3 ⟨rfl, hb⟩
  rw [hE]
  replace HR := Lib.hid (blk_below HR.out hb)
  replace HB := Lib.hid (HB.out.trans (hb.mono HB.out.size))
  have hl := Lib.hid (sumL_len s.data.toList)
  clear hb hE
  generalize hD : sumL s.data.toList = D at hl ⊢
  replace hD := Lib.hid hD
  go_wp2_with (refine wpList_store_dig rfl (.tmp 2) (.tmp 5) rfl w.heap.size rfl D hl.out rfl _ _ HR.out (by rw [List.size_toArray, Lib.byteCells, List.length_map, z32_len]) ?_; intro w9 h9 _ hB9)
  refine bodyPost_ret (v := .agg (Lib.byteCells D).toArray) ?_ rfl ⟨by rw [hD.out], hB9 HB.out (by omega)⟩
  simp [results, Tryd.results24, asAddr, run_load_dig h9.out hl.out, Act.put]
/-! A hash by value, whole. -/
def HA (v : V8) (rest : ByteArray) (n : Int) : Array Value := (v.list.map wv ++ [Value.string rest, Value.int .i64 n]).toArray
theorem HA_eq (v : V8) (rest : ByteArray) (n : Int) : hashV v rest n = .agg (HA v rest n) := rfl
def HAt (b : Nat) (v : V8) (rest : ByteArray) (n : Int) (w : World) : Prop := w.heap[b]? = some (.cells (HA v rest n) 31 (0, 0))
namespace HAt
variable {b : Nat} {v : V8} {rest : ByteArray} {n : Int} {w w1 : World}
theorem below (h : HAt b v rest n w) (hb : Below w.heap.size w w1) : HAt b v rest n w1 := blk_below h hb
theorem range (h : HAt b v rest n w) : w.rangeAt b 0 (v.list.map wv) := RowX.range (t := 31) (R := [.string rest, .int .i64 n]) h
theorem cell8 (h : HAt b v rest n w) : w.cell? ⟨b, 8, none⟩ = some (.string rest) := by rw [cell_of_row _ _ _ _ _ _ h]; rfl
theorem cell9 (h : HAt b v rest n w) : w.cell? ⟨b, 9, none⟩ = some (.int .i64 n) := by rw [cell_of_row _ _ _ _ _ _ h]; rfl
end HAt
theorem h_info : ∃ i : TypeInfo, Tryd.prog.info? 31 = some i ∧ i.zero = some (.agg (HA z8 ⟨#[]⟩ 0)) := by
  have h : (Tryd.prog.info? 31).map (fun i => i.zero) = some (some (.agg (HA z8 ⟨#[]⟩ 0))) := by kernel_rfl
  cases hq : Tryd.prog.info? 31 with
  | none => rw [hq] at h; cases h
  | some i => rw [hq] at h; exact ⟨i, rfl, Option.some.inj h⟩
theorem built_H (v : V8) (r : ByteArray) (n : Int) : Tryd.prog.built 31 [(0, .agg (wag v)), (1, .string r), (2, .int .i64 n)] = some (HA v r n) := by
  obtain ⟨i, hi, hz⟩ := h_info
  have hp : ∃ fs : Array Field, Tryd.prog.underlying 31 = some (.struct fs) ∧ (fs.toList.mapM fun f => (Tryd.prog.info? f.type).map fun i => (f.offset, i.size)) = some [(0, 8), (8, 1), (9, 1)] := ⟨_, Tryd.underlying31, by kernel_rfl⟩
  obtain ⟨fs, hu, hp⟩ := hp
  unfold Program.built
  rw [hi, hu]
  simp only [hz, hp]
  rw [show (Value.agg (HA z8 ⟨#[]⟩ 0)).cells = #[.int .u32 0, .int .u32 0, .int .u32 0, .int .u32 0, .int .u32 0, .int .u32 0, .int .u32 0, .int .u32 0, .string ⟨#[]⟩, .int .i64 0] from rfl]
  simp [wag, V8.list, Value.cells, HA, Instr.fill, Array.zipIdx]
theorem wpList_build_H {ops : Array Oper} {rest : List Oper} {o : Oper} {a : Act} {Q : Exit → Act → World → Prop} {w : World} (hgd : o.guard = none) (x0 x1 x2 : Operand) (ho : o.op = .build 31 #[(0, x0), (1, x1), (2, x2)])
    (v : V8) (r : ByteArray) (n : Int) (h0 : a.eval x0 = .agg (wag v)) (h1 : a.eval x1 = .string r) (h2 : a.eval x2 = .int .i64 n) (h : wpList Tryd.prog ops Q rest (a.put o.dst (.agg (HA v r n))) w) : wpList Tryd.prog ops Q (o :: rest) a w := by
  refine wpList_plain hgd fun _ hK => ?_
  unfold Oper.wp execOp
  simp only [ho, List.map_toArray, List.map_cons, List.map_nil, h0, h1, h2]
  rw [Sem.run_bind, run_build w 31 #[(0, .agg (wag v)), (1, .string r), (2, .int .i64 n)] (HA v r n) (built_H v r n)]
  exact hK _ _ h
theorem HA_all (v : V8) (r : ByteArray) (n : Int) : (HA v r n).all (·.oneCell') = true := all_oneCell_toArray (by
  intro x hx
  rcases List.mem_append.1 hx with hx | hx
  · rw [List.mem_map] at hx
    obtain ⟨y, _, rfl⟩ := hx
    rfl
  · simp at hx
    rcases hx with rfl | rfl <;> rfl)
theorem wpList_store_H {ops : Array Oper} {rest : List Oper} {o : Oper} {a : Act} {Q : Exit → Act → World → Prop} {w : World} (hgd : o.guard = none) (x y : Operand) (ho : o.op = .store 31 x y) (b : Nat) (hx : a.eval x = .pointer (some ⟨b, 0, none⟩))
    (v : V8) (r : ByteArray) (n : Int) (hy : a.eval y = .agg (HA v r n)) (old : Array Value) (t : TypeId) (hr : w.heap[b]? = some (.cells old t (0, 0))) (hs : old.size = 10)
    (h : ∀ w', Hid (w'.heap[b]? = some (.cells (HA v r n) t (0, 0))) → (∀ k, k ≠ b → w'.heap[k]? = w.heap[k]?) → (∀ {B : Nat} {w0 : World}, Below B w0 w → B ≤ b → Below B w0 w') → w'.heap.size = w.heap.size → wpList Tryd.prog ops Q rest (a.put o.dst undef) w') : wpList Tryd.prog ops Q (o :: rest) a w := by
  refine wpList_plain hgd fun _ hK => ?_
  have hX : (HA v r n).size = 10 := rfl
  unfold Oper.wp execOp
  simp only [ho, hx, hy, Instr.storeAt, Instr.sureAddr, Sem.run_bind, Sem.run_pure, Result.andThen_ok, run_storeVar_row w _ _ _ _ _ hr (show (Tryd.prog.info? 31).map (·.size) = some ((HA v r n)).size by rw [hX]; kernel_rfl) (by rw [hX, hs]) (HA_all v r n)]
  refine hK _ _ (h _ (Lib.hid (setRow_heap w b _ _ _ _ hr)) (fun k hk => setRow_other _ _ _ _ hk) (fun {B w0} hb hB => hb.trans ⟨rfl, rfl, rfl, by simp, fun k hk => setRow_other _ _ _ _ (by omega)⟩) (by simp))
theorem run_load_H {w : World} {b : Nat} {v : V8} {r : ByteArray} {n : Int} (hr : w.heap[b]? = some (.cells (HA v r n) 31 (0, 0))) :
    (loadVar 31 ⟨b, 0, none⟩).run Tryd.prog w = .ok (.agg (HA v r n)) w :=
  run_loadVar_mid w b 0 31 (v.list.map wv ++ [Value.string r, Value.int .i64 n]) _ (range_row hr) Tryd.underlying31 rfl (by show _ = some 10; kernel_rfl)
/-- What the loads of a hash's variable read. -/
def SH (b : Nat) (v : V8) (rest : ByteArray) (n : Int) (W : World) : Prop := W.rangeAt b 0 (v.list.map wv) ∧ W.cell? ⟨b, 8, none⟩ = some (.string rest) ∧ W.cell? ⟨b, 9, none⟩ = some (.int .i64 n)
theorem HAt.sh {b : Nat} {v : V8} {rest : ByteArray} {n : Int} {w : World} (h : HAt b v rest n w) : SH b v rest n w := ⟨h.range, h.cell8, h.cell9⟩
theorem rconst_calls (w : World) : Calls Tryd.prog 58 #[] w fun e w' => ∃ ak c, e = .returned (.slice (some ak) 64 c) ∧ KC w' ak ∧ Below w.heap.size w w' := by
  refine (cashbookref10_constants.calls 2000 _ w const_run).mono ?_
  rintro e w2 ⟨v1, rfl, hr, hb⟩
  obtain ⟨A, c, rfl, hlc, HC⟩ := Kd.R_reads hr
  have hl64 : (Sha.kT.map fun x => (x.toNat : Int)).length = 64 := rfl
  rw [hl64] at hlc HC ⊢
  have hA : ∃ ak, A = some ak := by
    obtain ⟨ak, he, _⟩ := Kd.at_int HC 0 (by omega) (by omega)
    exact ⟨ak, he⟩
  obtain ⟨ak, rfl⟩ := hA
  exact ⟨ak, c, rfl, HC, hb⟩
set_option maxHeartbeats 4000000 in
set_option maxRecDepth 100000 in
theorem rfeed_calls (v : V8) (rest : ByteArray) (n : Int) (text : ByteArray) (hr : rest.size ≤ 1048576) (ht : text.size ≤ 1048576) (hn0 : 0 ≤ n) (hn : n ≤ 1048576) (w : World) :
    Calls Tryd.prog 21 #[.agg (HA v rest n), .string text] w fun e w' => e = .returned (fedV v rest n text) ∧ Below w.heap.size w w' := by
  have hlt : (9223372036854775807 < rest.size + text.size) = False := eq_false (by omega)
  have hrt : (rest ++ text).size ≤ 4294967296 := by
    rw [ByteArray.size_append]; omega
  have hta : (rest ++ text).data.toList = rest.data.toList ++ text.data.toList := by rw [ByteArray.data_append, Array.toList_append]
  have hall := fun ak c W (hk : KC W ak) => rall_calls ak c v (rest ++ text) hrt W hk
  rw [hta] at hall
  have hfv : fedV v rest n text = .agg (HA (feedP v (rest.data.toList ++ text.data.toList)).1 ⟨(feedP v (rest.data.toList ++ text.data.toList)).2.toArray⟩ (n + text.size)) := rfl
  obtain ⟨r2, hr2⟩ : ∃ r2 : ByteArray, r2 = ⟨(feedP v (rest.data.toList ++ text.data.toList)).2.toArray⟩ := ⟨_, rfl⟩
  rw [← hr2] at hall hfv
  generalize (feedP v (rest.data.toList ++ text.data.toList)).1 = z at hall hfv
  replace hall := Lib.hid hall
  replace hfv := Lib.hid hfv
  clear hr2 hta hrt
  go_enter Tryd.func21, Tryd.ntmps21
  go_upto_region 1 with fail
  generalize hw1 : (w.alloc _).alloc _ = w1
  have HH : Hid (HAt w.heap.size v rest n w1) := by
    rw [← hw1]; refine Lib.hid ?_
    unfold HAt
    rw [Below.heap_alloc _ _ _ (by simp)]
    exact heap_alloc_last _ _
  have HR : Hid (w1.heap[w.heap.size + 1]? = some (.cells (HA z8 ⟨#[]⟩ 0) 31 (0, 0))) := by
    rw [← hw1]; exact Lib.hid (Sha.heap_at1 _ _ _)
  have HB : Hid (Below w.heap.size w w1) := by
    rw [← hw1]; exact Lib.hid (((Below.refl _ _).alloc (Nat.le_refl _) _).alloc (by simp) _)
  have HS : Hid (w.heap.size + 2 ≤ w1.heap.size) := by rw [← hw1]; exact Lib.hid (by simp)
  clear hw1
  go_cut [5, 6] from 7 to 17 (fun p q wx => ∃ g : Nat, p = .pointer (some ⟨g, 0, none⟩) ∧ q = .string r2 ∧ Hid (HAt w.heap.size v rest n wx) ∧ Hid (wx.heap[w.heap.size + 1]? = some (.cells (HA z8 ⟨#[]⟩ 0) 31 (0, 0))) ∧ Hid (RowU 29 g z.list wx) ∧ Hid (Below w.heap.size w wx) ∧ Hid (w.heap.size + 2 ≤ g))
  case first =>
    refine wp_region_held (S := SH w.heap.size v rest n) (by kernel_rfl) ?_
    change wpAnyH _ _ _ _ _ _ _ _ w1.drew
    replace HH : Hid (HAt w.heap.size v rest n w1.drew) := HH
    replace HR : Hid (w1.drew.heap[w.heap.size + 1]? = _) := HR
    replace HB := Lib.hid HB.out.drew
    replace HS : Hid (w.heap.size + 2 ≤ w1.drew.heap.size) := HS
    generalize w1.drew = wd at HH HR HB HS ⊢
    have hS := HH.out.sh
    refine wpAnyH_take (i := 1) (v := ?_) rfl (by kernel_rfl) (by kernel_rfl) (by kernel_rfl) (fun _ _ _ h => h) (Or.inl ⟨by rfl, ?_⟩) hS ?_
    rotate_left
    · intro v _; go_simp; first | done | with_reducible rfl
    rotate_left
    simp only [List.getElem_toArray, List.getElem_cons_succ, List.getElem_cons_zero, Act.put, List.setIfInBounds_toArray, List.set_cons_zero, List.set_cons_succ]
    refine wpAnyH_take (i := 2) (v := _) rfl (by kernel_rfl) (by kernel_rfl) (by kernel_rfl) (fun _ _ _ h => h) (yieldsIf_w8 (by rfl) (.tmp 9) rfl w.heap.size 0 rfl v (fun _ h => h.1)) hS ?_
    simp only [List.getElem_toArray, List.getElem_cons_succ, List.getElem_cons_zero, Act.put, List.setIfInBounds_toArray, List.set_cons_zero, List.set_cons_succ]
    refine wpAnyH_take (i := 3) (v := ?_) rfl (by kernel_rfl) (by kernel_rfl) (by kernel_rfl) (fun _ _ _ h => h) (Or.inl ⟨by rfl, ?_⟩) hS ?_
    rotate_left
    · intro v _; go_simp; first | done | with_reducible rfl
    rotate_left
    simp only [List.getElem_toArray, List.getElem_cons_succ, List.getElem_cons_zero, Act.put, List.setIfInBounds_toArray, List.set_cons_zero, List.set_cons_succ]
    refine wpAnyH_take (i := 4) (v := _) rfl (by kernel_rfl) (by kernel_rfl) (by kernel_rfl) (fun _ _ _ h => h) (yieldsIf_cell (by rfl) 9 (.tmp 11) rfl ⟨w.heap.size, 8, none⟩ rfl (.string rest) agg9 (fun _ h => h.2.1)) hS ?_
    simp only [List.getElem_toArray, List.getElem_cons_succ, List.getElem_cons_zero, Act.put, List.setIfInBounds_toArray, List.set_cons_zero, List.set_cons_succ]
    refine wpAnyH_take (i := 5) (v := ?_) rfl (by kernel_rfl) (by kernel_rfl) (by kernel_rfl) (fun _ _ _ h => h) (Or.inl ⟨by rfl, ?_⟩) hS ?_
    rotate_left
    · intro v _; go_simp; first | done | with_reducible rfl
    rotate_left
    simp only [List.getElem_toArray, List.getElem_cons_succ, List.getElem_cons_zero, Act.put, List.setIfInBounds_toArray, List.set_cons_zero, List.set_cons_succ]
    refine wpAnyH_take (i := 6) (v := ?_) rfl (by kernel_rfl) (by kernel_rfl) (by kernel_rfl) (fun _ _ _ h => h) (Or.inl ⟨by rfl, ?_⟩) hS ?_
    rotate_left
    · intro v _; go_simp; first | done | with_reducible rfl
    rotate_left
    simp only [List.getElem_toArray, List.getElem_cons_succ, List.getElem_cons_zero, Act.put, List.setIfInBounds_toArray, List.set_cons_zero, List.set_cons_succ]
    refine wpAnyH_all (rs := [0, 11]) (by kernel_rfl) (by simp) ?_
    intro i hi
    simp only [List.mem_cons, List.not_mem_nil, or_false] at hi
    rcases hi with rfl | rfl
    · skip
      refine wpOp_wp rfl (by rfl) ?_
      go_simp
      refine (rconst_calls wd).mono ?_
      rintro e we ⟨ak, c, rfl, hk, hb⟩
      have HK := Shut.mk hk
      clear hk
      have hb' := hb
      replace HH := Lib.hid (HH.out.below hb')
      replace HR := Lib.hid (blk_below HR.out hb')
      replace HB := Lib.hid (HB.out.trans (Below.mono hb' HB.out.size))
      replace HS := Lib.hid (Nat.le_trans HS.out (Below.size hb'))
      refine ⟨HH.out.sh, ?_⟩
      clear hb hb'
      have hS := HH.out.sh
      try simp only [List.getElem_toArray, List.getElem_cons_succ, List.getElem_cons_zero, Act.put, List.setIfInBounds_toArray, List.set_cons_zero, List.set_cons_succ]
      refine wpAnyH_all (rs := [7, 11]) (by kernel_rfl) (by simp) ?_
      intro i hi
      simp only [List.mem_cons, List.not_mem_nil, or_false] at hi
      rcases hi with rfl | rfl
      · skip
        refine wpOp_wp rfl (by rfl) ?_
        go_simp
        refine (hall.out ak c we HK.out).mono ?_
        rintro e wf ⟨rfl, hb⟩
        have hb' := hb
        replace HH := Lib.hid (HH.out.below hb')
        replace HR := Lib.hid (blk_below HR.out hb')
        replace HB := Lib.hid (HB.out.trans (Below.mono hb' HB.out.size))
        replace HS := Lib.hid (Nat.le_trans HS.out (Below.size hb'))
        refine ⟨HH.out.sh, ?_⟩
        clear hb hb'
        have hS := HH.out.sh
        try simp only [List.getElem_toArray, List.getElem_cons_succ, List.getElem_cons_zero, Act.put, List.setIfInBounds_toArray, List.set_cons_zero, List.set_cons_succ]
        refine wpAnyH_take (i := 8) (v := ?_) rfl (by kernel_rfl) (by kernel_rfl) (by kernel_rfl) (fun _ _ _ h => h) (Or.inl ⟨by rfl, ?_⟩) hS ?_
        rotate_left
        · intro v _; go_simp; first | done | with_reducible rfl
        rotate_left
        simp only [List.getElem_toArray, List.getElem_cons_succ, List.getElem_cons_zero, Act.put, List.setIfInBounds_toArray, List.set_cons_zero, List.set_cons_succ]
        refine wpAnyH_take (i := 9) (v := ?_) rfl (by kernel_rfl) (by kernel_rfl) (by kernel_rfl) (fun _ _ _ h => h) (Or.inl ⟨by rfl, ?_⟩) hS ?_
        rotate_left
        · intro v _; go_simp; first | done | with_reducible rfl
        rotate_left
        simp only [List.getElem_toArray, List.getElem_cons_succ, List.getElem_cons_zero, Act.put, List.setIfInBounds_toArray, List.set_cons_zero, List.set_cons_succ]
        refine wpAnyH_take (i := 10) (v := ?_) rfl (by kernel_rfl) (by kernel_rfl) (by kernel_rfl) (fun _ _ _ h => h) (Or.inl ⟨by rfl, ?_⟩) hS ?_
        rotate_left
        · intro v _; go_simp; first | done | with_reducible rfl
        rotate_left
        simp only [List.getElem_toArray, List.getElem_cons_succ, List.getElem_cons_zero, Act.put, List.setIfInBounds_toArray, List.set_cons_zero, List.set_cons_succ]
        refine wpAnyH_all (rs := [11]) (by kernel_rfl) (by simp) ?_
        intro i hi
        simp only [List.mem_cons, List.not_mem_nil, or_false] at hi
        subst hi
        refine wpOp_wp rfl (by rfl) ?_
        go_simp
        have HG := HS
        generalize hwn : World.alloc wf _ = wg
        have hb : Below wf.heap.size wf wg := by rw [← hwn]; exact (Below.refl _ _).alloc (Nat.le_refl _) _
        have HZ : Hid (RowU 29 wf.heap.size z8.list wg) := by rw [← hwn]; exact Lib.hid (heap_alloc_last _ _)
        generalize wf.heap.size = g at HZ HG ⊢
        have hb' := hb
        replace HH := Lib.hid (HH.out.below hb')
        replace HR := Lib.hid (blk_below HR.out hb')
        replace HB := Lib.hid (HB.out.trans (Below.mono hb' HB.out.size))
        replace HS := Lib.hid (Nat.le_trans HS.out (Below.size hb'))
        refine ⟨HH.out.sh, ?_⟩
        clear hb hb'
        have hS := HH.out.sh
        try simp only [List.getElem_toArray, List.getElem_cons_succ, List.getElem_cons_zero, Act.put, List.setIfInBounds_toArray, List.set_cons_zero, List.set_cons_succ]
        refine wpAnyH_all (rs := [12]) (by kernel_rfl) (by simp) ?_
        intro i hi
        simp only [List.mem_cons, List.not_mem_nil, or_false] at hi
        subst hi
        refine wpOp_wp rfl (by rfl) ?_
        refine wp_store_w8 (.tmp 5) (.tmp 16) rfl g rfl z rfl _ _ HZ.out rfl ?_
        intro w5 h9 hk9 hB9 hs9
        have hg := HG.out
        have HH5 := Lib.hid (show HAt w.heap.size v rest n w5 from (hk9 w.heap.size (by omega)).trans HH.out)
        have HR5 := Lib.hid ((hk9 (w.heap.size + 1) (by omega)).trans HR.out)
        have HB5 := Lib.hid (hB9 HB.out (by omega))
        clear hS
        have hS : SH w.heap.size v rest n w5 := HH5.out.sh
        refine ⟨hS, ?_⟩
        clear hk9 hB9 hs9 HH HR HB HZ HG
        try simp only [List.getElem_toArray, List.getElem_cons_succ, List.getElem_cons_zero, Act.put, List.setIfInBounds_toArray, List.set_cons_zero, List.set_cons_succ]
        refine wpAnyH_take (i := 13) (v := ?_) rfl (by kernel_rfl) (by kernel_rfl) (by kernel_rfl) (fun _ _ _ h => h) (Or.inl ⟨by rfl, ?_⟩) hS ?_
        rotate_left
        · intro v _; go_simp; first | done | with_reducible rfl
        rotate_left
        simp only [List.getElem_toArray, List.getElem_cons_succ, List.getElem_cons_zero, Act.put, List.setIfInBounds_toArray, List.set_cons_zero, List.set_cons_succ]
        refine wpAnyH_done (by kernel_rfl) ?_ _
        clear hS
        go_wp2_with fail
        go_meet
        exact ⟨g, rfl, rfl, HH5, HR5, h9, HB5, Lib.hid hg⟩
      · skip
        refine wpOp_wp rfl (by rfl) ?_
        go_simp
        have HG := HS
        generalize hwn : World.alloc we _ = wf
        have hb : Below we.heap.size we wf := by rw [← hwn]; exact (Below.refl _ _).alloc (Nat.le_refl _) _
        have HZ : Hid (RowU 29 we.heap.size z8.list wf) := by rw [← hwn]; exact Lib.hid (heap_alloc_last _ _)
        generalize we.heap.size = g at HZ HG ⊢
        have hb' := hb
        replace HH := Lib.hid (HH.out.below hb')
        replace HR := Lib.hid (blk_below HR.out hb')
        replace HB := Lib.hid (HB.out.trans (Below.mono hb' HB.out.size))
        replace HS := Lib.hid (Nat.le_trans HS.out (Below.size hb'))
        replace HK := Shut.mk (HK.out.below hb')
        refine ⟨HH.out.sh, ?_⟩
        clear hb hb'
        have hS := HH.out.sh
        try simp only [List.getElem_toArray, List.getElem_cons_succ, List.getElem_cons_zero, Act.put, List.setIfInBounds_toArray, List.set_cons_zero, List.set_cons_succ]
        refine wpAnyH_all (rs := [7]) (by kernel_rfl) (by simp) ?_
        intro i hi
        simp only [List.mem_cons, List.not_mem_nil, or_false] at hi
        subst hi
        refine wpOp_wp rfl (by rfl) ?_
        go_simp
        refine (hall.out ak c wf HK.out).mono ?_
        rintro e wg ⟨rfl, hb⟩
        have hb' := hb
        replace HH := Lib.hid (HH.out.below hb')
        replace HR := Lib.hid (blk_below HR.out hb')
        replace HB := Lib.hid (HB.out.trans (Below.mono hb' HB.out.size))
        replace HS := Lib.hid (Nat.le_trans HS.out (Below.size hb'))
        replace HZ := Lib.hid (HZ.out.below hb')
        refine ⟨HH.out.sh, ?_⟩
        clear hb hb'
        have hS := HH.out.sh
        try simp only [List.getElem_toArray, List.getElem_cons_succ, List.getElem_cons_zero, Act.put, List.setIfInBounds_toArray, List.set_cons_zero, List.set_cons_succ]
        refine wpAnyH_take (i := 8) (v := ?_) rfl (by kernel_rfl) (by kernel_rfl) (by kernel_rfl) (fun _ _ _ h => h) (Or.inl ⟨by rfl, ?_⟩) hS ?_
        rotate_left
        · intro v _; go_simp; first | done | with_reducible rfl
        rotate_left
        simp only [List.getElem_toArray, List.getElem_cons_succ, List.getElem_cons_zero, Act.put, List.setIfInBounds_toArray, List.set_cons_zero, List.set_cons_succ]
        refine wpAnyH_take (i := 9) (v := ?_) rfl (by kernel_rfl) (by kernel_rfl) (by kernel_rfl) (fun _ _ _ h => h) (Or.inl ⟨by rfl, ?_⟩) hS ?_
        rotate_left
        · intro v _; go_simp; first | done | with_reducible rfl
        rotate_left
        simp only [List.getElem_toArray, List.getElem_cons_succ, List.getElem_cons_zero, Act.put, List.setIfInBounds_toArray, List.set_cons_zero, List.set_cons_succ]
        refine wpAnyH_take (i := 10) (v := ?_) rfl (by kernel_rfl) (by kernel_rfl) (by kernel_rfl) (fun _ _ _ h => h) (Or.inl ⟨by rfl, ?_⟩) hS ?_
        rotate_left
        · intro v _; go_simp; first | done | with_reducible rfl
        rotate_left
        simp only [List.getElem_toArray, List.getElem_cons_succ, List.getElem_cons_zero, Act.put, List.setIfInBounds_toArray, List.set_cons_zero, List.set_cons_succ]
        refine wpAnyH_all (rs := [12]) (by kernel_rfl) (by simp) ?_
        intro i hi
        simp only [List.mem_cons, List.not_mem_nil, or_false] at hi
        subst hi
        refine wpOp_wp rfl (by rfl) ?_
        refine wp_store_w8 (.tmp 5) (.tmp 16) rfl g rfl z rfl _ _ HZ.out rfl ?_
        intro w5 h9 hk9 hB9 hs9
        have hg := HG.out
        have HH5 := Lib.hid (show HAt w.heap.size v rest n w5 from (hk9 w.heap.size (by omega)).trans HH.out)
        have HR5 := Lib.hid ((hk9 (w.heap.size + 1) (by omega)).trans HR.out)
        have HB5 := Lib.hid (hB9 HB.out (by omega))
        clear hS
        have hS : SH w.heap.size v rest n w5 := HH5.out.sh
        refine ⟨hS, ?_⟩
        clear hk9 hB9 hs9 HH HR HB HZ HG
        try simp only [List.getElem_toArray, List.getElem_cons_succ, List.getElem_cons_zero, Act.put, List.setIfInBounds_toArray, List.set_cons_zero, List.set_cons_succ]
        refine wpAnyH_take (i := 13) (v := ?_) rfl (by kernel_rfl) (by kernel_rfl) (by kernel_rfl) (fun _ _ _ h => h) (Or.inl ⟨by rfl, ?_⟩) hS ?_
        rotate_left
        · intro v _; go_simp; first | done | with_reducible rfl
        rotate_left
        simp only [List.getElem_toArray, List.getElem_cons_succ, List.getElem_cons_zero, Act.put, List.setIfInBounds_toArray, List.set_cons_zero, List.set_cons_succ]
        refine wpAnyH_done (by kernel_rfl) ?_ _
        clear hS
        go_wp2_with fail
        go_meet
        exact ⟨g, rfl, rfl, HH5, HR5, h9, HB5, Lib.hid hg⟩
    · skip
      refine wpOp_wp rfl (by rfl) ?_
      go_simp
      have HG := HS
      generalize hwn : World.alloc wd _ = we
      have hb : Below wd.heap.size wd we := by rw [← hwn]; exact (Below.refl _ _).alloc (Nat.le_refl _) _
      have HZ : Hid (RowU 29 wd.heap.size z8.list we) := by rw [← hwn]; exact Lib.hid (heap_alloc_last _ _)
      generalize wd.heap.size = g at HZ HG ⊢
      have hb' := hb
      replace HH := Lib.hid (HH.out.below hb')
      replace HR := Lib.hid (blk_below HR.out hb')
      replace HB := Lib.hid (HB.out.trans (Below.mono hb' HB.out.size))
      replace HS := Lib.hid (Nat.le_trans HS.out (Below.size hb'))
      refine ⟨HH.out.sh, ?_⟩
      clear hb hb'
      have hS := HH.out.sh
      try simp only [List.getElem_toArray, List.getElem_cons_succ, List.getElem_cons_zero, Act.put, List.setIfInBounds_toArray, List.set_cons_zero, List.set_cons_succ]
      refine wpAnyH_all (rs := [0]) (by kernel_rfl) (by simp) ?_
      intro i hi
      simp only [List.mem_cons, List.not_mem_nil, or_false] at hi
      subst hi
      refine wpOp_wp rfl (by rfl) ?_
      go_simp
      refine (rconst_calls we).mono ?_
      rintro e wf ⟨ak, c, rfl, hk, hb⟩
      have HK := Shut.mk hk
      clear hk
      have hb' := hb
      replace HH := Lib.hid (HH.out.below hb')
      replace HR := Lib.hid (blk_below HR.out hb')
      replace HB := Lib.hid (HB.out.trans (Below.mono hb' HB.out.size))
      replace HS := Lib.hid (Nat.le_trans HS.out (Below.size hb'))
      replace HZ := Lib.hid (HZ.out.below hb')
      refine ⟨HH.out.sh, ?_⟩
      clear hb hb'
      have hS := HH.out.sh
      try simp only [List.getElem_toArray, List.getElem_cons_succ, List.getElem_cons_zero, Act.put, List.setIfInBounds_toArray, List.set_cons_zero, List.set_cons_succ]
      refine wpAnyH_all (rs := [7]) (by kernel_rfl) (by simp) ?_
      intro i hi
      simp only [List.mem_cons, List.not_mem_nil, or_false] at hi
      subst hi
      refine wpOp_wp rfl (by rfl) ?_
      go_simp
      refine (hall.out ak c wf HK.out).mono ?_
      rintro e wg ⟨rfl, hb⟩
      have hb' := hb
      replace HH := Lib.hid (HH.out.below hb')
      replace HR := Lib.hid (blk_below HR.out hb')
      replace HB := Lib.hid (HB.out.trans (Below.mono hb' HB.out.size))
      replace HS := Lib.hid (Nat.le_trans HS.out (Below.size hb'))
      replace HZ := Lib.hid (HZ.out.below hb')
      refine ⟨HH.out.sh, ?_⟩
      clear hb hb'
      have hS := HH.out.sh
      try simp only [List.getElem_toArray, List.getElem_cons_succ, List.getElem_cons_zero, Act.put, List.setIfInBounds_toArray, List.set_cons_zero, List.set_cons_succ]
      refine wpAnyH_take (i := 8) (v := ?_) rfl (by kernel_rfl) (by kernel_rfl) (by kernel_rfl) (fun _ _ _ h => h) (Or.inl ⟨by rfl, ?_⟩) hS ?_
      rotate_left
      · intro v _; go_simp; first | done | with_reducible rfl
      rotate_left
      simp only [List.getElem_toArray, List.getElem_cons_succ, List.getElem_cons_zero, Act.put, List.setIfInBounds_toArray, List.set_cons_zero, List.set_cons_succ]
      refine wpAnyH_take (i := 9) (v := ?_) rfl (by kernel_rfl) (by kernel_rfl) (by kernel_rfl) (fun _ _ _ h => h) (Or.inl ⟨by rfl, ?_⟩) hS ?_
      rotate_left
      · intro v _; go_simp; first | done | with_reducible rfl
      rotate_left
      simp only [List.getElem_toArray, List.getElem_cons_succ, List.getElem_cons_zero, Act.put, List.setIfInBounds_toArray, List.set_cons_zero, List.set_cons_succ]
      refine wpAnyH_take (i := 10) (v := ?_) rfl (by kernel_rfl) (by kernel_rfl) (by kernel_rfl) (fun _ _ _ h => h) (Or.inl ⟨by rfl, ?_⟩) hS ?_
      rotate_left
      · intro v _; go_simp; first | done | with_reducible rfl
      rotate_left
      simp only [List.getElem_toArray, List.getElem_cons_succ, List.getElem_cons_zero, Act.put, List.setIfInBounds_toArray, List.set_cons_zero, List.set_cons_succ]
      refine wpAnyH_all (rs := [12]) (by kernel_rfl) (by simp) ?_
      intro i hi
      simp only [List.mem_cons, List.not_mem_nil, or_false] at hi
      subst hi
      refine wpOp_wp rfl (by rfl) ?_
      refine wp_store_w8 (.tmp 5) (.tmp 16) rfl g rfl z rfl _ _ HZ.out rfl ?_
      intro w5 h9 hk9 hB9 hs9
      have hg := HG.out
      have HH5 := Lib.hid (show HAt w.heap.size v rest n w5 from (hk9 w.heap.size (by omega)).trans HH.out)
      have HR5 := Lib.hid ((hk9 (w.heap.size + 1) (by omega)).trans HR.out)
      have HB5 := Lib.hid (hB9 HB.out (by omega))
      clear hS
      have hS : SH w.heap.size v rest n w5 := HH5.out.sh
      refine ⟨hS, ?_⟩
      clear hk9 hB9 hs9 HH HR HB HZ HG
      try simp only [List.getElem_toArray, List.getElem_cons_succ, List.getElem_cons_zero, Act.put, List.setIfInBounds_toArray, List.set_cons_zero, List.set_cons_succ]
      refine wpAnyH_take (i := 13) (v := ?_) rfl (by kernel_rfl) (by kernel_rfl) (by kernel_rfl) (fun _ _ _ h => h) (Or.inl ⟨by rfl, ?_⟩) hS ?_
      rotate_left
      · intro v _; go_simp; first | done | with_reducible rfl
      rotate_left
      simp only [List.getElem_toArray, List.getElem_cons_succ, List.getElem_cons_zero, Act.put, List.setIfInBounds_toArray, List.set_cons_zero, List.set_cons_succ]
      refine wpAnyH_done (by kernel_rfl) ?_ _
      clear hS
      go_wp2_with fail
      go_meet
      exact ⟨g, rfl, rfl, HH5, HR5, h9, HB5, Lib.hid hg⟩
  case rest =>
    obtain ⟨g, rfl, rfl, HH, HR, HZ, HB, HG⟩ := hcut
    rename_i wc
    have c9 := HH.out.cell9
    have htx : (0 : Int) ≤ (text.size : Int) := by omega
    go_wp2_with (first | (refine wpList_load_w8 (o := ⟨some 18, _, _, _, _, _⟩) rfl (.tmp 5) rfl g 0 rfl z (RowU.range HZ.out) ?_) | (refine wpList_build_H (o := ⟨some 25, _, _, _, _, _⟩) rfl (.tmp 18) (.tmp 19) (.tmp 24) rfl z r2 (n + text.size) rfl rfl rfl ?_) | (refine wpList_store_H rfl (.tmp 4) (.tmp 25) rfl (w.heap.size + 1) rfl z r2 (n + text.size) rfl _ _ HR.out rfl ?_; intro w9 h9 hk9 hB9 hs9))
    refine bodyPost_ret (v := .agg (HA z r2 (n + text.size))) ?_ rfl ⟨by rw [hfv.out], hB9 HB.out (by omega)⟩
    simp [results, Tryd.results21, asAddr, run_load_H h9.out, Act.put]
end Go.Proofs.YtldpnmebjnkjeaaDoor.Ref10
namespace Go.Proofs.YtldpnmebjnkjeaaDoor.Ref10
open Go.RowKit Go.Proofs.YtldpnmebjnkjeaaDoorW.PrintWords Go.Proofs.YtldpnmebjnkjeaaDoor.PH1 Go.Proofs.YtldpnmebjnkjeaaDoor Go.Proofs.YtldpnmebjnkjeaaDoorW.PrintLast Go.Proofs.YtldpnmebjnkjeaaDoorW.PrintMore
open Go.Proofs.YtldpnmebjnkjeaaDoor.Sha (V8 wv RowU RowX takeP feedP tailL tailL_len digL digL_len sumL sumL_len sumL_all endP endP_len z32_len hashV fedV)
set_option linter.unusedVariables false
set_option linter.unusedSimpArgs false

set_option maxHeartbeats 8000000 in
set_option maxRecDepth 100000 in
theorem rend_calls (v : V8) (rest : ByteArray) (n : Nat) (hr : rest.size ≤ 1048576) (hn : n ≤ 1048576) (w : World) :
    Calls Tryd.prog 20 #[.agg (HA v rest n)] w fun e w' => e = .returned (.agg (Lib.byteCells (endP v rest.data.toList n)).toArray) ∧ Below w.heap.size w w' := by
  have htc := fun W => rtail_calls n hn W
  obtain ⟨T, hT⟩ : ∃ T : ByteArray, T = ⟨(tailL n).toArray⟩ := ⟨_, rfl⟩
  rw [← hT] at htc
  have hTs : T.size < 100 := by
    rw [hT]
    show (tailL n).toArray.size < 100
    rw [List.size_toArray, tailL_len]; omega
  have hrt : (rest ++ T).size ≤ 4294967296 := by
    rw [ByteArray.size_append]; omega
  have hta : (rest ++ T).data.toList = rest.data.toList ++ tailL n := by rw [ByteArray.data_append, Array.toList_append, hT]
  have hlt : (9223372036854775807 < rest.size + T.size) = False := eq_false (by omega)
  have hall := fun ak c W (hk : KC W ak) => rall_calls ak c v (rest ++ T) hrt W hk
  rw [hta] at hall
  have hE : endP v rest.data.toList n = digL (feedP v (rest.data.toList ++ tailL n)).1 := rfl
  generalize (feedP v (rest.data.toList ++ tailL n)).2 = r9 at hall
  obtain ⟨r2, hr2⟩ : ∃ r2 : ByteArray, r2 = ⟨r9.toArray⟩ := ⟨_, rfl⟩
  rw [← hr2] at hall
  generalize (feedP v (rest.data.toList ++ tailL n)).1 = z at hall hE
  replace hall := Lib.hid hall
  replace htc := Lib.hid htc
  replace hE := Lib.hid hE
  clear hr2 hta hrt hT
  go_enter Tryd.func20, Tryd.ntmps20
  go_upto_region 1 with fail
  generalize hw1 : (w.alloc _).alloc _ = w1
  have HH : Hid (HAt w.heap.size v rest n w1) := by
    rw [← hw1]; refine Lib.hid ?_
    unfold HAt
    rw [Below.heap_alloc _ _ _ (by simp)]
    exact heap_alloc_last _ _
  have HR : Hid (w1.heap[w.heap.size + 1]? = some (.cells (Lib.byteCells (List.replicate 32 0)).toArray 24 (0, 0))) := by
    rw [← hw1]; exact Lib.hid (Sha.heap_at1 _ _ _)
  have HB : Hid (Below w.heap.size w w1) := by
    rw [← hw1]; exact Lib.hid (((Below.refl _ _).alloc (Nat.le_refl _) _).alloc (by simp) _)
  have HS : Hid (w.heap.size + 2 ≤ w1.heap.size) := by rw [← hw1]; exact Lib.hid (by simp)
  clear hw1
  go_cut [3] from 5 to 17 (fun p wx => ∃ g : Nat, p = .pointer (some ⟨g, 0, none⟩) ∧ Hid (wx.heap[w.heap.size + 1]? = some (.cells (Lib.byteCells (List.replicate 32 0)).toArray 24 (0, 0))) ∧ Hid (RowU 29 g z.list wx) ∧ Hid (Below w.heap.size w wx) ∧ Hid (w.heap.size + 2 ≤ g))
  case first =>
    refine wp_region_held (S := SH w.heap.size v rest n) (by kernel_rfl) ?_
    change wpAnyH _ _ _ _ _ _ _ _ w1.drew
    replace HH : Hid (HAt w.heap.size v rest n w1.drew) := HH
    replace HR : Hid (w1.drew.heap[w.heap.size + 1]? = _) := HR
    replace HB := Lib.hid HB.out.drew
    replace HS : Hid (w.heap.size + 2 ≤ w1.drew.heap.size) := HS
    generalize w1.drew = wd at HH HR HB HS ⊢
    have hS := HH.out.sh
    refine wpAnyH_take (i := 1) (v := ?_) rfl (by kernel_rfl) (by kernel_rfl) (by kernel_rfl) (fun _ _ _ h => h) (Or.inl ⟨by rfl, ?_⟩) hS ?_
    rotate_left
    · intro v _; go_simp; first | done | with_reducible rfl
    rotate_left
    simp only [List.getElem_toArray, List.getElem_cons_succ, List.getElem_cons_zero, Act.put, List.setIfInBounds_toArray, List.set_cons_zero, List.set_cons_succ]
    refine wpAnyH_take (i := 2) (v := _) rfl (by kernel_rfl) (by kernel_rfl) (by kernel_rfl) (fun _ _ _ h => h) (yieldsIf_w8 (by rfl) (.tmp 7) rfl w.heap.size 0 rfl v (fun _ h => h.1)) hS ?_
    simp only [List.getElem_toArray, List.getElem_cons_succ, List.getElem_cons_zero, Act.put, List.setIfInBounds_toArray, List.set_cons_zero, List.set_cons_succ]
    refine wpAnyH_take (i := 3) (v := ?_) rfl (by kernel_rfl) (by kernel_rfl) (by kernel_rfl) (fun _ _ _ h => h) (Or.inl ⟨by rfl, ?_⟩) hS ?_
    rotate_left
    · intro v _; go_simp; first | done | with_reducible rfl
    rotate_left
    simp only [List.getElem_toArray, List.getElem_cons_succ, List.getElem_cons_zero, Act.put, List.setIfInBounds_toArray, List.set_cons_zero, List.set_cons_succ]
    refine wpAnyH_take (i := 4) (v := _) rfl (by kernel_rfl) (by kernel_rfl) (by kernel_rfl) (fun _ _ _ h => h) (yieldsIf_cell (by rfl) 9 (.tmp 9) rfl ⟨w.heap.size, 8, none⟩ rfl (.string rest) agg9 (fun _ h => h.2.1)) hS ?_
    simp only [List.getElem_toArray, List.getElem_cons_succ, List.getElem_cons_zero, Act.put, List.setIfInBounds_toArray, List.set_cons_zero, List.set_cons_succ]
    refine wpAnyH_take (i := 5) (v := ?_) rfl (by kernel_rfl) (by kernel_rfl) (by kernel_rfl) (fun _ _ _ h => h) (Or.inl ⟨by rfl, ?_⟩) hS ?_
    rotate_left
    · intro v _; go_simp; first | done | with_reducible rfl
    rotate_left
    simp only [List.getElem_toArray, List.getElem_cons_succ, List.getElem_cons_zero, Act.put, List.setIfInBounds_toArray, List.set_cons_zero, List.set_cons_succ]
    refine wpAnyH_take (i := 6) (v := _) rfl (by kernel_rfl) (by kernel_rfl) (by kernel_rfl) (fun _ _ _ h => h) (yieldsIf_cell (by rfl) 3 (.tmp 11) rfl ⟨w.heap.size, 9, none⟩ rfl (.int .i64 n) agg3 (fun _ h => h.2.2)) hS ?_
    simp only [List.getElem_toArray, List.getElem_cons_succ, List.getElem_cons_zero, Act.put, List.setIfInBounds_toArray, List.set_cons_zero, List.set_cons_succ]
    refine wpAnyH_all (rs := [0, 13]) (by kernel_rfl) (by simp) ?_
    intro i hi
    simp only [List.mem_cons, List.not_mem_nil, or_false] at hi
    rcases hi with rfl | rfl
    · skip
      refine wpOp_wp rfl (by rfl) ?_
      go_simp
      refine (rconst_calls wd).mono ?_
      rintro e we ⟨ak, c, rfl, hk, hb⟩
      have HK := Shut.mk hk
      clear hk
      have hb' := hb
      replace HH := Lib.hid (HH.out.below hb')
      replace HR := Lib.hid (blk_below HR.out hb')
      replace HB := Lib.hid (HB.out.trans (Below.mono hb' HB.out.size))
      replace HS := Lib.hid (Nat.le_trans HS.out (Below.size hb'))
      refine ⟨HH.out.sh, ?_⟩
      clear hb hb'
      have hS := HH.out.sh
      try simp only [List.getElem_toArray, List.getElem_cons_succ, List.getElem_cons_zero, Act.put, List.setIfInBounds_toArray, List.set_cons_zero, List.set_cons_succ]
      refine wpAnyH_all (rs := [7, 13]) (by kernel_rfl) (by simp) ?_
      intro i hi
      simp only [List.mem_cons, List.not_mem_nil, or_false] at hi
      rcases hi with rfl | rfl
      · skip
        refine wpOp_wp rfl (by rfl) ?_
        go_simp
        refine (htc.out we).mono ?_
        rintro e wf ⟨rfl, hb⟩
        have hb' := hb
        replace HH := Lib.hid (HH.out.below hb')
        replace HR := Lib.hid (blk_below HR.out hb')
        replace HB := Lib.hid (HB.out.trans (Below.mono hb' HB.out.size))
        replace HS := Lib.hid (Nat.le_trans HS.out (Below.size hb'))
        replace HK := Shut.mk (HK.out.below hb')
        refine ⟨HH.out.sh, ?_⟩
        clear hb hb'
        have hS := HH.out.sh
        try simp only [List.getElem_toArray, List.getElem_cons_succ, List.getElem_cons_zero, Act.put, List.setIfInBounds_toArray, List.set_cons_zero, List.set_cons_succ]
        refine wpAnyH_take (i := 8) (v := ?_) rfl (by kernel_rfl) (by kernel_rfl) (by kernel_rfl) (fun _ _ _ h => h) (Or.inl ⟨by rfl, ?_⟩) hS ?_
        rotate_left
        · intro v _; go_simp; first | done | with_reducible rfl
        rotate_left
        simp only [List.getElem_toArray, List.getElem_cons_succ, List.getElem_cons_zero, Act.put, List.setIfInBounds_toArray, List.set_cons_zero, List.set_cons_succ]
        refine wpAnyH_all (rs := [9, 13]) (by kernel_rfl) (by simp) ?_
        intro i hi
        simp only [List.mem_cons, List.not_mem_nil, or_false] at hi
        rcases hi with rfl | rfl
        · skip
          refine wpOp_wp rfl (by rfl) ?_
          go_simp
          refine (hall.out ak c wf HK.out).mono ?_
          rintro e wg ⟨rfl, hb⟩
          have hb' := hb
          replace HH := Lib.hid (HH.out.below hb')
          replace HR := Lib.hid (blk_below HR.out hb')
          replace HB := Lib.hid (HB.out.trans (Below.mono hb' HB.out.size))
          replace HS := Lib.hid (Nat.le_trans HS.out (Below.size hb'))
          refine ⟨HH.out.sh, ?_⟩
          clear hb hb'
          have hS := HH.out.sh
          try simp only [List.getElem_toArray, List.getElem_cons_succ, List.getElem_cons_zero, Act.put, List.setIfInBounds_toArray, List.set_cons_zero, List.set_cons_succ]
          refine wpAnyH_take (i := 10) (v := ?_) rfl (by kernel_rfl) (by kernel_rfl) (by kernel_rfl) (fun _ _ _ h => h) (Or.inl ⟨by rfl, ?_⟩) hS ?_
          rotate_left
          · intro v _; go_simp; first | done | with_reducible rfl
          rotate_left
          simp only [List.getElem_toArray, List.getElem_cons_succ, List.getElem_cons_zero, Act.put, List.setIfInBounds_toArray, List.set_cons_zero, List.set_cons_succ]
          refine wpAnyH_take (i := 11) (v := ?_) rfl (by kernel_rfl) (by kernel_rfl) (by kernel_rfl) (fun _ _ _ h => h) (Or.inl ⟨by rfl, ?_⟩) hS ?_
          rotate_left
          · intro v _; go_simp; first | done | with_reducible rfl
          rotate_left
          simp only [List.getElem_toArray, List.getElem_cons_succ, List.getElem_cons_zero, Act.put, List.setIfInBounds_toArray, List.set_cons_zero, List.set_cons_succ]
          refine wpAnyH_take (i := 12) (v := ?_) rfl (by kernel_rfl) (by kernel_rfl) (by kernel_rfl) (fun _ _ _ h => h) (Or.inl ⟨by rfl, ?_⟩) hS ?_
          rotate_left
          · intro v _; go_simp; first | done | with_reducible rfl
          rotate_left
          simp only [List.getElem_toArray, List.getElem_cons_succ, List.getElem_cons_zero, Act.put, List.setIfInBounds_toArray, List.set_cons_zero, List.set_cons_succ]
          refine wpAnyH_all (rs := [13]) (by kernel_rfl) (by simp) ?_
          intro i hi
          simp only [List.mem_cons, List.not_mem_nil, or_false] at hi
          subst hi
          refine wpOp_wp rfl (by rfl) ?_
          go_simp
          have HG := HS
          generalize hwn : World.alloc wg _ = wh
          have hb : Below wg.heap.size wg wh := by rw [← hwn]; exact (Below.refl _ _).alloc (Nat.le_refl _) _
          have HZ : Hid (RowU 29 wg.heap.size z8.list wh) := by rw [← hwn]; exact Lib.hid (heap_alloc_last _ _)
          generalize wg.heap.size = g at HZ HG ⊢
          have hb' := hb
          replace HH := Lib.hid (HH.out.below hb')
          replace HR := Lib.hid (blk_below HR.out hb')
          replace HB := Lib.hid (HB.out.trans (Below.mono hb' HB.out.size))
          replace HS := Lib.hid (Nat.le_trans HS.out (Below.size hb'))
          refine ⟨HH.out.sh, ?_⟩
          clear hb hb'
          have hS := HH.out.sh
          try simp only [List.getElem_toArray, List.getElem_cons_succ, List.getElem_cons_zero, Act.put, List.setIfInBounds_toArray, List.set_cons_zero, List.set_cons_succ]
          refine wpAnyH_all (rs := [14]) (by kernel_rfl) (by simp) ?_
          intro i hi
          simp only [List.mem_cons, List.not_mem_nil, or_false] at hi
          subst hi
          refine wpOp_wp rfl (by rfl) ?_
          refine wp_store_w8 (.tmp 3) (.tmp 16) rfl g rfl z rfl _ _ HZ.out rfl ?_
          intro w5 h9 hk9 hB9 hs9
          have hg := HG.out
          have HR5 := Lib.hid ((hk9 (w.heap.size + 1) (by omega)).trans HR.out)
          have HB5 := Lib.hid (hB9 HB.out (by omega))
          have HH5 := Lib.hid (show HAt w.heap.size v rest n w5 from (hk9 w.heap.size (by omega)).trans HH.out)
          clear hS
          have hS : SH w.heap.size v rest n w5 := HH5.out.sh
          refine ⟨hS, ?_⟩
          clear hk9 hB9 hs9 HH HR HB HZ HG
          try simp only [List.getElem_toArray, List.getElem_cons_succ, List.getElem_cons_zero, Act.put, List.setIfInBounds_toArray, List.set_cons_zero, List.set_cons_succ]
          refine wpAnyH_take (i := 15) (v := ?_) rfl (by kernel_rfl) (by kernel_rfl) (by kernel_rfl) (fun _ _ _ h => h) (Or.inl ⟨by rfl, ?_⟩) hS ?_
          rotate_left
          · intro v _; go_simp; first | done | with_reducible rfl
          rotate_left
          simp only [List.getElem_toArray, List.getElem_cons_succ, List.getElem_cons_zero, Act.put, List.setIfInBounds_toArray, List.set_cons_zero, List.set_cons_succ]
          refine wpAnyH_done (by kernel_rfl) ?_ _
          clear hS
          go_wp2_with fail
          go_meet
          exact ⟨g, rfl, HR5, h9, HB5, Lib.hid hg⟩
        · skip
          refine wpOp_wp rfl (by rfl) ?_
          go_simp
          have HG := HS
          generalize hwn : World.alloc wf _ = wg
          have hb : Below wf.heap.size wf wg := by rw [← hwn]; exact (Below.refl _ _).alloc (Nat.le_refl _) _
          have HZ : Hid (RowU 29 wf.heap.size z8.list wg) := by rw [← hwn]; exact Lib.hid (heap_alloc_last _ _)
          generalize wf.heap.size = g at HZ HG ⊢
          have hb' := hb
          replace HH := Lib.hid (HH.out.below hb')
          replace HR := Lib.hid (blk_below HR.out hb')
          replace HB := Lib.hid (HB.out.trans (Below.mono hb' HB.out.size))
          replace HS := Lib.hid (Nat.le_trans HS.out (Below.size hb'))
          replace HK := Shut.mk (HK.out.below hb')
          refine ⟨HH.out.sh, ?_⟩
          clear hb hb'
          have hS := HH.out.sh
          try simp only [List.getElem_toArray, List.getElem_cons_succ, List.getElem_cons_zero, Act.put, List.setIfInBounds_toArray, List.set_cons_zero, List.set_cons_succ]
          refine wpAnyH_all (rs := [9]) (by kernel_rfl) (by simp) ?_
          intro i hi
          simp only [List.mem_cons, List.not_mem_nil, or_false] at hi
          subst hi
          refine wpOp_wp rfl (by rfl) ?_
          go_simp
          refine (hall.out ak c wg HK.out).mono ?_
          rintro e wh ⟨rfl, hb⟩
          have hb' := hb
          replace HH := Lib.hid (HH.out.below hb')
          replace HR := Lib.hid (blk_below HR.out hb')
          replace HB := Lib.hid (HB.out.trans (Below.mono hb' HB.out.size))
          replace HS := Lib.hid (Nat.le_trans HS.out (Below.size hb'))
          replace HZ := Lib.hid (HZ.out.below hb')
          refine ⟨HH.out.sh, ?_⟩
          clear hb hb'
          have hS := HH.out.sh
          try simp only [List.getElem_toArray, List.getElem_cons_succ, List.getElem_cons_zero, Act.put, List.setIfInBounds_toArray, List.set_cons_zero, List.set_cons_succ]
          refine wpAnyH_take (i := 10) (v := ?_) rfl (by kernel_rfl) (by kernel_rfl) (by kernel_rfl) (fun _ _ _ h => h) (Or.inl ⟨by rfl, ?_⟩) hS ?_
          rotate_left
          · intro v _; go_simp; first | done | with_reducible rfl
          rotate_left
          simp only [List.getElem_toArray, List.getElem_cons_succ, List.getElem_cons_zero, Act.put, List.setIfInBounds_toArray, List.set_cons_zero, List.set_cons_succ]
          refine wpAnyH_take (i := 11) (v := ?_) rfl (by kernel_rfl) (by kernel_rfl) (by kernel_rfl) (fun _ _ _ h => h) (Or.inl ⟨by rfl, ?_⟩) hS ?_
          rotate_left
          · intro v _; go_simp; first | done | with_reducible rfl
          rotate_left
          simp only [List.getElem_toArray, List.getElem_cons_succ, List.getElem_cons_zero, Act.put, List.setIfInBounds_toArray, List.set_cons_zero, List.set_cons_succ]
          refine wpAnyH_take (i := 12) (v := ?_) rfl (by kernel_rfl) (by kernel_rfl) (by kernel_rfl) (fun _ _ _ h => h) (Or.inl ⟨by rfl, ?_⟩) hS ?_
          rotate_left
          · intro v _; go_simp; first | done | with_reducible rfl
          rotate_left
          simp only [List.getElem_toArray, List.getElem_cons_succ, List.getElem_cons_zero, Act.put, List.setIfInBounds_toArray, List.set_cons_zero, List.set_cons_succ]
          refine wpAnyH_all (rs := [14]) (by kernel_rfl) (by simp) ?_
          intro i hi
          simp only [List.mem_cons, List.not_mem_nil, or_false] at hi
          subst hi
          refine wpOp_wp rfl (by rfl) ?_
          refine wp_store_w8 (.tmp 3) (.tmp 16) rfl g rfl z rfl _ _ HZ.out rfl ?_
          intro w5 h9 hk9 hB9 hs9
          have hg := HG.out
          have HR5 := Lib.hid ((hk9 (w.heap.size + 1) (by omega)).trans HR.out)
          have HB5 := Lib.hid (hB9 HB.out (by omega))
          have HH5 := Lib.hid (show HAt w.heap.size v rest n w5 from (hk9 w.heap.size (by omega)).trans HH.out)
          clear hS
          have hS : SH w.heap.size v rest n w5 := HH5.out.sh
          refine ⟨hS, ?_⟩
          clear hk9 hB9 hs9 HH HR HB HZ HG
          try simp only [List.getElem_toArray, List.getElem_cons_succ, List.getElem_cons_zero, Act.put, List.setIfInBounds_toArray, List.set_cons_zero, List.set_cons_succ]
          refine wpAnyH_take (i := 15) (v := ?_) rfl (by kernel_rfl) (by kernel_rfl) (by kernel_rfl) (fun _ _ _ h => h) (Or.inl ⟨by rfl, ?_⟩) hS ?_
          rotate_left
          · intro v _; go_simp; first | done | with_reducible rfl
          rotate_left
          simp only [List.getElem_toArray, List.getElem_cons_succ, List.getElem_cons_zero, Act.put, List.setIfInBounds_toArray, List.set_cons_zero, List.set_cons_succ]
          refine wpAnyH_done (by kernel_rfl) ?_ _
          clear hS
          go_wp2_with fail
          go_meet
          exact ⟨g, rfl, HR5, h9, HB5, Lib.hid hg⟩
      · skip
        refine wpOp_wp rfl (by rfl) ?_
        go_simp
        have HG := HS
        generalize hwn : World.alloc we _ = wf
        have hb : Below we.heap.size we wf := by rw [← hwn]; exact (Below.refl _ _).alloc (Nat.le_refl _) _
        have HZ : Hid (RowU 29 we.heap.size z8.list wf) := by rw [← hwn]; exact Lib.hid (heap_alloc_last _ _)
        generalize we.heap.size = g at HZ HG ⊢
        have hb' := hb
        replace HH := Lib.hid (HH.out.below hb')
        replace HR := Lib.hid (blk_below HR.out hb')
        replace HB := Lib.hid (HB.out.trans (Below.mono hb' HB.out.size))
        replace HS := Lib.hid (Nat.le_trans HS.out (Below.size hb'))
        replace HK := Shut.mk (HK.out.below hb')
        refine ⟨HH.out.sh, ?_⟩
        clear hb hb'
        have hS := HH.out.sh
        try simp only [List.getElem_toArray, List.getElem_cons_succ, List.getElem_cons_zero, Act.put, List.setIfInBounds_toArray, List.set_cons_zero, List.set_cons_succ]
        refine wpAnyH_all (rs := [7]) (by kernel_rfl) (by simp) ?_
        intro i hi
        simp only [List.mem_cons, List.not_mem_nil, or_false] at hi
        subst hi
        refine wpOp_wp rfl (by rfl) ?_
        go_simp
        refine (htc.out wf).mono ?_
        rintro e wg ⟨rfl, hb⟩
        have hb' := hb
        replace HH := Lib.hid (HH.out.below hb')
        replace HR := Lib.hid (blk_below HR.out hb')
        replace HB := Lib.hid (HB.out.trans (Below.mono hb' HB.out.size))
        replace HS := Lib.hid (Nat.le_trans HS.out (Below.size hb'))
        replace HK := Shut.mk (HK.out.below hb')
        replace HZ := Lib.hid (HZ.out.below hb')
        refine ⟨HH.out.sh, ?_⟩
        clear hb hb'
        have hS := HH.out.sh
        try simp only [List.getElem_toArray, List.getElem_cons_succ, List.getElem_cons_zero, Act.put, List.setIfInBounds_toArray, List.set_cons_zero, List.set_cons_succ]
        refine wpAnyH_take (i := 8) (v := ?_) rfl (by kernel_rfl) (by kernel_rfl) (by kernel_rfl) (fun _ _ _ h => h) (Or.inl ⟨by rfl, ?_⟩) hS ?_
        rotate_left
        · intro v _; go_simp; first | done | with_reducible rfl
        rotate_left
        simp only [List.getElem_toArray, List.getElem_cons_succ, List.getElem_cons_zero, Act.put, List.setIfInBounds_toArray, List.set_cons_zero, List.set_cons_succ]
        refine wpAnyH_all (rs := [9]) (by kernel_rfl) (by simp) ?_
        intro i hi
        simp only [List.mem_cons, List.not_mem_nil, or_false] at hi
        subst hi
        refine wpOp_wp rfl (by rfl) ?_
        go_simp
        refine (hall.out ak c wg HK.out).mono ?_
        rintro e wh ⟨rfl, hb⟩
        have hb' := hb
        replace HH := Lib.hid (HH.out.below hb')
        replace HR := Lib.hid (blk_below HR.out hb')
        replace HB := Lib.hid (HB.out.trans (Below.mono hb' HB.out.size))
        replace HS := Lib.hid (Nat.le_trans HS.out (Below.size hb'))
        replace HZ := Lib.hid (HZ.out.below hb')
        refine ⟨HH.out.sh, ?_⟩
        clear hb hb'
        have hS := HH.out.sh
        try simp only [List.getElem_toArray, List.getElem_cons_succ, List.getElem_cons_zero, Act.put, List.setIfInBounds_toArray, List.set_cons_zero, List.set_cons_succ]
        refine wpAnyH_take (i := 10) (v := ?_) rfl (by kernel_rfl) (by kernel_rfl) (by kernel_rfl) (fun _ _ _ h => h) (Or.inl ⟨by rfl, ?_⟩) hS ?_
        rotate_left
        · intro v _; go_simp; first | done | with_reducible rfl
        rotate_left
        simp only [List.getElem_toArray, List.getElem_cons_succ, List.getElem_cons_zero, Act.put, List.setIfInBounds_toArray, List.set_cons_zero, List.set_cons_succ]
        refine wpAnyH_take (i := 11) (v := ?_) rfl (by kernel_rfl) (by kernel_rfl) (by kernel_rfl) (fun _ _ _ h => h) (Or.inl ⟨by rfl, ?_⟩) hS ?_
        rotate_left
        · intro v _; go_simp; first | done | with_reducible rfl
        rotate_left
        simp only [List.getElem_toArray, List.getElem_cons_succ, List.getElem_cons_zero, Act.put, List.setIfInBounds_toArray, List.set_cons_zero, List.set_cons_succ]
        refine wpAnyH_take (i := 12) (v := ?_) rfl (by kernel_rfl) (by kernel_rfl) (by kernel_rfl) (fun _ _ _ h => h) (Or.inl ⟨by rfl, ?_⟩) hS ?_
        rotate_left
        · intro v _; go_simp; first | done | with_reducible rfl
        rotate_left
        simp only [List.getElem_toArray, List.getElem_cons_succ, List.getElem_cons_zero, Act.put, List.setIfInBounds_toArray, List.set_cons_zero, List.set_cons_succ]
        refine wpAnyH_all (rs := [14]) (by kernel_rfl) (by simp) ?_
        intro i hi
        simp only [List.mem_cons, List.not_mem_nil, or_false] at hi
        subst hi
        refine wpOp_wp rfl (by rfl) ?_
        refine wp_store_w8 (.tmp 3) (.tmp 16) rfl g rfl z rfl _ _ HZ.out rfl ?_
        intro w5 h9 hk9 hB9 hs9
        have hg := HG.out
        have HR5 := Lib.hid ((hk9 (w.heap.size + 1) (by omega)).trans HR.out)
        have HB5 := Lib.hid (hB9 HB.out (by omega))
        have HH5 := Lib.hid (show HAt w.heap.size v rest n w5 from (hk9 w.heap.size (by omega)).trans HH.out)
        clear hS
        have hS : SH w.heap.size v rest n w5 := HH5.out.sh
        refine ⟨hS, ?_⟩
        clear hk9 hB9 hs9 HH HR HB HZ HG
        try simp only [List.getElem_toArray, List.getElem_cons_succ, List.getElem_cons_zero, Act.put, List.setIfInBounds_toArray, List.set_cons_zero, List.set_cons_succ]
        refine wpAnyH_take (i := 15) (v := ?_) rfl (by kernel_rfl) (by kernel_rfl) (by kernel_rfl) (fun _ _ _ h => h) (Or.inl ⟨by rfl, ?_⟩) hS ?_
        rotate_left
        · intro v _; go_simp; first | done | with_reducible rfl
        rotate_left
        simp only [List.getElem_toArray, List.getElem_cons_succ, List.getElem_cons_zero, Act.put, List.setIfInBounds_toArray, List.set_cons_zero, List.set_cons_succ]
        refine wpAnyH_done (by kernel_rfl) ?_ _
        clear hS
        go_wp2_with fail
        go_meet
        exact ⟨g, rfl, HR5, h9, HB5, Lib.hid hg⟩
    · skip
      refine wpOp_wp rfl (by rfl) ?_
      go_simp
      have HG := HS
      generalize hwn : World.alloc wd _ = we
      have hb : Below wd.heap.size wd we := by rw [← hwn]; exact (Below.refl _ _).alloc (Nat.le_refl _) _
      have HZ : Hid (RowU 29 wd.heap.size z8.list we) := by rw [← hwn]; exact Lib.hid (heap_alloc_last _ _)
      generalize wd.heap.size = g at HZ HG ⊢
      have hb' := hb
      replace HH := Lib.hid (HH.out.below hb')
      replace HR := Lib.hid (blk_below HR.out hb')
      replace HB := Lib.hid (HB.out.trans (Below.mono hb' HB.out.size))
      replace HS := Lib.hid (Nat.le_trans HS.out (Below.size hb'))
      refine ⟨HH.out.sh, ?_⟩
      clear hb hb'
      have hS := HH.out.sh
      try simp only [List.getElem_toArray, List.getElem_cons_succ, List.getElem_cons_zero, Act.put, List.setIfInBounds_toArray, List.set_cons_zero, List.set_cons_succ]
      refine wpAnyH_all (rs := [0]) (by kernel_rfl) (by simp) ?_
      intro i hi
      simp only [List.mem_cons, List.not_mem_nil, or_false] at hi
      subst hi
      refine wpOp_wp rfl (by rfl) ?_
      go_simp
      refine (rconst_calls we).mono ?_
      rintro e wf ⟨ak, c, rfl, hk, hb⟩
      have HK := Shut.mk hk
      clear hk
      have hb' := hb
      replace HH := Lib.hid (HH.out.below hb')
      replace HR := Lib.hid (blk_below HR.out hb')
      replace HB := Lib.hid (HB.out.trans (Below.mono hb' HB.out.size))
      replace HS := Lib.hid (Nat.le_trans HS.out (Below.size hb'))
      replace HZ := Lib.hid (HZ.out.below hb')
      refine ⟨HH.out.sh, ?_⟩
      clear hb hb'
      have hS := HH.out.sh
      try simp only [List.getElem_toArray, List.getElem_cons_succ, List.getElem_cons_zero, Act.put, List.setIfInBounds_toArray, List.set_cons_zero, List.set_cons_succ]
      refine wpAnyH_all (rs := [7]) (by kernel_rfl) (by simp) ?_
      intro i hi
      simp only [List.mem_cons, List.not_mem_nil, or_false] at hi
      subst hi
      refine wpOp_wp rfl (by rfl) ?_
      go_simp
      refine (htc.out wf).mono ?_
      rintro e wg ⟨rfl, hb⟩
      have hb' := hb
      replace HH := Lib.hid (HH.out.below hb')
      replace HR := Lib.hid (blk_below HR.out hb')
      replace HB := Lib.hid (HB.out.trans (Below.mono hb' HB.out.size))
      replace HS := Lib.hid (Nat.le_trans HS.out (Below.size hb'))
      replace HK := Shut.mk (HK.out.below hb')
      replace HZ := Lib.hid (HZ.out.below hb')
      refine ⟨HH.out.sh, ?_⟩
      clear hb hb'
      have hS := HH.out.sh
      try simp only [List.getElem_toArray, List.getElem_cons_succ, List.getElem_cons_zero, Act.put, List.setIfInBounds_toArray, List.set_cons_zero, List.set_cons_succ]
      refine wpAnyH_take (i := 8) (v := ?_) rfl (by kernel_rfl) (by kernel_rfl) (by kernel_rfl) (fun _ _ _ h => h) (Or.inl ⟨by rfl, ?_⟩) hS ?_
      rotate_left
      · intro v _; go_simp; first | done | with_reducible rfl
      rotate_left
      simp only [List.getElem_toArray, List.getElem_cons_succ, List.getElem_cons_zero, Act.put, List.setIfInBounds_toArray, List.set_cons_zero, List.set_cons_succ]
      refine wpAnyH_all (rs := [9]) (by kernel_rfl) (by simp) ?_
      intro i hi
      simp only [List.mem_cons, List.not_mem_nil, or_false] at hi
      subst hi
      refine wpOp_wp rfl (by rfl) ?_
      go_simp
      refine (hall.out ak c wg HK.out).mono ?_
      rintro e wh ⟨rfl, hb⟩
      have hb' := hb
      replace HH := Lib.hid (HH.out.below hb')
      replace HR := Lib.hid (blk_below HR.out hb')
      replace HB := Lib.hid (HB.out.trans (Below.mono hb' HB.out.size))
      replace HS := Lib.hid (Nat.le_trans HS.out (Below.size hb'))
      replace HZ := Lib.hid (HZ.out.below hb')
      refine ⟨HH.out.sh, ?_⟩
      clear hb hb'
      have hS := HH.out.sh
      try simp only [List.getElem_toArray, List.getElem_cons_succ, List.getElem_cons_zero, Act.put, List.setIfInBounds_toArray, List.set_cons_zero, List.set_cons_succ]
      refine wpAnyH_take (i := 10) (v := ?_) rfl (by kernel_rfl) (by kernel_rfl) (by kernel_rfl) (fun _ _ _ h => h) (Or.inl ⟨by rfl, ?_⟩) hS ?_
      rotate_left
      · intro v _; go_simp; first | done | with_reducible rfl
      rotate_left
      simp only [List.getElem_toArray, List.getElem_cons_succ, List.getElem_cons_zero, Act.put, List.setIfInBounds_toArray, List.set_cons_zero, List.set_cons_succ]
      refine wpAnyH_take (i := 11) (v := ?_) rfl (by kernel_rfl) (by kernel_rfl) (by kernel_rfl) (fun _ _ _ h => h) (Or.inl ⟨by rfl, ?_⟩) hS ?_
      rotate_left
      · intro v _; go_simp; first | done | with_reducible rfl
      rotate_left
      simp only [List.getElem_toArray, List.getElem_cons_succ, List.getElem_cons_zero, Act.put, List.setIfInBounds_toArray, List.set_cons_zero, List.set_cons_succ]
      refine wpAnyH_take (i := 12) (v := ?_) rfl (by kernel_rfl) (by kernel_rfl) (by kernel_rfl) (fun _ _ _ h => h) (Or.inl ⟨by rfl, ?_⟩) hS ?_
      rotate_left
      · intro v _; go_simp; first | done | with_reducible rfl
      rotate_left
      simp only [List.getElem_toArray, List.getElem_cons_succ, List.getElem_cons_zero, Act.put, List.setIfInBounds_toArray, List.set_cons_zero, List.set_cons_succ]
      refine wpAnyH_all (rs := [14]) (by kernel_rfl) (by simp) ?_
      intro i hi
      simp only [List.mem_cons, List.not_mem_nil, or_false] at hi
      subst hi
      refine wpOp_wp rfl (by rfl) ?_
      refine wp_store_w8 (.tmp 3) (.tmp 16) rfl g rfl z rfl _ _ HZ.out rfl ?_
      intro w5 h9 hk9 hB9 hs9
      have hg := HG.out
      have HR5 := Lib.hid ((hk9 (w.heap.size + 1) (by omega)).trans HR.out)
      have HB5 := Lib.hid (hB9 HB.out (by omega))
      have HH5 := Lib.hid (show HAt w.heap.size v rest n w5 from (hk9 w.heap.size (by omega)).trans HH.out)
      clear hS
      have hS : SH w.heap.size v rest n w5 := HH5.out.sh
      refine ⟨hS, ?_⟩
      clear hk9 hB9 hs9 HH HR HB HZ HG
      try simp only [List.getElem_toArray, List.getElem_cons_succ, List.getElem_cons_zero, Act.put, List.setIfInBounds_toArray, List.set_cons_zero, List.set_cons_succ]
      refine wpAnyH_take (i := 15) (v := ?_) rfl (by kernel_rfl) (by kernel_rfl) (by kernel_rfl) (fun _ _ _ h => h) (Or.inl ⟨by rfl, ?_⟩) hS ?_
      rotate_left
      · intro v _; go_simp; first | done | with_reducible rfl
      rotate_left
      simp only [List.getElem_toArray, List.getElem_cons_succ, List.getElem_cons_zero, Act.put, List.setIfInBounds_toArray, List.set_cons_zero, List.set_cons_succ]
      refine wpAnyH_done (by kernel_rfl) ?_ _
      clear hS
      go_wp2_with fail
      go_meet
      exact ⟨g, rfl, HR5, h9, HB5, Lib.hid hg⟩
  case rest =>
    obtain ⟨g, rfl, HR, HZ, HB, HG⟩ := hcut
    rename_i wc
    go_wp2_with (refine wpList_load_w8 (o := ⟨some 18, _, _, _, _, _⟩) rfl (.tmp 3) rfl g 0 rfl z (RowU.range HZ.out) ?_)
    refine (rdigest_calls z wc).mono ?_
    rintro e w6 ⟨rfl, hb⟩
    replace HR := Lib.hid (blk_below HR.out hb)
    replace HB := Lib.hid (HB.out.trans (hb.mono HB.out.size))
    have hl := Lib.hid (digL_len z)
    clear hb HZ
    generalize hD1 : digL z = D at hl ⊢
    replace hD1 := Lib.hid hD1
    go_wp2_with (refine wpList_store_dig rfl (.tmp 2) (.tmp 19) rfl (w.heap.size + 1) rfl D hl.out rfl _ _ HR.out (by rw [List.size_toArray, Lib.byteCells, List.length_map, z32_len]) ?_; intro w9 h9 _ hB9)
    refine bodyPost_ret (v := .agg (Lib.byteCells D).toArray) ?_ rfl ⟨by rw [hE.out, hD1.out], hB9 HB.out (by omega)⟩
    simp [results, Tryd.results20, asAddr, run_load_dig h9.out hl.out, Act.put]
end Go.Proofs.YtldpnmebjnkjeaaDoor.Ref10
namespace Go.Proofs.YtldpnmebjnkjeaaDoor.Sha
open Go.RowKit Go.Proofs.YtldpnmebjnkjeaaDoorW.PrintWords
set_option linter.unusedVariables false
set_option linter.unusedSimpArgs false

theorem byteSlot (l : List UInt8) (j : Nat) : (Lib.byteCells l)[j]? = (l[j]?).map fun b => Value.int .u8 (b.toNat : Int) := by rw [Lib.byteCells, List.getElem?_map]
set_option maxHeartbeats 4000000 in
set_option maxRecDepth 100000 in
theorem parse_len (s : ByteArray) (w : World) (hs : s.size ≠ 64) :
    Calls Tryd.prog 22 #[.string s] w fun e w' => e = .returned (.tuple #[zeroDig, .int .i64 3]) ∧ Below w.heap.size w w' := by
  have h1 : ((s.size : Int) == 64) = false := by simp; omega
  have h2 : ((s.size : Int) != 64) = true := by simp; omega
  replace hs := Lib.hid hs
  go_enter Tryd.func22, Tryd.ntmps22
  go_wp2_with (refine wpList_store_dig rfl (.tmp 2) (.tmp 10) rfl w.heap.size rfl (List.replicate 32 0) z32_len rfl (Lib.byteCells (List.replicate 32 0)).toArray 24 (by rw [Below.heap_alloc _ _ _ (by simp)]; exact heap_alloc_last _ _) (by rw [List.size_toArray, Lib.byteCells, List.length_map, z32_len]) ?_; intro w9 h9 _ hB9)
  refine bodyPost_ret (v := .tuple #[zeroDig, .int .i64 3]) ?_ rfl ⟨rfl, hB9 (((Below.refl _ _).alloc (Nat.le_refl _) _).alloc (by simp) _) (by omega)⟩
  simp [results, Tryd.results22, asAddr, run_load_dig h9.out z32_len, Act.put, zeroDig]
set_option maxHeartbeats 8000000 in
set_option maxRecDepth 100000 in
theorem parse_full (s : ByteArray) (w : World) (hs : s.size = 64) :
    Calls Tryd.prog 22 #[.string s] w fun e w' => e = .returned (parseV s) ∧ Below w.heap.size w w' := by
  have hsl : s.data.toList.length = 64 := by rw [← Lib.size_eq]; exact hs
  have h1 : ((s.size : Int) == 64) = true := by simp; omega
  have h2 : ((s.size : Int) != 64) = false := by simp; omega
  replace hs := Lib.hid hs
  replace hsl := Lib.hid hsl
  go_enter Tryd.func22, Tryd.ntmps22
  go_wp2_with fail
  clear h1 h2
  generalize hw1 : (w.alloc _).alloc _ = w1
  have HR : Hid (w1.heap[w.heap.size]? = some (.cells (Lib.byteCells (List.replicate 32 0)).toArray 24 (0, 0))) := by
    rw [← hw1, Below.heap_alloc _ _ _ (by simp)]; exact heap_alloc_last _ _
  have HD : Hid (w1.heap[w.heap.size + 1]? = some (.cells (Lib.byteCells (dp s.data.toList 0)).toArray 24 (0, 0))) := by
    rw [← hw1, dp_zero]; exact heap_at1 _ _ _
  have HB : Hid (Below w.heap.size w w1) := by
    rw [← hw1]; exact Lib.hid (((Below.refl _ _).alloc (Nat.le_refl _) _).alloc (by simp) _)
  clear hw1
  have hz : (s.size : Int) = 64 := by have := hs.out; omega
  go_loopw [13] (fun i wr => ∃ j : Nat, j ≤ 64 ∧ i = .int .i64 j ∧ Hid (∀ k, k < j → 0 ≤ val (s.data.toList.getD k 0)) ∧ Hid (wr.heap[w.heap.size]? = some (.cells (Lib.byteCells (List.replicate 32 0)).toArray 24 (0, 0))) ∧ Hid (wr.heap[w.heap.size + 1]? = some (.cells (Lib.byteCells (dp s.data.toList j)).toArray 24 (0, 0))) ∧ Hid (Below w.heap.size w wr)) (fun i _ => 64 - (intOf i).toNat)
  case atStart => exact ⟨0, by omega, rfl, Lib.hid (fun k hk => by omega), HR, HD, HB⟩
  case round =>
    clear HR HD HB
    obtain ⟨j, hj, rfl, HV, HR, HD, HB⟩ := hrel
    by_cases h64 : j < 64
    · have k64 : (j : Int) < 64 := by omega
      have q0 : (j : Int) / 2 < 32 := by omega
      have hjs : j < s.size := by have := hs.out; omega
      have hjl : j < s.data.toList.length := by rw [hsl.out]; exact h64
      have hsj : s[j] = s.data.toList.getD j 0 := by
        rw [List.getD_eq_getElem?_getD, List.getElem?_eq_getElem hjl]
        rfl
      replace hsj := Lib.hid hsj
      replace hz := Lib.hid hz
      go_wp2_with fail
      refine (Tryd.strings_IndexByte _ _ wr).mono ?_
      rintro e w2 ⟨rfl, rfl⟩
      have hv : Lib.indexByte (⟨#[48, 49, 50, 51, 52, 53, 54, 55, 56, 57, 97, 98, 99, 100, 101, 102]⟩ : ByteArray).data.toList ((s[j].toNat : Int).toNat.toUInt8) = val (s.data.toList.getD j 0) := by
        rw [hsj.out]
        unfold val
        congr 1
        rw [Int.toNat_natCast]
        simp
      rw [hv]
      clear hv
      have hbd := val_bd (s.data.toList.getD j 0)
      by_cases hneg : val (s.data.toList.getD j 0) < 0
      · have hall : allDigits s.data.toList = false := by
          unfold allDigits
          rw [List.all_eq_false]
          refine ⟨s.data.toList.getD j 0, ?_, ?_⟩
          · rw [List.getD_eq_getElem?_getD, List.getElem?_eq_getElem hjl]; exact List.getElem_mem _
          · intro h; have := of_decide_eq_true h; omega
        replace hall := Lib.hid hall
        generalize val (s.data.toList.getD j 0) = v at hneg hbd ⊢
        go_wp2_with (refine wpList_store_dig rfl (.tmp 2) (.tmp 22) rfl w.heap.size rfl (List.replicate 32 0) z32_len rfl (Lib.byteCells (List.replicate 32 0)).toArray 24 HR.out (by rw [List.size_toArray, Lib.byteCells, List.length_map, z32_len]) ?_; intro w9 h9 _ hB9)
        refine bodyPost_ret (v := .tuple #[zeroDig, .int .i64 3]) ?_ rfl ⟨?_, hB9 HB.out (by omega)⟩
        · simp [results, Tryd.results22, asAddr, run_load_dig h9.out z32_len, Act.put, zeroDig]
        · unfold parseV; rw [if_neg (fun h3 => by have := h3.2; rw [hall.out] at this; cases this)]
      · have hpos : 0 ≤ val (s.data.toList.getD j 0) := by omega
        have hval := dp_value s.data.toList j h64 _ rfl hpos
        have hc : w2.cell? ⟨w.heap.size + 1, j / 2, none⟩ = some (.int .u8 ((dpAt s.data.toList j (j / 2)).toNat : Int)) := by
          rw [cell_of_row _ _ _ _ _ _ HD.out, List.getElem?_toArray, byteSlot, dp_get _ _ _ (by omega)]; rfl
        have hf : ∀ i, w2.frozen? ⟨w.heap.size + 1, i, none⟩ = false := fun i => frozen_of_row w2 _ i _ _ HD.out
        have hnext := dp_step s.data.toList j h64 _ rfl
        have hV2 : Hid (∀ k, k < j + 1 → 0 ≤ val (s.data.toList.getD k 0)) := Lib.hid (fun k hk => by
          by_cases h : k = j
          · subst h; exact hpos
          · exact HV.out k (by omega))
        generalize hD0 : dpAt s.data.toList j (j / 2) = d0 at hval hc
        generalize hD1 : dpAt s.data.toList (j + 1) (j / 2) = d1 at hval hnext
        generalize val (s.data.toList.getD j 0) = v at hpos hbd hval hneg ⊢
        replace hD0 := Lib.hid hD0
        replace hD1 := Lib.hid hD1
        replace hval := Lib.hid hval
        replace hnext := Lib.hid hnext
        go_wp2_with fail
        go_roundw
        case rel =>
          refine ⟨j + 1, by omega, by go_num, hV2, Lib.hid ?_, Lib.hid ?_, Lib.hid (HB.out.setCell (by simp) _)⟩
          · rw [Below.heap_setCell _ _ _ _ (by simp)]; exact HR.out
          · rw [set_row HD.out, ← hnext.out]
            rw [hval.out]
            simp [Lib.byteCells, List.map_set]
        case measure => simp [intOf]; omega
    · obtain rfl : j = 64 := by omega
      have hall : allDigits s.data.toList = true := by
        unfold allDigits
        rw [List.all_eq_true]
        intro x hx
        obtain ⟨k, hk, rfl⟩ := List.getElem_of_mem hx
        have := HV.out k (by rw [← hsl.out]; exact hk)
        rw [List.getD_eq_getElem?_getD, List.getElem?_eq_getElem hk] at this
        simpa using this
      have hdl := Lib.hid (dp_len s.data.toList 64)
      generalize hE : dp s.data.toList 64 = D at HD hdl
      replace hE := Lib.hid hE
      replace hall := Lib.hid hall
      go_wp2_with (first | (refine wpList_load_dig (o := ⟨some 35, _, _, _, _, _⟩) rfl (.tmp 4) rfl (w.heap.size + 1) rfl D hdl.out _ _ HD.out ?_) | (refine wpList_store_dig rfl (.tmp 2) (.tmp 35) rfl w.heap.size rfl D hdl.out rfl _ _ HR.out (by rw [List.size_toArray, Lib.byteCells, List.length_map, z32_len]) ?_; intro w9 h9 _ hB9))
      refine bodyPost_ret (v := .tuple #[.agg (Lib.byteCells D).toArray, .int .i64 0]) ?_ rfl ⟨?_, hB9 HB.out (by omega)⟩
      · simp [results, Tryd.results22, asAddr, run_load_dig h9.out hdl.out, Act.put]
      · unfold parseV; rw [if_pos ⟨hs.out, hall.out⟩, hE.out]
theorem parse_calls (s : ByteArray) (w : World) : Calls Tryd.prog 22 #[.string s] w fun e w' => e = .returned (parseV s) ∧ Below w.heap.size w w' := by
  by_cases h : s.size = 64
  · exact parse_full s w h
  · refine (parse_len s w h).mono ?_
    rintro e w' ⟨rfl, hb⟩
    exact ⟨by unfold parseV; rw [if_neg (fun h2 => h h2.1)], hb⟩
end Go.Proofs.YtldpnmebjnkjeaaDoor.Sha
namespace Go.Proofs.YtldpnmebjnkjeaaDoor.Sha
open Go.RowKit Go.Proofs.YtldpnmebjnkjeaaDoorW.PrintWords
set_option linter.unusedVariables false
set_option linter.unusedSimpArgs false

/-- The bytes of a digest's row as a string. -/
theorem conv_dig {w : World} {b : Nat} {l : List UInt8} {t : TypeId} {fr : Nat × Nat} (hr : w.heap[b]? = some (.cells (Lib.byteCells l).toArray t fr)) (hl : l.length = 32) :
    (convert 22 9 (.slice (some ⟨b, 0, none⟩) 32 32)).run Tryd.prog w = .ok (.string ⟨l.toArray⟩) w := by
  have h := Go.run_convert_bytes_back (P := Tryd.prog) w 22 9 5 ⟨b, 0, none⟩ 32 l (by kernel_rfl) (by kernel_rfl) (by kernel_rfl) (fun j hj => by
    have hh : (⟨b, 0, none⟩ : Addr).add j = ⟨b, j, none⟩ := by unfold Addr.add; simp; omega
    rw [hh, cell_of_row _ _ _ _ _ _ hr]
    simp [Lib.byteCells, hj])
  rwa [hl] at h
theorem fedV_first (s : ByteArray) : fedV v0 ⟨#[]⟩ 0 s = hashV (feedP v0 s.data.toList).1 ⟨(feedP v0 s.data.toList).2.toArray⟩ (s.size : Nat) := by
  unfold fedV; rw [Int.zero_add]; rfl
theorem rest_small (s : List UInt8) : ((⟨(feedP v0 s).2.toArray⟩ : ByteArray)).size ≤ 1048576 := by
  show ((feedP v0 s).2.toArray).size ≤ _
  rw [List.size_toArray, feedP_len _ v0 s (Nat.le_refl _)]; omega
theorem ended_first (s : ByteArray) (w : World) (hK : KAt w) (hn : s.size ≤ 4294967296) :
    Calls Tryd.prog 52 #[fedV v0 ⟨#[]⟩ 0 s] w fun e w' => e = .returned (.agg (Lib.byteCells (sumL s.data.toList)).toArray) ∧ Below w.heap.size w w' := by
  rw [fedV_first]
  have h := ended_calls (feedP v0 s.data.toList).1 ⟨(feedP v0 s.data.toList).2.toArray⟩ s.size w hK (rest_small _) hn
  have e : endP (feedP v0 s.data.toList).1 (⟨(feedP v0 s.data.toList).2.toArray⟩ : ByteArray).data.toList s.size = sumL s.data.toList := by
    unfold sumL; rw [Lib.size_eq]
  rwa [e] at h
theorem run_cells_dig {w : World} {b : Nat} {l : List UInt8} (hl : l.length = 32) {old : Array Value} {t : TypeId} (hr : w.heap[b]? = some (.cells old t (0, 0))) (hs : old.size = 32) :
    (storeCells ⟨b, 0, none⟩ (Lib.byteCells l)).run Tryd.prog w = .ok () (w.setRow b (Lib.byteCells l).toArray) := by
  have hX : (Lib.byteCells l).length = 32 := by rw [Lib.byteCells, List.length_map, hl]
  have h := run_storeCells_at Tryd.prog b 0 t (Lib.byteCells l) 0 old w hr (by omega) (Lib.byteCells_one _)
  have e : old.toList.take (0 + 0) ++ Lib.byteCells l ++ old.toList.drop (0 + 0 + (Lib.byteCells l).length) = Lib.byteCells l := by
    rw [List.drop_of_length_le (by rw [Array.length_toList]; omega)]; simp
  rwa [e] at h
set_option maxHeartbeats 8000000 in
set_option maxRecDepth 100000 in
theorem pair_calls (x y : List UInt8) (hx : x.length = 32) (hy : y.length = 32) (w : World) (hK : KAt w) :
    Calls Tryd.prog 25 #[.agg (Lib.byteCells x).toArray, .agg (Lib.byteCells y).toArray] w fun e w' => e = .returned (.agg (Lib.byteCells (sumL (x ++ y))).toArray) ∧ Below w.heap.size w w' := by
  replace hK := Lib.hid hK
  replace hx := Lib.hid hx
  replace hy := Lib.hid hy
  go_enter Tryd.func25, Tryd.ntmps25
  go_wp2_with fail
  generalize hw1 : World.alloc _ _ = w1
  have HX : Hid (w1.heap[w.heap.size]? = some (.cells (Lib.byteCells x).toArray 24 (0, 0))) := by
    rw [← hw1, Below.heap_alloc _ _ _ (by simp; omega), Below.heap_alloc _ _ _ (by simp)]; exact heap_alloc_last _ _
  have HY : Hid (w1.heap[w.heap.size + 1]? = some (.cells (Lib.byteCells y).toArray 24 (0, 0))) := by
    rw [← hw1, Below.heap_alloc _ _ _ (by simp)]; exact heap_at1 _ _ _
  have HZ : Hid (w1.heap[w.heap.size + 1 + 1]? = some (.cells (Lib.byteCells (List.replicate 32 0)).toArray 24 (0, 0))) := by
    rw [← hw1]
    have h := heap_alloc_last ((w.alloc (.cells (Lib.byteCells x).toArray 24)).alloc (.cells (Lib.byteCells y).toArray 24)) (.cells (Lib.byteCells (List.replicate 32 0)).toArray 24)
    rwa [show ((w.alloc (.cells (Lib.byteCells x).toArray 24)).alloc (.cells (Lib.byteCells y).toArray 24)).heap.size = w.heap.size + 1 + 1 by simp] at h
  have HB : Hid (Below w.heap.size w w1) := by
    rw [← hw1]; exact Lib.hid ((((Below.refl _ _).alloc (Nat.le_refl _) _).alloc (by simp) _).alloc (by simp; omega) _)
  clear hw1
  have cx := conv_dig (w := w1.drew) HX.out hx.out
  have cy := conv_dig (w := w1.drew) HY.out hy.out
  have hsz : ((⟨x.toArray⟩ ++ ⟨y.toArray⟩ : ByteArray)).size = 64 := by
    rw [ByteArray.size_append]
    show x.toArray.size + y.toArray.size = 64
    rw [List.size_toArray, List.size_toArray, hx.out, hy.out]
  have hlt : (9223372036854775807 < x.length + y.length) = False := eq_false (by rw [hx.out, hy.out]; omega)
  replace hsz := Lib.hid hsz
  have hxy : ((⟨x.toArray⟩ ++ ⟨y.toArray⟩ : ByteArray)).data.toList = x ++ y := by rw [ByteArray.data_append, Array.toList_append]
  replace hxy := Lib.hid hxy
  go_region_law (first
    | (go_simp; go_at_call 16; refine (begin_calls _).mono ?_; rintro e w2 ⟨rfl, hb⟩; have cx2 := conv_dig (blk_below (show w1.drew.heap[w.heap.size]? = _ from HX.out) hb) hx.out; have cy2 := conv_dig (blk_below (show w1.drew.heap[w.heap.size + 1]? = _ from HY.out) hb) hy.out; have hb2 := Lib.hid hb; clear hb)
    | (go_simp; go_at_call 54; refine (fed_calls v0 ⟨#[]⟩ 0 _ w2 ((hK.out.below (HB.out.drew)).below (hb2.out)) (by decide) (by have := hsz.out; omega) (by omega) (by omega)).mono ?_; rintro e w3 ⟨rfl, hb⟩; have hb3 := Lib.hid (hb2.out.trans (Below.mono hb hb2.out.size)); clear hb)
    | (go_simp; go_at_call 52; refine (ended_first _ w3 ((hK.out.below (HB.out.drew)).below (hb3.out)) (by have := hsz.out; omega)).mono ?_; rintro e w4 ⟨rfl, hb⟩; rw [hxy.out]; have hb4 := Lib.hid (hb3.out.trans (Below.mono hb hb3.out.size)); have hln : (Lib.byteCells (sumL (x ++ y))).length = 32 := (by rw [Lib.byteCells, List.length_map, sumL_len]); have hst := run_cells_dig (l := sumL (x ++ y)) (sumL_len _) (blk_below (show w1.drew.heap[w.heap.size + 1 + 1]? = _ from HZ.out) hb4.out) (by rw [List.size_toArray, Lib.byteCells, List.length_map, z32_len]); clear hb))
  all_goals
    have h9 := Lib.hid (setRow_heap w4 (w.heap.size + 1 + 1) _ (Lib.byteCells (sumL (x ++ y))).toArray _ _ (blk_below (show w1.drew.heap[w.heap.size + 1 + 1]? = _ from HZ.out) hb4.out))
    have hB9 := Lib.hid (show Below w.heap.size w (w4.setRow (w.heap.size + 1 + 1) (Lib.byteCells (sumL (x ++ y))).toArray) from
      (HB.out.drew.trans (Below.mono hb4.out HB.out.size)).trans ⟨rfl, rfl, rfl, by simp, fun k hk => setRow_other _ _ _ _ (by omega)⟩)
    clear hst hln hlt cx cy cx2 cy2
    go_wp2_with fail
    refine bodyPost_ret (v := .agg (Lib.byteCells (sumL (x ++ y))).toArray) ?_ rfl ⟨rfl, hB9.out⟩
    simp [results, Tryd.results25, asAddr, run_load_dig h9.out (sumL_len _), Act.put]
end Go.Proofs.YtldpnmebjnkjeaaDoor.Sha
namespace Go.Proofs.YtldpnmebjnkjeaaDoor.Sha
/-- Three bytes. -/
theorem abc_hex : hexL (sumL [97, 98, 99]) = [98, 97, 55, 56, 49, 54, 98, 102, 56, 102, 48, 49, 99, 102, 101, 97, 52, 49, 52, 49, 52, 48, 100, 101, 53, 100, 97, 101, 50, 50, 50, 51, 98, 48, 48, 51, 54, 49, 97, 51, 57, 54, 49, 55, 55, 97, 57, 99, 98, 52, 49, 48, 102, 102, 54, 49, 102, 50, 48, 48, 49, 53, 97, 100] := by decide +kernel
end Go.Proofs.YtldpnmebjnkjeaaDoor.Sha
namespace Go.Proofs.YtldpnmebjnkjeaaDoor.Sha
open Go.RowKit Go.Proofs.YtldpnmebjnkjeaaDoorW.PrintWords
set_option linter.unusedVariables false
set_option linter.unusedSimpArgs false

theorem eqItems (w : World) (l m : List UInt8) : ∀ is : List Nat, (∀ i ∈ is, i < l.length ∧ i < m.length) →
    (Op.eqItems 9999 5 1 (Lib.byteCells l).toArray (Lib.byteCells m).toArray is).run Tryd.prog w = .ok (is.all fun i => l[i]? == m[i]?) w
  | [], _ => by simp [Op.eqItems]
  | i :: is, h => by
    have h1 := h i (by simp)
    have hp : Tryd.prog.plainKey 5 = true := by kernel_rfl
    have hu : Tryd.prog.underlying 5 = some (.int .u8) := by kernel_rfl
    have e1 : (Lib.byteCells l).toArray[i]? = some (.int .u8 (l[i].toNat : Int)) := by
      rw [List.getElem?_toArray, Lib.byteCells, List.getElem?_map, List.getElem?_eq_getElem h1.1]; rfl
    have e2 : (Lib.byteCells m).toArray[i]? = some (.int .u8 (m[i].toNat : Int)) := by
      rw [List.getElem?_toArray, Lib.byteCells, List.getElem?_map, List.getElem?_eq_getElem h1.2]; rfl
    have hb : ((l[i].toNat : Int) == (m[i].toNat : Int)) = (l[i]? == m[i]?) := by
      rw [List.getElem?_eq_getElem h1.1, List.getElem?_eq_getElem h1.2, Bool.eq_iff_iff]
      simp only [beq_iff_eq, Int.natCast_inj, Option.some.injEq]
      exact ⟨fun h => UInt8.toNat_inj.1 h, fun h => by rw [h]⟩
    simp only [Op.eqItems, Sem.run_bind, Nat.mul_one, run_part_plain w hp e1, run_part_plain w hp e2, Result.andThen_ok, run_equalIn_int w 9998 5 .u8 .u8 _ _ hu, hb, List.all_cons]
    cases l[i]? == m[i]?
    · simp
    · simpa using eqItems w l m is (fun j hj => h j (by simp [hj]))

/-- Are two digests one? -/
theorem eq32 (w : World) (l m : List UInt8) (hl : l.length = 32) (hm : m.length = 32) :
    (Op.equalIn 10000 24 (.agg (Lib.byteCells l).toArray) (.agg (Lib.byteCells m).toArray)).run Tryd.prog w = .ok (decide (l = m)) w := by
  have hc : Tryd.prog.cellsOf 5 = 1 := by kernel_rfl
  obtain ⟨i, hi⟩ : ∃ i, Tryd.prog.info? 5 = some i := by
    have h : (Tryd.prog.info? 5).isSome = true := by kernel_rfl
    exact Option.isSome_iff_exists.1 h
  rw [run_equalIn_array w 9999 _ _ (show Tryd.prog.underlying 24 = some (.array 32 5) by kernel_rfl) hi, hc, eqItems w l m _ (fun i hi => by have := List.mem_range.1 hi; omega)]
  refine congrArg (fun b => Result.ok b w) ?_
  rw [Bool.eq_iff_iff, List.all_eq_true, decide_eq_true_eq]
  constructor
  · intro h
    apply List.ext_getElem?
    intro i
    by_cases hi : i < 32
    · simpa using h i (List.mem_range.2 hi)
    · rw [List.getElem?_eq_none (by omega), List.getElem?_eq_none (by omega)]
  · rintro rfl i _
    simp
/-- A digest out of a variable, whatever the operation's guard, if it runs. -/
theorem wpList_load_digG {ops : Array Oper} {rest : List Oper} {o : Oper} {a : Act} {Q : Exit → Act → World → Prop} {w : World} (hw : Region.wanted o (yielded ops a.tmps) = true) (x : Operand) (ho : o.op = .load 24 x) (b : Nat) (hx : a.eval x = .pointer (some ⟨b, 0, none⟩))
    (l : List UInt8) (hl : l.length = 32) (t : TypeId) (fr : Nat × Nat) (hr : w.heap[b]? = some (.cells (Lib.byteCells l).toArray t fr)) (h : wpList Tryd.prog ops Q rest (a.put o.dst (.agg (Lib.byteCells l).toArray)) w) : wpList Tryd.prog ops Q (o :: rest) a w := by
  refine wpList_step fun K hK => ?_
  rw [if_pos hw]
  refine wp_load_mid 24 x ho b 0 hx (Lib.byteCells l) (.array 32 5) ?_ (by kernel_rfl) rfl (by rw [Lib.byteCells, List.length_map, hl]; kernel_rfl) (hK _ _ h)
  intro j v hv
  rw [Nat.zero_add, cell_of_row _ _ _ _ _ _ hr]
  simpa using hv
/-- A digest's variable. -/
def DigAt (b : Nat) (l : List UInt8) (w : World) : Prop := w.heap[b]? = some (.cells (Lib.byteCells l).toArray 24 (0, 0))
theorem DigAt.below {b : Nat} {l : List UInt8} {w w1 : World} (h : DigAt b l w) (hb : Below w.heap.size w w1) : DigAt b l w1 := blk_below h hb
set_option maxHeartbeats 4000000 in
set_option maxRecDepth 100000 in
theorem alive_calls (w : World) (hK : KAt w) : Calls Tryd.prog 15 #[] w fun e w' => e = .returned (.bool true) ∧ Below w.heap.size w w' := by
  have hab := abc_hex
  have hl := sumL_len [97, 98, 99]
  generalize hD : sumL [97, 98, 99] = D at hab hl
  replace hab := Lib.hid hab
  replace hl := Lib.hid hl
  replace hD := Lib.hid hD
  go_enter Tryd.func15, Tryd.ntmps15
  go_wp2_with fail
  refine (sum_ok ⟨#[97, 98, 99]⟩ w hK (by decide)).mono ?_
  rintro e w1 ⟨rfl, hb⟩
  rw [show ((⟨#[97, 98, 99]⟩ : ByteArray)).data.toList = [97, 98, 99] from rfl, hD.out]
  replace hb := Lib.hid hb
  go_wp2_with (first | (refine wpList_store_dig rfl (.tmp 1) (.tmp 5) rfl w1.heap.size rfl D hl.out rfl (Lib.byteCells (List.replicate 32 0)).toArray 24 (heap_alloc_last _ _) (by rw [List.size_toArray, Lib.byteCells, List.length_map, z32_len]) ?_; intro w2 h2 _ hB2) | (refine wpList_load_digG rfl (.tmp 1) rfl w1.heap.size rfl D hl.out _ _ h2.out ?_))
  refine (hex_calls D hl.out w2).mono ?_
  rintro e w3 ⟨rfl, hb3⟩
  rw [hab.out]
  have hB := Lib.hid (((hB2 ((Below.alloc hb.out hb.out.size _)) hb.out.size).trans (Below.mono hb3 (Below.size (hB2 ((Below.alloc hb.out hb.out.size _)) hb.out.size)))))
  clear hb3 hB2
  go_wp2_with fail
  go_ret
  exact ⟨rfl, hB.out⟩
end Go.Proofs.YtldpnmebjnkjeaaDoor.Sha
namespace Go.Proofs.YtldpnmebjnkjeaaDoor.Ref10
open Go.RowKit Go.Proofs.YtldpnmebjnkjeaaDoorW.PrintWords Go.Proofs.YtldpnmebjnkjeaaDoor.PH1 Go.Proofs.YtldpnmebjnkjeaaDoor Go.Proofs.YtldpnmebjnkjeaaDoorW.PrintLast Go.Proofs.YtldpnmebjnkjeaaDoorW.PrintMore
open Go.Proofs.YtldpnmebjnkjeaaDoor.Sha
set_option linter.unusedVariables false
set_option linter.unusedSimpArgs false

/-! Are two hashes one? (Of one and the same hash.) -/
theorem eqItemsW (w : World) (d : Nat) (L : List UInt32) : ∀ is : List Nat, (∀ i ∈ is, i < L.length) →
    (Op.eqItems (d + 1) 28 1 (L.map wv).toArray (L.map wv).toArray is).run Tryd.prog w = .ok true w
  | [], _ => by simp [Op.eqItems]
  | i :: is, h => by
    have h1 := h i (by simp)
    have hp : Tryd.prog.plainKey 28 = true := by kernel_rfl
    have hu : Tryd.prog.underlying 28 = some (.int .u32) := by kernel_rfl
    have e1 : (L.map wv).toArray[i]? = some (.int .u32 (L[i].toNat : Int)) := by
      rw [List.getElem?_toArray, List.getElem?_map, List.getElem?_eq_getElem h1]; rfl
    simp only [Op.eqItems, Sem.run_bind, Nat.mul_one, run_part_plain w hp e1, Result.andThen_ok, run_equalIn_int w d 28 .u32 .u32 _ _ hu]
    simpa using eqItemsW w d L is (fun j hj => h j (by simp [hj]))
theorem eqW8 (w : World) (d : Nat) (v : V8) : (Op.equalIn (d + 2) 29 (.agg (wag v)) (.agg (wag v))).run Tryd.prog w = .ok true w := by
  have hc : Tryd.prog.cellsOf 28 = 1 := by kernel_rfl
  obtain ⟨i, hi⟩ : ∃ i, Tryd.prog.info? 28 = some i := by
    have h : (Tryd.prog.info? 28).isSome = true := by kernel_rfl
    exact Option.isSome_iff_exists.1 h
  rw [run_equalIn_array w (d + 1) _ _ (show Tryd.prog.underlying 29 = some (.array 8 28) by kernel_rfl) hi, hc]
  exact eqItemsW w d v.list _ (fun i hi => by have := List.mem_range.1 hi; exact this)
theorem eqFieldsH (w : World) (d : Nat) (v : V8) (r : ByteArray) (n : Int) : (Op.equalIn (d + 3) 31 (.agg (HA v r n)) (.agg (HA v r n))).run Tryd.prog w = .ok true w := by
  have hf : Tryd.prog.underlying 31 = some (.struct (Tryd.prog.fieldsOf 31)) := by kernel_rfl
  have hst : Tryd.prog.stoodInHeld 31 = false := by kernel_rfl
  rw [run_equalIn_struct w (d + 2) _ _ _ hf hst]
  have hfs : ∃ f0 f1 f2 : Field, (Tryd.prog.fieldsOf 31).toList = [f0, f1, f2] ∧ f0.type = 29 ∧ f1.type = 9 ∧ f2.type = 3 ∧ f0.offset = 0 ∧ f1.offset = 8 ∧ f2.offset = 9 := by
    have h1 := Tryd.underlying31
    rw [hf] at h1
    have h2 := TypeDesc.struct.inj (Option.some.inj h1)
    rw [h2]
    exact ⟨_, _, _, rfl, rfl, rfl, rfl, rfl, rfl, rfl⟩
  obtain ⟨f0, f1, f2, hl, t0, t1, t2, o0, o1, o2⟩ := hfs
  rw [hl]
  have p0 : (part 29 (HA v r n) 0).run Tryd.prog w = .ok (.agg (wag v)) w := by
    have hi : ∃ i : TypeInfo, Tryd.prog.info? 29 = some i ∧ i.size = 8 := by
      have h : (Tryd.prog.info? 29).map (fun i => i.size) = some 8 := by kernel_rfl
      cases hq : Tryd.prog.info? 29 with
      | none => rw [hq] at h; cases h
      | some i => rw [hq] at h; exact ⟨i, rfl, Option.some.inj h⟩
    obtain ⟨i, hi, hs⟩ := hi
    simp [part, isAgg, run_underlying (show Tryd.prog.underlying 29 = some (.array 8 28) by kernel_rfl), run_sizeOf w hi, hs, HA, wag, V8.list]
  have p1 : (part 9 (HA v r n) 8).run Tryd.prog w = .ok (.string r) w := run_part_plain w (by kernel_rfl) rfl
  have p2 : (part 3 (HA v r n) 9).run Tryd.prog w = .ok (.int .i64 n) w := run_part_plain w (by kernel_rfl) rfl
  simp only [Op.eqFields, t0, t1, t2, o0, o1, o2, Sem.run_bind, Sem.run_ite, p0, p1, p2, Result.andThen_ok, eqW8 w d v, run_equalIn_string (P := Tryd.prog) w (d + 1) 9 r r (by kernel_rfl), run_equalIn_int (P := Tryd.prog) w (d + 1) 3 .i64 .i64 n n (by kernel_rfl)]
  simp
theorem eqH (w : World) (v : V8) (r : ByteArray) (n : Int) : (Op.equalIn 10000 31 (.agg (HA v r n)) (.agg (HA v r n))).run Tryd.prog w = .ok true w := eqFieldsH w 9997 v r n
set_option maxHeartbeats 4000000 in
set_option maxRecDepth 100000 in
theorem rright_calls (v : V8) (rest : ByteArray) (n : Int) (w : World) :
    Calls Tryd.prog 19 #[.agg (HA v rest n)] w fun e w' => e = .returned (.bool (rightH rest.size n)) ∧ Below w.heap.size w w' := by
  rw [← HA_eq]
  unfold hashV
  by_cases h0 : 0 ≤ n
  · by_cases h1 : n ≤ 1048576
    · have hr : rightH rest.size n = decide ((rest.size : Int) = n % 64) := by
        unfold rightH; rw [Int.tmod_eq_emod_of_nonneg h0]; simp [h0, h1]
      rw [hr]
      clear hr
      go_enter Tryd.func19, Tryd.ntmps19
      go_wp2_with fail
      go_ret
      exact ⟨rfl, (Below.refl _ _).alloc (Nat.le_refl _) _⟩
    · have hr : rightH rest.size n = false := by unfold rightH; simp [h1]
      rw [hr]
      clear hr
      have h1b : decide (n ≤ 1048576) = false := by simpa using h1
      go_enter Tryd.func19, Tryd.ntmps19
      go_wp2_with fail
      go_ret
      exact ⟨rfl, (Below.refl _ _).alloc (Nat.le_refl _) _⟩
  · have hr : rightH rest.size n = false := by unfold rightH; simp [h0]
    rw [hr]
    clear hr
    have h0b : decide (0 ≤ n) = false := by simpa using h0
    go_enter Tryd.func19, Tryd.ntmps19
    go_wp2_with fail
    go_ret
    exact ⟨rfl, (Below.refl _ _).alloc (Nat.le_refl _) _⟩
/-! Loads of a hash, whole. -/
def HL (v : V8) (r : ByteArray) (n : Int) : List Value := v.list.map wv ++ [Value.string r, Value.int .i64 n]
theorem HL_range {b : Nat} {v : V8} {r : ByteArray} {n : Int} {w : World} {t : TypeId} {fr : Nat × Nat} (h : w.heap[b]? = some (.cells (HA v r n) t fr)) : w.rangeAt b 0 (HL v r n) := range_row h
theorem wpList_load_H {ops : Array Oper} {rest : List Oper} {o : Oper} {a : Act} {Q : Exit → Act → World → Prop} {w : World} (hw : Region.wanted o (yielded ops a.tmps) = true) (x : Operand) (ho : o.op = .load 31 x) (b : Nat) (hx : a.eval x = .pointer (some ⟨b, 0, none⟩))
    (v : V8) (r : ByteArray) (n : Int) (hr : w.rangeAt b 0 (HL v r n)) (h : wpList Tryd.prog ops Q rest (a.put o.dst (.agg (HA v r n))) w) : wpList Tryd.prog ops Q (o :: rest) a w := by
  refine wpList_step fun K hK => ?_
  rw [if_pos hw]
  exact wp_load_mid 31 x ho b 0 hx (HL v r n) _ hr Tryd.underlying31 rfl (by show _ = some 10; kernel_rfl) (hK _ _ h)
theorem yieldsIf_H {ops : Array Oper} {S : World → Prop} {op : Oper} {a : Act} (hw : Region.wanted op (yielded ops a.tmps) = true) (x : Operand) (ho : op.op = .load 31 x)
    (b : Nat) (hx : a.eval x = .pointer (some ⟨b, 0, none⟩)) (v : V8) (r : ByteArray) (n : Int) (hS : ∀ w, S w → w.rangeAt b 0 (HL v r n)) : YieldsIf Tryd.prog ops S op (.agg (HA v r n)) a :=
  yieldsIf_load_mid hw 31 x ho b 0 hx (HL v r n) _ hS Tryd.underlying31 rfl (by show _ = some 10; kernel_rfl)
theorem built_H0 (v : V8) : Tryd.prog.built 31 [(0, .agg (wag v))] = some (HA v ⟨#[]⟩ 0) := by
  obtain ⟨i, hi, hz⟩ := h_info
  have hp : ∃ fs : Array Field, Tryd.prog.underlying 31 = some (.struct fs) ∧ (fs.toList.mapM fun f => (Tryd.prog.info? f.type).map fun i => (f.offset, i.size)) = some [(0, 8), (8, 1), (9, 1)] := ⟨_, Tryd.underlying31, by kernel_rfl⟩
  obtain ⟨fs, hu, hp⟩ := hp
  unfold Program.built
  rw [hi, hu]
  simp only [hz, hp]
  rw [show (Value.agg (HA z8 ⟨#[]⟩ 0)).cells = #[.int .u32 0, .int .u32 0, .int .u32 0, .int .u32 0, .int .u32 0, .int .u32 0, .int .u32 0, .int .u32 0, .string ⟨#[]⟩, .int .i64 0] from rfl]
  simp [wag, V8.list, Value.cells, HA, Instr.fill, Array.zipIdx]
theorem yieldsIf_build_H0 {ops : Array Oper} {S : World → Prop} {op : Oper} {a : Act} (hw : Region.wanted op (yielded ops a.tmps) = true) (x : Operand) (ho : op.op = .build 31 #[(0, x)])
    (v : V8) (hx : a.eval x = .agg (wag v)) : YieldsIf Tryd.prog ops S op (.agg (HA v ⟨#[]⟩ 0)) a :=
  .inl ⟨hw, fun w _ => by
    unfold execOp
    simp only [ho, List.map_toArray, List.map_cons, List.map_nil, hx]
    rw [Sem.run_bind, run_build w 31 #[(0, .agg (wag v))] (HA v ⟨#[]⟩ 0) (built_H0 v)]
    rfl⟩
end Go.Proofs.YtldpnmebjnkjeaaDoor.Ref10
namespace Go.Proofs.YtldpnmebjnkjeaaDoor.Ref10
open Go.RowKit Go.Proofs.YtldpnmebjnkjeaaDoorW.PrintWords Go.Proofs.YtldpnmebjnkjeaaDoor.PH1 Go.Proofs.YtldpnmebjnkjeaaDoor Go.Proofs.YtldpnmebjnkjeaaDoorW.PrintLast Go.Proofs.YtldpnmebjnkjeaaDoorW.PrintMore
open Go.Proofs.YtldpnmebjnkjeaaDoor.Sha
set_option linter.unusedVariables false
set_option linter.unusedSimpArgs false

/-- What the document's Parse makes. -/
def rparseV (s : ByteArray) : Value := .tuple (if s.size = 64 ∧ allDigits s.data.toList = true then #[.agg (Lib.byteCells (dp s.data.toList 64)).toArray, .bool true] else #[zeroDig, .bool false])
theorem dp_two (s : List UInt8) (i : Nat) (h : i < 32) (a b : UInt8) (ha : s.getD (2 * i) 0 = a) (hb : s.getD (2 * i + 1) 0 = b) :
    (dp s (2 * i)).set i (UInt8.ofNat (16 * (val a).toNat + (val b).toNat)) = dp s (2 * (i + 1)) := by
  have h1 := dp_step s (2 * i) (by omega) _ rfl
  have h2 := dp_step s (2 * i + 1) (by omega) _ rfl
  rw [show 2 * i / 2 = i by omega] at h1
  rw [show (2 * i + 1) / 2 = i by omega] at h2
  rw [← h1, List.set_set] at h2
  rw [show 2 * (i + 1) = 2 * i + 1 + 1 by omega, ← h2]
  congr 1
  unfold dpAt
  rw [if_pos (by omega), ha, hb]
set_option maxHeartbeats 4000000 in
set_option maxRecDepth 100000 in
theorem rparse_len (s : ByteArray) (w : World) (hs : s.size ≠ 64) :
    Calls Tryd.prog 23 #[.string s] w fun e w' => e = .returned (.tuple #[zeroDig, .bool false]) ∧ Below w.heap.size w w' := by
  have h1 : ((s.size : Int) == 64) = false := by simp; omega
  have h2 : ((s.size : Int) != 64) = true := by simp; omega
  replace hs := Lib.hid hs
  have hb3 : ((w.alloc (.cells (Lib.byteCells (List.replicate 32 0)).toArray 24)).alloc (.cells (Lib.byteCells (List.replicate 32 0)).toArray 24)).heap[w.heap.size + 1]? = some (.cells (Lib.byteCells (List.replicate 32 0)).toArray 24 (0, 0)) := heap_at1 _ _ _
  have hb2 : ((w.alloc (.cells (Lib.byteCells (List.replicate 32 0)).toArray 24)).alloc (.cells (Lib.byteCells (List.replicate 32 0)).toArray 24)).heap[w.heap.size]? = some (.cells (Lib.byteCells (List.replicate 32 0)).toArray 24 (0, 0)) := by
    rw [Below.heap_alloc _ _ _ (by simp)]; exact heap_alloc_last _ _
  replace hb3 := Lib.hid hb3
  replace hb2 := Lib.hid hb2
  go_enter Tryd.func23, Tryd.ntmps23
  go_wp2_with (first | (refine wpList_store_dig rfl (.tmp 4) (.tmp 8) rfl (w.heap.size + 1) rfl (List.replicate 32 0) z32_len rfl (Lib.byteCells (List.replicate 32 0)).toArray 24 hb3.out (by rw [List.size_toArray, Lib.byteCells, List.length_map, z32_len]) ?_; intro w1 h9 hk9 hB9; have hr1 := Lib.hid (show w1.heap[w.heap.size]? = some (.cells (Lib.byteCells (List.replicate 32 0)).toArray 24 (0, 0)) from (hk9 _ (by omega)).trans hb2.out)) | (refine wpList_load_dig (o := ⟨some 12, _, _, _, _, _⟩) rfl (.tmp 4) rfl (w.heap.size + 1) rfl (List.replicate 32 0) z32_len _ _ h9.out ?_) | (refine wpList_store_dig rfl (.tmp 2) (.tmp 12) rfl w.heap.size rfl (List.replicate 32 0) z32_len rfl _ _ hr1.out (by rw [List.size_toArray, Lib.byteCells, List.length_map, z32_len]) ?_; intro w2 h8 _ hB8))
  refine bodyPost_ret (v := .tuple #[zeroDig, .bool false]) ?_ rfl ⟨rfl, hB8 (hB9 (((Below.refl _ _).alloc (Nat.le_refl _) _).alloc (by simp) _) (by omega)) (by omega)⟩
  simp [results, Tryd.results23, asAddr, run_load_dig h8.out z32_len, Act.put, zeroDig]
set_option maxHeartbeats 8000000 in
set_option maxRecDepth 100000 in
theorem rparse_full (s : ByteArray) (w : World) (hs : s.size = 64) :
    Calls Tryd.prog 23 #[.string s] w fun e w' => e = .returned (rparseV s) ∧ Below w.heap.size w w' := by
  have hsl : s.data.toList.length = 64 := by rw [← Lib.size_eq]; exact hs
  have h1 : ((s.size : Int) == 64) = true := by simp; omega
  have h2 : ((s.size : Int) != 64) = false := by simp; omega
  replace hs := Lib.hid hs
  replace hsl := Lib.hid hsl
  have hb3 : ((w.alloc (.cells (Lib.byteCells (List.replicate 32 0)).toArray 24)).alloc (.cells (Lib.byteCells (List.replicate 32 0)).toArray 24)).heap[w.heap.size + 1]? = some (.cells (Lib.byteCells (List.replicate 32 0)).toArray 24 (0, 0)) := heap_at1 _ _ _
  have hb2 : ((w.alloc (.cells (Lib.byteCells (List.replicate 32 0)).toArray 24)).alloc (.cells (Lib.byteCells (List.replicate 32 0)).toArray 24)).heap[w.heap.size]? = some (.cells (Lib.byteCells (List.replicate 32 0)).toArray 24 (0, 0)) := by
    rw [Below.heap_alloc _ _ _ (by simp)]; exact heap_alloc_last _ _
  replace hb3 := Lib.hid hb3
  replace hb2 := Lib.hid hb2
  go_enter Tryd.func23, Tryd.ntmps23
  go_wp2_with (refine wpList_store_dig rfl (.tmp 4) (.tmp 8) rfl (w.heap.size + 1) rfl (List.replicate 32 0) z32_len rfl (Lib.byteCells (List.replicate 32 0)).toArray 24 hb3.out (by rw [List.size_toArray, Lib.byteCells, List.length_map, z32_len]) ?_; intro w1 h9 hk9 hB9)
  have HR : Hid (w1.heap[w.heap.size]? = some (.cells (Lib.byteCells (List.replicate 32 0)).toArray 24 (0, 0))) := Lib.hid ((hk9 _ (by omega)).trans hb2.out)
  have HD : Hid (w1.heap[w.heap.size + 1]? = some (.cells (Lib.byteCells (dp s.data.toList (2 * 0))).toArray 24 (0, 0))) := by
    rw [Nat.mul_zero, dp_zero]; exact h9
  have HB : Hid (Below w.heap.size w w1) := Lib.hid (hB9 (((Below.refl _ _).alloc (Nat.le_refl _) _).alloc (by simp) _) (by omega))
  clear h9 hk9 hB9 hb3 hb2 h1 h2
  have hz : (s.size : Int) = 64 := by have := hs.out; omega
  go_loopw [13] (fun i wr => ∃ j : Nat, j ≤ 32 ∧ i = .int .i64 j ∧ Hid (∀ k, k < 2 * j → 0 ≤ val (s.data.toList.getD k 0)) ∧ Hid (wr.heap[w.heap.size]? = some (.cells (Lib.byteCells (List.replicate 32 0)).toArray 24 (0, 0))) ∧ Hid (wr.heap[w.heap.size + 1]? = some (.cells (Lib.byteCells (dp s.data.toList (2 * j))).toArray 24 (0, 0))) ∧ Hid (Below w.heap.size w wr)) (fun i _ => 32 - (intOf i).toNat)
  case atStart => exact ⟨0, by omega, rfl, Lib.hid (fun k hk => by omega), HR, HD, HB⟩
  case round =>
    clear HR HD HB
    obtain ⟨j, hj, rfl, HV, HR, HD, HB⟩ := hrel
    by_cases h32 : j < 32
    · have k32 : (j : Int) < 32 := by omega
      have hjs : 2 * j < s.size := by have := hs.out; omega
      have hjs1 : 2 * j + 1 < s.size := by have := hs.out; omega
      have hjl : 2 * j < s.data.toList.length := by rw [hsl.out]; omega
      have hjl1 : 2 * j + 1 < s.data.toList.length := by rw [hsl.out]; omega
      have hsj : s[2 * j] = s.data.toList.getD (2 * j) 0 := by
        rw [List.getD_eq_getElem?_getD, List.getElem?_eq_getElem hjl]
        rfl
      have hsj1 : s[2 * j + 1] = s.data.toList.getD (2 * j + 1) 0 := by
        rw [List.getD_eq_getElem?_getD, List.getElem?_eq_getElem hjl1]
        rfl
      have hm0 : (0 : Int) ≤ 2 * (j : Int) := by omega
      have hm1 : (2 : Int) * (j : Int) < 64 := by omega
      have hm2 : (2 : Int) * (j : Int) + 1 < 64 := by omega
      generalize hA : s.data.toList.getD (2 * j) 0 = a at hsj
      generalize hC : s.data.toList.getD (2 * j + 1) 0 = c at hsj1
      have ca := cashbookref10_value.calls 2000 _ _ wr (value_run a)
      replace hA := Lib.hid hA
      replace hC := Lib.hid hC
      replace hz := Lib.hid hz
      go_wp2_with fail
      refine ca.mono ?_
      rintro e w2 ⟨rfl, hb⟩
      have cc := cashbookref10_value.calls 2000 _ _ w2 (value_run c)
      have hb1 := hb.below
      replace HR := Lib.hid (blk_below HR.out hb1)
      replace HD := Lib.hid (blk_below HD.out hb1)
      replace HB := Lib.hid (HB.out.trans (hb1.mono HB.out.size))
      clear hb hb1 ca
      go_wp2_with fail
      refine cc.mono ?_
      rintro e w3 ⟨rfl, hb⟩
      have hb1 := hb.below
      replace HR := Lib.hid (blk_below HR.out hb1)
      replace HD := Lib.hid (blk_below HD.out hb1)
      replace HB := Lib.hid (HB.out.trans (hb1.mono HB.out.size))
      clear hb hb1 cc
      have ba := val_bd a
      have bc := val_bd c
      by_cases hneg : val a < 0 ∨ val c < 0
      · have hall : allDigits s.data.toList = false := by
          unfold allDigits
          rw [List.all_eq_false]
          rcases hneg with hn | hn
          · refine ⟨a, by rw [← hA.out, List.getD_eq_getElem?_getD, List.getElem?_eq_getElem hjl]; exact List.getElem_mem _, fun h => ?_⟩
            have := of_decide_eq_true h; omega
          · refine ⟨c, by rw [← hC.out, List.getD_eq_getElem?_getD, List.getElem?_eq_getElem hjl1]; exact List.getElem_mem _, fun h => ?_⟩
            have := of_decide_eq_true h; omega
        replace hall := Lib.hid hall
        clear HV HD
        by_cases hna : val a < 0
        · clear hneg bc
          generalize val a = va at hna ba ⊢
          go_wp2_with (refine wpList_store_dig rfl (.tmp 2) (.tmp 33) rfl w.heap.size rfl (List.replicate 32 0) z32_len rfl _ _ HR.out (by rw [List.size_toArray, Lib.byteCells, List.length_map, z32_len]) ?_; intro w9 h9 _ hB9)
          refine bodyPost_ret (v := .tuple #[zeroDig, .bool false]) ?_ rfl ⟨?_, hB9 HB.out (by omega)⟩
          · simp [results, Tryd.results23, asAddr, run_load_dig h9.out z32_len, Act.put, zeroDig]
          · unfold rparseV; rw [if_neg (fun h3 => by have := h3.2; rw [hall.out] at this; cases this)]
        · have hnc : val c < 0 := by omega
          clear hneg
          generalize val a = va at hna ba ⊢
          generalize val c = vc at hnc bc ⊢
          go_wp2_with (refine wpList_store_dig rfl (.tmp 2) (.tmp 33) rfl w.heap.size rfl (List.replicate 32 0) z32_len rfl _ _ HR.out (by rw [List.size_toArray, Lib.byteCells, List.length_map, z32_len]) ?_; intro w9 h9 _ hB9)
          refine bodyPost_ret (v := .tuple #[zeroDig, .bool false]) ?_ rfl ⟨?_, hB9 HB.out (by omega)⟩
          · simp [results, Tryd.results23, asAddr, run_load_dig h9.out z32_len, Act.put, zeroDig]
          · unfold rparseV; rw [if_neg (fun h3 => by have := h3.2; rw [hall.out] at this; cases this)]
      · have hpa : 0 ≤ val a := by omega
        have hpc : 0 ≤ val c := by omega
        have hV2 : Hid (∀ k, k < 2 * (j + 1) → 0 ≤ val (s.data.toList.getD k 0)) := Lib.hid (fun k hk => by
          by_cases h : k = 2 * j
          · subst h; rw [hA.out]; exact hpa
          · by_cases h' : k = 2 * j + 1
            · subst h'; rw [hC.out]; exact hpc
            · exact HV.out k (by omega))
        have hstep := dp_two s.data.toList j h32 a c hA.out hC.out
        have hf : ∀ i, w3.frozen? ⟨w.heap.size + 1, i, none⟩ = false := fun i => frozen_of_row w3 _ i _ _ HD.out
        have hdl : j < (Lib.byteCells (dp s.data.toList (2 * j))).length := by rw [Lib.byteCells, List.length_map, dp_len]; exact h32
        obtain ⟨y, hy⟩ : ∃ y, w3.cell? ⟨w.heap.size + 1, j, none⟩ = some y := ⟨_, by rw [cell_of_row _ _ _ _ _ _ HD.out, List.getElem?_toArray, List.getElem?_eq_getElem hdl]⟩
        have hval : 16 * val a + val c = ((UInt8.ofNat (16 * (val a).toNat + (val c).toNat)).toNat : Int) := by
          rw [UInt8.toNat_ofNat']; omega
        generalize UInt8.ofNat (16 * (val a).toNat + (val c).toNat) = z at hval hstep
        generalize val a = va at hpa ba hval hneg ⊢
        generalize val c = vc at hpc bc hval hneg ⊢
        replace hval := Lib.hid hval
        replace hstep := Lib.hid hstep
        replace hdl := Lib.hid hdl
        clear hneg
        go_wp2_with fail
        rw [hval.out]
        go_roundw
        case rel =>
          refine ⟨j + 1, by omega, by go_num, hV2, Lib.hid ?_, Lib.hid ?_, Lib.hid (HB.out.setCell (by simp) _)⟩
          · rw [Below.heap_setCell _ _ _ _ (by simp)]; exact HR.out
          · rw [set_row HD.out, ← hstep.out]
            simp [Lib.byteCells, List.map_set]
        case measure => simp [intOf]; omega
    · obtain rfl : j = 32 := by omega
      have hall : allDigits s.data.toList = true := by
        unfold allDigits
        rw [List.all_eq_true]
        intro x hx
        obtain ⟨k, hk, rfl⟩ := List.getElem_of_mem hx
        have := HV.out k (by rw [hsl.out] at hk; omega)
        rw [List.getD_eq_getElem?_getD, List.getElem?_eq_getElem hk] at this
        simpa using this
      rw [show 2 * 32 = 64 from rfl] at HD
      have hdl := Lib.hid (dp_len s.data.toList 64)
      generalize hE : dp s.data.toList 64 = D at HD hdl
      replace hE := Lib.hid hE
      replace hall := Lib.hid hall
      clear HV
      go_wp2_with (first | (refine wpList_load_dig (o := ⟨some 42, _, _, _, _, _⟩) rfl (.tmp 4) rfl (w.heap.size + 1) rfl D hdl.out _ _ HD.out ?_) | (refine wpList_store_dig rfl (.tmp 2) (.tmp 42) rfl w.heap.size rfl D hdl.out rfl _ _ HR.out (by rw [List.size_toArray, Lib.byteCells, List.length_map, z32_len]) ?_; intro w9 h9 _ hB9))
      refine bodyPost_ret (v := .tuple #[.agg (Lib.byteCells D).toArray, .bool true]) ?_ rfl ⟨?_, hB9 HB.out (by omega)⟩
      · simp [results, Tryd.results23, asAddr, run_load_dig h9.out hdl.out, Act.put]
      · unfold rparseV; rw [if_pos ⟨hs.out, hall.out⟩, hE.out]
theorem rparse_calls (s : ByteArray) (w : World) : Calls Tryd.prog 23 #[.string s] w fun e w' => e = .returned (rparseV s) ∧ Below w.heap.size w w' := by
  by_cases h : s.size = 64
  · exact rparse_full s w h
  · refine (rparse_len s w h).mono ?_
    rintro e w' ⟨rfl, hb⟩
    exact ⟨by unfold rparseV; rw [if_neg (fun h2 => h h2.1)], hb⟩
end Go.Proofs.YtldpnmebjnkjeaaDoor.Ref10
namespace Go.Proofs.YtldpnmebjnkjeaaDoor.Sha
set_option linter.unusedVariables false
set_option linter.unusedSimpArgs false

/-! Digits there and back. -/
theorem val_hd (n : Nat) (h : n < 16) : val (hd n) = n := by
  have all : ∀ m : Fin 16, val (hd m.val) = m.val := by decide +kernel
  exact all ⟨n, h⟩
theorem hd_val (b : UInt8) (h : 0 ≤ val b) : hd (val b).toNat = b := by
  have all : ∀ m : Fin 256, 0 ≤ val (UInt8.ofNat m.val) → hd (val (UInt8.ofNat m.val)).toNat = UInt8.ofNat m.val := by decide +kernel
  have h1 := all ⟨b.toNat, b.toNat_lt⟩
  rw [UInt8.ofNat_toNat] at h1
  exact h1 h
theorem hexL_get : ∀ (l : List UInt8) (k : Nat) (h : k < l.length), (hexL l)[2 * k]? = some (hd (l[k].toNat / 16)) ∧ (hexL l)[2 * k + 1]? = some (hd (l[k].toNat % 16))
  | a :: l, 0, _ => ⟨rfl, rfl⟩
  | a :: l, k + 1, h => by
    have ih := hexL_get l k (by simpa using h)
    have e : hexL (a :: l) = hd (a.toNat / 16) :: hd (a.toNat % 16) :: hexL l := rfl
    rw [e, show 2 * (k + 1) = 2 * k + 1 + 1 by omega, show 2 * k + 1 + 1 + 1 = (2 * k + 1) + 1 + 1 by omega]
    simpa using ih
theorem hexL_digits (l : List UInt8) : allDigits (hexL l) = true := by
  unfold allDigits
  rw [List.all_eq_true]
  intro x hx
  unfold hexL at hx
  rw [List.mem_flatMap] at hx
  obtain ⟨y, _, hy⟩ := hx
  have h1 : y.toNat / 16 < 16 := by have := y.toNat_lt; omega
  have h2 : y.toNat % 16 < 16 := by omega
  simp only [List.mem_cons, List.not_mem_nil, or_false] at hy
  rcases hy with rfl | rfl
  · rw [val_hd _ h1]; simp; omega
  · rw [val_hd _ h2]; simp; omega
theorem dp_hex (l : List UInt8) (h : l.length = 32) : dp (hexL l) 64 = l := by
  apply List.ext_getElem?
  intro k
  by_cases hk : k < 32
  · have hkl : k < l.length := by omega
    obtain ⟨g1, g2⟩ := hexL_get l k hkl
    rw [dp_get _ _ _ hk, List.getElem?_eq_getElem hkl]
    congr 1
    unfold dpAt
    rw [if_pos (by omega), List.getD_eq_getElem?_getD, List.getD_eq_getElem?_getD, g1, g2, Option.getD_some, Option.getD_some]
    have h1 : l[k].toNat / 16 < 16 := by have := l[k].toNat_lt; omega
    have h2 : l[k].toNat % 16 < 16 := by omega
    rw [val_hd _ h1, val_hd _ h2, Int.toNat_natCast, Int.toNat_natCast, show 16 * (l[k].toNat / 16) + l[k].toNat % 16 = l[k].toNat by omega]
    exact UInt8.ofNat_toNat
  · rw [List.getElem?_eq_none (by rw [dp_len]; omega), List.getElem?_eq_none (by omega)]
theorem hex_dp (s : List UInt8) (h : s.length = 64) (hd_ : allDigits s = true) : hexL (dp s 64) = s := by
  have hv : ∀ j (hj : j < s.length), 0 ≤ val s[j] := by
    intro j hj
    unfold allDigits at hd_
    rw [List.all_eq_true] at hd_
    have := hd_ s[j] (List.getElem_mem _)
    simpa using this
  apply List.ext_getElem?
  intro i
  by_cases hi : i < 64
  · have hk : i / 2 < 32 := by omega
    have hkl : i / 2 < (dp s 64).length := by rw [dp_len]; omega
    obtain ⟨g1, g2⟩ := hexL_get (dp s 64) (i / 2) hkl
    have hget : (dp s 64)[i / 2] = dpAt s 64 (i / 2) := by
      have := dp_get s 64 (i / 2) hk
      rw [List.getElem?_eq_getElem hkl] at this
      exact Option.some.inj this
    have e1 : s.getD (2 * (i / 2)) 0 = s[2 * (i / 2)]'(by omega) := by rw [List.getD_eq_getElem?_getD, List.getElem?_eq_getElem (by omega)]; rfl
    have e2 : s.getD (2 * (i / 2) + 1) 0 = s[2 * (i / 2) + 1]'(by omega) := by rw [List.getD_eq_getElem?_getD, List.getElem?_eq_getElem (by omega)]; rfl
    have v1 := hv (2 * (i / 2)) (by omega)
    have v2 := hv (2 * (i / 2) + 1) (by omega)
    have b1 := val_bd (s[2 * (i / 2)]'(by omega))
    have b2 := val_bd (s[2 * (i / 2) + 1]'(by omega))
    have hn : (dpAt s 64 (i / 2)).toNat = 16 * (val (s[2 * (i / 2)]'(by omega))).toNat + (val (s[2 * (i / 2) + 1]'(by omega))).toNat := by
      unfold dpAt
      rw [if_pos (by omega), e1, e2, UInt8.toNat_ofNat']
      omega
    rw [hget, hn] at g1 g2
    rw [show (16 * (val (s[2 * (i / 2)]'(by omega))).toNat + (val (s[2 * (i / 2) + 1]'(by omega))).toNat) / 16 = (val (s[2 * (i / 2)]'(by omega))).toNat by omega, hd_val _ v1] at g1
    rw [show (16 * (val (s[2 * (i / 2)]'(by omega))).toNat + (val (s[2 * (i / 2) + 1]'(by omega))).toNat) % 16 = (val (s[2 * (i / 2) + 1]'(by omega))).toNat by omega, hd_val _ v2] at g2
    by_cases he : i % 2 = 0
    · rw [show i = 2 * (i / 2) by omega, g1, List.getElem?_eq_getElem]
    · rw [show i = 2 * (i / 2) + 1 by omega, g2, List.getElem?_eq_getElem]
  · rw [List.getElem?_eq_none (by rw [hexL_len, dp_len]; omega), List.getElem?_eq_none (by omega)]
/-- What Parse makes of the digits of a digest. -/
theorem parseV_hex (l : List UInt8) (h : l.length = 32) : parseV ⟨(hexL l).toArray⟩ = .tuple #[.agg (Lib.byteCells l).toArray, .int .i64 0] := by
  have hs : (⟨(hexL l).toArray⟩ : ByteArray).size = 64 := by
    show (hexL l).toArray.size = 64
    rw [List.size_toArray, hexL_len, h]
  unfold parseV
  rw [if_pos ⟨hs, hexL_digits l⟩]
  rw [show (⟨(hexL l).toArray⟩ : ByteArray).data.toList = hexL l from rfl, dp_hex l h]
end Go.Proofs.YtldpnmebjnkjeaaDoor.Sha
namespace Go.Proofs.YtldpnmebjnkjeaaDoor.Ref10
open Go.RowKit Go.Proofs.YtldpnmebjnkjeaaDoorW.PrintWords Go.Proofs.YtldpnmebjnkjeaaDoor.PH1 Go.Proofs.YtldpnmebjnkjeaaDoor Go.Proofs.YtldpnmebjnkjeaaDoorW.PrintLast Go.Proofs.YtldpnmebjnkjeaaDoorW.PrintMore
open Go.Proofs.YtldpnmebjnkjeaaDoor.Sha
set_option linter.unusedVariables false
set_option linter.unusedSimpArgs false

theorem dig_range {p : Nat} {l : List UInt8} {v : World} (h : DigAt p l v) : v.rangeAt p 0 (Lib.byteCells l) := range_row h
theorem info_dig {l : List UInt8} (hl : l.length = 32) : (Tryd.prog.info? 24).map (·.size) = some (Lib.byteCells l).length := by rw [Lib.byteCells, List.length_map, hl]; kernel_rfl
theorem und_dig : Tryd.prog.underlying 24 = some (.array 32 5) := by kernel_rfl
theorem zrow_size : ((Lib.byteCells (List.replicate 32 0)).toArray).size = 32 := by rw [List.size_toArray, Lib.byteCells, List.length_map, z32_len]
/-- What the loads of the last region read. -/
def ST (b9 : Nat) (D : List UInt8) (b5 : Nat) (a : List UInt8) (b6 : Nat) (b : List UInt8) (W : World) : Prop := W.rangeAt b9 0 (Lib.byteCells D) ∧ W.rangeAt b5 0 (Lib.byteCells a) ∧ W.rangeAt b6 0 (Lib.byteCells b)
set_option maxHeartbeats 16000000 in
set_option maxRecDepth 100000 in
theorem tells_law (text : ByteArray) (a b : List UInt8) (ha : a.length = 32) (hbl : b.length = 32) (hex : ByteArray) (w : World) (ht : text.size ≤ 9223372036854775807) (hx : hex.size ≤ 9223372036854775807) (hK : KAt w) :
    Calls Tryd.prog 6 #[.string text, .agg (Lib.byteCells a).toArray, .agg (Lib.byteCells b).toArray, .string hex] w fun e w' => e = .returned (.bool true) ∧ Below w.heap.size w w' := by
  have hxl : (hex.extract 0 (min (hex.size : Int) 70).toNat).size ≤ 70 := by rw [ByteArray.size_extract]; omega
  have htl : (text.extract 0 (min (text.size : Int) 200).toNat).size ≤ 200 := by rw [ByteArray.size_extract]; omega
  replace ha := Lib.hid ha
  replace hbl := Lib.hid hbl
  go_enter Tryd.func6, Tryd.ntmps6
  go_upto_region 1 with fail
  generalize hw1 : (w.alloc _).alloc _ = w1
  have HA : Hid (DigAt w.heap.size a w1) := by
    rw [← hw1]; refine Lib.hid ?_; unfold DigAt; rw [Below.heap_alloc _ _ _ (by simp)]; exact heap_alloc_last _ _
  have HC : Hid (DigAt (w.heap.size + 1) b w1) := by
    rw [← hw1]; exact heap_at1 _ _ _
  have HB : Hid (Below w.heap.size w w1) := by
    rw [← hw1]; exact Lib.hid (((Below.refl _ _).alloc (Nat.le_refl _) _).alloc (by simp) _)
  have HK : Hid (KAt w1) := Lib.hid (hK.below HB.out)
  clear hw1 hK
  go_region
  replace HA : Hid (DigAt w.heap.size a w1.drew) := HA
  replace HC : Hid (DigAt (w.heap.size + 1) b w1.drew) := HC
  replace HK : Hid (KAt w1.drew) := HK
  replace HB := Lib.hid HB.out.drew
  generalize w1.drew = w2 at HA HC HK HB ⊢
  generalize hex.extract 0 (min (hex.size : Int) 70).toNat = x at hxl ⊢
  generalize text.extract 0 (min (text.size : Int) 200).toNat = t at htl ⊢
  replace hxl := Lib.hid hxl
  replace htl := Lib.hid htl
  obtain ⟨SA, hSA⟩ : ∃ s : ByteArray, s = ⟨a.toArray⟩ := ⟨_, rfl⟩
  obtain ⟨SB, hSB⟩ : ∃ s : ByteArray, s = ⟨b.toArray⟩ := ⟨_, rfl⟩
  replace hSA := Lib.hid hSA
  replace hSB := Lib.hid hSB
  have hDl := sumL_len t.data.toList
  have hsum := fun W => rsum_calls t (by have := htl.out; omega) W
  have hcall := sum_ok t w2 HK.out (by have := htl.out; omega)
  generalize sumL t.data.toList = D at hDl hsum hcall
  replace hDl := Lib.hid hDl
  replace hsum := Lib.hid hsum
  go_wp2_with fail
  refine hcall.mono ?_
  rintro e w3 ⟨rfl, hb⟩
  replace HA : Hid (DigAt w.heap.size a w3) := Lib.hid (HA.out.below hb)
  replace HC : Hid (DigAt (w.heap.size + 1) b w3) := Lib.hid (HC.out.below hb)
  replace HK : Hid (KAt w3) := Lib.hid (HK.out.below hb)
  replace HB : Hid (Below w.heap.size w w3) := Lib.hid (HB.out.trans (Below.mono hb HB.out.size))
  clear hb hcall
  go_wp2_with (refine wpList_store_dig rfl (.tmp 9) (.tmp 28) rfl w3.heap.size rfl D hDl.out rfl (Lib.byteCells (List.replicate 32 0)).toArray 24 (heap_alloc_last _ _) zrow_size ?_; intro w4 h4 _ hB4; have hb4 : Below w3.heap.size w3 w4 := hB4 ((Below.refl _ _).alloc (Nat.le_refl _) _) (Nat.le_refl _))
  replace HA : Hid (DigAt w.heap.size a w4) := Lib.hid (HA.out.below hb4)
  replace HC : Hid (DigAt (w.heap.size + 1) b w4) := Lib.hid (HC.out.below hb4)
  replace HK : Hid (KAt w4) := Lib.hid (HK.out.below hb4)
  replace HB : Hid (Below w.heap.size w w4) := Lib.hid (HB.out.trans (Below.mono hb4 HB.out.size))
  clear hB4 hb4
  have H9 : Hid (DigAt w3.heap.size D w4) := h4
  clear h4
  generalize w3.heap.size = b9 at H9 ⊢
  refine (parse_calls x w4).mono ?_
  rintro e w5 ⟨rfl, hb⟩
  replace HA : Hid (DigAt w.heap.size a w5) := Lib.hid (HA.out.below hb)
  replace HC : Hid (DigAt (w.heap.size + 1) b w5) := Lib.hid (HC.out.below hb)
  replace HK : Hid (KAt w5) := Lib.hid (HK.out.below hb)
  replace HB : Hid (Below w.heap.size w w5) := Lib.hid (HB.out.trans (Below.mono hb HB.out.size))
  replace H9 := Lib.hid (H9.out.below hb)
  clear hb
  have hpr1 := fun W => rparse_calls x W
  by_cases hP : x.size = 64 ∧ allDigits x.data.toList = true
  · have hpv : parseV x = .tuple #[.agg (Lib.byteCells (dp x.data.toList 64)).toArray, .int .i64 0] := by unfold parseV; rw [if_pos hP]
    have hrv : rparseV x = .tuple #[.agg (Lib.byteCells (dp x.data.toList 64)).toArray, .bool true] := by unfold rparseV; rw [if_pos hP]
    rw [hpv]
    rw [hrv] at hpr1
    have hyl := dp_len x.data.toList 64
    generalize dp x.data.toList 64 = y at hyl hpr1 ⊢
    replace hyl := Lib.hid hyl
    clear hpv hrv hP
    replace hpr1 := Lib.hid hpr1
    go_wp2_with (refine wpList_store_dig rfl (.tmp 11) (.tmp 33) rfl w5.heap.size rfl y hyl.out rfl (Lib.byteCells (List.replicate 32 0)).toArray 24 (heap_alloc_last _ _) zrow_size ?_; intro w6 h6 _ hB6; have hb6 : Below w5.heap.size w5 w6 := hB6 ((Below.refl _ _).alloc (Nat.le_refl _) _) (Nat.le_refl _))
    replace HA : Hid (DigAt w.heap.size a w6) := Lib.hid (HA.out.below hb6)
    replace HC : Hid (DigAt (w.heap.size + 1) b w6) := Lib.hid (HC.out.below hb6)
    replace HK : Hid (KAt w6) := Lib.hid (HK.out.below hb6)
    replace HB : Hid (Below w.heap.size w w6) := Lib.hid (HB.out.trans (Below.mono hb6 HB.out.size))
    replace H9 := Lib.hid (H9.out.below hb6)
    have H11 : Hid (DigAt w5.heap.size y w6) := h6
    clear hB6 hb6 h6
    generalize w5.heap.size = b11 at H11 ⊢
    refine (hpr1.out w6).mono ?_
    rintro e w7 ⟨rfl, hb⟩
    replace HA : Hid (DigAt w.heap.size a w7) := Lib.hid (HA.out.below hb)
    replace HC : Hid (DigAt (w.heap.size + 1) b w7) := Lib.hid (HC.out.below hb)
    replace HK : Hid (KAt w7) := Lib.hid (HK.out.below hb)
    replace HB : Hid (Below w.heap.size w w7) := Lib.hid (HB.out.trans (Below.mono hb HB.out.size))
    replace H9 := Lib.hid (H9.out.below hb)
    replace H11 := Lib.hid (H11.out.below hb)
    clear hb hpr1
    go_upto_region 5 with (refine wpList_store_dig rfl (.tmp 13) (.tmp 38) rfl w7.heap.size rfl y hyl.out rfl (Lib.byteCells (List.replicate 32 0)).toArray 24 (heap_alloc_last _ _) zrow_size ?_; intro w8 h8 _ hB8; have hb8 : Below w7.heap.size w7 w8 := hB8 ((Below.refl _ _).alloc (Nat.le_refl _) _) (Nat.le_refl _))
    replace HA : Hid (DigAt w.heap.size a w8) := Lib.hid (HA.out.below hb8)
    replace HC : Hid (DigAt (w.heap.size + 1) b w8) := Lib.hid (HC.out.below hb8)
    replace HK : Hid (KAt w8) := Lib.hid (HK.out.below hb8)
    replace HB : Hid (Below w.heap.size w w8) := Lib.hid (HB.out.trans (Below.mono hb8 HB.out.size))
    replace H9 := Lib.hid (H9.out.below hb8)
    replace H11 := Lib.hid (H11.out.below hb8)
    have H13 : Hid (DigAt w7.heap.size y w8) := h8
    clear hB8 hb8 h8
    generalize w7.heap.size = b13 at H13 ⊢
    have heqy : ∀ v : World, (Op.equalIn 10000 24 (.agg (Lib.byteCells y).toArray) (.agg (Lib.byteCells y).toArray)).run Tryd.prog v = .ok true v := fun v => by rw [eq32 v y y hyl.out hyl.out]; simp
    go_upto_region 7 with (first | (guard_target = wpList _ _ _ (⟨some 45, _, _, _, _, _⟩ :: _) _ _; refine wpList_load_digG rfl (.tmp 11) rfl b11 rfl y hyl.out _ _ H11.out ?_) | (guard_target = wpList _ _ _ (⟨some 46, _, _, _, _, _⟩ :: _) _ _; refine wpList_load_digG rfl (.tmp 13) rfl b13 rfl y hyl.out _ _ H13.out ?_))
    clear heqy H11 H13
    have hab : (SA ++ SB : ByteArray).data.toList = a ++ b := by rw [ByteArray.data_append, Array.toList_append, hSA.out, hSB.out]
    have habz : (SA ++ SB : ByteArray).size ≤ 1048576 := by
      rw [ByteArray.size_append, hSA.out, hSB.out]
      show a.toArray.size + b.toArray.size ≤ _
      rw [List.size_toArray, List.size_toArray, ha.out, hbl.out]; omega
    have hs2 := fun W => rsum_calls (SA ++ SB) habz W
    rw [hab] at hs2
    have hpr := fun (W : World) (hk : KAt W) => pair_calls a b ha.out hbl.out W hk
    have hEl := sumL_len (a ++ b)
    generalize sumL (a ++ b) = E at hs2 hpr hEl
    have heqE : ∀ v : World, (Op.equalIn 10000 24 (.agg (Lib.byteCells E).toArray) (.agg (Lib.byteCells E).toArray)).run Tryd.prog v = .ok true v := fun v => by rw [eq32 v E E hEl hEl]; simp
    have heqD : ∀ v : World, (Op.equalIn 10000 24 (.agg (Lib.byteCells D).toArray) (.agg (Lib.byteCells D).toArray)).run Tryd.prog v = .ok true v := fun v => by rw [eq32 v D D hDl.out hDl.out]; simp
    have hlt : (9223372036854775807 < SA.size + SB.size) = False := eq_false (by rw [ByteArray.size_append] at habz; omega)
    have hx1 := fun W => hex_calls a ha.out W
    have hx2 := fun W => rhex_calls a ha.out W
    have hta := fun W => rtext_calls a ha.out W
    have htb := fun W => rtext_calls b hbl.out W
    rw [← hSA.out] at hta
    rw [← hSB.out] at htb
    obtain ⟨SX, hSX⟩ : ∃ s : ByteArray, s = ⟨(hexL a).toArray⟩ := ⟨_, rfl⟩
    rw [← hSX] at hx1 hx2
    have zD := info_dig hDl.out
    have zA := info_dig ha.out
    have zB := info_dig hbl.out
    replace hs2 := Lib.hid hs2
    replace hpr := Lib.hid hpr
    replace hx1 := Lib.hid hx1
    replace hx2 := Lib.hid hx2
    replace hta := Lib.hid hta
    replace htb := Lib.hid htb
    replace zD := Lib.hid zD
    replace zA := Lib.hid zA
    replace zB := Lib.hid zB
    clear hab habz hEl hSX
    refine wp_region_held (S := ST b9 D w.heap.size a (w.heap.size + 1) b) (by kernel_rfl) ?_
    change wpAnyH _ _ _ _ _ _ _ _ w8.drew
    replace HA : Hid (DigAt w.heap.size a w8.drew) := HA
    replace HC : Hid (DigAt (w.heap.size + 1) b w8.drew) := HC
    replace H9 : Hid (DigAt b9 D w8.drew) := H9
    replace HK : Hid (KAt w8.drew) := HK
    replace HB := Lib.hid HB.out.drew
    generalize w8.drew = v0 at HA HC H9 HK HB ⊢
    have hS : ST b9 D w.heap.size a (w.heap.size + 1) b v0 := ⟨dig_range H9.out, dig_range HA.out, dig_range HC.out⟩
    refine wpAnyH_all (rs := [0]) (by kernel_rfl) (by simp) ?_
    intro i hi
    simp only [List.mem_cons, List.not_mem_nil, or_false] at hi
    subst hi
    refine wpOp_wp rfl (by rfl) ?_
    go_simp
    refine (alive_calls v0 HK.out).mono ?_
    rintro e v1 ⟨rfl, hb⟩
    replace HA : Hid (DigAt w.heap.size a v1) := Lib.hid (HA.out.below hb)
    replace HC : Hid (DigAt (w.heap.size + 1) b v1) := Lib.hid (HC.out.below hb)
    replace HK : Hid (KAt v1) := Lib.hid (HK.out.below hb)
    replace HB : Hid (Below w.heap.size w v1) := Lib.hid (HB.out.trans (Below.mono hb HB.out.size))
    replace H9 : Hid (DigAt b9 D v1) := Lib.hid (H9.out.below hb)
    clear hb hS
    have hS : ST b9 D w.heap.size a (w.heap.size + 1) b v1 := ⟨dig_range H9.out, dig_range HA.out, dig_range HC.out⟩
    refine ⟨hS, ?_⟩
    try simp only [List.getElem_toArray, List.getElem_cons_succ, List.getElem_cons_zero, Act.put, List.setIfInBounds_toArray, List.set_cons_zero, List.set_cons_succ]
    refine wpAnyH_take (i := 1) (v := ?_) rfl (by kernel_rfl) (by kernel_rfl) (by kernel_rfl) (fun _ _ _ h => h) (Or.inl ⟨by rfl, ?_⟩) hS ?_
    rotate_left
    · intro v _; go_simp; first | done | with_reducible rfl
    rotate_left
    simp only [List.getElem_toArray, List.getElem_cons_succ, List.getElem_cons_zero, Act.put, List.setIfInBounds_toArray, List.set_cons_zero, List.set_cons_succ]
    refine wpAnyH_take (i := 2) (v := ?_) rfl (by kernel_rfl) (by kernel_rfl) (by kernel_rfl) (fun _ _ _ h => h) (Or.inl ⟨by rfl, ?_⟩) hS ?_
    rotate_left
    · intro v _; go_simp; first | done | with_reducible rfl
    rotate_left
    simp only [List.getElem_toArray, List.getElem_cons_succ, List.getElem_cons_zero, Act.put, List.setIfInBounds_toArray, List.set_cons_zero, List.set_cons_succ]
    refine wpAnyH_take (i := 3) (v := ?_) rfl (by kernel_rfl) (by kernel_rfl) (by kernel_rfl) (fun _ _ _ h => h) (Or.inl ⟨by rfl, ?_⟩) hS ?_
    rotate_left
    · intro v _; go_simp; first | done | with_reducible rfl
    rotate_left
    simp only [List.getElem_toArray, List.getElem_cons_succ, List.getElem_cons_zero, Act.put, List.setIfInBounds_toArray, List.set_cons_zero, List.set_cons_succ]
    refine wpAnyH_take (i := 4) (v := ?_) rfl (by kernel_rfl) (by kernel_rfl) (by kernel_rfl) (fun _ _ _ h => h) (Or.inl ⟨by rfl, ?_⟩) hS ?_
    rotate_left
    · intro v _; go_simp; first | done | with_reducible rfl
    rotate_left
    simp only [List.getElem_toArray, List.getElem_cons_succ, List.getElem_cons_zero, Act.put, List.setIfInBounds_toArray, List.set_cons_zero, List.set_cons_succ]
    refine wpAnyH_take (i := 5) (v := ?_) rfl (by kernel_rfl) (by kernel_rfl) (by kernel_rfl) (fun _ _ _ h => h) (Or.inl ⟨by rfl, ?_⟩) hS ?_
    rotate_left
    · intro v _; go_simp; first | done | with_reducible rfl
    rotate_left
    simp only [List.getElem_toArray, List.getElem_cons_succ, List.getElem_cons_zero, Act.put, List.setIfInBounds_toArray, List.set_cons_zero, List.set_cons_succ]
    refine wpAnyH_take (i := 6) (v := _) rfl (by kernel_rfl) (by kernel_rfl) (by kernel_rfl) (fun _ _ _ h => h) (yieldsIf_load_mid (by rfl) 24 (.tmp 9) rfl b9 0 rfl (Lib.byteCells D) (.array 32 5) (fun _ h => h.1) und_dig rfl zD.out) hS ?_
    simp only [List.getElem_toArray, List.getElem_cons_succ, List.getElem_cons_zero, Act.put, List.setIfInBounds_toArray, List.set_cons_zero, List.set_cons_succ]
    refine wpAnyH_take (i := 7) (v := ?_) rfl (by kernel_rfl) (by kernel_rfl) (by kernel_rfl) (fun _ _ _ h => h) (Or.inl ⟨by rfl, ?_⟩) hS ?_
    rotate_left
    · intro v _; go_simp; first | done | with_reducible rfl
    rotate_left
    simp only [List.getElem_toArray, List.getElem_cons_succ, List.getElem_cons_zero, Act.put, List.setIfInBounds_toArray, List.set_cons_zero, List.set_cons_succ]
    refine wpAnyH_all (rs := [8]) (by kernel_rfl) (by simp) ?_
    intro i hi
    simp only [List.mem_cons, List.not_mem_nil, or_false] at hi
    subst hi
    refine wpOp_wp rfl (by rfl) ?_
    go_simp
    refine (hsum.out v1).mono ?_
    rintro e v2 ⟨rfl, hb⟩
    replace HA : Hid (DigAt w.heap.size a v2) := Lib.hid (HA.out.below hb)
    replace HC : Hid (DigAt (w.heap.size + 1) b v2) := Lib.hid (HC.out.below hb)
    replace HK : Hid (KAt v2) := Lib.hid (HK.out.below hb)
    replace HB : Hid (Below w.heap.size w v2) := Lib.hid (HB.out.trans (Below.mono hb HB.out.size))
    replace H9 : Hid (DigAt b9 D v2) := Lib.hid (H9.out.below hb)
    clear hb hS
    have hS : ST b9 D w.heap.size a (w.heap.size + 1) b v2 := ⟨dig_range H9.out, dig_range HA.out, dig_range HC.out⟩
    refine ⟨hS, ?_⟩
    try simp only [List.getElem_toArray, List.getElem_cons_succ, List.getElem_cons_zero, Act.put, List.setIfInBounds_toArray, List.set_cons_zero, List.set_cons_succ]
    refine wpAnyH_take (i := 9) (v := ?_) rfl (by kernel_rfl) (by kernel_rfl) (by kernel_rfl) (fun _ _ _ h => h) (Or.inl ⟨by rfl, ?_⟩) hS ?_
    rotate_left
    · intro v _; go_simp; first | done | with_reducible rfl
    rotate_left
    simp only [List.getElem_toArray, List.getElem_cons_succ, List.getElem_cons_zero, Act.put, List.setIfInBounds_toArray, List.set_cons_zero, List.set_cons_succ]
    refine wpAnyH_take (i := 10) (v := ?_) rfl (by kernel_rfl) (by kernel_rfl) (by kernel_rfl) (fun _ _ _ h => h) (Or.inl ⟨by rfl, ?_⟩) hS ?_
    rotate_left
    · intro v _; go_simp; first | done | with_reducible rfl
    rotate_left
    simp only [List.getElem_toArray, List.getElem_cons_succ, List.getElem_cons_zero, Act.put, List.setIfInBounds_toArray, List.set_cons_zero, List.set_cons_succ]
    refine wpAnyH_take (i := 11) (v := ?_) rfl (by kernel_rfl) (by kernel_rfl) (by kernel_rfl) (fun _ _ _ h => h) (Or.inl ⟨by rfl, ?_⟩) hS ?_
    rotate_left
    · intro v _; go_simp; first | done | with_reducible rfl
    rotate_left
    simp only [List.getElem_toArray, List.getElem_cons_succ, List.getElem_cons_zero, Act.put, List.setIfInBounds_toArray, List.set_cons_zero, List.set_cons_succ]
    refine wpAnyH_take (i := 12) (v := _) rfl (by kernel_rfl) (by kernel_rfl) (by kernel_rfl) (fun _ _ _ h => h) (yieldsIf_load_mid (by rfl) 24 (.tmp 5) rfl w.heap.size 0 rfl (Lib.byteCells a) (.array 32 5) (fun _ h => h.2.1) und_dig rfl zA.out) hS ?_
    simp only [List.getElem_toArray, List.getElem_cons_succ, List.getElem_cons_zero, Act.put, List.setIfInBounds_toArray, List.set_cons_zero, List.set_cons_succ]
    refine wpAnyH_take (i := 13) (v := _) rfl (by kernel_rfl) (by kernel_rfl) (by kernel_rfl) (fun _ _ _ h => h) (yieldsIf_load_mid (by rfl) 24 (.tmp 6) rfl (w.heap.size + 1) 0 rfl (Lib.byteCells b) (.array 32 5) (fun _ h => h.2.2) und_dig rfl zB.out) hS ?_
    simp only [List.getElem_toArray, List.getElem_cons_succ, List.getElem_cons_zero, Act.put, List.setIfInBounds_toArray, List.set_cons_zero, List.set_cons_succ]
    refine wpAnyH_take (i := 15) (v := _) rfl (by kernel_rfl) (by kernel_rfl) (by kernel_rfl) (fun _ _ _ h => h) (yieldsIf_load_mid (by rfl) 24 (.tmp 5) rfl w.heap.size 0 rfl (Lib.byteCells a) (.array 32 5) (fun _ h => h.2.1) und_dig rfl zA.out) hS ?_
    simp only [List.getElem_toArray, List.getElem_cons_succ, List.getElem_cons_zero, Act.put, List.setIfInBounds_toArray, List.set_cons_zero, List.set_cons_succ]
    refine wpAnyH_take (i := 17) (v := _) rfl (by kernel_rfl) (by kernel_rfl) (by kernel_rfl) (fun _ _ _ h => h) (yieldsIf_load_mid (by rfl) 24 (.tmp 6) rfl (w.heap.size + 1) 0 rfl (Lib.byteCells b) (.array 32 5) (fun _ h => h.2.2) und_dig rfl zB.out) hS ?_
    simp only [List.getElem_toArray, List.getElem_cons_succ, List.getElem_cons_zero, Act.put, List.setIfInBounds_toArray, List.set_cons_zero, List.set_cons_succ]
    refine wpAnyH_all (rs := [14]) (by kernel_rfl) (by simp) ?_
    intro i hi
    simp only [List.mem_cons, List.not_mem_nil, or_false] at hi
    subst hi
    refine wpOp_wp rfl (by rfl) ?_
    go_simp
    refine (hpr.out v2 HK.out).mono ?_
    rintro e v3 ⟨rfl, hb⟩
    replace HA : Hid (DigAt w.heap.size a v3) := Lib.hid (HA.out.below hb)
    replace HC : Hid (DigAt (w.heap.size + 1) b v3) := Lib.hid (HC.out.below hb)
    replace HK : Hid (KAt v3) := Lib.hid (HK.out.below hb)
    replace HB : Hid (Below w.heap.size w v3) := Lib.hid (HB.out.trans (Below.mono hb HB.out.size))
    replace H9 : Hid (DigAt b9 D v3) := Lib.hid (H9.out.below hb)
    clear hb hS
    have hS : ST b9 D w.heap.size a (w.heap.size + 1) b v3 := ⟨dig_range H9.out, dig_range HA.out, dig_range HC.out⟩
    refine ⟨hS, ?_⟩
    try simp only [List.getElem_toArray, List.getElem_cons_succ, List.getElem_cons_zero, Act.put, List.setIfInBounds_toArray, List.set_cons_zero, List.set_cons_succ]
    refine wpAnyH_all (rs := [16]) (by kernel_rfl) (by simp) ?_
    intro i hi
    simp only [List.mem_cons, List.not_mem_nil, or_false] at hi
    subst hi
    refine wpOp_wp rfl (by rfl) ?_
    go_simp
    refine (hta.out v3).mono ?_
    rintro e v4 ⟨rfl, hb⟩
    replace HA : Hid (DigAt w.heap.size a v4) := Lib.hid (HA.out.below hb)
    replace HC : Hid (DigAt (w.heap.size + 1) b v4) := Lib.hid (HC.out.below hb)
    replace HK : Hid (KAt v4) := Lib.hid (HK.out.below hb)
    replace HB : Hid (Below w.heap.size w v4) := Lib.hid (HB.out.trans (Below.mono hb HB.out.size))
    replace H9 : Hid (DigAt b9 D v4) := Lib.hid (H9.out.below hb)
    clear hb hS
    have hS : ST b9 D w.heap.size a (w.heap.size + 1) b v4 := ⟨dig_range H9.out, dig_range HA.out, dig_range HC.out⟩
    refine ⟨hS, ?_⟩
    try simp only [List.getElem_toArray, List.getElem_cons_succ, List.getElem_cons_zero, Act.put, List.setIfInBounds_toArray, List.set_cons_zero, List.set_cons_succ]
    refine wpAnyH_all (rs := [18]) (by kernel_rfl) (by simp) ?_
    intro i hi
    simp only [List.mem_cons, List.not_mem_nil, or_false] at hi
    subst hi
    refine wpOp_wp rfl (by rfl) ?_
    go_simp
    refine (htb.out v4).mono ?_
    rintro e v5 ⟨rfl, hb⟩
    replace HA : Hid (DigAt w.heap.size a v5) := Lib.hid (HA.out.below hb)
    replace HC : Hid (DigAt (w.heap.size + 1) b v5) := Lib.hid (HC.out.below hb)
    replace HK : Hid (KAt v5) := Lib.hid (HK.out.below hb)
    replace HB : Hid (Below w.heap.size w v5) := Lib.hid (HB.out.trans (Below.mono hb HB.out.size))
    replace H9 : Hid (DigAt b9 D v5) := Lib.hid (H9.out.below hb)
    clear hb hS
    have hS : ST b9 D w.heap.size a (w.heap.size + 1) b v5 := ⟨dig_range H9.out, dig_range HA.out, dig_range HC.out⟩
    refine ⟨hS, ?_⟩
    try simp only [List.getElem_toArray, List.getElem_cons_succ, List.getElem_cons_zero, Act.put, List.setIfInBounds_toArray, List.set_cons_zero, List.set_cons_succ]
    refine wpAnyH_take (i := 19) (v := ?_) rfl (by kernel_rfl) (by kernel_rfl) (by kernel_rfl) (fun _ _ _ h => h) (Or.inl ⟨by rfl, ?_⟩) hS ?_
    rotate_left
    · intro v _; go_simp; first | done | with_reducible rfl
    rotate_left
    simp only [List.getElem_toArray, List.getElem_cons_succ, List.getElem_cons_zero, Act.put, List.setIfInBounds_toArray, List.set_cons_zero, List.set_cons_succ]
    refine wpAnyH_all (rs := [20]) (by kernel_rfl) (by simp) ?_
    intro i hi
    simp only [List.mem_cons, List.not_mem_nil, or_false] at hi
    subst hi
    refine wpOp_wp rfl (by rfl) ?_
    go_simp
    refine (hs2.out v5).mono ?_
    rintro e v6 ⟨rfl, hb⟩
    replace HA : Hid (DigAt w.heap.size a v6) := Lib.hid (HA.out.below hb)
    replace HC : Hid (DigAt (w.heap.size + 1) b v6) := Lib.hid (HC.out.below hb)
    replace HK : Hid (KAt v6) := Lib.hid (HK.out.below hb)
    replace HB : Hid (Below w.heap.size w v6) := Lib.hid (HB.out.trans (Below.mono hb HB.out.size))
    replace H9 : Hid (DigAt b9 D v6) := Lib.hid (H9.out.below hb)
    clear hb hS
    have hS : ST b9 D w.heap.size a (w.heap.size + 1) b v6 := ⟨dig_range H9.out, dig_range HA.out, dig_range HC.out⟩
    refine ⟨hS, ?_⟩
    try simp only [List.getElem_toArray, List.getElem_cons_succ, List.getElem_cons_zero, Act.put, List.setIfInBounds_toArray, List.set_cons_zero, List.set_cons_succ]
    refine wpAnyH_take (i := 21) (v := ?_) rfl (by kernel_rfl) (by kernel_rfl) (by kernel_rfl) (fun _ _ _ h => h) (Or.inl ⟨by rfl, ?_⟩) hS ?_
    rotate_left
    · intro v _; go_simp; first | done | with_reducible rfl
    rotate_left
    simp only [List.getElem_toArray, List.getElem_cons_succ, List.getElem_cons_zero, Act.put, List.setIfInBounds_toArray, List.set_cons_zero, List.set_cons_succ]
    refine wpAnyH_take (i := 22) (v := ?_) rfl (by kernel_rfl) (by kernel_rfl) (by kernel_rfl) (fun _ _ _ h => h) (Or.inl ⟨by rfl, ?_⟩) hS ?_
    rotate_left
    · intro v _; go_simp; first | done | with_reducible rfl
    rotate_left
    simp only [List.getElem_toArray, List.getElem_cons_succ, List.getElem_cons_zero, Act.put, List.setIfInBounds_toArray, List.set_cons_zero, List.set_cons_succ]
    refine wpAnyH_take (i := 23) (v := ?_) rfl (by kernel_rfl) (by kernel_rfl) (by kernel_rfl) (fun _ _ _ h => h) (Or.inl ⟨by rfl, ?_⟩) hS ?_
    rotate_left
    · intro v _; go_simp; first | done | with_reducible rfl
    rotate_left
    simp only [List.getElem_toArray, List.getElem_cons_succ, List.getElem_cons_zero, Act.put, List.setIfInBounds_toArray, List.set_cons_zero, List.set_cons_succ]
    refine wpAnyH_take (i := 24) (v := _) rfl (by kernel_rfl) (by kernel_rfl) (by kernel_rfl) (fun _ _ _ h => h) (yieldsIf_load_mid (by rfl) 24 (.tmp 5) rfl w.heap.size 0 rfl (Lib.byteCells a) (.array 32 5) (fun _ h => h.2.1) und_dig rfl zA.out) hS ?_
    simp only [List.getElem_toArray, List.getElem_cons_succ, List.getElem_cons_zero, Act.put, List.setIfInBounds_toArray, List.set_cons_zero, List.set_cons_succ]
    refine wpAnyH_take (i := 26) (v := _) rfl (by kernel_rfl) (by kernel_rfl) (by kernel_rfl) (fun _ _ _ h => h) (yieldsIf_load_mid (by rfl) 24 (.tmp 5) rfl w.heap.size 0 rfl (Lib.byteCells a) (.array 32 5) (fun _ h => h.2.1) und_dig rfl zA.out) hS ?_
    simp only [List.getElem_toArray, List.getElem_cons_succ, List.getElem_cons_zero, Act.put, List.setIfInBounds_toArray, List.set_cons_zero, List.set_cons_succ]
    refine wpAnyH_all (rs := [25]) (by kernel_rfl) (by simp) ?_
    intro i hi
    simp only [List.mem_cons, List.not_mem_nil, or_false] at hi
    subst hi
    refine wpOp_wp rfl (by rfl) ?_
    go_simp
    refine (hx1.out v6).mono ?_
    rintro e v7 ⟨rfl, hb⟩
    replace HA : Hid (DigAt w.heap.size a v7) := Lib.hid (HA.out.below hb)
    replace HC : Hid (DigAt (w.heap.size + 1) b v7) := Lib.hid (HC.out.below hb)
    replace HK : Hid (KAt v7) := Lib.hid (HK.out.below hb)
    replace HB : Hid (Below w.heap.size w v7) := Lib.hid (HB.out.trans (Below.mono hb HB.out.size))
    replace H9 : Hid (DigAt b9 D v7) := Lib.hid (H9.out.below hb)
    clear hb hS
    have hS : ST b9 D w.heap.size a (w.heap.size + 1) b v7 := ⟨dig_range H9.out, dig_range HA.out, dig_range HC.out⟩
    refine ⟨hS, ?_⟩
    try simp only [List.getElem_toArray, List.getElem_cons_succ, List.getElem_cons_zero, Act.put, List.setIfInBounds_toArray, List.set_cons_zero, List.set_cons_succ]
    refine wpAnyH_all (rs := [27]) (by kernel_rfl) (by simp) ?_
    intro i hi
    simp only [List.mem_cons, List.not_mem_nil, or_false] at hi
    subst hi
    refine wpOp_wp rfl (by rfl) ?_
    go_simp
    refine (hx2.out v7).mono ?_
    rintro e v8 ⟨rfl, hb⟩
    replace HA : Hid (DigAt w.heap.size a v8) := Lib.hid (HA.out.below hb)
    replace HC : Hid (DigAt (w.heap.size + 1) b v8) := Lib.hid (HC.out.below hb)
    replace HK : Hid (KAt v8) := Lib.hid (HK.out.below hb)
    replace HB : Hid (Below w.heap.size w v8) := Lib.hid (HB.out.trans (Below.mono hb HB.out.size))
    replace H9 : Hid (DigAt b9 D v8) := Lib.hid (H9.out.below hb)
    clear hb hS
    have hS : ST b9 D w.heap.size a (w.heap.size + 1) b v8 := ⟨dig_range H9.out, dig_range HA.out, dig_range HC.out⟩
    refine ⟨hS, ?_⟩
    try simp only [List.getElem_toArray, List.getElem_cons_succ, List.getElem_cons_zero, Act.put, List.setIfInBounds_toArray, List.set_cons_zero, List.set_cons_succ]
    refine wpAnyH_take (i := 28) (v := ?_) rfl (by kernel_rfl) (by kernel_rfl) (by kernel_rfl) (fun _ _ _ h => h) (Or.inl ⟨by rfl, ?_⟩) hS ?_
    rotate_left
    · intro v _; go_simp; first | done | with_reducible rfl
    rotate_left
    simp only [List.getElem_toArray, List.getElem_cons_succ, List.getElem_cons_zero, Act.put, List.setIfInBounds_toArray, List.set_cons_zero, List.set_cons_succ]
    refine wpAnyH_take (i := 29) (v := ?_) rfl (by kernel_rfl) (by kernel_rfl) (by kernel_rfl) (fun _ _ _ h => h) (Or.inl ⟨by rfl, ?_⟩) hS ?_
    rotate_left
    · intro v _; go_simp; first | done | with_reducible rfl
    rotate_left
    simp only [List.getElem_toArray, List.getElem_cons_succ, List.getElem_cons_zero, Act.put, List.setIfInBounds_toArray, List.set_cons_zero, List.set_cons_succ]
    refine wpAnyH_take (i := 30) (v := ?_) rfl (by kernel_rfl) (by kernel_rfl) (by kernel_rfl) (fun _ _ _ h => h) (Or.inl ⟨by rfl, ?_⟩) hS ?_
    rotate_left
    · intro v _; go_simp; first | done | with_reducible rfl
    rotate_left
    simp only [List.getElem_toArray, List.getElem_cons_succ, List.getElem_cons_zero, Act.put, List.setIfInBounds_toArray, List.set_cons_zero, List.set_cons_succ]
    refine wpAnyH_done (by kernel_rfl) ?_ _
    clear hS
    go_wp2_with fail
    go_ret
    exact ⟨rfl, HB.out⟩
  · have hpv : parseV x = .tuple #[zeroDig, .int .i64 3] := by unfold parseV; rw [if_neg hP]
    have hrv : rparseV x = .tuple #[zeroDig, .bool false] := by unfold rparseV; rw [if_neg hP]
    rw [hpv]
    rw [hrv] at hpr1
    obtain ⟨y, hy⟩ : ∃ y : List UInt8, y = List.replicate 32 0 := ⟨_, rfl⟩
    have hzd : zeroDig = .agg (Lib.byteCells y).toArray := by rw [hy]; rfl
    rw [hzd] at hpr1 ⊢
    have hyl : y.length = 32 := by rw [hy]; simp
    have heqy : ∀ v : World, (Op.equalIn 10000 24 (.agg (Lib.byteCells y).toArray) (.agg #[.int .u8 0, .int .u8 0, .int .u8 0, .int .u8 0, .int .u8 0, .int .u8 0, .int .u8 0, .int .u8 0, .int .u8 0, .int .u8 0, .int .u8 0, .int .u8 0, .int .u8 0, .int .u8 0, .int .u8 0, .int .u8 0, .int .u8 0, .int .u8 0, .int .u8 0, .int .u8 0, .int .u8 0, .int .u8 0, .int .u8 0, .int .u8 0, .int .u8 0, .int .u8 0, .int .u8 0, .int .u8 0, .int .u8 0, .int .u8 0, .int .u8 0, .int .u8 0])).run Tryd.prog v = .ok true v := fun v => by
      have h := eq32 v y (List.replicate 32 0) hyl (by simp)
      rw [show decide (y = List.replicate 32 0) = true by simp [hy]] at h
      exact h
    replace hyl := Lib.hid hyl
    replace heqy := Lib.hid heqy
    clear hpv hrv hP hy hzd
    replace hpr1 := Lib.hid hpr1
    go_wp2_with (refine wpList_store_dig rfl (.tmp 11) (.tmp 33) rfl w5.heap.size rfl y hyl.out rfl (Lib.byteCells (List.replicate 32 0)).toArray 24 (heap_alloc_last _ _) zrow_size ?_; intro w6 h6 _ hB6; have hb6 : Below w5.heap.size w5 w6 := hB6 ((Below.refl _ _).alloc (Nat.le_refl _) _) (Nat.le_refl _))
    replace HA : Hid (DigAt w.heap.size a w6) := Lib.hid (HA.out.below hb6)
    replace HC : Hid (DigAt (w.heap.size + 1) b w6) := Lib.hid (HC.out.below hb6)
    replace HK : Hid (KAt w6) := Lib.hid (HK.out.below hb6)
    replace HB : Hid (Below w.heap.size w w6) := Lib.hid (HB.out.trans (Below.mono hb6 HB.out.size))
    replace H9 := Lib.hid (H9.out.below hb6)
    have H11 : Hid (DigAt w5.heap.size y w6) := h6
    clear hB6 hb6 h6
    generalize w5.heap.size = b11 at H11 ⊢
    refine (hpr1.out w6).mono ?_
    rintro e w7 ⟨rfl, hb⟩
    replace HA : Hid (DigAt w.heap.size a w7) := Lib.hid (HA.out.below hb)
    replace HC : Hid (DigAt (w.heap.size + 1) b w7) := Lib.hid (HC.out.below hb)
    replace HK : Hid (KAt w7) := Lib.hid (HK.out.below hb)
    replace HB : Hid (Below w.heap.size w w7) := Lib.hid (HB.out.trans (Below.mono hb HB.out.size))
    replace H9 := Lib.hid (H9.out.below hb)
    replace H11 := Lib.hid (H11.out.below hb)
    clear hb hpr1
    go_upto_region 5 with (refine wpList_store_dig rfl (.tmp 13) (.tmp 38) rfl w7.heap.size rfl y hyl.out rfl (Lib.byteCells (List.replicate 32 0)).toArray 24 (heap_alloc_last _ _) zrow_size ?_; intro w8 h8 _ hB8; have hb8 : Below w7.heap.size w7 w8 := hB8 ((Below.refl _ _).alloc (Nat.le_refl _) _) (Nat.le_refl _))
    replace HA : Hid (DigAt w.heap.size a w8) := Lib.hid (HA.out.below hb8)
    replace HC : Hid (DigAt (w.heap.size + 1) b w8) := Lib.hid (HC.out.below hb8)
    replace HK : Hid (KAt w8) := Lib.hid (HK.out.below hb8)
    replace HB : Hid (Below w.heap.size w w8) := Lib.hid (HB.out.trans (Below.mono hb8 HB.out.size))
    replace H9 := Lib.hid (H9.out.below hb8)
    replace H11 := Lib.hid (H11.out.below hb8)
    clear hB8 hb8 h8
    generalize w7.heap.size = b13
    have heqo := heqy.out
    go_upto_region 7 with (guard_target = wpList _ _ _ (⟨some 57, _, _, _, _, _⟩ :: _) _ _; refine wpList_load_digG rfl (.tmp 11) rfl b11 rfl y hyl.out _ _ H11.out ?_)
    clear heqo H11 heqy
    have hab : (SA ++ SB : ByteArray).data.toList = a ++ b := by rw [ByteArray.data_append, Array.toList_append, hSA.out, hSB.out]
    have habz : (SA ++ SB : ByteArray).size ≤ 1048576 := by
      rw [ByteArray.size_append, hSA.out, hSB.out]
      show a.toArray.size + b.toArray.size ≤ _
      rw [List.size_toArray, List.size_toArray, ha.out, hbl.out]; omega
    have hs2 := fun W => rsum_calls (SA ++ SB) habz W
    rw [hab] at hs2
    have hpr := fun (W : World) (hk : KAt W) => pair_calls a b ha.out hbl.out W hk
    have hEl := sumL_len (a ++ b)
    generalize sumL (a ++ b) = E at hs2 hpr hEl
    have heqE : ∀ v : World, (Op.equalIn 10000 24 (.agg (Lib.byteCells E).toArray) (.agg (Lib.byteCells E).toArray)).run Tryd.prog v = .ok true v := fun v => by rw [eq32 v E E hEl hEl]; simp
    have heqD : ∀ v : World, (Op.equalIn 10000 24 (.agg (Lib.byteCells D).toArray) (.agg (Lib.byteCells D).toArray)).run Tryd.prog v = .ok true v := fun v => by rw [eq32 v D D hDl.out hDl.out]; simp
    have hlt : (9223372036854775807 < SA.size + SB.size) = False := eq_false (by rw [ByteArray.size_append] at habz; omega)
    have hx1 := fun W => hex_calls a ha.out W
    have hx2 := fun W => rhex_calls a ha.out W
    have hta := fun W => rtext_calls a ha.out W
    have htb := fun W => rtext_calls b hbl.out W
    rw [← hSA.out] at hta
    rw [← hSB.out] at htb
    obtain ⟨SX, hSX⟩ : ∃ s : ByteArray, s = ⟨(hexL a).toArray⟩ := ⟨_, rfl⟩
    rw [← hSX] at hx1 hx2
    have zD := info_dig hDl.out
    have zA := info_dig ha.out
    have zB := info_dig hbl.out
    replace hs2 := Lib.hid hs2
    replace hpr := Lib.hid hpr
    replace hx1 := Lib.hid hx1
    replace hx2 := Lib.hid hx2
    replace hta := Lib.hid hta
    replace htb := Lib.hid htb
    replace zD := Lib.hid zD
    replace zA := Lib.hid zA
    replace zB := Lib.hid zB
    clear hab habz hEl hSX
    refine wp_region_held (S := ST b9 D w.heap.size a (w.heap.size + 1) b) (by kernel_rfl) ?_
    change wpAnyH _ _ _ _ _ _ _ _ w8.drew
    replace HA : Hid (DigAt w.heap.size a w8.drew) := HA
    replace HC : Hid (DigAt (w.heap.size + 1) b w8.drew) := HC
    replace H9 : Hid (DigAt b9 D w8.drew) := H9
    replace HK : Hid (KAt w8.drew) := HK
    replace HB := Lib.hid HB.out.drew
    generalize w8.drew = v0 at HA HC H9 HK HB ⊢
    have hS : ST b9 D w.heap.size a (w.heap.size + 1) b v0 := ⟨dig_range H9.out, dig_range HA.out, dig_range HC.out⟩
    refine wpAnyH_all (rs := [0]) (by kernel_rfl) (by simp) ?_
    intro i hi
    simp only [List.mem_cons, List.not_mem_nil, or_false] at hi
    subst hi
    refine wpOp_wp rfl (by rfl) ?_
    go_simp
    refine (alive_calls v0 HK.out).mono ?_
    rintro e v1 ⟨rfl, hb⟩
    replace HA : Hid (DigAt w.heap.size a v1) := Lib.hid (HA.out.below hb)
    replace HC : Hid (DigAt (w.heap.size + 1) b v1) := Lib.hid (HC.out.below hb)
    replace HK : Hid (KAt v1) := Lib.hid (HK.out.below hb)
    replace HB : Hid (Below w.heap.size w v1) := Lib.hid (HB.out.trans (Below.mono hb HB.out.size))
    replace H9 : Hid (DigAt b9 D v1) := Lib.hid (H9.out.below hb)
    clear hb hS
    have hS : ST b9 D w.heap.size a (w.heap.size + 1) b v1 := ⟨dig_range H9.out, dig_range HA.out, dig_range HC.out⟩
    refine ⟨hS, ?_⟩
    try simp only [List.getElem_toArray, List.getElem_cons_succ, List.getElem_cons_zero, Act.put, List.setIfInBounds_toArray, List.set_cons_zero, List.set_cons_succ]
    refine wpAnyH_take (i := 1) (v := ?_) rfl (by kernel_rfl) (by kernel_rfl) (by kernel_rfl) (fun _ _ _ h => h) (Or.inl ⟨by rfl, ?_⟩) hS ?_
    rotate_left
    · intro v _; go_simp; first | done | with_reducible rfl
    rotate_left
    simp only [List.getElem_toArray, List.getElem_cons_succ, List.getElem_cons_zero, Act.put, List.setIfInBounds_toArray, List.set_cons_zero, List.set_cons_succ]
    refine wpAnyH_take (i := 2) (v := ?_) rfl (by kernel_rfl) (by kernel_rfl) (by kernel_rfl) (fun _ _ _ h => h) (Or.inl ⟨by rfl, ?_⟩) hS ?_
    rotate_left
    · intro v _; go_simp; first | done | with_reducible rfl
    rotate_left
    simp only [List.getElem_toArray, List.getElem_cons_succ, List.getElem_cons_zero, Act.put, List.setIfInBounds_toArray, List.set_cons_zero, List.set_cons_succ]
    refine wpAnyH_take (i := 3) (v := ?_) rfl (by kernel_rfl) (by kernel_rfl) (by kernel_rfl) (fun _ _ _ h => h) (Or.inl ⟨by rfl, ?_⟩) hS ?_
    rotate_left
    · intro v _; go_simp; first | done | with_reducible rfl
    rotate_left
    simp only [List.getElem_toArray, List.getElem_cons_succ, List.getElem_cons_zero, Act.put, List.setIfInBounds_toArray, List.set_cons_zero, List.set_cons_succ]
    refine wpAnyH_take (i := 4) (v := ?_) rfl (by kernel_rfl) (by kernel_rfl) (by kernel_rfl) (fun _ _ _ h => h) (Or.inl ⟨by rfl, ?_⟩) hS ?_
    rotate_left
    · intro v _; go_simp; first | done | with_reducible rfl
    rotate_left
    simp only [List.getElem_toArray, List.getElem_cons_succ, List.getElem_cons_zero, Act.put, List.setIfInBounds_toArray, List.set_cons_zero, List.set_cons_succ]
    refine wpAnyH_take (i := 5) (v := ?_) rfl (by kernel_rfl) (by kernel_rfl) (by kernel_rfl) (fun _ _ _ h => h) (Or.inl ⟨by rfl, ?_⟩) hS ?_
    rotate_left
    · intro v _; go_simp; first | done | with_reducible rfl
    rotate_left
    simp only [List.getElem_toArray, List.getElem_cons_succ, List.getElem_cons_zero, Act.put, List.setIfInBounds_toArray, List.set_cons_zero, List.set_cons_succ]
    refine wpAnyH_take (i := 6) (v := _) rfl (by kernel_rfl) (by kernel_rfl) (by kernel_rfl) (fun _ _ _ h => h) (yieldsIf_load_mid (by rfl) 24 (.tmp 9) rfl b9 0 rfl (Lib.byteCells D) (.array 32 5) (fun _ h => h.1) und_dig rfl zD.out) hS ?_
    simp only [List.getElem_toArray, List.getElem_cons_succ, List.getElem_cons_zero, Act.put, List.setIfInBounds_toArray, List.set_cons_zero, List.set_cons_succ]
    refine wpAnyH_take (i := 7) (v := ?_) rfl (by kernel_rfl) (by kernel_rfl) (by kernel_rfl) (fun _ _ _ h => h) (Or.inl ⟨by rfl, ?_⟩) hS ?_
    rotate_left
    · intro v _; go_simp; first | done | with_reducible rfl
    rotate_left
    simp only [List.getElem_toArray, List.getElem_cons_succ, List.getElem_cons_zero, Act.put, List.setIfInBounds_toArray, List.set_cons_zero, List.set_cons_succ]
    refine wpAnyH_all (rs := [8]) (by kernel_rfl) (by simp) ?_
    intro i hi
    simp only [List.mem_cons, List.not_mem_nil, or_false] at hi
    subst hi
    refine wpOp_wp rfl (by rfl) ?_
    go_simp
    refine (hsum.out v1).mono ?_
    rintro e v2 ⟨rfl, hb⟩
    replace HA : Hid (DigAt w.heap.size a v2) := Lib.hid (HA.out.below hb)
    replace HC : Hid (DigAt (w.heap.size + 1) b v2) := Lib.hid (HC.out.below hb)
    replace HK : Hid (KAt v2) := Lib.hid (HK.out.below hb)
    replace HB : Hid (Below w.heap.size w v2) := Lib.hid (HB.out.trans (Below.mono hb HB.out.size))
    replace H9 : Hid (DigAt b9 D v2) := Lib.hid (H9.out.below hb)
    clear hb hS
    have hS : ST b9 D w.heap.size a (w.heap.size + 1) b v2 := ⟨dig_range H9.out, dig_range HA.out, dig_range HC.out⟩
    refine ⟨hS, ?_⟩
    try simp only [List.getElem_toArray, List.getElem_cons_succ, List.getElem_cons_zero, Act.put, List.setIfInBounds_toArray, List.set_cons_zero, List.set_cons_succ]
    refine wpAnyH_take (i := 9) (v := ?_) rfl (by kernel_rfl) (by kernel_rfl) (by kernel_rfl) (fun _ _ _ h => h) (Or.inl ⟨by rfl, ?_⟩) hS ?_
    rotate_left
    · intro v _; go_simp; first | done | with_reducible rfl
    rotate_left
    simp only [List.getElem_toArray, List.getElem_cons_succ, List.getElem_cons_zero, Act.put, List.setIfInBounds_toArray, List.set_cons_zero, List.set_cons_succ]
    refine wpAnyH_take (i := 10) (v := ?_) rfl (by kernel_rfl) (by kernel_rfl) (by kernel_rfl) (fun _ _ _ h => h) (Or.inl ⟨by rfl, ?_⟩) hS ?_
    rotate_left
    · intro v _; go_simp; first | done | with_reducible rfl
    rotate_left
    simp only [List.getElem_toArray, List.getElem_cons_succ, List.getElem_cons_zero, Act.put, List.setIfInBounds_toArray, List.set_cons_zero, List.set_cons_succ]
    refine wpAnyH_take (i := 11) (v := ?_) rfl (by kernel_rfl) (by kernel_rfl) (by kernel_rfl) (fun _ _ _ h => h) (Or.inl ⟨by rfl, ?_⟩) hS ?_
    rotate_left
    · intro v _; go_simp; first | done | with_reducible rfl
    rotate_left
    simp only [List.getElem_toArray, List.getElem_cons_succ, List.getElem_cons_zero, Act.put, List.setIfInBounds_toArray, List.set_cons_zero, List.set_cons_succ]
    refine wpAnyH_take (i := 12) (v := _) rfl (by kernel_rfl) (by kernel_rfl) (by kernel_rfl) (fun _ _ _ h => h) (yieldsIf_load_mid (by rfl) 24 (.tmp 5) rfl w.heap.size 0 rfl (Lib.byteCells a) (.array 32 5) (fun _ h => h.2.1) und_dig rfl zA.out) hS ?_
    simp only [List.getElem_toArray, List.getElem_cons_succ, List.getElem_cons_zero, Act.put, List.setIfInBounds_toArray, List.set_cons_zero, List.set_cons_succ]
    refine wpAnyH_take (i := 13) (v := _) rfl (by kernel_rfl) (by kernel_rfl) (by kernel_rfl) (fun _ _ _ h => h) (yieldsIf_load_mid (by rfl) 24 (.tmp 6) rfl (w.heap.size + 1) 0 rfl (Lib.byteCells b) (.array 32 5) (fun _ h => h.2.2) und_dig rfl zB.out) hS ?_
    simp only [List.getElem_toArray, List.getElem_cons_succ, List.getElem_cons_zero, Act.put, List.setIfInBounds_toArray, List.set_cons_zero, List.set_cons_succ]
    refine wpAnyH_take (i := 15) (v := _) rfl (by kernel_rfl) (by kernel_rfl) (by kernel_rfl) (fun _ _ _ h => h) (yieldsIf_load_mid (by rfl) 24 (.tmp 5) rfl w.heap.size 0 rfl (Lib.byteCells a) (.array 32 5) (fun _ h => h.2.1) und_dig rfl zA.out) hS ?_
    simp only [List.getElem_toArray, List.getElem_cons_succ, List.getElem_cons_zero, Act.put, List.setIfInBounds_toArray, List.set_cons_zero, List.set_cons_succ]
    refine wpAnyH_take (i := 17) (v := _) rfl (by kernel_rfl) (by kernel_rfl) (by kernel_rfl) (fun _ _ _ h => h) (yieldsIf_load_mid (by rfl) 24 (.tmp 6) rfl (w.heap.size + 1) 0 rfl (Lib.byteCells b) (.array 32 5) (fun _ h => h.2.2) und_dig rfl zB.out) hS ?_
    simp only [List.getElem_toArray, List.getElem_cons_succ, List.getElem_cons_zero, Act.put, List.setIfInBounds_toArray, List.set_cons_zero, List.set_cons_succ]
    refine wpAnyH_all (rs := [14]) (by kernel_rfl) (by simp) ?_
    intro i hi
    simp only [List.mem_cons, List.not_mem_nil, or_false] at hi
    subst hi
    refine wpOp_wp rfl (by rfl) ?_
    go_simp
    refine (hpr.out v2 HK.out).mono ?_
    rintro e v3 ⟨rfl, hb⟩
    replace HA : Hid (DigAt w.heap.size a v3) := Lib.hid (HA.out.below hb)
    replace HC : Hid (DigAt (w.heap.size + 1) b v3) := Lib.hid (HC.out.below hb)
    replace HK : Hid (KAt v3) := Lib.hid (HK.out.below hb)
    replace HB : Hid (Below w.heap.size w v3) := Lib.hid (HB.out.trans (Below.mono hb HB.out.size))
    replace H9 : Hid (DigAt b9 D v3) := Lib.hid (H9.out.below hb)
    clear hb hS
    have hS : ST b9 D w.heap.size a (w.heap.size + 1) b v3 := ⟨dig_range H9.out, dig_range HA.out, dig_range HC.out⟩
    refine ⟨hS, ?_⟩
    try simp only [List.getElem_toArray, List.getElem_cons_succ, List.getElem_cons_zero, Act.put, List.setIfInBounds_toArray, List.set_cons_zero, List.set_cons_succ]
    refine wpAnyH_all (rs := [16]) (by kernel_rfl) (by simp) ?_
    intro i hi
    simp only [List.mem_cons, List.not_mem_nil, or_false] at hi
    subst hi
    refine wpOp_wp rfl (by rfl) ?_
    go_simp
    refine (hta.out v3).mono ?_
    rintro e v4 ⟨rfl, hb⟩
    replace HA : Hid (DigAt w.heap.size a v4) := Lib.hid (HA.out.below hb)
    replace HC : Hid (DigAt (w.heap.size + 1) b v4) := Lib.hid (HC.out.below hb)
    replace HK : Hid (KAt v4) := Lib.hid (HK.out.below hb)
    replace HB : Hid (Below w.heap.size w v4) := Lib.hid (HB.out.trans (Below.mono hb HB.out.size))
    replace H9 : Hid (DigAt b9 D v4) := Lib.hid (H9.out.below hb)
    clear hb hS
    have hS : ST b9 D w.heap.size a (w.heap.size + 1) b v4 := ⟨dig_range H9.out, dig_range HA.out, dig_range HC.out⟩
    refine ⟨hS, ?_⟩
    try simp only [List.getElem_toArray, List.getElem_cons_succ, List.getElem_cons_zero, Act.put, List.setIfInBounds_toArray, List.set_cons_zero, List.set_cons_succ]
    refine wpAnyH_all (rs := [18]) (by kernel_rfl) (by simp) ?_
    intro i hi
    simp only [List.mem_cons, List.not_mem_nil, or_false] at hi
    subst hi
    refine wpOp_wp rfl (by rfl) ?_
    go_simp
    refine (htb.out v4).mono ?_
    rintro e v5 ⟨rfl, hb⟩
    replace HA : Hid (DigAt w.heap.size a v5) := Lib.hid (HA.out.below hb)
    replace HC : Hid (DigAt (w.heap.size + 1) b v5) := Lib.hid (HC.out.below hb)
    replace HK : Hid (KAt v5) := Lib.hid (HK.out.below hb)
    replace HB : Hid (Below w.heap.size w v5) := Lib.hid (HB.out.trans (Below.mono hb HB.out.size))
    replace H9 : Hid (DigAt b9 D v5) := Lib.hid (H9.out.below hb)
    clear hb hS
    have hS : ST b9 D w.heap.size a (w.heap.size + 1) b v5 := ⟨dig_range H9.out, dig_range HA.out, dig_range HC.out⟩
    refine ⟨hS, ?_⟩
    try simp only [List.getElem_toArray, List.getElem_cons_succ, List.getElem_cons_zero, Act.put, List.setIfInBounds_toArray, List.set_cons_zero, List.set_cons_succ]
    refine wpAnyH_take (i := 19) (v := ?_) rfl (by kernel_rfl) (by kernel_rfl) (by kernel_rfl) (fun _ _ _ h => h) (Or.inl ⟨by rfl, ?_⟩) hS ?_
    rotate_left
    · intro v _; go_simp; first | done | with_reducible rfl
    rotate_left
    simp only [List.getElem_toArray, List.getElem_cons_succ, List.getElem_cons_zero, Act.put, List.setIfInBounds_toArray, List.set_cons_zero, List.set_cons_succ]
    refine wpAnyH_all (rs := [20]) (by kernel_rfl) (by simp) ?_
    intro i hi
    simp only [List.mem_cons, List.not_mem_nil, or_false] at hi
    subst hi
    refine wpOp_wp rfl (by rfl) ?_
    go_simp
    refine (hs2.out v5).mono ?_
    rintro e v6 ⟨rfl, hb⟩
    replace HA : Hid (DigAt w.heap.size a v6) := Lib.hid (HA.out.below hb)
    replace HC : Hid (DigAt (w.heap.size + 1) b v6) := Lib.hid (HC.out.below hb)
    replace HK : Hid (KAt v6) := Lib.hid (HK.out.below hb)
    replace HB : Hid (Below w.heap.size w v6) := Lib.hid (HB.out.trans (Below.mono hb HB.out.size))
    replace H9 : Hid (DigAt b9 D v6) := Lib.hid (H9.out.below hb)
    clear hb hS
    have hS : ST b9 D w.heap.size a (w.heap.size + 1) b v6 := ⟨dig_range H9.out, dig_range HA.out, dig_range HC.out⟩
    refine ⟨hS, ?_⟩
    try simp only [List.getElem_toArray, List.getElem_cons_succ, List.getElem_cons_zero, Act.put, List.setIfInBounds_toArray, List.set_cons_zero, List.set_cons_succ]
    refine wpAnyH_take (i := 21) (v := ?_) rfl (by kernel_rfl) (by kernel_rfl) (by kernel_rfl) (fun _ _ _ h => h) (Or.inl ⟨by rfl, ?_⟩) hS ?_
    rotate_left
    · intro v _; go_simp; first | done | with_reducible rfl
    rotate_left
    simp only [List.getElem_toArray, List.getElem_cons_succ, List.getElem_cons_zero, Act.put, List.setIfInBounds_toArray, List.set_cons_zero, List.set_cons_succ]
    refine wpAnyH_take (i := 22) (v := ?_) rfl (by kernel_rfl) (by kernel_rfl) (by kernel_rfl) (fun _ _ _ h => h) (Or.inl ⟨by rfl, ?_⟩) hS ?_
    rotate_left
    · intro v _; go_simp; first | done | with_reducible rfl
    rotate_left
    simp only [List.getElem_toArray, List.getElem_cons_succ, List.getElem_cons_zero, Act.put, List.setIfInBounds_toArray, List.set_cons_zero, List.set_cons_succ]
    refine wpAnyH_take (i := 23) (v := ?_) rfl (by kernel_rfl) (by kernel_rfl) (by kernel_rfl) (fun _ _ _ h => h) (Or.inl ⟨by rfl, ?_⟩) hS ?_
    rotate_left
    · intro v _; go_simp; first | done | with_reducible rfl
    rotate_left
    simp only [List.getElem_toArray, List.getElem_cons_succ, List.getElem_cons_zero, Act.put, List.setIfInBounds_toArray, List.set_cons_zero, List.set_cons_succ]
    refine wpAnyH_take (i := 24) (v := _) rfl (by kernel_rfl) (by kernel_rfl) (by kernel_rfl) (fun _ _ _ h => h) (yieldsIf_load_mid (by rfl) 24 (.tmp 5) rfl w.heap.size 0 rfl (Lib.byteCells a) (.array 32 5) (fun _ h => h.2.1) und_dig rfl zA.out) hS ?_
    simp only [List.getElem_toArray, List.getElem_cons_succ, List.getElem_cons_zero, Act.put, List.setIfInBounds_toArray, List.set_cons_zero, List.set_cons_succ]
    refine wpAnyH_take (i := 26) (v := _) rfl (by kernel_rfl) (by kernel_rfl) (by kernel_rfl) (fun _ _ _ h => h) (yieldsIf_load_mid (by rfl) 24 (.tmp 5) rfl w.heap.size 0 rfl (Lib.byteCells a) (.array 32 5) (fun _ h => h.2.1) und_dig rfl zA.out) hS ?_
    simp only [List.getElem_toArray, List.getElem_cons_succ, List.getElem_cons_zero, Act.put, List.setIfInBounds_toArray, List.set_cons_zero, List.set_cons_succ]
    refine wpAnyH_all (rs := [25]) (by kernel_rfl) (by simp) ?_
    intro i hi
    simp only [List.mem_cons, List.not_mem_nil, or_false] at hi
    subst hi
    refine wpOp_wp rfl (by rfl) ?_
    go_simp
    refine (hx1.out v6).mono ?_
    rintro e v7 ⟨rfl, hb⟩
    replace HA : Hid (DigAt w.heap.size a v7) := Lib.hid (HA.out.below hb)
    replace HC : Hid (DigAt (w.heap.size + 1) b v7) := Lib.hid (HC.out.below hb)
    replace HK : Hid (KAt v7) := Lib.hid (HK.out.below hb)
    replace HB : Hid (Below w.heap.size w v7) := Lib.hid (HB.out.trans (Below.mono hb HB.out.size))
    replace H9 : Hid (DigAt b9 D v7) := Lib.hid (H9.out.below hb)
    clear hb hS
    have hS : ST b9 D w.heap.size a (w.heap.size + 1) b v7 := ⟨dig_range H9.out, dig_range HA.out, dig_range HC.out⟩
    refine ⟨hS, ?_⟩
    try simp only [List.getElem_toArray, List.getElem_cons_succ, List.getElem_cons_zero, Act.put, List.setIfInBounds_toArray, List.set_cons_zero, List.set_cons_succ]
    refine wpAnyH_all (rs := [27]) (by kernel_rfl) (by simp) ?_
    intro i hi
    simp only [List.mem_cons, List.not_mem_nil, or_false] at hi
    subst hi
    refine wpOp_wp rfl (by rfl) ?_
    go_simp
    refine (hx2.out v7).mono ?_
    rintro e v8 ⟨rfl, hb⟩
    replace HA : Hid (DigAt w.heap.size a v8) := Lib.hid (HA.out.below hb)
    replace HC : Hid (DigAt (w.heap.size + 1) b v8) := Lib.hid (HC.out.below hb)
    replace HK : Hid (KAt v8) := Lib.hid (HK.out.below hb)
    replace HB : Hid (Below w.heap.size w v8) := Lib.hid (HB.out.trans (Below.mono hb HB.out.size))
    replace H9 : Hid (DigAt b9 D v8) := Lib.hid (H9.out.below hb)
    clear hb hS
    have hS : ST b9 D w.heap.size a (w.heap.size + 1) b v8 := ⟨dig_range H9.out, dig_range HA.out, dig_range HC.out⟩
    refine ⟨hS, ?_⟩
    try simp only [List.getElem_toArray, List.getElem_cons_succ, List.getElem_cons_zero, Act.put, List.setIfInBounds_toArray, List.set_cons_zero, List.set_cons_succ]
    refine wpAnyH_take (i := 28) (v := ?_) rfl (by kernel_rfl) (by kernel_rfl) (by kernel_rfl) (fun _ _ _ h => h) (Or.inl ⟨by rfl, ?_⟩) hS ?_
    rotate_left
    · intro v _; go_simp; first | done | with_reducible rfl
    rotate_left
    simp only [List.getElem_toArray, List.getElem_cons_succ, List.getElem_cons_zero, Act.put, List.setIfInBounds_toArray, List.set_cons_zero, List.set_cons_succ]
    refine wpAnyH_take (i := 29) (v := ?_) rfl (by kernel_rfl) (by kernel_rfl) (by kernel_rfl) (fun _ _ _ h => h) (Or.inl ⟨by rfl, ?_⟩) hS ?_
    rotate_left
    · intro v _; go_simp; first | done | with_reducible rfl
    rotate_left
    simp only [List.getElem_toArray, List.getElem_cons_succ, List.getElem_cons_zero, Act.put, List.setIfInBounds_toArray, List.set_cons_zero, List.set_cons_succ]
    refine wpAnyH_take (i := 30) (v := ?_) rfl (by kernel_rfl) (by kernel_rfl) (by kernel_rfl) (fun _ _ _ h => h) (Or.inl ⟨by rfl, ?_⟩) hS ?_
    rotate_left
    · intro v _; go_simp; first | done | with_reducible rfl
    rotate_left
    simp only [List.getElem_toArray, List.getElem_cons_succ, List.getElem_cons_zero, Act.put, List.setIfInBounds_toArray, List.set_cons_zero, List.set_cons_succ]
    refine wpAnyH_done (by kernel_rfl) ?_ _
    clear hS
    go_wp2_with fail
    go_ret
    exact ⟨rfl, HB.out⟩
end Go.Proofs.YtldpnmebjnkjeaaDoor.Ref10
namespace Go.Proofs.YtldpnmebjnkjeaaDoor.Ref10
open Go.RowKit Go.Proofs.YtldpnmebjnkjeaaDoorW.PrintWords Go.Proofs.YtldpnmebjnkjeaaDoor.PH1 Go.Proofs.YtldpnmebjnkjeaaDoor Go.Proofs.YtldpnmebjnkjeaaDoorW.PrintLast Go.Proofs.YtldpnmebjnkjeaaDoorW.PrintMore
open Go.Proofs.YtldpnmebjnkjeaaDoor.Sha
set_option linter.unusedVariables false
set_option linter.unusedSimpArgs false

theorem ha_size (v : V8) (r : ByteArray) (n : Int) : (HA v r n).size = 10 := rfl
theorem eqguardH : Tryd.prog.eqGuardType Tryd.prog.depth 31 = false := by kernel_rfl
/-- The string of a hash's variable is written anew. -/
theorem HAt.cut {b : Nat} {v : V8} {rest r : ByteArray} {n : Int} {w : World} (h : HAt b v rest n w) : HAt b v r n (w.setCell ⟨b, 8, none⟩ (.string r)) := by
  unfold HAt at *
  rw [set_row (L := v.list.map wv ++ [Value.string rest, Value.int .i64 n]) h 8]
  rfl
/-- What the loads of a drawn region read: a hash's variable, and a digest's. -/
def SHD (b : Nat) (v : V8) (r : ByteArray) (n : Int) (b8 : Nat) (D : List UInt8) (W : World) : Prop := W.rangeAt b 0 (HL v r n) ∧ W.rangeAt b8 0 (Lib.byteCells D)
/-- The same of two hashes' variables. -/
def SHH (b : Nat) (v : V8) (r : ByteArray) (n : Int) (b6 : Nat) (v6 : V8) (r6 : ByteArray) (n6 : Int) (W : World) : Prop := W.rangeAt b 0 (HL v r n) ∧ W.rangeAt b6 0 (HL v6 r6 n6)
def SH1 (b : Nat) (v : V8) (r : ByteArray) (n : Int) (W : World) : Prop := W.rangeAt b 0 (HL v r n)
set_option maxHeartbeats 16000000 in
set_option maxRecDepth 100000 in
theorem feeds_law (v : V8) (rest : ByteArray) (n : Int) (text : ByteArray) (w : World) (hn0 : -9223372036854775808 ≤ n) (hn1 : n ≤ 9223372036854775807) (hr : rest.size ≤ 9223372036854775807) (ht : text.size ≤ 9223372036854775807) (hK : KAt w) :
    Calls Tryd.prog 4 #[.agg (HA v rest n), .string text] w fun e w' => e = .returned (.bool true) ∧ Below w.heap.size w w' := by
  have htl : (text.extract 0 (min (text.size : Int) 200).toNat).size ≤ 200 := by rw [ByteArray.size_extract]; omega
  have hrl : (rest.extract 0 (min (rest.size : Int) 70).toNat).size ≤ 70 := by rw [ByteArray.size_extract]; omega
  go_enter Tryd.func4, Tryd.ntmps4
  go_upto_region 1 with fail
  generalize hw1 : w.alloc _ = w1
  have HH : Hid (HAt w.heap.size v rest n w1) := by
    rw [← hw1]; exact Lib.hid (heap_alloc_last _ _)
  have HB : Hid (Below w.heap.size w w1) := by
    rw [← hw1]; exact Lib.hid ((Below.refl _ _).alloc (Nat.le_refl _) _)
  have HK : Hid (KAt w1) := Lib.hid (hK.below HB.out)
  clear hw1
  have c8 := HH.out.cell8
  have f8 : w1.frozen? ⟨w.heap.size, 8, none⟩ = false := frozen_of_row w1 w.heap.size 8 _ _ HH.out
  go_region
  clear c8 f8
  generalize rest.extract 0 (min (rest.size : Int) 70).toNat = r at hrl ⊢
  generalize text.extract 0 (min (text.size : Int) 200).toNat = t at htl ⊢
  replace HH : Hid (HAt w.heap.size v r n ((w1.setCell ⟨w.heap.size, 8, none⟩ (.string r)).drew)) := Lib.hid HH.out.cut
  replace HB : Hid (Below w.heap.size w ((w1.setCell ⟨w.heap.size, 8, none⟩ (.string r)).drew)) := Lib.hid (HB.out.setCell (Nat.le_refl _) _).drew
  have HK2 : Hid (KAt ((w1.setCell ⟨w.heap.size, 8, none⟩ (.string r)).drew)) := Lib.hid (hK.below HB.out)
  replace HK := HK2
  clear HK2 hK
  generalize (w1.setCell ⟨w.heap.size, 8, none⟩ (.string r)).drew = w2 at HH HK HB ⊢
  replace hrl := Lib.hid hrl
  replace htl := Lib.hid htl
  go_wp2_with fail
  refine (begin_calls w2).mono ?_
  rintro e w3 ⟨rfl, hb⟩
  rw [HA_eq]
  replace HH : Hid (HAt w.heap.size v r _ w3) := Lib.hid (HH.out.below hb)
  replace HK : Hid (KAt w3) := Lib.hid (HK.out.below hb)
  replace HB : Hid (Below w.heap.size w w3) := Lib.hid (HB.out.trans (Below.mono hb HB.out.size))
  clear hb
  go_upto_region 3 with (guard_target = wpList _ _ _ (⟨none, _, _, _, _, _⟩ :: _) _ _; refine wpList_store_H rfl (.tmp 5) (.tmp 23) rfl w3.heap.size rfl v0 ⟨#[]⟩ 0 rfl (HA z8 ⟨#[]⟩ 0) 31 (heap_alloc_last _ _) rfl ?_; intro w4 h4 _ hB4 _; have hb4 : Below w3.heap.size w3 w4 := hB4 ((Below.refl _ _).alloc (Nat.le_refl _) _) (Nat.le_refl _))
  replace HH : Hid (HAt w.heap.size v r _ w4) := Lib.hid (HH.out.below hb4)
  replace HK : Hid (KAt w4) := Lib.hid (HK.out.below hb4)
  replace HB : Hid (Below w.heap.size w w4) := Lib.hid (HB.out.trans (Below.mono hb4 HB.out.size))
  have H5 : Hid (HAt w3.heap.size v0 ⟨#[]⟩ 0 w4) := h4
  clear hB4 hb4 h4
  generalize w3.heap.size = b5 at H5 ⊢
  have hrng := HL_range HH.out
  by_cases hR : rightH r.size n = true
  · obtain ⟨m, rfl⟩ : ∃ m : Nat, n = m := by
      unfold rightH at hR
      simp at hR
      exact ⟨n.toNat, by omega⟩
    have hm : m ≤ 1048576 ∧ r.size = m % 64 := by
      unfold rightH at hR
      simp at hR
      rw [Int.tmod_eq_emod_of_nonneg (by omega)] at hR
      omega
    have hrz : r.size ≤ 64 := by omega
    have hend := fun W hk => end_calls v r m W hk hR hrz hm.1
    have hend2 := fun W => rend_calls v r m (by omega) hm.1 W
    have hDl := endP_len v r.data.toList m
    generalize endP v r.data.toList m = D at hend hend2 hDl
    have heqD : ∀ v : World, (Op.equalIn 10000 24 (.agg (Lib.byteCells D).toArray) (.agg (Lib.byteCells D).toArray)).run Tryd.prog v = .ok true v := fun v => by
      rw [eq32 v D D hDl hDl]; simp
    have zD := info_dig hDl
    have hright := fun W => rright_calls v r (m : Int) W
    rw [hR] at hright
    replace heqD := Lib.hid heqD
    replace hDl := Lib.hid hDl
    replace hend := Lib.hid hend
    replace hend2 := Lib.hid hend2
    replace hright := Lib.hid hright
    replace zD := Lib.hid zD
    have htz := htl.out
    by_cases hl : m + t.size ≤ 1048576
    · have hfeed := feed_calls v r m t w4 HK.out hR (by omega) hrz (by omega)
      have hfeed2 := fun W => rfeed_calls v r m t (by omega) (by omega) (by omega) (by omega) W
      have hfv : fedV v r m t = .agg (HA (feedP v (r.data.toList ++ t.data.toList)).1 ⟨(feedP v (r.data.toList ++ t.data.toList)).2.toArray⟩ ((m : Int) + t.size)) := rfl
      obtain ⟨u6, s6, n6, hz6⟩ : ∃ (u6 : V8) (s6 : ByteArray) (n6 : Int), fedV v r m t = .agg (HA u6 s6 n6) := ⟨_, _, _, hfv⟩
      rw [hz6] at hfeed hfeed2
      have heq6 : ∀ W : World, (Op.equalIn 10000 31 (.agg (HA u6 s6 n6)) (.agg (HA u6 s6 n6))).run Tryd.prog W = .ok true W := fun W => eqH W u6 s6 n6
      clear hfv hz6 hR
      replace heq6 := Lib.hid heq6
      replace hfeed := Lib.hid hfeed
      replace hfeed2 := Lib.hid hfeed2
      have hl0 : (m : Int) + (t.size : Int) ≤ 1048576 := by omega
      have hm0 := hm.1
      replace hm := Lib.hid hm
      replace hl := Lib.hid hl
      go_wp2_with (guard_target = wpList _ _ _ (⟨some 25, _, _, _, _, _⟩ :: _) _ _; refine wpList_load_H rfl (.tmp 2) rfl w.heap.size rfl v r _ hrng ?_)
      refine hfeed.out.mono ?_
      rintro e w5 ⟨rfl, hb⟩
      clear hrng hfeed
      replace HH : Hid (HAt w.heap.size v r _ w5) := Lib.hid (HH.out.below hb)
      replace HK : Hid (KAt w5) := Lib.hid (HK.out.below hb)
      replace HB : Hid (Below w.heap.size w w5) := Lib.hid (HB.out.trans (Below.mono hb HB.out.size))
      replace H5 : Hid (HAt b5 v0 ⟨#[]⟩ 0 w5) := Lib.hid (H5.out.below hb)
      clear hb
      go_upto_region 4 with (guard_target = wpList _ _ _ (⟨none, _, _, _, _, _⟩ :: _) _ _; refine wpList_store_H rfl (.tmp 6) (.tmp 28) rfl w5.heap.size rfl u6 s6 n6 rfl (HA z8 ⟨#[]⟩ 0) 31 (heap_alloc_last _ _) rfl ?_; intro w6 h6 _ hB6 _; have hb6 : Below w5.heap.size w5 w6 := hB6 ((Below.refl _ _).alloc (Nat.le_refl _) _) (Nat.le_refl _))
      replace HH : Hid (HAt w.heap.size v r _ w6) := Lib.hid (HH.out.below hb6)
      replace HK : Hid (KAt w6) := Lib.hid (HK.out.below hb6)
      replace HB : Hid (Below w.heap.size w w6) := Lib.hid (HB.out.trans (Below.mono hb6 HB.out.size))
      replace H5 : Hid (HAt b5 v0 ⟨#[]⟩ 0 w6) := Lib.hid (H5.out.below hb6)
      have H6 : Hid (HAt w5.heap.size u6 s6 n6 w6) := h6
      clear hB6 hb6 h6
      generalize w5.heap.size = b6 at H6 ⊢
      have hrng := HL_range HH.out
      go_wp2_with (guard_target = wpList _ _ _ (⟨some 31, _, _, _, _, _⟩ :: _) _ _; refine wpList_load_H rfl (.tmp 2) rfl w.heap.size rfl v r _ hrng ?_)
      refine (hend.out w6 HK.out).mono ?_
      rintro e w7 ⟨rfl, hb⟩
      clear hrng hend
      replace HH : Hid (HAt w.heap.size v r _ w7) := Lib.hid (HH.out.below hb)
      replace HK : Hid (KAt w7) := Lib.hid (HK.out.below hb)
      replace HB : Hid (Below w.heap.size w w7) := Lib.hid (HB.out.trans (Below.mono hb HB.out.size))
      replace H5 : Hid (HAt b5 v0 ⟨#[]⟩ 0 w7) := Lib.hid (H5.out.below hb)
      replace H6 : Hid (HAt b6 u6 s6 n6 w7) := Lib.hid (H6.out.below hb)
      clear hb
      go_upto_region 5 with (guard_target = wpList _ _ _ (⟨none, _, _, _, _, _⟩ :: _) _ _; refine wpList_store_dig rfl (.tmp 8) (.tmp 33) rfl w7.heap.size rfl D hDl.out rfl (Lib.byteCells (List.replicate 32 0)).toArray 24 (heap_alloc_last _ _) zrow_size ?_; intro w8 h8 _ hB8; have hb8 : Below w7.heap.size w7 w8 := hB8 ((Below.refl _ _).alloc (Nat.le_refl _) _) (Nat.le_refl _))
      replace HH : Hid (HAt w.heap.size v r _ w8) := Lib.hid (HH.out.below hb8)
      replace HK : Hid (KAt w8) := Lib.hid (HK.out.below hb8)
      replace HB : Hid (Below w.heap.size w w8) := Lib.hid (HB.out.trans (Below.mono hb8 HB.out.size))
      replace H5 : Hid (HAt b5 v0 ⟨#[]⟩ 0 w8) := Lib.hid (H5.out.below hb8)
      replace H6 : Hid (HAt b6 u6 s6 n6 w8) := Lib.hid (H6.out.below hb8)
      have H8 : Hid (DigAt w7.heap.size D w8) := h8
      clear hB8 hb8 h8
      generalize w7.heap.size = b8 at H8 ⊢
      -- region 5: what Begin makes is the document's
      refine wp_region_held (S := SH1 b5 v0 ⟨#[]⟩ 0) (by kernel_rfl) ?_
      change wpAnyH _ _ _ _ _ _ _ _ w8.drew
      replace HH : Hid (HAt w.heap.size v r _ w8.drew) := HH
      replace HK : Hid (KAt w8.drew) := HK
      replace HB := Lib.hid HB.out.drew
      replace H5 : Hid (HAt b5 v0 ⟨#[]⟩ 0 w8.drew) := H5
      replace H6 : Hid (HAt b6 u6 s6 n6 w8.drew) := H6
      replace H8 : Hid (DigAt b8 D w8.drew) := H8
      generalize w8.drew = x0 at HH HK HB H5 H6 H8 ⊢
      have hS : SH1 b5 v0 ⟨#[]⟩ 0 x0 := HL_range H5.out
      have heq0 : ∀ W : World, (Op.equalIn 10000 31 (.agg (HA v0 ⟨#[]⟩ 0)) (.agg (HA v0 ⟨#[]⟩ 0))).run Tryd.prog W = .ok true W := fun W => eqH W v0 ⟨#[]⟩ 0
      have heg := eqguardH
      refine wpAnyH_take (i := 0) (v := _) rfl (by kernel_rfl) (by kernel_rfl) (by kernel_rfl) (fun _ _ _ h => h) (yieldsIf_H (by rfl) (.tmp 5) rfl b5 rfl v0 ⟨#[]⟩ 0 (fun _ h => h)) hS ?_
      try simp only [List.getElem_toArray, List.getElem_cons_succ, List.getElem_cons_zero, Act.put, List.setIfInBounds_toArray, List.set_cons_zero, List.set_cons_succ]
      refine wpAnyH_all (rs := [1]) (by kernel_rfl) (by simp) ?_
      intro i hi
      simp only [List.mem_cons, List.not_mem_nil, or_false] at hi
      subst hi
      refine wpOp_wp rfl (by rfl) ?_
      go_simp
      refine (first_calls x0).mono ?_
      rintro e x1 ⟨rfl, hb⟩
      replace HH : Hid (HAt w.heap.size v r _ x1) := Lib.hid (HH.out.below hb)
      replace HK : Hid (KAt x1) := Lib.hid (HK.out.below hb)
      replace HB : Hid (Below w.heap.size w x1) := Lib.hid (HB.out.trans (Below.mono hb HB.out.size))
      replace H5 : Hid (HAt b5 v0 ⟨#[]⟩ 0 x1) := Lib.hid (H5.out.below hb)
      replace H6 : Hid (HAt b6 u6 s6 n6 x1) := Lib.hid (H6.out.below hb)
      replace H8 : Hid (DigAt b8 D x1) := Lib.hid (H8.out.below hb)
      clear hb hS
      have hS : SH1 b5 v0 ⟨#[]⟩ 0 x1 := HL_range H5.out
      refine ⟨hS, ?_⟩
      try simp only [List.getElem_toArray, List.getElem_cons_succ, List.getElem_cons_zero, Act.put, List.setIfInBounds_toArray, List.set_cons_zero, List.set_cons_succ]
      refine wpAnyH_take (i := 2) (v := _) rfl (by kernel_rfl) (by kernel_rfl) (by kernel_rfl) (fun _ _ _ h => h) (yieldsIf_build_H0 (by rfl) (.tmp 36) rfl v0 rfl) hS ?_
      try simp only [List.getElem_toArray, List.getElem_cons_succ, List.getElem_cons_zero, Act.put, List.setIfInBounds_toArray, List.set_cons_zero, List.set_cons_succ]
      refine wpAnyH_take (i := 3) (v := ?_) rfl (by kernel_rfl) (by kernel_rfl) (by kernel_rfl) (fun _ _ _ h => h) (Or.inl ⟨by rfl, ?_⟩) hS ?_
      rotate_left
      · intro v _; go_simp; first | done | with_reducible rfl
      rotate_left
      simp only [List.getElem_toArray, List.getElem_cons_succ, List.getElem_cons_zero, Act.put, List.setIfInBounds_toArray, List.set_cons_zero, List.set_cons_succ]
      refine wpAnyH_take (i := 4) (v := ?_) rfl (by kernel_rfl) (by kernel_rfl) (by kernel_rfl) (fun _ _ _ h => h) (Or.inl ⟨by rfl, ?_⟩) hS ?_
      rotate_left
      · intro v _; go_simp; first | done | with_reducible rfl
      rotate_left
      simp only [List.getElem_toArray, List.getElem_cons_succ, List.getElem_cons_zero, Act.put, List.setIfInBounds_toArray, List.set_cons_zero, List.set_cons_succ]
      refine wpAnyH_all (rs := [5]) (by kernel_rfl) (by simp) ?_
      intro i hi
      simp only [List.mem_cons, List.not_mem_nil, or_false] at hi
      subst hi
      refine wpOp_wp rfl (by rfl) ?_
      go_simp
      refine (alive_calls x1 HK.out).mono ?_
      rintro e x2 ⟨rfl, hb⟩
      replace HH : Hid (HAt w.heap.size v r _ x2) := Lib.hid (HH.out.below hb)
      replace HK : Hid (KAt x2) := Lib.hid (HK.out.below hb)
      replace HB : Hid (Below w.heap.size w x2) := Lib.hid (HB.out.trans (Below.mono hb HB.out.size))
      replace H5 : Hid (HAt b5 v0 ⟨#[]⟩ 0 x2) := Lib.hid (H5.out.below hb)
      replace H6 : Hid (HAt b6 u6 s6 n6 x2) := Lib.hid (H6.out.below hb)
      replace H8 : Hid (DigAt b8 D x2) := Lib.hid (H8.out.below hb)
      clear hb hS
      have hS : SH1 b5 v0 ⟨#[]⟩ 0 x2 := HL_range H5.out
      refine ⟨hS, ?_⟩
      try simp only [List.getElem_toArray, List.getElem_cons_succ, List.getElem_cons_zero, Act.put, List.setIfInBounds_toArray, List.set_cons_zero, List.set_cons_succ]
      refine wpAnyH_take (i := 6) (v := ?_) rfl (by kernel_rfl) (by kernel_rfl) (by kernel_rfl) (fun _ _ _ h => h) (Or.inl ⟨by rfl, ?_⟩) hS ?_
      rotate_left
      · intro v _; go_simp; first | done | with_reducible rfl
      rotate_left
      simp only [List.getElem_toArray, List.getElem_cons_succ, List.getElem_cons_zero, Act.put, List.setIfInBounds_toArray, List.set_cons_zero, List.set_cons_succ]
      refine wpAnyH_take (i := 7) (v := ?_) rfl (by kernel_rfl) (by kernel_rfl) (by kernel_rfl) (fun _ _ _ h => h) (Or.inl ⟨by rfl, ?_⟩) hS ?_
      rotate_left
      · intro v _; go_simp; first | done | with_reducible rfl
      rotate_left
      simp only [List.getElem_toArray, List.getElem_cons_succ, List.getElem_cons_zero, Act.put, List.setIfInBounds_toArray, List.set_cons_zero, List.set_cons_succ]
      refine wpAnyH_done (by kernel_rfl) ?_ _
      clear hS heq0
      have hrng := HL_range HH.out
      go_wp2_with (guard_target = wpList _ _ _ (⟨some 43, _, _, _, _, _⟩ :: _) _ _; refine wpList_load_H rfl (.tmp 2) rfl w.heap.size rfl v r _ hrng ?_)
      refine (hright.out x2).mono ?_
      rintro e x3 ⟨rfl, hb⟩
      clear hrng hright
      replace HH : Hid (HAt w.heap.size v r _ x3) := Lib.hid (HH.out.below hb)
      replace HK : Hid (KAt x3) := Lib.hid (HK.out.below hb)
      replace HB : Hid (Below w.heap.size w x3) := Lib.hid (HB.out.trans (Below.mono hb HB.out.size))
      replace H5 : Hid (HAt b5 v0 ⟨#[]⟩ 0 x3) := Lib.hid (H5.out.below hb)
      replace H6 : Hid (HAt b6 u6 s6 n6 x3) := Lib.hid (H6.out.below hb)
      replace H8 : Hid (DigAt b8 D x3) := Lib.hid (H8.out.below hb)
      clear hb
      go_upto_region 9 with fail
      -- region 9: what End makes is the document's
      refine wp_region_held (S := SHD w.heap.size v r m b8 D) (by kernel_rfl) ?_
      change wpAnyH _ _ _ _ _ _ _ _ x3.drew
      replace HH : Hid (HAt w.heap.size v r _ x3.drew) := HH
      replace HK : Hid (KAt x3.drew) := HK
      replace HB := Lib.hid HB.out.drew
      replace H5 : Hid (HAt b5 v0 ⟨#[]⟩ 0 x3.drew) := H5
      replace H6 : Hid (HAt b6 u6 s6 n6 x3.drew) := H6
      replace H8 : Hid (DigAt b8 D x3.drew) := H8
      generalize x3.drew = x4 at HH HK HB H5 H6 H8 ⊢
      have hS : SHD w.heap.size v r m b8 D x4 := ⟨HL_range HH.out, dig_range H8.out⟩
      have heqo := heqD.out
      refine wpAnyH_take (i := 0) (v := ?_) rfl (by kernel_rfl) (by kernel_rfl) (by kernel_rfl) (fun _ _ _ h => h) (Or.inl ⟨by rfl, ?_⟩) hS ?_
      rotate_left
      · intro v _; go_simp; first | done | with_reducible rfl
      rotate_left
      simp only [List.getElem_toArray, List.getElem_cons_succ, List.getElem_cons_zero, Act.put, List.setIfInBounds_toArray, List.set_cons_zero, List.set_cons_succ]
      refine wpAnyH_take (i := 1) (v := ?_) rfl (by kernel_rfl) (by kernel_rfl) (by kernel_rfl) (fun _ _ _ h => h) (Or.inl ⟨by rfl, ?_⟩) hS ?_
      rotate_left
      · intro v _; go_simp; first | done | with_reducible rfl
      rotate_left
      simp only [List.getElem_toArray, List.getElem_cons_succ, List.getElem_cons_zero, Act.put, List.setIfInBounds_toArray, List.set_cons_zero, List.set_cons_succ]
      refine wpAnyH_take (i := 2) (v := ?_) rfl (by kernel_rfl) (by kernel_rfl) (by kernel_rfl) (fun _ _ _ h => h) (Or.inl ⟨by rfl, ?_⟩) hS ?_
      rotate_left
      · intro v _; go_simp; first | done | with_reducible rfl
      rotate_left
      simp only [List.getElem_toArray, List.getElem_cons_succ, List.getElem_cons_zero, Act.put, List.setIfInBounds_toArray, List.set_cons_zero, List.set_cons_succ]
      refine wpAnyH_take (i := 3) (v := _) rfl (by kernel_rfl) (by kernel_rfl) (by kernel_rfl) (fun _ _ _ h => h) (yieldsIf_load_mid (by rfl) 24 (.tmp 8) rfl b8 0 rfl (Lib.byteCells D) (.array 32 5) (fun _ h => h.2) und_dig rfl zD.out) hS ?_
      simp only [List.getElem_toArray, List.getElem_cons_succ, List.getElem_cons_zero, Act.put, List.setIfInBounds_toArray, List.set_cons_zero, List.set_cons_succ]
      refine wpAnyH_take (i := 4) (v := _) rfl (by kernel_rfl) (by kernel_rfl) (by kernel_rfl) (fun _ _ _ h => h) (yieldsIf_H (by rfl) (.tmp 2) rfl w.heap.size rfl v r m (fun _ h => h.1)) hS ?_
      try simp only [List.getElem_toArray, List.getElem_cons_succ, List.getElem_cons_zero, Act.put, List.setIfInBounds_toArray, List.set_cons_zero, List.set_cons_succ]
      refine wpAnyH_all (rs := [5]) (by kernel_rfl) (by simp) ?_
      intro i hi
      simp only [List.mem_cons, List.not_mem_nil, or_false] at hi
      subst hi
      refine wpOp_wp rfl (by rfl) ?_
      go_simp
      refine (hend2.out x4).mono ?_
      rintro e x5 ⟨rfl, hb⟩
      replace HH : Hid (HAt w.heap.size v r _ x5) := Lib.hid (HH.out.below hb)
      replace HK : Hid (KAt x5) := Lib.hid (HK.out.below hb)
      replace HB : Hid (Below w.heap.size w x5) := Lib.hid (HB.out.trans (Below.mono hb HB.out.size))
      replace H5 : Hid (HAt b5 v0 ⟨#[]⟩ 0 x5) := Lib.hid (H5.out.below hb)
      replace H6 : Hid (HAt b6 u6 s6 n6 x5) := Lib.hid (H6.out.below hb)
      replace H8 : Hid (DigAt b8 D x5) := Lib.hid (H8.out.below hb)
      clear hb hS
      have hS : SHD w.heap.size v r m b8 D x5 := ⟨HL_range HH.out, dig_range H8.out⟩
      refine ⟨hS, ?_⟩
      try simp only [List.getElem_toArray, List.getElem_cons_succ, List.getElem_cons_zero, Act.put, List.setIfInBounds_toArray, List.set_cons_zero, List.set_cons_succ]
      refine wpAnyH_take (i := 6) (v := ?_) rfl (by kernel_rfl) (by kernel_rfl) (by kernel_rfl) (fun _ _ _ h => h) (Or.inl ⟨by rfl, ?_⟩) hS ?_
      rotate_left
      · intro v _; go_simp; first | done | with_reducible rfl
      rotate_left
      simp only [List.getElem_toArray, List.getElem_cons_succ, List.getElem_cons_zero, Act.put, List.setIfInBounds_toArray, List.set_cons_zero, List.set_cons_succ]
      refine wpAnyH_take (i := 7) (v := ?_) rfl (by kernel_rfl) (by kernel_rfl) (by kernel_rfl) (fun _ _ _ h => h) (Or.inl ⟨by rfl, ?_⟩) hS ?_
      rotate_left
      · intro v _; go_simp; first | done | with_reducible rfl
      rotate_left
      simp only [List.getElem_toArray, List.getElem_cons_succ, List.getElem_cons_zero, Act.put, List.setIfInBounds_toArray, List.set_cons_zero, List.set_cons_succ]
      refine wpAnyH_done (by kernel_rfl) ?_ _
      clear hS
      clear heqo
      have c9 := HH.out.cell9
      go_upto_region 13 with fail
      clear c9
      -- region 13: what Feed makes is the document's
      refine wp_region_held (S := SHH w.heap.size v r m b6 u6 s6 n6) (by kernel_rfl) ?_
      change wpAnyH _ _ _ _ _ _ _ _ x5.drew
      replace HH : Hid (HAt w.heap.size v r _ x5.drew) := HH
      replace HK : Hid (KAt x5.drew) := HK
      replace HB := Lib.hid HB.out.drew
      replace H5 : Hid (HAt b5 v0 ⟨#[]⟩ 0 x5.drew) := H5
      replace H6 : Hid (HAt b6 u6 s6 n6 x5.drew) := H6
      replace H8 : Hid (DigAt b8 D x5.drew) := H8
      generalize x5.drew = x6 at HH HK HB H5 H6 H8 ⊢
      have hS : SHH w.heap.size v r m b6 u6 s6 n6 x6 := ⟨HL_range HH.out, HL_range H6.out⟩
      have heqp := heq6.out
      have heg := eqguardH
      refine wpAnyH_take (i := 0) (v := ?_) rfl (by kernel_rfl) (by kernel_rfl) (by kernel_rfl) (fun _ _ _ h => h) (Or.inl ⟨by rfl, ?_⟩) hS ?_
      rotate_left
      · intro v _; go_simp; first | done | with_reducible rfl
      rotate_left
      simp only [List.getElem_toArray, List.getElem_cons_succ, List.getElem_cons_zero, Act.put, List.setIfInBounds_toArray, List.set_cons_zero, List.set_cons_succ]
      refine wpAnyH_take (i := 1) (v := ?_) rfl (by kernel_rfl) (by kernel_rfl) (by kernel_rfl) (fun _ _ _ h => h) (Or.inl ⟨by rfl, ?_⟩) hS ?_
      rotate_left
      · intro v _; go_simp; first | done | with_reducible rfl
      rotate_left
      simp only [List.getElem_toArray, List.getElem_cons_succ, List.getElem_cons_zero, Act.put, List.setIfInBounds_toArray, List.set_cons_zero, List.set_cons_succ]
      refine wpAnyH_take (i := 2) (v := ?_) rfl (by kernel_rfl) (by kernel_rfl) (by kernel_rfl) (fun _ _ _ h => h) (Or.inl ⟨by rfl, ?_⟩) hS ?_
      rotate_left
      · intro v _; go_simp; first | done | with_reducible rfl
      rotate_left
      simp only [List.getElem_toArray, List.getElem_cons_succ, List.getElem_cons_zero, Act.put, List.setIfInBounds_toArray, List.set_cons_zero, List.set_cons_succ]
      refine wpAnyH_take (i := 3) (v := _) rfl (by kernel_rfl) (by kernel_rfl) (by kernel_rfl) (fun _ _ _ h => h) (yieldsIf_H (by rfl) (.tmp 6) rfl b6 rfl u6 s6 n6 (fun _ h => h.2)) hS ?_
      try simp only [List.getElem_toArray, List.getElem_cons_succ, List.getElem_cons_zero, Act.put, List.setIfInBounds_toArray, List.set_cons_zero, List.set_cons_succ]
      refine wpAnyH_take (i := 4) (v := _) rfl (by kernel_rfl) (by kernel_rfl) (by kernel_rfl) (fun _ _ _ h => h) (yieldsIf_H (by rfl) (.tmp 2) rfl w.heap.size rfl v r m (fun _ h => h.1)) hS ?_
      try simp only [List.getElem_toArray, List.getElem_cons_succ, List.getElem_cons_zero, Act.put, List.setIfInBounds_toArray, List.set_cons_zero, List.set_cons_succ]
      refine wpAnyH_take (i := 5) (v := ?_) rfl (by kernel_rfl) (by kernel_rfl) (by kernel_rfl) (fun _ _ _ h => h) (Or.inl ⟨by rfl, ?_⟩) hS ?_
      rotate_left
      · intro v _; go_simp; first | done | with_reducible rfl
      rotate_left
      simp only [List.getElem_toArray, List.getElem_cons_succ, List.getElem_cons_zero, Act.put, List.setIfInBounds_toArray, List.set_cons_zero, List.set_cons_succ]
      refine wpAnyH_all (rs := [6]) (by kernel_rfl) (by simp) ?_
      intro i hi
      simp only [List.mem_cons, List.not_mem_nil, or_false] at hi
      subst hi
      refine wpOp_wp rfl (by rfl) ?_
      go_simp
      refine (hfeed2.out x6).mono ?_
      rintro e x7 ⟨rfl, hb⟩
      replace HH : Hid (HAt w.heap.size v r _ x7) := Lib.hid (HH.out.below hb)
      replace HK : Hid (KAt x7) := Lib.hid (HK.out.below hb)
      replace HB : Hid (Below w.heap.size w x7) := Lib.hid (HB.out.trans (Below.mono hb HB.out.size))
      replace H5 : Hid (HAt b5 v0 ⟨#[]⟩ 0 x7) := Lib.hid (H5.out.below hb)
      replace H6 : Hid (HAt b6 u6 s6 n6 x7) := Lib.hid (H6.out.below hb)
      replace H8 : Hid (DigAt b8 D x7) := Lib.hid (H8.out.below hb)
      clear hb hS
      have hS : SHH w.heap.size v r m b6 u6 s6 n6 x7 := ⟨HL_range HH.out, HL_range H6.out⟩
      refine ⟨hS, ?_⟩
      try simp only [List.getElem_toArray, List.getElem_cons_succ, List.getElem_cons_zero, Act.put, List.setIfInBounds_toArray, List.set_cons_zero, List.set_cons_succ]
      refine wpAnyH_take (i := 7) (v := ?_) rfl (by kernel_rfl) (by kernel_rfl) (by kernel_rfl) (fun _ _ _ h => h) (Or.inl ⟨by rfl, ?_⟩) hS ?_
      rotate_left
      · intro v _; go_simp; first | done | with_reducible rfl
      rotate_left
      simp only [List.getElem_toArray, List.getElem_cons_succ, List.getElem_cons_zero, Act.put, List.setIfInBounds_toArray, List.set_cons_zero, List.set_cons_succ]
      refine wpAnyH_take (i := 8) (v := ?_) rfl (by kernel_rfl) (by kernel_rfl) (by kernel_rfl) (fun _ _ _ h => h) (Or.inl ⟨by rfl, ?_⟩) hS ?_
      rotate_left
      · intro v _; go_simp; first | done | with_reducible rfl
      rotate_left
      simp only [List.getElem_toArray, List.getElem_cons_succ, List.getElem_cons_zero, Act.put, List.setIfInBounds_toArray, List.set_cons_zero, List.set_cons_succ]
      refine wpAnyH_take (i := 9) (v := ?_) rfl (by kernel_rfl) (by kernel_rfl) (by kernel_rfl) (fun _ _ _ h => h) (Or.inl ⟨by rfl, ?_⟩) hS ?_
      rotate_left
      · intro v _; go_simp; first | done | with_reducible rfl
      rotate_left
      simp only [List.getElem_toArray, List.getElem_cons_succ, List.getElem_cons_zero, Act.put, List.setIfInBounds_toArray, List.set_cons_zero, List.set_cons_succ]
      refine wpAnyH_done (by kernel_rfl) ?_ _
      clear hS heqp
      go_wp2_with fail
      go_ret
      exact ⟨rfl, HB.out⟩
    · have hfeed := feed_long v r m t w4 HK.out hR (by omega) (by omega) (by omega) (by omega)
      rw [show zeroHash = .agg (HA z8 ⟨#[]⟩ 0) from rfl] at hfeed
      obtain ⟨u6, s6, n6, hz6⟩ : ∃ (u6 : V8) (s6 : ByteArray) (n6 : Int), u6 = z8 ∧ s6 = ⟨#[]⟩ ∧ n6 = 0 := ⟨_, _, _, rfl, rfl, rfl⟩
      rw [← hz6.1, ← hz6.2.1, ← hz6.2.2] at hfeed
      have heq6 : ∀ W : World, (Op.equalIn 10000 31 (.agg (HA u6 s6 n6)) (.agg #[.int .u32 0, .int .u32 0, .int .u32 0, .int .u32 0, .int .u32 0, .int .u32 0, .int .u32 0, .int .u32 0, .string ⟨#[]⟩, .int .i64 0])).run Tryd.prog W = .ok true W := fun W => by
        have h := eqH W z8 ⟨#[]⟩ 0
        rw [hz6.1, hz6.2.1, hz6.2.2]
        exact h
      clear hR
      replace hz6 := Lib.hid hz6
      replace heq6 := Lib.hid heq6
      replace hfeed := Lib.hid hfeed
      have hl0 : 1048576 < (m : Int) + (t.size : Int) := by omega
      have hm0 := hm.1
      replace hm := Lib.hid hm
      replace hl := Lib.hid hl
      go_wp2_with (guard_target = wpList _ _ _ (⟨some 25, _, _, _, _, _⟩ :: _) _ _; refine wpList_load_H rfl (.tmp 2) rfl w.heap.size rfl v r _ hrng ?_)
      refine hfeed.out.mono ?_
      rintro e w5 ⟨rfl, hb⟩
      clear hrng hfeed
      replace HH : Hid (HAt w.heap.size v r _ w5) := Lib.hid (HH.out.below hb)
      replace HK : Hid (KAt w5) := Lib.hid (HK.out.below hb)
      replace HB : Hid (Below w.heap.size w w5) := Lib.hid (HB.out.trans (Below.mono hb HB.out.size))
      replace H5 : Hid (HAt b5 v0 ⟨#[]⟩ 0 w5) := Lib.hid (H5.out.below hb)
      clear hb
      go_upto_region 4 with (guard_target = wpList _ _ _ (⟨none, _, _, _, _, _⟩ :: _) _ _; refine wpList_store_H rfl (.tmp 6) (.tmp 28) rfl w5.heap.size rfl u6 s6 n6 rfl (HA z8 ⟨#[]⟩ 0) 31 (heap_alloc_last _ _) rfl ?_; intro w6 h6 _ hB6 _; have hb6 : Below w5.heap.size w5 w6 := hB6 ((Below.refl _ _).alloc (Nat.le_refl _) _) (Nat.le_refl _))
      replace HH : Hid (HAt w.heap.size v r _ w6) := Lib.hid (HH.out.below hb6)
      replace HK : Hid (KAt w6) := Lib.hid (HK.out.below hb6)
      replace HB : Hid (Below w.heap.size w w6) := Lib.hid (HB.out.trans (Below.mono hb6 HB.out.size))
      replace H5 : Hid (HAt b5 v0 ⟨#[]⟩ 0 w6) := Lib.hid (H5.out.below hb6)
      have H6 : Hid (HAt w5.heap.size u6 s6 n6 w6) := h6
      clear hB6 hb6 h6
      generalize w5.heap.size = b6 at H6 ⊢
      have hrng := HL_range HH.out
      go_wp2_with (guard_target = wpList _ _ _ (⟨some 31, _, _, _, _, _⟩ :: _) _ _; refine wpList_load_H rfl (.tmp 2) rfl w.heap.size rfl v r _ hrng ?_)
      refine (hend.out w6 HK.out).mono ?_
      rintro e w7 ⟨rfl, hb⟩
      clear hrng hend
      replace HH : Hid (HAt w.heap.size v r _ w7) := Lib.hid (HH.out.below hb)
      replace HK : Hid (KAt w7) := Lib.hid (HK.out.below hb)
      replace HB : Hid (Below w.heap.size w w7) := Lib.hid (HB.out.trans (Below.mono hb HB.out.size))
      replace H5 : Hid (HAt b5 v0 ⟨#[]⟩ 0 w7) := Lib.hid (H5.out.below hb)
      replace H6 : Hid (HAt b6 u6 s6 n6 w7) := Lib.hid (H6.out.below hb)
      clear hb
      go_upto_region 5 with (guard_target = wpList _ _ _ (⟨none, _, _, _, _, _⟩ :: _) _ _; refine wpList_store_dig rfl (.tmp 8) (.tmp 33) rfl w7.heap.size rfl D hDl.out rfl (Lib.byteCells (List.replicate 32 0)).toArray 24 (heap_alloc_last _ _) zrow_size ?_; intro w8 h8 _ hB8; have hb8 : Below w7.heap.size w7 w8 := hB8 ((Below.refl _ _).alloc (Nat.le_refl _) _) (Nat.le_refl _))
      replace HH : Hid (HAt w.heap.size v r _ w8) := Lib.hid (HH.out.below hb8)
      replace HK : Hid (KAt w8) := Lib.hid (HK.out.below hb8)
      replace HB : Hid (Below w.heap.size w w8) := Lib.hid (HB.out.trans (Below.mono hb8 HB.out.size))
      replace H5 : Hid (HAt b5 v0 ⟨#[]⟩ 0 w8) := Lib.hid (H5.out.below hb8)
      replace H6 : Hid (HAt b6 u6 s6 n6 w8) := Lib.hid (H6.out.below hb8)
      have H8 : Hid (DigAt w7.heap.size D w8) := h8
      clear hB8 hb8 h8
      generalize w7.heap.size = b8 at H8 ⊢
      -- region 5: what Begin makes is the document's
      refine wp_region_held (S := SH1 b5 v0 ⟨#[]⟩ 0) (by kernel_rfl) ?_
      change wpAnyH _ _ _ _ _ _ _ _ w8.drew
      replace HH : Hid (HAt w.heap.size v r _ w8.drew) := HH
      replace HK : Hid (KAt w8.drew) := HK
      replace HB := Lib.hid HB.out.drew
      replace H5 : Hid (HAt b5 v0 ⟨#[]⟩ 0 w8.drew) := H5
      replace H6 : Hid (HAt b6 u6 s6 n6 w8.drew) := H6
      replace H8 : Hid (DigAt b8 D w8.drew) := H8
      generalize w8.drew = x0 at HH HK HB H5 H6 H8 ⊢
      have hS : SH1 b5 v0 ⟨#[]⟩ 0 x0 := HL_range H5.out
      have heq0 : ∀ W : World, (Op.equalIn 10000 31 (.agg (HA v0 ⟨#[]⟩ 0)) (.agg (HA v0 ⟨#[]⟩ 0))).run Tryd.prog W = .ok true W := fun W => eqH W v0 ⟨#[]⟩ 0
      have heg := eqguardH
      refine wpAnyH_take (i := 0) (v := _) rfl (by kernel_rfl) (by kernel_rfl) (by kernel_rfl) (fun _ _ _ h => h) (yieldsIf_H (by rfl) (.tmp 5) rfl b5 rfl v0 ⟨#[]⟩ 0 (fun _ h => h)) hS ?_
      try simp only [List.getElem_toArray, List.getElem_cons_succ, List.getElem_cons_zero, Act.put, List.setIfInBounds_toArray, List.set_cons_zero, List.set_cons_succ]
      refine wpAnyH_all (rs := [1]) (by kernel_rfl) (by simp) ?_
      intro i hi
      simp only [List.mem_cons, List.not_mem_nil, or_false] at hi
      subst hi
      refine wpOp_wp rfl (by rfl) ?_
      go_simp
      refine (first_calls x0).mono ?_
      rintro e x1 ⟨rfl, hb⟩
      replace HH : Hid (HAt w.heap.size v r _ x1) := Lib.hid (HH.out.below hb)
      replace HK : Hid (KAt x1) := Lib.hid (HK.out.below hb)
      replace HB : Hid (Below w.heap.size w x1) := Lib.hid (HB.out.trans (Below.mono hb HB.out.size))
      replace H5 : Hid (HAt b5 v0 ⟨#[]⟩ 0 x1) := Lib.hid (H5.out.below hb)
      replace H6 : Hid (HAt b6 u6 s6 n6 x1) := Lib.hid (H6.out.below hb)
      replace H8 : Hid (DigAt b8 D x1) := Lib.hid (H8.out.below hb)
      clear hb hS
      have hS : SH1 b5 v0 ⟨#[]⟩ 0 x1 := HL_range H5.out
      refine ⟨hS, ?_⟩
      try simp only [List.getElem_toArray, List.getElem_cons_succ, List.getElem_cons_zero, Act.put, List.setIfInBounds_toArray, List.set_cons_zero, List.set_cons_succ]
      refine wpAnyH_take (i := 2) (v := _) rfl (by kernel_rfl) (by kernel_rfl) (by kernel_rfl) (fun _ _ _ h => h) (yieldsIf_build_H0 (by rfl) (.tmp 36) rfl v0 rfl) hS ?_
      try simp only [List.getElem_toArray, List.getElem_cons_succ, List.getElem_cons_zero, Act.put, List.setIfInBounds_toArray, List.set_cons_zero, List.set_cons_succ]
      refine wpAnyH_take (i := 3) (v := ?_) rfl (by kernel_rfl) (by kernel_rfl) (by kernel_rfl) (fun _ _ _ h => h) (Or.inl ⟨by rfl, ?_⟩) hS ?_
      rotate_left
      · intro v _; go_simp; first | done | with_reducible rfl
      rotate_left
      simp only [List.getElem_toArray, List.getElem_cons_succ, List.getElem_cons_zero, Act.put, List.setIfInBounds_toArray, List.set_cons_zero, List.set_cons_succ]
      refine wpAnyH_take (i := 4) (v := ?_) rfl (by kernel_rfl) (by kernel_rfl) (by kernel_rfl) (fun _ _ _ h => h) (Or.inl ⟨by rfl, ?_⟩) hS ?_
      rotate_left
      · intro v _; go_simp; first | done | with_reducible rfl
      rotate_left
      simp only [List.getElem_toArray, List.getElem_cons_succ, List.getElem_cons_zero, Act.put, List.setIfInBounds_toArray, List.set_cons_zero, List.set_cons_succ]
      refine wpAnyH_all (rs := [5]) (by kernel_rfl) (by simp) ?_
      intro i hi
      simp only [List.mem_cons, List.not_mem_nil, or_false] at hi
      subst hi
      refine wpOp_wp rfl (by rfl) ?_
      go_simp
      refine (alive_calls x1 HK.out).mono ?_
      rintro e x2 ⟨rfl, hb⟩
      replace HH : Hid (HAt w.heap.size v r _ x2) := Lib.hid (HH.out.below hb)
      replace HK : Hid (KAt x2) := Lib.hid (HK.out.below hb)
      replace HB : Hid (Below w.heap.size w x2) := Lib.hid (HB.out.trans (Below.mono hb HB.out.size))
      replace H5 : Hid (HAt b5 v0 ⟨#[]⟩ 0 x2) := Lib.hid (H5.out.below hb)
      replace H6 : Hid (HAt b6 u6 s6 n6 x2) := Lib.hid (H6.out.below hb)
      replace H8 : Hid (DigAt b8 D x2) := Lib.hid (H8.out.below hb)
      clear hb hS
      have hS : SH1 b5 v0 ⟨#[]⟩ 0 x2 := HL_range H5.out
      refine ⟨hS, ?_⟩
      try simp only [List.getElem_toArray, List.getElem_cons_succ, List.getElem_cons_zero, Act.put, List.setIfInBounds_toArray, List.set_cons_zero, List.set_cons_succ]
      refine wpAnyH_take (i := 6) (v := ?_) rfl (by kernel_rfl) (by kernel_rfl) (by kernel_rfl) (fun _ _ _ h => h) (Or.inl ⟨by rfl, ?_⟩) hS ?_
      rotate_left
      · intro v _; go_simp; first | done | with_reducible rfl
      rotate_left
      simp only [List.getElem_toArray, List.getElem_cons_succ, List.getElem_cons_zero, Act.put, List.setIfInBounds_toArray, List.set_cons_zero, List.set_cons_succ]
      refine wpAnyH_take (i := 7) (v := ?_) rfl (by kernel_rfl) (by kernel_rfl) (by kernel_rfl) (fun _ _ _ h => h) (Or.inl ⟨by rfl, ?_⟩) hS ?_
      rotate_left
      · intro v _; go_simp; first | done | with_reducible rfl
      rotate_left
      simp only [List.getElem_toArray, List.getElem_cons_succ, List.getElem_cons_zero, Act.put, List.setIfInBounds_toArray, List.set_cons_zero, List.set_cons_succ]
      refine wpAnyH_done (by kernel_rfl) ?_ _
      clear hS heq0
      have hrng := HL_range HH.out
      go_wp2_with (guard_target = wpList _ _ _ (⟨some 43, _, _, _, _, _⟩ :: _) _ _; refine wpList_load_H rfl (.tmp 2) rfl w.heap.size rfl v r _ hrng ?_)
      refine (hright.out x2).mono ?_
      rintro e x3 ⟨rfl, hb⟩
      clear hrng hright
      replace HH : Hid (HAt w.heap.size v r _ x3) := Lib.hid (HH.out.below hb)
      replace HK : Hid (KAt x3) := Lib.hid (HK.out.below hb)
      replace HB : Hid (Below w.heap.size w x3) := Lib.hid (HB.out.trans (Below.mono hb HB.out.size))
      replace H5 : Hid (HAt b5 v0 ⟨#[]⟩ 0 x3) := Lib.hid (H5.out.below hb)
      replace H6 : Hid (HAt b6 u6 s6 n6 x3) := Lib.hid (H6.out.below hb)
      replace H8 : Hid (DigAt b8 D x3) := Lib.hid (H8.out.below hb)
      clear hb
      go_upto_region 9 with fail
      -- region 9: what End makes is the document's
      refine wp_region_held (S := SHD w.heap.size v r m b8 D) (by kernel_rfl) ?_
      change wpAnyH _ _ _ _ _ _ _ _ x3.drew
      replace HH : Hid (HAt w.heap.size v r _ x3.drew) := HH
      replace HK : Hid (KAt x3.drew) := HK
      replace HB := Lib.hid HB.out.drew
      replace H5 : Hid (HAt b5 v0 ⟨#[]⟩ 0 x3.drew) := H5
      replace H6 : Hid (HAt b6 u6 s6 n6 x3.drew) := H6
      replace H8 : Hid (DigAt b8 D x3.drew) := H8
      generalize x3.drew = x4 at HH HK HB H5 H6 H8 ⊢
      have hS : SHD w.heap.size v r m b8 D x4 := ⟨HL_range HH.out, dig_range H8.out⟩
      have heqo := heqD.out
      refine wpAnyH_take (i := 0) (v := ?_) rfl (by kernel_rfl) (by kernel_rfl) (by kernel_rfl) (fun _ _ _ h => h) (Or.inl ⟨by rfl, ?_⟩) hS ?_
      rotate_left
      · intro v _; go_simp; first | done | with_reducible rfl
      rotate_left
      simp only [List.getElem_toArray, List.getElem_cons_succ, List.getElem_cons_zero, Act.put, List.setIfInBounds_toArray, List.set_cons_zero, List.set_cons_succ]
      refine wpAnyH_take (i := 1) (v := ?_) rfl (by kernel_rfl) (by kernel_rfl) (by kernel_rfl) (fun _ _ _ h => h) (Or.inl ⟨by rfl, ?_⟩) hS ?_
      rotate_left
      · intro v _; go_simp; first | done | with_reducible rfl
      rotate_left
      simp only [List.getElem_toArray, List.getElem_cons_succ, List.getElem_cons_zero, Act.put, List.setIfInBounds_toArray, List.set_cons_zero, List.set_cons_succ]
      refine wpAnyH_take (i := 2) (v := ?_) rfl (by kernel_rfl) (by kernel_rfl) (by kernel_rfl) (fun _ _ _ h => h) (Or.inl ⟨by rfl, ?_⟩) hS ?_
      rotate_left
      · intro v _; go_simp; first | done | with_reducible rfl
      rotate_left
      simp only [List.getElem_toArray, List.getElem_cons_succ, List.getElem_cons_zero, Act.put, List.setIfInBounds_toArray, List.set_cons_zero, List.set_cons_succ]
      refine wpAnyH_take (i := 3) (v := _) rfl (by kernel_rfl) (by kernel_rfl) (by kernel_rfl) (fun _ _ _ h => h) (yieldsIf_load_mid (by rfl) 24 (.tmp 8) rfl b8 0 rfl (Lib.byteCells D) (.array 32 5) (fun _ h => h.2) und_dig rfl zD.out) hS ?_
      simp only [List.getElem_toArray, List.getElem_cons_succ, List.getElem_cons_zero, Act.put, List.setIfInBounds_toArray, List.set_cons_zero, List.set_cons_succ]
      refine wpAnyH_take (i := 4) (v := _) rfl (by kernel_rfl) (by kernel_rfl) (by kernel_rfl) (fun _ _ _ h => h) (yieldsIf_H (by rfl) (.tmp 2) rfl w.heap.size rfl v r m (fun _ h => h.1)) hS ?_
      try simp only [List.getElem_toArray, List.getElem_cons_succ, List.getElem_cons_zero, Act.put, List.setIfInBounds_toArray, List.set_cons_zero, List.set_cons_succ]
      refine wpAnyH_all (rs := [5]) (by kernel_rfl) (by simp) ?_
      intro i hi
      simp only [List.mem_cons, List.not_mem_nil, or_false] at hi
      subst hi
      refine wpOp_wp rfl (by rfl) ?_
      go_simp
      refine (hend2.out x4).mono ?_
      rintro e x5 ⟨rfl, hb⟩
      replace HH : Hid (HAt w.heap.size v r _ x5) := Lib.hid (HH.out.below hb)
      replace HK : Hid (KAt x5) := Lib.hid (HK.out.below hb)
      replace HB : Hid (Below w.heap.size w x5) := Lib.hid (HB.out.trans (Below.mono hb HB.out.size))
      replace H5 : Hid (HAt b5 v0 ⟨#[]⟩ 0 x5) := Lib.hid (H5.out.below hb)
      replace H6 : Hid (HAt b6 u6 s6 n6 x5) := Lib.hid (H6.out.below hb)
      replace H8 : Hid (DigAt b8 D x5) := Lib.hid (H8.out.below hb)
      clear hb hS
      have hS : SHD w.heap.size v r m b8 D x5 := ⟨HL_range HH.out, dig_range H8.out⟩
      refine ⟨hS, ?_⟩
      try simp only [List.getElem_toArray, List.getElem_cons_succ, List.getElem_cons_zero, Act.put, List.setIfInBounds_toArray, List.set_cons_zero, List.set_cons_succ]
      refine wpAnyH_take (i := 6) (v := ?_) rfl (by kernel_rfl) (by kernel_rfl) (by kernel_rfl) (fun _ _ _ h => h) (Or.inl ⟨by rfl, ?_⟩) hS ?_
      rotate_left
      · intro v _; go_simp; first | done | with_reducible rfl
      rotate_left
      simp only [List.getElem_toArray, List.getElem_cons_succ, List.getElem_cons_zero, Act.put, List.setIfInBounds_toArray, List.set_cons_zero, List.set_cons_succ]
      refine wpAnyH_take (i := 7) (v := ?_) rfl (by kernel_rfl) (by kernel_rfl) (by kernel_rfl) (fun _ _ _ h => h) (Or.inl ⟨by rfl, ?_⟩) hS ?_
      rotate_left
      · intro v _; go_simp; first | done | with_reducible rfl
      rotate_left
      simp only [List.getElem_toArray, List.getElem_cons_succ, List.getElem_cons_zero, Act.put, List.setIfInBounds_toArray, List.set_cons_zero, List.set_cons_succ]
      refine wpAnyH_done (by kernel_rfl) ?_ _
      clear hS
      clear heqo
      have c9 := HH.out.cell9
      have hrng6 := HL_range H6.out
      have heqp := heq6.out
      go_wp2_with (guard_target = wpList _ _ _ (⟨some 79, _, _, _, _, _⟩ :: _) _ _; refine wpList_load_H rfl (.tmp 6) rfl b6 rfl u6 s6 n6 hrng6 ?_)
      go_ret
      exact ⟨rfl, HB.out⟩
  · have hRf : rightH r.size n = false := by simpa using hR
    clear hR
    have hfeed := feed_bad v r n t w4 HK.out hRf
    rw [show zeroHash = .agg (HA z8 ⟨#[]⟩ 0) from rfl] at hfeed
    obtain ⟨u6, s6, n6, hz6⟩ : ∃ (u6 : V8) (s6 : ByteArray) (n6 : Int), u6 = z8 ∧ s6 = ⟨#[]⟩ ∧ n6 = 0 := ⟨_, _, _, rfl, rfl, rfl⟩
    rw [← hz6.1, ← hz6.2.1, ← hz6.2.2] at hfeed
    have heq6 : ∀ W : World, (Op.equalIn 10000 31 (.agg (HA u6 s6 n6)) (.agg #[.int .u32 0, .int .u32 0, .int .u32 0, .int .u32 0, .int .u32 0, .int .u32 0, .int .u32 0, .int .u32 0, .string ⟨#[]⟩, .int .i64 0])).run Tryd.prog W = .ok true W := fun W => by
      have h := eqH W z8 ⟨#[]⟩ 0
      rw [hz6.1, hz6.2.1, hz6.2.2]
      exact h
    obtain ⟨D, hD⟩ : ∃ y : List UInt8, y = List.replicate 32 0 := ⟨_, rfl⟩
    have hzd : zeroDig = .agg (Lib.byteCells D).toArray := by rw [hD]; rfl
    have hDl : D.length = 32 := by rw [hD]; simp
    have heqD : ∀ v : World, (Op.equalIn 10000 24 (.agg (Lib.byteCells D).toArray) (.agg #[.int .u8 0, .int .u8 0, .int .u8 0, .int .u8 0, .int .u8 0, .int .u8 0, .int .u8 0, .int .u8 0, .int .u8 0, .int .u8 0, .int .u8 0, .int .u8 0, .int .u8 0, .int .u8 0, .int .u8 0, .int .u8 0, .int .u8 0, .int .u8 0, .int .u8 0, .int .u8 0, .int .u8 0, .int .u8 0, .int .u8 0, .int .u8 0, .int .u8 0, .int .u8 0, .int .u8 0, .int .u8 0, .int .u8 0, .int .u8 0, .int .u8 0, .int .u8 0])).run Tryd.prog v = .ok true v := fun v => by
      have h := eq32 v D (List.replicate 32 0) hDl (by simp)
      rw [show decide (D = List.replicate 32 0) = true by simp [hD]] at h
      exact h
    have hend := fun W hk => end_bad v r n W hk hRf
    rw [hzd] at hend
    replace hz6 := Lib.hid hz6
    replace heq6 := Lib.hid heq6
    replace heqD := Lib.hid heqD
    replace hDl := Lib.hid hDl
    replace hend := Lib.hid hend
    replace hfeed := Lib.hid hfeed
    have hright := fun W => rright_calls v r n W
    rw [hRf] at hright
    replace hright := Lib.hid hright
    clear hD hzd hRf
    go_wp2_with (guard_target = wpList _ _ _ (⟨some 25, _, _, _, _, _⟩ :: _) _ _; refine wpList_load_H rfl (.tmp 2) rfl w.heap.size rfl v r _ hrng ?_)
    refine hfeed.out.mono ?_
    rintro e w5 ⟨rfl, hb⟩
    clear hrng hfeed
    replace HH : Hid (HAt w.heap.size v r _ w5) := Lib.hid (HH.out.below hb)
    replace HK : Hid (KAt w5) := Lib.hid (HK.out.below hb)
    replace HB : Hid (Below w.heap.size w w5) := Lib.hid (HB.out.trans (Below.mono hb HB.out.size))
    replace H5 : Hid (HAt b5 v0 ⟨#[]⟩ 0 w5) := Lib.hid (H5.out.below hb)
    clear hb
    go_upto_region 4 with (guard_target = wpList _ _ _ (⟨none, _, _, _, _, _⟩ :: _) _ _; refine wpList_store_H rfl (.tmp 6) (.tmp 28) rfl w5.heap.size rfl u6 s6 n6 rfl (HA z8 ⟨#[]⟩ 0) 31 (heap_alloc_last _ _) rfl ?_; intro w6 h6 _ hB6 _; have hb6 : Below w5.heap.size w5 w6 := hB6 ((Below.refl _ _).alloc (Nat.le_refl _) _) (Nat.le_refl _))
    replace HH : Hid (HAt w.heap.size v r _ w6) := Lib.hid (HH.out.below hb6)
    replace HK : Hid (KAt w6) := Lib.hid (HK.out.below hb6)
    replace HB : Hid (Below w.heap.size w w6) := Lib.hid (HB.out.trans (Below.mono hb6 HB.out.size))
    replace H5 : Hid (HAt b5 v0 ⟨#[]⟩ 0 w6) := Lib.hid (H5.out.below hb6)
    have H6 : Hid (HAt w5.heap.size u6 s6 n6 w6) := h6
    clear hB6 hb6 h6
    generalize w5.heap.size = b6 at H6 ⊢
    have hrng := HL_range HH.out
    go_wp2_with (guard_target = wpList _ _ _ (⟨some 31, _, _, _, _, _⟩ :: _) _ _; refine wpList_load_H rfl (.tmp 2) rfl w.heap.size rfl v r _ hrng ?_)
    refine (hend.out w6 HK.out).mono ?_
    rintro e w7 ⟨rfl, hb⟩
    clear hrng hend
    replace HH : Hid (HAt w.heap.size v r _ w7) := Lib.hid (HH.out.below hb)
    replace HK : Hid (KAt w7) := Lib.hid (HK.out.below hb)
    replace HB : Hid (Below w.heap.size w w7) := Lib.hid (HB.out.trans (Below.mono hb HB.out.size))
    replace H5 : Hid (HAt b5 v0 ⟨#[]⟩ 0 w7) := Lib.hid (H5.out.below hb)
    replace H6 : Hid (HAt b6 u6 s6 n6 w7) := Lib.hid (H6.out.below hb)
    clear hb
    go_upto_region 5 with (guard_target = wpList _ _ _ (⟨none, _, _, _, _, _⟩ :: _) _ _; refine wpList_store_dig rfl (.tmp 8) (.tmp 33) rfl w7.heap.size rfl D hDl.out rfl (Lib.byteCells (List.replicate 32 0)).toArray 24 (heap_alloc_last _ _) zrow_size ?_; intro w8 h8 _ hB8; have hb8 : Below w7.heap.size w7 w8 := hB8 ((Below.refl _ _).alloc (Nat.le_refl _) _) (Nat.le_refl _))
    replace HH : Hid (HAt w.heap.size v r _ w8) := Lib.hid (HH.out.below hb8)
    replace HK : Hid (KAt w8) := Lib.hid (HK.out.below hb8)
    replace HB : Hid (Below w.heap.size w w8) := Lib.hid (HB.out.trans (Below.mono hb8 HB.out.size))
    replace H5 : Hid (HAt b5 v0 ⟨#[]⟩ 0 w8) := Lib.hid (H5.out.below hb8)
    replace H6 : Hid (HAt b6 u6 s6 n6 w8) := Lib.hid (H6.out.below hb8)
    have H8 : Hid (DigAt w7.heap.size D w8) := h8
    clear hB8 hb8 h8
    generalize w7.heap.size = b8 at H8 ⊢
    -- region 5: what Begin makes is the document's
    refine wp_region_held (S := SH1 b5 v0 ⟨#[]⟩ 0) (by kernel_rfl) ?_
    change wpAnyH _ _ _ _ _ _ _ _ w8.drew
    replace HH : Hid (HAt w.heap.size v r _ w8.drew) := HH
    replace HK : Hid (KAt w8.drew) := HK
    replace HB := Lib.hid HB.out.drew
    replace H5 : Hid (HAt b5 v0 ⟨#[]⟩ 0 w8.drew) := H5
    replace H6 : Hid (HAt b6 u6 s6 n6 w8.drew) := H6
    replace H8 : Hid (DigAt b8 D w8.drew) := H8
    generalize w8.drew = x0 at HH HK HB H5 H6 H8 ⊢
    have hS : SH1 b5 v0 ⟨#[]⟩ 0 x0 := HL_range H5.out
    have heq0 : ∀ W : World, (Op.equalIn 10000 31 (.agg (HA v0 ⟨#[]⟩ 0)) (.agg (HA v0 ⟨#[]⟩ 0))).run Tryd.prog W = .ok true W := fun W => eqH W v0 ⟨#[]⟩ 0
    have heg := eqguardH
    refine wpAnyH_take (i := 0) (v := _) rfl (by kernel_rfl) (by kernel_rfl) (by kernel_rfl) (fun _ _ _ h => h) (yieldsIf_H (by rfl) (.tmp 5) rfl b5 rfl v0 ⟨#[]⟩ 0 (fun _ h => h)) hS ?_
    try simp only [List.getElem_toArray, List.getElem_cons_succ, List.getElem_cons_zero, Act.put, List.setIfInBounds_toArray, List.set_cons_zero, List.set_cons_succ]
    refine wpAnyH_all (rs := [1]) (by kernel_rfl) (by simp) ?_
    intro i hi
    simp only [List.mem_cons, List.not_mem_nil, or_false] at hi
    subst hi
    refine wpOp_wp rfl (by rfl) ?_
    go_simp
    refine (first_calls x0).mono ?_
    rintro e x1 ⟨rfl, hb⟩
    replace HH : Hid (HAt w.heap.size v r _ x1) := Lib.hid (HH.out.below hb)
    replace HK : Hid (KAt x1) := Lib.hid (HK.out.below hb)
    replace HB : Hid (Below w.heap.size w x1) := Lib.hid (HB.out.trans (Below.mono hb HB.out.size))
    replace H5 : Hid (HAt b5 v0 ⟨#[]⟩ 0 x1) := Lib.hid (H5.out.below hb)
    replace H6 : Hid (HAt b6 u6 s6 n6 x1) := Lib.hid (H6.out.below hb)
    replace H8 : Hid (DigAt b8 D x1) := Lib.hid (H8.out.below hb)
    clear hb hS
    have hS : SH1 b5 v0 ⟨#[]⟩ 0 x1 := HL_range H5.out
    refine ⟨hS, ?_⟩
    try simp only [List.getElem_toArray, List.getElem_cons_succ, List.getElem_cons_zero, Act.put, List.setIfInBounds_toArray, List.set_cons_zero, List.set_cons_succ]
    refine wpAnyH_take (i := 2) (v := _) rfl (by kernel_rfl) (by kernel_rfl) (by kernel_rfl) (fun _ _ _ h => h) (yieldsIf_build_H0 (by rfl) (.tmp 36) rfl v0 rfl) hS ?_
    try simp only [List.getElem_toArray, List.getElem_cons_succ, List.getElem_cons_zero, Act.put, List.setIfInBounds_toArray, List.set_cons_zero, List.set_cons_succ]
    refine wpAnyH_take (i := 3) (v := ?_) rfl (by kernel_rfl) (by kernel_rfl) (by kernel_rfl) (fun _ _ _ h => h) (Or.inl ⟨by rfl, ?_⟩) hS ?_
    rotate_left
    · intro v _; go_simp; first | done | with_reducible rfl
    rotate_left
    simp only [List.getElem_toArray, List.getElem_cons_succ, List.getElem_cons_zero, Act.put, List.setIfInBounds_toArray, List.set_cons_zero, List.set_cons_succ]
    refine wpAnyH_take (i := 4) (v := ?_) rfl (by kernel_rfl) (by kernel_rfl) (by kernel_rfl) (fun _ _ _ h => h) (Or.inl ⟨by rfl, ?_⟩) hS ?_
    rotate_left
    · intro v _; go_simp; first | done | with_reducible rfl
    rotate_left
    simp only [List.getElem_toArray, List.getElem_cons_succ, List.getElem_cons_zero, Act.put, List.setIfInBounds_toArray, List.set_cons_zero, List.set_cons_succ]
    refine wpAnyH_all (rs := [5]) (by kernel_rfl) (by simp) ?_
    intro i hi
    simp only [List.mem_cons, List.not_mem_nil, or_false] at hi
    subst hi
    refine wpOp_wp rfl (by rfl) ?_
    go_simp
    refine (alive_calls x1 HK.out).mono ?_
    rintro e x2 ⟨rfl, hb⟩
    replace HH : Hid (HAt w.heap.size v r _ x2) := Lib.hid (HH.out.below hb)
    replace HK : Hid (KAt x2) := Lib.hid (HK.out.below hb)
    replace HB : Hid (Below w.heap.size w x2) := Lib.hid (HB.out.trans (Below.mono hb HB.out.size))
    replace H5 : Hid (HAt b5 v0 ⟨#[]⟩ 0 x2) := Lib.hid (H5.out.below hb)
    replace H6 : Hid (HAt b6 u6 s6 n6 x2) := Lib.hid (H6.out.below hb)
    replace H8 : Hid (DigAt b8 D x2) := Lib.hid (H8.out.below hb)
    clear hb hS
    have hS : SH1 b5 v0 ⟨#[]⟩ 0 x2 := HL_range H5.out
    refine ⟨hS, ?_⟩
    try simp only [List.getElem_toArray, List.getElem_cons_succ, List.getElem_cons_zero, Act.put, List.setIfInBounds_toArray, List.set_cons_zero, List.set_cons_succ]
    refine wpAnyH_take (i := 6) (v := ?_) rfl (by kernel_rfl) (by kernel_rfl) (by kernel_rfl) (fun _ _ _ h => h) (Or.inl ⟨by rfl, ?_⟩) hS ?_
    rotate_left
    · intro v _; go_simp; first | done | with_reducible rfl
    rotate_left
    simp only [List.getElem_toArray, List.getElem_cons_succ, List.getElem_cons_zero, Act.put, List.setIfInBounds_toArray, List.set_cons_zero, List.set_cons_succ]
    refine wpAnyH_take (i := 7) (v := ?_) rfl (by kernel_rfl) (by kernel_rfl) (by kernel_rfl) (fun _ _ _ h => h) (Or.inl ⟨by rfl, ?_⟩) hS ?_
    rotate_left
    · intro v _; go_simp; first | done | with_reducible rfl
    rotate_left
    simp only [List.getElem_toArray, List.getElem_cons_succ, List.getElem_cons_zero, Act.put, List.setIfInBounds_toArray, List.set_cons_zero, List.set_cons_succ]
    refine wpAnyH_done (by kernel_rfl) ?_ _
    clear hS heq0
    have hrng := HL_range HH.out
    go_wp2_with (guard_target = wpList _ _ _ (⟨some 43, _, _, _, _, _⟩ :: _) _ _; refine wpList_load_H rfl (.tmp 2) rfl w.heap.size rfl v r _ hrng ?_)
    refine (hright.out x2).mono ?_
    rintro e x3 ⟨rfl, hb⟩
    clear hrng hright
    replace HH : Hid (HAt w.heap.size v r _ x3) := Lib.hid (HH.out.below hb)
    replace HK : Hid (KAt x3) := Lib.hid (HK.out.below hb)
    replace HB : Hid (Below w.heap.size w x3) := Lib.hid (HB.out.trans (Below.mono hb HB.out.size))
    replace H5 : Hid (HAt b5 v0 ⟨#[]⟩ 0 x3) := Lib.hid (H5.out.below hb)
    replace H6 : Hid (HAt b6 u6 s6 n6 x3) := Lib.hid (H6.out.below hb)
    replace H8 : Hid (DigAt b8 D x3) := Lib.hid (H8.out.below hb)
    clear hb
    have hrng6 := HL_range H6.out
    have heqo := heqD.out
    have heqp := heq6.out
    go_wp2_with (first | (guard_target = wpList _ _ _ (⟨some 53, _, _, _, _, _⟩ :: _) _ _; refine wpList_load_H rfl (.tmp 6) rfl b6 rfl u6 s6 n6 hrng6 ?_) | (guard_target = wpList _ _ _ (⟨some 58, _, _, _, _, _⟩ :: _) _ _; refine wpList_load_digG rfl (.tmp 8) rfl b8 rfl D hDl.out _ _ H8.out ?_))
    go_ret
    exact ⟨rfl, HB.out⟩
end Go.Proofs.YtldpnmebjnkjeaaDoor.Ref10
namespace Go.Proofs.YtldpnmebjnkjeaaDoor.ShaCard
open Go.ChangeShapes Go.WideShapes Go.ChangeAt Go.RowKit Go.Proofs.YtldpnmebjnkjeaaDoorW.PrintWords Go.Proofs.YtldpnmebjnkjeaaDoor.Sha
set_option linter.unusedVariables false
theorem gTab : Tryd.prog.globalNamed "cashbook/hash.k" = some 0 := by kernel_rfl
theorem gTabType : (Tryd.prog.globals[0]?).map (·.type) = some 136 := by kernel_rfl
theorem undT : Tryd.prog.underlying 136 = some (.array 64 28) := by kernel_rfl
theorem undU : Tryd.prog.underlying 28 = some (.int .u32) := by kernel_rfl
theorem cellsT : Tryd.prog.cellsOf 136 = 64 := by kernel_rfl
theorem cellsU : Tryd.prog.cellsOf 28 = 1 := by kernel_rfl
theorem tab_of {P : Program} {W : World} {name : String} {k : IntKind} {zs : List Int} {g : Nat} {t e : TypeId} {n : Nat}
    (hg : P.globalNamed name = some g) (hty : (P.globals[g]?).map (·.type) = some t) (ht : P.underlying t = some (.array n e)) (he : P.underlying e = some (.int k)) (hce : P.cellsOf e = 1) (hct : P.cellsOf t = n)
    (h : Lib.VarReads P W name (Lib.tabData k zs)) : Lib.TabIs P W name k zs := by
  obtain ⟨g', t', cs, fuel, p, hg', ht', hvar, hd⟩ := h
  obtain rfl := Option.some.inj (hg.symm.trans hg')
  obtain rfl := Option.some.inj (hty.symm.trans ht')
  unfold Lib.TabIs
  rw [hvar, ← Lib.cells_of_tab ht he hce hct hd]
def ks : List Int := [1116352408, 1899447441, 3049323471, 3921009573, 961987163, 1508970993, 2453635748, 2870763221, 3624381080, 310598401, 607225278, 1426881987, 1925078388, 2162078206, 2614888103, 3248222580, 3835390401, 4022224774, 264347078, 604807628, 770255983, 1249150122, 1555081692, 1996064986, 2554220882, 2821834349, 2952996808, 3210313671, 3336571891, 3584528711, 113926993, 338241895, 666307205, 773529912, 1294757372, 1396182291, 1695183700, 1986661051, 2177026350, 2456956037, 2730485921, 2820302411, 3259730800, 3345764771, 3516065817, 3600352804, 4094571909, 275423344, 430227734, 506948616, 659060556, 883997877, 958139571, 1322822218, 1537002063, 1747873779, 1955562222, 2024104815, 2227730452, 2361852424, 2428436474, 2756734187, 3204031479, 3329325298]
theorem ks_eq : (ks.map fun z => Value.int .u32 z) = kT.map wv := by rfl
theorem kAt {W : World} (h0 : laidMetH Tryd.prog [("cashbook/hash.k", Rows.laid_cashbook_hash_k)] W) : KAt W := by
  have h : laidMet Tryd.prog [("cashbook/hash.k", Rows.laid_cashbook_hash_k)] W := h0
  have hb : Lib.TabIs Tryd.prog W "cashbook/hash.k" .u32 ks := tab_of gTab gTabType undT undU cellsU cellsT (Lib.laidMet.reads h (.head _))
  unfold Lib.TabIs World.var? at hb
  simp only [gTab, Option.bind_some] at hb
  rw [ks_eq] at hb
  unfold KAt
  cases hq : W.heap[0]? with
  | none => rw [hq] at hb; cases hb
  | some o =>
    rw [hq] at hb
    cases o with
    | cells cs t fr =>
      obtain rfl := Option.some.inj hb
      exact ⟨t, fr, rfl⟩
    | _ => cases hb
/-- A world for the witnesses: the settled one, the table holding what its initialiser lays. -/
noncomputable def laidWorld (os : Os) : World :=
  { World.holding Tryd.prog os ⟨#[], #[], []⟩ with heap := (World.holding Tryd.prog os ⟨#[], #[], []⟩).heap.modify 0 fun
      | .cells _ t frozen => .cells #[.int .u32 1116352408, .int .u32 1899447441, .int .u32 3049323471, .int .u32 3921009573, .int .u32 961987163, .int .u32 1508970993, .int .u32 2453635748, .int .u32 2870763221, .int .u32 3624381080, .int .u32 310598401, .int .u32 607225278, .int .u32 1426881987, .int .u32 1925078388, .int .u32 2162078206, .int .u32 2614888103, .int .u32 3248222580, .int .u32 3835390401, .int .u32 4022224774, .int .u32 264347078, .int .u32 604807628, .int .u32 770255983, .int .u32 1249150122, .int .u32 1555081692, .int .u32 1996064986, .int .u32 2554220882, .int .u32 2821834349, .int .u32 2952996808, .int .u32 3210313671, .int .u32 3336571891, .int .u32 3584528711, .int .u32 113926993, .int .u32 338241895, .int .u32 666307205, .int .u32 773529912, .int .u32 1294757372, .int .u32 1396182291, .int .u32 1695183700, .int .u32 1986661051, .int .u32 2177026350, .int .u32 2456956037, .int .u32 2730485921, .int .u32 2820302411, .int .u32 3259730800, .int .u32 3345764771, .int .u32 3516065817, .int .u32 3600352804, .int .u32 4094571909, .int .u32 275423344, .int .u32 430227734, .int .u32 506948616, .int .u32 659060556, .int .u32 883997877, .int .u32 958139571, .int .u32 1322822218, .int .u32 1537002063, .int .u32 1747873779, .int .u32 1955562222, .int .u32 2024104815, .int .u32 2227730452, .int .u32 2361852424, .int .u32 2428436474, .int .u32 2756734187, .int .u32 3204031479, .int .u32 3329325298] t frozen
      | o => o }
end Go.Proofs.YtldpnmebjnkjeaaDoor.ShaCard
/- Arguments of a row, whatever their type, opened to what their cells say (the words' kinds). Plain lemmas over any program. -/
namespace Go.Proofs.YtldpnmebjnkjeaaDoor.Op
open Go.RowKit Go.Proofs.YtldpnmebjnkjeaaDoorW.PrintWords Go.ChangeShapes
set_option linter.unusedVariables false
set_option linter.unusedSimpArgs false
set_option linter.unusedSectionVars false

def Opens {α : Type} (P : Program) (t : TypeId) (d : Kd α) (I : α → Prop) : Prop :=
  ∀ {H : Type} (enc : TypeId × Value → H) (w : World) (base : Nat) (spare : Nat → Bool) (held : Bool) (fuel : Nat) (cs : List Value) (x : DataW H × List MemPlace), DataW.trod enc P w base spare held fuel t cs = some x → ∃ a, d.K w a cs ∧ I a

variable {α β : Type} {P : Program} {t : TypeId}

theorem opens_int {k : IntKind} (ht : P.underlying t = some (.int k)) : Opens P t (Kd.int k) (fun x => (Lit.int k x).wf = true) := by
  intro H enc w base spare held fuel cs x h
  cases fuel with
  | zero => simp [DataW.trod] at h
  | succ n =>
    unfold DataW.trod at h
    rw [ht] at h
    split at h <;> simp_all
    rename_i k' n _
    obtain ⟨⟨rfl, hw⟩, _⟩ := h
    exact ⟨n, rfl, hw⟩
theorem opens_bool (ht : P.underlying t = some .bool) : Opens P t Kd.bool (fun _ => True) := by
  intro H enc w base spare held fuel cs x h
  cases fuel with
  | zero => simp [DataW.trod] at h
  | succ n =>
    unfold DataW.trod at h
    rw [ht] at h
    split at h <;> simp only [reduceCtorEq, Option.some.injEq] at *
    rename_i b _
    exact ⟨b, rfl, trivial⟩
theorem opens_string (ht : P.underlying t = some .string) : Opens P t Kd.string (fun s => s.size ≤ maxLen) := by
  intro H enc w base spare held fuel cs x h
  cases fuel with
  | zero => simp [DataW.trod] at h
  | succ n =>
    unfold DataW.trod at h
    rw [ht] at h
    split at h <;> simp_all
    exact ⟨_, rfl, h.1⟩
theorem cells_of {w : World} {base : Nat} {a : Addr} {n : Nat} {cs : List Value} (h : w.cells? base a n = some cs) : cs.length = n ∧ ∀ i u, cs[i]? = some u → w.cell? (a.add i) = some u := by
  obtain ⟨_, hl, hat⟩ := World.cells?_some h
  refine ⟨hl, fun i u hu => ?_⟩
  have hi : i < n := by
    have := (List.getElem?_eq_some_iff.1 hu).1; omega
  rw [hat i hi]; exact hu
theorem opens_slice {e : TypeId} {d : Kd α} {I : α → Prop} (ht : P.underlying t = some (.slice e)) (o : Opens P e d I) (hc : P.cellsOf e = d.sz) :
    Opens P t (Kd.slice e d) (fun l => l.length ≤ maxLen ∧ ∀ x ∈ l, I x) := by
  intro H enc w base spare held fuel cs x h
  rcases DataW.trod_slice ht h with ⟨rfl, _⟩ | ⟨a, len, cap, elems, rest, n, _, rfl, _, _, hl, hm, hlen, hel, hsp⟩
  · exact ⟨[], ⟨none, 0, rfl, Nat.le_refl _, rfl, Nat.zero_le _, fun h => absurd h (by simp)⟩, Nat.zero_le _, fun _ h => by cases h⟩
  · have hall : ∀ i, i < len → ∃ (y : α) (c : List Value), c.length = d.sz ∧ d.K w y c ∧ I y ∧ ∀ j u, c[j]? = some u → w.cell? (a.add (i * d.sz + j)) = some u := by
      intro i hi
      have h1 := hel i hi
      have h2 : elems[i]? = some (elems[i]'(by omega)) := List.getElem?_eq_getElem (by omega)
      rw [h2] at h1
      obtain ⟨c, hcs, htr⟩ := Option.bind_eq_some_iff.1 h1
      obtain ⟨y, hK, hI⟩ := o enc w base spare held n c _ htr
      rw [hc] at hcs
      obtain ⟨hcl, hat⟩ := cells_of hcs
      refine ⟨y, c, hcl, hK, hI, fun j u hu => ?_⟩
      have := hat j u hu
      rw [← this]
      congr 1
      unfold Addr.add
      by_cases h0 : i * d.sz = 0 <;> by_cases h1 : j = 0 <;> simp [h0, h1]
      all_goals try omega
      all_goals (intro h2; omega)
    have hex : ∃ l : List α, l.length = len ∧ ∀ i y, l[i]? = some y → ∃ c : List Value, c.length = d.sz ∧ d.K w y c ∧ I y ∧ ∀ j u, c[j]? = some u → w.cell? (a.add (i * d.sz + j)) = some u := by
      clear hel hlen h hl hm hsp
      induction len with
      | zero => exact ⟨[], rfl, fun i y h => by simp at h⟩
      | succ m ih =>
        obtain ⟨l, hl, hy⟩ := ih (fun i hi => hall i (by omega))
        obtain ⟨y, c, h1, h2, h3, h4⟩ := hall m (by omega)
        refine ⟨l ++ [y], by simp [hl], fun i z hz => ?_⟩
        by_cases hi : i < l.length
        · rw [List.getElem?_append_left hi] at hz; exact hy i z hz
        · have : i = m := by
            have := (List.getElem?_eq_some_iff.1 hz).1; simp at this; omega
          subst this
          rw [List.getElem?_append_right (by omega)] at hz
          simp [hl] at hz
          subst hz
          exact ⟨c, h1, h2, h3, h4⟩
    obtain ⟨l, hl', hy⟩ := hex
    subst hl'
    refine ⟨l, ⟨some a, cap, rfl, hl, rfl, ?_, fun _ => ⟨a, rfl, fun j p hp => ?_⟩⟩, ?_, fun x hx => ?_⟩
    · unfold maxLen at hm; omega
    · obtain ⟨c, h1, h2, _, h4⟩ := hy j p hp
      exact ⟨c, h1, h2, h4⟩
    · omega
    · obtain ⟨i, hi⟩ := List.mem_iff_getElem?.1 hx
      obtain ⟨c, _, _, h3, _⟩ := hy i x hi
      exact h3

/-- Fields one behind the other. -/
def OpensAt {α : Type} (P : Program) (fs : List Field) (off : Nat) (d : Kd α) (I : α → Prop) : Prop :=
  ∀ {H : Type} (enc : TypeId × Value → H) (w : World) (base : Nat) (spare : Nat → Bool) (held : Bool) (fuel : Nat) (cs : List Value), (∀ f ∈ fs, ∃ y, DataW.trod enc P w base spare held fuel f.type ((cs.drop f.offset).take (P.cellsOf f.type)) = some y) → ∃ a, d.K w a ((cs.drop off).take d.sz) ∧ I a
theorem opensAt_one {f : Field} {d : Kd α} {I : α → Prop} (o : Opens P f.type d I) (hc : P.cellsOf f.type = d.sz) : OpensAt P [f] f.offset d I := by
  intro H enc w base spare held fuel cs h
  obtain ⟨y, hy⟩ := h f (by simp)
  rw [hc] at hy
  exact o enc w base spare held fuel _ y hy
theorem opensAt_cons {f : Field} {fs : List Field} {d : Kd α} {d' : Kd β} {I : α → Prop} {I' : β → Prop} {off' : Nat} (o : Opens P f.type d I) (hc : P.cellsOf f.type = d.sz) (ho : off' = f.offset + d.sz) (o' : OpensAt P fs off' d' I') :
    OpensAt P (f :: fs) f.offset (Kd.pair d d') (fun x => I x.1 ∧ I' x.2) := by
  intro H enc w base spare held fuel cs h
  obtain ⟨a, ha, hI⟩ := opensAt_one o hc enc w base spare held fuel cs (fun g hg => h g (by simp at hg; simp [hg]))
  obtain ⟨b, hb, hI'⟩ := o' enc w base spare held fuel cs (fun g hg => h g (by simp [hg]))
  refine ⟨(a, b), ⟨_, _, ?_, ha, hb⟩, hI, hI'⟩
  show (cs.drop f.offset).take (d.sz + d'.sz) = _
  rw [ho, ← List.drop_drop, ← List.take_append_drop d.sz (List.take (d.sz + d'.sz) (List.drop f.offset cs)), List.take_take, List.drop_take]
  simp
theorem opens_struct {fs : Array Field} {d : Kd α} {I : α → Prop} (ht : P.underlying t = some (.struct fs)) (o : OpensAt P fs.toList 0 d I) (hc : P.cellsOf t = d.sz) (f : β → α) (g : α → β) (hfg : ∀ x, f (g x) = x) :
    Opens P t (Kd.iso d f) (fun x => I (f x)) := by
  intro H enc w base spare held fuel cs x h
  obtain ⟨xs, n, _, _, hlen, hxl, hf⟩ := DataW.trod_struct ht h
  obtain ⟨a, ha, hI⟩ := o enc w base spare held n cs (fun fl hfl => by
    obtain ⟨i, hi⟩ := List.mem_iff_getElem?.1 hfl
    have hi' : fs[i]? = some fl := by rw [← Array.getElem?_toList]; exact hi
    have h1 := hf i fl hi'
    have hlt : i < xs.length := by
      have := (Array.getElem?_eq_some_iff.1 hi').1; omega
    rw [List.getElem?_eq_getElem hlt] at h1
    exact ⟨_, h1⟩)
  rw [List.drop_zero, List.take_of_length_le (by omega)] at ha
  exact ⟨g a, by show d.K w (f (g a)) cs; rw [hfg]; exact ha, by show I (f (g a)); rw [hfg]; exact hI⟩
theorem opens_arr {e n : Nat} {d : Kd α} {I : α → Prop} (ht : P.underlying t = some (.array n e)) (o : Opens P e d I) (hc : P.cellsOf e = d.sz) (hct : P.cellsOf t = n * d.sz) (hs : 0 < d.sz) :
    Opens P t (Kd.arr n d hs) (fun l => ∀ x ∈ l, I x) := by
  intro H enc w base spare held fuel cs x h
  obtain ⟨xs, m, _, _, hlen, hxl, hf⟩ := DataW.trod_array ht h
  have hall : ∀ i, i < n → ∃ y, d.K w y ((cs.drop (i * d.sz)).take d.sz) ∧ I y := by
    intro i hi
    have h1 := hf i hi
    rw [List.getElem?_eq_getElem (by omega), hc] at h1
    exact o enc w base spare held m _ _ h1
  have hex : ∀ k, k ≤ n → ∃ l : List α, l.length = k ∧ ∀ (i : Nat) (y : α), l[i]? = some y → d.K w y ((cs.drop (i * d.sz)).take d.sz) ∧ I y := by
    intro k
    induction k with
    | zero => intro _; exact ⟨[], rfl, fun i y h => by simp at h⟩
    | succ k ih =>
      intro hk
      obtain ⟨l, hl, hy⟩ := ih (by omega)
      obtain ⟨y, h1, h2⟩ := hall k (by omega)
      refine ⟨l ++ [y], by simp [hl], fun i z hz => ?_⟩
      by_cases hi : i < l.length
      · rw [List.getElem?_append_left hi] at hz; exact hy i z hz
      · have : i = k := by
          have := (List.getElem?_eq_some_iff.1 hz).1; simp at this; omega
        subst this
        rw [List.getElem?_append_right (by omega)] at hz
        simp [hl] at hz
        subst hz
        exact ⟨h1, h2⟩
  obtain ⟨l, hl, hy⟩ := hex n (Nat.le_refl _)
  refine ⟨l, ⟨hl, by rw [hlen, hct, hl], fun j p hp => (hy j p hp).1⟩, fun x hx => ?_⟩
  obtain ⟨i, hi⟩ := List.mem_iff_getElem?.1 hx
  exact (hy i x hi).2
end Go.Proofs.YtldpnmebjnkjeaaDoor.Op
namespace Go.Proofs.YtldpnmebjnkjeaaDoor.ShaOpen
open Go.RowKit Go.Proofs.YtldpnmebjnkjeaaDoorW.PrintWords Go.ChangeShapes Go.WideShapes
set_option linter.unusedVariables false
set_option linter.unusedSimpArgs false

theorem okWide_arr {P : Program} {w : World} {r : Reach} {base : Nat} {t e : TypeId} {n : Nat} {v : Value} (ht : P.underlying t = some (.array n e)) (h : Value.okWide P w r base t v) : ∃ cs, v = .agg cs ∧ cs.size = P.cellsOf t := by
  simp only [Value.okWide, ht] at h
  obtain ⟨cs, h1, h2, _⟩ := h
  exact ⟨cs, h1, h2⟩
theorem und : Tryd.prog.underlying 24 = some (.array 32 5) := by kernel_rfl
set_option maxRecDepth 100000 in
theorem opens_dig : Op.Opens Tryd.prog 24 (Kd.arr 32 (Kd.int .u8) (by decide)) (fun l => ∀ x ∈ l, (Lit.int .u8 x).wf = true) :=
  Op.opens_arr und (Op.opens_int Tryd.underlying5) (by kernel_rfl) (by kernel_rfl) (by decide)
set_option maxRecDepth 100000 in
/-- A digest among the arguments: its bytes. -/
theorem open_dig {W : World} {r : Reach} {base : Nat} {v : Value} (hv : Value.okWide Tryd.prog W r base 24 v) {H : Type} {enc : TypeId × Value → H} {b0 : Nat} {spare : Nat → Bool} {held : Bool} {fuel : Nat} {x : DataW H × List MemPlace}
    (h : DataW.trod enc Tryd.prog W b0 spare held fuel 24 v.cells.toList = some x) : ∃ l : List UInt8, l.length = 32 ∧ v = .agg (Lib.byteCells l).toArray := by
  obtain ⟨cs, rfl, hcs⟩ := okWide_arr und hv
  obtain ⟨xs, hK, hI⟩ := opens_dig enc W b0 spare held fuel _ x h
  obtain ⟨hl, he⟩ := Kd.arr_cells hK
  refine ⟨xs.map fun z => UInt8.ofNat z.toNat, by simpa using hl, ?_⟩
  congr 1
  apply Array.toList_inj.1
  have e : (Value.agg cs).cells.toList = cs.toList := rfl
  rw [e] at he
  rw [he]
  show encs _ xs = Lib.byteCells _
  unfold encs Lib.byteCells
  rw [List.map_map]
  apply List.map_congr_left
  intro z hz
  have hw := hI z hz
  have hw2 : IntKind.u8.min ≤ z ∧ z ≤ IntKind.u8.max := by simpa [Lit.wf] using hw
  have hw3 : (0 : Int) ≤ z ∧ z ≤ 255 := hw2
  show Value.int .u8 z = Value.int .u8 ((UInt8.ofNat z.toNat).toNat : Int)
  rw [UInt8.toNat_ofNat']
  congr 1
  omega
theorem opens_ints : Op.Opens Tryd.prog 43 (Kd.slice 3 (Kd.int .i64)) (fun l => l.length ≤ maxLen ∧ ∀ x ∈ l, (Lit.int .i64 x).wf = true) :=
  Op.opens_slice Tryd.underlying43 (Op.opens_int Tryd.underlying3) (by kernel_rfl)
end Go.Proofs.YtldpnmebjnkjeaaDoor.ShaOpen
namespace Go.Proofs.YtldpnmebjnkjeaaDoor.ShaOpen
open Go.RowKit Go.Proofs.YtldpnmebjnkjeaaDoorW.PrintWords Go.ChangeShapes Go.WideShapes
open Go.Proofs.YtldpnmebjnkjeaaDoor.Sha (V8 wv)
open Go.Proofs.YtldpnmebjnkjeaaDoor.Ref10 (HA)
set_option linter.unusedVariables false
set_option linter.unusedSimpArgs false

/-! A hash among the arguments. -/
def kHash : Kd (List Int × ByteArray × Int) := Kd.iso (Kd.pair (Kd.arr 8 (Kd.int .u32) (by decide)) (Kd.pair Kd.string (Kd.int .i64))) (fun x => x)
theorem und_words : Tryd.prog.underlying 29 = some (.array 8 28) := by kernel_rfl
set_option maxRecDepth 100000 in
theorem opens_words : Op.Opens Tryd.prog 29 (Kd.arr 8 (Kd.int .u32) (by decide)) (fun l => ∀ x ∈ l, (Lit.int .u32 x).wf = true) :=
  Op.opens_arr und_words (Op.opens_int Tryd.underlying28) (by kernel_rfl) (by kernel_rfl) (by decide)
set_option maxRecDepth 100000 in
theorem opens_hash : Op.Opens Tryd.prog 31 kHash (fun x => (∀ y ∈ x.1, (Lit.int .u32 y).wf = true) ∧ x.2.1.size ≤ maxLen ∧ (Lit.int .i64 x.2.2).wf = true) :=
  Op.opens_struct Tryd.underlying31 (Op.opensAt_cons opens_words (by kernel_rfl) rfl (Op.opensAt_cons (Op.opens_string Tryd.underlying9) (by kernel_rfl) rfl (Op.opensAt_one (Op.opens_int Tryd.underlying3) (by kernel_rfl)))) (by kernel_rfl) (fun x => x) (fun p => p) (fun _ => rfl)
theorem okWide_str {P : Program} {w : World} {r : Reach} {base : Nat} {t : TypeId} {fs : Array Field} {v : Value} (ht : P.underlying t = some (.struct fs)) (h : Value.okWide P w r base t v) : ∃ cs, v = .agg cs ∧ cs.size = P.cellsOf t := by
  simp only [Value.okWide, ht] at h
  obtain ⟨cs, h1, h2, _⟩ := h
  exact ⟨cs, h1, h2⟩
theorem word_of (x : Int) (h : (Lit.int .u32 x).wf = true) : Value.int .u32 x = wv (UInt32.ofNat x.toNat) := by
  have hw2 : IntKind.u32.min ≤ x ∧ x ≤ IntKind.u32.max := by simpa [Lit.wf] using h
  have hw3 : (0 : Int) ≤ x ∧ x ≤ 4294967295 := hw2
  unfold wv
  rw [UInt32.toNat_ofNat']
  congr 1
  omega
set_option maxRecDepth 100000 in
/-- A hash among the arguments: its words, what is left, and how many bytes. -/
theorem open_hash {W : World} {r : Reach} {base : Nat} {v : Value} (hv : Value.okWide Tryd.prog W r base 31 v) {H : Type} {enc : TypeId × Value → H} {b0 : Nat} {spare : Nat → Bool} {held : Bool} {fuel : Nat} {x : DataW H × List MemPlace}
    (h : DataW.trod enc Tryd.prog W b0 spare held fuel 31 v.cells.toList = some x) : ∃ (u : V8) (s : ByteArray) (n : Int), v = .agg (HA u s n) ∧ s.size ≤ maxLen ∧ -9223372036854775808 ≤ n ∧ n ≤ 9223372036854775807 := by
  obtain ⟨cs, rfl, hcs⟩ := okWide_str Tryd.underlying31 hv
  obtain ⟨⟨xs, s, n⟩, hK, hI1, hI2, hI3⟩ := opens_hash enc W b0 spare held fuel _ x h
  obtain ⟨c1, c23, hc, hK1, hK23⟩ := hK
  obtain ⟨c2, c3, hc2, hK2, hK3⟩ := hK23
  obtain ⟨hl, he⟩ := Kd.arr_cells hK1
  have e2 : c2 = [Value.string s] := hK2
  have e3 : c3 = [Value.int .i64 n] := hK3
  have hn : IntKind.i64.min ≤ n ∧ n ≤ IntKind.i64.max := by simpa [Lit.wf] using hI3
  have hn2 : (-9223372036854775808 : Int) ≤ n ∧ n ≤ 9223372036854775807 := hn
  have e : (Value.agg cs).cells.toList = cs.toList := rfl
  rw [e] at hc
  match xs, hl, hI1, he with
  | [x0, x1, x2, x3, x4, x5, x6, x7], _, hI1, he =>
    refine ⟨⟨UInt32.ofNat x0.toNat, UInt32.ofNat x1.toNat, UInt32.ofNat x2.toNat, UInt32.ofNat x3.toNat, UInt32.ofNat x4.toNat, UInt32.ofNat x5.toNat, UInt32.ofNat x6.toNat, UInt32.ofNat x7.toNat⟩, s, n, ?_, hI2, hn2.1, hn2.2⟩
    congr 1
    apply Array.toList_inj.1
    rw [hc, hc2, e2, e3, he]
    show [Value.int .u32 x0, .int .u32 x1, .int .u32 x2, .int .u32 x3, .int .u32 x4, .int .u32 x5, .int .u32 x6, .int .u32 x7] ++ [Value.string s, .int .i64 n] = _
    rw [word_of x0 (hI1 _ (by simp)), word_of x1 (hI1 _ (by simp)), word_of x2 (hI1 _ (by simp)), word_of x3 (hI1 _ (by simp)), word_of x4 (hI1 _ (by simp)), word_of x5 (hI1 _ (by simp)), word_of x6 (hI1 _ (by simp)), word_of x7 (hI1 _ (by simp))]
    rfl
end Go.Proofs.YtldpnmebjnkjeaaDoor.ShaOpen
namespace Go.Proofs.YtldpnmebjnkjeaaDoor.hashFeeds
open Go.ChangeShapes Go.WideShapes Go.ChangeAt Go.RowKit Go.Proofs.YtldpnmebjnkjeaaDoorW.PrintWords Go.Proofs.YtldpnmebjnkjeaaDoor.Sha
open Go.ChangeMaps (open_string shut_string)
set_option linter.unusedVariables false
set_option linter.unusedSimpArgs false
theorem own : ownKnob Tryd.prog.godebug = none := by kernel_rfl
theorem laidOut : laidOutB Tryd.prog = true := by kernel_rfl
set_option maxRecDepth 100000 in
set_option maxHeartbeats 1000000 in
theorem contract (H : Type) (enc : TypeId × Value → H) (W : World) (base : Nat) (args : Array Value) (ds gs : List (DataW H)) (before : List MemPlace)
    (hval : ∀ (j : Nat) t v, Tryd.f4.params[j]? = some t → args[j]? = some v → Value.okWide Tryd.prog W .any base t v)
    (hW : DataW.Whole enc Tryd.prog Tryd.f4.params.toList Rows.hashFeedsSpec.vars false W args.toList ds gs before) (hL : laidMetH Tryd.prog Rows.hashFeedsRow.laid W) :
    Calls Tryd.prog 4 args W fun e W' => ∃ v, e = .returned v ∧ Rows.hashFeedsSpec.post enc Tryd.prog Tryd.f4 false true false false W args v W' := by
  have hW' := hW
  obtain ⟨p, q, hA0, hV, rfl, hfz, hnd⟩ := hW
  have hA : DataW.TrodAll enc Tryd.prog W 0 (fun _ => true) true Tryd.f4.params.toList args.toList ds p := hA0
  rw [Tryd.params4] at hA hval
  obtain ⟨v0, vs0, d0, ds0, p0, q0, hargs, rfl, rfl, h0, r0⟩ := trodAll_cons hA
  obtain ⟨v1, vs1, d1, ds1, p1, q1, rfl, rfl, rfl, h1, r1⟩ := trodAll_cons r0
  obtain ⟨rfl, rfl, rfl⟩ := trodAll_nil r1
  obtain rfl : args = #[v0, v1] := by cases args; simp_all
  obtain ⟨rfl, rfl⟩ := trodVars_none hV
  have k0 := h0
  have lt0 : ∀ x ∈ p0, x.block < W.heap.size := by obtain ⟨m, hm⟩ := k0; exact DataW.trod_lt m _ _ _ hm
  obtain ⟨fuel0, hf0⟩ := h0
  obtain ⟨u0, s0, n0, rfl, hs0, hn0, hm0⟩ := ShaOpen.open_hash (hval 0 31 v0 rfl rfl) hf0
  obtain ⟨a1, rfl, rfl, rfl, y1⟩ := open_string Tryd.underlying9 (hval 1 9 v1 rfl rfl) h1
  have hT := ShaCard.kAt hL
  refine (Ref10.feeds_law u0 s0 n0 a1 W hn0 hm0 (by unfold maxLen at hs0; omega) y1 hT).mono fun e W' ⟨he, bel⟩ => ?_
  subst he
  exact ⟨_, rfl, _, _, _, [], _, [], hW', trodAll_mk1 (shut_bool Tryd.underlying4 _), (trodAll_cons_mk (Below.trod laidOut (by kernel_rfl) (of_decide_eq_true (by kernel_rfl)) k0 bel lt0) (trodAll_cons_mk (shut_string Tryd.underlying9 y1) trodAll_mk0)), rfl, bel.frame _, fun h => by cases h⟩
noncomputable def laidWorld (os : Os) : World := ShaCard.laidWorld os
def wit : Array Value := #[.agg #[.int .u32 0, .int .u32 0, .int .u32 0, .int .u32 0, .int .u32 0, .int .u32 0, .int .u32 0, .int .u32 0, .string ByteArray.empty, .int .i64 0], .string ByteArray.empty]
theorem laid_met (os : Os) : laidMet Tryd.prog Rows.hashFeedsRow.laid ((laidWorld os).forCall (fun _ _ => 0) ⟨#[], wit, []⟩).memory :=
  laidMet_of_run' 8 (by kernel_rfl) (by kernel_rfl)
theorem reads (os : Os) {H : Type} (enc : TypeId × Value → H) : ∃ places, DataW.whole enc Tryd.prog ((laidWorld os).forCall (fun _ _ => 0) ⟨#[], wit, []⟩).memory Tryd.f4.params.toList Rows.hashFeedsSpec.vars false wit.toList 8 = some ([.agg [.agg [.lit (.int .u32 0), .lit (.int .u32 0), .lit (.int .u32 0), .lit (.int .u32 0), .lit (.int .u32 0), .lit (.int .u32 0), .lit (.int .u32 0), .lit (.int .u32 0)], .lit (.string []), .lit (.int .i64 0)], .lit (.string [])], [], places) :=
  ⟨[], by kernel_rfl⟩

set_option maxRecDepth 100000 in
theorem lifted (os : Os) (started : os.Started) (H : Type) (enc : TypeId × Value → H) (F : Stop.Interp) :
    ReturnsInHanded {} Tryd.checked os 4 .any ((OpenSpec.ofChange Rows.hashFeedsSpec).preRow enc Tryd.prog Tryd.f4 Rows.hashFeedsRow.domain false Rows.hashFeedsRow.laid) (((OpenSpec.ofChange Rows.hashFeedsSpec).at F).post enc Tryd.prog Tryd.f4 false true false false) := by
  obtain ⟨places, hx⟩ := reads os enc
  refine returnsInHanded_of_row (C := Tryd.checked) (s := OpenSpec.ofChange Rows.hashFeedsSpec) own started (by kernel_rfl) Tryd.func4
    (witness_row_at (enc := enc) (C := Tryd.checked) false (laidWorld os) wit rfl (by kernel_rfl) (by kernel_rfl) (by kernel_rfl)
      (OpenSpec.preRow_of_cond 8 hx (by kernel_rfl) (fun k hk => by cases hk) (by kernel_rfl) (laid_met os))) ?_
  intro W base args ds gs before hval hW _ _ _ hL _ _
  exact contract H enc W base args ds gs before hval hW hL

theorem said : Rows.HashFeedsSaid :=
  OpenClaim.holds_of_cond 4 Tryd.f4 rfl rfl rfl rfl rfl rfl rfl ⟨rfl, rfl, rfl, rfl, rfl⟩ rfl rfl rfl rfl rfl (by kernel_rfl) Tryd.func4 (by kernel_rfl)
    (of_decide_eq_true (by kernel_rfl)) (by unfold Func.isWrapper; first | (rw [if_pos (by decide +kernel)]; kernel_rfl) | (rw [if_neg (by decide +kernel)]; exact ⟨rfl, rfl⟩))
    (fun os started H enc _ F => by rw [OpenClaim.pre_eq_preRow]; exact lifted os started H enc F)

theorem plain (f : FuncId) (fn : Func) (hf : Tryd.pinned.checked.prog.funcNamed "cashbook/cashbooklaw10.HashFeeds" = some f) (hfn : Tryd.pinned.checked.prog.funcs[f]? = some fn) :
    false = Tryd.pinned.checked.prog.looks [] ∧ ∀ (j : Nat) t, fn.params[j]? = some t → Tryd.pinned.checked.prog.wantsStandIn t = false := by
  obtain rfl : f = 4 := Option.some.inj ((show Tryd.prog.funcNamed "cashbook/cashbooklaw10.HashFeeds" = some 4 by kernel_rfl).symm.trans hf) |>.symm
  obtain rfl : fn = Tryd.f4 := (Option.some.inj (Tryd.func4.symm.trans hfn)).symm
  refine ⟨by kernel_rfl, fun j t ht => ?_⟩
  rw [Tryd.params4] at ht
  have hm := Array.mem_of_getElem? ht
  simp at hm
  rcases hm with rfl | rfl
  · exact (show Tryd.prog.wantsStandIn 31 = false by kernel_rfl)
  · exact (show Tryd.prog.wantsStandIn 9 = false by kernel_rfl)

/-- The card. -/
theorem card : Rows.HashFeedsCardSaid :=
  Claim7.holds_tied_plain_at .later [] _ _ _ _ said (fun _ h => by cases h) (by kernel_rfl) (fun _ h => by cases h) hashFeeds_row_tie rfl ⟨rfl, rfl⟩ (by kernel_rfl) rfl plain (by kernel_rfl)
end Go.Proofs.YtldpnmebjnkjeaaDoor.hashFeeds
namespace Go.Proofs.YtldpnmebjnkjeaaDoor
theorem hashFeeds_holds : Rows.HashFeedsCardSaid := hashFeeds.card
#print axioms hashFeeds_holds
end Go.Proofs.YtldpnmebjnkjeaaDoor
