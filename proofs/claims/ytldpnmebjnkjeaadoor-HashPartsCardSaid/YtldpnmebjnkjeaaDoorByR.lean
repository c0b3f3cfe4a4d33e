import Derived.Test.YtldpnmebjnkjeaaDoorProg
import Derived.WalkKit
import Derived.Below
import Derived.Deep.AppendSrc
import Derived.Lib.ConvBytes
import Derived.Laws.IdiomStrings
import Derived.Lib.BufferWrite
import Derived.Lib.Hide
import Derived.Deep.WholeRow
import Derived.Deep.MidRow
namespace Go.Proofs.YtldpnmebjnkjeaaDoor
open Go.RowKit
set_option linter.unusedVariables false
set_option linter.unusedSimpArgs false

/-! A slice of bytes of the call's own: a conversion's row ('[]byte(s)'), or one that an append has made: appended to, byte by byte. -/
/-- The slice v holds the bytes l, in a block from base on, whose cells up to the capacity are there and may be written. -/
def OB (base : Nat) (v : Value) (l : List UInt8) (w : World) : Prop :=
  ∃ g cap cur t fr, v = .slice (some ⟨g, 0, none⟩) l.length cap ∧ base ≤ g ∧ l.length ≤ cap ∧ w.heap[g]? = some (.cells cur t fr) ∧ cap ≤ cur.size ∧ (∀ (j : Nat) (u : Value), (Lib.byteCells l)[j]? = some u → cur[j]? = some u) ∧ (∀ j : Nat, j < cap → w.frozen? ⟨g, j, none⟩ = false)
namespace OB
variable {base : Nat} {v : Value} {l : List UInt8} {w w1 : World}
theorem step (h : OB base v l w) (hb : ∀ g, base ≤ g → g < w.heap.size → w1.heap[g]? = w.heap[g]?) : OB base v l w1 := by
  obtain ⟨g, cap, cur, t, fr, hv, hg, hc, hr, hs, hl, hf⟩ := h
  have hlt : g < w.heap.size := by
    rcases Nat.lt_or_ge g w.heap.size with h1 | h1
    · exact h1
    · rw [Array.getElem?_eq_none h1] at hr; cases hr
  have e := hb g hg hlt
  exact ⟨g, cap, cur, t, fr, hv, hg, hc, e.trans hr, hs, hl, fun j hj => (World.frozen?_of_block (a := ⟨g, j, none⟩) e).trans (hf j hj)⟩
theorem below (h : OB base v l w) (hb : Below w.heap.size w w1) : OB base v l w1 := h.step fun g _ hg => hb.block g hg
theorem alloc (h : OB base v l w) (o : Obj) : OB base v l (w.alloc o) := h.step fun g _ hg => Below.heap_alloc _ _ _ hg
theorem far (h : OB base v l w) {p : Addr} (hp : p.block < base) (u : Value) : OB base v l (w.setCell p u) := h.step fun g hg _ => Below.heap_setCell _ _ _ _ (by omega)
theorem lower (h : OB base v l w) {b0 : Nat} (hb : b0 ≤ base) : OB b0 v l w := by
  obtain ⟨g, cap, cur, t, fr, hv, hg, r⟩ := h
  exact ⟨g, cap, cur, t, fr, hv, by omega, r⟩
theorem slice (h : OB base v l w) : ∃ g cap, v = .slice (some ⟨g, 0, none⟩) l.length cap := by
  obtain ⟨g, cap, cur, t, fr, hv, r⟩ := h
  exact ⟨g, cap, hv⟩
theorem conv (w : World) (e : TypeId) (s : ByteArray) : OB w.heap.size (.slice (some ⟨w.heap.size, 0, none⟩) s.size (grownCap w s.size 0 e)) s.data.toList (Lib.bytesWorld w e s) := by
  have hl : s.size = s.data.toList.length := Lib.size_eq s
  have hg := grownCap_ge w s.size 0 e
  have hC : (Lib.bytesCells w e s).size = grownCap w s.size 0 e := by
    unfold Lib.bytesCells
    rw [Array.size_append, Array.size_map, Array.size_replicate]
    show s.size + _ = _
    omega
  refine ⟨w.heap.size, grownCap w s.size 0 e, _, _, _, by rw [hl], Nat.le_refl _, by omega, Lib.bytesWorld_at_new w e s, by omega, fun j u hj => ?_, fun j hj => ?_⟩
  · have hj' : j < s.data.toList.length := by
      have := (List.getElem?_eq_some_iff.1 hj).1
      simpa [Lib.byteCells] using this
    rw [← hj]
    unfold Lib.bytesCells Lib.byteCells
    rw [Array.getElem?_append_left (by rw [Array.size_map]; simpa using hj')]
    simp
  · unfold World.frozen?
    rw [Lib.bytesWorld_at_new w e s]
    simp only [hC]
    have : ¬ (grownCap w s.size 0 e ≤ j) := by omega
    simp [this]
end OB
theorem u8_info : ∃ i : TypeInfo, Tryd.prog.info? 5 = some i ∧ i.zero = some (.int .u8 0) ∧ i.size = 1 ∧ i.bytes = 1 := by
  have h : (Tryd.prog.info? 5).map (fun i => (i.zero, i.size, i.bytes)) = some (some (.int .u8 0), 1, 1) := by kernel_rfl
  cases hq : Tryd.prog.info? 5 with
  | none => rw [hq] at h; cases h
  | some i =>
    rw [hq] at h
    have h3 := Option.some.inj h
    exact ⟨i, rfl, congrArg Prod.fst h3, congrArg (fun p => p.2.1) h3, congrArg (fun p => p.2.2) h3⟩
/-- One byte more. -/
theorem run_append_byte {base : Nat} {v : Value} {l : List UInt8} {w : World} (h : OB base v l w) (ty : TypeId) (ad : Addr) (b : UInt8) (hx : w.cell? ad = some (.int .u8 (b.toNat : Int))) (hbase : base ≤ w.heap.size) (hl : l.length ≤ 1073741824) :
    ∃ v' w', (Builtin.append_ #[22, 22] ty #[v, .slice (some ad) 1 1]).run Tryd.prog w = .ok v' w' ∧ OB base v' (l ++ [b]) w' ∧ Below base w w' := by
  obtain ⟨g, cap, cur, t, fr, rfl, hg, hc, hr, hcs, hcur, hf⟩ := h
  obtain ⟨i, hi, hz, h1, hb1⟩ := u8_info
  have ht : Tryd.prog.underlying 22 = some (.slice 5) := by kernel_rfl
  have hsp : ad.spot = none := by
    unfold World.cell? at hx
    split at hx
    · split at hx
      · cases hx
      · rename_i h; simpa using h
    · cases hx
  have hS : Src Tryd.prog i.size 22 (.slice (some ad) 1 1) 1 [.int .u8 (b.toNat : Int)] w := by
    rw [h1]
    refine Src.ofSlice w ht ad 1 1 _ rfl (fun j u hj => ?_) (by intro u hu; simp at hu; subst hu; rfl)
    cases j with
    | zero =>
      have ha : ad.add 0 = ad := by unfold Addr.add; cases ad; simp_all
      rw [← hj, ha]; exact hx
    | succ j => simp at hj
  by_cases hroom : l.length + 1 ≤ cap
  · have hcell : (w.cell? ⟨g, l.length, none⟩).isSome = true := by
      unfold World.cell?
      simp only [hr]
      simp
      omega
    have hrun := run_append_room_src (P := Tryd.prog) w 22 22 ty 5 i ht hi g 0 l.length cap (.slice (some ad) 1 1) 1 [.int .u8 (b.toNat : Int)] hS hroom
      (by intro j hj; simp at hj; subst hj; rw [h1]; simpa using hcell) (by intro j hj; simp at hj; subst hj; rw [h1]; simpa using hf l.length (by omega))
    rw [h1] at hrun
    simp only [Nat.zero_add, Nat.mul_one] at hrun
    refine ⟨_, _, hrun, ⟨g, cap, cur.setIfInBounds l.length (.int .u8 (b.toNat : Int)), t, fr, by rw [List.length_append]; rfl, hg, by rw [List.length_append]; exact hroom, ?_, by simpa using hcs, fun j u hj => ?_, fun j hj => ?_⟩, ?_⟩
    · show (w.setCell _ _).heap[g]? = _
      rw [World.setCell]
      simp only [Array.getElem?_modify, if_true, hr, Option.map_some]
      rfl
    · rw [Lib.byteCells, List.map_append] at hj
      rcases Nat.lt_trichotomy j l.length with h2 | h2 | h2
      · rw [List.getElem?_append_left (by simpa using h2)] at hj
        rw [Array.getElem?_setIfInBounds_ne (by omega)]
        exact hcur j u hj
      · subst h2
        rw [List.getElem?_append_right (by simp)] at hj
        simp at hj
        rw [Array.getElem?_setIfInBounds_self_of_lt (by omega), ← hj]
      · rw [List.getElem?_eq_none (by simp; omega)] at hj; cases hj
    · exact (World.frozen?_setCell _ _ _ _).trans (hf j hj)
    · exact (Below.refl _ _).setCell hg _
  · have hlc : cap = l.length := by omega
    have hold : (Builtin.firstCells i.size l.length (.slice (some ⟨g, 0, none⟩) l.length cap)).run Tryd.prog w.drew = .ok (Lib.byteCells l).toArray w.drew := by
      refine run_firstCells_some w.drew i.size l.length ⟨g, 0, none⟩ l.length cap (Lib.byteCells l) (by rw [h1]; simp [Lib.byteCells]) (fun j u hj => ?_)
      have hh : (⟨g, 0, none⟩ : Addr).add j = ⟨g, j, none⟩ := by unfold Addr.add; simp; omega
      rw [hh]
      show w.cell? _ = _
      rw [cell_of_row _ _ _ _ _ _ hr]
      exact hcur j u hj
    have hrun := run_append_grow_src (P := Tryd.prog) w 22 22 ty 5 i (.int .u8 0) ht hi hz (some ⟨g, 0, none⟩) l.length cap (Lib.byteCells l) hold (.slice (some ad) 1 1) 1 [.int .u8 (b.toNat : Int)] hS (by omega) (by omega) (by rw [hb1]; exact growslice_fits (by omega) (by omega))
    have hgc := grownCap_ge w (l.length + 1) cap 5
    refine ⟨_, _, hrun, ⟨w.heap.size, _, _, _, _, by rw [List.length_append]; rfl, hbase, by rw [List.length_append]; exact hgc, heap_alloc_last _ _, ?_, fun j u hj => ?_, fun j hj => ?_⟩, ((Below.refl _ _).drew).alloc hbase _⟩
    · simp [Builtin.zeroCells, Lib.byteCells, Value.cells]
      omega
    · have hj' := (List.getElem?_eq_some_iff.1 hj).1
      rw [Array.getElem?_append_left (by simpa [Lib.byteCells] using hj'), List.getElem?_toArray, ← hj]
      simp [Lib.byteCells]
    · exact World.frozen?_alloc_new _ _ _ _
theorem wpList_append_byte {ops : Array Oper} {rest : List Oper} {o : Oper} {a : Act} {Q : Exit → Act → World → Prop} {w : World} (hgd : o.guard = none) (s x : Operand)
    (ho : o.op = .call { callee := .builtin .append, args := #[s, x], argTypes := #[22, 22] }) {base : Nat} {v : Value} {l : List UInt8} (hv : a.eval s = v) (hown : OB base v l w) (ad : Addr) (hx : a.eval x = .slice (some ad) 1 1)
    (b : UInt8) (hc : w.cell? ad = some (.int .u8 (b.toNat : Int))) (hbase : base ≤ w.heap.size) (hl : l.length ≤ 1073741824)
    (h : ∀ v' w', Hid (OB base v' (l ++ [b]) w') → Below base w w' → wpList Tryd.prog ops Q rest (a.put o.dst v') w') : wpList Tryd.prog ops Q (o :: rest) a w := by
  refine wpList_plain hgd fun K hK => ?_
  obtain ⟨v', w', hrun, h1, h2⟩ := run_append_byte hown o.type ad b hc hbase hl
  unfold Oper.wp
  simp [execOp, ho, resolve, invoke, builtin, hv, hx, hrun, Result.andThen]
  exact hK _ _ (h v' w' h1 h2)
/-- The bytes as a string. -/
theorem OB.string {base : Nat} {v : Value} {l : List UInt8} {w : World} (h : OB base v l w) : (convert 22 9 v).run Tryd.prog w = .ok (.string ⟨l.toArray⟩) w := by
  obtain ⟨g, cap, cur, t, fr, rfl, hg, hc, hr, hcs, hcur, hf⟩ := h
  refine Go.run_convert_bytes_back w 22 9 5 ⟨g, 0, none⟩ cap l (by kernel_rfl) (by kernel_rfl) (by kernel_rfl) ?_
  intro j hj
  have hh : (⟨g, 0, none⟩ : Addr).add j = ⟨g, j, none⟩ := by unfold Addr.add; simp; omega
  rw [hh, cell_of_row _ _ _ _ _ _ hr]
  exact hcur j _ (by simp [Lib.byteCells, hj])
/-- '[]byte(s)', as a step of a list. -/
theorem wpList_convert_bytes {ops : Array Oper} {rest : List Oper} {o : Oper} {a : Act} {Q : Exit → Act → World → Prop} {w : World} (hgd : o.guard = none) (x : Operand) (ho : o.op = .convert 9 22 x) (s : ByteArray) (hx : a.eval x = .string s)
    (h : ∀ v W, Hid (OB w.heap.size v s.data.toList W) → Below w.heap.size w W → wpList Tryd.prog ops Q rest (a.put o.dst v) W) : wpList Tryd.prog ops Q (o :: rest) a w := by
  refine wpList_plain hgd fun K hK => ?_
  unfold Oper.wp execOp
  simp only [ho, hx, Sem.run_bind, Sem.run_pure, Result.andThen_ok, Lib.run_convert_string_bytes w 9 22 5 s (show Tryd.prog.underlying 9 = some .string by kernel_rfl) (show Tryd.prog.underlying 22 = some (.slice 5) by kernel_rfl) (show Tryd.prog.underlying 5 = some (.int .u8) by kernel_rfl), Oper.upon]
  exact hK _ _ (h _ _ (Lib.hid (OB.conv w _ s)) ⟨rfl, rfl, rfl, by rw [Lib.bytesWorld_size]; omega, fun k hk => Lib.bytesWorld_at_old w _ s k hk⟩)
/-! A digest, whole. -/
theorem all_bytes (l : List UInt8) : ((Lib.byteCells l).toArray).all (·.oneCell') = true := all_oneCell_toArray (Lib.byteCells_one _)
theorem wpList_load_dig {ops : Array Oper} {rest : List Oper} {o : Oper} {a : Act} {Q : Exit → Act → World → Prop} {w : World} (hgd : o.guard = none) (x : Operand) (ho : o.op = .load 24 x) (b : Nat) (hx : a.eval x = .pointer (some ⟨b, 0, none⟩))
    (l : List UInt8) (hl : l.length = 32) (t : TypeId) (fr : Nat × Nat) (hr : w.heap[b]? = some (.cells (Lib.byteCells l).toArray t fr)) (h : wpList Tryd.prog ops Q rest (a.put o.dst (.agg (Lib.byteCells l).toArray)) w) : wpList Tryd.prog ops Q (o :: rest) a w := by
  refine wpList_load_mid hgd 24 x ho b 0 hx (Lib.byteCells l) (.array 32 5) ?_ (by kernel_rfl) rfl (by rw [Lib.byteCells, List.length_map, hl]; kernel_rfl) h
  intro j v hv
  rw [Nat.zero_add, cell_of_row _ _ _ _ _ _ hr]
  simpa using hv
theorem wpList_store_dig {ops : Array Oper} {rest : List Oper} {o : Oper} {a : Act} {Q : Exit → Act → World → Prop} {w : World} (hgd : o.guard = none) (x y : Operand) (ho : o.op = .store 24 x y) (b : Nat) (hx : a.eval x = .pointer (some ⟨b, 0, none⟩))
    (l : List UInt8) (hl : l.length = 32) (hy : a.eval y = .agg (Lib.byteCells l).toArray) (old : Array Value) (t : TypeId) (hr : w.heap[b]? = some (.cells old t (0, 0))) (hs : old.size = 32)
    (h : ∀ w', Hid (w'.heap[b]? = some (.cells (Lib.byteCells l).toArray t (0, 0))) → (∀ k, k ≠ b → w'.heap[k]? = w.heap[k]?) → (∀ {B : Nat} {w0 : World}, Below B w0 w → B ≤ b → Below B w0 w') → wpList Tryd.prog ops Q rest (a.put o.dst undef) w') : wpList Tryd.prog ops Q (o :: rest) a w := by
  refine wpList_plain hgd fun _ hK => ?_
  have hX : ((Lib.byteCells l).toArray).size = 32 := by rw [List.size_toArray, Lib.byteCells, List.length_map, hl]
  unfold Oper.wp execOp
  simp only [ho, hx, hy, Instr.storeAt, Instr.sureAddr, Sem.run_bind, Sem.run_pure, Result.andThen_ok, run_storeVar_row w _ _ _ _ _ hr (show (Tryd.prog.info? 24).map (·.size) = some ((Lib.byteCells l).toArray).size by rw [hX]; kernel_rfl) (by rw [hX, hs]) (all_bytes l)]
  refine hK _ _ (h _ (setRow_heap w b _ _ _ _ hr) (fun k hk => setRow_other _ _ _ _ hk) (fun {B w0} hb hB => hb.trans ⟨rfl, rfl, rfl, by simp, fun k hk => setRow_other _ _ _ _ (by omega)⟩))
theorem run_load_dig {w : World} {b : Nat} {l : List UInt8} {t : TypeId} {fr : Nat × Nat} (hr : w.heap[b]? = some (.cells (Lib.byteCells l).toArray t fr)) (hl : l.length = 32) :
    (loadVar 24 ⟨b, 0, none⟩).run Tryd.prog w = .ok (.agg (Lib.byteCells l).toArray) w := by
  refine run_loadVar_mid w b 0 24 (Lib.byteCells l) (.array 32 5) ?_ (by kernel_rfl) rfl (by rw [Lib.byteCells, List.length_map, hl]; kernel_rfl)
  intro j v hv
  rw [Nat.zero_add, cell_of_row _ _ _ _ _ _ hr]
  simpa using hv
theorem run_index_dig (l : List UInt8) (hl : l.length = 32) (j : Nat) (hj : j < 32) (x : UInt8) (hx : l[j]? = some x) (w : World) :
    (Instr.index 24 (.agg (Lib.byteCells l).toArray) (.int .i64 (j : Int))).run Tryd.prog w = .ok (.int .u8 (x.toNat : Int)) w := by
  have hcl : (Lib.byteCells l)[j]? = some (.int .u8 (x.toNat : Int)) := by rw [Lib.byteCells, List.getElem?_map, hx]; rfl
  simp [Instr.index, run_underlying (show Tryd.prog.underlying 24 = some (.array 32 5) by kernel_rfl), asIntOf, hj, Tryd.sizeOf5, part, Tryd.isAgg5, hcl]
end Go.Proofs.YtldpnmebjnkjeaaDoor
