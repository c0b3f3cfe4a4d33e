import Derived.Test.YtmefdlajjbcljaaSecA
import Derived.Test.YtmefdlajjbcljaaShelf
import Derived.Lib.ConvBytes
import Derived.Laws.IdiomStrings
import Derived.RegionCalls
import Derived.BigRegion
namespace Go.Proofs.Ytmefdlajjbcljaa
open Go.RowKit Go.Proofs.Ytmefdlajjbcljaa.PS8 Go.Proofs.YtmefdlajjbcljaaW.PrintWords
set_option linter.unusedVariables false
set_option linter.unusedSimpArgs false

/-- A sector's bytes, as a string. -/
def sealB (s : ByteArray) : ByteArray := ⟨(Sec.sealL s.data.toList).toArray⟩

theorem Sec.bytes_string (w : World) (g : Nat) (l : List UInt8) (T : TypeId) (cap n : Nat) (hn : n = l.length) (hg : w.heap[g]? = some (.cells (Lib.byteCells l).toArray T (0, 0))) :
    (convert 53 9 (.slice (some ⟨g, 0, none⟩) n cap)).run Try.prog w = .ok (.string ⟨l.toArray⟩) w := by
  subst hn
  refine Go.run_convert_bytes_back w 53 9 5 ⟨g, 0, none⟩ cap l (by kernel_rfl) (by kernel_rfl) (by kernel_rfl) ?_
  intro j hj
  have hadd : (⟨g, 0, none⟩ : Addr).add j = ⟨g, j, none⟩ := by unfold Addr.add; simp; omega
  rw [hadd, cell_of_row w g j _ _ _ hg, List.getElem?_toArray, Lib.byteCells, List.getElem?_map, List.getElem?_eq_getElem hj]
  rfl

/-- A whole array goes into a new block. -/
theorem Sec.store64 (w : World) (g : Nat) (l : List UInt8) (old : Array Value) (T : TypeId) (hl : l.length = 64) (ho : old.size = 64) (hg : w.heap[g]? = some (.cells old T (0, 0))) :
    (Instr.storeAt 81 (.pointer (some ⟨g, 0, none⟩)) (.agg (Lib.byteCells l).toArray)).run Try.prog w = .ok () (w.setRow g (Lib.byteCells l).toArray) := by
  have hs : (Lib.byteCells l).toArray.size = 64 := by simp [Lib.byteCells, hl]
  simp only [Instr.storeAt, Instr.sureAddr, Sem.run_bind, Sem.run_pure, Result.andThen_ok]
  exact run_storeVar_row w _ _ _ _ _ hg (by rw [hs]; kernel_rfl) (by rw [hs, ho]) (all_oneCell_toArray (Lib.byteCells_one _))

set_option maxHeartbeats 4000000 in
set_option maxRecDepth 100000 in
theorem seal_calls (s : ByteArray) (w : World) (hs : s.size ≤ 58) :
    Calls Try.prog 13 #[.string s] w fun e w' => e = .returned (.tuple #[.string (sealB s), .int .i64 0]) ∧ Below w.heap.size w w' := by
  go_enter Try.func13, Try.ntmps13
  go_wp2_with fail
  refine (sealed_calls s _ hs).mono ?_
  rintro e w1 ⟨rfl, hb1⟩
  have h64 := Sec.sealL_length s.data.toList (by rw [← Lib.size_eq]; exact hs)
  obtain ⟨L, hL⟩ : ∃ L, L = Sec.sealL s.data.toList := ⟨_, rfl⟩
  have hLs : L.length = 64 := by rw [hL]; exact h64
  obtain ⟨X, hX⟩ : ∃ X, X = (Lib.byteCells L).toArray := ⟨_, rfl⟩
  have hST : ∀ ops rest (a : Act) Q after old, old.size = 64 → a.eval (.tmp 4) = .pointer (some ⟨w1.heap.size, 0, none⟩) → a.eval (.tmp 9) = .agg X → wpList Try.prog ops Q rest (a.put none undef) (w1.alloc (.cells X 81)) →
      wpList Try.prog ops Q ({ dst := none, op := .store 81 (.tmp 4) (.tmp 9), type := 0, pos := "sector.go:50", after := after, guard := none } :: rest) a (w1.alloc (.cells old 81)) := by
    intro ops rest a Q after old ho ha hb h
    refine wpList_plain rfl fun _ hK => ?_
    unfold Oper.wp execOp
    have hrun := Sec.store64 (w1.alloc (.cells old 81)) w1.heap.size L old 81 hLs ho (heap_alloc_last w1 _)
    rw [World.setRow_alloc_new, ← hX] at hrun
    simp only [ha, hb, hrun, Sem.run_bind, Sem.run_pure, Result.andThen_ok]
    exact hK _ _ h
  have hcv : (convert 53 9 (.slice (some ⟨w1.heap.size, 0, none⟩) 64 64)).run Try.prog (w1.alloc (.cells X 81)) = .ok (.string ⟨L.toArray⟩) (w1.alloc (.cells X 81)) := by
    refine Sec.bytes_string _ _ L 81 64 64 hLs.symm ?_
    rw [← hX]
    exact heap_alloc_last w1 _
  rw [← hL, ← hX]
  have hLB : (⟨L.toArray⟩ : ByteArray) = sealB s := by rw [hL]; rfl
  rw [hLB] at hcv
  replace h64 := Lib.hid h64
  replace hb1 := Lib.hid hb1
  replace hX := Lib.hid hX
  clear hLB hLs hL h64
  go_wp2_with (refine hST _ _ _ _ _ _ rfl rfl rfl ?_)
  go_ret2
  exact ⟨rfl, hb1.out.alloc hb1.out.size _⟩

theorem seal_long (s : ByteArray) (w : World) (hs : 58 < s.size) :
    Calls Try.prog 13 #[.string s] w fun e w' => e = .returned (.tuple #[.string ⟨#[]⟩, .int .i64 4]) ∧ w' = w := by
  go_enter Try.func13, Try.ntmps13
  go_wp2_with fail
  go_ret2
  exact ⟨rfl, rfl⟩

theorem Sec.eqItems (w : World) (l m : List UInt8) : ∀ is : List Nat, (∀ i ∈ is, i < l.length ∧ i < m.length) →
    (Op.eqItems 9999 5 1 (Lib.byteCells l).toArray (Lib.byteCells m).toArray is).run Try.prog w = .ok (is.all fun i => l[i]? == m[i]?) w
  | [], _ => by simp [Op.eqItems]
  | i :: is, h => by
    have h1 := h i (by simp)
    have hp : Try.prog.plainKey 5 = true := by kernel_rfl
    have hu : Try.prog.underlying 5 = some (.int .u8) := by kernel_rfl
    have e1 : (Lib.byteCells l).toArray[i]? = some (.int .u8 (l[i].toNat : Int)) := by
      rw [List.getElem?_toArray, Lib.byteCells, List.getElem?_map, List.getElem?_eq_getElem h1.1]; rfl
    have e2 : (Lib.byteCells m).toArray[i]? = some (.int .u8 (m[i].toNat : Int)) := by
      rw [List.getElem?_toArray, Lib.byteCells, List.getElem?_map, List.getElem?_eq_getElem h1.2]; rfl
    have hb : ((l[i].toNat : Int) == (m[i].toNat : Int)) = (l[i]? == m[i]?) := by
      rw [List.getElem?_eq_getElem h1.1, List.getElem?_eq_getElem h1.2, Bool.eq_iff_iff]
      simp only [beq_iff_eq, Int.natCast_inj, Option.some.injEq]
      exact ⟨fun h => UInt8.toNat_inj.1 h, fun h => by rw [h]⟩
    simp only [Op.eqItems, Sem.run_bind, Nat.mul_one, run_part_plain w hp e1, run_part_plain w hp e2, Result.andThen_ok, run_equalIn_int w 9998 5 .u8 .u8 _ _ hu, hb, List.all_cons]
    cases l[i]? == m[i]?
    · simp
    · simpa using Sec.eqItems w l m is (fun j hj => h j (by simp [hj]))

theorem Sec.eq64 (w : World) (l m : List UInt8) (hl : l.length = 64) (hm : m.length = 64) :
    (Op.equalIn 10000 81 (.agg (Lib.byteCells l).toArray) (.agg (Lib.byteCells m).toArray)).run Try.prog w = .ok (decide (l = m)) w := by
  have hc : Try.prog.cellsOf 5 = 1 := by kernel_rfl
  obtain ⟨i, hi⟩ : ∃ i, Try.prog.info? 5 = some i := by
    have h : (Try.prog.info? 5).isSome = true := by kernel_rfl
    exact Option.isSome_iff_exists.1 h
  rw [run_equalIn_array w 9999 _ _ (show Try.prog.underlying 81 = some (.array 64 5) by kernel_rfl) hi, hc, Sec.eqItems w l m _ (fun i hi => by have := List.mem_range.1 hi; omega)]
  refine congrArg (fun b => Result.ok b w) ?_
  rw [Bool.eq_iff_iff, List.all_eq_true, decide_eq_true_eq]
  constructor
  · intro h
    apply List.ext_getElem?
    intro i
    by_cases hi : i < 64
    · simpa using h i (List.mem_range.2 hi)
    · rw [List.getElem?_eq_none (by omega), List.getElem?_eq_none (by omega)]
  · rintro rfl i _
    simp

/-- A region's end under one name for all its ways. -/
theorem Sec.wpAny_end {P : Program} {md : Region.Mode} {ops : Array Oper} {Q : Exit → Act → World → Prop} {fuel : Nat} {listed : Array Bool} {a : Act} {w : World} (R : Act → World → Prop)
    (hp : ∀ c (a : Act) t w, Q (.panic c) { a with tmps := t } w → Q (.panic c) a w)
    (h1 : ∀ Q' : Exit → Act → World → Prop, (∀ a w, R a w → Q' .normal a w) → (∀ c (a : Act) t w, Q' (.panic c) { a with tmps := t } w → Q' (.panic c) a w) → wpAny P md ops Q' fuel listed a w)
    (h2 : ∀ a w, R a w → Q .normal a w) : wpAny P md ops Q fuel listed a w := h1 Q h2 hp
theorem Sec.wpOp_wp {P : Program} {ops : Array Oper} {Q : Exit → Act → World → Prop} {i : Nat} {K : Act → World → Prop} {a : Act} {w : World} {o : Oper} (ho : ops[i]? = some o) (hw : Region.wanted o (yielded ops a.tmps) = true)
    (h : o.wp P a w K Q) : wpOp P ops Q i K a w := by
  unfold wpOp
  simp only [ho, hw, if_true]
  exact .inl h
/-- '[]byte(s)', whatever the world. -/
theorem Sec.wp_convert {op : Oper} {a : Act} {w : World} {K : Act → World → Prop} {Q : Exit → Act → World → Prop} (x : Operand) (ho : op.op = .convert 9 53 x) (s : ByteArray) (hx : a.eval x = .string s)
    (h : ∀ W c, Below w.heap.size w W → W.rangeAt w.heap.size 0 (Lib.byteCells s.data.toList) → w.heap.size < W.heap.size → K (a.put op.dst (.slice (some ⟨w.heap.size, 0, none⟩) s.size c)) W) : op.wp Try.prog a w K Q := by
  unfold Oper.wp execOp
  simp only [ho, hx, Sem.run_bind, Sem.run_pure, Result.andThen_ok, Lib.run_convert_string_bytes w 9 53 5 s (show Try.prog.underlying 9 = some .string by kernel_rfl) (show Try.prog.underlying 53 = some (.slice 5) by kernel_rfl) (show Try.prog.underlying 5 = some (.int .u8) by kernel_rfl)]
  refine h _ _ ⟨rfl, rfl, rfl, by rw [Lib.bytesWorld_size]; omega, fun k hk => Lib.bytesWorld_at_old w _ s k hk⟩ ?_ (by rw [Lib.bytesWorld_size]; omega)
  intro j v hv
  have hj : j < s.size := by
    have := (List.getElem?_eq_some_iff.1 hv).1
    rw [Lib.size_eq]
    simpa [Lib.byteCells] using this
  have hj' : j < s.data.toList.length := by rw [← Lib.size_eq]; exact hj
  rw [Nat.zero_add, Lib.bytesWorld_cell w _ s j hj, ← hv, Lib.byteCells, List.getElem?_map, List.getElem?_eq_getElem hj', List.getD_eq_getElem?_getD, List.getElem?_eq_getElem hj']
  rfl
theorem Sec.range_below {w w' : World} {b : Nat} {cs : List Value} (h : w.rangeAt b 0 cs) (hb : b < w.heap.size) (hw : Below w.heap.size w w') : w'.rangeAt b 0 cs := by
  intro j v hv
  rw [hw.cell (p := ⟨b, 0 + j, none⟩) hb]
  exact h j v hv
/-- The whole array out of a range. -/
theorem Sec.wp_load {op : Oper} {a : Act} {w : World} {K : Act → World → Prop} {Q : Exit → Act → World → Prop} (x : Operand) (ho : op.op = .load 81 x) (l : List UInt8) (hl : l.length = 64) (b : Nat) (hx : a.eval x = .pointer (some ⟨b, 0, none⟩))
    (hr : w.rangeAt b 0 (Lib.byteCells l)) (h : K (a.put op.dst (.agg (Lib.byteCells l).toArray)) w) : op.wp Try.prog a w K Q :=
  wp_load_mid 81 x ho b 0 hx (Lib.byteCells l) (.array 64 5) hr (by kernel_rfl) rfl (by simp only [Lib.byteCells, List.length_map, hl]; kernel_rfl) h

/-- What a sector's bytes hold. -/
def openB (s : ByteArray) : ByteArray × Int :=
  if s.size < 64 then (⟨#[]⟩, 2) else if 64 < s.size then (⟨#[]⟩, 4) else
  if 58 < (s.data.toList.headD 0).toNat then (⟨#[]⟩, 5) else
  if Sec.sealL (s.extract 1 (1 + (s.data.toList.headD 0).toNat)).data.toList = s.data.toList then (s.extract 1 (1 + (s.data.toList.headD 0).toNat), 0) else (⟨#[]⟩, 5)

theorem clone_calls (s : ByteArray) (w : World) (hlim : s.size ≤ 281474976710656) :
    Calls Try.prog 49 #[.string s] w fun e w' => e = .returned (.string s) ∧ Below w.heap.size w w' := by
  go_enter Try.func49, Try.ntmps49
  go_wp2_with fail
  refine (Try.stringslite_Clone s w hlim).mono ?_
  rintro e w' ⟨rfl, hb⟩
  go_wp2_with fail
  go_ret
  exact ⟨rfl, hb⟩

theorem open_short (s : ByteArray) (w : World) (hs : s.size < 64) :
    Calls Try.prog 14 #[.string s] w fun e w' => e = .returned (.tuple #[.string ⟨#[]⟩, .int .i64 2]) ∧ w' = w := by
  go_enter Try.func14, Try.ntmps14
  go_wp2_with fail
  go_ret2
  exact ⟨rfl, rfl⟩
theorem open_long (s : ByteArray) (w : World) (hs : 64 < s.size) :
    Calls Try.prog 14 #[.string s] w fun e w' => e = .returned (.tuple #[.string ⟨#[]⟩, .int .i64 4]) ∧ w' = w := by
  have h2 : ¬ s.size < 64 := by omega
  go_enter Try.func14, Try.ntmps14
  go_wp2_with fail
  go_ret2
  exact ⟨rfl, rfl⟩

set_option maxHeartbeats 4000000 in
set_option maxRecDepth 100000 in
theorem open_full (s : ByteArray) (w : World) (hs : s.size = 64) :
    Calls Try.prog 14 #[.string s] w fun e w' => e = .returned (.tuple #[.string (openB s).1, .int .i64 (openB s).2]) ∧ Below w.heap.size w w' := by
  go_enter Try.func14, Try.ntmps14
  obtain ⟨b, hb⟩ : ∃ b, s[0]'(by omega) = b := ⟨_, rfl⟩
  obtain ⟨n, hn⟩ : ∃ n : Nat, b.toNat = n := ⟨_, rfl⟩
  have hbh : s.data.toList.headD 0 = b := by
    rw [← hb]
    have hne : 0 < s.data.toList.length := by rw [← Lib.size_eq]; omega
    obtain ⟨c, r, e⟩ := List.exists_cons_of_length_pos hne
    have h0 : s[0]'(by omega) = s.data.toList[0] := by simp [ByteArray.getElem_eq_getElem_data]
    rw [h0]
    simp only [e, List.headD_cons, List.getElem_cons_zero]
  have hop : openB s = if 58 < n then (⟨#[]⟩, 5) else if Sec.sealL (s.extract 1 (1 + n)).data.toList = s.data.toList then (s.extract 1 (1 + n), 0) else (⟨#[]⟩, 5) := by
    rw [openB, if_neg (by omega), if_neg (by omega), hbh, hn]
  clear hbh
  replace hop := Lib.hid hop
  have hn8 : n < 256 := by rw [← hn]; exact UInt8.toNat_lt b
  have hw1 : wrap64 (n : Int) = n := Go.IntWalk.wrap64_in _ (by omega)
  have HN := Lib.hid hn8
  clear hn8
  go_wp2_with fail
  clear hb
  by_cases h58 : n ≤ 58
  · have hsub : (s.extract 1 (1 + n)).size = n := by rw [ByteArray.size_extract]; omega
    obtain ⟨sub, hsub'⟩ : ∃ sub, sub = s.extract 1 (1 + n) := ⟨_, rfl⟩
    rw [← hsub'] at hsub
    have hsx : s.extract 1 (1 + n) = sub := hsub'.symm
    replace hsub' := Lib.hid hsub'
    replace hsub := Lib.hid hsub
    have hw2 : IntKind.i64.wrap (1 + (n : Int)) = 1 + n := by
      rw [IntKind.wrap_i64]
      omega
    have har : ∀ (w : World) (g c : Nat), (Instr.arrayAt 81 (.slice (some ⟨g, 0, none⟩) 64 c)).run Try.prog w = .ok (.pointer (some ⟨g, 0, none⟩)) w := by
      intro w g c
      simp [Instr.arrayAt, run_underlying (show Try.prog.underlying 81 = some (.array 64 5) by kernel_rfl)]
    have hgu : Try.prog.eqGuardType Try.prog.depth 81 = false := by kernel_rfl
    have heq := fun w => Sec.eq64 w (Sec.sealL sub.data.toList) s.data.toList (Sec.sealL_length _ (by rw [← Lib.size_eq]; have := hsub.out; omega)) (by rw [← Lib.size_eq]; exact hs)
    have hsl : ∀ w : World, (Instr.slice 9 (.string s) (some (.int .i64 1)) (some (.int .i64 (1 + (n : Int)))) none).run Try.prog w = .ok (.string sub) w := by
      intro w
      rw [run_slice_string w 9 s .i64 .i64 1 (1 + (n : Int)) (by kernel_rfl) (by omega) (by omega) (by omega), ← hsx]
      congr 2
    have h58' : ¬ (58 < (n : Int)) := by omega
    simp only [hw1]
    refine wp_region_any (by kernel_rfl) ?_
    change wpAny _ _ _ _ _ _ _ (World.drew _)
    refine Sec.wpAny_end (fun a W => Below w.heap.size w W ∧ ∃ v25 v26 : Value, a = { tmps := #[.string s, undef, .string ⟨#[]⟩, .int .i64 0, .int .i64 n, .bool false, .string s, .int .i64 64, .bool false, .bool false, .string s, .int .i64 64, .bool false, .string s, .int .u8 n, .int .i64 n, .int .i64 n, .bool false, .bool false, .string s, .int .i64 n, .int .i64 (1 + n), .string sub, .agg (Lib.byteCells (Sec.sealL sub.data.toList)).toArray, .string s, v25, v26, .agg (Lib.byteCells s.data.toList).toArray, .bool (!decide (Sec.sealL sub.data.toList = s.data.toList)), .bool (!decide (Sec.sealL sub.data.toList = s.data.toList)), undef, undef, undef, undef, undef], defers := [] }) (fun _ _ _ _ h => h) ?_ ?_
    · intro Q hQ hP
      have hb0 : Below w.heap.size w w.drew := (Below.refl _ _).drew
      refine wpAny_take (i := 0) (v := .int .i64 n) rfl (by kernel_rfl) (by kernel_rfl) (by kernel_rfl) (fun _ _ _ h => hP _ _ _ _ h) (Or.inl ⟨by rfl, fun w => by first | (go_simp; done) | (go_simp; simp [hw1]; done)⟩) ?_
      change wpAny _ _ _ _ _ _ { tmps := #[.string s, undef, .string ⟨#[]⟩, .int .i64 0, .int .i64 n, .bool false, .string s, .int .i64 64, .bool false, .bool false, .string s, .int .i64 64, .bool false, .string s, .int .u8 n, .int .i64 n, .int .i64 n, undef, undef, undef, undef, undef, undef, undef, undef, undef, undef, undef, undef, undef, undef, undef, undef, undef, undef], defers := [] } _
      refine wpAny_take (i := 1) (v := .bool false) rfl (by kernel_rfl) (by kernel_rfl) (by kernel_rfl) (fun _ _ _ h => hP _ _ _ _ h) (Or.inl ⟨by rfl, fun w => by first | (go_simp; done) | (go_simp; simp [hw1]; done)⟩) ?_
      change wpAny _ _ _ _ _ _ { tmps := #[.string s, undef, .string ⟨#[]⟩, .int .i64 0, .int .i64 n, .bool false, .string s, .int .i64 64, .bool false, .bool false, .string s, .int .i64 64, .bool false, .string s, .int .u8 n, .int .i64 n, .int .i64 n, .bool false, undef, undef, undef, undef, undef, undef, undef, undef, undef, undef, undef, undef, undef, undef, undef, undef, undef], defers := [] } _
      refine wpAny_take (i := 2) (v := .bool false) rfl (by kernel_rfl) (by kernel_rfl) (by kernel_rfl) (fun _ _ _ h => hP _ _ _ _ h) (Or.inl ⟨by rfl, fun w => by first | (go_simp; done) | (go_simp; simp [hw1]; done)⟩) ?_
      change wpAny _ _ _ _ _ _ { tmps := #[.string s, undef, .string ⟨#[]⟩, .int .i64 0, .int .i64 n, .bool false, .string s, .int .i64 64, .bool false, .bool false, .string s, .int .i64 64, .bool false, .string s, .int .u8 n, .int .i64 n, .int .i64 n, .bool false, .bool false, undef, undef, undef, undef, undef, undef, undef, undef, undef, undef, undef, undef, undef, undef, undef, undef], defers := [] } _
      refine wpAny_take (i := 3) (v := .string s) rfl (by kernel_rfl) (by kernel_rfl) (by kernel_rfl) (fun _ _ _ h => hP _ _ _ _ h) (Or.inl ⟨by rfl, fun w => by first | (go_simp; done) | (go_simp; simp [hw1]; done)⟩) ?_
      change wpAny _ _ _ _ _ _ { tmps := #[.string s, undef, .string ⟨#[]⟩, .int .i64 0, .int .i64 n, .bool false, .string s, .int .i64 64, .bool false, .bool false, .string s, .int .i64 64, .bool false, .string s, .int .u8 n, .int .i64 n, .int .i64 n, .bool false, .bool false, .string s, undef, undef, undef, undef, undef, undef, undef, undef, undef, undef, undef, undef, undef, undef, undef], defers := [] } _
      refine wpAny_take (i := 4) (v := .int .i64 n) rfl (by kernel_rfl) (by kernel_rfl) (by kernel_rfl) (fun _ _ _ h => hP _ _ _ _ h) (Or.inl ⟨by rfl, fun w => by first | (go_simp; done) | (go_simp; simp [hw1]; done)⟩) ?_
      change wpAny _ _ _ _ _ _ { tmps := #[.string s, undef, .string ⟨#[]⟩, .int .i64 0, .int .i64 n, .bool false, .string s, .int .i64 64, .bool false, .bool false, .string s, .int .i64 64, .bool false, .string s, .int .u8 n, .int .i64 n, .int .i64 n, .bool false, .bool false, .string s, .int .i64 n, undef, undef, undef, undef, undef, undef, undef, undef, undef, undef, undef, undef, undef, undef], defers := [] } _
      refine wpAny_take (i := 5) (v := .int .i64 (1 + n)) rfl (by kernel_rfl) (by kernel_rfl) (by kernel_rfl) (fun _ _ _ h => hP _ _ _ _ h) (Or.inl ⟨by rfl, fun w => by first | (go_simp; done) | (go_simp; simp [hw1]; done)⟩) ?_
      change wpAny _ _ _ _ _ _ { tmps := #[.string s, undef, .string ⟨#[]⟩, .int .i64 0, .int .i64 n, .bool false, .string s, .int .i64 64, .bool false, .bool false, .string s, .int .i64 64, .bool false, .string s, .int .u8 n, .int .i64 n, .int .i64 n, .bool false, .bool false, .string s, .int .i64 n, .int .i64 (1 + n), undef, undef, undef, undef, undef, undef, undef, undef, undef, undef, undef, undef, undef], defers := [] } _
      refine wpAny_take (i := 6) (v := .string sub) rfl (by kernel_rfl) (by kernel_rfl) (by kernel_rfl) (fun _ _ _ h => hP _ _ _ _ h) (Or.inl ⟨by rfl, fun w => by first | (go_simp; done) | (go_simp; simp [hw1]; done)⟩) ?_
      change wpAny _ _ _ _ _ _ { tmps := #[.string s, undef, .string ⟨#[]⟩, .int .i64 0, .int .i64 n, .bool false, .string s, .int .i64 64, .bool false, .bool false, .string s, .int .i64 64, .bool false, .string s, .int .u8 n, .int .i64 n, .int .i64 n, .bool false, .bool false, .string s, .int .i64 n, .int .i64 (1 + n), .string sub, undef, undef, undef, undef, undef, undef, undef, undef, undef, undef, undef, undef], defers := [] } _
      refine wpAny_take (i := 8) (v := .string s) rfl (by kernel_rfl) (by kernel_rfl) (by kernel_rfl) (fun _ _ _ h => hP _ _ _ _ h) (Or.inl ⟨by rfl, fun w => by first | (go_simp; done) | (go_simp; simp [hw1]; done)⟩) ?_
      change wpAny _ _ _ _ _ _ { tmps := #[.string s, undef, .string ⟨#[]⟩, .int .i64 0, .int .i64 n, .bool false, .string s, .int .i64 64, .bool false, .bool false, .string s, .int .i64 64, .bool false, .string s, .int .u8 n, .int .i64 n, .int .i64 n, .bool false, .bool false, .string s, .int .i64 n, .int .i64 (1 + n), .string sub, undef, .string s, undef, undef, undef, undef, undef, undef, undef, undef, undef, undef], defers := [] } _
      refine wpAny_all (rs := [7, 9]) (by kernel_rfl) (by simp) ?_
      intro i hi
      simp only [List.mem_cons, List.not_mem_nil, or_false] at hi
      rcases hi with rfl | rfl
      · refine Sec.wpOp_wp rfl (by kernel_rfl) ?_
        go_simp
        refine (sealed_calls sub _ (by have := hsub.out; omega)).mono ?_
        rintro e w1 ⟨rfl, hc1⟩
        change wpAny _ _ _ _ _ _ { tmps := #[.string s, undef, .string ⟨#[]⟩, .int .i64 0, .int .i64 n, .bool false, .string s, .int .i64 64, .bool false, .bool false, .string s, .int .i64 64, .bool false, .string s, .int .u8 n, .int .i64 n, .int .i64 n, .bool false, .bool false, .string s, .int .i64 n, .int .i64 (1 + n), .string sub, .agg (Lib.byteCells (Sec.sealL sub.data.toList)).toArray, .string s, undef, undef, undef, undef, undef, undef, undef, undef, undef, undef], defers := [] } _
        refine wpAny_all (rs := [9]) (by kernel_rfl) (by simp) ?_
        intro i hi
        simp only [List.mem_cons, List.not_mem_nil, or_false] at hi
        subst hi
        refine Sec.wpOp_wp rfl (by kernel_rfl) ?_
        refine Sec.wp_convert (.tmp 24) rfl s rfl ?_
        intro w2 c hc2 hr hlt
        rw [hs]
        change wpAny _ _ _ _ _ _ { tmps := #[.string s, undef, .string ⟨#[]⟩, .int .i64 0, .int .i64 n, .bool false, .string s, .int .i64 64, .bool false, .bool false, .string s, .int .i64 64, .bool false, .string s, .int .u8 n, .int .i64 n, .int .i64 n, .bool false, .bool false, .string s, .int .i64 n, .int .i64 (1 + n), .string sub, .agg (Lib.byteCells (Sec.sealL sub.data.toList)).toArray, .string s, .slice (some ⟨w1.heap.size, 0, none⟩) 64 c, undef, undef, undef, undef, undef, undef, undef, undef, undef], defers := [] } _
        refine wpAny_take (i := 10) (v := .pointer (some ⟨w1.heap.size, 0, none⟩)) rfl (by kernel_rfl) (by kernel_rfl) (by kernel_rfl) (fun _ _ _ h => hP _ _ _ _ h) (Or.inl ⟨by rfl, fun w => by first | (go_simp; done) | (go_simp; simp [hw1]; done)⟩) ?_
        change wpAny _ _ _ _ _ _ { tmps := #[.string s, undef, .string ⟨#[]⟩, .int .i64 0, .int .i64 n, .bool false, .string s, .int .i64 64, .bool false, .bool false, .string s, .int .i64 64, .bool false, .string s, .int .u8 n, .int .i64 n, .int .i64 n, .bool false, .bool false, .string s, .int .i64 n, .int .i64 (1 + n), .string sub, .agg (Lib.byteCells (Sec.sealL sub.data.toList)).toArray, .string s, .slice (some ⟨w1.heap.size, 0, none⟩) 64 c, .pointer (some ⟨w1.heap.size, 0, none⟩), undef, undef, undef, undef, undef, undef, undef, undef], defers := [] } _
        refine wpAny_all (rs := [11]) (by kernel_rfl) (by simp) ?_
        intro i hi
        simp only [List.mem_cons, List.not_mem_nil, or_false] at hi
        subst hi
        refine Sec.wpOp_wp rfl (by kernel_rfl) ?_
        refine Sec.wp_load (.tmp 26) rfl s.data.toList (by rw [← Lib.size_eq]; exact hs) w1.heap.size rfl hr ?_
        change wpAny _ _ _ _ _ _ { tmps := #[.string s, undef, .string ⟨#[]⟩, .int .i64 0, .int .i64 n, .bool false, .string s, .int .i64 64, .bool false, .bool false, .string s, .int .i64 64, .bool false, .string s, .int .u8 n, .int .i64 n, .int .i64 n, .bool false, .bool false, .string s, .int .i64 n, .int .i64 (1 + n), .string sub, .agg (Lib.byteCells (Sec.sealL sub.data.toList)).toArray, .string s, .slice (some ⟨w1.heap.size, 0, none⟩) 64 c, .pointer (some ⟨w1.heap.size, 0, none⟩), .agg (Lib.byteCells s.data.toList).toArray, undef, undef, undef, undef, undef, undef, undef], defers := [] } _
        refine wpAny_all (rs := [12]) (by kernel_rfl) (by simp) ?_
        intro i hi
        simp only [List.mem_cons, List.not_mem_nil, or_false] at hi
        subst hi
        refine Sec.wpOp_wp rfl (by kernel_rfl) ?_
        go_simp
        change wpAny _ _ _ _ _ _ { tmps := #[.string s, undef, .string ⟨#[]⟩, .int .i64 0, .int .i64 n, .bool false, .string s, .int .i64 64, .bool false, .bool false, .string s, .int .i64 64, .bool false, .string s, .int .u8 n, .int .i64 n, .int .i64 n, .bool false, .bool false, .string s, .int .i64 n, .int .i64 (1 + n), .string sub, .agg (Lib.byteCells (Sec.sealL sub.data.toList)).toArray, .string s, .slice (some ⟨w1.heap.size, 0, none⟩) 64 c, .pointer (some ⟨w1.heap.size, 0, none⟩), .agg (Lib.byteCells s.data.toList).toArray, .bool (!decide (Sec.sealL sub.data.toList = s.data.toList)), undef, undef, undef, undef, undef, undef], defers := [] } _
        refine wpAny_take (i := 13) (v := .bool (!decide (Sec.sealL sub.data.toList = s.data.toList))) rfl (by kernel_rfl) (by kernel_rfl) (by kernel_rfl) (fun _ _ _ h => hP _ _ _ _ h) (Or.inl ⟨by rfl, fun w => by first | (go_simp; done) | (go_simp; simp [hw1]; done)⟩) ?_
        exact wpAny_done (by kernel_rfl) (hQ _ _ ⟨hb0.trans ((Below.mono hc1 (by simp)).trans (Below.mono hc2 hc1.size)), _, _, rfl⟩) _
      · refine Sec.wpOp_wp rfl (by kernel_rfl) ?_
        refine Sec.wp_convert (.tmp 24) rfl s rfl ?_
        intro w1 c hc2 hr hlt
        rw [hs]
        change wpAny _ _ _ _ _ _ { tmps := #[.string s, undef, .string ⟨#[]⟩, .int .i64 0, .int .i64 n, .bool false, .string s, .int .i64 64, .bool false, .bool false, .string s, .int .i64 64, .bool false, .string s, .int .u8 n, .int .i64 n, .int .i64 n, .bool false, .bool false, .string s, .int .i64 n, .int .i64 (1 + n), .string sub, undef, .string s, .slice (some ⟨w.drew.heap.size, 0, none⟩) 64 c, undef, undef, undef, undef, undef, undef, undef, undef, undef], defers := [] } _
        refine wpAny_take (i := 10) (v := .pointer (some ⟨w.drew.heap.size, 0, none⟩)) rfl (by kernel_rfl) (by kernel_rfl) (by kernel_rfl) (fun _ _ _ h => hP _ _ _ _ h) (Or.inl ⟨by rfl, fun w => by first | (go_simp; done) | (go_simp; simp [hw1]; done)⟩) ?_
        change wpAny _ _ _ _ _ _ { tmps := #[.string s, undef, .string ⟨#[]⟩, .int .i64 0, .int .i64 n, .bool false, .string s, .int .i64 64, .bool false, .bool false, .string s, .int .i64 64, .bool false, .string s, .int .u8 n, .int .i64 n, .int .i64 n, .bool false, .bool false, .string s, .int .i64 n, .int .i64 (1 + n), .string sub, undef, .string s, .slice (some ⟨w.drew.heap.size, 0, none⟩) 64 c, .pointer (some ⟨w.drew.heap.size, 0, none⟩), undef, undef, undef, undef, undef, undef, undef, undef], defers := [] } _
        refine wpAny_all (rs := [7, 11]) (by kernel_rfl) (by simp) ?_
        intro i hi
        simp only [List.mem_cons, List.not_mem_nil, or_false] at hi
        rcases hi with rfl | rfl
        · refine Sec.wpOp_wp rfl (by kernel_rfl) ?_
          go_simp
          refine (sealed_calls sub _ (by have := hsub.out; omega)).mono ?_
          rintro e w2 ⟨rfl, hc1⟩
          change wpAny _ _ _ _ _ _ { tmps := #[.string s, undef, .string ⟨#[]⟩, .int .i64 0, .int .i64 n, .bool false, .string s, .int .i64 64, .bool false, .bool false, .string s, .int .i64 64, .bool false, .string s, .int .u8 n, .int .i64 n, .int .i64 n, .bool false, .bool false, .string s, .int .i64 n, .int .i64 (1 + n), .string sub, .agg (Lib.byteCells (Sec.sealL sub.data.toList)).toArray, .string s, .slice (some ⟨w.drew.heap.size, 0, none⟩) 64 c, .pointer (some ⟨w.drew.heap.size, 0, none⟩), undef, undef, undef, undef, undef, undef, undef, undef], defers := [] } _
          refine wpAny_all (rs := [11]) (by kernel_rfl) (by simp) ?_
          intro i hi
          simp only [List.mem_cons, List.not_mem_nil, or_false] at hi
          subst hi
          refine Sec.wpOp_wp rfl (by kernel_rfl) ?_
          refine Sec.wp_load (.tmp 26) rfl s.data.toList (by rw [← Lib.size_eq]; exact hs) w.drew.heap.size rfl (Sec.range_below hr hlt hc1) ?_
          change wpAny _ _ _ _ _ _ { tmps := #[.string s, undef, .string ⟨#[]⟩, .int .i64 0, .int .i64 n, .bool false, .string s, .int .i64 64, .bool false, .bool false, .string s, .int .i64 64, .bool false, .string s, .int .u8 n, .int .i64 n, .int .i64 n, .bool false, .bool false, .string s, .int .i64 n, .int .i64 (1 + n), .string sub, .agg (Lib.byteCells (Sec.sealL sub.data.toList)).toArray, .string s, .slice (some ⟨w.drew.heap.size, 0, none⟩) 64 c, .pointer (some ⟨w.drew.heap.size, 0, none⟩), .agg (Lib.byteCells s.data.toList).toArray, undef, undef, undef, undef, undef, undef, undef], defers := [] } _
          refine wpAny_all (rs := [12]) (by kernel_rfl) (by simp) ?_
          intro i hi
          simp only [List.mem_cons, List.not_mem_nil, or_false] at hi
          subst hi
          refine Sec.wpOp_wp rfl (by kernel_rfl) ?_
          go_simp
          change wpAny _ _ _ _ _ _ { tmps := #[.string s, undef, .string ⟨#[]⟩, .int .i64 0, .int .i64 n, .bool false, .string s, .int .i64 64, .bool false, .bool false, .string s, .int .i64 64, .bool false, .string s, .int .u8 n, .int .i64 n, .int .i64 n, .bool false, .bool false, .string s, .int .i64 n, .int .i64 (1 + n), .string sub, .agg (Lib.byteCells (Sec.sealL sub.data.toList)).toArray, .string s, .slice (some ⟨w.drew.heap.size, 0, none⟩) 64 c, .pointer (some ⟨w.drew.heap.size, 0, none⟩), .agg (Lib.byteCells s.data.toList).toArray, .bool (!decide (Sec.sealL sub.data.toList = s.data.toList)), undef, undef, undef, undef, undef, undef], defers := [] } _
          refine wpAny_take (i := 13) (v := .bool (!decide (Sec.sealL sub.data.toList = s.data.toList))) rfl (by kernel_rfl) (by kernel_rfl) (by kernel_rfl) (fun _ _ _ h => hP _ _ _ _ h) (Or.inl ⟨by rfl, fun w => by first | (go_simp; done) | (go_simp; simp [hw1]; done)⟩) ?_
          exact wpAny_done (by kernel_rfl) (hQ _ _ ⟨hb0.trans ((Below.mono hc2 (by simp)).trans (Below.mono hc1 hc2.size)), _, _, rfl⟩) _
        · refine Sec.wpOp_wp rfl (by kernel_rfl) ?_
          refine Sec.wp_load (.tmp 26) rfl s.data.toList (by rw [← Lib.size_eq]; exact hs) w.drew.heap.size rfl hr ?_
          change wpAny _ _ _ _ _ _ { tmps := #[.string s, undef, .string ⟨#[]⟩, .int .i64 0, .int .i64 n, .bool false, .string s, .int .i64 64, .bool false, .bool false, .string s, .int .i64 64, .bool false, .string s, .int .u8 n, .int .i64 n, .int .i64 n, .bool false, .bool false, .string s, .int .i64 n, .int .i64 (1 + n), .string sub, undef, .string s, .slice (some ⟨w.drew.heap.size, 0, none⟩) 64 c, .pointer (some ⟨w.drew.heap.size, 0, none⟩), .agg (Lib.byteCells s.data.toList).toArray, undef, undef, undef, undef, undef, undef, undef], defers := [] } _
          refine wpAny_all (rs := [7]) (by kernel_rfl) (by simp) ?_
          intro i hi
          simp only [List.mem_cons, List.not_mem_nil, or_false] at hi
          subst hi
          refine Sec.wpOp_wp rfl (by kernel_rfl) ?_
          go_simp
          refine (sealed_calls sub _ (by have := hsub.out; omega)).mono ?_
          rintro e w2 ⟨rfl, hc1⟩
          change wpAny _ _ _ _ _ _ { tmps := #[.string s, undef, .string ⟨#[]⟩, .int .i64 0, .int .i64 n, .bool false, .string s, .int .i64 64, .bool false, .bool false, .string s, .int .i64 64, .bool false, .string s, .int .u8 n, .int .i64 n, .int .i64 n, .bool false, .bool false, .string s, .int .i64 n, .int .i64 (1 + n), .string sub, .agg (Lib.byteCells (Sec.sealL sub.data.toList)).toArray, .string s, .slice (some ⟨w.drew.heap.size, 0, none⟩) 64 c, .pointer (some ⟨w.drew.heap.size, 0, none⟩), .agg (Lib.byteCells s.data.toList).toArray, undef, undef, undef, undef, undef, undef, undef], defers := [] } _
          refine wpAny_all (rs := [12]) (by kernel_rfl) (by simp) ?_
          intro i hi
          simp only [List.mem_cons, List.not_mem_nil, or_false] at hi
          subst hi
          refine Sec.wpOp_wp rfl (by kernel_rfl) ?_
          go_simp
          change wpAny _ _ _ _ _ _ { tmps := #[.string s, undef, .string ⟨#[]⟩, .int .i64 0, .int .i64 n, .bool false, .string s, .int .i64 64, .bool false, .bool false, .string s, .int .i64 64, .bool false, .string s, .int .u8 n, .int .i64 n, .int .i64 n, .bool false, .bool false, .string s, .int .i64 n, .int .i64 (1 + n), .string sub, .agg (Lib.byteCells (Sec.sealL sub.data.toList)).toArray, .string s, .slice (some ⟨w.drew.heap.size, 0, none⟩) 64 c, .pointer (some ⟨w.drew.heap.size, 0, none⟩), .agg (Lib.byteCells s.data.toList).toArray, .bool (!decide (Sec.sealL sub.data.toList = s.data.toList)), undef, undef, undef, undef, undef, undef], defers := [] } _
          refine wpAny_take (i := 13) (v := .bool (!decide (Sec.sealL sub.data.toList = s.data.toList))) rfl (by kernel_rfl) (by kernel_rfl) (by kernel_rfl) (fun _ _ _ h => hP _ _ _ _ h) (Or.inl ⟨by rfl, fun w => by first | (go_simp; done) | (go_simp; simp [hw1]; done)⟩) ?_
          exact wpAny_done (by kernel_rfl) (hQ _ _ ⟨hb0.trans ((Below.mono hc2 (by simp)).trans (Below.mono hc1 hc2.size)), _, _, rfl⟩) _
    · rintro a W ⟨hb, v25, v26, rfl⟩
      clear har hgu heq
      have hslim := hsub.out
      by_cases hE : Sec.sealL sub.data.toList = s.data.toList
      · have hd : decide (Sec.sealL sub.data.toList = s.data.toList) = true := decide_eq_true hE
        replace hE := Lib.hid hE
        simp only [hd, Bool.not_true]
        clear hd
        go_wp2_with fail
        refine (clone_calls sub W (by omega)).mono ?_
        rintro e w' ⟨rfl, hb'⟩
        go_wp2_with fail
        go_ret2
        refine ⟨?_, hb.trans (Below.mono hb' hb.size)⟩
        rw [hop.out, if_neg (by omega), hsx, if_pos hE.out]
        rfl
      · have hd : decide (Sec.sealL sub.data.toList = s.data.toList) = false := decide_eq_false hE
        replace hE := Lib.hid hE
        simp only [hd, Bool.not_false]
        clear hd
        go_wp2_with fail
        go_ret2
        refine ⟨?_, hb⟩
        rw [hop.out, if_neg (by omega), hsx, if_neg hE.out]
        rfl
  · have h58' : 58 < (n : Int) := by omega
    replace h58 := Lib.hid h58
    simp only [hw1]
    go_region
    go_wp2_with fail
    go_ret2
    refine ⟨?_, (Below.refl _ _).drew⟩
    rw [hop.out, if_pos (by have := h58.out; omega)]
    rfl

theorem open_calls (s : ByteArray) (w : World) :
    Calls Try.prog 14 #[.string s] w fun e w' => e = .returned (.tuple #[.string (openB s).1, .int .i64 (openB s).2]) ∧ Below w.heap.size w w' := by
  rcases Nat.lt_trichotomy s.size 64 with h | h | h
  · refine (open_short s w h).mono ?_
    rintro e w' ⟨rfl, rfl⟩
    exact ⟨by rw [openB, if_pos h], Below.refl _ _⟩
  · exact open_full s w h
  · refine (open_long s w h).mono ?_
    rintro e w' ⟨rfl, rfl⟩
    exact ⟨by rw [openB, if_neg (by omega), if_pos h], Below.refl _ _⟩
end Go.Proofs.Ytmefdlajjbcljaa
