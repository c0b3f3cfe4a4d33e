import Derived.Test.YtmefdlajjbcljaaSecS
import Derived.Test.YtmefdlajjbcljaaSecM
import Derived.RegionCalls
import Derived.BigRegion
import Derived.Outline
import Derived.Deep.RegionLaw
import Derived.Deep.AppendSrc
import Derived.Deep.CutRange
import Derived.Deep.DeepCutAuto
import Derived.Deep.AppendLies
import Derived.Deep.RegionHeld3
import Derived.Room.AppendFits
import Derived.Laws.Closers25b
namespace Go.Proofs.Ytmefdlajjbcljaa
open Go.RowKit Go.Proofs.Ytmefdlajjbcljaa.PS8 Go.Proofs.YtmefdlajjbcljaaW.PrintWords
set_option linter.unusedVariables false
set_option linter.unusedSimpArgs false

theorem Sec.wpList_convert {ops : Array Oper} {rest : List Oper} {o : Oper} {a : Act} {Q : Exit → Act → World → Prop} {w : World} (hg : o.guard = none) (x : Operand) (ho : o.op = .convert 9 53 x) (s : ByteArray) (hx : a.eval x = .string s)
    (h : ∀ W c, s.size ≤ c → Below w.heap.size w W → W.rangeAt w.heap.size 0 (Lib.byteCells s.data.toList) → w.heap.size < W.heap.size → wpList Try.prog ops Q rest (a.put o.dst (.slice (some ⟨w.heap.size, 0, none⟩) s.size c)) W) : wpList Try.prog ops Q (o :: rest) a w := by
  refine wpList_plain hg fun K hK => ?_
  unfold Oper.wp execOp
  simp only [ho, hx, Sem.run_bind, Sem.run_pure, Result.andThen_ok, Lib.run_convert_string_bytes w 9 53 5 s (show Try.prog.underlying 9 = some .string by kernel_rfl) (show Try.prog.underlying 53 = some (.slice 5) by kernel_rfl) (show Try.prog.underlying 5 = some (.int .u8) by kernel_rfl)]
  refine hK _ _ (h _ _ (grownCap_ge _ _ _ _) ⟨rfl, rfl, rfl, by rw [Lib.bytesWorld_size]; omega, fun k hk => Lib.bytesWorld_at_old w _ s k hk⟩ ?_ (by rw [Lib.bytesWorld_size]; omega))
  intro j v hv
  have hj : j < s.size := by
    have := (List.getElem?_eq_some_iff.1 hv).1
    rw [Lib.size_eq]
    simpa [Lib.byteCells] using this
  have hj' : j < s.data.toList.length := by rw [← Lib.size_eq]; exact hj
  rw [Nat.zero_add, Lib.bytesWorld_cell w _ s j hj, ← hv, Lib.byteCells, List.getElem?_map, List.getElem?_eq_getElem hj', List.getD_eq_getElem?_getD, List.getElem?_eq_getElem hj']
  rfl
theorem Sec.u8_info : ∃ i, Try.prog.info? 5 = some i ∧ i.zero = some (.int .u8 0) ∧ i.size = 1 ∧ i.bytes = 1 := by
  have h : (Try.prog.info? 5).map (fun i => (i.size, i.bytes)) = some (1, 1) := by kernel_rfl
  have h2 : (Try.prog.info? 5).bind (fun i => i.zero) = some (.int .u8 0) := by kernel_rfl
  cases hq : Try.prog.info? 5 with
  | none => rw [hq] at h; cases h
  | some i =>
    rw [hq] at h h2
    have h3 := Option.some.inj h
    exact ⟨i, rfl, h2, congrArg Prod.fst h3, congrArg Prod.snd h3⟩
/-- The end of a string behind the beginning of a row that has no room. -/
theorem Sec.step_torn {ops : Array Oper} {o : Oper} {a : Act} {K : Act → World → Prop} {Q : Exit → Act → World → Prop} {E : Prop} {w : World} (hgd : o.guard = none) (s x : Operand)
    (ho : o.op = .call { callee := .builtin .append, args := #[s, x], argTypes := #[53, 9] }) (b m : Nat) (l : List UInt8) (r : ByteArray)
    (hs : a.eval s = .slice (some ⟨b, 0, none⟩) m m) (hx : a.eval x = .string r) (hl : l.length = m) (hr : w.rangeAt b 0 (Lib.byteCells l)) (N : Nat) (hN : m + r.size = N) (hm : m + r.size ≤ 1000000)
    (h : ∀ g c W, Below w.heap.size w W → W.rangeAt g 0 (Lib.byteCells (l ++ r.data.toList)) → K (a.put o.dst (.slice (some ⟨g, 0, none⟩) N c)) W) :
    if Region.wanted o (yielded ops a.tmps) = true then Oper.wp Try.prog o a w K Q else E := by
  have hw : Region.wanted o (yielded ops a.tmps) = true := by simp [Region.wanted, hgd]
  rw [if_pos hw]
  subst hN
  obtain ⟨i, hi, hz, h1, hb1⟩ := Sec.u8_info
  have ht : Try.prog.underlying 53 = some (.slice 5) := by kernel_rfl
  have hS : Src Try.prog i.size 9 (.string r) r.size (Go.byteCells r) w := by rw [h1]; exact Src.ofString w (by kernel_rfl) r
  unfold Oper.wp execOp
  by_cases h0 : r.size = 0
  · have hr0 : r.data.toList = [] := List.length_eq_zero_iff.1 (by rw [← Lib.size_eq]; exact h0)
    have hnews : Go.byteCells r = [] := by unfold Go.byteCells; rw [hr0]; rfl
    have hrun := run_append_room_src (P := Try.prog) w 53 9 o.type 5 i ht hi b 0 m m (.string r) r.size (Go.byteCells r) hS (by omega) (by rw [hnews]; intro j hj; cases hj) (by rw [hnews]; intro j hj; cases hj)
    simp only [ho, resolve, invoke, builtin, Sem.run_bind, Sem.run_pure, Result.andThen_ok, List.map_toArray, List.map_cons, List.map_nil, hs, hx, hrun]
    rw [hnews]
    refine h b m w (Below.refl _ _) ?_
    rw [hr0, List.append_nil]; exact hr
  · have hold : (Builtin.firstCells i.size m (.slice (some ⟨b, 0, none⟩) m m)).run Try.prog w.drew = .ok (Lib.byteCells l).toArray w.drew := by
      refine run_firstCells_some w.drew i.size m ⟨b, 0, none⟩ m m (Lib.byteCells l) (by rw [h1]; simp [Lib.byteCells, hl]) (fun j u hj => ?_)
      have := hr j u hj
      rw [Addr.add_mid]
      exact this
    have hrun := run_append_grow_src (P := Try.prog) w 53 9 o.type 5 i (.int .u8 0) ht hi hz (some ⟨b, 0, none⟩) m m (Lib.byteCells l) hold (.string r) r.size (Go.byteCells r) hS (by omega) (by omega) (by rw [hb1]; exact growslice_fits (by omega) (by omega))
    simp only [ho, resolve, invoke, builtin, Sem.run_bind, Sem.run_pure, Result.andThen_ok, List.map_toArray, List.map_cons, List.map_nil, hs, hx, hrun]
    refine h w.heap.size _ _ (((Below.refl _ _).drew).alloc (Nat.le_refl _) _) ?_
    intro j v hv
    have hv' : (Lib.byteCells l ++ Go.byteCells r)[j]? = some v := by
      rw [← hv]; unfold Lib.byteCells Go.byteCells; rw [List.map_append]
    have hj := (List.getElem?_eq_some_iff.1 hv').1
    rw [Nat.zero_add, cell_of_row _ w.heap.size j _ _ _ (heap_alloc_new w.drew _)]
    rw [Array.getElem?_append_left (by simpa using hj), List.getElem?_toArray]
    exact hv'
/-- The bytes of a row as a string. -/
theorem Sec.string_range (w : World) (g : Nat) (l : List UInt8) (cap n : Nat) (hn : n = l.length) (hg : w.rangeAt g 0 (Lib.byteCells l)) :
    (convert 53 9 (.slice (some ⟨g, 0, none⟩) n cap)).run Try.prog w = .ok (.string ⟨l.toArray⟩) w := by
  subst hn
  refine Go.run_convert_bytes_back w 53 9 5 ⟨g, 0, none⟩ cap l (by kernel_rfl) (by kernel_rfl) (by kernel_rfl) ?_
  intro j hj
  rw [Addr.add_mid]
  refine hg j _ ?_
  rw [Lib.byteCells, List.getElem?_map, List.getElem?_eq_getElem hj]
  rfl
theorem Sec.range_take {w : World} {b : Nat} {l : List UInt8} (h : w.rangeAt b 0 (Lib.byteCells l)) (m : Nat) : w.rangeAt b 0 (Lib.byteCells (l.take m)) := by
  intro j v hv
  refine h j v ?_
  unfold Lib.byteCells at *
  rw [List.map_take] at hv
  have hj := (List.getElem?_eq_some_iff.1 hv).1
  rw [List.length_take] at hj
  rw [List.getElem?_take_of_lt (by omega)] at hv
  exact hv
theorem tmod65 (x : Int) : (x.tmod 65 < 0 ∧ ((x % 65).toNat : Int) = x.tmod 65 + 65) ∨ (0 ≤ x.tmod 65 ∧ ((x % 65).toNat : Int) = x.tmod 65) := by
  have h1 := Int.tmod_add_mul_tdiv x 65
  have h2 := Int.tmod_lt_of_pos x (show (0 : Int) < 65 by omega)
  have h3 : -65 < x.tmod 65 := by
    have := Int.lt_tmod_of_pos x (show (0 : Int) < 65 by omega)
    omega
  generalize x.tmod 65 = t at *
  generalize x.tdiv 65 = q at *
  omega
theorem right_all {s n : List ByteArray} {f : Int} (h : Sec.rightB s n f = true) : (∀ x ∈ s, x.size = 64) ∧ (∀ x ∈ n, x.toList = [] ∨ x.size = 64) := by
  unfold Sec.rightB at h
  simp only [Bool.and_eq_true, Bool.not_eq_true', List.any_eq_false] at h
  obtain ⟨-, h1, h2⟩ := h
  refine ⟨fun x hx => ?_, fun x hx => ?_⟩
  · have := h1 x hx
    unfold Sec.oddB at this
    simp at this; omega
  · have := h2 x hx
    unfold Sec.tornB at this
    simp at this
    by_cases hh : x.toList = []
    · exact Or.inl hh
    · exact Or.inr (by have := this hh; omega)
theorem rd_mem {l : List ByteArray} {k : Nat} (h : k < l.length) : rdOf ByteArray.empty l (k : Int) ∈ l := by
  unfold rdOf
  rw [List.getD_eq_getElem?_getD, Int.toNat_natCast, List.getElem?_eq_getElem h, Option.getD_some]
  exact List.getElem_mem h
set_option maxHeartbeats 2000000 in
set_option maxRecDepth 100000 in
theorem crash_bad
    (A0 : Option Addr) (c0 : Nat) (s : List ByteArray) (A1 : Option Addr) (c1 : Nat) (n : List ByteArray) (f : Int) (Ak : Option Addr) (ck : Nat) (keep : List Int) (w : World) (hr0 : Kd.C Kd.string w A0 s.length s) (hc0 : s.length ≤ c0) (hr1 : Kd.C Kd.string w A1 n.length n) (hc1 : n.length ≤ c1) (hrk : Kd.C (Kd.int .i64) w Ak keep.length keep) (hck : keep.length ≤ ck)
    (hR : Sec.rightB s n f = false) :
    Calls Try.prog 22 #[.agg #[.slice A0 s.length c0, .slice A1 n.length c1, .int .i64 f], .slice Ak keep.length ck] w
    (DiskPost w (([], [], 0), 1)) := by
  have H0 := Lib.hid hr0
  have H1 := Lib.hid hr1
  have HK := Lib.hid hrk
  have HR := Lib.hid hR
  clear hr0 hr1 hrk hR
  go_enter Try.func22, Try.ntmps22
  go_wp2_with fail
  refine (sector_right_calls A0 c0 s A1 c1 n f _ (Kd.C_alloc (Kd.C_alloc H0.out _) _) hc0 (Kd.C_alloc (Kd.C_alloc H1.out _) _) hc1).mono ?_
  rintro e w1 ⟨rfl, hb_⟩
  rw [HR.out]
  have HX : Hid (BoxD w.heap.size (.slice A0 s.length c0) (.slice A1 n.length c1) (.int .i64 f) w1) := Lib.hid (blk_below (heap_at0 _ _ _) hb_)
  have HY : Hid (BoxD (w.heap.size + 1) (.slice none 0 0) (.slice none 0 0) (.int .i64 0) w1) := Lib.hid (blk_below (Sec.heap_at1 _ _ _) hb_)
  have hz : w.heap.size + 1 < w1.heap.size := by have := hb_.size; simp at this; omega
  have HB := Lib.hid ((((Below.refl _ _).alloc (Nat.le_refl _) _).alloc (by simp) _).trans (hb_.mono (by simp; omega)) : Below w.heap.size w w1)
  clear hb_
  have x0 := HX.out.c0
  have x1 := HX.out.c1
  have x2 := HX.out.c2
  have xf := HX.out.f
  have y0 := HY.out.c0
  have y1 := HY.out.c1
  have y2 := HY.out.c2
  have yf := HY.out.f
  go_wp2_with fail
  refine bodyPost_ret (v := .tuple #[.agg #[.slice none 0 0, .slice none 0 0, .int .i64 0], .int .i64 1]) (by simp [results, Try.results22, go_sem, y0, y1, y2]) rfl ⟨_, _, rfl, own_nils _ _, ?_⟩
  exact ((HB.out.setCell (by simp) _).setCell (by simp) _).setCell (by simp) _
set_option maxHeartbeats 4000000 in
set_option maxRecDepth 100000 in
theorem crash_ok
    (A0 : Option Addr) (c0 : Nat) (s : List ByteArray) (A1 : Option Addr) (c1 : Nat) (n : List ByteArray) (f : Int) (Ak : Option Addr) (ck : Nat) (keep : List Int) (w : World) (hr0 : Kd.C Kd.string w A0 s.length s) (hc0 : s.length ≤ c0) (hr1 : Kd.C Kd.string w A1 n.length n) (hc1 : n.length ≤ c1) (hrk : Kd.C (Kd.int .i64) w Ak keep.length keep) (hck : keep.length ≤ ck)
    (hR : Sec.rightB s n f = true) (hsz : Sec.sizesB s n f = true) (hp : 0 < s.length) :
    Calls Try.prog 22 #[.agg #[.slice A0 s.length c0, .slice A1 n.length c1, .int .i64 f], .slice Ak keep.length ck] w
    (DiskPost w ((crL s n keep, List.replicate s.length ⟨#[]⟩, -1), 0)) := by
  unfold Sec.sizesB at hsz
  simp at hsz
  obtain ⟨s512, hnl, fu1, fu2⟩ := hsz
  have HN := Lib.hid hnl
  clear hnl
  have H0 := Lib.hid hr0
  have H1 := Lib.hid hr1
  have HK := Lib.hid hrk
  have HR := Lib.hid hR
  clear hr0 hr1 hrk hR
  go_enter Try.func22, Try.ntmps22
  go_wp2_with fail
  refine (sector_right_calls A0 c0 s A1 c1 n f _ (Kd.C_alloc (Kd.C_alloc H0.out _) _) hc0 (Kd.C_alloc (Kd.C_alloc H1.out _) _) hc1).mono ?_
  rintro e w1 ⟨rfl, hb_⟩
  rw [HR.out]
  have HX : Hid (BoxD w.heap.size (.slice A0 s.length c0) (.slice A1 n.length c1) (.int .i64 f) w1) := Lib.hid (blk_below (heap_at0 _ _ _) hb_)
  have HY : Hid (BoxD (w.heap.size + 1) (.slice none 0 0) (.slice none 0 0) (.int .i64 0) w1) := Lib.hid (blk_below (Sec.heap_at1 _ _ _) hb_)
  have hz : w.heap.size + 1 < w1.heap.size := by have := hb_.size; simp at this; omega
  have HB := Lib.hid ((((Below.refl _ _).alloc (Nat.le_refl _) _).alloc (by simp) _).trans (hb_.mono (by simp; omega)) : Below w.heap.size w w1)
  clear hb_
  have x0 := HX.out.c0
  have x1 := HX.out.c1
  have x2 := HX.out.c2
  have xf := HX.out.f
  have y0 := HY.out.c0
  have y1 := HY.out.c1
  have y2 := HY.out.c2
  have yf := HY.out.f
  go_wp2_with fail
  have HC0 := Lib.hid (Kd.C_below H0.out HB.out)
  have HC1 := Lib.hid (Kd.C_below H1.out HB.out)
  refine (sector_own.calls A0 c0 s A1 c1 n f s n f _ HC0.out hc0 HC1.out hc1 ?_).mono ?_
  · unfold sector_own.f slices_Clone_string_string.f
    rw [if_pos (by omega), if_pos (by have := HN.out; omega)]; rfl
  rintro e w3 ⟨v0, v1, rfl, hR0, hR1, hb_⟩
  clear x0 x1 x2 xf y0 y1 y2 yf
  have hzo := hz
  replace HX := Lib.hid (HX.out.below hb_)
  replace HY := Lib.hid (HY.out.below hb_)
  replace hz : w.heap.size + 1 < w3.heap.size := by have := hb_.size; omega
  replace HB := Lib.hid (HB.out.trans (Below.mono hb_ HB.out.size))
  clear hb_
  obtain ⟨gn, cn, rfl, hg1, hg2, -⟩ := Kd.R_form hR1 (by have := HN.out; omega)
  obtain ⟨gs, cs, rfl, hg3, hg4, -⟩ := Kd.R_form hR0 hp
  have HO := Lib.hid (OwnD.of_two rfl HN.out hR0 hR1)
  clear hR0 hR1
  rw [HN.out]
  have x0 := HX.out.c0
  have x1 := HX.out.c1
  have x2 := HX.out.c2
  have xf := HX.out.f
  have y0 := HY.out.c0
  have y1 := HY.out.c1
  have y2 := HY.out.c2
  have yf := HY.out.f
  go_wp2_with fail
  clear x0 x1 x2 xf y0 y1 y2 yf
  replace HO := Lib.hid (((HO.out.other (p := ⟨w.heap.size, 0, none⟩) (by show w.heap.size < _; omega) (.slice (some ⟨gs, 0, none⟩) s.length cs)).other (p := ⟨w.heap.size, 1, none⟩) (by show w.heap.size < _; omega) (.slice (some ⟨gn, 0, none⟩) s.length cn)).other (p := ⟨w.heap.size, 2, none⟩) (by show w.heap.size < _; omega) (.int .i64 f))
  replace HX := Lib.hid (((HX.out.set0 (.slice (some ⟨gs, 0, none⟩) s.length cs)).set1 (.slice (some ⟨gn, 0, none⟩) s.length cn)).set2 (.int .i64 f))
  replace HY := Lib.hid (((HY.out.far (p := ⟨w.heap.size, 0, none⟩) (by show w.heap.size + 1 ≠ w.heap.size; omega) (.slice (some ⟨gs, 0, none⟩) s.length cs)).far (p := ⟨w.heap.size, 1, none⟩) (by show w.heap.size + 1 ≠ w.heap.size; omega) (.slice (some ⟨gn, 0, none⟩) s.length cn)).far (p := ⟨w.heap.size, 2, none⟩) (by show w.heap.size + 1 ≠ w.heap.size; omega) (.int .i64 f))
  replace HB := Lib.hid (((HB.out.setCell (p := ⟨w.heap.size, 0, none⟩) (Nat.le_refl _) (.slice (some ⟨gs, 0, none⟩) s.length cs)).setCell (p := ⟨w.heap.size, 1, none⟩) (Nat.le_refl _) (.slice (some ⟨gn, 0, none⟩) s.length cn)).setCell (p := ⟨w.heap.size, 2, none⟩) (Nat.le_refl _) (.int .i64 f))
  generalize ((w3.setCell ⟨w.heap.size, 0, none⟩ (.slice (some ⟨gs, 0, none⟩) s.length cs)).setCell ⟨w.heap.size, 1, none⟩ (.slice (some ⟨gn, 0, none⟩) s.length cn)).setCell ⟨w.heap.size, 2, none⟩ (.int .i64 f) = w5 at HO HX HY HB ⊢
  clear hz hg2 hg4
  obtain ⟨R, hR⟩ : ∃ R, R = crL s n keep := ⟨_, rfl⟩
  have HRl := Lib.hid (show R.length = s.length by rw [hR, crL_length])
  have HRd := Lib.hid (show ∀ k, k < s.length → rdOf ByteArray.empty R (k : Int) = crAt s n keep k by intro k hk; rw [hR, crL_rd s n keep k hk])
  have hRR := Lib.hid hR
  clear hR
  go_loopw [6, 20] (fun q i wr => ∃ k : Nat, k ≤ s.length ∧ i = .int .i64 k ∧ q = .int .i64 (cntN n k) ∧ Hid (OwnD w1.heap.size s.length gs cs gn cn (goS R s k) (syN n k) wr) ∧ Hid (BoxD w.heap.size (.slice (some ⟨gs, 0, none⟩) s.length cs) (.slice (some ⟨gn, 0, none⟩) s.length cn) (.int .i64 f) wr) ∧ Hid (BoxD (w.heap.size + 1) (.slice none 0 0) (.slice none 0 0) (.int .i64 0) wr) ∧ Hid (Below w.heap.size w wr)) (fun _ i _ => s.length - (intOf i).toNat)
  case atStart => exact ⟨0, Nat.zero_le _, rfl, rfl, HO, HX, HY, HB⟩
  case round =>
    clear HO HX HY HB
    obtain ⟨k, hk, rfl, rfl, HO, HX, HY, HB⟩ := hrel
    by_cases hlt : k < s.length
    · obtain ⟨v, hv⟩ : ∃ v, v = rdOf ByteArray.empty n (k : Int) := ⟨_, rfl⟩
      obtain ⟨hgn, hgb1, hgb2⟩ := HO.out.ne
      have hgn2 : gn ≠ gs := fun e => hgn e.symm
      have e1 : gs ≠ w.heap.size := by omega
      have e2 : gn ≠ w.heap.size := by omega
      have e3 : w.heap.size ≠ gs := by omega
      have e4 : w.heap.size ≠ gn := by omega
      have e5 : w.heap.size < wr.heap.size := blk_lt HX.out
      have e6 : gs < wr.heap.size := Kd.R_lt HO.out.1 gs rfl
      have e7 : gn < wr.heap.size := Kd.R_lt HO.out.2 gn rfl
      have x0 := HX.out.c0
      have x1 := HX.out.c1
      have x2 := HX.out.c2
      have xf := HX.out.f
      have y0 := HY.out.c0
      have y1 := HY.out.c1
      have y2 := HY.out.c2
      have yf := HY.out.f
      have z2 : wr.cell? ⟨gn, k, none⟩ = some (.string v) := by rw [hv, ← syN_rd n k (by have := HN.out; omega)]; exact (HO.out.cellN k hlt).1
      have z3 := (HO.out.cellN k hlt).2
      have HV := Lib.hid hv
      clear hv
      by_cases he : v.toList = []
      · have he2 : v.toList.isEmpty = true := by rw [he]; rfl
        replace he := Lib.hid he
        go_wp2_with fail
        have h1 := goS_same R s k hlt HRl.out (by rw [HRd.out k hlt]; unfold crAt; rw [← HV.out, if_pos he.out])
        have h2 : syN n k = syN n (k + 1) := by
          have hk2 : k < n.length := by have := HN.out; omega
          have e0 : v = ⟨#[]⟩ := (toList_nil_iff_emptyBytes v).1 he.out
          have hr : rdOf ByteArray.empty (syN n k) k = ⟨#[]⟩ := by rw [syN_rd n k hk2, ← HV.out, e0]
          rw [← syN_set n k hk2, ← hr]
          apply List.ext_getElem?
          intro i
          rw [List.getElem?_set]
          split
          · rename_i e; subst e
            have hl : k < (syN n k).length := by unfold syN; rw [List.length_append, List.length_replicate, List.length_drop]; omega
            rw [if_pos hl]; unfold rdOf; simp [hl]
          · rfl
        have h3 : cntN n (k + 1) = cntN n k := by rw [cntN_succ n k (by have := HN.out; omega), ← HV.out, if_pos he.out]; exact Nat.add_zero _
        rw [h1, h2] at HO
        exact ⟨⟨k + 1, by omega, by go_num, by rw [h3], HO, HX, HY, HB⟩, by simp [intOf]; omega⟩
      · have he2 : v.toList.isEmpty = false := by cases h : v.toList with
          | nil => exact absurd h he
          | cons => rfl
        have hcb : (cntN n k : Int) ≤ 512 := by
          have : cntN n k ≤ k := by unfold cntN; exact Nat.le_trans (List.length_filter_le _ _) (List.length_take_le _ _)
          omega
        have hkn : k < n.length := by have := HN.out; omega
        have hv64 : v.size = 64 := by
          have := (right_all HR.out).2 _ (rd_mem hkn)
          rw [← HV.out] at this
          exact this.resolve_left he
        have hcnt := Lib.hid (show cntN n (k + 1) = cntN n k + 1 by rw [cntN_succ n k hkn, ← HV.out, if_neg he])
        have hNset := Lib.hid (syN_set n k hkn)
        clear hkn
        obtain ⟨sk, hsk⟩ : ∃ sk, sk = rdOf ByteArray.empty s (k : Int) := ⟨_, rfl⟩
        have hsk64 : sk.size = 64 := by rw [hsk]; exact (right_all HR.out).1 _ (rd_mem hlt)
        have HK2 := Lib.hid hsk
        obtain ⟨T, hTe⟩ : ∃ T, T = tornS sk v (keepAt keep (cntN n k)) := ⟨_, rfl⟩
        have hTT := Lib.hid hTe
        have hSet := Lib.hid (show (goS R s k).set k T = goS R s (k + 1) by
          rw [← goS_set R s k hlt HRl.out, HRd.out k hlt, hTe]
          unfold crAt
          rw [← HV.out, if_neg he, hsk])
        clear hsk hTe
        replace he := Lib.hid he
        obtain ⟨m, hm⟩ : ∃ m, m = keepAt keep (cntN n k) := ⟨_, rfl⟩
        have hk64' : m ≤ 64 := by rw [hm]; exact keepAt_le _ _
        have hT := Lib.hid (show T = tornS sk v m by rw [hTT.out, hm])
        have HM := Lib.hid hm
        clear hm hTT
        go_upto_if 30 with fail
        go_cut [9, 20] from 20 to 65 (fun a b wx => a = .int .i64 (m : Int) ∧ b = .int .i64 k ∧ wx = wr)
        case first =>
          by_cases hq : cntN n k < keep.length
          · obtain ⟨ad, hA, hck⟩ := Kd.at_int (Kd.C_below HK.out HB.out) (cntN n k : Int) (by omega) (by omega)
            subst hA
            rw [Int.toNat_natCast] at hck
            obtain ⟨x, hx⟩ : ∃ x, x = rd keep (cntN n k : Int) := ⟨_, rfl⟩
            rw [← hx] at hck
            have hkx : m = (x % 65).toNat := by rw [HM.out, hx]; unfold keepAt rd; simp
            clear hx
            rcases tmod65 x with ⟨t1, t2⟩ | ⟨t1, t2⟩
            · have t3 : x.tmod 65 = (m : Int) - 65 := by rw [hkx]; omega
              replace hkx := Lib.hid hkx
              replace t2 := Lib.hid t2
              go_wp2_with fail
              go_meet
              exact ⟨by go_num, rfl, rfl⟩
            · have t3 : x.tmod 65 = (m : Int) := by rw [hkx]; omega
              replace hkx := Lib.hid hkx
              replace t2 := Lib.hid t2
              go_wp2_with fail
              go_meet
              exact ⟨by go_num, rfl, rfl⟩
          · have hm0 : m = 0 := by rw [HM.out]; unfold keepAt; rw [List.getD_eq_getElem?_getD, List.getElem?_eq_none (by omega)]; rfl
            replace hm0 := Lib.hid hm0
            go_wp2_with fail
            go_meet
            exact ⟨by rw [hm0.out]; rfl, rfl, rfl⟩
        case rest =>
          obtain ⟨rfl, rfl, hw⟩ := hcut
          have hw2 := hw.symm
          clear hw
          subst hw2
          go_wp2_with (refine Sec.wpList_convert (o := ⟨some 43, _, _, _, _, _⟩) rfl (.tmp 42) rfl v rfl ?_; intro W2 c hc hb2 hr2 hlt2)
          have hk64 : m ≤ 64 := hk64'
          have m0 : (0 : Int) ≤ (m : Nat) := by omega
          have m1 : ((m : Nat) : Int) ≤ 64 := by omega
          have m2 : ((m : Nat) : Int) ≤ (c : Int) := by omega
          have m3 : m ≤ c := by omega
          replace HO := Lib.hid (HO.out.below hb2)
          replace HX := Lib.hid (HX.out.below hb2)
          replace HY := Lib.hid (HY.out.below hb2)
          replace HB := Lib.hid (HB.out.trans (Below.mono hb2 HB.out.size))
          have hs2 := hb2.size
          replace e5 : w.heap.size < W2.heap.size := by omega
          replace e6 : gs < W2.heap.size := by omega
          replace e7 : gn < W2.heap.size := by omega
          clear z2 z3 x0 x1 x2 xf y0 y1 y2 yf hb2
          have x0 := HX.out.c0
          have x1 := HX.out.c1
          have x2 := HX.out.c2
          have xf := HX.out.f
          have y0 := HY.out.c0
          have y1 := HY.out.c1
          have y2 := HY.out.c2
          have yf := HY.out.f
          obtain ⟨zs', zsf⟩ := HO.out.cellS k hlt
          have zs : W2.cell? ⟨gs, k, none⟩ = some (.string sk) := by rw [HK2.out]; rw [goS_rd R s k hlt HRl.out] at zs'; exact zs'
          clear zs'
          obtain ⟨zn, znf⟩ := HO.out.cellN k hlt
          have hr3 := Lib.hid (Sec.range_take hr2 m)
          have hlm := Lib.hid (show (v.data.toList.take m).length = m by rw [List.length_take, ← Lib.size_eq]; omega)
          have hrm := Lib.hid (show m + (sk.extract m 64).size = 64 by rw [ByteArray.size_extract]; omega)
          have hT2 := Lib.hid (show (⟨(v.data.toList.take m ++ (sk.extract m 64).data.toList).toArray⟩ : ByteArray) = T by rw [hT.out]; unfold tornS; congr 3; rw [Lib.extract_data, ← hsk64]; exact (List.take_of_length_le (by rw [List.length_drop, ← Lib.size_eq]; omega)))
          have hTl := Lib.hid (show 64 = (v.data.toList.take m ++ (sk.extract m 64).data.toList).length by rw [List.length_append, hlm.out, ← Lib.size_eq, hrm.out])
          clear hr2
          go_region_law ((refine Sec.step_torn ?_ (.tmp 53) (.tmp 60) ?_ wr.heap.size m (v.data.toList.take m) (sk.extract m 64) ?_ ?_ ?_ ?_ 64 ?_ ?_ ?_; rfl; rfl; (first | rfl | (simp [Act.eval]; done) | (fail "HS")); (first | rfl | (simp [Act.eval]; done) | (fail "HX")); exact hlm.out; exact hr3.out; exact hrm.out; (rw [hrm.out]; omega); intro g c3 W3 hb3' hr4; have hb3 := (Below.drew (Below.refl W2.heap.size W2)).trans hb3'; clear hb3'; have HO3 := Lib.hid (HO.out.below hb3); have HX3 := Lib.hid (HX.out.below hb3); have HY3 := Lib.hid (HY.out.below hb3); have HB3 := Lib.hid (HB.out.trans (Below.mono hb3 HB.out.size)); have d0 := HX3.out.c0; have d1 := HX3.out.c1; obtain ⟨t0, t1⟩ := HO3.out.cellS k hlt; obtain ⟨t2, t3⟩ := HO3.out.cellN k hlt; have hcv := Sec.string_range W3 g _ c3 64 hTl.out hr4; rw [hT2.out] at hcv; clear hr4 hb3))
          all_goals go_wp2_with fail
          all_goals
            go_roundw
            case rel =>
              refine ⟨k + 1, by omega, by go_num, by rw [hcnt.out]; go_num, ?_, Lib.hid ((HX3.out.far (p := ⟨gs, k, none⟩) e3 _).far (p := ⟨gn, k, none⟩) e4 _), Lib.hid ((HY3.out.far (p := ⟨gs, k, none⟩) (by show w.heap.size + 1 ≠ gs; omega) _).far (p := ⟨gn, k, none⟩) (by show w.heap.size + 1 ≠ gn; omega) _), Lib.hid ((HB3.out.setCell (p := ⟨gs, k, none⟩) (by show w.heap.size ≤ gs; omega) _).setCell (p := ⟨gn, k, none⟩) (by show w.heap.size ≤ gn; omega) _)⟩
              have := (HO3.out.setS k T).setN k ⟨#[]⟩
              rw [hSet.out, hNset.out] at this
              exact Lib.hid this
            case measure => simp [intOf]; omega
    · obtain rfl : k = s.length := by omega
      have hfS := Lib.hid (goS_full R s HRl.out)
      have hfN := Lib.hid (show syN n s.length = List.replicate s.length ⟨#[]⟩ by unfold syN; rw [← HN.out, List.drop_length, List.append_nil])
      rw [hfS.out, hfN.out] at HO
      obtain ⟨hgn, hgb1, hgb2⟩ := HO.out.ne
      have x0 := HX.out.c0
      have x1 := HX.out.c1
      have x2 := HX.out.c2
      have xf := HX.out.f
      have y0 := HY.out.c0
      have y1 := HY.out.c1
      have y2 := HY.out.c2
      have yf := HY.out.f
      go_wp2_with fail
      refine bodyPost_ret (v := .tuple #[.agg #[.slice (some ⟨gs, 0, none⟩) s.length cs, .slice (some ⟨gn, 0, none⟩) s.length cn, .int .i64 (-1)], .int .i64 0]) (by simp [results, Try.results22, go_sem, x0, x1, x2, y0, y1, y2]) rfl ?_
      have hOf := (((HO.out.other (p := ⟨w.heap.size, 2, none⟩) (by show w.heap.size < _; omega) (.int .i64 (-1))).other (p := ⟨w.heap.size + 1, 0, none⟩) (by show w.heap.size + 1 < _; omega) (.slice (some ⟨gs, 0, none⟩) s.length cs)).other (p := ⟨w.heap.size + 1, 1, none⟩) (by show w.heap.size + 1 < _; omega) (.slice (some ⟨gn, 0, none⟩) s.length cn)).other (p := ⟨w.heap.size + 1, 2, none⟩) (by show w.heap.size + 1 < _; omega) (.int .i64 (-1))
      have hBf := (((HB.out.setCell (p := ⟨w.heap.size, 2, none⟩) (Nat.le_refl _) (.int .i64 (-1))).setCell (p := ⟨w.heap.size + 1, 0, none⟩) (Nat.le_succ _) (.slice (some ⟨gs, 0, none⟩) s.length cs)).setCell (p := ⟨w.heap.size + 1, 1, none⟩) (Nat.le_succ _) (.slice (some ⟨gn, 0, none⟩) s.length cn)).setCell (p := ⟨w.heap.size + 1, 2, none⟩) (Nat.le_succ _) (.int .i64 (-1))
      rw [← hRR.out]
      exact ⟨_, _, rfl, hOf.out (w0 := w) (by omega), hBf⟩
set_option maxHeartbeats 2000000 in
set_option maxRecDepth 100000 in
theorem crash_nil
    (A0 : Option Addr) (c0 : Nat) (s : List ByteArray) (A1 : Option Addr) (c1 : Nat) (n : List ByteArray) (f : Int) (Ak : Option Addr) (ck : Nat) (keep : List Int) (w : World) (hr0 : Kd.C Kd.string w A0 s.length s) (hc0 : s.length ≤ c0) (hr1 : Kd.C Kd.string w A1 n.length n) (hc1 : n.length ≤ c1) (hrk : Kd.C (Kd.int .i64) w Ak keep.length keep) (hck : keep.length ≤ ck)
    (hR : Sec.rightB s n f = true) (hsz : Sec.sizesB s n f = true) (hp : s.length ≤ 0) :
    Calls Try.prog 22 #[.agg #[.slice A0 s.length c0, .slice A1 n.length c1, .int .i64 f], .slice Ak keep.length ck] w
    (DiskPost w ((s, n, -1), 0)) := by
  unfold Sec.sizesB at hsz
  simp at hsz
  obtain ⟨s512, hnl, fu1, fu2⟩ := hsz
  have HN := Lib.hid hnl
  clear hnl
  have H0 := Lib.hid hr0
  have H1 := Lib.hid hr1
  have HK := Lib.hid hrk
  have HR := Lib.hid hR
  clear hr0 hr1 hrk hR
  go_enter Try.func22, Try.ntmps22
  go_wp2_with fail
  refine (sector_right_calls A0 c0 s A1 c1 n f _ (Kd.C_alloc (Kd.C_alloc H0.out _) _) hc0 (Kd.C_alloc (Kd.C_alloc H1.out _) _) hc1).mono ?_
  rintro e w1 ⟨rfl, hb_⟩
  rw [HR.out]
  have HX : Hid (BoxD w.heap.size (.slice A0 s.length c0) (.slice A1 n.length c1) (.int .i64 f) w1) := Lib.hid (blk_below (heap_at0 _ _ _) hb_)
  have HY : Hid (BoxD (w.heap.size + 1) (.slice none 0 0) (.slice none 0 0) (.int .i64 0) w1) := Lib.hid (blk_below (Sec.heap_at1 _ _ _) hb_)
  have hz : w.heap.size + 1 < w1.heap.size := by have := hb_.size; simp at this; omega
  have HB := Lib.hid ((((Below.refl _ _).alloc (Nat.le_refl _) _).alloc (by simp) _).trans (hb_.mono (by simp; omega)) : Below w.heap.size w w1)
  clear hb_
  have x0 := HX.out.c0
  have x1 := HX.out.c1
  have x2 := HX.out.c2
  have xf := HX.out.f
  have y0 := HY.out.c0
  have y1 := HY.out.c1
  have y2 := HY.out.c2
  have yf := HY.out.f
  go_wp2_with fail
  have HC0 := Lib.hid (Kd.C_below H0.out HB.out)
  have HC1 := Lib.hid (Kd.C_below H1.out HB.out)
  refine (sector_own.calls A0 c0 s A1 c1 n f s n f _ HC0.out hc0 HC1.out hc1 ?_).mono ?_
  · unfold sector_own.f slices_Clone_string_string.f
    rw [if_pos (by omega), if_pos (by have := HN.out; omega)]; rfl
  rintro e w3 ⟨v0, v1, rfl, hR0, hR1, hb_⟩
  clear x0 x1 x2 xf y0 y1 y2 yf
  have hzo := hz
  replace HX := Lib.hid (HX.out.below hb_)
  replace HY := Lib.hid (HY.out.below hb_)
  replace hz : w.heap.size + 1 < w3.heap.size := by have := hb_.size; omega
  replace HB := Lib.hid (HB.out.trans (Below.mono hb_ HB.out.size))
  clear hb_
  obtain ⟨Ag, cn, rfl⟩ := Kd.R_slice hR1
  obtain ⟨As, cs, rfl⟩ := Kd.R_slice hR0
  have HO := Lib.hid (OwnE.of_two hR0 hR1)
  clear hR0 hR1
  have x0 := HX.out.c0
  have x1 := HX.out.c1
  have x2 := HX.out.c2
  have xf := HX.out.f
  have y0 := HY.out.c0
  have y1 := HY.out.c1
  have y2 := HY.out.c2
  have yf := HY.out.f
  go_wp2_with fail
  clear x0 x1 x2 xf y0 y1 y2 yf
  replace HO := Lib.hid (((HO.out.other (p := ⟨w.heap.size, 0, none⟩) (by show w.heap.size < _; omega) (.slice As s.length cs)).other (p := ⟨w.heap.size, 1, none⟩) (by show w.heap.size < _; omega) (.slice Ag n.length cn)).other (p := ⟨w.heap.size, 2, none⟩) (by show w.heap.size < _; omega) (.int .i64 f))
  replace HX := Lib.hid (((HX.out.set0 (.slice As s.length cs)).set1 (.slice Ag n.length cn)).set2 (.int .i64 f))
  replace HY := Lib.hid (((HY.out.far (p := ⟨w.heap.size, 0, none⟩) (by show w.heap.size + 1 ≠ w.heap.size; omega) (.slice As s.length cs)).far (p := ⟨w.heap.size, 1, none⟩) (by show w.heap.size + 1 ≠ w.heap.size; omega) (.slice Ag n.length cn)).far (p := ⟨w.heap.size, 2, none⟩) (by show w.heap.size + 1 ≠ w.heap.size; omega) (.int .i64 f))
  replace HB := Lib.hid (((HB.out.setCell (p := ⟨w.heap.size, 0, none⟩) (Nat.le_refl _) (.slice As s.length cs)).setCell (p := ⟨w.heap.size, 1, none⟩) (Nat.le_refl _) (.slice Ag n.length cn)).setCell (p := ⟨w.heap.size, 2, none⟩) (Nat.le_refl _) (.int .i64 f))
  generalize ((w3.setCell ⟨w.heap.size, 0, none⟩ (.slice As s.length cs)).setCell ⟨w.heap.size, 1, none⟩ (.slice Ag n.length cn)).setCell ⟨w.heap.size, 2, none⟩ (.int .i64 f) = w5 at HO HX HY HB ⊢
  clear hz
  have hn0 : n.length ≤ 0 := by have := HN.out; omega
  go_loopw [20] (fun i wr => i = .int .i64 0 ∧ wr = w5) (fun i _ => 0)
  case atStart => exact ⟨rfl, rfl⟩
  case round =>
    obtain ⟨rfl, rfl⟩ := hrel
    have x0 := HX.out.c0
    have x1 := HX.out.c1
    have x2 := HX.out.c2
    have xf := HX.out.f
    have y0 := HY.out.c0
    have y1 := HY.out.c1
    have y2 := HY.out.c2
    have yf := HY.out.f
    go_wp2_with fail
    refine bodyPost_ret (v := .tuple #[.agg #[.slice As s.length cs, .slice Ag n.length cn, .int .i64 (-1)], .int .i64 0]) (by simp [results, Try.results22, go_sem, x0, x1, x2, y0, y1, y2]) rfl ?_
    have hOf := (((HO.out.other (p := ⟨w.heap.size, 2, none⟩) (by show w.heap.size < _; omega) (.int .i64 (-1))).other (p := ⟨w.heap.size + 1, 0, none⟩) (by show w.heap.size + 1 < _; omega) (.slice As s.length cs)).other (p := ⟨w.heap.size + 1, 1, none⟩) (by show w.heap.size + 1 < _; omega) (.slice Ag n.length cn)).other (p := ⟨w.heap.size + 1, 2, none⟩) (by show w.heap.size + 1 < _; omega) (.int .i64 (-1))
    have hBf := (((HB.out.setCell (p := ⟨w.heap.size, 2, none⟩) (Nat.le_refl _) (.int .i64 (-1))).setCell (p := ⟨w.heap.size + 1, 0, none⟩) (Nat.le_succ _) (.slice As s.length cs)).setCell (p := ⟨w.heap.size + 1, 1, none⟩) (Nat.le_succ _) (.slice Ag n.length cn)).setCell (p := ⟨w.heap.size + 1, 2, none⟩) (Nat.le_succ _) (.int .i64 (-1))
    exact ⟨_, _, rfl, hOf.out (w0 := w) (by omega), hBf⟩
theorem crash_calls
    (A0 : Option Addr) (c0 : Nat) (s : List ByteArray) (A1 : Option Addr) (c1 : Nat) (n : List ByteArray) (f : Int) (Ak : Option Addr) (ck : Nat) (keep : List Int) (w : World) (hr0 : Kd.C Kd.string w A0 s.length s) (hc0 : s.length ≤ c0) (hr1 : Kd.C Kd.string w A1 n.length n) (hc1 : n.length ≤ c1) (hrk : Kd.C (Kd.int .i64) w Ak keep.length keep) (hck : keep.length ≤ ck)
    :
    Calls Try.prog 22 #[.agg #[.slice A0 s.length c0, .slice A1 n.length c1, .int .i64 f], .slice Ak keep.length ck] w
    (DiskPost w (crashR s n f keep)) := by
  unfold crashR
  cases hR : Sec.rightB s n f with
  | false => exact crash_bad A0 c0 s A1 c1 n f Ak ck keep w hr0 hc0 hr1 hc1 hrk hck hR
  | true =>
    rw [if_pos rfl]
    have hsz := sizes_right hR
    by_cases hp : 0 < s.length
    · exact crash_ok A0 c0 s A1 c1 n f Ak ck keep w hr0 hc0 hr1 hc1 hrk hck hR hsz hp
    · have h0 : s = [] := List.length_eq_zero_iff.1 (by omega)
      have hn : n = [] := by
        have h2 := (Bool.and_eq_true_iff.1 (Bool.and_eq_true_iff.1 hsz).2).1
        have h3 : n.length = s.length := of_decide_eq_true h2
        exact List.length_eq_zero_iff.1 (by omega)
      have := crash_nil A0 c0 s A1 c1 n f Ak ck keep w hr0 hc0 hr1 hc1 hrk hck hR hsz (by omega)
      have e1 : crL s n keep = s := by rw [h0]; rfl
      have e2 : List.replicate s.length (⟨#[]⟩ : ByteArray) = n := by rw [h0, hn]; rfl
      rw [e1, e2]; exact this
end Go.Proofs.Ytmefdlajjbcljaa
