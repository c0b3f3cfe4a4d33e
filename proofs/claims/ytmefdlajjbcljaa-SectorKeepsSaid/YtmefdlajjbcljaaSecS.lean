import Derived.Test.YtmefdlajjbcljaaSecD
namespace Go.Proofs.Ytmefdlajjbcljaa
open Go.RowKit Go.Proofs.Ytmefdlajjbcljaa.PS8 Go.Proofs.YtmefdlajjbcljaaW.PrintWords
set_option linter.unusedVariables false
set_option linter.unusedSimpArgs false

theorem now_own {base m gs cs gn cn : Nat} {S N : List ByteArray} {W : World} (h : OwnD base m gs cs gn cn S N W) (f : Int) (k : Nat) (hk : k < m) :
    Calls Try.prog 57 #[.agg #[.slice (some ⟨gs, 0, none⟩) m cs, .slice (some ⟨gn, 0, none⟩) m cn, .int .i64 f], .int .i64 k] W fun e w' => e = .returned (.string (nowB (rdOf ByteArray.empty S k) (rdOf ByteArray.empty N k))) ∧ Below W.heap.size W w' := by
  obtain ⟨hm, h1, hS⟩ := h.lenS
  obtain ⟨hn, h2, hN⟩ := h.lenN
  subst hm
  have := sector_now.calls (some ⟨gs, 0, none⟩) cs S (some ⟨gn, 0, none⟩) cn N f k _ W hS h1 hN (by omega) (now_f S N f k hk (by omega))
  rw [← hn] at this
  exact this

theorem now_round {w wr : World} {base m gs cs gn cn b : Nat} {S N : List ByteArray} {x0 x1 x2 : Value} {f : Int} {k : Nat} (HO : OwnD base m gs cs gn cn S N wr) (hk : k < m) (HX : BoxD b x0 x1 x2 wr) (HY : BoxD (b + 1) (.slice none 0 0) (.slice none 0 0) (.int .i64 0) wr) (HB : Below w.heap.size w wr)
    {r : ByteArray} (hr : r = nowB (rdOf ByteArray.empty S k) (rdOf ByteArray.empty N k)) (W : World) (hW : Below wr.heap.size wr W) :
    Calls Try.prog 57 #[.agg #[.slice (some ⟨gs, 0, none⟩) m cs, .slice (some ⟨gn, 0, none⟩) m cn, .int .i64 f], .int .i64 k] W fun e w' => e = .returned (.string r) ∧ OwnD base m gs cs gn cn S N w' ∧ BoxD b x0 x1 x2 w' ∧ BoxD (b + 1) (.slice none 0 0) (.slice none 0 0) (.int .i64 0) w' ∧ Below w.heap.size w w' ∧ wr.heap.size ≤ w'.heap.size := by
  refine (now_own (HO.below hW) f k hk).mono ?_
  rintro e w' ⟨he, hb⟩
  have hs := hW.size
  have hb2 : Below wr.heap.size wr w' := hW.trans (Below.mono hb hs)
  exact ⟨by rw [he, hr], HO.below hb2, HX.below hb2, HY.below hb2, HB.trans (Below.mono hb2 HB.size), hb2.size⟩
theorem heap_at0 (w : World) (a b : Obj) : ((w.alloc a).alloc b).heap[w.heap.size]? = some a := by
  show ((w.heap.push _).push _)[w.heap.size]? = _
  simp [Array.getElem?_push]
set_option maxHeartbeats 2000000 in
set_option maxRecDepth 100000 in
theorem sync_bad
    (A0 : Option Addr) (c0 : Nat) (s : List ByteArray) (A1 : Option Addr) (c1 : Nat) (n : List ByteArray) (f : Int) (w : World) (hr0 : Kd.C Kd.string w A0 s.length s) (hc0 : s.length ≤ c0) (hr1 : Kd.C Kd.string w A1 n.length n) (hc1 : n.length ≤ c1)
    (hR : Sec.rightB s n f = false) :
    Calls Try.prog 21 #[.agg #[.slice A0 s.length c0, .slice A1 n.length c1, .int .i64 f]] w (DiskPost w (([], [], 0), 1)) := by
  have H0 := Lib.hid hr0
  have H1 := Lib.hid hr1
  have HR := Lib.hid hR
  clear hr0 hr1 hR
  go_enter Try.func21, Try.ntmps21
  go_wp2_with fail
  refine (sector_right_calls A0 c0 s A1 c1 n f _ (Kd.C_alloc (Kd.C_alloc H0.out _) _) hc0 (Kd.C_alloc (Kd.C_alloc H1.out _) _) hc1).mono ?_
  rintro e w1 ⟨rfl, hb_⟩
  rw [HR.out]
  have HX : Hid (BoxD w.heap.size (.slice A0 s.length c0) (.slice A1 n.length c1) (.int .i64 f) w1) := Lib.hid (blk_below (by rw [show (w.alloc _).alloc _ = (w.alloc _).alloc _ from rfl]; exact heap_at0 _ _ _) hb_)
  have HY : Hid (BoxD (w.heap.size + 1) (.slice none 0 0) (.slice none 0 0) (.int .i64 0) w1) := Lib.hid (blk_below (Sec.heap_at1 _ _ _) hb_)
  have hz : w.heap.size + 1 < w1.heap.size := by have := hb_.size; simp at this; omega
  have HB := Lib.hid ((((Below.refl _ _).alloc (Nat.le_refl _) _).alloc (by simp) _).trans (hb_.mono (by simp; omega)) : Below w.heap.size w w1)
  clear hb_
  have x0 := HX.out.c0
  have x1 := HX.out.c1
  have x2 := HX.out.c2
  have xf := HX.out.f
  have y0 := HY.out.c0
  have y1 := HY.out.c1
  have y2 := HY.out.c2
  have yf := HY.out.f
  go_wp2_with fail
  refine bodyPost_ret (v := .tuple #[.agg #[.slice none 0 0, .slice none 0 0, .int .i64 0], .int .i64 1]) (by simp [results, Try.results21, go_sem, y0, y1, y2]) rfl ⟨_, _, rfl, own_nils _ _, ?_⟩
  exact ((HB.out.setCell (by simp) _).setCell (by simp) _).setCell (by simp) _
set_option maxHeartbeats 2000000 in
set_option maxRecDepth 100000 in
theorem sync_down
    (A0 : Option Addr) (c0 : Nat) (s : List ByteArray) (A1 : Option Addr) (c1 : Nat) (n : List ByteArray) (f : Int) (w : World) (hr0 : Kd.C Kd.string w A0 s.length s) (hc0 : s.length ≤ c0) (hr1 : Kd.C Kd.string w A1 n.length n) (hc1 : n.length ≤ c1)
    (hR : Sec.rightB s n f = true) (hf : f = 0) :
    Calls Try.prog 21 #[.agg #[.slice A0 s.length c0, .slice A1 n.length c1, .int .i64 f]] w (DiskPost w (([], [], 0), 7)) := by
  have h3b : (f == 0) = true := beq_iff_eq.2 hf
  clear hf
  have H0 := Lib.hid hr0
  have H1 := Lib.hid hr1
  have HR := Lib.hid hR
  clear hr0 hr1 hR
  go_enter Try.func21, Try.ntmps21
  go_wp2_with fail
  refine (sector_right_calls A0 c0 s A1 c1 n f _ (Kd.C_alloc (Kd.C_alloc H0.out _) _) hc0 (Kd.C_alloc (Kd.C_alloc H1.out _) _) hc1).mono ?_
  rintro e w1 ⟨rfl, hb_⟩
  rw [HR.out]
  have HX : Hid (BoxD w.heap.size (.slice A0 s.length c0) (.slice A1 n.length c1) (.int .i64 f) w1) := Lib.hid (blk_below (by rw [show (w.alloc _).alloc _ = (w.alloc _).alloc _ from rfl]; exact heap_at0 _ _ _) hb_)
  have HY : Hid (BoxD (w.heap.size + 1) (.slice none 0 0) (.slice none 0 0) (.int .i64 0) w1) := Lib.hid (blk_below (Sec.heap_at1 _ _ _) hb_)
  have hz : w.heap.size + 1 < w1.heap.size := by have := hb_.size; simp at this; omega
  have HB := Lib.hid ((((Below.refl _ _).alloc (Nat.le_refl _) _).alloc (by simp) _).trans (hb_.mono (by simp; omega)) : Below w.heap.size w w1)
  clear hb_
  have x0 := HX.out.c0
  have x1 := HX.out.c1
  have x2 := HX.out.c2
  have xf := HX.out.f
  have y0 := HY.out.c0
  have y1 := HY.out.c1
  have y2 := HY.out.c2
  have yf := HY.out.f
  go_wp2_with fail
  refine bodyPost_ret (v := .tuple #[.agg #[.slice none 0 0, .slice none 0 0, .int .i64 0], .int .i64 7]) (by simp [results, Try.results21, go_sem, y0, y1, y2]) rfl ⟨_, _, rfl, own_nils _ _, ?_⟩
  exact ((HB.out.setCell (by simp) _).setCell (by simp) _).setCell (by simp) _
set_option maxHeartbeats 4000000 in
set_option maxRecDepth 100000 in
theorem sync_ok
    (A0 : Option Addr) (c0 : Nat) (s : List ByteArray) (A1 : Option Addr) (c1 : Nat) (n : List ByteArray) (f : Int) (w : World) (hr0 : Kd.C Kd.string w A0 s.length s) (hc0 : s.length ≤ c0) (hr1 : Kd.C Kd.string w A1 n.length n) (hc1 : n.length ≤ c1)
    (hR : Sec.rightB s n f = true) (hf : f ≠ 0) (hsz : Sec.sizesB s n f = true) (hp : 0 < s.length) :
    Calls Try.prog 21 #[.agg #[.slice A0 s.length c0, .slice A1 n.length c1, .int .i64 f]] w (DiskPost w ((nowL s n, List.replicate s.length ⟨#[]⟩, burnI f), 0)) := by
  unfold Sec.sizesB at hsz
  simp at hsz
  obtain ⟨s512, hnl, fu1, fu2⟩ := hsz
  have HN := Lib.hid hnl
  clear hnl
  have h3b : (f == 0) = false := beq_eq_false_iff_ne.2 hf
  clear hf
  have H0 := Lib.hid hr0
  have H1 := Lib.hid hr1
  have HR := Lib.hid hR
  clear hr0 hr1 hR
  go_enter Try.func21, Try.ntmps21
  go_wp2_with fail
  refine (sector_right_calls A0 c0 s A1 c1 n f _ (Kd.C_alloc (Kd.C_alloc H0.out _) _) hc0 (Kd.C_alloc (Kd.C_alloc H1.out _) _) hc1).mono ?_
  rintro e w1 ⟨rfl, hb_⟩
  rw [HR.out]
  have HX : Hid (BoxD w.heap.size (.slice A0 s.length c0) (.slice A1 n.length c1) (.int .i64 f) w1) := Lib.hid (blk_below (by rw [show (w.alloc _).alloc _ = (w.alloc _).alloc _ from rfl]; exact heap_at0 _ _ _) hb_)
  have HY : Hid (BoxD (w.heap.size + 1) (.slice none 0 0) (.slice none 0 0) (.int .i64 0) w1) := Lib.hid (blk_below (Sec.heap_at1 _ _ _) hb_)
  have hz : w.heap.size + 1 < w1.heap.size := by have := hb_.size; simp at this; omega
  have HB := Lib.hid ((((Below.refl _ _).alloc (Nat.le_refl _) _).alloc (by simp) _).trans (hb_.mono (by simp; omega)) : Below w.heap.size w w1)
  clear hb_
  have x0 := HX.out.c0
  have x1 := HX.out.c1
  have x2 := HX.out.c2
  have xf := HX.out.f
  have y0 := HY.out.c0
  have y1 := HY.out.c1
  have y2 := HY.out.c2
  have yf := HY.out.f
  go_wp2_with fail
  have HC0 := Lib.hid (Kd.C_below H0.out HB.out)
  have HC1 := Lib.hid (Kd.C_below H1.out HB.out)
  refine (sector_own.calls A0 c0 s A1 c1 n f s n f _ HC0.out hc0 HC1.out hc1 ?_).mono ?_
  · unfold sector_own.f slices_Clone_string_string.f
    rw [if_pos (by omega), if_pos (by have := HN.out; omega)]; rfl
  rintro e w3 ⟨v0, v1, rfl, hR0, hR1, hb_⟩
  clear x0 x1 x2 xf y0 y1 y2 yf
  have hzo := hz
  replace HX := Lib.hid (HX.out.below hb_)
  replace HY := Lib.hid (HY.out.below hb_)
  replace hz : w.heap.size + 1 < w3.heap.size := by have := hb_.size; omega
  replace HB := Lib.hid (HB.out.trans (Below.mono hb_ HB.out.size))
  clear hb_
  obtain ⟨gn, cn, rfl, hg1, hg2, -⟩ := Kd.R_form hR1 (by have := HN.out; omega)
  obtain ⟨gs, cs, rfl, hg3, hg4, -⟩ := Kd.R_form hR0 hp
  have HO := Lib.hid (OwnD.of_two rfl HN.out hR0 hR1)
  clear hR0 hR1
  rw [HN.out]
  have x0 := HX.out.c0
  have x1 := HX.out.c1
  have x2 := HX.out.c2
  have xf := HX.out.f
  have y0 := HY.out.c0
  have y1 := HY.out.c1
  have y2 := HY.out.c2
  have yf := HY.out.f
  go_wp2_with fail
  clear x0 x1 x2 xf y0 y1 y2 yf
  replace HO := Lib.hid (((HO.out.other (p := ⟨w.heap.size, 0, none⟩) (by show w.heap.size < _; omega) (.slice (some ⟨gs, 0, none⟩) s.length cs)).other (p := ⟨w.heap.size, 1, none⟩) (by show w.heap.size < _; omega) (.slice (some ⟨gn, 0, none⟩) s.length cn)).other (p := ⟨w.heap.size, 2, none⟩) (by show w.heap.size < _; omega) (.int .i64 f))
  replace HX := Lib.hid (((HX.out.set0 (.slice (some ⟨gs, 0, none⟩) s.length cs)).set1 (.slice (some ⟨gn, 0, none⟩) s.length cn)).set2 (.int .i64 f))
  replace HY := Lib.hid (((HY.out.far (p := ⟨w.heap.size, 0, none⟩) (by show w.heap.size + 1 ≠ w.heap.size; omega) (.slice (some ⟨gs, 0, none⟩) s.length cs)).far (p := ⟨w.heap.size, 1, none⟩) (by show w.heap.size + 1 ≠ w.heap.size; omega) (.slice (some ⟨gn, 0, none⟩) s.length cn)).far (p := ⟨w.heap.size, 2, none⟩) (by show w.heap.size + 1 ≠ w.heap.size; omega) (.int .i64 f))
  replace HB := Lib.hid (((HB.out.setCell (p := ⟨w.heap.size, 0, none⟩) (Nat.le_refl _) (.slice (some ⟨gs, 0, none⟩) s.length cs)).setCell (p := ⟨w.heap.size, 1, none⟩) (Nat.le_refl _) (.slice (some ⟨gn, 0, none⟩) s.length cn)).setCell (p := ⟨w.heap.size, 2, none⟩) (Nat.le_refl _) (.int .i64 f))
  generalize ((w3.setCell ⟨w.heap.size, 0, none⟩ (.slice (some ⟨gs, 0, none⟩) s.length cs)).setCell ⟨w.heap.size, 1, none⟩ (.slice (some ⟨gn, 0, none⟩) s.length cn)).setCell ⟨w.heap.size, 2, none⟩ (.int .i64 f) = w5 at HO HX HY HB ⊢
  clear hz hg2 hg4
  go_loopw [20] (fun i wr => ∃ k : Nat, k ≤ s.length ∧ i = .int .i64 k ∧ Hid (OwnD w1.heap.size s.length gs cs gn cn (syS s n k) (syN n k) wr) ∧ Hid (BoxD w.heap.size (.slice (some ⟨gs, 0, none⟩) s.length cs) (.slice (some ⟨gn, 0, none⟩) s.length cn) (.int .i64 f) wr) ∧ Hid (BoxD (w.heap.size + 1) (.slice none 0 0) (.slice none 0 0) (.int .i64 0) wr) ∧ Hid (Below w.heap.size w wr)) (fun i _ => s.length - (intOf i).toNat)
  case atStart => exact ⟨0, Nat.zero_le _, rfl, HO, HX, HY, HB⟩
  case round =>
    clear HO HX HY HB
    obtain ⟨k, hk, rfl, HO, HX, HY, HB⟩ := hrel
    by_cases hlt : k < s.length
    · obtain ⟨r, hr⟩ : ∃ r, r = nowB (rdOf ByteArray.empty (syS s n k) k) (rdOf ByteArray.empty (syN n k) k) := ⟨_, rfl⟩
      have hS1 := Lib.hid (show (syS s n k).set k r = syS s n (k + 1) by rw [hr, syS_rd s n k hlt HN.out, syN_rd n k (by have := HN.out; omega)]; exact syS_set s n k hlt HN.out)
      have hN1 := Lib.hid (syN_set n k (by have := HN.out; omega))
      obtain ⟨hgn, hgb1, hgb2⟩ := HO.out.ne
      have hgn2 : gn ≠ gs := fun e => hgn e.symm
      have e1 : gs ≠ w.heap.size := by omega
      have e2 : gn ≠ w.heap.size := by omega
      have e3 : w.heap.size ≠ gs := by omega
      have e4 : w.heap.size ≠ gn := by omega
      have e5 : w.heap.size < wr.heap.size := blk_lt HX.out
      have e6 : gs < wr.heap.size := Kd.R_lt HO.out.1 gs rfl
      have e7 : gn < wr.heap.size := Kd.R_lt HO.out.2 gn rfl
      have x0 := HX.out.c0
      have x1 := HX.out.c1
      have x2 := HX.out.c2
      have xf := HX.out.f
      have y0 := HY.out.c0
      have y1 := HY.out.c1
      have y2 := HY.out.c2
      have yf := HY.out.f
      obtain ⟨z0, z1⟩ := HO.out.cellS k hlt
      obtain ⟨z2, z3⟩ := HO.out.cellN k hlt
      have hnow := Lib.hid (now_round (f := f) HO.out hlt HX.out HY.out HB.out hr)
      clear hr
      go_wp2_with fail
      go_region_with ((refine (hnow.out _ (by first | exact (Below.refl _ _).drew | exact pw_below_drewN (Below.refl _ _) _ | exact Below.refl _ _)).mono ?_; rintro e w4 ⟨rfl, HO4', HX4', HY4', HB4', hv⟩; have HO4 := Lib.hid HO4'; have HX4 := Lib.hid HX4'; have HY4 := Lib.hid HY4'; have HB4 := Lib.hid HB4'; clear HO4' HX4' HY4' HB4'; have d0 := HX4.out.c0; have d1 := HX4.out.c1; have d2 := HX4.out.c2; have f4 := HX4.out.f; obtain ⟨t0, t1⟩ := HO4.out.cellS k hlt; obtain ⟨t2, t3⟩ := HO4.out.cellN k hlt))
      all_goals go_wp2_with fail
      all_goals
        go_roundw
        case rel =>
          refine ⟨k + 1, by omega, by go_num, ?_, Lib.hid ((HX4.out.far (p := ⟨gs, k, none⟩) e3 _).far (p := ⟨gn, k, none⟩) e4 _), Lib.hid ((HY4.out.far (p := ⟨gs, k, none⟩) (by show w.heap.size + 1 ≠ gs; omega) _).far (p := ⟨gn, k, none⟩) (by show w.heap.size + 1 ≠ gn; omega) _), Lib.hid ((HB4.out.setCell (p := ⟨gs, k, none⟩) (by show w.heap.size ≤ gs; omega) _).setCell (p := ⟨gn, k, none⟩) (by show w.heap.size ≤ gn; omega) _)⟩
          have := (HO4.out.setS k r).setN k ⟨#[]⟩
          rw [hS1.out, hN1.out] at this
          exact Lib.hid this
        case measure => simp [intOf]; omega
    · obtain rfl : k = s.length := by omega
      have hfS := Lib.hid (show syS s n s.length = nowL s n by unfold syS; rw [List.drop_length, List.append_nil, List.take_of_length_le (by rw [nowL_length s n HN.out]; exact Nat.le_refl _)])
      have hfN := Lib.hid (show syN n s.length = List.replicate s.length ⟨#[]⟩ by unfold syN; rw [← HN.out, List.drop_length, List.append_nil])
      rw [hfS.out, hfN.out] at HO
      obtain ⟨hgn, hgb1, hgb2⟩ := HO.out.ne
      have hbu := Lib.hid (burn_same f wr fu1 fu2)
      have x0 := HX.out.c0
      have x1 := HX.out.c1
      have x2 := HX.out.c2
      have xf := HX.out.f
      have y0 := HY.out.c0
      have y1 := HY.out.c1
      have y2 := HY.out.c2
      have yf := HY.out.f
      go_wp2_with fail
      refine hbu.out.mono ?_
      rintro e w' ⟨rfl, rfl⟩
      go_wp2_with fail
      refine bodyPost_ret (v := .tuple #[.agg #[.slice (some ⟨gs, 0, none⟩) s.length cs, .slice (some ⟨gn, 0, none⟩) s.length cn, .int .i64 (burnI f)], .int .i64 0]) (by simp [results, Try.results21, go_sem, x0, x1, x2, y0, y1, y2]) rfl ?_
      have hOf := (((HO.out.other (p := ⟨w.heap.size, 2, none⟩) (by show w.heap.size < _; omega) (.int .i64 (burnI f))).other (p := ⟨w.heap.size + 1, 0, none⟩) (by show w.heap.size + 1 < _; omega) (.slice (some ⟨gs, 0, none⟩) s.length cs)).other (p := ⟨w.heap.size + 1, 1, none⟩) (by show w.heap.size + 1 < _; omega) (.slice (some ⟨gn, 0, none⟩) s.length cn)).other (p := ⟨w.heap.size + 1, 2, none⟩) (by show w.heap.size + 1 < _; omega) (.int .i64 (burnI f))
      have hBf := (((HB.out.setCell (p := ⟨w.heap.size, 2, none⟩) (Nat.le_refl _) (.int .i64 (burnI f))).setCell (p := ⟨w.heap.size + 1, 0, none⟩) (Nat.le_succ _) (.slice (some ⟨gs, 0, none⟩) s.length cs)).setCell (p := ⟨w.heap.size + 1, 1, none⟩) (Nat.le_succ _) (.slice (some ⟨gn, 0, none⟩) s.length cn)).setCell (p := ⟨w.heap.size + 1, 2, none⟩) (Nat.le_succ _) (.int .i64 (burnI f))
      exact ⟨_, _, rfl, hOf.out (by omega), hBf⟩
/-- The rows of a store of the call's own, wherever they lie. -/
def OwnE (base : Nat) (v0 v1 : Value) (S N : List ByteArray) (w : World) : Prop :=
  Kd.R Kd.string 9 w base (fun k => some k ≠ v1.ownBlock ∧ base ≤ k) v0 S ∧ Kd.R Kd.string 9 w base (fun k => some k ≠ v0.ownBlock ∧ base ≤ k) v1 N
theorem OwnE.of_two {base : Nat} {v0 v1 : Value} {S N : List ByteArray} {w : World} (h0 : Kd.R Kd.string 9 w base (fun k => some k ≠ v1.ownBlock) v0 S) (h1 : Kd.R Kd.string 9 w base (fun k => some k ≠ v0.ownBlock) v1 N) : OwnE base v0 v1 S N w :=
  ⟨Kd.R_mono (Kd.R_bound h0) (fun k hk => ⟨hk.1, hk.2.1⟩), Kd.R_mono (Kd.R_bound h1) (fun k hk => ⟨hk.1, hk.2.1⟩)⟩
theorem OwnE.other {base : Nat} {v0 v1 : Value} {S N : List ByteArray} {w : World} (h : OwnE base v0 v1 S N w) {p : Addr} (hp : p.block < base) (u : Value) : OwnE base v0 v1 S N (w.setCell p u) :=
  ⟨Kd.R_far h.1 (fun k hk => by have := hk.2; omega) u, Kd.R_far h.2 (fun k hk => by have := hk.2; omega) u⟩
theorem OwnE.out {w0 w : World} {base : Nat} {v0 v1 : Value} {S N : List ByteArray} (h : OwnE base v0 v1 S N w) (hb : w0.heap.size ≤ base) : OwnDisk w0 v0 v1 S N w :=
  ⟨Kd.R_lower (Kd.R_mono h.1 (fun k hk => hk.1)) hb, Kd.R_lower (Kd.R_mono h.2 (fun k hk => hk.1)) hb⟩
set_option maxHeartbeats 2000000 in
set_option maxRecDepth 100000 in
theorem sync_nil
    (A0 : Option Addr) (c0 : Nat) (s : List ByteArray) (A1 : Option Addr) (c1 : Nat) (n : List ByteArray) (f : Int) (w : World) (hr0 : Kd.C Kd.string w A0 s.length s) (hc0 : s.length ≤ c0) (hr1 : Kd.C Kd.string w A1 n.length n) (hc1 : n.length ≤ c1)
    (hR : Sec.rightB s n f = true) (hf : f ≠ 0) (hsz : Sec.sizesB s n f = true) (hp : s.length ≤ 0) :
    Calls Try.prog 21 #[.agg #[.slice A0 s.length c0, .slice A1 n.length c1, .int .i64 f]] w (DiskPost w ((s, n, burnI f), 0)) := by
  unfold Sec.sizesB at hsz
  simp at hsz
  obtain ⟨s512, hnl, fu1, fu2⟩ := hsz
  have HN := Lib.hid hnl
  clear hnl
  have h3b : (f == 0) = false := beq_eq_false_iff_ne.2 hf
  clear hf
  have H0 := Lib.hid hr0
  have H1 := Lib.hid hr1
  have HR := Lib.hid hR
  clear hr0 hr1 hR
  go_enter Try.func21, Try.ntmps21
  go_wp2_with fail
  refine (sector_right_calls A0 c0 s A1 c1 n f _ (Kd.C_alloc (Kd.C_alloc H0.out _) _) hc0 (Kd.C_alloc (Kd.C_alloc H1.out _) _) hc1).mono ?_
  rintro e w1 ⟨rfl, hb_⟩
  rw [HR.out]
  have HX : Hid (BoxD w.heap.size (.slice A0 s.length c0) (.slice A1 n.length c1) (.int .i64 f) w1) := Lib.hid (blk_below (by rw [show (w.alloc _).alloc _ = (w.alloc _).alloc _ from rfl]; exact heap_at0 _ _ _) hb_)
  have HY : Hid (BoxD (w.heap.size + 1) (.slice none 0 0) (.slice none 0 0) (.int .i64 0) w1) := Lib.hid (blk_below (Sec.heap_at1 _ _ _) hb_)
  have hz : w.heap.size + 1 < w1.heap.size := by have := hb_.size; simp at this; omega
  have HB := Lib.hid ((((Below.refl _ _).alloc (Nat.le_refl _) _).alloc (by simp) _).trans (hb_.mono (by simp; omega)) : Below w.heap.size w w1)
  clear hb_
  have x0 := HX.out.c0
  have x1 := HX.out.c1
  have x2 := HX.out.c2
  have xf := HX.out.f
  have y0 := HY.out.c0
  have y1 := HY.out.c1
  have y2 := HY.out.c2
  have yf := HY.out.f
  go_wp2_with fail
  have HC0 := Lib.hid (Kd.C_below H0.out HB.out)
  have HC1 := Lib.hid (Kd.C_below H1.out HB.out)
  refine (sector_own.calls A0 c0 s A1 c1 n f s n f _ HC0.out hc0 HC1.out hc1 ?_).mono ?_
  · unfold sector_own.f slices_Clone_string_string.f
    rw [if_pos (by omega), if_pos (by have := HN.out; omega)]; rfl
  rintro e w3 ⟨v0, v1, rfl, hR0, hR1, hb_⟩
  clear x0 x1 x2 xf y0 y1 y2 yf
  have hzo := hz
  replace HX := Lib.hid (HX.out.below hb_)
  replace HY := Lib.hid (HY.out.below hb_)
  replace hz : w.heap.size + 1 < w3.heap.size := by have := hb_.size; omega
  replace HB := Lib.hid (HB.out.trans (Below.mono hb_ HB.out.size))
  clear hb_
  obtain ⟨Ag, cn, rfl⟩ := Kd.R_slice hR1
  obtain ⟨As, cs, rfl⟩ := Kd.R_slice hR0
  have HO := Lib.hid (OwnE.of_two hR0 hR1)
  clear hR0 hR1
  have x0 := HX.out.c0
  have x1 := HX.out.c1
  have x2 := HX.out.c2
  have xf := HX.out.f
  have y0 := HY.out.c0
  have y1 := HY.out.c1
  have y2 := HY.out.c2
  have yf := HY.out.f
  go_wp2_with fail
  clear x0 x1 x2 xf y0 y1 y2 yf
  replace HO := Lib.hid (((HO.out.other (p := ⟨w.heap.size, 0, none⟩) (by show w.heap.size < _; omega) (.slice As s.length cs)).other (p := ⟨w.heap.size, 1, none⟩) (by show w.heap.size < _; omega) (.slice Ag n.length cn)).other (p := ⟨w.heap.size, 2, none⟩) (by show w.heap.size < _; omega) (.int .i64 f))
  replace HX := Lib.hid (((HX.out.set0 (.slice As s.length cs)).set1 (.slice Ag n.length cn)).set2 (.int .i64 f))
  replace HY := Lib.hid (((HY.out.far (p := ⟨w.heap.size, 0, none⟩) (by show w.heap.size + 1 ≠ w.heap.size; omega) (.slice As s.length cs)).far (p := ⟨w.heap.size, 1, none⟩) (by show w.heap.size + 1 ≠ w.heap.size; omega) (.slice Ag n.length cn)).far (p := ⟨w.heap.size, 2, none⟩) (by show w.heap.size + 1 ≠ w.heap.size; omega) (.int .i64 f))
  replace HB := Lib.hid (((HB.out.setCell (p := ⟨w.heap.size, 0, none⟩) (Nat.le_refl _) (.slice As s.length cs)).setCell (p := ⟨w.heap.size, 1, none⟩) (Nat.le_refl _) (.slice Ag n.length cn)).setCell (p := ⟨w.heap.size, 2, none⟩) (Nat.le_refl _) (.int .i64 f))
  generalize ((w3.setCell ⟨w.heap.size, 0, none⟩ (.slice As s.length cs)).setCell ⟨w.heap.size, 1, none⟩ (.slice Ag n.length cn)).setCell ⟨w.heap.size, 2, none⟩ (.int .i64 f) = w5 at HO HX HY HB ⊢
  clear hz
  go_loopw [20] (fun i wr => i = .int .i64 0 ∧ wr = w5) (fun i _ => 0)
  case atStart => exact ⟨rfl, rfl⟩
  case round =>
    obtain ⟨rfl, rfl⟩ := hrel
    have hbu := Lib.hid (burn_same f wr fu1 fu2)
    have x0 := HX.out.c0
    have x1 := HX.out.c1
    have x2 := HX.out.c2
    have xf := HX.out.f
    have y0 := HY.out.c0
    have y1 := HY.out.c1
    have y2 := HY.out.c2
    have yf := HY.out.f
    go_wp2_with fail
    refine hbu.out.mono ?_
    rintro e w' ⟨rfl, rfl⟩
    go_wp2_with fail
    refine bodyPost_ret (v := .tuple #[.agg #[.slice As s.length cs, .slice Ag n.length cn, .int .i64 (burnI f)], .int .i64 0]) (by simp [results, Try.results21, go_sem, x0, x1, x2, y0, y1, y2]) rfl ?_
    have hOf := (((HO.out.other (p := ⟨w.heap.size, 2, none⟩) (by show w.heap.size < _; omega) (.int .i64 (burnI f))).other (p := ⟨w.heap.size + 1, 0, none⟩) (by show w.heap.size + 1 < _; omega) (.slice As s.length cs)).other (p := ⟨w.heap.size + 1, 1, none⟩) (by show w.heap.size + 1 < _; omega) (.slice Ag n.length cn)).other (p := ⟨w.heap.size + 1, 2, none⟩) (by show w.heap.size + 1 < _; omega) (.int .i64 (burnI f))
    have hBf := (((HB.out.setCell (p := ⟨w.heap.size, 2, none⟩) (Nat.le_refl _) (.int .i64 (burnI f))).setCell (p := ⟨w.heap.size + 1, 0, none⟩) (Nat.le_succ _) (.slice As s.length cs)).setCell (p := ⟨w.heap.size + 1, 1, none⟩) (Nat.le_succ _) (.slice Ag n.length cn)).setCell (p := ⟨w.heap.size + 1, 2, none⟩) (Nat.le_succ _) (.int .i64 (burnI f))
    exact ⟨_, _, rfl, hOf.out (by omega), hBf⟩
theorem sizes_right {s n : List ByteArray} {f : Int} (h : Sec.rightB s n f = true) : Sec.sizesB s n f = true := (Bool.and_eq_true_iff.1 h).1
theorem sync_calls
    (A0 : Option Addr) (c0 : Nat) (s : List ByteArray) (A1 : Option Addr) (c1 : Nat) (n : List ByteArray) (f : Int) (w : World) (hr0 : Kd.C Kd.string w A0 s.length s) (hc0 : s.length ≤ c0) (hr1 : Kd.C Kd.string w A1 n.length n) (hc1 : n.length ≤ c1)
    :
    Calls Try.prog 21 #[.agg #[.slice A0 s.length c0, .slice A1 n.length c1, .int .i64 f]] w (DiskPost w (syncR s n f)) := by
  unfold syncR
  cases hR : Sec.rightB s n f with
  | false => exact sync_bad A0 c0 s A1 c1 n f w hr0 hc0 hr1 hc1 hR
  | true =>
    rw [if_pos rfl]
    by_cases hf : f = 0
    · rw [if_pos hf]; exact sync_down A0 c0 s A1 c1 n f w hr0 hc0 hr1 hc1 hR hf
    · rw [if_neg hf]
      have hsz := sizes_right hR
      by_cases hp : 0 < s.length
      · exact sync_ok A0 c0 s A1 c1 n f w hr0 hc0 hr1 hc1 hR hf hsz hp
      · have h0 : s = [] := List.length_eq_zero_iff.1 (by omega)
        have hn : n = [] := by
          have h2 := (Bool.and_eq_true_iff.1 (Bool.and_eq_true_iff.1 hsz).2).1
          have h3 : n.length = s.length := of_decide_eq_true h2
          exact List.length_eq_zero_iff.1 (by omega)
        have := sync_nil A0 c0 s A1 c1 n f w hr0 hc0 hr1 hc1 hR hf hsz (by omega)
        have e1 : nowL s n = s := by rw [h0]; rfl
        have e2 : List.replicate s.length (⟨#[]⟩ : ByteArray) = n := by rw [h0, hn]; rfl
        rw [e1, e2]; exact this
theorem write_calls (A0 : Option Addr) (c0 : Nat) (s : List ByteArray) (A1 : Option Addr) (c1 : Nat) (n : List ByteArray) (f at_ : Int) (data : ByteArray) (w : World) (hr0 : Kd.C Kd.string w A0 s.length s) (hc0 : s.length ≤ c0) (hr1 : Kd.C Kd.string w A1 n.length n) (hc1 : n.length ≤ c1) :
    Calls Try.prog 20 #[.agg #[.slice A0 s.length c0, .slice A1 n.length c1, .int .i64 f], .int .i64 at_, .string data] w (DiskPost w (writeR s n f at_ data)) := by
  cases hR : Sec.rightB s n f with
  | false =>
    have := write_bad A0 c0 s A1 c1 n f at_ data w hr0 hc0 hr1 hc1 hR
    unfold writeR; rw [hR]; exact this
  | true =>
    by_cases hd : 58 < data.size
    · have := write_long A0 c0 s A1 c1 n f at_ data w hr0 hc0 hr1 hc1 hR hd
      unfold writeR; rw [hR, if_pos rfl, if_pos hd]; exact this
    · exact write_rest A0 c0 s A1 c1 n f at_ data w hr0 hc0 hr1 hc1 hR (by omega) (sizes_right hR)
end Go.Proofs.Ytmefdlajjbcljaa
