import Derived.Test.YtmefdlajjbcljaaSealsWalk
import Derived.Test.YtmefdlajjbcljaaKeepW
import Derived.Deep.CutRange
import Derived.Deep.CutBlock
import Derived.Deep.DeepCutAuto
import Derived.Outline
import Derived.RegionTactic
import Derived.BigRegion
namespace Go.Proofs.Ytmefdlajjbcljaa
open Go.RowKit Go.Proofs.Ytmefdlajjbcljaa.PS8 Go.Proofs.YtmefdlajjbcljaaW.PrintWords
set_option linter.unusedVariables false
set_option linter.unusedSimpArgs false

theorem tmodn (x : Int) (n : Nat) (hn : 0 < n) : -(n : Int) < x.tmod n ∧ x.tmod n < n :=
  ⟨by have := Int.lt_tmod_of_pos x (show (0 : Int) < n by omega); omega, Int.tmod_lt_of_pos x (show (0 : Int) < n by omega)⟩
theorem row2 (w : World) (t : TypeId) (x : Value) (m : Nat) : RowV t w.heap.size (List.replicate m x) (((w.alloc (.cells (Array.replicate m x) t)).alloc (.cells (Array.replicate m x) t)).drew) ∧ RowV t (w.heap.size + 1) (List.replicate m x) (((w.alloc (.cells (Array.replicate m x) t)).alloc (.cells (Array.replicate m x) t)).drew) := by
  constructor
  · unfold RowV; rw [List.toArray_replicate]; exact heap_at0 _ _ _
  · unfold RowV; rw [List.toArray_replicate]; exact Sec.heap_at1 _ _ _
theorem below2 (w : World) (o1 o2 : Obj) : Below w.heap.size w (((w.alloc o1).alloc o2).drew) := (((Below.refl _ _).alloc (Nat.le_refl _) _).alloc (by simp) _).drew
set_option maxHeartbeats 8000000 in
set_option maxRecDepth 100000 in
theorem keeps_calls (n : Int) (A : Option Addr) (c : Nat) (l : List SAct) (w : World) (hr : Kd.C kAct w A l.length l) (hc : l.length ≤ c) (hm : l.length ≤ 9223372036854775807) :
    Calls Try.prog 5 #[.int .i64 n, .slice A l.length c] w (AllTrue w) := by
  have HR := Lib.hid hr
  clear hr
  obtain ⟨t1, t2⟩ : -6 < n.tmod 6 ∧ n.tmod 6 < 6 := tmodn n 6 (by omega)
  obtain ⟨q, hq⟩ : ∃ q : Nat, (n.tmod 6 + 6) % 6 = (q : Int) := ⟨((n.tmod 6 + 6) % 6).toNat, by omega⟩
  obtain ⟨m, hm0⟩ : ∃ m : Nat, 1 + (q : Int) = (m : Int) := ⟨1 + q, by omega⟩
  have m1 : 1 ≤ m := by omega
  have m6 : m ≤ 6 := by omega
  have hw : wrap64 (n.tmod 6 + 6) = n.tmod 6 + 6 := w64 (by omega) (by omega)
  have hq2 : (n.tmod 6 + 6).tmod 6 = (q : Int) := by rw [Int.tmod_eq_emod_of_nonneg (by omega)]; exact hq
  clear t1 t2
  obtain ⟨M, hM⟩ : ∃ M : Nat, min (l.length : Int) 60 = (M : Int) := ⟨min l.length 60, by omega⟩
  have hM2 : max (M : Int) 0 = M := by omega
  have hMl : M ≤ l.length := by omega
  have hM60 : M ≤ 60 := by omega
  have hnew := Lib.hid (fun W => new_i m (-1) (by omega) (by omega) (by omega) W)
  have hms := fun W => Sec.make_strings W m (by omega)
  have hmb := fun W => Sec.make_bools W m (by omega)
  go_enter Try.func5, Try.ntmps5
  go_wp2_with fail
  refine (hnew.out _).mono ?_
  rintro e w1 ⟨A0, c0, A1, c1, rfl, ho, hb⟩
  go_upto_region 5 with fail
  obtain ⟨b, hbe⟩ : ∃ b, b = w1.heap.size := ⟨_, rfl⟩
  have hlb : w.heap.size ≤ b := by rw [hbe]; exact hb.size
  have HX : Hid (BoxD b (.slice A0 m c0) (.slice A1 m c1) (.int .i64 (-1)) (w1.alloc (.cells #[.slice A0 m c0, .slice A1 m c1, .int .i64 (-1)] 30))) := Lib.hid (by rw [hbe]; exact heap_alloc_new w1 _)
  have HB := Lib.hid (hb.alloc hb.size (.cells #[.slice A0 m c0, .slice A1 m c1, .int .i64 (-1)] 30))
  have HO : Hid (∀ gs gn gw gd, b < gs → b < gn → b < gw → b < gd → DiskF b gs gn gw gd (.slice A0 m c0) (.slice A1 m c1) (List.replicate m (sealB ⟨#[]⟩)) (List.replicate m ⟨#[]⟩) (w1.alloc (.cells #[.slice A0 m c0, .slice A1 m c1, .int .i64 (-1)] 30))) := Lib.hid (fun gs gn gw gd h1 h2 h3 h4 => (DiskF.of_own ho (fun k hk hk2 => ⟨by omega, by omega, by omega, by omega, by omega⟩)).below ((Below.refl _ _).alloc (Nat.le_refl _) _))
  have hz : (w1.alloc (.cells #[.slice A0 m c0, .slice A1 m c1, .int .i64 (-1)] 30)).heap.size = b + 1 := by simp [hbe]
  rw [← hbe]
  generalize w1.alloc (.cells #[.slice A0 m c0, .slice A1 m c1, .int .i64 (-1)] 30) = w2 at HX HB HO hz ⊢
  clear ho hb hnew hbe
  go_cut [7, 8] from 43 to 46 (fun a a2 wx => ∃ ga gb : Nat, a = .slice (some ⟨ga, 0, none⟩) m m ∧ a2 = .slice (some ⟨gb, 0, none⟩) m m ∧ ga ≠ gb ∧ b < ga ∧ b < gb ∧ Hid (RowS ga (List.replicate m ⟨#[]⟩) wx) ∧ Hid (RowS gb (List.replicate m ⟨#[]⟩) wx) ∧ Hid (Below w2.heap.size w2 wx))
  case first =>
    go_region
    all_goals go_wp2_with fail
    all_goals go_meet
    all_goals
      obtain ⟨r1, r2⟩ := row2 w2 9 (.string ⟨#[]⟩) m
      rw [hz] at r1 r2
    · exact ⟨_, _, rfl, rfl, by omega, by omega, by omega, Lib.hid (by unfold RowS; rw [List.map_replicate]; exact r1), Lib.hid (by unfold RowS; rw [List.map_replicate]; exact r2), Lib.hid (below2 _ _ _)⟩
    · exact ⟨_, _, rfl, rfl, by omega, by omega, by omega, Lib.hid (by unfold RowS; rw [List.map_replicate]; exact r2), Lib.hid (by unfold RowS; rw [List.map_replicate]; exact r1), Lib.hid (below2 _ _ _)⟩
  case rest =>
    obtain ⟨gs, gn, rfl, rfl, hsn, hbs, hbn, RS, RN, HB2⟩ := hcut
    rename_i wc
    replace HX := Lib.hid (HX.out.below HB2.out)
    replace HO : Hid (∀ gs gn gw gd, b < gs → b < gn → b < gw → b < gd → DiskF b gs gn gw gd (.slice A0 m c0) (.slice A1 m c1) (List.replicate m (sealB ⟨#[]⟩)) (List.replicate m ⟨#[]⟩) wc) := Lib.hid (fun gs gn gw gd h1 h2 h3 h4 => (HO.out gs gn gw gd h1 h2 h3 h4).below HB2.out)
    replace HB := Lib.hid (HB.out.trans (Below.mono HB2.out HB.out.size))
    have ls := RS.out.lt
    have ln := RN.out.lt
    clear HB2 hz
    go_upto_region 6 with fail
    obtain ⟨B, hB⟩ : ∃ B, B = wc.heap.size := ⟨_, rfl⟩
    rw [← hB] at ls ln
    go_cut [9, 10] from 47 to 50 (fun a a2 wx => ∃ ga gb : Nat, a = .slice (some ⟨ga, 0, none⟩) m m ∧ a2 = .slice (some ⟨gb, 0, none⟩) m m ∧ ga ≠ gb ∧ B ≤ ga ∧ B ≤ gb ∧ Hid (RowB ga (List.replicate m false) wx) ∧ Hid (RowB gb (List.replicate m false) wx) ∧ Hid (Below wc.heap.size wc wx))
    case first =>
      go_region
      all_goals go_wp2_with fail
      all_goals go_meet
      all_goals
        obtain ⟨r1, r2⟩ := row2 wc 4 (.bool false) m
        rw [hB]
      · exact ⟨_, _, rfl, rfl, by omega, by omega, by omega, Lib.hid (by unfold RowB; rw [List.map_replicate]; exact r1), Lib.hid (by unfold RowB; rw [List.map_replicate]; exact r2), Lib.hid (below2 _ _ _)⟩
      · exact ⟨_, _, rfl, rfl, by omega, by omega, by omega, Lib.hid (by unfold RowB; rw [List.map_replicate]; exact r2), Lib.hid (by unfold RowB; rw [List.map_replicate]; exact r1), Lib.hid (below2 _ _ _)⟩
    case rest =>
      obtain ⟨gw, gd, rfl, rfl, hwd, hbw, hbd, RW, RD, HB2⟩ := hcut
      have hl1 := blk_lt HX.out
      rw [← hB] at hl1
      have ap : Hid (Apart5 w b gs gn gw gd) := Lib.hid ⟨⟨hlb, by omega, by omega, by omega, by omega⟩, ⟨by omega, by omega, by omega, by omega⟩, ⟨hsn, by omega, by omega, by omega, by omega, hwd⟩⟩
      have HK := Lib.hid (show KW w b gs gn gw gd m A0 c0 A1 c1 _ _ _ _ _ _ _ from ⟨HX.out.below HB2.out, (HO.out gs gn gw gd (by omega) (by omega) (by omega) (by omega)).below HB2.out, HB.out.trans (Below.mono HB2.out HB.out.size), RS.out.below HB2.out, RN.out.below HB2.out, RW.out, RD.out⟩)
      have HI := Lib.hid (KInv.new m (by omega))
      go_wp2_with fail
      clear HX HO HB RS RN RW RD HB2
      generalize List.replicate m (sealB ⟨#[]⟩) = S0 at HK HI
      generalize List.replicate m (⟨#[]⟩ : ByteArray) = N0 at HK HI
      generalize List.replicate m false = D0 at HK HI
      clear hB ls ln hbw hbd hl1 hwd
      rename_i wd
      go_loopw [57] (fun i wr => ∃ (k : Nat) (A0 : Option Addr) (c0 : Nat) (A1 : Option Addr) (c1 : Nat) (S N sure now : List ByteArray) (wild dirty : List Bool), k ≤ M ∧ i = .int .i64 k ∧ Hid (KW w b gs gn gw gd m A0 c0 A1 c1 S N sure now wild dirty wr) ∧ Hid (KInv m S N sure now wild dirty)) (fun i _ => M - (intOf i).toNat)
      case atStart => exact ⟨0, A0, c0, A1, c1, _, _, _, _, _, _, Nat.zero_le _, rfl, HK, HI⟩
      case round =>
        clear HK HI
        obtain ⟨k, A0, c0, A1, c1, S, N, sure, now, wild, dirty, hk, rfl, HK, HI⟩ := hrel
        by_cases hlt : k < M
        · obtain ⟨ad, Ak, ck, hA, z0, z1, z2, z3, hkl, hkC⟩ := atAct HR.out (k : Int) (by omega) (by omega)
          subst hA
          rw [Int.toNat_natCast] at z0 z1 z2 z3
          replace z0 := (HK.out.below.cell (World.block_lt_of_cell? w _ z0)).trans z0
          replace z1 := (HK.out.below.cell (World.block_lt_of_cell? w _ z1)).trans z1
          replace z2 := (HK.out.below.cell (World.block_lt_of_cell? w _ z2)).trans z2
          replace z3 := (HK.out.below.cell (World.block_lt_of_cell? w _ z3)).trans z3
          generalize rdAct l (k : Int) = x at z0 z1 z2 z3 hkl hkC
          obtain ⟨x0, x1, x2, x3⟩ := x
          have hkl3 : x3.length ≤ ck := hkl
          clear hkl
          replace hkC := Lib.hid hkC
          obtain ⟨t1, t2⟩ : -5 < x0.tmod 5 ∧ x0.tmod 5 < 5 := tmodn x0 5 (by omega)
          obtain ⟨t, ht⟩ : ∃ t : Nat, (x0.tmod 5 + 5) % 5 = (t : Int) := ⟨((x0.tmod 5 + 5) % 5).toNat, by omega⟩
          have hw5 : wrap64 (x0.tmod 5 + 5) = x0.tmod 5 + 5 := w64 (by omega) (by omega)
          have ht2 : (x0.tmod 5 + 5).tmod 5 = (t : Int) := by rw [Int.tmod_eq_emod_of_nonneg (by omega)]; exact ht
          clear t1 t2
          obtain ⟨t1, t2⟩ := tmodn x1 m (by omega)
          obtain ⟨j, hj⟩ : ∃ j : Nat, (x1.tmod m + m) % m = (j : Int) := ⟨((x1.tmod m + m) % m).toNat, by have := Int.emod_nonneg (x1.tmod m + m) (show (m : Int) ≠ 0 by omega); omega⟩
          have hjm : j < m := by have := Int.emod_lt_of_pos (x1.tmod m + m) (show (0 : Int) < m by omega); omega
          have hwm : wrap64 (x1.tmod m + m) = x1.tmod m + m := w64 (by omega) (by omega)
          have hj2 : (x1.tmod m + m).tmod m = (j : Int) := by rw [Int.tmod_eq_emod_of_nonneg (by omega)]; exact hj
          have mne : (m : Int) ≠ 0 := by omega
          have mneb : ((m : Int) == 0) = false := beq_eq_false_iff_ne.2 mne
          have m0 : (0 : Int) < (m : Int) := by omega
          have hwt : wrap64 (x1.tmod m) = x1.tmod m := w64 (by omega) (by omega)
          go_upto_block 2 with fail
          have HK2 := Lib.hid (HK.out.step ((Below.refl _ _).alloc (Nat.le_refl _) (.cells #[.int .i64 x0, .int .i64 x1, .string x2, .slice Ak x3.length ck] 49)))
          have HA : Hid (RowV 49 wr.heap.size [.int .i64 x0, .int .i64 x1, .string x2, .slice Ak x3.length ck] (wr.alloc (.cells #[.int .i64 x0, .int .i64 x1, .string x2, .slice Ak x3.length ck] 49))) := Lib.hid (heap_alloc_new wr _)
          clear HK z0 z1 z2 z3 hw5 hwm hwt ht hj hj2 ht2
          obtain ⟨hb, gs_, gn_, gw_, gd_⟩ := HK2.out.lts
          clear hb gs_ gn_ gw_ gd_
          generalize hga : wr.heap.size = ga at HA ⊢
          generalize wr.alloc (.cells #[.int .i64 x0, .int .i64 x1, .string x2, .slice Ak x3.length ck] 49) = w2 at HK2 HA ⊢
          clear hga
          have HK := HK2
          clear HK2
          go_cut [14, 15, 16, 17, 18, 19, 20, 21, 22, 23, 24, 25, 26, 27, 57] from 57 to 297 (fun s14 s15 s16 s17 s18 s19 s20 s21 s22 s23 s24 s25 s26 s27 i wx => ∃ (A0 : Option Addr) (c0 : Nat) (A1 : Option Addr) (c1 : Nat) (S N sure now : List ByteArray) (wild dirty : List Bool), i = .int .i64 k ∧ Hid (KW w b gs gn gw gd m A0 c0 A1 c1 S N sure now wild dirty wx) ∧ Hid (KInv m S N sure now wild dirty))
          case first =>
            have q2 := HA.out.cell 2 (v := .string x2) rfl
            have q3 := HA.out.cell 3 (v := .slice Ak x3.length ck) rfl
            have hl := HK.out.lts
            by_cases h3 : t = 3
            · have h3x := h3
              clear h3x
              as_aux_lemma =>
                subst h3
                have h3b : (((3 : Nat) : Int) == 3) = true := rfl
                have b0 := HK.out.box.c0
                have b1 := HK.out.box.c1
                have b2 := HK.out.box.c2
                go_wp2_with fail
                clear b0 b1 b2 q2 q3
                refine (HK.out.sync HI.out).mono ?_
                rintro e w3 ⟨A2, c2, B2, e2, rfl, ho, hb_⟩
                have hs3 := hb_.size
                have HKs := Lib.hid (HK.out.step hb_)
                have HKn := Lib.hid ((HK.out.put ap.out hb_ ho).step ((Below.refl _ _).alloc (Nat.le_refl _) (.cells #[.slice A2 m c2, .slice B2 m e2, .int .i64 (-1)] 30)))
                have HIn := Lib.hid HI.out.sync
                clear ho hb_ HK
                obtain ⟨l1, l2, l3, l4, l5⟩ := HKs.out.lts
                have b0 := HKs.out.box.c0
                have b1 := HKs.out.box.c1
                have b2 := HKs.out.box.c2
                have bf := HKs.out.box.f
                go_wp2_with fail
                clear b0 b1 b2 bf l1 l2 l3 l4 l5 HKs
                obtain ⟨RS, hRS⟩ : ∃ RS, RS = KInv.sySure m sure now dirty := ⟨_, rfl⟩
                obtain ⟨RW, hRW⟩ : ∃ RW, RW = KInv.syWild m wild dirty := ⟨_, rfl⟩
                obtain ⟨RD, hRD⟩ : ∃ RD, RD = List.replicate m false := ⟨_, rfl⟩
                rw [← hRS, ← hRW, ← hRD] at HIn
                have lS := Lib.hid (show RS.length = sure.length by rw [hRS, HI.out.hs]; simp [KInv.sySure])
                have lW := Lib.hid (show RW.length = wild.length by rw [hRW, HI.out.hw]; simp [KInv.syWild])
                have lD := Lib.hid (show RD.length = dirty.length by rw [hRD, HI.out.hd]; simp)
                have HRS := Lib.hid hRS
                have HRW := Lib.hid hRW
                have HRD := Lib.hid hRD
                clear hRS hRW hRD
                generalize World.alloc _ _ = w4 at HKn ⊢
                generalize nowL S N = S2 at HKn HIn
                generalize List.replicate m (⟨#[]⟩ : ByteArray) = N2 at HKn HIn
                have h0 := HKn.out
                rw [← goL_zero RS sure, ← goL_zero RW wild, ← goL_zero RD dirty] at h0
                replace h0 := Lib.hid h0
                clear HKn
                go_loopw [109] (fun i wr => ∃ r : Nat, r ≤ m ∧ i = .int .i64 r ∧ Hid (KW w b gs gn gw gd m A2 c2 B2 e2 S2 N2 (goL RS sure r) now (goL RW wild r) (goL RD dirty r) wr)) (fun i _ => m - (intOf i).toNat)
                case atStart => exact ⟨0, Nat.zero_le _, rfl, h0⟩
                case round =>
                  clear h0
                  obtain ⟨r, hr, rfl, HK⟩ := hrel
                  by_cases hrm : r < m
                  · have ks : r < sure.length := by rw [HI.out.hs]; exact hrm
                    have kw : r < wild.length := by rw [HI.out.hw]; exact hrm
                    have kd : r < dirty.length := by rw [HI.out.hd]; exact hrm
                    have kn : r < now.length := by rw [HI.out.hn]; exact hrm
                    obtain ⟨n5, n6, n7, n8, n9, n10⟩ := ap.out.n2
                    have d0 := RowB.at _ _ _ HK.out.rd r (by rw [goL_len RD dirty r (by omega) lD.out]; exact kd)
                    rw [goL_rd false RD dirty r kd lD.out] at d0
                    have df := HK.out.rd.f
                    have s0 := RowS.at _ _ _ HK.out.rs r (by rw [goL_len RS sure r (by omega) lS.out]; exact ks)
                    have sf := HK.out.rs.f
                    have w0 := RowB.at _ _ _ HK.out.rw r (by rw [goL_len RW wild r (by omega) lW.out]; exact kw)
                    have wf := HK.out.rw.f
                    have m0' := RowS.at _ _ _ HK.out.rn r kn
                    have gD := Lib.hid (goL_set false RD dirty r kd lD.out false (by rw [HRD.out, gd_rep _ _ hrm]))
                    clear ks kw kd kn
                    cases hv : rdOf false dirty (r : Int) with
                    | true =>
                      rw [hv] at d0
                      have gS := Lib.hid (goL_set ByteArray.empty RS sure r (by rw [HI.out.hs]; exact hrm) lS.out (rdOf ByteArray.empty now (r : Int)) (by rw [HRS.out]; unfold KInv.sySure; rw [gd_map _ _ hrm, if_pos hv]))
                      have gW := Lib.hid (goL_set false RW wild r (by rw [HI.out.hw]; exact hrm) lW.out false (by rw [HRW.out]; unfold KInv.syWild; rw [gd_map _ _ hrm, if_pos hv]))
                      have HKn := ((HK.out.setS ap.out r (rdOf ByteArray.empty now (r : Int))).setW ap.out r false).setD ap.out r false
                      rw [gS.out, gW.out, gD.out] at HKn
                      replace HKn := Lib.hid HKn
                      replace hv := Lib.hid hv
                      clear HK
                      generalize rdOf ByteArray.empty now (r : Int) = y at m0' HKn
                      go_wp2_with fail
                      go_roundw
                      case rel => exact ⟨r + 1, by omega, by go_num, HKn⟩
                      case measure => simp [intOf]; omega
                    | false =>
                      rw [hv] at d0
                      have gS := Lib.hid (goL_same ByteArray.empty RS sure r (by rw [HI.out.hs]; exact hrm) lS.out (by rw [HRS.out]; unfold KInv.sySure; rw [gd_map _ _ hrm, if_neg (by rw [hv]; simp)]))
                      have gW := Lib.hid (goL_same false RW wild r (by rw [HI.out.hw]; exact hrm) lW.out (by rw [HRW.out]; unfold KInv.syWild; rw [gd_map _ _ hrm, if_neg (by rw [hv]; simp)]))
                      have HKn := HK.out.setD ap.out r false
                      rw [gD.out, gS.out, gW.out] at HKn
                      replace HKn := Lib.hid HKn
                      replace hv := Lib.hid hv
                      clear HK
                      go_wp2_with fail
                      go_roundw
                      case rel => exact ⟨r + 1, by omega, by go_num, HKn⟩
                      case measure => simp [intOf]; omega
                  · obtain rfl : r = m := by omega
                    have h9 := HK.out
                    have e1 := HI.out.hs
                    have e2 := HI.out.hw
                    have e3 := HI.out.hd
                    have f1 := goL_full RS sure lS.out
                    have f2 := goL_full RW wild lW.out
                    have f3 := goL_full RD dirty lD.out
                    rw [e1] at f1
                    rw [e2] at f2
                    rw [e3] at f3
                    rw [f1, f2, f3] at h9
                    replace h9 := Lib.hid h9
                    clear e1 e2 e3 f1 f2 f3 HK
                    go_wp2_with fail
                    go_meet
                    exact ⟨A2, c2, B2, e2, _, _, _, _, _, _, rfl, h9, HIn⟩
            · by_cases h4 : t = 4
              · have h3x := h3
                clear h3x
                as_aux_lemma =>
                  subst h4
                  have h3b : (((4 : Nat) : Int) == 3) = false := rfl
                  have h4b : (((4 : Nat) : Int) == 4) = true := rfl
                  obtain ⟨K, hK10⟩ : ∃ K : Nat, min (x3.length : Int) 10 = (K : Int) := ⟨min x3.length 10, by omega⟩
                  have hK1 : (0 : Int) ≤ (K : Int) := by omega
                  have hK2 : (K : Int) ≤ (ck : Int) := by omega
                  have hK3 : K ≤ x3.length := by omega
                  obtain ⟨keep, hkeep⟩ : ∃ keep, keep = x3.take K := ⟨_, rfl⟩
                  have hkl2 : keep.length = K := by rw [hkeep, List.length_take]; omega
                  have hkC3 : Hid (Kd.C (Kd.int .i64) w Ak K keep) := Lib.hid (by rw [← hkl2, hkeep]; exact Kd.C_take hkC.out hK3)
                  clear hkeep
                  have hcr : Hid (Calls Try.prog 22 #[.agg #[.slice A0 m c0, .slice A1 m c1, .int .i64 (-1)], .slice Ak K ck] w2 (MadeI w2 m (crL S N keep) (List.replicate m ⟨#[]⟩) (-1) 0)) := Lib.hid (by
                    have h5 := Kd.C_below hkC3.out HK.out.below
                    rw [← hkl2] at h5 ⊢
                    exact HK.out.crash HI.out h5 (by omega))
                  have hkL := Lib.hid hkl2
                  clear hkl2
                  have b0 := HK.out.box.c0
                  have b1 := HK.out.box.c1
                  have b2 := HK.out.box.c2
                  go_wp2_with fail
                  clear b0 b1 b2 q2 q3
                  refine hcr.out.mono ?_
                  rintro e w3 ⟨A2, c2, B2, e2, rfl, ho, hb_⟩
                  have hs3 := hb_.size
                  have HKs := Lib.hid (HK.out.step hb_)
                  have HKn := Lib.hid ((HK.out.put ap.out hb_ ho).step ((Below.refl _ _).alloc (Nat.le_refl _) (.cells #[.slice A2 m c2, .slice B2 m e2, .int .i64 (-1)] 30)))
                  have HIn := Lib.hid (HI.out.crash keep)
                  clear ho hb_ HK hcr
                  obtain ⟨l1, l2, l3, l4, l5⟩ := HKs.out.lts
                  have b0 := HKs.out.box.c0
                  have b1 := HKs.out.box.c1
                  have b2 := HKs.out.box.c2
                  have bf := HKs.out.box.f
                  go_wp2_with fail
                  clear b0 b1 b2 bf l1 l2 l3 l4 l5 HKs
                  obtain ⟨RS, hRS⟩ : ∃ RS, RS = (List.range m).map fun k => (KInv.crF S N sure now wild dirty keep k).1 := ⟨_, rfl⟩
                  obtain ⟨RN, hRN⟩ : ∃ RN, RN = (List.range m).map fun k => (KInv.crF S N sure now wild dirty keep k).2.1 := ⟨_, rfl⟩
                  obtain ⟨RW, hRW⟩ : ∃ RW, RW = (List.range m).map fun k => (KInv.crF S N sure now wild dirty keep k).2.2 := ⟨_, rfl⟩
                  obtain ⟨RD, hRD⟩ : ∃ RD, RD = List.replicate m false := ⟨_, rfl⟩
                  rw [← hRS, ← hRN, ← hRW, ← hRD] at HIn
                  have lS := Lib.hid (show RS.length = sure.length by rw [hRS, HI.out.hs]; simp)
                  have lN := Lib.hid (show RN.length = now.length by rw [hRN, HI.out.hn]; simp)
                  have lW := Lib.hid (show RW.length = wild.length by rw [hRW, HI.out.hw]; simp)
                  have lD := Lib.hid (show RD.length = dirty.length by rw [hRD, HI.out.hd]; simp)
                  have HRS := Lib.hid (show ∀ r, r < m → rdOf ByteArray.empty RS (r : Int) = (KInv.crF S N sure now wild dirty keep r).1 by intro r hr; rw [hRS, gd_map _ _ hr])
                  have HRN := Lib.hid (show ∀ r, r < m → rdOf ByteArray.empty RN (r : Int) = (KInv.crF S N sure now wild dirty keep r).2.1 by intro r hr; rw [hRN, gd_map _ _ hr])
                  have HRW := Lib.hid (show ∀ r, r < m → rdOf false RW (r : Int) = (KInv.crF S N sure now wild dirty keep r).2.2 by intro r hr; rw [hRW, gd_map _ _ hr])
                  have HRD := Lib.hid (show ∀ r, r < m → rdOf false RD (r : Int) = false by intro r hr; rw [hRD, gd_rep _ _ hr])
                  clear hRS hRN hRW hRD
                  generalize World.alloc _ _ = w4 at HKn ⊢
                  have h0 := HKn.out
                  rw [← goL_zero RS sure, ← goL_zero RN now, ← goL_zero RW wild, ← goL_zero RD dirty] at h0
                  replace h0 := Lib.hid h0
                  clear HKn
                  go_loopw [20, 149] (fun cn i wr => ∃ r : Nat, r ≤ m ∧ i = .int .i64 r ∧ cn = .int .i64 (cntD dirty r) ∧ Hid (KW w b gs gn gw gd m A2 c2 B2 e2 (crL S N keep) (List.replicate m ⟨#[]⟩) (goL RS sure r) (goL RN now r) (goL RW wild r) (goL RD dirty r) wr)) (fun _ i _ => m - (intOf i).toNat)
                  case atStart => exact ⟨0, Nat.zero_le _, rfl, rfl, h0⟩
                  case round =>
                    clear h0
                    obtain ⟨r, hr, rfl, rfl, HK⟩ := hrel
                    by_cases hrm : r < m
                    · have ks : r < sure.length := by rw [HI.out.hs]; exact hrm
                      have kn : r < now.length := by rw [HI.out.hn]; exact hrm
                      have kw : r < wild.length := by rw [HI.out.hw]; exact hrm
                      have kd : r < dirty.length := by rw [HI.out.hd]; exact hrm
                      obtain ⟨n5, n6, n7, n8, n9, n10⟩ := ap.out.n2
                      have d0 := RowB.at _ _ _ HK.out.rd r (by rw [goL_len RD dirty r (by omega) lD.out]; exact kd)
                      rw [goL_rd false RD dirty r kd lD.out] at d0
                      have df := HK.out.rd.f
                      have s0 := RowS.at _ _ _ HK.out.rs r (by rw [goL_len RS sure r (by omega) lS.out]; exact ks)
                      rw [goL_rd ByteArray.empty RS sure r ks lS.out] at s0
                      have sf := HK.out.rs.f
                      have y0 := RowS.at _ _ _ HK.out.rn r (by rw [goL_len RN now r (by omega) lN.out]; exact kn)
                      rw [goL_rd ByteArray.empty RN now r kn lN.out] at y0
                      have yf := HK.out.rn.f
                      have v0 := RowB.at _ _ _ HK.out.rw r (by rw [goL_len RW wild r (by omega) lW.out]; exact kw)
                      rw [goL_rd false RW wild r kw lW.out] at v0
                      have vf := HK.out.rw.f
                      have hcl : (cntD dirty r : Int) ≤ 6 := by have := cntD_le dirty r; omega
                      have hcs := Lib.hid (cntD_succ dirty r kd)
                      have gS := Lib.hid (fun x hx => goL_set ByteArray.empty RS sure r ks lS.out x hx)
                      have gN := Lib.hid (fun x hx => goL_set ByteArray.empty RN now r kn lN.out x hx)
                      have gW := Lib.hid (fun x hx => goL_set false RW wild r kw lW.out x hx)
                      have gD := Lib.hid (goL_set false RD dirty r kd lD.out false (HRD.out r hrm).symm)
                      have eS := Lib.hid (fun hx => goL_same ByteArray.empty RS sure r ks lS.out hx)
                      have eN := Lib.hid (fun hx => goL_same ByteArray.empty RN now r kn lN.out hx)
                      have eW := Lib.hid (fun hx => goL_same false RW wild r kw lW.out hx)
                      have eD := Lib.hid (fun hx => goL_same false RD dirty r kd lD.out hx)
                      have hF : Hid (KInv.crF S N sure now wild dirty keep r = KInv.crK (rdOf ByteArray.empty (crL S N keep) (r : Int)) (rdOf ByteArray.empty sure (r : Int)) (rdOf ByteArray.empty now (r : Int)) (rdOf false wild (r : Int)) (rdOf false dirty (r : Int)) (keepAt keep (cntD dirty r))) := Lib.hid rfl
                      have fS := Lib.hid (HRS.out r hrm)
                      have fN := Lib.hid (HRN.out r hrm)
                      have fW := Lib.hid (HRW.out r hrm)
                      have fD := Lib.hid (HRD.out r hrm)
                      clear ks kn kw kd
                      generalize hgs : rdOf ByteArray.empty sure (r : Int) = sv at s0 hF eS
                      generalize hgn : rdOf ByteArray.empty now (r : Int) = nv at y0 hF eN
                      generalize hgw : rdOf false wild (r : Int) = wv at v0 hF eW
                      clear hgs hgn hgw
                      cases hv : rdOf false dirty (r : Int) with
                      | false =>
                        as_aux_lemma =>
                          rw [hv] at d0 hF hcs eD
                          have hF2 := hF.out
                          unfold KInv.crK at hF2
                          rw [if_pos rfl] at hF2
                          rw [fD.out] at eD
                          rw [fS.out, hF2] at eS
                          rw [fW.out, hF2] at eW
                          rw [fN.out, hF2] at gN
                          have HKn := HK.out.setN ap.out r sv
                          rw [gN.out sv rfl, eS.out rfl, eW.out rfl, eD.out rfl] at HKn
                          replace HKn := Lib.hid HKn
                          replace hv := Lib.hid hv
                          clear hF2 HK
                          go_wp2_with fail
                          go_roundw
                          case rel => exact ⟨r + 1, by omega, by go_num, by rw [hcs.out]; go_num, HKn⟩
                          case measure => simp [intOf]; omega
                      | true =>
                        as_aux_lemma =>
                          rw [hv] at d0 hF hcs
                          replace hv := Lib.hid hv
                          clear eD
                          obtain ⟨o, ho⟩ : ∃ o, o = keepAt keep (cntD dirty r) := ⟨_, rfl⟩
                          rw [← ho] at hF
                          have ho64 : o ≤ 64 := by rw [ho]; exact keepAt_le _ _
                          replace ho := Lib.hid ho
                          go_upto_if 167 with fail
                          go_cut [22, 149] from 149 to 262 (fun a i wx => a = .int .i64 (o : Int) ∧ i = .int .i64 r ∧ wx = wr)
                          case first =>
                            by_cases hq : cntD dirty r < K
                            · obtain ⟨ad2, hA2, hck⟩ := Kd.at_int (Kd.C_below hkC3.out HK.out.below) (cntD dirty r : Int) (by omega) (by omega)
                              subst hA2
                              rw [Int.toNat_natCast] at hck
                              obtain ⟨x, hx⟩ : ∃ x, x = rd keep (cntD dirty r : Int) := ⟨_, rfl⟩
                              rw [← hx] at hck
                              have hkx : o = (x % 65).toNat := by rw [ho.out, hx]; unfold keepAt rd; simp
                              clear hx
                              obtain ⟨u1, u2⟩ : -65 < x.tmod 65 ∧ x.tmod 65 < 65 := tmodn x 65 (by omega)
                              have u3 : wrap64 (x.tmod 65 + 65) = x.tmod 65 + 65 := w64 (by omega) (by omega)
                              have u4 : (x.tmod 65 + 65).tmod 65 = (o : Int) := by
                                rw [Int.tmod_eq_emod_of_nonneg (by omega), hkx]
                                rcases tmod65 x with ⟨h5, h6⟩ | ⟨h5, h6⟩ <;> omega
                              have u5 : (x.tmod 65 + 65) % 65 = (o : Int) := by rw [← Int.tmod_eq_emod_of_nonneg (by omega)]; exact u4
                              replace hkx := Lib.hid hkx
                              clear u1 u2
                              go_wp2_with fail
                              go_meet
                              exact ⟨by first | rfl | go_num, rfl, rfl⟩
                            · have hm0 : o = 0 := by rw [ho.out]; unfold keepAt; rw [List.getD_eq_getElem?_getD, List.getElem?_eq_none (by have := hkL.out; omega)]; rfl
                              replace hm0 := Lib.hid hm0
                              go_wp2_with fail
                              go_meet
                              exact ⟨by rw [hm0.out]; rfl, rfl, rfl⟩
                          case rest =>
                            obtain ⟨rfl, rfl, hw_⟩ := hcut
                            have hw2_ := hw_.symm
                            clear hw_
                            subst hw2_
                            have hrd := HK.out.read HIn.out.hS HIn.out.right r hrm
                            rw [rd_rep _ hrm, show nowB (rdOf ByteArray.empty (crL S N keep) (r : Int)) ⟨#[]⟩ = rdOf ByteArray.empty (crL S N keep) (r : Int) by unfold nowB; rw [if_pos ((size_toList _).2 rfl)]] at hrd
                            replace hrd := Lib.hid hrd
                            have b0 := HK.out.box.c0
                            have b1 := HK.out.box.c1
                            have b2 := HK.out.box.c2
                            obtain ⟨l1, l2, l3, l4, l5⟩ := HK.out.lts
                            clear df sf yf vf
                            go_wp2_with fail
                            clear b0 b1 b2
                            refine hrd.out.mono ?_
                            rintro e w9 ⟨rfl, hb_⟩
                            clear hrd
                            obtain ⟨hc9, hf9⟩ := bcell hb_
                            clear hf9
                            replace d0 := (hc9 gd r l5).trans d0
                            replace s0 := (hc9 gs r l2).trans s0
                            replace y0 := (hc9 gn r l3).trans y0
                            replace v0 := (hc9 gw r l4).trans v0
                            clear hc9 l1 l2 l3 l4 l5
                            replace HK := Lib.hid (HK.out.step hb_)
                            clear hb_
                            have df := HK.out.rd.f
                            have sf := HK.out.rs.f
                            have yf := HK.out.rn.f
                            have vf := HK.out.rw.f
                            have hF2 := hF.out
                            unfold KInv.crK at hF2
                            rw [if_neg (by simp)] at hF2
                            generalize openB (rdOf ByteArray.empty (crL S N keep) (r : Int)) = O at hF2 ⊢
                            obtain ⟨o1, o2⟩ := O
                            dsimp only at hF2
                            replace hF2 := Lib.hid hF2
                            clear hF
                            by_cases q0 : o = 0
                            · as_aux_lemma =>
                                subst q0
                                have hF3 := hF2.out
                                rw [if_pos rfl] at hF3
                                rw [fS.out, hF3] at eS
                                rw [fW.out, hF3] at eW
                                rw [fN.out, hF3] at gN
                                have HKn := (HK.out.setN ap.out r sv).setD ap.out r false
                                rw [gN.out sv rfl, eS.out rfl, eW.out rfl, gD.out] at HKn
                                clear hF3
                                replace HKn := Lib.hid HKn
                                clear HK
                                go_wp2_with fail
                                go_roundw
                                case rel => exact ⟨r + 1, by omega, by go_num, by rw [hcs.out]; go_num, HKn⟩
                                case measure => simp [intOf]; omega
                            · have q0b : ((o : Int) == 0) = false := beq_eq_false_iff_ne.2 (by omega)
                              by_cases q64 : o = 64
                              · as_aux_lemma =>
                                  subst q64
                                  have hF3 := hF2.out
                                  rw [if_neg (by omega), if_pos rfl] at hF3
                                  rw [fS.out, hF3] at gS
                                  rw [fW.out, hF3] at gW
                                  rw [fN.out, hF3] at eN
                                  have HKn := ((HK.out.setS ap.out r nv).setW ap.out r false).setD ap.out r false
                                  rw [gS.out nv rfl, gW.out false rfl, eN.out rfl, gD.out] at HKn
                                  clear hF3
                                  replace HKn := Lib.hid HKn
                                  clear HK
                                  go_wp2_with fail
                                  go_roundw
                                  case rel => exact ⟨r + 1, by omega, by go_num, by rw [hcs.out]; go_num, HKn⟩
                                  case measure => simp [intOf]; omega
                              · have q64b : ((o : Int) == 64) = false := beq_eq_false_iff_ne.2 (by omega)
                                by_cases k0 : o2 = 0
                                · subst k0
                                  by_cases k1 : o1 = nv
                                  · as_aux_lemma =>
                                      subst k1
                                      have hF3 := hF2.out
                                      rw [if_neg q0, if_neg q64, if_pos ⟨rfl, rfl⟩] at hF3
                                      rw [fS.out, hF3] at gS
                                      rw [fW.out, hF3] at gW
                                      rw [fN.out, hF3] at eN
                                      have HKn := ((HK.out.setS ap.out r o1).setW ap.out r false).setD ap.out r false
                                      rw [gS.out o1 rfl, gW.out false rfl, eN.out rfl, gD.out] at HKn
                                      clear hF3
                                      have hse := str_eq (rfl : o1 = o1)
                                      replace HKn := Lib.hid HKn
                                      clear HK
                                      go_wp2_with fail
                                      go_roundw
                                      case rel => exact ⟨r + 1, by omega, by go_num, by rw [hcs.out]; go_num, HKn⟩
                                      case measure => simp [intOf]; omega
                                  · have k1b := (Lib.bytes_beq_false_iff o1 nv).2 k1
                                    by_cases k2 : o1 = sv ∧ wv = false
                                    · as_aux_lemma =>
                                        obtain ⟨k2a, k2b⟩ := k2
                                        subst k2a
                                        subst k2b
                                        have hF3 := hF2.out
                                        rw [if_neg q0, if_neg q64, if_neg (fun h => k1 h.2), if_pos ⟨rfl, rfl, rfl⟩] at hF3
                                        rw [fS.out, hF3] at eS
                                        rw [fW.out, hF3] at eW
                                        rw [fN.out, hF3] at gN
                                        have HKn := (HK.out.setN ap.out r o1).setD ap.out r false
                                        rw [gN.out o1 rfl, eS.out rfl, eW.out rfl, gD.out] at HKn
                                        clear hF3
                                        replace k1 := Lib.hid k1
                                        have hse := str_eq (rfl : o1 = o1)
                                        replace HKn := Lib.hid HKn
                                        clear HK
                                        go_wp2_with fail
                                        go_roundw
                                        case rel => exact ⟨r + 1, by omega, by go_num, by rw [hcs.out]; go_num, HKn⟩
                                        case measure => simp [intOf]; omega
                                    · have hF3 := hF2.out
                                      rw [if_neg q0, if_neg q64, if_neg (fun h => k1 h.2), if_neg (fun h => k2 h.2), if_pos rfl] at hF3
                                      rw [fS.out, hF3] at gS
                                      rw [fW.out, hF3] at gW
                                      rw [fN.out, hF3] at gN
                                      have HKn := (((HK.out.setW ap.out r true).setS ap.out r o1).setN ap.out r o1).setD ap.out r false
                                      rw [gS.out o1 rfl, gW.out true rfl, gN.out o1 rfl, gD.out] at HKn
                                      replace HKn := Lib.hid HKn
                                      clear hF3
                                      replace k1 := Lib.hid k1
                                      by_cases k3 : o1 = sv
                                      · as_aux_lemma =>
                                          have k4 : wv = true := by cases wv with | true => rfl
                                                                                  | false => exact absurd ⟨k3, rfl⟩ k2
                                          subst k3
                                          subst k4
                                          clear k2 HK
                                          have hse := str_eq (rfl : o1 = o1)
                                          go_wp2_with fail
                                          go_roundw
                                          case rel => exact ⟨r + 1, by omega, by go_num, by rw [hcs.out]; go_num, HKn⟩
                                          case measure => simp [intOf]; omega
                                      · as_aux_lemma =>
                                          have k3b := (Lib.bytes_beq_false_iff o1 sv).2 k3
                                          replace k3 := Lib.hid k3
                                          clear k2 HK
                                          go_wp2_with fail
                                          go_roundw
                                          case rel => exact ⟨r + 1, by omega, by go_num, by rw [hcs.out]; go_num, HKn⟩
                                          case measure => simp [intOf]; omega
                                · as_aux_lemma =>
                                    have k0b : (o2 == 0) = false := beq_eq_false_iff_ne.2 k0
                                    have hF3 := hF2.out
                                    rw [if_neg q0, if_neg q64, if_neg (fun h => k0 h.1), if_neg (fun h => k0 h.1), if_neg k0] at hF3
                                    rw [fS.out, hF3] at eS
                                    rw [fW.out, hF3] at gW
                                    rw [fN.out, hF3] at eN
                                    have HKn := (HK.out.setW ap.out r true).setD ap.out r false
                                    rw [eS.out rfl, gW.out true rfl, eN.out rfl, gD.out] at HKn
                                    clear hF3
                                    replace k0 := Lib.hid k0
                                    replace HKn := Lib.hid HKn
                                    clear HK
                                    go_wp2_with fail
                                    go_roundw
                                    case rel => exact ⟨r + 1, by omega, by go_num, by rw [hcs.out]; go_num, HKn⟩
                                    case measure => simp [intOf]; omega
                    · obtain rfl : r = m := by omega
                      have h9 := HK.out
                      have e1 := HI.out.hs
                      have e2 := HI.out.hw
                      have e3 := HI.out.hd
                      have e4 := HI.out.hn
                      have f1 := goL_full RS sure lS.out
                      have f2 := goL_full RW wild lW.out
                      have f3 := goL_full RD dirty lD.out
                      have f4 := goL_full RN now lN.out
                      rw [e1] at f1
                      rw [e2] at f2
                      rw [e3] at f3
                      rw [e4] at f4
                      rw [f1, f2, f3, f4] at h9
                      replace h9 := Lib.hid h9
                      clear e1 e2 e3 e4 f1 f2 f3 f4 HK
                      go_wp2_with fail
                      go_meet
                      exact ⟨A2, c2, B2, e2, _, _, _, _, _, _, rfl, h9, HIn⟩
              · have h3x := h3
                clear h3x
                as_aux_lemma =>
                  have h3b : ((t : Int) == 3) = false := beq_eq_false_iff_ne.2 (by omega)
                  have h4b : ((t : Int) == 4) = false := beq_eq_false_iff_ne.2 (by omega)
                  have hsl : (x2.extract 0 (min (x2.size : Int) 58).toNat).size ≤ 58 := by rw [ByteArray.size_extract]; omega
                  have b0 := HK.out.box.c0
                  have b1 := HK.out.box.c1
                  have b2 := HK.out.box.c2
                  go_wp2_with fail
                  clear b0 b1 b2 q2 q3
                  generalize x2.extract 0 (min (x2.size : Int) 58).toNat = y at hsl ⊢
                  refine (HK.out.write HI.out j hjm y hsl).mono ?_
                  rintro e w3 ⟨A2, c2, B2, e2, rfl, ho, hb_⟩
                  have hs3 := hb_.size
                  have HKs := Lib.hid (HK.out.step hb_)
                  have HKn := Lib.hid ((((HK.out.put ap.out hb_ ho).setN ap.out j y).setD ap.out j true).step ((Below.refl _ _).alloc (Nat.le_refl _) (.cells #[.slice A2 m c2, .slice B2 m e2, .int .i64 (-1)] 30)))
                  have HIn := Lib.hid (HI.out.write j hjm y hsl)
                  clear ho hb_ HK
                  obtain ⟨l1, l2, l3, l4, l5⟩ := HKs.out.lts
                  obtain ⟨n1, n2, n3, n4⟩ := ap.out.n1
                  obtain ⟨n5, n6, n7, n8, n9, n10⟩ := ap.out.n2
                  have b0 := HKs.out.box.c0
                  have b1 := HKs.out.box.c1
                  have b2 := HKs.out.box.c2
                  have bf := HKs.out.box.f
                  have r0 := RowS.at _ _ _ HKs.out.rn j (by rw [HI.out.hn]; exact hjm)
                  have rf := HKs.out.rn.f
                  have d0 := RowB.at _ _ _ HKs.out.rd j (by rw [HI.out.hd]; exact hjm)
                  have df := HKs.out.rd.f
                  go_wp2_with fail
                  go_meet
                  exact ⟨A2, c2, B2, e2, _, _, _, _, _, _, rfl, HKn, HIn⟩
          case rest =>
            as_aux_lemma =>
              obtain ⟨A2, c2, B2, e2, S2, N2, sure2, now2, wild2, dirty2, rfl, HK2, HI2⟩ := hcut
              have hdisk := Lib.hid (show Below w.heap.size w _ from HK2.out.below)
              clear HK HI HA
              go_wp2_with fail
              go_loopw [264] (fun i wr => ∃ r : Nat, r ≤ m ∧ i = .int .i64 r ∧ Hid (KW w b gs gn gw gd m A2 c2 B2 e2 S2 N2 sure2 now2 wild2 dirty2 wr)) (fun i _ => m - (intOf i).toNat)
              case atStart => exact ⟨0, Nat.zero_le _, rfl, HK2⟩
              case round =>
                clear HK2 hdisk
                obtain ⟨r, hr, rfl, HK⟩ := hrel
                by_cases hrm : r < m
                · have hrd := Lib.hid (HK.out.read HI2.out.hS HI2.out.right r hrm)
                  have hck := Lib.hid (HI2.out.check r hrm)
                  have b0 := HK.out.box.c0
                  have b1 := HK.out.box.c1
                  have b2 := HK.out.box.c2
                  go_wp2_with fail
                  clear b0 b1 b2
                  refine hrd.out.mono ?_
                  rintro e w9 ⟨rfl, hb_⟩
                  clear hrd
                  replace HK := Lib.hid (HK.out.step hb_)
                  clear hb_
                  have d0 := RowB.at _ _ _ HK.out.rd r (by rw [HI2.out.hd]; exact hrm)
                  have w0 := RowB.at _ _ _ HK.out.rw r (by rw [HI2.out.hw]; exact hrm)
                  have m0' := RowS.at _ _ _ HK.out.rn r (by rw [HI2.out.hn]; exact hrm)
                  generalize openB (nowB (rdOf ByteArray.empty S2 (r : Int)) (rdOf ByteArray.empty N2 (r : Int))) = O at hck ⊢
                  obtain ⟨o1, o2⟩ := O
                  generalize rdOf false dirty2 (r : Int) = v1 at d0 hck
                  generalize rdOf false wild2 (r : Int) = v2 at w0 hck
                  generalize rdOf ByteArray.empty now2 (r : Int) = y at m0' hck
                  by_cases hc : v1 = true ∨ v2 = false
                  · have h7 := hck.out hc
                    obtain rfl : o1 = y := congrArg Prod.fst h7
                    obtain rfl : o2 = 0 := congrArg Prod.snd h7
                    clear h7 hck
                    have hne := str_ne (rfl : o1 = o1)
                    cases v1 with
                    | true =>
                      clear hc
                      go_wp2_with fail
                      go_roundw
                      case rel => exact ⟨r + 1, by omega, by go_num, HK⟩
                      case measure => simp [intOf]; omega
                    | false =>
                      obtain rfl : v2 = false := by rcases hc with h8 | h8; · cases h8
                                                    · exact h8
                      clear hc
                      go_wp2_with fail
                      go_roundw
                      case rel => exact ⟨r + 1, by omega, by go_num, HK⟩
                      case measure => simp [intOf]; omega
                  · obtain rfl : v1 = false := by cases v1 with | true => exact absurd (Or.inl rfl) hc
                                                                | false => rfl
                    obtain rfl : v2 = true := by cases v2 with | false => exact absurd (Or.inr rfl) hc
                                                               | true => rfl
                    clear hc hck
                    go_wp2_with fail
                    go_roundw
                    case rel => exact ⟨r + 1, by omega, by go_num, HK⟩
                    case measure => simp [intOf]; omega
                · obtain rfl : r = m := by omega
                  go_wp2_with fail
                  go_roundw
                  case rel => exact ⟨k + 1, A2, c2, B2, e2, S2, N2, sure2, now2, wild2, dirty2, by omega, by go_num, HK, HI2⟩
                  case measure => simp [intOf]; omega
        · obtain rfl : k = M := by omega
          have HB := Lib.hid HK.out.below
          go_wp2_with fail
          refine (alive_calls _).mono ?_
          rintro e w' ⟨rfl, hb_⟩
          go_wp2_with fail
          go_ret
          exact ⟨rfl, HB.out.trans (Below.mono hb_ HB.out.size)⟩
end Go.Proofs.Ytmefdlajjbcljaa
