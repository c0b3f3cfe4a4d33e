/-
  Lemmas for the last text of this claim, merged out of several texts.
-/
import Derived.Test.YtldpnmebjnkjeaaDoorCkD
namespace Go.Proofs.YtldpnmebjnkjeaaDoor.TrW
open Go.RowKit Go.Proofs.YtldpnmebjnkjeaaDoorW.PrintWords Go.Proofs.YtldpnmebjnkjeaaDoor.PH1 Go.Proofs.YtldpnmebjnkjeaaDoor Go.Proofs.YtldpnmebjnkjeaaDoorW.PrintLast Go.Proofs.YtldpnmebjnkjeaaDoorW.PrintMore
open Go.Proofs.YtldpnmebjnkjeaaDoor.Sha
set_option linter.unusedVariables false
set_option linter.unusedSimpArgs false

theorem bridge_le (l : List (List UInt8)) (m : Nat) (b : Bool) (h : m ≤ l.length) (h1 : 1 ≤ m) : (Tr.bridge alg l m b).length ≤ l.length + 1 := by
  rw [Tr.bridge_len alg l.length l m b (Nat.le_refl _)]
  have := way_le l.length m l.length (Nat.le_refl _)
  split <;> omega
set_option maxHeartbeats 4000000 in
set_option maxRecDepth 100000 in
theorem tBridge_arg (A : Option Addr) (c : Nat) (L : List ByteArray) (m : Int) (w : World) (hC : Kd.C Kd.string w A L.length L) (hw : wrongN L = 0) (hi : m < 1 ∨ (L.length : Int) < m) :
    Calls Tryd.prog 34 #[.slice A L.length c, .int .i64 m] w fun e w' => e = .returned (.tuple #[.slice none 0 0, .int .i64 1]) ∧ Below w.heap.size w w' := by
  have hcall := fun W hW => twrong_calls A c L W hW
  rw [hw] at hcall
  replace hcall := Lib.hid hcall
  replace hC := Lib.hid hC
  clear hw
  by_cases h0 : m < 1
  · replace hi := Lib.hid hi
    go_enter Tryd.func34, Tryd.ntmps34
    go_wp2_with fail
    refine (hcall.out w hC.out).mono ?_
    rintro e w2 ⟨rfl, hb⟩
    replace hb := Lib.hid hb
    clear hcall
    go_wp2_with fail
    go_ret2
    exact ⟨rfl, hb.out⟩
  · have h1 : (L.length : Int) < m := by omega
    have h0b : decide (m < 1) = false := by rw [decide_eq_false_iff_not]; exact h0
    replace hi := Lib.hid hi
    go_enter Tryd.func34, Tryd.ntmps34
    go_wp2_with fail
    refine (hcall.out w hC.out).mono ?_
    rintro e w2 ⟨rfl, hb⟩
    replace hb := Lib.hid hb
    clear hcall
    go_wp2_with fail
    go_ret2
    exact ⟨rfl, hb.out⟩
set_option maxHeartbeats 8000000 in
set_option maxRecDepth 100000 in
theorem tBridge_ok (A : Option Addr) (c : Nat) (L : List ByteArray) (m0 : Nat) (w : World) (hC : Kd.C Kd.string w A L.length L) (hc : L.length ≤ c) (hw : wrongN L = 0) (hi0 : 1 ≤ m0) (hi : m0 ≤ L.length) (hK : KAt w) :
    Calls Tryd.prog 34 #[.slice A L.length c, .int .i64 (m0 : Int)] w fun e w' => ∃ v, e = .returned (.tuple #[v, .int .i64 0]) ∧ RD w.heap.size v (Tr.bridge alg (bl L) m0 true).reverse w' ∧ Below w.heap.size w w' := by
  have hL := (wrong_ok hw).1
  have hS := Lib.hid (small_of (wrong_ok hw).2)
  have hcall := fun W hW => twrong_calls A c L W hW
  rw [hw] at hcall
  have hple : Hid ((Tr.bridge alg (bl L) m0 true).length ≤ 1025) := by
    have := bridge_le (bl L) m0 true (by rw [bl_len]; exact hi) hi0
    rw [bl_len] at this
    exact Lib.hid (by omega)
  obtain ⟨F, hF⟩ : ∃ F, F = Tr.bridge alg (bl L) m0 true := ⟨_, rfl⟩
  have HP : Hid ([] ++ Tr.bridge alg (bl L) m0 true = F) := Lib.hid hF.symm
  rw [← hF] at hple ⊢
  replace hF := Lib.hid hF
  replace hcall := Lib.hid hcall
  replace hC := Lib.hid hC
  replace hK := Lib.hid hK
  clear hw
  have hd1 : decide ((m0 : Int) < 1) = false := by rw [decide_eq_false_iff_not]; omega
  have hd2 : decide (L.length < m0) = false := by rw [decide_eq_false_iff_not]; omega
  go_enter Tryd.func34, Tryd.ntmps34
  go_wp2_with fail
  refine (hcall.out w hC.out).mono ?_
  rintro e w2 ⟨rfl, hb⟩
  have HB := Lib.hid hb
  have HO : Hid (RD w.heap.size (.slice none 0 0) [] w2) := Lib.hid (Kd.R_nil _ _ _ _ _)
  clear hb hcall
  go_wp2_with fail
  go_loopw [0, 1, 7, 8] (fun a b v wh wx => ∃ (A1 : Option Addr) (c1 : Nat) (L1 : List ByteArray) (m : Nat) (xs : List (List UInt8)) (u : Value) (bb : Bool), a = .slice A1 L1.length c1 ∧ b = .int .i64 m ∧ u = v ∧ wh = .bool bb ∧ L1.length ≤ c1 ∧ 1 ≤ m ∧ m ≤ L1.length ∧ L1.length ≤ 1024 ∧ Hid (Small L1) ∧ Hid (Kd.C Kd.string w A1 L1.length L1) ∧ Hid (xs ++ Tr.bridge alg (bl L1) m bb = F) ∧ Hid (RD w.heap.size u xs wx) ∧ Hid (Below w.heap.size w wx)) (fun a _ _ _ _ => slen a)
  case atStart => exact ⟨A, c, L, m0, [], _, true, rfl, rfl, rfl, rfl, hc, hi0, hi, hL, hS, hC, HP, HO, HB⟩
  case round =>
    clear HO HB HP hS hc hi hi0 hL hC hd1 hd2
    obtain ⟨A1, c1, L1, m, xs, v7, bb, rfl, rfl, rfl, rfl, hc1, hm1, hi1, hL1, hS, HC, HP, HO, HB⟩ := hrel
    by_cases h2 : m < L1.length
    · have hn1 : (m : Int) < (L1.length : Int) := by omega
      have h3 := Tr.sp_lt (n := L1.length) (by omega)
      have h4 := Tr.sp_pos L1.length
      have hsp := fun W => split_calls L1.length hL1 W
      have h2b : 1 ≤ m ∧ m < (bl L1).length := by rw [bl_len]; exact ⟨hm1, h2⟩
      have hxl : Hid (xs.length ≤ 1073741824) := by
        have h5 := congrArg List.length HP.out
        rw [List.length_append] at h5
        have := hple.out
        exact Lib.hid (by omega)
      by_cases h1 : m ≤ Tr.sp L1.length
      · have HP2 : Hid ((xs ++ [Tr.root alg (bl (L1.drop (Tr.sp L1.length)))]) ++ Tr.bridge alg (bl (L1.take (Tr.sp L1.length))) m bb = F) := by
          refine Lib.hid ?_
          rw [← HP.out, Tr.bridge_left alg (bl L1) m bb h2b (by rw [bl_len]; exact h1), List.append_assoc, bl_len, bl_drop, bl_take]; rfl
        obtain ⟨k, hk⟩ : ∃ k, k = Tr.sp L1.length := ⟨_, rfl⟩
        rw [← hk] at h3 h4 h1 hsp HP2
        replace hk := Lib.hid hk
        have h1' : (m : Int) ≤ (k : Int) := by omega
        have tk1 := fun W => cut_take (A := A1) (c := c1) (L := L1) k (by omega) hc1 W
        obtain ⟨A2, dk1, dk2, dk3⟩ := cut_drop (A := A1) (c := c1) (L := L1) k (by omega) hc1
        have hct : (L1.take k).length ≤ c1 := by rw [List.length_take]; omega
        have htl : (L1.take k).length = k := by rw [List.length_take]; omega
        have hrt := fun W hC hk => troot_calls (L1.drop k).length A2 (c1 - k) (L1.drop k) W (Nat.le_refl _) (by rw [List.length_drop]; omega) (hS.out.drop k) dk3 hC hk
        have hrl := rlen (bl (L1.drop k))
        have hSt := Lib.hid (hS.out.take k)
        have HCt := fun W (h : Kd.C Kd.string W A1 L1.length L1) => Kd.C_take (m := k) h (by omega)
        generalize Tr.root alg (bl (L1.drop k)) = D at HP2 hrt hrl
        obtain ⟨L3, hL3⟩ : ∃ L3, L3 = L1.take k := ⟨_, rfl⟩
        obtain ⟨L2, hL2⟩ : ∃ L2, L2 = L1.drop k := ⟨_, rfl⟩
        rw [← hL3] at tk1 HP2 hct htl hSt HCt
        rw [← hL2] at dk1 dk2 hrt
        clear hL3 hL2 dk3
        replace tk1 := Lib.hid tk1
        replace dk1 := Lib.hid dk1
        replace dk2 := Lib.hid dk2
        replace hrt := Lib.hid hrt
        replace hsp := Lib.hid hsp
        replace HCt := Lib.hid HCt
        replace hrl := Lib.hid hrl
        have htl' := Lib.hid htl
        clear htl
        go_wp2_with fail
        refine (hsp.out wr).mono ?_
        rintro e w3 ⟨rfl, hb⟩
        replace hb := hb.below
        replace HO := Lib.hid (HO.out.below hb)
        replace HB := Lib.hid (HB.out.trans (Below.mono hb HB.out.size))
        clear hb hsp
        go_wp2_with (guard_target = wpList _ _ _ (⟨some 36, _, _, _, _, _⟩ :: _) _ _; refine wpList_slice rfl und_strs' rfl (.slice A1 L1.length c1) rfl (some (.int .i64 k)) none rfl rfl _ dk1.out ?_)
        refine (hrt.out w3 (Kd.C_below (dk2.out w HC.out) HB.out) (hK.out.below HB.out)).mono ?_
        rintro e w4 ⟨rfl, hb⟩
        replace HO := Lib.hid (HO.out.below hb)
        replace HB := Lib.hid (HB.out.trans (Below.mono hb HB.out.size))
        clear hb hrt
        go_wp2_with (first | (guard_target = wpList _ _ _ (⟨some 38, _, _, _, _, _⟩ :: _) _ _; refine wpList_buildSlice_dig rfl (.tmp 37) rfl D hrl.out rfl ?_) | (guard_target = wpList _ _ _ (⟨some 39, _, _, _, _, _⟩ :: _) _ _; refine wpList_append_dig rfl (.tmp 33) (.tmp 38) rfl v7 xs D hrl.out rfl rfl HO.out HB.out HB.out.size hxl.out ?_; intro v1 w5 HO1 HB1) | (guard_target = wpList _ _ _ (⟨some 42, _, _, _, _, _⟩ :: _) _ _; refine wpList_slice rfl und_strs' rfl (.slice A1 L1.length c1) rfl none (some (.int .i64 k)) rfl rfl _ tk1.out ?_))
        refine ⟨⟨A1, c1, L3, m, xs ++ [D], v1, bb, by rw [htl'.out], rfl, rfl, rfl, hct, hm1, by rw [htl'.out]; exact h1, by rw [htl'.out]; omega, hSt, Lib.hid (HCt.out w HC.out), HP2, HO1, Lib.hid HB1⟩, ?_⟩
        have := htl'.out
        show slen (.slice A1 L3.length c1) < slen (.slice A1 L1.length c1)
        rw [slen_slice, slen_slice]
        omega
      · have HP2 : Hid ((xs ++ [Tr.root alg (bl (L1.take (Tr.sp L1.length)))]) ++ Tr.bridge alg (bl (L1.drop (Tr.sp L1.length))) (m - Tr.sp L1.length) false = F) := by
          refine Lib.hid ?_
          rw [← HP.out, Tr.bridge_right alg (bl L1) m bb h2b (by rw [bl_len]; exact h1), List.append_assoc, bl_len, bl_drop, bl_take]; rfl
        obtain ⟨k, hk⟩ : ∃ k, k = Tr.sp L1.length := ⟨_, rfl⟩
        rw [← hk] at h3 h4 h1 hsp HP2
        replace hk := Lib.hid hk
        have h1' : ¬ (m : Int) ≤ (k : Int) := by omega
        have e1 : (m : Int) - (k : Int) = ((m - k : Nat) : Int) := by omega
        replace e1 := Lib.hid e1
        have tk1 := fun W => cut_take (A := A1) (c := c1) (L := L1) k (by omega) hc1 W
        obtain ⟨A2, dk1, dk2, dk3⟩ := cut_drop (A := A1) (c := c1) (L := L1) k (by omega) hc1
        have htl : (L1.drop k).length = L1.length - k := by rw [List.length_drop]
        have hrt := fun W hC hk => troot_calls (L1.take k).length A1 c1 (L1.take k) W (Nat.le_refl _) (by rw [List.length_take]; omega) (hS.out.take k) (by rw [List.length_take]; omega) hC hk
        have hrl := rlen (bl (L1.take k))
        have hSt := Lib.hid (hS.out.drop k)
        have HCt := fun W (h : Kd.C Kd.string W A1 L1.length L1) => Kd.C_take (m := k) h (by omega)
        generalize Tr.root alg (bl (L1.take k)) = D at HP2 hrt hrl
        obtain ⟨L3, hL3⟩ : ∃ L3, L3 = L1.take k := ⟨_, rfl⟩
        obtain ⟨L2, hL2⟩ : ∃ L2, L2 = L1.drop k := ⟨_, rfl⟩
        rw [← hL3] at tk1 hrt HCt
        rw [← hL2] at dk1 dk2 dk3 HP2 htl hSt
        clear hL3 hL2
        replace tk1 := Lib.hid tk1
        replace dk1 := Lib.hid dk1
        replace dk2 := Lib.hid dk2
        replace dk3 := Lib.hid dk3
        replace hrt := Lib.hid hrt
        replace hsp := Lib.hid hsp
        replace HCt := Lib.hid HCt
        replace hrl := Lib.hid hrl
        have htl' := Lib.hid htl
        clear htl
        go_wp2_with fail
        refine (hsp.out wr).mono ?_
        rintro e w3 ⟨rfl, hb⟩
        replace hb := hb.below
        replace HO := Lib.hid (HO.out.below hb)
        replace HB := Lib.hid (HB.out.trans (Below.mono hb HB.out.size))
        clear hb hsp
        go_wp2_with (guard_target = wpList _ _ _ (⟨some 46, _, _, _, _, _⟩ :: _) _ _; refine wpList_slice rfl und_strs' rfl (.slice A1 L1.length c1) rfl none (some (.int .i64 k)) rfl rfl _ tk1.out ?_)
        refine (hrt.out w3 (Kd.C_below (HCt.out w HC.out) HB.out) (hK.out.below HB.out)).mono ?_
        rintro e w4 ⟨rfl, hb⟩
        replace HO := Lib.hid (HO.out.below hb)
        replace HB := Lib.hid (HB.out.trans (Below.mono hb HB.out.size))
        clear hb hrt
        go_wp2_with (first | (guard_target = wpList _ _ _ (⟨some 48, _, _, _, _, _⟩ :: _) _ _; refine wpList_buildSlice_dig rfl (.tmp 47) rfl D hrl.out rfl ?_) | (guard_target = wpList _ _ _ (⟨some 49, _, _, _, _, _⟩ :: _) _ _; refine wpList_append_dig rfl (.tmp 43) (.tmp 48) rfl v7 xs D hrl.out rfl rfl HO.out HB.out HB.out.size hxl.out ?_; intro v1 w5 HO1 HB1) | (guard_target = wpList _ _ _ (⟨some 52, _, _, _, _, _⟩ :: _) _ _; refine wpList_slice rfl und_strs' rfl (.slice A1 L1.length c1) rfl (some (.int .i64 k)) none rfl rfl _ dk1.out ?_))
        refine ⟨⟨A2, c1 - k, L2, m - k, xs ++ [D], v1, false, rfl, by rw [e1.out], rfl, rfl, dk3.out, by omega, by have := htl'.out; omega, by have := htl'.out; omega, hSt, Lib.hid (dk2.out w HC.out), HP2, HO1, Lib.hid HB1⟩, ?_⟩
        have := htl'.out
        show slen (.slice A2 L2.length (c1 - k)) < slen (.slice A1 L1.length c1)
        rw [slen_slice, slen_slice]
        omega
    · have hn1 : ¬ (m : Int) < (L1.length : Int) := by omega
      have hxl : Hid (xs.length ≤ 1073741824) := by
        have h5 := congrArg List.length HP.out
        rw [List.length_append] at h5
        have := hple.out
        exact Lib.hid (by omega)
      cases bb with
      | true =>
        rw [Tr.bridge_end alg (bl L1) m true (by rw [bl_len]; omega), if_pos rfl, List.append_nil] at HP
        go_wp2_with fail
        refine (trev_calls w.heap.size v7 xs wr HO.out HB.out.size).mono ?_
        rintro e w3 ⟨rfl, hO3, hB3⟩
        rw [HP.out] at hO3
        replace hO3 := Lib.hid hO3
        replace HB := Lib.hid (HB.out.trans hB3)
        clear hB3
        go_wp2_with fail
        go_ret2
        exact ⟨v7, rfl, hO3.out, HB.out⟩
      | false =>
        rw [Tr.bridge_end alg (bl L1) m false (by rw [bl_len]; omega), if_neg (by simp)] at HP
        have hrt := fun W hC hk => troot_calls L1.length A1 c1 L1 W (Nat.le_refl _) hL1 hS.out hc1 hC hk
        have hrl := rlen (bl L1)
        generalize Tr.root alg (bl L1) = D at HP hrt hrl
        replace hrt := Lib.hid hrt
        replace hrl := Lib.hid hrl
        go_wp2_with fail
        refine (hrt.out wr (Kd.C_below HC.out HB.out) (hK.out.below HB.out)).mono ?_
        rintro e w4 ⟨rfl, hb⟩
        replace HO := Lib.hid (HO.out.below hb)
        replace HB := Lib.hid (HB.out.trans (Below.mono hb HB.out.size))
        clear hb hrt
        go_upto_region 17 with (first | (guard_target = wpList _ _ _ (⟨some 61, _, _, _, _, _⟩ :: _) _ _; refine wpList_buildSlice_dig rfl (.tmp 60) rfl D hrl.out rfl ?_) | (guard_target = wpList _ _ _ (⟨some 62, _, _, _, _, _⟩ :: _) _ _; refine wpList_append_dig rfl (.tmp 58) (.tmp 61) rfl v7 xs D hrl.out rfl rfl HO.out HB.out HB.out.size hxl.out ?_; intro v1 w5 HO1 HB1))
        go_wp2_with fail
        refine (trev_calls w.heap.size v1 _ w5 HO1.out HB1.size).mono ?_
        rintro e w6 ⟨rfl, hO3, hB3⟩
        rw [HP.out] at hO3
        replace hO3 := Lib.hid hO3
        replace HB := Lib.hid (HB1.trans hB3)
        clear hB3 HO HO1 HB1
        go_wp2_with fail
        go_ret2
        exact ⟨v1, rfl, hO3.out, HB.out⟩
end Go.Proofs.YtldpnmebjnkjeaaDoor.TrW
namespace Go.Proofs.YtldpnmebjnkjeaaDoor.TrW
open Go.RowKit Go.Proofs.YtldpnmebjnkjeaaDoorW.PrintWords Go.Proofs.YtldpnmebjnkjeaaDoor.PH1 Go.Proofs.YtldpnmebjnkjeaaDoor Go.Proofs.YtldpnmebjnkjeaaDoorW.PrintLast Go.Proofs.YtldpnmebjnkjeaaDoorW.PrintMore
open Go.Proofs.YtldpnmebjnkjeaaDoor.Sha
set_option linter.unusedVariables false
set_option linter.unusedSimpArgs false

def DigAd (ad : Addr) (l : List UInt8) (w : World) : Prop := ∀ j v, (Lib.byteCells l)[j]? = some v → w.cell? (ad.add j) = some v
theorem run_load_digA {w : World} {ad : Addr} {l : List UInt8} (hr : DigAd ad l w) (hl : l.length = 32) : (loadVar 24 ad).run Tryd.prog w = .ok (.agg (Lib.byteCells l).toArray) w := by
  have hcl := bc_len hl
  have hrun : (loadCells ad 32).run Tryd.prog w = .ok (Lib.byteCells l).toArray w := by
    rw [← hcl]
    exact run_loadCells_list (P := Tryd.prog) w ad (Lib.byteCells l) hr
  obtain ⟨i, hi, hz⟩ := Option.map_eq_some_iff.1 info_digest
  simp only [Prod.mk.injEq] at hz
  have hagg : (isAgg 24).run Tryd.prog w = .ok true w := by
    unfold isAgg
    rw [Sem.run_bind, run_underlying (show Tryd.prog.underlying 24 = some (.array 32 5) by kernel_rfl) w]
    rfl
  unfold loadVar
  simp [hagg, run_sizeOf w hi, hz.2.1, hrun]
theorem wpList_load_digA {ops : Array Oper} {rest : List Oper} {o : Oper} {a : Act} {Q : Exit → Act → World → Prop} {w : World} (hgd : o.guard = none) (x : Operand) (ho : o.op = .load 24 x) (ad : Addr) (hx : a.eval x = .pointer (some ad))
    (l : List UInt8) (hl : l.length = 32) (hr : DigAd ad l w) (h : wpList Tryd.prog ops Q rest (a.put o.dst (.agg (Lib.byteCells l).toArray)) w) : wpList Tryd.prog ops Q (o :: rest) a w := by
  refine wpList_plain hgd fun _ hK => ?_
  unfold Oper.wp execOp
  simp only [ho, hx, Instr.loadAt, Instr.sureAddr, Sem.run_bind, Sem.run_pure, Result.andThen_ok, run_load_digA hr hl]
  exact hK _ _ h
/-- A row of digests that is read. -/
def CD (A : Option Addr) (ps : List (List UInt8)) (w : World) : Prop := kDig.C w A ps.length ps
theorem CD.below {A : Option Addr} {ps : List (List UInt8)} {w w1 : World} (h : CD A ps w) (hb : Below w.heap.size w w1) : CD A ps w1 := Kd.C_below h hb
theorem CD.get {A : Option Addr} {ps : List (List UInt8)} {w : World} (h : CD A ps w) {k : Nat} {p : List UInt8} (hk : ps[k]? = some p) : p.length = 32 ∧ ∃ ad, A = some ad ∧ DigAd (ad.add (k * 32)) p w := by
  obtain ⟨hkl, hkp⟩ := List.getElem?_eq_some_iff.1 hk
  obtain ⟨ad, c, hA, hc, hK, hcell⟩ := Kd.C_get h [] (k : Int) (by omega) (by omega)
  rw [Int.toNat_natCast, List.getD_eq_getElem?_getD, hk, Option.getD_some] at hK
  obtain ⟨h1, h2⟩ := kDig_K hK
  refine ⟨h1, ad, hA, fun j v hv => ?_⟩
  rw [Addr.add_add]
  have := hcell j v (by rw [h2]; exact hv)
  rwa [Int.toNat_natCast, kDig_sz] at this
theorem CD.all {A : Option Addr} {ps : List (List UInt8)} {w : World} (h : CD A ps w) : ∀ p ∈ ps, p.length = 32 := by
  intro p hp
  obtain ⟨k, hk⟩ := List.getElem?_of_mem hp
  exact (h.get hk).1
theorem RD.reads {b : Nat} {v : Value} {xs : List (List UInt8)} {w : World} (h : RD b v xs w) : ∃ A c, v = .slice A xs.length c ∧ xs.length ≤ c ∧ CD A xs w := Kd.R_reads h
def CB (A : Option Addr) (xs : List Bool) (w : World) : Prop := Kd.bool.C w A xs.length xs
theorem CB.below {A : Option Addr} {ps : List Bool} {w w1 : World} (h : CB A ps w) (hb : Below w.heap.size w w1) : CB A ps w1 := Kd.C_below h hb
theorem RB.reads {b : Nat} {v : Value} {xs : List Bool} {w : World} (h : RB b v xs w) : ∃ A c, v = .slice A xs.length c ∧ xs.length ≤ c ∧ CB A xs w := Kd.R_reads h
theorem CB.get {A : Option Addr} {xs : List Bool} {w : World} (h : CB A xs w) {k : Nat} {s : Bool} (hk : xs[k]? = some s) : ∃ ad, A = some ad ∧ w.cell? (ad.add k) = some (.bool s) := by
  obtain ⟨hkl, hkp⟩ := List.getElem?_eq_some_iff.1 hk
  obtain ⟨ad, hA, hc⟩ := Kd.at_bool h (k : Int) (by omega) (by omega)
  refine ⟨ad, hA, ?_⟩
  rw [Int.toNat_natCast] at hc
  rw [hc]
  congr 2
  unfold rdOf
  rw [Int.toNat_natCast]
  simp [hk]
theorem last_drop (rs : List Bool) (ps : List (List UInt8)) (d : List UInt8) (k : Nat) (s : Bool) (p : List UInt8) (h1 : rs[k]? = some s) (h2 : ps[k]? = some p) : Tr.last alg d (rs.drop k) (ps.drop k) = Tr.last alg (Tr.next alg s d p) (rs.drop (k + 1)) (ps.drop (k + 1)) := by
  obtain ⟨a1, a2⟩ := List.getElem?_eq_some_iff.1 h1
  obtain ⟨b1, b2⟩ := List.getElem?_eq_some_iff.1 h2
  rw [List.drop_eq_getElem_cons a1, List.drop_eq_getElem_cons b1, a2, b2]
  rfl
theorem lastX_drop (rs : List Bool) (ps : List (List UInt8)) (d : List UInt8) (k : Nat) (s : Bool) (p : List UInt8) (h1 : rs[k]? = some s) (h2 : ps[k]? = some p) : Tr.lastX alg d (rs.drop k) (ps.drop k) = Tr.lastX alg (if s then d else joinP p d) (rs.drop (k + 1)) (ps.drop (k + 1)) := by
  obtain ⟨a1, a2⟩ := List.getElem?_eq_some_iff.1 h1
  obtain ⟨b1, b2⟩ := List.getElem?_eq_some_iff.1 h2
  rw [List.drop_eq_getElem_cons a1, List.drop_eq_getElem_cons b1, a2, b2]
  rfl
end Go.Proofs.YtldpnmebjnkjeaaDoor.TrW
namespace Go.Proofs.YtldpnmebjnkjeaaDoor.TrW
open Go.RowKit Go.Proofs.YtldpnmebjnkjeaaDoorW.PrintWords Go.Proofs.YtldpnmebjnkjeaaDoor.PH1 Go.Proofs.YtldpnmebjnkjeaaDoor Go.Proofs.YtldpnmebjnkjeaaDoorW.PrintLast Go.Proofs.YtldpnmebjnkjeaaDoorW.PrintMore
open Go.Proofs.YtldpnmebjnkjeaaDoor.Sha
set_option linter.unusedVariables false
set_option linter.unusedSimpArgs false

/-- Does a path prove a leaf? -/
def pathV (s : List UInt8) (i n : Int) (r : List UInt8) (ps : List (List UInt8)) : Bool :=
  decide (0 ≤ i ∧ i < n ∧ n ≤ 1024 ∧ (Tr.sides i.toNat n.toNat).length = ps.length ∧ Tr.last alg (leafP s) (Tr.sides i.toNat n.toNat).reverse ps = r)
theorem decF {p : Prop} [Decidable p] (h : ¬ p) : decide p = false := decide_eq_false_iff_not.2 h
theorem decT {p : Prop} [Decidable p] (h : p) : decide p = true := decide_eq_true_iff.2 h
set_option maxHeartbeats 4000000 in
set_option maxRecDepth 100000 in
theorem tCheckPath_arg (s : ByteArray) (i n : Int) (r : List UInt8) (ps : List (List UInt8)) (A : Option Addr) (c : Nat) (w : World) (h : i < 0 ∨ n ≤ i ∨ 1024 < n) :
    Calls Tryd.prog 44 #[.string s, .int .i64 i, .int .i64 n, .agg (Lib.byteCells r).toArray, .slice A ps.length c] w fun e w' => e = .returned (.bool (pathV s.data.toList i n r ps)) ∧ Below w.heap.size w w' := by
  have hv : pathV s.data.toList i n r ps = false := decF (by omega)
  rw [hv]
  clear hv
  by_cases h0 : i < 0
  · replace h := Lib.hid h
    go_enter Tryd.func44, Tryd.ntmps44
    go_wp2_with fail
    go_ret
    exact ⟨rfl, (Below.refl _ _).alloc (Nat.le_refl _) _⟩
  · by_cases h1 : n ≤ i
    · have d0 := decF h0
      replace h := Lib.hid h
      go_enter Tryd.func44, Tryd.ntmps44
      go_wp2_with fail
      go_ret
      exact ⟨rfl, (Below.refl _ _).alloc (Nat.le_refl _) _⟩
    · have h2 : 1024 < n := by omega
      have d0 := decF h0
      have d1 := decF h1
      replace h := Lib.hid h
      go_enter Tryd.func44, Tryd.ntmps44
      go_wp2_with fail
      go_ret
      exact ⟨rfl, (Below.refl _ _).alloc (Nat.le_refl _) _⟩
set_option maxHeartbeats 4000000 in
set_option maxRecDepth 100000 in
theorem tCheckPath_len (s : ByteArray) (i n : Nat) (r : List UInt8) (ps : List (List UInt8)) (A : Option Addr) (c : Nat) (w : World) (hi : i < n) (hn : n ≤ 1024) (h : (Tr.sides i n).length ≠ ps.length) :
    Calls Tryd.prog 44 #[.string s, .int .i64 (i : Int), .int .i64 (n : Int), .agg (Lib.byteCells r).toArray, .slice A ps.length c] w fun e w' => e = .returned (.bool (pathV s.data.toList i n r ps)) ∧ Below w.heap.size w w' := by
  have hv : pathV s.data.toList i n r ps = false := decF (by simp only [Int.toNat_natCast]; intro h2; exact h h2.2.2.2.1)
  rw [hv]
  clear hv
  have hcall := fun W => tsides_calls i n hi hn W
  generalize Tr.sides i n = L at h hcall
  have hne : ((L.length : Int) == (ps.length : Int)) = false := by rw [beq_eq_false_iff_ne]; omega
  have hne2 : (L.length == ps.length) = false := by rw [beq_eq_false_iff_ne]; exact h
  have d0 : decide ((i : Int) < 0) = false := decF (by omega)
  have d1 : decide ((n : Int) ≤ (i : Int)) = false := decF (by omega)
  have d1' : decide (n ≤ i) = false := decF (by omega)
  have d2 : decide (1024 < (n : Int)) = false := decF (by omega)
  have d2' : decide (1024 < n) = false := decF (by omega)
  replace h := Lib.hid h
  replace hcall := Lib.hid hcall
  go_enter Tryd.func44, Tryd.ntmps44
  go_wp2_with fail
  refine (hcall.out _).mono ?_
  rintro e w2 ⟨v, rfl, hv, hb⟩
  obtain ⟨A1, c1, rfl, hc1, hcb⟩ := hv.reads
  have HB : Hid (Below w.heap.size w w2) := Lib.hid (((Below.refl _ _).alloc (Nat.le_refl _) _).trans (hb.mono (by simp)))
  clear hb hcall hv hcb
  go_wp2_with fail
  go_ret
  exact ⟨rfl, HB.out⟩
set_option maxHeartbeats 8000000 in
set_option maxRecDepth 100000 in
theorem tCheckPath_ok (s : ByteArray) (hs : s.size ≤ 1048575) (i n : Nat) (r : List UInt8) (hr : r.length = 32) (ps : List (List UInt8)) (A : Option Addr) (c : Nat) (w : World) (hC : CD A ps w) (hc : ps.length ≤ c) (hi : i < n) (hn : n ≤ 1024) (h : (Tr.sides i n).length = ps.length) (hK : KAt w) :
    Calls Tryd.prog 44 #[.string s, .int .i64 (i : Int), .int .i64 (n : Int), .agg (Lib.byteCells r).toArray, .slice A ps.length c] w fun e w' => e = .returned (.bool (pathV s.data.toList i n r ps)) ∧ Below w.heap.size w w' := by
  have hv : pathV s.data.toList i n r ps = decide (Tr.last alg (leafP s.data.toList) (Tr.sides i n).reverse ps = r) := by
    unfold pathV
    simp only [Int.toNat_natCast]
    rw [decide_eq_decide]
    exact ⟨fun h => h.2.2.2.2, fun h2 => ⟨by omega, by omega, by omega, h, h2⟩⟩
  rw [hv]
  clear hv
  have hll : Hid ((Tr.sides i n).length ≤ 1024) := Lib.hid (by have := sides_le n i n (Nat.le_refl _); omega)
  have hcall := fun W => tsides_calls i n hi hn W
  generalize Tr.sides i n = L at h hcall hll
  have d0 : decide ((i : Int) < 0) = false := decF (by omega)
  have d1 : decide ((n : Int) ≤ (i : Int)) = false := decF (by omega)
  have d1' : decide (n ≤ i) = false := decF (by omega)
  have d2 : decide (1024 < (n : Int)) = false := decF (by omega)
  have d2' : decide (1024 < n) = false := decF (by omega)
  have hlf : Hid ((leafP s.data.toList).length = 32) := Lib.hid (sumL_len _)
  have hleaf := fun W hk => tleaf_calls s hs W hk
  generalize leafP s.data.toList = D at hlf hleaf ⊢
  obtain ⟨F, hF⟩ : ∃ F, F = Tr.last alg D L.reverse ps := ⟨_, rfl⟩
  have HP : Hid (Tr.last alg D (L.reverse.drop 0) (ps.drop 0) = F) := Lib.hid hF.symm
  rw [← hF]
  clear hF
  replace h := Lib.hid h
  replace hcall := Lib.hid hcall
  replace hleaf := Lib.hid hleaf
  replace hr := Lib.hid hr
  go_enter Tryd.func44, Tryd.ntmps44
  go_wp2_with fail
  refine (hcall.out _).mono ?_
  rintro e w2 ⟨v, rfl, hv, hb⟩
  obtain ⟨A1, c1, rfl, hc1, hcb⟩ := hv.reads
  have HR : Hid (DigAt w.heap.size r w2) := by
    refine Lib.hid (DigAt.below (w := w.alloc (.cells (Lib.byteCells r).toArray 24)) ?_ hb)
    exact heap_alloc_last _ _
  have HB : Hid (Below w.heap.size w w2) := Lib.hid (((Below.refl _ _).alloc (Nat.le_refl _) _).trans (hb.mono (by simp)))
  have hlt : Hid (w.heap.size < w2.heap.size) := by
    have := hb.size
    simp at this
    exact Lib.hid (by omega)
  replace hcb := Lib.hid hcb
  clear hb hcall hv
  rw [h.out]
  go_wp2_with fail
  refine (hleaf.out w2 (hK.below HB.out)).mono ?_
  rintro e w3 ⟨rfl, hb⟩
  replace HR := Lib.hid (HR.out.below hb)
  replace HB := Lib.hid (HB.out.trans (hb.mono HB.out.size))
  replace hlt := Lib.hid (Nat.lt_of_lt_of_le hlt.out hb.size)
  replace hcb := Lib.hid (hcb.out.below hb)
  have HC := Lib.hid (hC.below HB.out)
  replace hK := Lib.hid (hK.below HB.out)
  clear hb hleaf hC
  go_upto_region 7 with (guard_target = wpList _ _ _ (⟨none, _, _, _, _, _⟩ :: _) _ _; refine wpList_store_dig rfl (.tmp 12) (.tmp 35) rfl w3.heap.size rfl D hlf.out rfl _ _ (heap_alloc_last _ _) zrow ?_; intro w4 h4 _ hB4)
  have HB4 : Hid (Below w3.heap.size w3 w4) := Lib.hid (hB4 ((Below.refl _ _).alloc (Nat.le_refl _) _) (Nat.le_refl _))
  have HD : Hid (DigAt w3.heap.size D w4) := h4
  clear hB4 h4
  have hlt4 : Hid (w3.heap.size < w4.heap.size) := by
    refine Lib.hid ?_
    rcases Nat.lt_or_ge w3.heap.size w4.heap.size with h | h
    · exact h
    · have := HD.out; unfold DigAt at this; rw [Array.getElem?_eq_none h] at this; cases this
  have hwb := hlt.out
  have hps : ps.length ≤ 1024 := by have := hll.out; have := h.out; omega
  go_wp2_with fail
  go_loopw [38] (fun a wx => ∃ (k : Nat) (d : List UInt8), a = .int .i64 k ∧ k ≤ ps.length ∧ Hid (d.length = 32) ∧ Hid (DigAt w3.heap.size d wx) ∧ Hid (Tr.last alg d (L.reverse.drop k) (ps.drop k) = F) ∧ Hid (Below w3.heap.size w3 wx) ∧ Hid (w3.heap.size < wx.heap.size)) (fun a _ => ps.length - (intOf a).toNat)
  case atStart => exact ⟨0, D, rfl, Nat.zero_le _, hlf, HD, HP, HB4, hlt4⟩
  case round =>
    clear HD HP HB4 hlt4 hlf
    obtain ⟨k, d, rfl, hk, hdl, HD, HP, HB4, hlt4⟩ := hrel
    by_cases hkn : k < ps.length
    · have hkn' : (k : Int) < (ps.length : Int) := by omega
      obtain ⟨q, hq⟩ : ∃ q : Nat, q = ps.length - 1 - k := ⟨_, rfl⟩
      have hq' : (ps.length : Int) - 1 - (k : Int) = (q : Int) := by omega
      have hqn : q < ps.length := by omega
      have hqn' : (q : Int) < (ps.length : Int) := by omega
      obtain ⟨p, hp⟩ : ∃ p, ps[k]? = some p := ⟨_, List.getElem?_eq_getElem hkn⟩
      obtain ⟨t, ht⟩ : ∃ t, L[q]? = some t := ⟨_, List.getElem?_eq_getElem (by rw [h.out]; exact hqn)⟩
      have htr : L.reverse[k]? = some t := by rw [List.getElem?_reverse (by rw [h.out]; exact hkn), h.out, ← hq]; exact ht
      rw [last_drop L.reverse ps d k t p htr hp] at HP
      have hB3 : Below w3.heap.size w3 wr := HB4.out
      obtain ⟨hpl, ad, hA, hda⟩ := (HC.out.below hB3).get hp
      obtain ⟨ad1, hA1, hcb1⟩ := (hcb.out.below hB3).get ht
      subst hA hA1
      replace hp := Lib.hid hp
      replace ht := Lib.hid ht
      replace htr := Lib.hid htr
      replace hq := Lib.hid hq
      replace hpl := Lib.hid hpl
      replace hda := Lib.hid hda
      replace hcb1 := Lib.hid hcb1
      replace hB3 := Lib.hid hB3
      go_upto_region 10 with (first | (guard_target = wpList _ _ _ (⟨some 42, _, _, _, _, _⟩ :: _) _ _; refine wpList_load_digA rfl (.tmp 41) rfl (ad.add (k * 32)) rfl p hpl.out hda.out ?_) | (guard_target = wpList _ _ _ (⟨none, _, _, _, _, _⟩ :: _) _ _; refine wpList_store_dig rfl (.tmp 14) (.tmp 42) rfl wr.heap.size rfl p hpl.out rfl _ _ (heap_alloc_last _ _) zrow ?_; intro w5 h5 _ hB5))
      have hB5' := hB5 ((Below.refl wr.heap.size wr).alloc (Nat.le_refl _) _) (Nat.le_refl _)
      have HX : Hid (DigAt wr.heap.size p w5) := h5
      replace HD := Lib.hid (HD.out.below hB5')
      have HB3 := Lib.hid (hB3.out.trans (hB5'.mono hB3.out.size))
      have hlt5 := Lib.hid (Nat.lt_of_lt_of_le hlt4.out hB5'.size)
      obtain ⟨ad2, hA2, hcb5⟩ := (hcb.out.below HB3.out).get ht.out
      cases hA2
      clear hB5 h5 hB5' hcb1 hda HB4 hB3 hlt4
      obtain ⟨b14, hb14⟩ : ∃ b, b = wr.heap.size := ⟨_, rfl⟩
      rw [← hb14] at HX ⊢
      replace hb14 := Lib.hid hb14
      have zrow' : ((Lib.byteCells d).toArray).size = 32 := by rw [List.size_toArray, bc_len hdl.out]
      have hcb1 := hcb5
      clear hcb5
      cases t with
      | true =>
        go_wp2_with (first | (guard_target = wpList _ _ _ (⟨some 51, _, _, _, _, _⟩ :: _) _ _; refine wpList_load_dig rfl (.tmp 12) rfl w3.heap.size rfl d hdl.out _ _ HD.out ?_) | (guard_target = wpList _ _ _ (⟨some 52, _, _, _, _, _⟩ :: _) _ _; refine wpList_load_dig rfl (.tmp 14) rfl b14 rfl p hpl.out _ _ HX.out ?_))
        refine (tjoin_calls d p hdl.out hpl.out w5 (hK.out.below HB3.out)).mono ?_
        rintro e w6 ⟨rfl, hb6⟩
        have HJ : Hid ((joinP d p).length = 32) := Lib.hid (sumL_len _)
        replace HD := Lib.hid (HD.out.below hb6)
        replace HB3 := Lib.hid (HB3.out.trans (hb6.mono HB3.out.size))
        have hlt6 := Lib.hid (Nat.lt_of_lt_of_le hlt5.out hb6.size)
        have hmx : Hid (Tr.last alg (joinP d p) (L.reverse.drop (k + 1)) (ps.drop (k + 1)) = F) := HP
        generalize joinP d p = J at HJ hmx ⊢
        clear hb6 hcb1 HX
        go_wp2_with (guard_target = wpList _ _ _ (⟨none, _, _, _, _, _⟩ :: _) _ _; refine wpList_store_dig rfl (.tmp 12) (.tmp 53) rfl w3.heap.size rfl J HJ.out rfl _ _ HD.out zrow' ?_; intro w7 h7 _ hB7)
        have hlt7 : w3.heap.size < w7.heap.size := by
          rcases Nat.lt_or_ge w3.heap.size w7.heap.size with h | h
          · exact h
          · have := h7.out; rw [Array.getElem?_eq_none h] at this; cases this
        refine ⟨⟨k + 1, J, by go_num, by omega, HJ, h7, hmx, Lib.hid (hB7 (HB3.out) (Nat.le_refl _)), Lib.hid hlt7⟩, ?_⟩
        simp [intOf]
        omega
      | false =>
        go_wp2_with (first | (guard_target = wpList _ _ _ (⟨some 54, _, _, _, _, _⟩ :: _) _ _; refine wpList_load_dig rfl (.tmp 14) rfl b14 rfl p hpl.out _ _ HX.out ?_) | (guard_target = wpList _ _ _ (⟨some 55, _, _, _, _, _⟩ :: _) _ _; refine wpList_load_dig rfl (.tmp 12) rfl w3.heap.size rfl d hdl.out _ _ HD.out ?_))
        refine (tjoin_calls p d hpl.out hdl.out w5 (hK.out.below HB3.out)).mono ?_
        rintro e w6 ⟨rfl, hb6⟩
        have HJ : Hid ((joinP p d).length = 32) := Lib.hid (sumL_len _)
        replace HD := Lib.hid (HD.out.below hb6)
        replace HB3 := Lib.hid (HB3.out.trans (hb6.mono HB3.out.size))
        have hlt6 := Lib.hid (Nat.lt_of_lt_of_le hlt5.out hb6.size)
        have hmx : Hid (Tr.last alg (joinP p d) (L.reverse.drop (k + 1)) (ps.drop (k + 1)) = F) := HP
        generalize joinP p d = J at HJ hmx ⊢
        clear hb6 hcb1 HX
        go_wp2_with (guard_target = wpList _ _ _ (⟨none, _, _, _, _, _⟩ :: _) _ _; refine wpList_store_dig rfl (.tmp 12) (.tmp 56) rfl w3.heap.size rfl J HJ.out rfl _ _ HD.out zrow' ?_; intro w7 h7 _ hB7)
        have hlt7 : w3.heap.size < w7.heap.size := by
          rcases Nat.lt_or_ge w3.heap.size w7.heap.size with h | h
          · exact h
          · have := h7.out; rw [Array.getElem?_eq_none h] at this; cases this
        refine ⟨⟨k + 1, J, by go_num, by omega, HJ, h7, hmx, Lib.hid (hB7 (HB3.out) (Nat.le_refl _)), Lib.hid hlt7⟩, ?_⟩
        simp [intOf]
        omega
    · have hkn' : ¬ (k : Int) < (ps.length : Int) := by omega
      rw [List.drop_eq_nil_of_le (by omega : ps.length ≤ k)] at HP
      have hdF : d = F := by
        have := HP.out
        rw [List.drop_eq_nil_of_le (by rw [List.length_reverse, h.out]; omega)] at this
        exact this
      subst hdF
      have heq := fun v : World => eq32 v d r hdl.out hr.out
      have hRr : Hid (DigAt w.heap.size r wr) := Lib.hid (HR.out.below (HB4.out))
      go_wp2_with (first | (guard_target = wpList _ _ _ (⟨some 58, _, _, _, _, _⟩ :: _) _ _; refine wpList_load_dig rfl (.tmp 12) rfl w3.heap.size rfl d hdl.out _ _ HD.out ?_) | (guard_target = wpList _ _ _ (⟨some 59, _, _, _, _, _⟩ :: _) _ _; refine wpList_load_dig rfl (.tmp 8) rfl w.heap.size rfl r hr.out _ _ hRr.out ?_))
      go_ret
      have hB3 : Below w3.heap.size w3 wr := HB4.out
      exact ⟨rfl, HB.out.trans (hB3.mono HB.out.size)⟩
end Go.Proofs.YtldpnmebjnkjeaaDoor.TrW
namespace Go.Proofs.YtldpnmebjnkjeaaDoor
open Go
section
variable {P : Program} {ops : Array Oper} {Q : Exit → Act → World → Prop} {md : Region.Mode} {S : World → Prop} {u : Nat}
def wpTill (P : Program) (md : Region.Mode) (ops : Array Oper) (Q : Exit → Act → World → Prop) (S : World → Prop) (u : Nat) : Nat → Array Bool → Act → World → Prop
  | 0, l, a, w => Region.ready md ops l = [] ∧ Q .normal a w
  | f + 1, l, a, w => (Region.ready md ops l = [] → Q .normal a w) ∧ ∀ i ∈ Region.ready md ops l, wpOp P ops Q i (fun a' w' => ((l.setIfInBounds i true).getD u true = false → S w') ∧ wpTill P md ops Q S u f (l.setIfInBounds i true) a' w') a w
theorem wpAny_of_till : ∀ (f : Nat) (l : Array Bool) (a : Act) (w : World), wpTill P md ops Q S u f l a w → wpAny P md ops Q f l a w
  | 0, _, _, _, h => h
  | f + 1, _, _, _, h => ⟨h.1, fun i hi => wpOp_mono (fun _ _ h2 => wpAny_of_till f _ _ _ h2.2) (h.2 i hi)⟩
/-- Behind u nothing more is asked. -/
theorem wpTill_of_any : ∀ (f : Nat) (l : Array Bool) (a : Act) (w : World), l.getD u true = true → wpAny P md ops Q f l a w → wpTill P md ops Q S u f l a w
  | 0, _, _, _, _, h => h
  | f + 1, l, _, _, hu, h => by
    have hk : ∀ i, (l.setIfInBounds i true).getD u true = true := fun i => by
      by_cases hiu : i = u
      · subst hiu
        rcases Nat.lt_or_ge i l.size with h' | h'
        · simp [h']
        · simp [h']
      · rw [getD_set_ne true hiu]; exact hu
    exact ⟨h.1, fun i hi => wpOp_mono (fun a' w' h2 => ⟨fun h3 => (by rw [hk i] at h3; cases h3), wpTill_of_any f _ a' w' (hk i) h2⟩) (h.2 i hi)⟩
/-- j does not come up while one that it waits for has not. -/
theorem not_ready {j m : Nat} {oj : Oper} {l : Array Bool} (ho : ops[j]? = some oj) (hw : (oj.after.any fun e => Region.binds md e && e.on == m) = true) (hm : l.getD m true = false) : j ∉ Region.ready md ops l := by
  intro h
  obtain ⟨_, o, ho2, hall⟩ := mem_ready.1 h
  rw [ho] at ho2
  cases ho2
  rw [Array.any_eq_true] at hw
  obtain ⟨k, hk, he⟩ := hw
  rw [Bool.and_eq_true, beq_iff_eq] at he
  have h1 := hall _ (Array.getElem_mem hk) he.1
  rw [he.2] at h1
  rcases Nat.lt_or_ge m l.size with h' | h'
  · simp [h'] at hm h1; rw [hm] at h1; cases h1
  · simp [h'] at hm
theorem wpTill_first {i m : Nat} {oi om ou : Oper} {v : Value} (hi : ops[i]? = some oi) (hm : ops[m]? = some om) (hu : ops[u]? = some ou)
    (hwm : (om.after.any fun e => Region.binds md e && e.on == i) = true) (hwu : (ou.after.any fun e => Region.binds md e && e.on == m) = true)
    (hsel : ∀ (j : Nat) (o : Oper) cs b, ops[j]? = some o → o.op ≠ .select cs b) (hQ : ∀ c a w, Q (.panic c) (a.put oi.dst v) w → Q (.panic c) a w) :
    ∀ (f : Nat) (l : Array Bool) (a : Act) (w : World),
      (∀ j oj, ops[j]? = some oj → j ≠ i → l.getD j true = false → (∀ e ∈ oj.after, Region.binds md e = true → e.on ≠ i) → oi.apart ops oj = true) →
      i ∈ Region.ready md ops l → l.getD m true = false → l.getD u true = false → YieldsIf P ops S oi v a → S w →
      wpTill P md ops Q S u f (l.setIfInBounds i true) (a.put oi.dst v) w → wpTill P md ops Q S u (f + 1) l a w := by
  intro f
  induction f with
  | zero =>
    intro l a w _ hr hlm hlu hy hS H
    refine ⟨fun h => (by rw [h] at hr; cases hr), fun j hj => ?_⟩
    by_cases hji : j = i
    · subst hji; exact hy.wpOp hi hS ⟨fun _ => hS, H⟩
    · have := ready_mono hj hji
      rw [H.1] at this
      cases this
  | succ f ih =>
    intro l a w hfree hr hlm hlu hy hS H
    refine ⟨fun h => (by rw [h] at hr; cases hr), fun j hj => ?_⟩
    by_cases hji : j = i
    · subst hji; exact hy.wpOp hi hS ⟨fun _ => hS, H⟩
    · have h1 := H.2 j (ready_mono hj hji)
      obtain ⟨hjun, oj, hoj, hall⟩ := mem_ready.1 hj
      have hli := (mem_ready.1 hr).1
      have hjm : j ≠ m := fun e => by subst e; exact not_ready hm hwm hli hj
      have hju : j ≠ u := fun e => by subst e; exact not_ready hu hwu hlm hj
      have hnot : ∀ e ∈ oj.after, Region.binds md e = true → e.on ≠ i := fun e he hb heq => by
        refine not_ready hoj ?_ hli hj
        rw [Array.any_eq_true]
        obtain ⟨k, hk, hke⟩ := Array.mem_iff_getElem.1 he
        exact ⟨k, hk, by rw [hke, hb, heq]; simp⟩
      have h2 := wpOp_putIf hoj (hfree j oj hoj hji hjun hnot) (fun cs b => hsel i oi cs b hi) (fun cs b => hsel j oj cs b hoj) hQ hy h1
      have hfree' : ∀ k ok, ops[k]? = some ok → k ≠ i → (l.setIfInBounds j true).getD k true = false → (∀ e ∈ ok.after, Region.binds md e = true → e.on ≠ i) → oi.apart ops ok = true := fun k ok hk hki hun hno => by
        refine hfree k ok hk hki ?_ hno
        by_cases hjk : j = k
        · subst hjk; exact hjun
        · rw [getD_set_ne true hjk] at hun; exact hun
      have hlm' : (l.setIfInBounds j true).getD m true = false := by rw [getD_set_ne true hjm]; exact hlm
      have hlu' : (l.setIfInBounds j true).getD u true = false := by rw [getD_set_ne true hju]; exact hlu
      have hlu2 : ((l.setIfInBounds i true).setIfInBounds j true).getD u true = false := by
        have hiu : i ≠ u := fun e => by subst e; exact not_ready hu hwu hlm hr
        rw [getD_set_ne true hju, getD_set_ne true hiu]; exact hlu
      refine wpOp_mono (fun a' w' h3 => ⟨fun _ => h3.2.1 hlu2, ih _ a' w' hfree' (ready_mono hr (Ne.symm hji)) hlm' hlu' h3.1 (h3.2.1 hlu2) ?_⟩) h2
      rw [Array.setIfInBounds_comm _ _ hji]
      exact h3.2.2
theorem wpTill_take {i : Nat} (m : Nat) {oi om ou : Oper} {v : Value} {f : Nat} {l : Array Bool} {a : Act} {w : World} (hi : ops[i]? = some oi) (hm : ops[m]? = some om) (hu : ops[u]? = some ou)
    (hwm : (om.after.any fun e => Region.binds md e && e.on == i) = true) (hwu : (ou.after.any fun e => Region.binds md e && e.on == m) = true)
    (hs : Region.noSelect ops = true) (hf : Region.free md ops l i = true) (hr : (Region.ready md ops l).contains i = true) (hlm : l.getD m true = false) (hlu : l.getD u true = false)
    (hQ : ∀ c a w, Q (.panic c) (a.put oi.dst v) w → Q (.panic c) a w) (hy : YieldsIf P ops S oi v a) (hS : S w)
    (h : wpTill P md ops Q S u f (l.setIfInBounds i true) (a.put oi.dst v) w) : wpTill P md ops Q S u (f + 1) l a w :=
  wpTill_first hi hm hu hwm hwu (Region.noSelect_spec hs) hQ f l a w (Region.free_spec hi hf) (by simpa using hr) hlm hlu hy hS h
theorem wpTill_all {rs : List Nat} {f : Nat} {l : Array Bool} {a : Act} {w : World} (hr : Region.ready md ops l = rs) (hne : rs ≠ [])
    (h : ∀ i ∈ rs, wpOp P ops Q i (fun a' w' => ((l.setIfInBounds i true).getD u true = false → S w') ∧ wpTill P md ops Q S u f (l.setIfInBounds i true) a' w') a w) : wpTill P md ops Q S u (f + 1) l a w :=
  ⟨fun h0 => absurd (hr ▸ h0) hne, hr ▸ h⟩
theorem wp_region_till (S : World → Prop) (u : Nat) {id : Nat} {a : Act} {w : World} (hm : P.follows .mixedOrders = true) (h : wpTill P .any ops Q S u ops.size (Array.replicate ops.size false) a { w with drawn := w.drawn + 1 }) : (Code.region id ops true).wp P Q a w :=
  wp_region_any hm (wpAny_of_till _ _ _ _ h)
end
end Go.Proofs.YtldpnmebjnkjeaaDoor
namespace Go.Proofs.YtldpnmebjnkjeaaDoor.TrW
open Go.RowKit Go.Proofs.YtldpnmebjnkjeaaDoorW.PrintWords Go.Proofs.YtldpnmebjnkjeaaDoor.PH1 Go.Proofs.YtldpnmebjnkjeaaDoor Go.Proofs.YtldpnmebjnkjeaaDoorW.PrintLast Go.Proofs.YtldpnmebjnkjeaaDoorW.PrintMore
open Go.Proofs.YtldpnmebjnkjeaaDoor.Sha
open Go.Proofs.YtldpnmebjnkjeaaDoor.Ref10 (wp_store_dig wp_load_dig wpOp_wp range_row)
set_option linter.unusedVariables false
set_option linter.unusedSimpArgs false

/-- What comes of a bridge: both ends. -/
def bridgeE (m n : Nat) (a b f : List UInt8) (ps : List (List UInt8)) : Bool :=
  decide ((Tr.way m n).length = ps.length ∧ Tr.lastX alg f (Tr.way m n).reverse ps = a ∧ Tr.last alg f (Tr.way m n).reverse ps = b)
/-- Does a bridge prove a beginning? -/
def bridgeV (m n : Int) (a b : List UInt8) (bs : List (List UInt8)) : Bool :=
  decide (1 ≤ m ∧ m ≤ n ∧ n ≤ 1024) && (if Tr.whole m.toNat n.toNat then bridgeE m.toNat n.toNat a b a bs else match bs with
    | [] => false
    | f :: ps => bridgeE m.toNat n.toNat a b f ps)
set_option maxHeartbeats 4000000 in
set_option maxRecDepth 100000 in
theorem tCheckBridge_arg (m n : Int) (a b : List UInt8) (ps : List (List UInt8)) (A : Option Addr) (c : Nat) (w : World) (h : m < 1 ∨ n < m ∨ 1024 < n) :
    Calls Tryd.prog 46 #[.int .i64 m, .int .i64 n, .agg (Lib.byteCells a).toArray, .agg (Lib.byteCells b).toArray, .slice A ps.length c] w fun e w' => e = .returned (.bool (bridgeV m n a b ps)) ∧ Below w.heap.size w w' := by
  have hv : bridgeV m n a b ps = false := by unfold bridgeV; rw [decF (by omega), Bool.false_and]
  rw [hv]
  clear hv
  by_cases h0 : m < 1
  · replace h := Lib.hid h
    go_enter Tryd.func46, Tryd.ntmps46
    go_wp2_with fail
    go_ret
    exact ⟨rfl, ((Below.refl _ _).alloc (Nat.le_refl _) _).alloc (by simp) _⟩
  · by_cases h1 : n < m
    · have d0 := decF h0
      replace h := Lib.hid h
      go_enter Tryd.func46, Tryd.ntmps46
      go_wp2_with fail
      go_ret
      exact ⟨rfl, ((Below.refl _ _).alloc (Nat.le_refl _) _).alloc (by simp) _⟩
    · have h2 : 1024 < n := by omega
      have d0 := decF h0
      have d1 := decF h1
      replace h := Lib.hid h
      go_enter Tryd.func46, Tryd.ntmps46
      go_wp2_with fail
      go_ret
      exact ⟨rfl, ((Below.refl _ _).alloc (Nat.le_refl _) _).alloc (by simp) _⟩
theorem dig_lt {p : Nat} {l : List UInt8} {v : World} (h : DigAt p l v) : p < v.heap.size := by
  rcases Nat.lt_or_ge p v.heap.size with h1 | h1
  · exact h1
  · unfold DigAt at h; rw [Array.getElem?_eq_none h1] at h; cases h
theorem zr {d : List UInt8} (h : d.length = 32) : ((Lib.byteCells d).toArray).size = 32 := by rw [List.size_toArray, bc_len h]
theorem yieldsIf_digA {ops : Array Oper} {S : World → Prop} {op : Oper} {a : Act} (hw : Region.wanted op (yielded ops a.tmps) = true) (x : Operand) (ho : op.op = .load 24 x)
    (ad : Addr) (hx : a.eval x = .pointer (some ad)) (l : List UInt8) (hl : l.length = 32) (hS : ∀ w, S w → DigAd ad l w) : YieldsIf Tryd.prog ops S op (.agg (Lib.byteCells l).toArray) a :=
  .inl ⟨hw, fun w h => by
    unfold execOp
    simp only [ho, hx, Instr.loadAt, Instr.sureAddr, Sem.run_bind, Sem.run_pure, Result.andThen_ok, run_load_digA (hS w h) hl]⟩
theorem DigAt.ad {p : Nat} {l : List UInt8} {v : World} (h : DigAt p l v) : DigAd ⟨p, 0, none⟩ l v := by
  intro j u hu
  rw [Addr.add_mid, Nat.zero_add, cell_of_row _ _ _ _ _ _ h]
  simpa using hu
set_option maxRecDepth 100000 in
theorem wp_alloc_dig {o : Oper} {a : Act} {K : Act → World → Prop} {Q : Exit → Act → World → Prop} {w : World} (ho : o.op = .alloc 24)
    (h : ∀ w', Hid (DigAt w.heap.size (List.replicate 32 0) w') → Below w.heap.size w w' → K (a.put o.dst (.pointer (some ⟨w.heap.size, 0, none⟩))) w') : o.wp Tryd.prog a w K Q := by
  unfold Oper.wp execOp
  obtain ⟨i, hi, hz⟩ := Option.map_eq_some_iff.1 info_digest
  simp only [Prod.mk.injEq] at hz
  simp [ho, newVar, newRow, zeroValue, typeInfo, hi, hz.1]
  exact h _ (Lib.hid (heap_alloc_last _ _)) ((Below.refl _ _).alloc (Nat.le_refl _) _)
def S1 (b : Nat) (x : List UInt8) (W : World) : Prop := DigAt b x W
def S3 (b : Nat) (x : List UInt8) (c : Nat) (y : List UInt8) (d : Nat) (z : List UInt8) (W : World) : Prop := DigAt b x W ∧ DigAt c y W ∧ DigAt d z W
set_option maxHeartbeats 8000000 in
set_option maxRecDepth 100000 in
theorem tCheckBridge_w (m n : Nat) (a b : List UInt8) (ha : a.length = 32) (hbl : b.length = 32) (ps : List (List UInt8)) (A : Option Addr) (c : Nat) (w : World) (hC : CD A ps w) (hc : ps.length ≤ c) (hm : 1 ≤ m) (hmn : m ≤ n) (hn : n ≤ 1024) (hw : Tr.whole m n = true) (hK : KAt w) :
    Calls Tryd.prog 46 #[.int .i64 (m : Int), .int .i64 (n : Int), .agg (Lib.byteCells a).toArray, .agg (Lib.byteCells b).toArray, .slice A ps.length c] w fun e w' => e = .returned (.bool (bridgeE m n a b a ps)) ∧ Below w.heap.size w w' := by
  unfold bridgeE
  have hll : Hid ((Tr.way m n).length ≤ 1024) := Lib.hid (by have := way_le n m n (Nat.le_refl _); omega)
  have hcall := fun W => tway_calls m n hm hmn hn W
  rw [hw] at hcall
  generalize Tr.way m n = L at hcall hll ⊢
  obtain ⟨V, hV⟩ : ∃ V, V = decide (L.length = ps.length ∧ Tr.lastX alg a L.reverse ps = a ∧ Tr.last alg a L.reverse ps = b) := ⟨_, rfl⟩
  rw [← hV]
  replace hV := Lib.hid hV
  have d0 : decide ((m : Int) < 1) = false := decF (by omega)
  have d0' : decide (m < 1) = false := decF (by omega)
  have d0'' : decide (m = 0) = false := decF (by omega)
  have d1 : decide ((n : Int) < (m : Int)) = false := decF (by omega)
  have d1' : decide (n < m) = false := decF (by omega)
  have d2 : decide (1024 < (n : Int)) = false := decF (by omega)
  have d2' : decide (1024 < n) = false := decF (by omega)
  replace hcall := Lib.hid hcall
  replace ha := Lib.hid ha
  replace hbl := Lib.hid hbl
  go_enter Tryd.func46, Tryd.ntmps46
  go_upto_region 1 with fail
  generalize hw1 : World.alloc _ _ = w1
  have HA : Hid (DigAt w.heap.size a w1) := by
    rw [← hw1]; refine Lib.hid ?_; unfold DigAt
    rw [Below.heap_alloc _ _ _ (by simp)]; exact heap_alloc_last _ _
  have HD : Hid (DigAt (w.heap.size + 1) b w1) := by
    rw [← hw1]; exact Lib.hid (heap_at1 _ _ _)
  have HB : Hid (Below w.heap.size w w1) := by
    rw [← hw1]; exact Lib.hid (((Below.refl _ _).alloc (Nat.le_refl _) _).alloc (by simp) _)
  clear hw1
  go_wp2_with fail
  refine (hcall.out w1).mono ?_
  rintro e w2 ⟨v, rfl, hv, hb⟩
  obtain ⟨A1, c1, rfl, hc1, hcb⟩ := hv.reads
  replace hcb := Lib.hid hcb
  replace HA := Lib.hid (HA.out.below hb)
  replace HD := Lib.hid (HD.out.below hb)
  replace HB := Lib.hid (HB.out.trans (hb.mono HB.out.size))
  have HC := Lib.hid (hC.below HB.out)
  replace hK := Lib.hid (hK.below HB.out)
  clear hb hcall hv hC
  go_upto_region 5 with (first | (guard_target = wpList _ _ _ (⟨some 35, _, _, _, _, _⟩ :: _) _ _; refine wpList_load_dig rfl (.tmp 7) rfl w.heap.size rfl a ha.out _ _ HA.out ?_) | (guard_target = wpList _ _ _ (⟨none, _, _, _, _, _⟩ :: _) _ _; refine wpList_store_dig rfl (.tmp 13) (.tmp 35) rfl w2.heap.size rfl a ha.out rfl _ _ (heap_alloc_last _ _) zrow ?_; intro w4 h4 _ hB4))
  have HF : Hid (DigAt w2.heap.size a w4) := h4
  have hB4' : Below w2.heap.size w2 w4 := hB4 ((Below.refl _ _).alloc (Nat.le_refl _) _) (Nat.le_refl _)
  clear hB4 h4
  replace hcb := Lib.hid (hcb.out.below hB4')
  replace HA := Lib.hid (HA.out.below hB4')
  replace HD := Lib.hid (HD.out.below hB4')
  replace HC := Lib.hid (HC.out.below hB4')
  replace hK := Lib.hid (hK.out.below hB4')
  have hle2 : w.heap.size ≤ w2.heap.size := HB.out.size
  replace HB := Lib.hid (HB.out.trans (hB4'.mono HB.out.size))
  replace hle2 := Lib.hid hle2
  clear hB4'
  by_cases h : L.length = ps.length
  · have hV2 : V = (decide (Tr.lastX alg a L.reverse ps = a) && decide (Tr.last alg a L.reverse ps = b)) := by rw [hV.out, ← Bool.decide_and]; exact decide_eq_decide.2 ⟨fun h => h.2, fun h2 => ⟨h, h2⟩⟩
    obtain ⟨FX, hFX⟩ : ∃ F, F = Tr.lastX alg a L.reverse ps := ⟨_, rfl⟩
    obtain ⟨FY, hFY⟩ : ∃ F, F = Tr.last alg a L.reverse ps := ⟨_, rfl⟩
    rw [← hFX, ← hFY] at hV2
    replace hFX := Lib.hid hFX
    replace hFY := Lib.hid hFY
    replace hV2 := Lib.hid hV2
    have hps : ps.length ≤ 1024 := by have := hll.out; omega
    rw [h]
    replace h := Lib.hid h
    go_upto_region 11 with fail
    go_cut [14, 15] from 51 to 53 (fun p q wx => ∃ b14 b15 : Nat, p = .pointer (some ⟨b14, 0, none⟩) ∧ q = .pointer (some ⟨b15, 0, none⟩) ∧ Hid (DigAt b14 a wx) ∧ Hid (DigAt b15 a wx) ∧ Hid (b14 ≠ b15 ∧ w4.heap.size ≤ b14 ∧ w4.heap.size ≤ b15) ∧ Hid (Below w4.heap.size w4 wx))
    case first =>
      have hS : S1 w2.heap.size a w4.drew := HF.out
      refine wp_region_held (S := S1 w2.heap.size a) (by kernel_rfl) ?_
      change wpAnyH _ _ _ _ _ _ _ _ w4.drew
      refine wpAnyH_take (i := 0) (v := _) rfl (by kernel_rfl) (by kernel_rfl) (by kernel_rfl) (fun _ _ _ h => h) (yieldsIf_digA (by rfl) (.tmp 13) rfl ⟨w2.heap.size,0,none⟩ rfl a ha.out (fun _ h => (DigAt.ad h))) hS ?_
      try simp only [List.getElem_toArray, List.getElem_cons_succ, List.getElem_cons_zero, Act.put, List.setIfInBounds_toArray, List.set_cons_zero, List.set_cons_succ]
      refine wpAnyH_take (i := 1) (v := _) rfl (by kernel_rfl) (by kernel_rfl) (by kernel_rfl) (fun _ _ _ h => h) (yieldsIf_digA (by rfl) (.tmp 13) rfl ⟨w2.heap.size,0,none⟩ rfl a ha.out (fun _ h => (DigAt.ad h))) hS ?_
      try simp only [List.getElem_toArray, List.getElem_cons_succ, List.getElem_cons_zero, Act.put, List.setIfInBounds_toArray, List.set_cons_zero, List.set_cons_succ]
      clear hS
      have HF1 : Hid (DigAt w2.heap.size a w4.drew) := HF
      have HB1 : Hid (Below w4.heap.size w4 w4.drew) := Lib.hid (Below.refl _ _).drew
      have hz1 : Hid (w4.drew.heap.size = w4.heap.size) := Lib.hid rfl
      generalize w4.drew = v0 at HF1 HB1 hz1 ⊢
      refine wpAnyH_all (rs := [2, 3]) (by kernel_rfl) (by simp) ?_
      intro i hi
      simp only [List.mem_cons, List.not_mem_nil, or_false] at hi
      rcases hi with rfl | rfl
      · skip
        refine wpOp_wp rfl (by rfl) ?_
        refine wp_alloc_dig rfl ?_
        intro v1 HP hb1
        try simp only [List.getElem_toArray, List.getElem_cons_succ, List.getElem_cons_zero, Act.put, List.setIfInBounds_toArray, List.set_cons_zero, List.set_cons_succ]
        have HF2 := Lib.hid (HF1.out.below hb1)
        refine ⟨HF2.out, ?_⟩
        have hlp := dig_lt HP.out
        have hl13 := dig_lt HF1.out
        have hs01 := hb1.size
        refine wpAnyH_all (rs := [3]) (by kernel_rfl) (by simp) ?_
        intro i hi
        simp only [List.mem_cons, List.not_mem_nil, or_false] at hi
        subst hi
        refine wpOp_wp rfl (by rfl) ?_
        refine wp_alloc_dig rfl ?_
        intro v2 HQ hb2
        try simp only [List.getElem_toArray, List.getElem_cons_succ, List.getElem_cons_zero, Act.put, List.setIfInBounds_toArray, List.set_cons_zero, List.set_cons_succ]
        have hlq := dig_lt HQ.out
        replace HP := Lib.hid (HP.out.below hb2)
        replace HF2 := Lib.hid (HF2.out.below hb2)
        have hsz := hb2.size
        refine ⟨HF2.out, ?_⟩
        refine wpAnyH_all (rs := [4]) (by kernel_rfl) (by simp) ?_
        intro i hi
        simp only [List.mem_cons, List.not_mem_nil, or_false] at hi
        subst hi
        refine wpOp_wp rfl (by rfl) ?_
        refine wp_store_dig (.tmp 14) (.tmp 51) rfl v0.heap.size rfl a ha.out rfl _ _ HP.out zrow ?_
        intro v3 h3 hk3 hB3 hs3
        try simp only [List.getElem_toArray, List.getElem_cons_succ, List.getElem_cons_zero, Act.put, List.setIfInBounds_toArray, List.set_cons_zero, List.set_cons_succ]
        refine ⟨?_, ?_⟩
        · show DigAt w2.heap.size a v3
          unfold DigAt; rw [hk3 _ (by omega)]; exact HF2.out
        refine wpAnyH_all (rs := [5]) (by kernel_rfl) (by simp) ?_
        intro i hi
        simp only [List.mem_cons, List.not_mem_nil, or_false] at hi
        subst hi
        refine wpOp_wp rfl (by rfl) ?_
        have h4 : DigAt v1.heap.size (List.replicate 32 0) v3 := by unfold DigAt; rw [hk3 _ (by omega)]; exact HQ.out
        refine wp_store_dig (.tmp 15) (.tmp 52) rfl v1.heap.size rfl a ha.out rfl _ _ h4 zrow ?_
        intro v5 h5 hk5 hB5 hs5
        try simp only [List.getElem_toArray, List.getElem_cons_succ, List.getElem_cons_zero, Act.put, List.setIfInBounds_toArray, List.set_cons_zero, List.set_cons_succ]
        refine ⟨?_, ?_⟩
        · show DigAt w2.heap.size a v5
          unfold DigAt; rw [hk5 _ (by omega), hk3 _ (by omega)]; exact HF2.out
        refine wpAnyH_done (by kernel_rfl) ?_ _
        go_wp2_with fail
        go_meet
        have h35 : DigAt v0.heap.size a v5 := by unfold DigAt; rw [hk5 _ (by omega)]; exact h3.out
        have hbb := hB5 (hB3 ((HB1.out.trans (hb1.mono HB1.out.size)).trans (hb2.mono (Nat.le_trans HB1.out.size hb1.size))) (by have := hz1.out; omega)) (by have := hz1.out; omega)
        exact ⟨_, _, rfl, rfl, Lib.hid h35, h5, Lib.hid (by have := hz1.out; omega), Lib.hid hbb⟩
      · skip
        refine wpOp_wp rfl (by rfl) ?_
        refine wp_alloc_dig rfl ?_
        intro v1 HP hb1
        try simp only [List.getElem_toArray, List.getElem_cons_succ, List.getElem_cons_zero, Act.put, List.setIfInBounds_toArray, List.set_cons_zero, List.set_cons_succ]
        have HF2 := Lib.hid (HF1.out.below hb1)
        refine ⟨HF2.out, ?_⟩
        have hlp := dig_lt HP.out
        have hl13 := dig_lt HF1.out
        have hs01 := hb1.size
        refine wpAnyH_all (rs := [2]) (by kernel_rfl) (by simp) ?_
        intro i hi
        simp only [List.mem_cons, List.not_mem_nil, or_false] at hi
        subst hi
        refine wpOp_wp rfl (by rfl) ?_
        refine wp_alloc_dig rfl ?_
        intro v2 HQ hb2
        try simp only [List.getElem_toArray, List.getElem_cons_succ, List.getElem_cons_zero, Act.put, List.setIfInBounds_toArray, List.set_cons_zero, List.set_cons_succ]
        have hlq := dig_lt HQ.out
        replace HP := Lib.hid (HP.out.below hb2)
        replace HF2 := Lib.hid (HF2.out.below hb2)
        have hsz := hb2.size
        refine ⟨HF2.out, ?_⟩
        refine wpAnyH_all (rs := [4]) (by kernel_rfl) (by simp) ?_
        intro i hi
        simp only [List.mem_cons, List.not_mem_nil, or_false] at hi
        subst hi
        refine wpOp_wp rfl (by rfl) ?_
        refine wp_store_dig (.tmp 14) (.tmp 51) rfl v1.heap.size rfl a ha.out rfl _ _ HQ.out zrow ?_
        intro v3 h3 hk3 hB3 hs3
        try simp only [List.getElem_toArray, List.getElem_cons_succ, List.getElem_cons_zero, Act.put, List.setIfInBounds_toArray, List.set_cons_zero, List.set_cons_succ]
        refine ⟨?_, ?_⟩
        · show DigAt w2.heap.size a v3
          unfold DigAt; rw [hk3 _ (by omega)]; exact HF2.out
        refine wpAnyH_all (rs := [5]) (by kernel_rfl) (by simp) ?_
        intro i hi
        simp only [List.mem_cons, List.not_mem_nil, or_false] at hi
        subst hi
        refine wpOp_wp rfl (by rfl) ?_
        have h4 : DigAt v0.heap.size (List.replicate 32 0) v3 := by unfold DigAt; rw [hk3 _ (by omega)]; exact HP.out
        refine wp_store_dig (.tmp 15) (.tmp 52) rfl v0.heap.size rfl a ha.out rfl _ _ h4 zrow ?_
        intro v5 h5 hk5 hB5 hs5
        try simp only [List.getElem_toArray, List.getElem_cons_succ, List.getElem_cons_zero, Act.put, List.setIfInBounds_toArray, List.set_cons_zero, List.set_cons_succ]
        refine ⟨?_, ?_⟩
        · show DigAt w2.heap.size a v5
          unfold DigAt; rw [hk5 _ (by omega), hk3 _ (by omega)]; exact HF2.out
        refine wpAnyH_done (by kernel_rfl) ?_ _
        go_wp2_with fail
        go_meet
        have h35 : DigAt v1.heap.size a v5 := by unfold DigAt; rw [hk5 _ (by omega)]; exact h3.out
        have hbb := hB5 (hB3 ((HB1.out.trans (hb1.mono HB1.out.size)).trans (hb2.mono (Nat.le_trans HB1.out.size hb1.size))) (by have := hz1.out; omega)) (by have := hz1.out; omega)
        exact ⟨_, _, rfl, rfl, Lib.hid h35, h5, Lib.hid (by have := hz1.out; omega), Lib.hid hbb⟩
    case rest =>
      obtain ⟨b14, b15, rfl, rfl, H14, H15, hbb, HB5⟩ := hcut
      rename_i wc
      have HX : Hid (Tr.lastX alg a (L.reverse.drop 0) (ps.drop 0) = FX) := Lib.hid hFX.out.symm
      have HY : Hid (Tr.last alg a (L.reverse.drop 0) (ps.drop 0) = FY) := Lib.hid hFY.out.symm
      go_wp2_with fail
      go_loopw [55] (fun a0 wx => ∃ (k : Nat) (x y : List UInt8), a0 = .int .i64 k ∧ k ≤ ps.length ∧ Hid (x.length = 32) ∧ Hid (y.length = 32) ∧ Hid (DigAt b14 x wx) ∧ Hid (DigAt b15 y wx) ∧ Hid (Tr.lastX alg x (L.reverse.drop k) (ps.drop k) = FX) ∧ Hid (Tr.last alg y (L.reverse.drop k) (ps.drop k) = FY) ∧ Hid (Below w4.heap.size w4 wx)) (fun a0 _ => ps.length - (intOf a0).toNat)
      case atStart => exact ⟨0, a, a, rfl, Nat.zero_le _, ha, ha, H14, H15, HX, HY, HB5⟩
      case round =>
        clear HX HY H14 H15 HB5
        obtain ⟨k, x, y, rfl, hk, hxl, hyl, H14, H15, HX, HY, HB5⟩ := hrel
        by_cases hkn : k < ps.length
        · have hkn' : (k : Int) < (ps.length : Int) := by omega
          obtain ⟨q, hq⟩ : ∃ q : Nat, q = ps.length - 1 - k := ⟨_, rfl⟩
          have hq' : (ps.length : Int) - 1 - (k : Int) = (q : Int) := by omega
          have hqn : q < ps.length := by omega
          have hqn' : (q : Int) < (ps.length : Int) := by omega
          obtain ⟨p, hp⟩ : ∃ p, ps[k]? = some p := ⟨_, List.getElem?_eq_getElem hkn⟩
          obtain ⟨t, ht⟩ : ∃ t, L[q]? = some t := ⟨_, List.getElem?_eq_getElem (by rw [h.out]; exact hqn)⟩
          have htr : L.reverse[k]? = some t := by rw [List.getElem?_reverse (by rw [h.out]; exact hkn), h.out, ← hq]; exact ht
          rw [last_drop L.reverse ps y k t p htr hp] at HY
          rw [lastX_drop L.reverse ps x k t p htr hp] at HX
          obtain ⟨hpl, ad, hA, hda⟩ := (HC.out.below HB5.out).get hp
          obtain ⟨ad1, hA1, hcb1⟩ := (hcb.out.below HB5.out).get ht
          subst hA hA1
          replace hp := Lib.hid hp
          replace ht := Lib.hid ht
          replace htr := Lib.hid htr
          replace hq := Lib.hid hq
          replace hpl := Lib.hid hpl
          replace hda := Lib.hid hda
          replace hcb1 := Lib.hid hcb1
          go_upto_region 15 with (first | (guard_target = wpList _ _ _ (⟨some 59, _, _, _, _, _⟩ :: _) _ _; refine wpList_load_digA rfl (.tmp 58) rfl (ad.add (k * 32)) rfl p hpl.out hda.out ?_) | (guard_target = wpList _ _ _ (⟨none, _, _, _, _, _⟩ :: _) _ _; refine wpList_store_dig rfl (.tmp 17) (.tmp 59) rfl wr.heap.size rfl p hpl.out rfl _ _ (heap_alloc_last _ _) zrow ?_; intro w5 h5 _ hB5))
          have hB5' := hB5 ((Below.refl wr.heap.size wr).alloc (Nat.le_refl _) _) (Nat.le_refl _)
          have H17 : Hid (DigAt wr.heap.size p w5) := h5
          have hl14 := dig_lt H14.out
          have hl15 := dig_lt H15.out
          replace H14 := Lib.hid (H14.out.below hB5')
          replace H15 := Lib.hid (H15.out.below hB5')
          have HB3 := Lib.hid (HB5.out.trans (hB5'.mono HB5.out.size))
          obtain ⟨ad2, hA2, hcb5⟩ := (hcb.out.below HB3.out).get ht.out
          cases hA2
          clear hB5 h5 hB5' hcb1 hda HB5
          obtain ⟨b17, hb17⟩ : ∃ b, b = wr.heap.size := ⟨_, rfl⟩
          rw [← hb17] at H17 hl14 hl15 ⊢
          replace hb17 := Lib.hid hb17
          have zx := zr hxl.out
          have zy := zr hyl.out
          have hcb1 := hcb5
          have hne45 := hbb.out
          clear hcb5
          cases t with
          | true =>
            go_wp2_with (first | (guard_target = wpList _ _ _ (⟨some 68, _, _, _, _, _⟩ :: _) _ _; refine wpList_load_dig rfl (.tmp 15) rfl b15 rfl y hyl.out _ _ H15.out ?_) | (guard_target = wpList _ _ _ (⟨some 69, _, _, _, _, _⟩ :: _) _ _; refine wpList_load_dig rfl (.tmp 17) rfl b17 rfl p hpl.out _ _ H17.out ?_))
            refine (tjoin_calls y p hyl.out hpl.out w5 (hK.out.below HB3.out)).mono ?_
            rintro e w6 ⟨rfl, hb6⟩
            have HJ : Hid ((joinP y p).length = 32) := Lib.hid (sumL_len _)
            replace H14 := Lib.hid (H14.out.below hb6)
            replace H15 := Lib.hid (H15.out.below hb6)
            replace HB3 := Lib.hid (HB3.out.trans (hb6.mono HB3.out.size))
            have hmx : Hid (Tr.last alg (joinP y p) (L.reverse.drop (k + 1)) (ps.drop (k + 1)) = FY) := HY
            have hmX : Hid (Tr.lastX alg x (L.reverse.drop (k + 1)) (ps.drop (k + 1)) = FX) := HX
            generalize joinP y p = J at HJ hmx ⊢
            clear hb6 hcb1 H17
            go_wp2_with (guard_target = wpList _ _ _ (⟨none, _, _, _, _, _⟩ :: _) _ _; refine wpList_store_dig rfl (.tmp 15) (.tmp 70) rfl b15 rfl J HJ.out rfl _ _ H15.out zy ?_; intro w7 h7 hk7 hB7)
            have H14' : Hid (DigAt b14 x w7) := by refine Lib.hid ?_; unfold DigAt; rw [hk7 _ hne45.1]; exact H14.out
            refine ⟨⟨k + 1, x, J, by go_num, by omega, hxl, HJ, H14', h7, hmX, hmx, Lib.hid (hB7 HB3.out hne45.2.2)⟩, ?_⟩
            simp [intOf]
            omega
          | false =>
            go_upto_region 17 with fail
            have hS : S3 b14 x b15 y b17 p w5.drew := ⟨H14.out, H15.out, H17.out⟩
            replace H14 : Hid (DigAt b14 x w5.drew) := H14
            replace H15 : Hid (DigAt b15 y w5.drew) := H15
            replace H17 : Hid (DigAt b17 p w5.drew) := H17
            replace HB3 := Lib.hid HB3.out.drew
            refine wp_region_till (S3 b14 x b15 y b17 p) 6 (by kernel_rfl) ?_
            change wpTill _ _ _ _ _ _ _ _ _ w5.drew
            generalize w5.drew = v5 at hS H14 H15 H17 HB3 ⊢
            refine wpTill_take (i := 0) 2 (v := _) rfl rfl rfl (by kernel_rfl) (by kernel_rfl) (by kernel_rfl) (by kernel_rfl) (by kernel_rfl) (by kernel_rfl) (by kernel_rfl) (fun _ _ _ h => h) (yieldsIf_digA (by rfl) (.tmp 17) rfl ⟨b17,0,none⟩ rfl p hpl.out (fun _ h => (DigAt.ad h.2.2))) hS ?_
            try simp only [List.getElem_toArray, List.getElem_cons_succ, List.getElem_cons_zero, Act.put, List.setIfInBounds_toArray, List.set_cons_zero, List.set_cons_succ]
            refine wpTill_take (i := 1) 2 (v := _) rfl rfl rfl (by kernel_rfl) (by kernel_rfl) (by kernel_rfl) (by kernel_rfl) (by kernel_rfl) (by kernel_rfl) (by kernel_rfl) (fun _ _ _ h => h) (yieldsIf_digA (by rfl) (.tmp 14) rfl ⟨b14,0,none⟩ rfl x hxl.out (fun _ h => (DigAt.ad h.1))) hS ?_
            try simp only [List.getElem_toArray, List.getElem_cons_succ, List.getElem_cons_zero, Act.put, List.setIfInBounds_toArray, List.set_cons_zero, List.set_cons_succ]
            refine wpTill_take (i := 3) 5 (v := _) rfl rfl rfl (by kernel_rfl) (by kernel_rfl) (by kernel_rfl) (by kernel_rfl) (by kernel_rfl) (by kernel_rfl) (by kernel_rfl) (fun _ _ _ h => h) (yieldsIf_digA (by rfl) (.tmp 17) rfl ⟨b17,0,none⟩ rfl p hpl.out (fun _ h => (DigAt.ad h.2.2))) hS ?_
            try simp only [List.getElem_toArray, List.getElem_cons_succ, List.getElem_cons_zero, Act.put, List.setIfInBounds_toArray, List.set_cons_zero, List.set_cons_succ]
            refine wpTill_take (i := 4) 5 (v := _) rfl rfl rfl (by kernel_rfl) (by kernel_rfl) (by kernel_rfl) (by kernel_rfl) (by kernel_rfl) (by kernel_rfl) (by kernel_rfl) (fun _ _ _ h => h) (yieldsIf_digA (by rfl) (.tmp 15) rfl ⟨b15,0,none⟩ rfl y hyl.out (fun _ h => (DigAt.ad h.2.1))) hS ?_
            try simp only [List.getElem_toArray, List.getElem_cons_succ, List.getElem_cons_zero, Act.put, List.setIfInBounds_toArray, List.set_cons_zero, List.set_cons_succ]
            refine wpTill_all (rs := [2]) (by kernel_rfl) (by simp) ?_
            intro i hi
            simp only [List.mem_cons, List.not_mem_nil, or_false] at hi
            subst hi
            refine wpOp_wp rfl (by rfl) ?_
            go_simp
            refine (tjoin_calls p x hpl.out hxl.out v5 (hK.out.below HB3.out)).mono ?_
            rintro e w6 ⟨rfl, hb6⟩
            replace H14 := Lib.hid (H14.out.below hb6)
            replace H15 := Lib.hid (H15.out.below hb6)
            replace H17 := Lib.hid (H17.out.below hb6)
            replace HB3 := Lib.hid (HB3.out.trans (hb6.mono HB3.out.size))
            clear hb6 hS
            have hS : S3 b14 x b15 y b17 p w6 := ⟨H14.out, H15.out, H17.out⟩
            refine ⟨by first | exact hS | exact fun _ => hS, ?_⟩
            try simp only [List.getElem_toArray, List.getElem_cons_succ, List.getElem_cons_zero, Act.put, List.setIfInBounds_toArray, List.set_cons_zero, List.set_cons_succ]
            refine wpTill_all (rs := [5]) (by kernel_rfl) (by simp) ?_
            intro i hi
            simp only [List.mem_cons, List.not_mem_nil, or_false] at hi
            subst hi
            refine wpOp_wp rfl (by rfl) ?_
            go_simp
            refine (tjoin_calls p y hpl.out hyl.out w6 (hK.out.below HB3.out)).mono ?_
            rintro e w7 ⟨rfl, hb7⟩
            replace H14 := Lib.hid (H14.out.below hb7)
            replace H15 := Lib.hid (H15.out.below hb7)
            replace H17 := Lib.hid (H17.out.below hb7)
            replace HB3 := Lib.hid (HB3.out.trans (hb7.mono HB3.out.size))
            clear hb7 hS
            have hS : S3 b14 x b15 y b17 p w7 := ⟨H14.out, H15.out, H17.out⟩
            refine ⟨by first | exact hS | exact fun _ => hS, ?_⟩
            try simp only [List.getElem_toArray, List.getElem_cons_succ, List.getElem_cons_zero, Act.put, List.setIfInBounds_toArray, List.set_cons_zero, List.set_cons_succ]
            have HJ : Hid ((joinP p y).length = 32) := Lib.hid (sumL_len _)
            have HI : Hid ((joinP p x).length = 32) := Lib.hid (sumL_len _)
            have hmx : Hid (Tr.last alg (joinP p y) (L.reverse.drop (k + 1)) (ps.drop (k + 1)) = FY) := HY
            have hmX : Hid (Tr.lastX alg (joinP p x) (L.reverse.drop (k + 1)) (ps.drop (k + 1)) = FX) := HX
            generalize joinP p y = J at HJ hmx ⊢
            generalize joinP p x = I at HI hmX ⊢
            refine wpTill_all (rs := [6]) (by kernel_rfl) (by simp) ?_
            intro i hi
            simp only [List.mem_cons, List.not_mem_nil, or_false] at hi
            subst hi
            refine wpOp_wp rfl (by rfl) ?_
            refine wp_store_dig (.tmp 14) (.tmp 73) rfl b14 rfl I HI.out rfl _ _ H14.out zx ?_
            intro w8 h8 hk8 hB8 hs8
            refine ⟨fun h3 => (nomatch (show true = false from h3)), ?_⟩
            try simp only [List.getElem_toArray, List.getElem_cons_succ, List.getElem_cons_zero, Act.put, List.setIfInBounds_toArray, List.set_cons_zero, List.set_cons_succ]
            refine wpTill_of_any _ _ _ _ (by kernel_rfl) ?_
            refine wpAny_all (rs := [7]) (by kernel_rfl) (by simp) ?_
            intro i hi
            simp only [List.mem_cons, List.not_mem_nil, or_false] at hi
            subst hi
            refine wpOp_wp rfl (by rfl) ?_
            have H15' : DigAt b15 y w8 := by unfold DigAt; rw [hk8 _ (Ne.symm hne45.1)]; exact H15.out
            refine wp_store_dig (.tmp 15) (.tmp 76) rfl b15 rfl J HJ.out rfl _ _ H15' zy ?_
            intro w9 h9 hk9 hB9 hs9
            try simp only [List.getElem_toArray, List.getElem_cons_succ, List.getElem_cons_zero, Act.put, List.setIfInBounds_toArray, List.set_cons_zero, List.set_cons_succ]
            refine wpAny_done (by kernel_rfl) ?_ _
            have H14' : Hid (DigAt b14 I w9) := by refine Lib.hid ?_; unfold DigAt; rw [hk9 _ hne45.1]; exact h8.out
            have HBe := Lib.hid (hB9 (hB8 HB3.out hne45.2.1) hne45.2.2)
            clear hB9 hB8 hk8 hk9
            go_wp2_with fail
            refine ⟨⟨k + 1, I, J, by go_num, by omega, HI, HJ, H14', h9, hmX, hmx, HBe⟩, ?_⟩
            simp [intOf]
            omega
        · have hkn' : ¬ (k : Int) < (ps.length : Int) := by omega
          rw [List.drop_eq_nil_of_le (by omega : ps.length ≤ k)] at HX HY
          have hxF : x = FX := by
            have := HX.out
            rw [List.drop_eq_nil_of_le (by rw [List.length_reverse, h.out]; omega)] at this
            exact this
          have hyF : y = FY := by
            have := HY.out
            rw [List.drop_eq_nil_of_le (by rw [List.length_reverse, h.out]; omega)] at this
            exact this
          rw [← hxF, ← hyF] at hV2
          replace hxF := Lib.hid hxF
          replace hyF := Lib.hid hyF
          have heq1 := fun v : World => eq32 v x a hxl.out ha.out
          have heq2 := fun v : World => eq32 v y b hyl.out hbl.out
          have H7 : Hid (DigAt w.heap.size a wr) := Lib.hid (HA.out.below HB5.out)
          have H8 : Hid (DigAt (w.heap.size + 1) b wr) := Lib.hid (HD.out.below HB5.out)
          have hBe := Lib.hid (HB.out.trans (HB5.out.mono HB.out.size))
          by_cases hxa : x = a
          · have hd := decT hxa
            replace hxa := Lib.hid hxa
            go_wp2_with (first | (guard_target = wpList _ _ _ (⟨some 78, _, _, _, _, _⟩ :: _) _ _; refine wpList_load_dig rfl (.tmp 14) rfl b14 rfl x hxl.out _ _ H14.out ?_) | (guard_target = wpList _ _ _ (⟨some 79, _, _, _, _, _⟩ :: _) _ _; refine wpList_load_dig rfl (.tmp 7) rfl w.heap.size rfl a ha.out _ _ H7.out ?_) | (guard_target = wpList _ _ _ (⟨some 82, _, _, _, _, _⟩ :: _) _ _; refine wpList_load_digG rfl (.tmp 15) rfl b15 rfl y hyl.out _ _ H15.out ?_) | (guard_target = wpList _ _ _ (⟨some 83, _, _, _, _, _⟩ :: _) _ _; refine wpList_load_digG rfl (.tmp 8) rfl (w.heap.size + 1) rfl b hbl.out _ _ H8.out ?_))
            go_ret
            exact ⟨by rw [hV2.out, hd, Bool.true_and]; rfl, hBe.out⟩
          · have hd := decF hxa
            replace hxa := Lib.hid hxa
            go_wp2_with (first | (guard_target = wpList _ _ _ (⟨some 78, _, _, _, _, _⟩ :: _) _ _; refine wpList_load_dig rfl (.tmp 14) rfl b14 rfl x hxl.out _ _ H14.out ?_) | (guard_target = wpList _ _ _ (⟨some 79, _, _, _, _, _⟩ :: _) _ _; refine wpList_load_dig rfl (.tmp 7) rfl w.heap.size rfl a ha.out _ _ H7.out ?_))
            go_ret
            exact ⟨by rw [hV2.out, hd, Bool.false_and]; rfl, hBe.out⟩
  · have hV2 : V = false := by rw [hV.out]; exact decF (fun h2 => h h2.1)
    subst hV2
    have hne : ((L.length : Int) == (ps.length : Int)) = false := by rw [beq_eq_false_iff_ne]; omega
    have hne2 : (L.length == ps.length) = false := by rw [beq_eq_false_iff_ne]; exact h
    replace h := Lib.hid h
    go_wp2_with fail
    go_ret
    exact ⟨rfl, HB.out⟩
end Go.Proofs.YtldpnmebjnkjeaaDoor.TrW
namespace Go.Proofs.YtldpnmebjnkjeaaDoor.TrW
open Go.RowKit Go.Proofs.YtldpnmebjnkjeaaDoorW.PrintWords Go.Proofs.YtldpnmebjnkjeaaDoor.PH1 Go.Proofs.YtldpnmebjnkjeaaDoor Go.Proofs.YtldpnmebjnkjeaaDoorW.PrintLast Go.Proofs.YtldpnmebjnkjeaaDoorW.PrintMore
open Go.Proofs.YtldpnmebjnkjeaaDoor.Sha
open Go.Proofs.YtldpnmebjnkjeaaDoor.Ref10 (wp_store_dig wp_load_dig wpOp_wp range_row)
set_option linter.unusedVariables false
set_option linter.unusedSimpArgs false

theorem dig_info : ∃ i : TypeInfo, Tryd.prog.info? 24 = some i ∧ i.size = 32 := by
  have h : (Tryd.prog.info? 24).map (fun i => i.size) = some 32 := by kernel_rfl
  cases hq : Tryd.prog.info? 24 with
  | none => rw [hq] at h; cases h
  | some i => rw [hq] at h; exact ⟨i, rfl, Option.some.inj h⟩
theorem und_digs : Tryd.prog.underlying 61 = some (.slice 24) := by kernel_rfl
theorem und_digs' : Tryd.prog.underlying 61 = some (.slice (Tryd.prog.elem 61)) := by kernel_rfl
/-- The digests behind the first k. -/
theorem cutd_drop {A : Option Addr} {c : Nat} {ps : List (List UInt8)} (k : Nat) (hk : k ≤ ps.length) (hc : ps.length ≤ c) :
    ∃ A' : Option Addr, (∀ W : World, (Instr.slice 61 (.slice A ps.length c) (some (.int .i64 (k : Int))) none none).run Tryd.prog W = .ok (.slice A' (ps.drop k).length (c - k)) W) ∧
      (∀ w : World, CD A ps w → CD A' (ps.drop k) w) ∧ (ps.drop k).length ≤ c - k := by
  obtain ⟨i, hi, hs⟩ := dig_info
  refine ⟨if c = k then A else A.map (·.add (k * 32)), fun W => ?_, fun w h => ?_, by rw [List.length_drop]; omega⟩
  · have h := cut_from (P := Tryd.prog) 61 24 .i64 und_digs hi 32 hs A ps.length c (k : Int) (by omega) (by omega) W
    rw [Int.toNat_natCast] at h
    rw [h, List.length_drop]
  · exact Kd.C_drop (k := kDig) h hk hc
theorem add_zero' (ad : Addr) : ad.add 0 = ad := by unfold Addr.add; simp
set_option maxHeartbeats 4000000 in
set_option maxRecDepth 100000 in
/-- No digest, and the first ones are not whole. -/
theorem tCheckBridge_e (m n : Nat) (a b : List UInt8) (ha : a.length = 32) (hbl : b.length = 32) (A0 : Option Addr) (c0 : Nat) (w : World) (hm : 1 ≤ m) (hmn : m ≤ n) (hn : n ≤ 1024) (hw : Tr.whole m n = false) :
    Calls Tryd.prog 46 #[.int .i64 (m : Int), .int .i64 (n : Int), .agg (Lib.byteCells a).toArray, .agg (Lib.byteCells b).toArray, .slice A0 0 c0] w fun e w' => e = .returned (.bool false) ∧ Below w.heap.size w w' := by
  have hll : Hid ((Tr.way m n).length ≤ 1024) := Lib.hid (by have := way_le n m n (Nat.le_refl _); omega)
  have hcall := fun W => tway_calls m n hm hmn hn W
  rw [hw] at hcall
  generalize Tr.way m n = L at hcall hll
  have d0 : decide ((m : Int) < 1) = false := decF (by omega)
  have d0' : decide (m < 1) = false := decF (by omega)
  have d0'' : decide (m = 0) = false := decF (by omega)
  have d1 : decide ((n : Int) < (m : Int)) = false := decF (by omega)
  have d1' : decide (n < m) = false := decF (by omega)
  have d2 : decide (1024 < (n : Int)) = false := decF (by omega)
  have d2' : decide (1024 < n) = false := decF (by omega)
  replace hcall := Lib.hid hcall
  replace ha := Lib.hid ha
  replace hbl := Lib.hid hbl
  go_enter Tryd.func46, Tryd.ntmps46
  go_upto_region 1 with fail
  generalize hw1 : World.alloc _ _ = w1
  have HA : Hid (DigAt w.heap.size a w1) := by
    rw [← hw1]; refine Lib.hid ?_; unfold DigAt
    rw [Below.heap_alloc _ _ _ (by simp)]; exact heap_alloc_last _ _
  have HD : Hid (DigAt (w.heap.size + 1) b w1) := by
    rw [← hw1]; exact Lib.hid (heap_at1 _ _ _)
  have HB : Hid (Below w.heap.size w w1) := by
    rw [← hw1]; exact Lib.hid (((Below.refl _ _).alloc (Nat.le_refl _) _).alloc (by simp) _)
  clear hw1
  go_wp2_with fail
  refine (hcall.out w1).mono ?_
  rintro e w2 ⟨v, rfl, hv, hb⟩
  obtain ⟨A1, c1, rfl, hc1, hcb⟩ := hv.reads
  replace hcb := Lib.hid hcb
  replace HA := Lib.hid (HA.out.below hb)
  replace HD := Lib.hid (HD.out.below hb)
  replace HB := Lib.hid (HB.out.trans (hb.mono HB.out.size))
  clear hb hcall hv
  go_upto_region 5 with (first | (guard_target = wpList _ _ _ (⟨some 35, _, _, _, _, _⟩ :: _) _ _; refine wpList_load_dig rfl (.tmp 7) rfl w.heap.size rfl a ha.out _ _ HA.out ?_) | (guard_target = wpList _ _ _ (⟨none, _, _, _, _, _⟩ :: _) _ _; refine wpList_store_dig rfl (.tmp 13) (.tmp 35) rfl w2.heap.size rfl a ha.out rfl _ _ (heap_alloc_last _ _) zrow ?_; intro w4 h4 _ hB4))
  have HF : Hid (DigAt w2.heap.size a w4) := h4
  have hB4' : Below w2.heap.size w2 w4 := hB4 ((Below.refl _ _).alloc (Nat.le_refl _) _) (Nat.le_refl _)
  clear hB4 h4
  replace hcb := Lib.hid (hcb.out.below hB4')
  replace HA := Lib.hid (HA.out.below hB4')
  replace HD := Lib.hid (HD.out.below hB4')
  have hle2 : w.heap.size ≤ w2.heap.size := HB.out.size
  replace HB := Lib.hid (HB.out.trans (hB4'.mono HB.out.size))
  replace hle2 := Lib.hid hle2
  clear hB4'
  go_wp2_with fail
  go_ret
  exact ⟨rfl, HB.out⟩
set_option maxHeartbeats 8000000 in
set_option maxRecDepth 100000 in
theorem tCheckBridge_n (m n : Nat) (a b f : List UInt8) (ha : a.length = 32) (hbl : b.length = 32) (ps : List (List UInt8)) (A0 : Option Addr) (c0 : Nat) (w : World) (hC : CD A0 (f :: ps) w) (hc : (f :: ps).length ≤ c0) (hm : 1 ≤ m) (hmn : m ≤ n) (hn : n ≤ 1024) (hw : Tr.whole m n = false) (hK : KAt w) :
    Calls Tryd.prog 46 #[.int .i64 (m : Int), .int .i64 (n : Int), .agg (Lib.byteCells a).toArray, .agg (Lib.byteCells b).toArray, .slice A0 (f :: ps).length c0] w fun e w' => e = .returned (.bool (bridgeE m n a b f ps)) ∧ Below w.heap.size w w' := by
  obtain ⟨A, hcut, hCt, hcl⟩ := cutd_drop (A := A0) (c := c0) (ps := f :: ps) 1 (by simp) hc
  rw [show (f :: ps).drop 1 = ps from rfl] at hcut hCt hcl
  have hfl : Hid (f.length = 32) := Lib.hid (hC.get (k := 0) (p := f) rfl).1
  obtain ⟨hfl', ad, hA0, hda⟩ := hC.get (k := 0) (p := f) rfl
  subst hA0
  rw [Nat.zero_mul, add_zero'] at hda
  have hdad : Hid (∀ W, CD (some ad) (f :: ps) W → DigAd ad f W) := by
    refine Lib.hid fun W h => ?_
    obtain ⟨_, ad2, h1, h2⟩ := h.get (k := 0) (p := f) rfl
    rw [Nat.zero_mul, add_zero'] at h2
    cases h1
    exact h2
  have hcA : Hid (ps.length ≤ c0 - 1) := Lib.hid hcl
  obtain ⟨c, hcc⟩ : ∃ c, c = c0 - 1 := ⟨_, rfl⟩
  rw [← hcc] at hcut hcl hcA
  replace hcc := Lib.hid hcc
  replace hcut := Lib.hid hcut
  replace hCt := Lib.hid hCt
  clear hda hfl'
  have hC0 := Lib.hid hC
  obtain ⟨N, hN⟩ : ∃ N, N = (f :: ps).length := ⟨_, rfl⟩
  have hN1 : 0 < N := by rw [hN]; simp
  have hN0 : (N == 0) = false := by rw [beq_eq_false_iff_ne]; omega
  have hN0' : ((N : Int) == 0) = false := by rw [beq_eq_false_iff_ne]; omega
  rw [← hN] at hc hcut ⊢
  replace hN := Lib.hid hN
  unfold bridgeE
  have hll : Hid ((Tr.way m n).length ≤ 1024) := Lib.hid (by have := way_le n m n (Nat.le_refl _); omega)
  have hcall := fun W => tway_calls m n hm hmn hn W
  rw [hw] at hcall
  generalize Tr.way m n = L at hcall hll ⊢
  obtain ⟨V, hV⟩ : ∃ V, V = decide (L.length = ps.length ∧ Tr.lastX alg f L.reverse ps = a ∧ Tr.last alg f L.reverse ps = b) := ⟨_, rfl⟩
  rw [← hV]
  replace hV := Lib.hid hV
  have d0 : decide ((m : Int) < 1) = false := decF (by omega)
  have d0' : decide (m < 1) = false := decF (by omega)
  have d0'' : decide (m = 0) = false := decF (by omega)
  have d1 : decide ((n : Int) < (m : Int)) = false := decF (by omega)
  have d1' : decide (n < m) = false := decF (by omega)
  have d2 : decide (1024 < (n : Int)) = false := decF (by omega)
  have d2' : decide (1024 < n) = false := decF (by omega)
  replace hcall := Lib.hid hcall
  replace ha := Lib.hid ha
  replace hbl := Lib.hid hbl
  go_enter Tryd.func46, Tryd.ntmps46
  go_upto_region 1 with fail
  generalize hw1 : World.alloc _ _ = w1
  have HA : Hid (DigAt w.heap.size a w1) := by
    rw [← hw1]; refine Lib.hid ?_; unfold DigAt
    rw [Below.heap_alloc _ _ _ (by simp)]; exact heap_alloc_last _ _
  have HD : Hid (DigAt (w.heap.size + 1) b w1) := by
    rw [← hw1]; exact Lib.hid (heap_at1 _ _ _)
  have HB : Hid (Below w.heap.size w w1) := by
    rw [← hw1]; exact Lib.hid (((Below.refl _ _).alloc (Nat.le_refl _) _).alloc (by simp) _)
  clear hw1
  go_wp2_with fail
  refine (hcall.out w1).mono ?_
  rintro e w2 ⟨v, rfl, hv, hb⟩
  obtain ⟨A1, c1, rfl, hc1, hcb⟩ := hv.reads
  replace hcb := Lib.hid hcb
  replace HA := Lib.hid (HA.out.below hb)
  replace HD := Lib.hid (HD.out.below hb)
  replace HB := Lib.hid (HB.out.trans (hb.mono HB.out.size))
  have HC := Lib.hid (hC.below HB.out)
  replace hK := Lib.hid (hK.below HB.out)
  clear hb hcall hv hC
  have hlt2 := Lib.hid (dig_lt HD.out)
  have hcb2 := hcb
  have HA2 := HA
  have HD2 := HD
  have HC2 := HC
  have hK2 := hK
  have HB2 := HB
  go_upto_region 5 with (first | (guard_target = wpList _ _ _ (⟨some 35, _, _, _, _, _⟩ :: _) _ _; refine wpList_load_dig rfl (.tmp 7) rfl w.heap.size rfl a ha.out _ _ HA.out ?_) | (guard_target = wpList _ _ _ (⟨none, _, _, _, _, _⟩ :: _) _ _; refine wpList_store_dig rfl (.tmp 13) (.tmp 35) rfl w2.heap.size rfl a ha.out rfl _ _ (heap_alloc_last _ _) zrow ?_; intro w4 h4 _ hB4))
  have HF : Hid (DigAt w2.heap.size a w4) := h4
  have hB4' : Below w2.heap.size w2 w4 := hB4 ((Below.refl _ _).alloc (Nat.le_refl _) _) (Nat.le_refl _)
  clear hB4 h4
  replace hcb := Lib.hid (hcb.out.below hB4')
  replace HA := Lib.hid (HA.out.below hB4')
  replace HD := Lib.hid (HD.out.below hB4')
  replace HC := Lib.hid (HC.out.below hB4')
  replace hK := Lib.hid (hK.out.below hB4')
  have hle2 : w.heap.size ≤ w2.heap.size := HB.out.size
  replace HB := Lib.hid (HB.out.trans (hB4'.mono HB.out.size))
  replace hle2 := Lib.hid hle2
  replace hB4' := Lib.hid hB4'
  go_upto_region 8 with fail
  have hS : (fun W => DigAd ad f W) w4.drew := hdad.out _ (HC.out.below ((Below.refl _ _).drew))
  replace HF : Hid (DigAt w2.heap.size a w4.drew) := HF
  replace hB4' : Hid (Below w2.heap.size w2 w4.drew) := Lib.hid hB4'.out.drew
  replace HB : Hid (Below w.heap.size w w4.drew) := Lib.hid HB.out.drew
  clear HA HD HC hcb hK
  refine wp_region_held (S := fun W => DigAd ad f W) (by kernel_rfl) ?_
  change wpAnyH _ _ _ _ _ _ _ _ w4.drew
  generalize w4.drew = v4 at hS HF hB4' HB ⊢
  refine wpAnyH_take (i := 0) (v := ?_) rfl (by kernel_rfl) (by kernel_rfl) (by kernel_rfl) (fun _ _ _ h => h) (Or.inl ⟨by rfl, ?_⟩) hS ?_
  rotate_left
  · intro v _; go_simp; first | done | with_reducible rfl
  rotate_left
  simp only [List.getElem_toArray, List.getElem_cons_succ, List.getElem_cons_zero, Act.put, List.setIfInBounds_toArray, List.set_cons_zero, List.set_cons_succ]
  refine wpAnyH_take (i := 1) (v := ?_) rfl (by kernel_rfl) (by kernel_rfl) (by kernel_rfl) (fun _ _ _ h => h) (Or.inl ⟨by rfl, ?_⟩) hS ?_
  rotate_left
  · intro v _; go_simp; first | done | with_reducible rfl
  rotate_left
  simp only [List.getElem_toArray, List.getElem_cons_succ, List.getElem_cons_zero, Act.put, List.setIfInBounds_toArray, List.set_cons_zero, List.set_cons_succ]
  refine wpAnyH_take (i := 2) (v := _) rfl (by kernel_rfl) (by kernel_rfl) (by kernel_rfl) (fun _ _ _ h => h) (yieldsIf_digA (by rfl) (.tmp 42) rfl ad rfl f hfl.out (fun _ h => h)) hS ?_
  try simp only [List.getElem_toArray, List.getElem_cons_succ, List.getElem_cons_zero, Act.put, List.setIfInBounds_toArray, List.set_cons_zero, List.set_cons_succ]
  refine wpAnyH_take (i := 3) (v := ?_) rfl (by kernel_rfl) (by kernel_rfl) (by kernel_rfl) (fun _ _ _ h => h) (Or.inl ⟨by rfl, ?_⟩) hS ?_
  rotate_left
  · intro v _; go_simp; first | done | with_reducible rfl
  rotate_left
  simp only [List.getElem_toArray, List.getElem_cons_succ, List.getElem_cons_zero, Act.put, List.setIfInBounds_toArray, List.set_cons_zero, List.set_cons_succ]
  refine wpAnyH_take (i := 4) (v := _) rfl (by kernel_rfl) (by kernel_rfl) (by kernel_rfl) (fun _ _ _ h => h) (yieldsIf_slice (by rfl) und_digs' rfl (.slice (some ad) N c0) rfl (some (.int .i64 1)) none rfl rfl _ hcut.out) hS ?_
  try simp only [List.getElem_toArray, List.getElem_cons_succ, List.getElem_cons_zero, Act.put, List.setIfInBounds_toArray, List.set_cons_zero, List.set_cons_succ]
  refine wpAnyH_all (rs := [5]) (by kernel_rfl) (by simp) ?_
  intro i hi
  simp only [List.mem_cons, List.not_mem_nil, or_false] at hi
  subst hi
  refine wpOp_wp rfl (by rfl) ?_
  refine wp_store_dig (.tmp 13) (.tmp 43) rfl w2.heap.size rfl f hfl.out rfl _ _ HF.out (zr ha.out) ?_
  intro w5 h5 hk5 hB5 hs5
  have hle2 : w.heap.size ≤ w2.heap.size := HB2.out.size
  replace HB := Lib.hid (hB5 HB.out hle2)
  have hB45 := hB5 hB4'.out (Nat.le_refl _)
  have HC5 := hC0.out.below HB.out
  refine ⟨hdad.out _ HC5, ?_⟩
  replace hS : (fun W => DigAd ad f W) w5 := hdad.out _ HC5
  have HF5 : Hid (DigAt w2.heap.size f w5) := h5
  have hcb := Lib.hid (hcb2.out.below hB45)
  have HA := Lib.hid (HA2.out.below hB45)
  have HD := Lib.hid (HD2.out.below hB45)
  have HC := Lib.hid (hCt.out _ HC5)
  have hK := Lib.hid (hK2.out.below hB45)
  clear HF h5 hk5 hB5 hs5 hB45 HC5 hcb2 HA2 HD2 hK2 hB4'
  have HF := HF5
  clear HF5
  replace hle2 := Lib.hid hle2
  try simp only [List.getElem_toArray, List.getElem_cons_succ, List.getElem_cons_zero, Act.put, List.setIfInBounds_toArray, List.set_cons_zero, List.set_cons_succ]
  refine wpAnyH_take (i := 6) (v := ?_) rfl (by kernel_rfl) (by kernel_rfl) (by kernel_rfl) (fun _ _ _ h => h) (Or.inl ⟨by rfl, ?_⟩) hS ?_
  rotate_left
  · intro v _; go_simp; first | done | with_reducible rfl
  rotate_left
  simp only [List.getElem_toArray, List.getElem_cons_succ, List.getElem_cons_zero, Act.put, List.setIfInBounds_toArray, List.set_cons_zero, List.set_cons_succ]
  refine wpAnyH_done (by kernel_rfl) ?_ _
  clear hS
  go_upto_region 9 with fail
  by_cases h : L.length = ps.length
  · have hV2 : V = (decide (Tr.lastX alg f L.reverse ps = a) && decide (Tr.last alg f L.reverse ps = b)) := by rw [hV.out, ← Bool.decide_and]; exact decide_eq_decide.2 ⟨fun h => h.2, fun h2 => ⟨h, h2⟩⟩
    obtain ⟨FX, hFX⟩ : ∃ F, F = Tr.lastX alg f L.reverse ps := ⟨_, rfl⟩
    obtain ⟨FY, hFY⟩ : ∃ F, F = Tr.last alg f L.reverse ps := ⟨_, rfl⟩
    rw [← hFX, ← hFY] at hV2
    replace hFX := Lib.hid hFX
    replace hFY := Lib.hid hFY
    replace hV2 := Lib.hid hV2
    have hps : ps.length ≤ 1024 := by have := hll.out; omega
    rw [h]
    replace h := Lib.hid h
    go_upto_region 11 with fail
    go_cut [14, 15] from 51 to 53 (fun p q wx => ∃ b14 b15 : Nat, p = .pointer (some ⟨b14, 0, none⟩) ∧ q = .pointer (some ⟨b15, 0, none⟩) ∧ Hid (DigAt b14 f wx) ∧ Hid (DigAt b15 f wx) ∧ Hid (b14 ≠ b15 ∧ w5.heap.size ≤ b14 ∧ w5.heap.size ≤ b15) ∧ Hid (Below w5.heap.size w5 wx))
    case first =>
      have hS : S1 w2.heap.size f w5.drew := HF.out
      refine wp_region_held (S := S1 w2.heap.size f) (by kernel_rfl) ?_
      change wpAnyH _ _ _ _ _ _ _ _ w5.drew
      refine wpAnyH_take (i := 0) (v := _) rfl (by kernel_rfl) (by kernel_rfl) (by kernel_rfl) (fun _ _ _ h => h) (yieldsIf_digA (by rfl) (.tmp 13) rfl ⟨w2.heap.size,0,none⟩ rfl f hfl.out (fun _ h => (DigAt.ad h))) hS ?_
      try simp only [List.getElem_toArray, List.getElem_cons_succ, List.getElem_cons_zero, Act.put, List.setIfInBounds_toArray, List.set_cons_zero, List.set_cons_succ]
      refine wpAnyH_take (i := 1) (v := _) rfl (by kernel_rfl) (by kernel_rfl) (by kernel_rfl) (fun _ _ _ h => h) (yieldsIf_digA (by rfl) (.tmp 13) rfl ⟨w2.heap.size,0,none⟩ rfl f hfl.out (fun _ h => (DigAt.ad h))) hS ?_
      try simp only [List.getElem_toArray, List.getElem_cons_succ, List.getElem_cons_zero, Act.put, List.setIfInBounds_toArray, List.set_cons_zero, List.set_cons_succ]
      clear hS
      have HF1 : Hid (DigAt w2.heap.size f w5.drew) := HF
      have HB1 : Hid (Below w5.heap.size w5 w5.drew) := Lib.hid (Below.refl _ _).drew
      have hz1 : Hid (w5.drew.heap.size = w5.heap.size) := Lib.hid rfl
      generalize w5.drew = v0 at HF1 HB1 hz1 ⊢
      refine wpAnyH_all (rs := [2, 3]) (by kernel_rfl) (by simp) ?_
      intro i hi
      simp only [List.mem_cons, List.not_mem_nil, or_false] at hi
      rcases hi with rfl | rfl
      · skip
        refine wpOp_wp rfl (by rfl) ?_
        refine wp_alloc_dig rfl ?_
        intro v1 HP hb1
        try simp only [List.getElem_toArray, List.getElem_cons_succ, List.getElem_cons_zero, Act.put, List.setIfInBounds_toArray, List.set_cons_zero, List.set_cons_succ]
        have HF2 := Lib.hid (HF1.out.below hb1)
        refine ⟨HF2.out, ?_⟩
        have hlp := dig_lt HP.out
        have hl13 := dig_lt HF1.out
        have hs01 := hb1.size
        refine wpAnyH_all (rs := [3]) (by kernel_rfl) (by simp) ?_
        intro i hi
        simp only [List.mem_cons, List.not_mem_nil, or_false] at hi
        subst hi
        refine wpOp_wp rfl (by rfl) ?_
        refine wp_alloc_dig rfl ?_
        intro v2 HQ hb2
        try simp only [List.getElem_toArray, List.getElem_cons_succ, List.getElem_cons_zero, Act.put, List.setIfInBounds_toArray, List.set_cons_zero, List.set_cons_succ]
        have hlq := dig_lt HQ.out
        replace HP := Lib.hid (HP.out.below hb2)
        replace HF2 := Lib.hid (HF2.out.below hb2)
        have hsz := hb2.size
        refine ⟨HF2.out, ?_⟩
        refine wpAnyH_all (rs := [4]) (by kernel_rfl) (by simp) ?_
        intro i hi
        simp only [List.mem_cons, List.not_mem_nil, or_false] at hi
        subst hi
        refine wpOp_wp rfl (by rfl) ?_
        refine wp_store_dig (.tmp 14) (.tmp 51) rfl v0.heap.size rfl f hfl.out rfl _ _ HP.out zrow ?_
        intro v3 h3 hk3 hB3 hs3
        try simp only [List.getElem_toArray, List.getElem_cons_succ, List.getElem_cons_zero, Act.put, List.setIfInBounds_toArray, List.set_cons_zero, List.set_cons_succ]
        refine ⟨?_, ?_⟩
        · show DigAt w2.heap.size f v3
          unfold DigAt; rw [hk3 _ (by omega)]; exact HF2.out
        refine wpAnyH_all (rs := [5]) (by kernel_rfl) (by simp) ?_
        intro i hi
        simp only [List.mem_cons, List.not_mem_nil, or_false] at hi
        subst hi
        refine wpOp_wp rfl (by rfl) ?_
        have h4 : DigAt v1.heap.size (List.replicate 32 0) v3 := by unfold DigAt; rw [hk3 _ (by omega)]; exact HQ.out
        refine wp_store_dig (.tmp 15) (.tmp 52) rfl v1.heap.size rfl f hfl.out rfl _ _ h4 zrow ?_
        intro v5 h5 hk5 hB5 hs5
        try simp only [List.getElem_toArray, List.getElem_cons_succ, List.getElem_cons_zero, Act.put, List.setIfInBounds_toArray, List.set_cons_zero, List.set_cons_succ]
        refine ⟨?_, ?_⟩
        · show DigAt w2.heap.size f v5
          unfold DigAt; rw [hk5 _ (by omega), hk3 _ (by omega)]; exact HF2.out
        refine wpAnyH_done (by kernel_rfl) ?_ _
        go_wp2_with fail
        go_meet
        have h35 : DigAt v0.heap.size f v5 := by unfold DigAt; rw [hk5 _ (by omega)]; exact h3.out
        have hbb := hB5 (hB3 ((HB1.out.trans (hb1.mono HB1.out.size)).trans (hb2.mono (Nat.le_trans HB1.out.size hb1.size))) (by have := hz1.out; omega)) (by have := hz1.out; omega)
        exact ⟨_, _, rfl, rfl, Lib.hid h35, h5, Lib.hid (by have := hz1.out; omega), Lib.hid hbb⟩
      · skip
        refine wpOp_wp rfl (by rfl) ?_
        refine wp_alloc_dig rfl ?_
        intro v1 HP hb1
        try simp only [List.getElem_toArray, List.getElem_cons_succ, List.getElem_cons_zero, Act.put, List.setIfInBounds_toArray, List.set_cons_zero, List.set_cons_succ]
        have HF2 := Lib.hid (HF1.out.below hb1)
        refine ⟨HF2.out, ?_⟩
        have hlp := dig_lt HP.out
        have hl13 := dig_lt HF1.out
        have hs01 := hb1.size
        refine wpAnyH_all (rs := [2]) (by kernel_rfl) (by simp) ?_
        intro i hi
        simp only [List.mem_cons, List.not_mem_nil, or_false] at hi
        subst hi
        refine wpOp_wp rfl (by rfl) ?_
        refine wp_alloc_dig rfl ?_
        intro v2 HQ hb2
        try simp only [List.getElem_toArray, List.getElem_cons_succ, List.getElem_cons_zero, Act.put, List.setIfInBounds_toArray, List.set_cons_zero, List.set_cons_succ]
        have hlq := dig_lt HQ.out
        replace HP := Lib.hid (HP.out.below hb2)
        replace HF2 := Lib.hid (HF2.out.below hb2)
        have hsz := hb2.size
        refine ⟨HF2.out, ?_⟩
        refine wpAnyH_all (rs := [4]) (by kernel_rfl) (by simp) ?_
        intro i hi
        simp only [List.mem_cons, List.not_mem_nil, or_false] at hi
        subst hi
        refine wpOp_wp rfl (by rfl) ?_
        refine wp_store_dig (.tmp 14) (.tmp 51) rfl v1.heap.size rfl f hfl.out rfl _ _ HQ.out zrow ?_
        intro v3 h3 hk3 hB3 hs3
        try simp only [List.getElem_toArray, List.getElem_cons_succ, List.getElem_cons_zero, Act.put, List.setIfInBounds_toArray, List.set_cons_zero, List.set_cons_succ]
        refine ⟨?_, ?_⟩
        · show DigAt w2.heap.size f v3
          unfold DigAt; rw [hk3 _ (by omega)]; exact HF2.out
        refine wpAnyH_all (rs := [5]) (by kernel_rfl) (by simp) ?_
        intro i hi
        simp only [List.mem_cons, List.not_mem_nil, or_false] at hi
        subst hi
        refine wpOp_wp rfl (by rfl) ?_
        have h4 : DigAt v0.heap.size (List.replicate 32 0) v3 := by unfold DigAt; rw [hk3 _ (by omega)]; exact HP.out
        refine wp_store_dig (.tmp 15) (.tmp 52) rfl v0.heap.size rfl f hfl.out rfl _ _ h4 zrow ?_
        intro v5 h5 hk5 hB5 hs5
        try simp only [List.getElem_toArray, List.getElem_cons_succ, List.getElem_cons_zero, Act.put, List.setIfInBounds_toArray, List.set_cons_zero, List.set_cons_succ]
        refine ⟨?_, ?_⟩
        · show DigAt w2.heap.size f v5
          unfold DigAt; rw [hk5 _ (by omega), hk3 _ (by omega)]; exact HF2.out
        refine wpAnyH_done (by kernel_rfl) ?_ _
        go_wp2_with fail
        go_meet
        have h35 : DigAt v1.heap.size f v5 := by unfold DigAt; rw [hk5 _ (by omega)]; exact h3.out
        have hbb := hB5 (hB3 ((HB1.out.trans (hb1.mono HB1.out.size)).trans (hb2.mono (Nat.le_trans HB1.out.size hb1.size))) (by have := hz1.out; omega)) (by have := hz1.out; omega)
        exact ⟨_, _, rfl, rfl, Lib.hid h35, h5, Lib.hid (by have := hz1.out; omega), Lib.hid hbb⟩
    case rest =>
      obtain ⟨b14, b15, rfl, rfl, H14, H15, hbb, HB5⟩ := hcut
      rename_i wc
      have HX : Hid (Tr.lastX alg f (L.reverse.drop 0) (ps.drop 0) = FX) := Lib.hid hFX.out.symm
      have HY : Hid (Tr.last alg f (L.reverse.drop 0) (ps.drop 0) = FY) := Lib.hid hFY.out.symm
      go_wp2_with fail
      go_loopw [55] (fun a0 wx => ∃ (k : Nat) (x y : List UInt8), a0 = .int .i64 k ∧ k ≤ ps.length ∧ Hid (x.length = 32) ∧ Hid (y.length = 32) ∧ Hid (DigAt b14 x wx) ∧ Hid (DigAt b15 y wx) ∧ Hid (Tr.lastX alg x (L.reverse.drop k) (ps.drop k) = FX) ∧ Hid (Tr.last alg y (L.reverse.drop k) (ps.drop k) = FY) ∧ Hid (Below w5.heap.size w5 wx)) (fun a0 _ => ps.length - (intOf a0).toNat)
      case atStart => exact ⟨0, f, f, rfl, Nat.zero_le _, hfl, hfl, H14, H15, HX, HY, HB5⟩
      case round =>
        clear HX HY H14 H15 HB5
        obtain ⟨k, x, y, rfl, hk, hxl, hyl, H14, H15, HX, HY, HB5⟩ := hrel
        by_cases hkn : k < ps.length
        · have hkn' : (k : Int) < (ps.length : Int) := by omega
          obtain ⟨q, hq⟩ : ∃ q : Nat, q = ps.length - 1 - k := ⟨_, rfl⟩
          have hq' : (ps.length : Int) - 1 - (k : Int) = (q : Int) := by omega
          have hqn : q < ps.length := by omega
          have hqn' : (q : Int) < (ps.length : Int) := by omega
          obtain ⟨p, hp⟩ : ∃ p, ps[k]? = some p := ⟨_, List.getElem?_eq_getElem hkn⟩
          obtain ⟨t, ht⟩ : ∃ t, L[q]? = some t := ⟨_, List.getElem?_eq_getElem (by rw [h.out]; exact hqn)⟩
          have htr : L.reverse[k]? = some t := by rw [List.getElem?_reverse (by rw [h.out]; exact hkn), h.out, ← hq]; exact ht
          rw [last_drop L.reverse ps y k t p htr hp] at HY
          rw [lastX_drop L.reverse ps x k t p htr hp] at HX
          obtain ⟨hpl, ad, hA, hda⟩ := (HC.out.below HB5.out).get hp
          obtain ⟨ad1, hA1, hcb1⟩ := (hcb.out.below HB5.out).get ht
          subst hA hA1
          replace hp := Lib.hid hp
          replace ht := Lib.hid ht
          replace htr := Lib.hid htr
          replace hq := Lib.hid hq
          replace hpl := Lib.hid hpl
          replace hda := Lib.hid hda
          replace hcb1 := Lib.hid hcb1
          go_upto_region 15 with (first | (guard_target = wpList _ _ _ (⟨some 59, _, _, _, _, _⟩ :: _) _ _; refine wpList_load_digA rfl (.tmp 58) rfl (ad.add (k * 32)) rfl p hpl.out hda.out ?_) | (guard_target = wpList _ _ _ (⟨none, _, _, _, _, _⟩ :: _) _ _; refine wpList_store_dig rfl (.tmp 17) (.tmp 59) rfl wr.heap.size rfl p hpl.out rfl _ _ (heap_alloc_last _ _) zrow ?_; intro w5 h5 _ hB5))
          have hB5' := hB5 ((Below.refl wr.heap.size wr).alloc (Nat.le_refl _) _) (Nat.le_refl _)
          have H17 : Hid (DigAt wr.heap.size p w5) := h5
          have hl14 := dig_lt H14.out
          have hl15 := dig_lt H15.out
          replace H14 := Lib.hid (H14.out.below hB5')
          replace H15 := Lib.hid (H15.out.below hB5')
          have HB3 := Lib.hid (HB5.out.trans (hB5'.mono HB5.out.size))
          obtain ⟨ad2, hA2, hcb5⟩ := (hcb.out.below HB3.out).get ht.out
          cases hA2
          clear hB5 h5 hB5' hcb1 hda HB5
          obtain ⟨b17, hb17⟩ : ∃ b, b = wr.heap.size := ⟨_, rfl⟩
          rw [← hb17] at H17 hl14 hl15 ⊢
          replace hb17 := Lib.hid hb17
          have zx := zr hxl.out
          have zy := zr hyl.out
          have hcb1 := hcb5
          have hne45 := hbb.out
          clear hcb5
          cases t with
          | true =>
            go_wp2_with (first | (guard_target = wpList _ _ _ (⟨some 68, _, _, _, _, _⟩ :: _) _ _; refine wpList_load_dig rfl (.tmp 15) rfl b15 rfl y hyl.out _ _ H15.out ?_) | (guard_target = wpList _ _ _ (⟨some 69, _, _, _, _, _⟩ :: _) _ _; refine wpList_load_dig rfl (.tmp 17) rfl b17 rfl p hpl.out _ _ H17.out ?_))
            refine (tjoin_calls y p hyl.out hpl.out w5 (hK.out.below HB3.out)).mono ?_
            rintro e w6 ⟨rfl, hb6⟩
            have HJ : Hid ((joinP y p).length = 32) := Lib.hid (sumL_len _)
            replace H14 := Lib.hid (H14.out.below hb6)
            replace H15 := Lib.hid (H15.out.below hb6)
            replace HB3 := Lib.hid (HB3.out.trans (hb6.mono HB3.out.size))
            have hmx : Hid (Tr.last alg (joinP y p) (L.reverse.drop (k + 1)) (ps.drop (k + 1)) = FY) := HY
            have hmX : Hid (Tr.lastX alg x (L.reverse.drop (k + 1)) (ps.drop (k + 1)) = FX) := HX
            generalize joinP y p = J at HJ hmx ⊢
            clear hb6 hcb1 H17
            go_wp2_with (guard_target = wpList _ _ _ (⟨none, _, _, _, _, _⟩ :: _) _ _; refine wpList_store_dig rfl (.tmp 15) (.tmp 70) rfl b15 rfl J HJ.out rfl _ _ H15.out zy ?_; intro w7 h7 hk7 hB7)
            have H14' : Hid (DigAt b14 x w7) := by refine Lib.hid ?_; unfold DigAt; rw [hk7 _ hne45.1]; exact H14.out
            refine ⟨⟨k + 1, x, J, by go_num, by omega, hxl, HJ, H14', h7, hmX, hmx, Lib.hid (hB7 HB3.out hne45.2.2)⟩, ?_⟩
            simp [intOf]
            omega
          | false =>
            go_upto_region 17 with fail
            have hS : S3 b14 x b15 y b17 p w5.drew := ⟨H14.out, H15.out, H17.out⟩
            replace H14 : Hid (DigAt b14 x w5.drew) := H14
            replace H15 : Hid (DigAt b15 y w5.drew) := H15
            replace H17 : Hid (DigAt b17 p w5.drew) := H17
            replace HB3 := Lib.hid HB3.out.drew
            refine wp_region_till (S3 b14 x b15 y b17 p) 6 (by kernel_rfl) ?_
            change wpTill _ _ _ _ _ _ _ _ _ w5.drew
            generalize w5.drew = v5 at hS H14 H15 H17 HB3 ⊢
            refine wpTill_take (i := 0) 2 (v := _) rfl rfl rfl (by kernel_rfl) (by kernel_rfl) (by kernel_rfl) (by kernel_rfl) (by kernel_rfl) (by kernel_rfl) (by kernel_rfl) (fun _ _ _ h => h) (yieldsIf_digA (by rfl) (.tmp 17) rfl ⟨b17,0,none⟩ rfl p hpl.out (fun _ h => (DigAt.ad h.2.2))) hS ?_
            try simp only [List.getElem_toArray, List.getElem_cons_succ, List.getElem_cons_zero, Act.put, List.setIfInBounds_toArray, List.set_cons_zero, List.set_cons_succ]
            refine wpTill_take (i := 1) 2 (v := _) rfl rfl rfl (by kernel_rfl) (by kernel_rfl) (by kernel_rfl) (by kernel_rfl) (by kernel_rfl) (by kernel_rfl) (by kernel_rfl) (fun _ _ _ h => h) (yieldsIf_digA (by rfl) (.tmp 14) rfl ⟨b14,0,none⟩ rfl x hxl.out (fun _ h => (DigAt.ad h.1))) hS ?_
            try simp only [List.getElem_toArray, List.getElem_cons_succ, List.getElem_cons_zero, Act.put, List.setIfInBounds_toArray, List.set_cons_zero, List.set_cons_succ]
            refine wpTill_take (i := 3) 5 (v := _) rfl rfl rfl (by kernel_rfl) (by kernel_rfl) (by kernel_rfl) (by kernel_rfl) (by kernel_rfl) (by kernel_rfl) (by kernel_rfl) (fun _ _ _ h => h) (yieldsIf_digA (by rfl) (.tmp 17) rfl ⟨b17,0,none⟩ rfl p hpl.out (fun _ h => (DigAt.ad h.2.2))) hS ?_
            try simp only [List.getElem_toArray, List.getElem_cons_succ, List.getElem_cons_zero, Act.put, List.setIfInBounds_toArray, List.set_cons_zero, List.set_cons_succ]
            refine wpTill_take (i := 4) 5 (v := _) rfl rfl rfl (by kernel_rfl) (by kernel_rfl) (by kernel_rfl) (by kernel_rfl) (by kernel_rfl) (by kernel_rfl) (by kernel_rfl) (fun _ _ _ h => h) (yieldsIf_digA (by rfl) (.tmp 15) rfl ⟨b15,0,none⟩ rfl y hyl.out (fun _ h => (DigAt.ad h.2.1))) hS ?_
            try simp only [List.getElem_toArray, List.getElem_cons_succ, List.getElem_cons_zero, Act.put, List.setIfInBounds_toArray, List.set_cons_zero, List.set_cons_succ]
            refine wpTill_all (rs := [2]) (by kernel_rfl) (by simp) ?_
            intro i hi
            simp only [List.mem_cons, List.not_mem_nil, or_false] at hi
            subst hi
            refine wpOp_wp rfl (by rfl) ?_
            go_simp
            refine (tjoin_calls p x hpl.out hxl.out v5 (hK.out.below HB3.out)).mono ?_
            rintro e w6 ⟨rfl, hb6⟩
            replace H14 := Lib.hid (H14.out.below hb6)
            replace H15 := Lib.hid (H15.out.below hb6)
            replace H17 := Lib.hid (H17.out.below hb6)
            replace HB3 := Lib.hid (HB3.out.trans (hb6.mono HB3.out.size))
            clear hb6 hS
            have hS : S3 b14 x b15 y b17 p w6 := ⟨H14.out, H15.out, H17.out⟩
            refine ⟨by first | exact hS | exact fun _ => hS, ?_⟩
            try simp only [List.getElem_toArray, List.getElem_cons_succ, List.getElem_cons_zero, Act.put, List.setIfInBounds_toArray, List.set_cons_zero, List.set_cons_succ]
            refine wpTill_all (rs := [5]) (by kernel_rfl) (by simp) ?_
            intro i hi
            simp only [List.mem_cons, List.not_mem_nil, or_false] at hi
            subst hi
            refine wpOp_wp rfl (by rfl) ?_
            go_simp
            refine (tjoin_calls p y hpl.out hyl.out w6 (hK.out.below HB3.out)).mono ?_
            rintro e w7 ⟨rfl, hb7⟩
            replace H14 := Lib.hid (H14.out.below hb7)
            replace H15 := Lib.hid (H15.out.below hb7)
            replace H17 := Lib.hid (H17.out.below hb7)
            replace HB3 := Lib.hid (HB3.out.trans (hb7.mono HB3.out.size))
            clear hb7 hS
            have hS : S3 b14 x b15 y b17 p w7 := ⟨H14.out, H15.out, H17.out⟩
            refine ⟨by first | exact hS | exact fun _ => hS, ?_⟩
            try simp only [List.getElem_toArray, List.getElem_cons_succ, List.getElem_cons_zero, Act.put, List.setIfInBounds_toArray, List.set_cons_zero, List.set_cons_succ]
            have HJ : Hid ((joinP p y).length = 32) := Lib.hid (sumL_len _)
            have HI : Hid ((joinP p x).length = 32) := Lib.hid (sumL_len _)
            have hmx : Hid (Tr.last alg (joinP p y) (L.reverse.drop (k + 1)) (ps.drop (k + 1)) = FY) := HY
            have hmX : Hid (Tr.lastX alg (joinP p x) (L.reverse.drop (k + 1)) (ps.drop (k + 1)) = FX) := HX
            generalize joinP p y = J at HJ hmx ⊢
            generalize joinP p x = I at HI hmX ⊢
            refine wpTill_all (rs := [6]) (by kernel_rfl) (by simp) ?_
            intro i hi
            simp only [List.mem_cons, List.not_mem_nil, or_false] at hi
            subst hi
            refine wpOp_wp rfl (by rfl) ?_
            refine wp_store_dig (.tmp 14) (.tmp 73) rfl b14 rfl I HI.out rfl _ _ H14.out zx ?_
            intro w8 h8 hk8 hB8 hs8
            refine ⟨fun h3 => (nomatch (show true = false from h3)), ?_⟩
            try simp only [List.getElem_toArray, List.getElem_cons_succ, List.getElem_cons_zero, Act.put, List.setIfInBounds_toArray, List.set_cons_zero, List.set_cons_succ]
            refine wpTill_of_any _ _ _ _ (by kernel_rfl) ?_
            refine wpAny_all (rs := [7]) (by kernel_rfl) (by simp) ?_
            intro i hi
            simp only [List.mem_cons, List.not_mem_nil, or_false] at hi
            subst hi
            refine wpOp_wp rfl (by rfl) ?_
            have H15' : DigAt b15 y w8 := by unfold DigAt; rw [hk8 _ (Ne.symm hne45.1)]; exact H15.out
            refine wp_store_dig (.tmp 15) (.tmp 76) rfl b15 rfl J HJ.out rfl _ _ H15' zy ?_
            intro w9 h9 hk9 hB9 hs9
            try simp only [List.getElem_toArray, List.getElem_cons_succ, List.getElem_cons_zero, Act.put, List.setIfInBounds_toArray, List.set_cons_zero, List.set_cons_succ]
            refine wpAny_done (by kernel_rfl) ?_ _
            have H14' : Hid (DigAt b14 I w9) := by refine Lib.hid ?_; unfold DigAt; rw [hk9 _ hne45.1]; exact h8.out
            have HBe := Lib.hid (hB9 (hB8 HB3.out hne45.2.1) hne45.2.2)
            clear hB9 hB8 hk8 hk9
            go_wp2_with fail
            refine ⟨⟨k + 1, I, J, by go_num, by omega, HI, HJ, H14', h9, hmX, hmx, HBe⟩, ?_⟩
            simp [intOf]
            omega
        · have hkn' : ¬ (k : Int) < (ps.length : Int) := by omega
          rw [List.drop_eq_nil_of_le (by omega : ps.length ≤ k)] at HX HY
          have hxF : x = FX := by
            have := HX.out
            rw [List.drop_eq_nil_of_le (by rw [List.length_reverse, h.out]; omega)] at this
            exact this
          have hyF : y = FY := by
            have := HY.out
            rw [List.drop_eq_nil_of_le (by rw [List.length_reverse, h.out]; omega)] at this
            exact this
          rw [← hxF, ← hyF] at hV2
          replace hxF := Lib.hid hxF
          replace hyF := Lib.hid hyF
          have heq1 := fun v : World => eq32 v x a hxl.out ha.out
          have heq2 := fun v : World => eq32 v y b hyl.out hbl.out
          have H7 : Hid (DigAt w.heap.size a wr) := Lib.hid (HA.out.below HB5.out)
          have H8 : Hid (DigAt (w.heap.size + 1) b wr) := Lib.hid (HD.out.below HB5.out)
          have hBe := Lib.hid (HB.out.trans (HB5.out.mono HB.out.size))
          by_cases hxa : x = a
          · have hd := decT hxa
            replace hxa := Lib.hid hxa
            go_wp2_with (first | (guard_target = wpList _ _ _ (⟨some 78, _, _, _, _, _⟩ :: _) _ _; refine wpList_load_dig rfl (.tmp 14) rfl b14 rfl x hxl.out _ _ H14.out ?_) | (guard_target = wpList _ _ _ (⟨some 79, _, _, _, _, _⟩ :: _) _ _; refine wpList_load_dig rfl (.tmp 7) rfl w.heap.size rfl a ha.out _ _ H7.out ?_) | (guard_target = wpList _ _ _ (⟨some 82, _, _, _, _, _⟩ :: _) _ _; refine wpList_load_digG rfl (.tmp 15) rfl b15 rfl y hyl.out _ _ H15.out ?_) | (guard_target = wpList _ _ _ (⟨some 83, _, _, _, _, _⟩ :: _) _ _; refine wpList_load_digG rfl (.tmp 8) rfl (w.heap.size + 1) rfl b hbl.out _ _ H8.out ?_))
            go_ret
            exact ⟨by rw [hV2.out, hd, Bool.true_and]; rfl, hBe.out⟩
          · have hd := decF hxa
            replace hxa := Lib.hid hxa
            go_wp2_with (first | (guard_target = wpList _ _ _ (⟨some 78, _, _, _, _, _⟩ :: _) _ _; refine wpList_load_dig rfl (.tmp 14) rfl b14 rfl x hxl.out _ _ H14.out ?_) | (guard_target = wpList _ _ _ (⟨some 79, _, _, _, _, _⟩ :: _) _ _; refine wpList_load_dig rfl (.tmp 7) rfl w.heap.size rfl a ha.out _ _ H7.out ?_))
            go_ret
            exact ⟨by rw [hV2.out, hd, Bool.false_and]; rfl, hBe.out⟩
  · have hV2 : V = false := by rw [hV.out]; exact decF (fun h2 => h h2.1)
    subst hV2
    have hne : ((L.length : Int) == (ps.length : Int)) = false := by rw [beq_eq_false_iff_ne]; omega
    have hne2 : (L.length == ps.length) = false := by rw [beq_eq_false_iff_ne]; exact h
    replace h := Lib.hid h
    go_wp2_with fail
    go_ret
    exact ⟨rfl, HB.out⟩
end Go.Proofs.YtldpnmebjnkjeaaDoor.TrW
namespace Go.Proofs.YtldpnmebjnkjeaaDoor.TrW
open Go.RowKit Go.Proofs.YtldpnmebjnkjeaaDoorW.PrintWords Go.Proofs.YtldpnmebjnkjeaaDoor.PH1 Go.Proofs.YtldpnmebjnkjeaaDoor Go.Proofs.YtldpnmebjnkjeaaDoorW.PrintLast Go.Proofs.YtldpnmebjnkjeaaDoorW.PrintMore
open Go.Proofs.YtldpnmebjnkjeaaDoor.Sha
set_option linter.unusedVariables false
set_option linter.unusedSimpArgs false
theorem tCheckPath_calls (s : ByteArray) (hs : s.size ≤ 1048575) (i n : Int) (r : List UInt8) (hr : r.length = 32) (ps : List (List UInt8)) (A : Option Addr) (c : Nat) (w : World) (hC : CD A ps w) (hc : ps.length ≤ c) (hK : KAt w) :
    Calls Tryd.prog 44 #[.string s, .int .i64 i, .int .i64 n, .agg (Lib.byteCells r).toArray, .slice A ps.length c] w fun e w' => e = .returned (.bool (pathV s.data.toList i n r ps)) ∧ Below w.heap.size w w' := by
  by_cases h : i < 0 ∨ n ≤ i ∨ 1024 < n
  · exact tCheckPath_arg s i n r ps A c w h
  · obtain ⟨i', rfl⟩ := Int.eq_ofNat_of_zero_le (show 0 ≤ i by omega)
    obtain ⟨n', rfl⟩ := Int.eq_ofNat_of_zero_le (show 0 ≤ n by omega)
    by_cases hl : (Tr.sides i' n').length = ps.length
    · exact tCheckPath_ok s hs i' n' r hr ps A c w hC hc (by omega) (by omega) hl hK
    · exact tCheckPath_len s i' n' r ps A c w (by omega) (by omega) hl
theorem tCheckBridge_calls (m n : Int) (a b : List UInt8) (ha : a.length = 32) (hb : b.length = 32) (bs : List (List UInt8)) (A : Option Addr) (c : Nat) (w : World) (hC : CD A bs w) (hc : bs.length ≤ c) (hK : KAt w) :
    Calls Tryd.prog 46 #[.int .i64 m, .int .i64 n, .agg (Lib.byteCells a).toArray, .agg (Lib.byteCells b).toArray, .slice A bs.length c] w fun e w' => e = .returned (.bool (bridgeV m n a b bs)) ∧ Below w.heap.size w w' := by
  by_cases h : m < 1 ∨ n < m ∨ 1024 < n
  · exact tCheckBridge_arg m n a b bs A c w h
  · obtain ⟨m', rfl⟩ := Int.eq_ofNat_of_zero_le (show 0 ≤ m by omega)
    obtain ⟨n', rfl⟩ := Int.eq_ofNat_of_zero_le (show 0 ≤ n by omega)
    unfold bridgeV
    rw [decT (by omega), Bool.true_and]
    simp only [Int.toNat_natCast]
    cases hw : Tr.whole m' n' with
    | true =>
      rw [if_pos rfl]
      exact tCheckBridge_w m' n' a b ha hb bs A c w hC hc (by omega) (by omega) (by omega) hw hK
    | false =>
      rw [if_neg (by simp)]
      cases bs with
      | nil => exact tCheckBridge_e m' n' a b ha hb A c w (by omega) (by omega) (by omega) hw
      | cons f ps => exact tCheckBridge_n m' n' a b f ha hb ps A c w hC hc (by omega) (by omega) (by omega) hw hK
end Go.Proofs.YtldpnmebjnkjeaaDoor.TrW
namespace Go.Proofs.YtldpnmebjnkjeaaDoor.TrW
open Go.RowKit Go.Proofs.YtldpnmebjnkjeaaDoorW.PrintWords Go.Proofs.YtldpnmebjnkjeaaDoor.PH1 Go.Proofs.YtldpnmebjnkjeaaDoor Go.Proofs.YtldpnmebjnkjeaaDoorW.PrintLast Go.Proofs.YtldpnmebjnkjeaaDoorW.PrintMore
open Go.Proofs.YtldpnmebjnkjeaaDoor.Sha
open Go.Proofs.YtldpnmebjnkjeaaDoor.Ref10 (wp_store_dig wp_load_dig wpOp_wp range_row)
set_option linter.unusedVariables false
set_option linter.unusedSimpArgs false
theorem rsplit_calls (n : Nat) (h : n ≤ 1024) (w : World) : Calls Tryd.prog 74 #[.int .i64 (n : Int)] w fun e w' => e = .returned (.int .i64 ((Tr.sp n : Nat) : Int)) ∧ Drawn0 w w' := cashbookref11_Split.calls 20 _ _ w (rsplit_run n h)
def SS (a1 : Addr) (x : List UInt8) (a2 : Addr) (y : List UInt8) (W : World) : Prop := DigAd a1 x W ∧ DigAd a2 y W
set_option maxHeartbeats 4000000 in
set_option maxRecDepth 100000 in
/-- Are two rows of digests one? -/
theorem same_calls (A1 A2 : Option Addr) (c1 c2 : Nat) (ps qs : List (List UInt8)) (w : World) (h1 : CD A1 ps w) (h2 : CD A2 qs w) :
    Calls Tryd.prog 39 #[.slice A1 ps.length c1, .slice A2 qs.length c2] w fun e w' => e = .returned (.bool (decide (ps = qs))) ∧ Below w.heap.size w w' := by
  have hm := Kd.C_max h1
  by_cases hl : ps.length = qs.length
  · obtain ⟨V, hV⟩ : ∃ V, V = decide (ps = qs) := ⟨_, rfl⟩
    rw [← hV, ← hl]
    have HB := Lib.hid (Below.refl w.heap.size w)
    have HE : Hid (ps.take 0 = qs.take 0) := Lib.hid rfl
    replace hV := Lib.hid hV
    replace hl := Lib.hid hl
    replace h1 := Lib.hid h1
    replace h2 := Lib.hid h2
    go_enter Tryd.func39, Tryd.ntmps39
    go_wp2_with fail
    go_loopw [5] (fun a wx => ∃ k : Nat, a = .int .i64 k ∧ k ≤ ps.length ∧ Hid (ps.take k = qs.take k) ∧ Hid (Below w.heap.size w wx)) (fun a _ => ps.length - (intOf a).toNat)
    case atStart => exact ⟨0, rfl, Nat.zero_le _, HE, HB⟩
    case round =>
      clear HE HB
      obtain ⟨k, rfl, hk, HE, HB⟩ := hrel
      by_cases hkn : k < ps.length
      · have hkn' : (k : Int) < (ps.length : Int) := by omega
        obtain ⟨x, hx⟩ : ∃ p, ps[k]? = some p := ⟨_, List.getElem?_eq_getElem hkn⟩
        obtain ⟨y, hy⟩ : ∃ p, qs[k]? = some p := ⟨_, List.getElem?_eq_getElem (by rw [← hl.out]; exact hkn)⟩
        have HB2 := Lib.hid HB.out.drew
        obtain ⟨hxl, ad1, hA1, hd1⟩ := (h1.out.below HB2.out).get hx
        obtain ⟨hyl, ad2, hA2, hd2⟩ := (h2.out.below HB2.out).get hy
        subst hA1 hA2
        have hS : SS (ad1.add (k * 32)) x (ad2.add (k * 32)) y wr.drew := ⟨hd1, hd2⟩
        have hneq : ∀ v : World, (Op.equalIn 10000 24 (.agg (Lib.byteCells x).toArray) (.agg (Lib.byteCells y).toArray)).run Tryd.prog v = .ok (decide (x = y)) v := fun v => eq32 v x y hxl hyl
        replace hxl := Lib.hid hxl
        replace hyl := Lib.hid hyl
        replace hx := Lib.hid hx
        replace hy := Lib.hid hy
        clear hd1 hd2
        go_upto_region 6 with fail
        refine wp_region_held (S := SS (ad1.add (k * 32)) x (ad2.add (k * 32)) y) (by kernel_rfl) ?_
        change wpAnyH _ _ _ _ _ _ _ _ wr.drew
        generalize wr.drew = v0 at hS HB2 ⊢
        refine wpAnyH_take (i := 0) (v := ?_) rfl (by kernel_rfl) (by kernel_rfl) (by kernel_rfl) (fun _ _ _ h => h) (Or.inl ⟨by rfl, ?_⟩) hS ?_
        rotate_left
        · intro v _; go_simp; first | done | with_reducible rfl
        rotate_left
        simp only [List.getElem_toArray, List.getElem_cons_succ, List.getElem_cons_zero, Act.put, List.setIfInBounds_toArray, List.set_cons_zero, List.set_cons_succ]
        refine wpAnyH_take (i := 1) (v := ?_) rfl (by kernel_rfl) (by kernel_rfl) (by kernel_rfl) (fun _ _ _ h => h) (Or.inl ⟨by rfl, ?_⟩) hS ?_
        rotate_left
        · intro v _; go_simp; first | done | with_reducible rfl
        rotate_left
        simp only [List.getElem_toArray, List.getElem_cons_succ, List.getElem_cons_zero, Act.put, List.setIfInBounds_toArray, List.set_cons_zero, List.set_cons_succ]
        refine wpAnyH_take (i := 2) (v := ?_) rfl (by kernel_rfl) (by kernel_rfl) (by kernel_rfl) (fun _ _ _ h => h) (Or.inl ⟨by rfl, ?_⟩) hS ?_
        rotate_left
        · intro v _; go_simp; first | done | with_reducible rfl
        rotate_left
        simp only [List.getElem_toArray, List.getElem_cons_succ, List.getElem_cons_zero, Act.put, List.setIfInBounds_toArray, List.set_cons_zero, List.set_cons_succ]
        refine wpAnyH_take (i := 3) (v := _) rfl (by kernel_rfl) (by kernel_rfl) (by kernel_rfl) (fun _ _ _ h => h) (yieldsIf_digA (by rfl) (.tmp 19) rfl (ad1.add (k * 32)) rfl x hxl.out (fun _ h => h.1)) hS ?_
        try simp only [List.getElem_toArray, List.getElem_cons_succ, List.getElem_cons_zero, Act.put, List.setIfInBounds_toArray, List.set_cons_zero, List.set_cons_succ]
        refine wpAnyH_take (i := 4) (v := ?_) rfl (by kernel_rfl) (by kernel_rfl) (by kernel_rfl) (fun _ _ _ h => h) (Or.inl ⟨by rfl, ?_⟩) hS ?_
        rotate_left
        · intro v _; go_simp; first | done | with_reducible rfl
        rotate_left
        simp only [List.getElem_toArray, List.getElem_cons_succ, List.getElem_cons_zero, Act.put, List.setIfInBounds_toArray, List.set_cons_zero, List.set_cons_succ]
        refine wpAnyH_take (i := 5) (v := ?_) rfl (by kernel_rfl) (by kernel_rfl) (by kernel_rfl) (fun _ _ _ h => h) (Or.inl ⟨by rfl, ?_⟩) hS ?_
        rotate_left
        · intro v _; go_simp; first | done | with_reducible rfl
        rotate_left
        simp only [List.getElem_toArray, List.getElem_cons_succ, List.getElem_cons_zero, Act.put, List.setIfInBounds_toArray, List.set_cons_zero, List.set_cons_succ]
        refine wpAnyH_take (i := 6) (v := ?_) rfl (by kernel_rfl) (by kernel_rfl) (by kernel_rfl) (fun _ _ _ h => h) (Or.inl ⟨by rfl, ?_⟩) hS ?_
        rotate_left
        · intro v _; go_simp; first | done | with_reducible rfl
        rotate_left
        simp only [List.getElem_toArray, List.getElem_cons_succ, List.getElem_cons_zero, Act.put, List.setIfInBounds_toArray, List.set_cons_zero, List.set_cons_succ]
        refine wpAnyH_take (i := 7) (v := _) rfl (by kernel_rfl) (by kernel_rfl) (by kernel_rfl) (fun _ _ _ h => h) (yieldsIf_digA (by rfl) (.tmp 23) rfl (ad2.add (k * 32)) rfl y hyl.out (fun _ h => h.2)) hS ?_
        try simp only [List.getElem_toArray, List.getElem_cons_succ, List.getElem_cons_zero, Act.put, List.setIfInBounds_toArray, List.set_cons_zero, List.set_cons_succ]
        by_cases hxy : x = y
        · have hd := decT hxy
          rw [hd] at hneq
          replace hxy := Lib.hid hxy
          replace hd := Lib.hid hd
          refine wpAnyH_take (i := 8) (v := ?_) rfl (by kernel_rfl) (by kernel_rfl) (by kernel_rfl) (fun _ _ _ h => h) (Or.inl ⟨by rfl, ?_⟩) hS ?_
          rotate_left
          · intro v _; go_simp; first | done | with_reducible rfl
          rotate_left
          simp only [List.getElem_toArray, List.getElem_cons_succ, List.getElem_cons_zero, Act.put, List.setIfInBounds_toArray, List.set_cons_zero, List.set_cons_succ]
          refine wpAnyH_done (by kernel_rfl) ?_ _
          have HE2 : Hid (ps.take (k + 1) = qs.take (k + 1)) := by
            refine Lib.hid ?_
            rw [List.take_add_one, List.take_add_one, HE.out, hx.out, hy.out, hxy.out]
          clear hS
          go_wp2_with fail
          refine ⟨⟨k + 1, by go_num, by omega, HE2, HB2⟩, by simp [intOf]; omega⟩
        · have hd := decF hxy
          rw [hd] at hneq
          replace hxy := Lib.hid hxy
          replace hd := Lib.hid hd
          refine wpAnyH_take (i := 8) (v := ?_) rfl (by kernel_rfl) (by kernel_rfl) (by kernel_rfl) (fun _ _ _ h => h) (Or.inl ⟨by rfl, ?_⟩) hS ?_
          rotate_left
          · intro v _; go_simp; first | done | with_reducible rfl
          rotate_left
          simp only [List.getElem_toArray, List.getElem_cons_succ, List.getElem_cons_zero, Act.put, List.setIfInBounds_toArray, List.set_cons_zero, List.set_cons_succ]
          refine wpAnyH_done (by kernel_rfl) ?_ _
          have hVf : V = false := by
            rw [hV.out]
            refine decF fun e => hxy.out ?_
            subst e
            have := hx.out
            rw [hy.out] at this
            exact (Option.some.inj this).symm
          subst hVf
          clear hS
          go_wp2_with fail
          go_ret
          exact ⟨rfl, HB2.out⟩
      · have hkn' : ¬ (k : Int) < (ps.length : Int) := by omega
        have hVt : V = true := by
          rw [hV.out]
          refine decT ?_
          have := HE.out
          rwa [List.take_of_length_le (by omega), List.take_of_length_le (by have := hl.out; omega)] at this
        subst hVt
        go_wp2_with fail
        go_ret
        exact ⟨rfl, HB.out⟩
  · rw [decF (fun e => hl (by rw [e]))]
    have hne : ((ps.length : Int) == (qs.length : Int)) = false := by rw [beq_eq_false_iff_ne]; omega
    have hne2 : (ps.length == qs.length) = false := by rw [beq_eq_false_iff_ne]; exact hl
    replace hl := Lib.hid hl
    go_enter Tryd.func39, Tryd.ntmps39
    go_wp2_with fail
    go_ret
    exact ⟨rfl, Below.refl _ _⟩
end Go.Proofs.YtldpnmebjnkjeaaDoor.TrW
namespace Go.Proofs.YtldpnmebjnkjeaaDoor.TrW
open Go.RowKit Go.Proofs.YtldpnmebjnkjeaaDoorW.PrintWords Go.Proofs.YtldpnmebjnkjeaaDoor.PH1 Go.Proofs.YtldpnmebjnkjeaaDoor Go.Proofs.YtldpnmebjnkjeaaDoorW.PrintLast Go.Proofs.YtldpnmebjnkjeaaDoorW.PrintMore
open Go.Proofs.YtldpnmebjnkjeaaDoor.Sha
set_option linter.unusedVariables false
set_option linter.unusedSimpArgs false

structure Pr where
  s : ByteArray
  a : List UInt8
  b : List UInt8
deriving DecidableEq
def Pr.ok (p : Pr) : Prop := p.a.length = 32 ∧ p.b.length = 32
def pcs (p : Pr) : List Value := .string p.s :: (Lib.byteCells p.a ++ Lib.byteCells p.b)
/-- A segment filled. -/
theorem fold_seg (off : Nat) : ∀ (L : List Value) (k : Nat) (P S R : List Value), S.length = L.length → P.length = off + k →
    (L.zipIdx k).foldl (fun (cs : Array Value) (x : Value × Nat) => cs.setIfInBounds (off + x.2) x.1) (P ++ S ++ R).toArray = (P ++ L ++ R).toArray
  | [], k, P, S, R, hS, hP => by
    have : S = [] := List.eq_nil_of_length_eq_zero (by simpa using hS)
    rw [this]; rfl
  | c :: L, k, P, [], R, hS, hP => by simp at hS
  | c :: L, k, P, s :: S, R, hS, hP => by
    rw [List.zipIdx_cons, List.foldl_cons]
    have e : (P ++ s :: S ++ R).toArray.setIfInBounds (off + k) c = ((P ++ [c]) ++ S ++ R).toArray := by
      rw [List.setIfInBounds_toArray, List.append_assoc, List.set_append_right _ _ (by omega), hP, Nat.sub_self]
      simp
    show List.foldl _ ((P ++ s :: S ++ R).toArray.setIfInBounds (off + k) c) _ = _
    rw [e, fold_seg off L (k + 1) (P ++ [c]) S R (by simpa using hS) (by simp [hP]; omega)]
    simp
theorem fill_seg (place : Nat → Option (Nat × Nat)) (i off n : Nat) (v : Value) (L P S R : List Value) (rest : List (Nat × Value)) (hp : place i = some (off, n)) (hv : v.cells = L.toArray) (hL : L.length = n) (hS : S.length = n) (hP : P.length = off) :
    Instr.fill place (P ++ S ++ R).toArray ((i, v) :: rest) = Instr.fill place (P ++ L ++ R).toArray rest := by
  rw [Instr.fill]
  simp only [hp, hv]
  rw [if_neg (by simp [hL, hS, hP])]
  congr 1
  have h := fold_seg off L 0 P S R (by omega) (by omega)
  rw [← Array.foldl_toList, Array.toList_zipIdx]
  simpa using h
end Go.Proofs.YtldpnmebjnkjeaaDoor.TrW
namespace Go.Proofs.YtldpnmebjnkjeaaDoor.TrW
open Go.RowKit Go.Proofs.YtldpnmebjnkjeaaDoorW.PrintWords Go.Proofs.YtldpnmebjnkjeaaDoor.PH1 Go.Proofs.YtldpnmebjnkjeaaDoor Go.Proofs.YtldpnmebjnkjeaaDoorW.PrintLast Go.Proofs.YtldpnmebjnkjeaaDoorW.PrintMore
open Go.Proofs.YtldpnmebjnkjeaaDoor.Sha
open Go.Proofs.YtldpnmebjnkjeaaDoor.Ref10 (wpOp_wp)
set_option linter.unusedVariables false
set_option linter.unusedSimpArgs false

def PrAd (ad : Addr) (p : Pr) (w : World) : Prop := ∀ j v, (pcs p)[j]? = some v → w.cell? (ad.add j) = some v
theorem RD.one {w : World} (p : List UInt8) (hp : p.length = 32) (b : Nat) (hb : b ≤ w.heap.size) : RD b (.slice (some ⟨w.heap.size, 0, none⟩) 1 1) [p] (w.alloc (.cells (Lib.byteCells p).toArray 24)) := by
  refine ⟨fun _ _ => trivial, Lib.byteCells p, ?_, ⟨by rw [bc_len hp]; rfl, fun j q hq => ?_⟩⟩
  · have h2 := World.ownsRow_lit (base := b) (e := 24) (size := 32) w (Lib.byteCells p).toArray 1 hb (by decide) (by simpa using bc_len hp)
    have h3 : (w.alloc (.cells (Lib.byteCells p).toArray 24)).ownsRow b 24 32 (.slice (some ⟨w.heap.size, 0, none⟩) 1 1) 1 (Lib.byteCells p) := by simpa using h2
    exact h3
  · cases j with
    | zero =>
      simp at hq
      subst hq
      rw [Nat.zero_mul, List.drop_zero, List.take_of_length_le (by rw [bc_len hp]; exact Nat.le_refl _)]
      exact kDig_M _ _ _ hp
    | succ j => simp at hq
def PrAt (b : Nat) (p : Pr) (w : World) : Prop := w.heap[b]? = some (.cells (pcs p).toArray 116 (0, 0))
theorem PrAt.below {b : Nat} {p : Pr} {w w1 : World} (h : PrAt b p w) (hb : Below w.heap.size w w1) : PrAt b p w1 := blk_below h hb
theorem PrAt.ad {b : Nat} {p : Pr} {w : World} (h : PrAt b p w) : PrAd ⟨b, 0, none⟩ p w := by
  intro j u hu
  rw [Addr.add_mid, Nat.zero_add, cell_of_row _ _ _ _ _ _ h]
  simpa using hu
/-- Its digests. -/
theorem PrAd.a {ad : Addr} {p : Pr} {w : World} (h : PrAd ad p w) (hp : p.ok) : DigAd (ad.add 1) p.a w := by
  intro j v hv
  rw [Addr.add_add]
  refine h (1 + j) v ?_
  have hj := (List.getElem?_eq_some_iff.1 hv).1
  unfold pcs
  rw [Nat.add_comm 1 j, List.getElem?_cons_succ, List.getElem?_append_left hj]
  exact hv
theorem PrAd.b {ad : Addr} {p : Pr} {w : World} (h : PrAd ad p w) (hp : p.ok) : DigAd (ad.add 33) p.b w := by
  intro j v hv
  rw [Addr.add_add]
  refine h (33 + j) v ?_
  unfold pcs
  rw [show 33 + j = (32 + j) + 1 by omega, List.getElem?_cons_succ, List.getElem?_append_right (by rw [bc_len hp.1]; omega), bc_len hp.1, Nat.add_sub_cancel_left]
  exact hv
end Go.Proofs.YtldpnmebjnkjeaaDoor.TrW
namespace Go.Proofs.YtldpnmebjnkjeaaDoor.TrW
open Go.RowKit Go.Proofs.YtldpnmebjnkjeaaDoorW.PrintWords Go.Proofs.YtldpnmebjnkjeaaDoor.PH1 Go.Proofs.YtldpnmebjnkjeaaDoor Go.Proofs.YtldpnmebjnkjeaaDoorW.PrintLast Go.Proofs.YtldpnmebjnkjeaaDoorW.PrintMore
open Go.Proofs.YtldpnmebjnkjeaaDoor.Sha
set_option linter.unusedVariables false
set_option linter.unusedSimpArgs false

theorem RD.lt {b : Nat} {v : Value} {xs : List (List UInt8)} {w : World} (h : RD b v xs w) (k : Nat) (hk : v.ownBlock = some k) : k < w.heap.size := ((Kd.R_bound h).1 k hk).2.2.1
theorem RD.lower {b b' : Nat} {v : Value} {xs : List (List UInt8)} {w : World} (h : RD b v xs w) (hb : b' ≤ b) : RD b' v xs w := Kd.R_lower h hb
theorem RB.lower {b b' : Nat} {v : Value} {xs : List Bool} {w : World} (h : RB b v xs w) (hb : b' ≤ b) : RB b' v xs w := Kd.R_lower h hb
theorem RD.far {b bx : Nat} {v : Value} {xs : List (List UInt8)} {q : Pr} {w w1 : World} (h : RD b v xs w) (hx : PrAt bx q w) (hk : ∀ k, k ≠ bx → w1.heap[k]? = w.heap[k]?) : RD b v xs w1 :=
  Kd.R_mono (Kd.R_step (Kd.R_types h hx (by decide)) (fun k hk' _ => hk k hk'.2)) (fun _ h => h.1)
theorem RB.far {b bx : Nat} {v : Value} {xs : List Bool} {q : Pr} {w w1 : World} (h : RB b v xs w) (hx : PrAt bx q w) (hk : ∀ k, k ≠ bx → w1.heap[k]? = w.heap[k]?) : RB b v xs w1 :=
  Kd.R_mono (Kd.R_step (Kd.R_types h hx (by decide)) (fun k hk' _ => hk k hk'.2)) (fun _ h => h.1)
theorem PrAt.grown {b : Nat} {p : Pr} {w w1 : World} {row : Option Nat} (h : PrAt b p w) (hg : w.grownBy w1 row) (hne : some b ≠ row) : PrAt b p w1 := blk_grown h hg hne
end Go.Proofs.YtldpnmebjnkjeaaDoor.TrW
namespace Go.Proofs.YtldpnmebjnkjeaaDoor.TrW
open Go.RowKit Go.Proofs.YtldpnmebjnkjeaaDoorW.PrintWords Go.Proofs.YtldpnmebjnkjeaaDoor.PH1 Go.Proofs.YtldpnmebjnkjeaaDoor Go.Proofs.YtldpnmebjnkjeaaDoorW.PrintLast Go.Proofs.YtldpnmebjnkjeaaDoorW.PrintMore
open Go.Proofs.YtldpnmebjnkjeaaDoor.Sha
open Go.Proofs.YtldpnmebjnkjeaaDoor.Ref10 (wp_store_dig wp_load_dig wpOp_wp range_row)
set_option linter.unusedVariables false
set_option linter.unusedSimpArgs false

def L3 : List ByteArray := [⟨#[97]⟩, ⟨#[98]⟩, ⟨#[99]⟩]
def la : List UInt8 := leafP [97]
def lb : List UInt8 := leafP [98]
def lc : List UInt8 := leafP [99]
theorem sp3 : Tr.sp 3 = 2 := by decide
theorem sp2 : Tr.sp 2 = 1 := by decide
theorem root2 : Tr.root alg [[97], [98]] = joinP la lb := by
  rw [Tr.root_join alg _ (by decide)]
  show joinP (Tr.root alg (List.take (Tr.sp 2) _)) (Tr.root alg (List.drop (Tr.sp 2) _)) = _
  rw [sp2]
  show joinP (Tr.root alg [[97]]) (Tr.root alg [[98]]) = _
  rw [Tr.root_one, Tr.root_one]
  rfl
theorem root3 : Tr.root alg (bl L3) = joinP (joinP la lb) lc := by
  show Tr.root alg [[97], [98], [99]] = _
  rw [Tr.root_join alg _ (by decide)]
  show joinP (Tr.root alg (List.take (Tr.sp 3) _)) (Tr.root alg (List.drop (Tr.sp 3) _)) = _
  rw [sp3]
  show joinP (Tr.root alg [[97], [98]]) (Tr.root alg [[99]]) = _
  rw [Tr.root_one, root2]
  rfl
theorem path3 : (Tr.path alg (bl L3) 1).reverse = [la, lc] := by
  show (Tr.path alg [[97], [98], [99]] 1).reverse = _
  rw [Tr.path_left alg _ _ (by decide) (by decide)]
  show (Tr.root alg (List.drop (Tr.sp 3) _) :: Tr.path alg (List.take (Tr.sp 3) _) 1).reverse = _
  rw [sp3]
  show (Tr.root alg [[99]] :: Tr.path alg [[97], [98]] 1).reverse = _
  rw [Tr.path_right alg [[97], [98]] _ (by decide) (by decide), Tr.root_one]
  show (_ :: Tr.root alg (List.take (Tr.sp 2) _) :: Tr.path alg (List.drop (Tr.sp 2) _) (1 - Tr.sp 2)).reverse = _
  rw [sp2]
  show (_ :: Tr.root alg [[97]] :: Tr.path alg [[98]] 0).reverse = _
  rw [Tr.path_small alg _ _ (by decide), Tr.root_one]
  rfl
theorem bridge3 : (Tr.bridge alg (bl L3) 2 true).reverse = [lc] := by
  show (Tr.bridge alg [[97], [98], [99]] 2 true).reverse = _
  rw [Tr.bridge_left alg _ _ _ (by decide) (by decide)]
  show (Tr.root alg (List.drop (Tr.sp 3) _) :: Tr.bridge alg (List.take (Tr.sp 3) _) 2 true).reverse = _
  rw [sp3]
  show (Tr.root alg [[99]] :: Tr.bridge alg [[97], [98]] 2 true).reverse = _
  rw [Tr.bridge_end alg _ _ _ (by decide), Tr.root_one]
  rfl
theorem sides13 : Tr.sides 1 3 = [true, false] := by rw [Tr.sides_left 1 3 (by decide) (by decide), sp3, Tr.sides_right 1 2 (by decide) (by decide), sp2, Tr.sides_small _ _ (by decide)]
theorem sides03 : Tr.sides 0 3 = [true, true] := by rw [Tr.sides_left 0 3 (by decide) (by decide), sp3, Tr.sides_left 0 2 (by decide) (by decide), sp2, Tr.sides_small _ _ (by decide)]
theorem way23 : Tr.way 2 3 = [true] := by rw [Tr.way_left 2 3 (by decide) (by decide), sp3, Tr.way_end _ _ (by decide)]
theorem way13 : Tr.way 1 3 = [true, true] := by rw [Tr.way_left 1 3 (by decide) (by decide), sp3, Tr.way_left 1 2 (by decide) (by decide), sp2, Tr.way_end _ _ (by decide)]
theorem path_t : pathV [98] 1 3 (joinP (joinP la lb) lc) [la, lc] = true := by
  unfold pathV
  refine decT ⟨by decide, by decide, by decide, ?_, ?_⟩
  · show (Tr.sides 1 3).length = _; rw [sides13]; rfl
  · show Tr.last alg _ (Tr.sides 1 3).reverse _ = _; rw [sides13]; rfl
set_option maxRecDepth 100000 in
theorem swap_ne : joinP (joinP lb la) lc ≠ joinP (joinP la lb) lc := by decide +kernel
set_option maxRecDepth 100000 in
theorem ab_ne : la ≠ lb := by decide +kernel
theorem path_f : pathV [98] 0 3 (joinP (joinP la lb) lc) [la, lc] = false := by
  unfold pathV
  refine decF fun h => swap_ne ?_
  have h2 : Tr.last alg (leafP [98]) (Tr.sides 0 3).reverse [la, lc] = joinP (joinP la lb) lc := h.2.2.2.2
  rw [sides03] at h2
  exact h2
theorem bridge_t : bridgeV 2 3 (joinP la lb) (joinP (joinP la lb) lc) [lc] = true := by
  have hw : Tr.whole 2 3 = true := by unfold Tr.whole; rw [way23]; rfl
  unfold bridgeV
  show (decide _ && if Tr.whole 2 3 = true then bridgeE 2 3 _ _ _ _ else _) = true
  rw [hw, if_pos rfl]
  unfold bridgeE
  rw [way23]
  simp [Tr.lastX, Tr.last, Tr.next]
  rfl
theorem bridge_f : bridgeV 1 3 (joinP la lb) (joinP (joinP la lb) lc) [lc] = false := by
  have hw : Tr.whole 1 3 = true := by unfold Tr.whole; rw [way13]; rfl
  unfold bridgeV
  show (decide _ && if Tr.whole 1 3 = true then bridgeE 1 3 _ _ _ _ else _) = false
  rw [hw, if_pos rfl]
  unfold bridgeE
  rw [way13]
  simp
theorem wrong3 : wrongN L3 = 0 := by decide
theorem wrong1025 : wrongN (List.replicate 1025 (⟨#[]⟩ : ByteArray)) = 4 := by
  unfold wrongN
  rw [if_pos (Or.inl (by rw [List.length_replicate]; decide))]
theorem run_buildSlice_dig2 (W : World) (p q : List UInt8) (hp : p.length = 32) (hq : q.length = 32) :
    (Instr.buildSlice 61 2 #[(0, .agg (Lib.byteCells p).toArray), (1, .agg (Lib.byteCells q).toArray)]).run Tryd.prog W = .ok (.slice (some ⟨W.heap.size, 0, none⟩) 2 2) (W.alloc (.cells (Lib.byteCells p ++ Lib.byteCells q).toArray 24)) := by
  obtain ⟨i, hi, hz⟩ := Option.map_eq_some_iff.1 info_digest
  simp only [Prod.mk.injEq] at hz
  obtain ⟨hz0, hz1, hz2⟩ := hz
  unfold Instr.buildSlice
  simp [run_underlying Tryd.underlying61, run_sizeOf W hi, hz1, zeroValue, typeInfo, hi, hz0]
  have hc : Tryd.prog.cellsOf 24 = 32 := by kernel_rfl
  rw [hc, if_neg (by omega), if_neg (by omega)]
  generalize hcs : Array.map _ _ = cells
  have hcl : cells.toList.length = 64 := by rw [← hcs]; simp
  have e1 := fill_seg (fun i => some (i * 32, 32)) 0 0 32 (.agg (Lib.byteCells p).toArray) (Lib.byteCells p) [] (cells.toList.take 32) (cells.toList.drop 32) [(1, .agg (Lib.byteCells q).toArray)] rfl rfl (bc_len hp) (by rw [List.length_take, hcl]; rfl) rfl
  have e2 := fill_seg (fun i => some (i * 32, 32)) 1 32 32 (.agg (Lib.byteCells q).toArray) (Lib.byteCells q) (Lib.byteCells p) (cells.toList.drop 32) [] [] rfl rfl (bc_len hq) (by rw [List.length_drop, hcl]) (bc_len hp)
  simp only [List.nil_append, List.append_nil, List.take_append_drop] at e1 e2
  rw [show cells = cells.toList.toArray by simp, e1, e2, Instr.fill]
  rfl
theorem wpList_buildSlice_dig2 {ops : Array Oper} {rest : List Oper} {o : Oper} {a : Act} {Q : Exit → Act → World → Prop} {W : World} (hgd : o.guard = none) (x y : Operand) (ho : o.op = .buildSlice 61 2 #[(0, x), (1, y)])
    (p q : List UInt8) (hp : p.length = 32) (hq : q.length = 32) (hx : a.eval x = .agg (Lib.byteCells p).toArray) (hy : a.eval y = .agg (Lib.byteCells q).toArray)
    (h : wpList Tryd.prog ops Q rest (a.put o.dst (.slice (some ⟨W.heap.size, 0, none⟩) 2 2)) (W.alloc (.cells (Lib.byteCells p ++ Lib.byteCells q).toArray 24))) : wpList Tryd.prog ops Q (o :: rest) a W := by
  refine wpList_plain hgd fun _ hK => ?_
  unfold Oper.wp execOp
  simp only [ho, List.map_toArray, List.map_cons, List.map_nil, hx, hy]
  rw [Sem.run_bind, run_buildSlice_dig2 W p q hp hq]
  exact hK _ _ h
theorem RD.two {w : World} (p q : List UInt8) (hp : p.length = 32) (hq : q.length = 32) (b : Nat) (hb : b ≤ w.heap.size) : RD b (.slice (some ⟨w.heap.size, 0, none⟩) 2 2) [p, q] (w.alloc (.cells (Lib.byteCells p ++ Lib.byteCells q).toArray 24)) := by
  refine ⟨fun _ _ => trivial, Lib.byteCells p ++ Lib.byteCells q, ?_, ⟨by rw [List.length_append, bc_len hp, bc_len hq]; rfl, fun j z hz => ?_⟩⟩
  · have h2 := World.ownsRow_lit (base := b) (e := 24) (size := 32) w (Lib.byteCells p ++ Lib.byteCells q).toArray 2 hb (by decide) (by simp [bc_len hp, bc_len hq])
    have h3 : (w.alloc (.cells (Lib.byteCells p ++ Lib.byteCells q).toArray 24)).ownsRow b 24 32 (.slice (some ⟨w.heap.size, 0, none⟩) 2 2) 2 (Lib.byteCells p ++ Lib.byteCells q) := by simpa using h2
    exact h3
  · match j with
    | 0 =>
      simp at hz
      subst hz
      rw [Nat.zero_mul, List.drop_zero, List.take_append_of_le_length (by rw [kDig_sz, bc_len hp]; exact Nat.le_refl _), List.take_of_length_le (by rw [kDig_sz, bc_len hp]; exact Nat.le_refl _)]
      exact kDig_M _ _ _ hp
    | 1 =>
      simp at hz
      subst hz
      rw [Nat.one_mul, kDig_sz, List.drop_append_of_le_length (by rw [bc_len hp]; exact Nat.le_refl _), List.drop_of_length_le (by rw [bc_len hp]; exact Nat.le_refl _), List.nil_append, List.take_of_length_le (by rw [bc_len hq]; exact Nat.le_refl _)]
      exact kDig_M _ _ _ hq
    | j + 2 => simp at hz
/-- A row of strings, made. -/
theorem RS.lit {w : World} (L : List ByteArray) (b : Nat) (hb : b ≤ w.heap.size) (hm : L.length ≤ 1000000) (cells : Array Value) (hc : cells.toList = L.map Value.string) : Kd.C Kd.string (w.alloc (.cells cells 9)) (some ⟨w.heap.size, 0, none⟩) L.length L := by
  have h2 := World.ownsRow_lit (base := b) (e := 9) (size := 1) w cells L.length hb (by unfold maxLen; omega) (by rw [← Array.length_toList, hc, List.length_map, Nat.mul_one])
  have h3 := Kd.R_of_own (enc := Value.string) (h1 := fun _ => rfl) (e := 9) (base := b) (ok := fun _ => True) (w := w.alloc (.cells cells 9)) (v := .slice (some ⟨w.heap.size, 0, none⟩) L.length L.length) (xs := L) (by rw [hc] at h2; exact h2) (fun _ _ => trivial)
  obtain ⟨A, c, hv, hcc, hC⟩ := Kd.R_reads h3
  cases hv
  exact hC
end Go.Proofs.YtldpnmebjnkjeaaDoor.TrW
namespace Go.Proofs.YtldpnmebjnkjeaaDoor.TrW
open Go.RowKit Go.Proofs.YtldpnmebjnkjeaaDoorW.PrintWords Go.Proofs.YtldpnmebjnkjeaaDoor.PH1 Go.Proofs.YtldpnmebjnkjeaaDoor Go.Proofs.YtldpnmebjnkjeaaDoorW.PrintLast Go.Proofs.YtldpnmebjnkjeaaDoorW.PrintMore
open Go.Proofs.YtldpnmebjnkjeaaDoor.Sha
open Go.Proofs.YtldpnmebjnkjeaaDoor.Ref10 (wp_store_dig wp_load_dig wpOp_wp range_row)
set_option linter.unusedVariables false
set_option linter.unusedSimpArgs false
def S2d (b : Nat) (x : List UInt8) (c : Nat) (y : List UInt8) (W : World) : Prop := DigAt b x W ∧ DigAt c y W
set_option maxHeartbeats 16000000 in
set_option maxRecDepth 100000 in
theorem alive_calls (w : World) (hK : KAt w) : Calls Tryd.prog 30 #[] w fun e w' => e = .returned (.bool true) ∧ Below w.heap.size w w' := by
  have kla := fun W hk => tleaf_calls ⟨#[97]⟩ (by decide) W hk
  have klb := fun W hk => tleaf_calls ⟨#[98]⟩ (by decide) W hk
  have klc := fun W hk => tleaf_calls ⟨#[99]⟩ (by decide) W hk
  have hla : la.length = 32 := sumL_len _
  have hlb : lb.length = 32 := sumL_len _
  have hlc : lc.length = 32 := sumL_len _
  have htw : (joinP la lb).length = 32 := sumL_len _
  have hrt : (joinP (joinP la lb) lc).length = 32 := sumL_len _
  have kjab := fun W hk => tjoin_calls la lb hla hlb W hk
  have kjr := fun W hk => tjoin_calls (joinP la lb) lc htw hlc W hk
  have kroot := fun (A : Option Addr) (c : Nat) (W : World) (h : Kd.C Kd.string W A 3 L3) hk => tRoot_ok A 3 L3 W h (Nat.le_refl _) wrong3 hk
  have kpath := fun (A : Option Addr) (c : Nat) (W : World) (h : Kd.C Kd.string W A 3 L3) hk => tPath_ok A 3 L3 1 W h (Nat.le_refl _) wrong3 (by decide) hk
  have kbrid := fun (A : Option Addr) (c : Nat) (W : World) (h : Kd.C Kd.string W A 3 L3) hk => tBridge_ok A 3 L3 2 W h (Nat.le_refl _) wrong3 (by decide) (by decide) hk
  have kpath3 := fun (A : Option Addr) (c : Nat) (W : World) (h : Kd.C Kd.string W A 3 L3) => tPath_arg A 3 L3 3 W h wrong3 (by decide)
  have kbrid0 := fun (A : Option Addr) (c : Nat) (W : World) (h : Kd.C Kd.string W A 3 L3) => tBridge_arg A 3 L3 0 W h wrong3 (by decide)
  have hpt := path_t
  have hpf := path_f
  have hbt := bridge_t
  have hbf := bridge_f
  rw [root3] at kroot
  rw [path3] at kpath
  rw [bridge3] at kbrid
  have hcp1 := fun (r : List UInt8) (hr : r.length = 32) (A : Option Addr) (c : Nat) (W : World) (hC : CD A [la, lc] W) (hc : 2 ≤ c) hk => tCheckPath_calls ⟨#[98]⟩ (by decide) 1 3 r hr [la, lc] A c W hC hc hk
  have hcp0 := fun (r : List UInt8) (hr : r.length = 32) (A : Option Addr) (c : Nat) (W : World) (hC : CD A [la, lc] W) (hc : 2 ≤ c) hk => tCheckPath_calls ⟨#[98]⟩ (by decide) 0 3 r hr [la, lc] A c W hC hc hk
  have hcb2 := fun (A : Option Addr) (c : Nat) (W : World) (hC : CD A [lc] W) (hc : 1 ≤ c) hk => tCheckBridge_calls 2 3 _ _ htw hrt [lc] A c W hC hc hk
  have hcb1 := fun (A : Option Addr) (c : Nat) (W : World) (hC : CD A [lc] W) (hc : 1 ≤ c) hk => tCheckBridge_calls 1 3 _ _ htw hrt [lc] A c W hC hc hk
  rw [hbt] at hcb2
  rw [hbf] at hcb1
  replace hcp1 := hcp1 _ hrt
  replace hcp0 := hcp0 _ hrt
  have e98 : (⟨#[98]⟩ : ByteArray).data.toList = [98] := rfl
  rw [e98, hpt] at hcp1
  rw [e98, hpf] at hcp0
  have hne := ab_ne
  rw [show leafP (⟨#[97]⟩ : ByteArray).data.toList = la from rfl] at kla
  rw [show leafP (⟨#[98]⟩ : ByteArray).data.toList = lb from rfl] at klb
  rw [show leafP (⟨#[99]⟩ : ByteArray).data.toList = lc from rfl] at klc
  clear hpt hpf hbt hbf e98
  generalize joinP (joinP la lb) lc = R at *
  generalize joinP la lb = T at *
  generalize la = ya at *
  generalize lb = yb at *
  generalize lc = yc at *
  have heq : ∀ W : World, (Op.equalIn 10000 24 (.agg (Lib.byteCells ya).toArray) (.agg (Lib.byteCells yb).toArray)).run Tryd.prog W = .ok false W := fun W => by
    rw [eq32 W ya yb hla hlb, decF hne]
  have heqr : ∀ W : World, (Op.equalIn 10000 24 (.agg (Lib.byteCells R).toArray) (.agg (Lib.byteCells R).toArray)).run Tryd.prog W = .ok true W := fun W => by
    rw [eq32 W R R hrt hrt, decT rfl]
  replace hla := Lib.hid hla
  replace hlb := Lib.hid hlb
  replace hlc := Lib.hid hlc
  replace htw := Lib.hid htw
  replace hrt := Lib.hid hrt
  replace hne := Lib.hid hne
  replace heq := Lib.hid heq
  replace heqr := Lib.hid heqr
  replace kla := Lib.hid kla
  replace klb := Lib.hid klb
  replace klc := Lib.hid klc
  replace kjab := Lib.hid kjab
  replace kjr := Lib.hid kjr
  replace kroot := Lib.hid kroot
  replace kpath := Lib.hid kpath
  replace kbrid := Lib.hid kbrid
  replace kpath3 := Lib.hid kpath3
  replace kbrid0 := Lib.hid kbrid0
  replace hcp1 := Lib.hid hcp1
  replace hcp0 := Lib.hid hcp0
  replace hcb2 := Lib.hid hcb2
  replace hcb1 := Lib.hid hcb1
  go_enter Tryd.func30, Tryd.ntmps30
  go_upto_region 2 with fail
  generalize hw1 : w.alloc _ = w1
  have HC : Hid (Kd.C Kd.string w1 (some ⟨w.heap.size, 0, none⟩) 3 L3) := by
    rw [← hw1]; exact Lib.hid (RS.lit L3 _ (Nat.le_refl _) (by decide) _ rfl)
  have HB : Hid (Below w.heap.size w w1) := by
    rw [← hw1]; exact Lib.hid ((Below.refl _ _).alloc (Nat.le_refl _) _)
  have HK : Hid (KAt w1) := Lib.hid (hK.below HB.out)
  clear hw1 hK
  obtain ⟨A1, hA1⟩ : ∃ A, A = some (⟨w.heap.size, 0, none⟩ : Addr) := ⟨_, rfl⟩
  rw [← hA1] at HC ⊢
  replace hA1 := Lib.hid hA1
  go_wp2_with fail
  refine (kroot.out A1 0 w1 HC.out HK.out).mono ?_
  rintro e w2 ⟨rfl, hb_⟩
  replace HC := Lib.hid (Kd.C_below HC.out hb_)
  replace HK := Lib.hid (HK.out.below hb_)
  replace HB := Lib.hid (HB.out.trans (Below.mono hb_ HB.out.size))
  clear hb_
  go_upto_region 3 with (guard_target = wpList _ _ _ (⟨none, _, _, _, _, _⟩ :: _) _ _; refine wpList_store_dig rfl (.tmp 2) (.tmp 21) rfl w2.heap.size rfl R hrt.out rfl _ _ (heap_alloc_last _ _) zrow ?_; intro w3 h3 _ hB3)
  have hb3 : Below w2.heap.size w2 w3 := hB3 ((Below.refl _ _).alloc (Nat.le_refl _) _) (Nat.le_refl _)
  have H2 : Hid (DigAt w2.heap.size R w3) := h3
  replace HC := Lib.hid (Kd.C_below HC.out hb3)
  replace HK := Lib.hid (HK.out.below hb3)
  replace HB := Lib.hid (HB.out.trans (Below.mono hb3 HB.out.size))
  clear hb3 hB3 h3
  generalize w2.heap.size = b2 at H2 ⊢
  go_wp2_with fail
  refine (kpath.out A1 0 w3 HC.out HK.out).mono ?_
  rintro e w4 ⟨v, rfl, hv, hb_⟩
  obtain ⟨A4, c4, rfl, hc4, H4⟩ := hv.reads
  replace H4 := Lib.hid H4
  replace hc4 := Lib.hid hc4
  replace HC := Lib.hid (Kd.C_below HC.out hb_)
  replace HK := Lib.hid (HK.out.below hb_)
  replace HB := Lib.hid (HB.out.trans (Below.mono hb_ HB.out.size))
  replace H2 := Lib.hid (DigAt.below H2.out hb_)
  clear hb_ hv
  go_wp2_with fail
  refine (kbrid.out A1 0 w4 HC.out HK.out).mono ?_
  rintro e w5 ⟨v, rfl, hv, hb_⟩
  obtain ⟨A6, c6, rfl, hc6, H6⟩ := hv.reads
  replace H6 := Lib.hid H6
  replace hc6 := Lib.hid hc6
  replace HC := Lib.hid (Kd.C_below HC.out hb_)
  replace HK := Lib.hid (HK.out.below hb_)
  replace HB := Lib.hid (HB.out.trans (Below.mono hb_ HB.out.size))
  replace H2 := Lib.hid (DigAt.below H2.out hb_)
  replace H4 := Lib.hid (CD.below H4.out hb_)
  clear hb_ hv
  go_wp2_with fail
  refine (kla.out w5 HK.out).mono ?_
  rintro e w6 ⟨rfl, hb_⟩
  replace HC := Lib.hid (Kd.C_below HC.out hb_)
  replace HK := Lib.hid (HK.out.below hb_)
  replace HB := Lib.hid (HB.out.trans (Below.mono hb_ HB.out.size))
  replace H2 := Lib.hid (DigAt.below H2.out hb_)
  replace H4 := Lib.hid (CD.below H4.out hb_)
  replace H6 := Lib.hid (CD.below H6.out hb_)
  clear hb_
  go_wp2_with fail
  refine (klb.out w6 HK.out).mono ?_
  rintro e w7 ⟨rfl, hb_⟩
  replace HC := Lib.hid (Kd.C_below HC.out hb_)
  replace HK := Lib.hid (HK.out.below hb_)
  replace HB := Lib.hid (HB.out.trans (Below.mono hb_ HB.out.size))
  replace H2 := Lib.hid (DigAt.below H2.out hb_)
  replace H4 := Lib.hid (CD.below H4.out hb_)
  replace H6 := Lib.hid (CD.below H6.out hb_)
  clear hb_
  go_wp2_with fail
  refine (kjab.out w7 HK.out).mono ?_
  rintro e w8 ⟨rfl, hb_⟩
  replace HC := Lib.hid (Kd.C_below HC.out hb_)
  replace HK := Lib.hid (HK.out.below hb_)
  replace HB := Lib.hid (HB.out.trans (Below.mono hb_ HB.out.size))
  replace H2 := Lib.hid (DigAt.below H2.out hb_)
  replace H4 := Lib.hid (CD.below H4.out hb_)
  replace H6 := Lib.hid (CD.below H6.out hb_)
  clear hb_
  go_upto_region 6 with (guard_target = wpList _ _ _ (⟨none, _, _, _, _, _⟩ :: _) _ _; refine wpList_store_dig rfl (.tmp 8) (.tmp 35) rfl w8.heap.size rfl T htw.out rfl _ _ (heap_alloc_last _ _) zrow ?_; intro w9 h9 _ hB9)
  have hb9 : Below w8.heap.size w8 w9 := hB9 ((Below.refl _ _).alloc (Nat.le_refl _) _) (Nat.le_refl _)
  have H8 : Hid (DigAt w8.heap.size T w9) := h9
  replace HC := Lib.hid (Kd.C_below HC.out hb9)
  replace HK := Lib.hid (HK.out.below hb9)
  replace HB := Lib.hid (HB.out.trans (Below.mono hb9 HB.out.size))
  replace H2 := Lib.hid (DigAt.below H2.out hb9)
  replace H4 := Lib.hid (CD.below H4.out hb9)
  replace H6 := Lib.hid (CD.below H6.out hb9)
  clear hb9 hB9 h9
  generalize w8.heap.size = b8 at H8 ⊢
  go_wp2_with fail
  refine (kpath3.out A1 0 w9 HC.out).mono ?_
  rintro e w10 ⟨rfl, hb_⟩
  replace HC := Lib.hid (Kd.C_below HC.out hb_)
  replace HK := Lib.hid (HK.out.below hb_)
  replace HB := Lib.hid (HB.out.trans (Below.mono hb_ HB.out.size))
  replace H2 := Lib.hid (DigAt.below H2.out hb_)
  replace H4 := Lib.hid (CD.below H4.out hb_)
  replace H6 := Lib.hid (CD.below H6.out hb_)
  replace H8 := Lib.hid (DigAt.below H8.out hb_)
  clear hb_
  go_wp2_with fail
  refine (kbrid0.out A1 0 w10 HC.out).mono ?_
  rintro e w11 ⟨rfl, hb_⟩
  replace HC := Lib.hid (Kd.C_below HC.out hb_)
  replace HK := Lib.hid (HK.out.below hb_)
  replace HB := Lib.hid (HB.out.trans (Below.mono hb_ HB.out.size))
  replace H2 := Lib.hid (DigAt.below H2.out hb_)
  replace H4 := Lib.hid (CD.below H4.out hb_)
  replace H6 := Lib.hid (CD.below H6.out hb_)
  replace H8 := Lib.hid (DigAt.below H8.out hb_)
  clear hb_
  go_wp2_with (guard_target = wpList _ _ _ (⟨some 47, _, _, _, _, _⟩ :: _) _ _; refine Kd.R_make Kd.string w.heap.size 9 rfl rfl 53 _ _ rfl 1025 rfl rfl und_strs (.string ⟨#[]⟩) 16 (by kernel_rfl) rfl (by decide) (by decide) ⟨#[]⟩ (ok := fun _ => True) (okp := fun _ => False) rfl (fun _ h => h.elim) trivial (by decide) (by decide) HB.out HB.out.size ?_; intro v12 w12 HR HB12 hg12 _)
  have hb12 : Below w11.heap.size w11 w12 := pw_below_grown (Below.refl _ _) none (Nat.le_refl _) hg12 (fun _ h => by cases h)
  replace HC := Lib.hid (Kd.C_below HC.out hb12)
  replace HK := Lib.hid (HK.out.below hb12)
  replace HB := Lib.hid (HB.out.trans (Below.mono hb12 HB.out.size))
  replace H2 := Lib.hid (DigAt.below H2.out hb12)
  replace H4 := Lib.hid (CD.below H4.out hb12)
  replace H6 := Lib.hid (CD.below H6.out hb12)
  replace H8 := Lib.hid (DigAt.below H8.out hb12)
  clear hb12 hg12 HB12
  obtain ⟨A12, c12, rfl, hc12, HC12⟩ := Kd.R_reads HR
  rw [show (1025 : Int).toNat = 1025 from rfl] at HC12 hc12 ⊢
  rw [List.length_replicate] at hc12 ⊢
  have kbad := tRoot_bad A12 c12 (List.replicate 1025 ⟨#[]⟩) w12 HC12 wrong1025
  rw [List.length_replicate] at kbad
  replace kbad := Lib.hid kbad
  clear HR HC12 hc12
  go_wp2_with fail
  refine (kbad.out).mono ?_
  rintro e w13 ⟨rfl, hb_⟩
  replace HC := Lib.hid (Kd.C_below HC.out hb_)
  replace HK := Lib.hid (HK.out.below hb_)
  replace HB := Lib.hid (HB.out.trans (Below.mono hb_ HB.out.size))
  replace H2 := Lib.hid (DigAt.below H2.out hb_)
  replace H4 := Lib.hid (CD.below H4.out hb_)
  replace H6 := Lib.hid (CD.below H6.out hb_)
  replace H8 := Lib.hid (DigAt.below H8.out hb_)
  clear hb_
  clear kbad
  go_upto_region 9 with (guard_target = wpList _ _ _ (⟨none, _, _, _, _, _⟩ :: _) _ _; refine wpList_store_dig rfl (.tmp 13) (.tmp 49) rfl w13.heap.size rfl (List.replicate 32 0) rfl rfl _ _ (heap_alloc_last _ _) zrow ?_; intro w14 h14 _ hB14)
  have hb14 : Below w13.heap.size w13 w14 := hB14 ((Below.refl _ _).alloc (Nat.le_refl _) _) (Nat.le_refl _)
  replace HC := Lib.hid (Kd.C_below HC.out hb14)
  replace HK := Lib.hid (HK.out.below hb14)
  replace HB := Lib.hid (HB.out.trans (Below.mono hb14 HB.out.size))
  replace H2 := Lib.hid (DigAt.below H2.out hb14)
  replace H4 := Lib.hid (CD.below H4.out hb14)
  replace H6 := Lib.hid (CD.below H6.out hb14)
  replace H8 := Lib.hid (DigAt.below H8.out hb14)
  clear hb14 hB14 h14
  generalize w13.heap.size = b13
  go_wp2_with fail
  refine (kla.out w14 HK.out).mono ?_
  rintro e w15 ⟨rfl, hb_⟩
  replace HC := Lib.hid (Kd.C_below HC.out hb_)
  replace HK := Lib.hid (HK.out.below hb_)
  replace HB := Lib.hid (HB.out.trans (Below.mono hb_ HB.out.size))
  replace H2 := Lib.hid (DigAt.below H2.out hb_)
  replace H4 := Lib.hid (CD.below H4.out hb_)
  replace H6 := Lib.hid (CD.below H6.out hb_)
  replace H8 := Lib.hid (DigAt.below H8.out hb_)
  clear hb_
  go_wp2_with fail
  refine (klc.out w15 HK.out).mono ?_
  rintro e w16 ⟨rfl, hb_⟩
  replace HC := Lib.hid (Kd.C_below HC.out hb_)
  replace HK := Lib.hid (HK.out.below hb_)
  replace HB := Lib.hid (HB.out.trans (Below.mono hb_ HB.out.size))
  replace H2 := Lib.hid (DigAt.below H2.out hb_)
  replace H4 := Lib.hid (CD.below H4.out hb_)
  replace H6 := Lib.hid (CD.below H6.out hb_)
  replace H8 := Lib.hid (DigAt.below H8.out hb_)
  clear hb_
  go_wp2_with (guard_target = wpList _ _ _ (⟨some 54, _, _, _, _, _⟩ :: _) _ _; refine wpList_buildSlice_dig2 rfl (.tmp 52) (.tmp 53) rfl ya yc hla.out hlc.out rfl rfl ?_)
  generalize hw17 : w16.alloc _ = w17
  have HR : RD w16.heap.size (.slice (some ⟨w16.heap.size, 0, none⟩) 2 2) [ya, yc] w17 := by
    rw [← hw17]; exact RD.two ya yc hla.out hlc.out _ (Nat.le_refl _)
  have hb17 : Below w16.heap.size w16 w17 := by rw [← hw17]; exact (Below.refl _ _).alloc (Nat.le_refl _) _
  replace HC := Lib.hid (Kd.C_below HC.out hb17)
  replace HK := Lib.hid (HK.out.below hb17)
  replace HB := Lib.hid (HB.out.trans (Below.mono hb17 HB.out.size))
  replace H2 := Lib.hid (DigAt.below H2.out hb17)
  replace H4 := Lib.hid (CD.below H4.out hb17)
  replace H6 := Lib.hid (CD.below H6.out hb17)
  replace H8 := Lib.hid (DigAt.below H8.out hb17)
  clear hw17 hb17
  obtain ⟨A17, c17, hv17, hc17, H17⟩ := HR.reads
  rw [hv17]
  clear hv17 HR
  have ksame := same_calls A4 A17 c4 c17 [ya, yc] [ya, yc] w17 H4.out H17
  rw [decT rfl] at ksame
  replace ksame := Lib.hid ksame
  clear H17 hc17
  refine (ksame.out).mono ?_
  rintro e w18 ⟨rfl, hb_⟩
  replace HC := Lib.hid (Kd.C_below HC.out hb_)
  replace HK := Lib.hid (HK.out.below hb_)
  replace HB := Lib.hid (HB.out.trans (Below.mono hb_ HB.out.size))
  replace H2 := Lib.hid (DigAt.below H2.out hb_)
  replace H4 := Lib.hid (CD.below H4.out hb_)
  replace H6 := Lib.hid (CD.below H6.out hb_)
  replace H8 := Lib.hid (DigAt.below H8.out hb_)
  clear hb_
  clear ksame
  go_wp2_with fail
  refine (klc.out w18 HK.out).mono ?_
  rintro e w19 ⟨rfl, hb_⟩
  replace HC := Lib.hid (Kd.C_below HC.out hb_)
  replace HK := Lib.hid (HK.out.below hb_)
  replace HB := Lib.hid (HB.out.trans (Below.mono hb_ HB.out.size))
  replace H2 := Lib.hid (DigAt.below H2.out hb_)
  replace H4 := Lib.hid (CD.below H4.out hb_)
  replace H6 := Lib.hid (CD.below H6.out hb_)
  replace H8 := Lib.hid (DigAt.below H8.out hb_)
  clear hb_
  go_wp2_with (guard_target = wpList _ _ _ (⟨some 58, _, _, _, _, _⟩ :: _) _ _; refine wpList_buildSlice_dig rfl (.tmp 57) rfl yc hlc.out rfl ?_)
  generalize hw20 : w19.alloc _ = w20
  have HR : RD w19.heap.size (.slice (some ⟨w19.heap.size, 0, none⟩) 1 1) [yc] w20 := by
    rw [← hw20]; exact RD.one yc hlc.out _ (Nat.le_refl _)
  have hb20 : Below w19.heap.size w19 w20 := by rw [← hw20]; exact (Below.refl _ _).alloc (Nat.le_refl _) _
  replace HC := Lib.hid (Kd.C_below HC.out hb20)
  replace HK := Lib.hid (HK.out.below hb20)
  replace HB := Lib.hid (HB.out.trans (Below.mono hb20 HB.out.size))
  replace H2 := Lib.hid (DigAt.below H2.out hb20)
  replace H4 := Lib.hid (CD.below H4.out hb20)
  replace H6 := Lib.hid (CD.below H6.out hb20)
  replace H8 := Lib.hid (DigAt.below H8.out hb20)
  clear hw20 hb20
  obtain ⟨A20, c20, hv20, hc20, H20⟩ := HR.reads
  rw [hv20]
  clear hv20 HR
  have ksame := same_calls A6 A20 c6 c20 [yc] [yc] w20 H6.out H20
  rw [decT rfl] at ksame
  replace ksame := Lib.hid ksame
  clear H20 hc20
  refine (ksame.out).mono ?_
  rintro e w21 ⟨rfl, hb_⟩
  replace HC := Lib.hid (Kd.C_below HC.out hb_)
  replace HK := Lib.hid (HK.out.below hb_)
  replace HB := Lib.hid (HB.out.trans (Below.mono hb_ HB.out.size))
  replace H2 := Lib.hid (DigAt.below H2.out hb_)
  replace H4 := Lib.hid (CD.below H4.out hb_)
  replace H6 := Lib.hid (CD.below H6.out hb_)
  replace H8 := Lib.hid (DigAt.below H8.out hb_)
  clear hb_
  clear ksame
  go_wp2_with fail
  refine wp_region_held (S := S2d b2 R b8 T) (by kernel_rfl) ?_
  change wpAnyH _ _ _ _ _ _ _ _ w21.drew
  replace HC : Hid (Kd.C Kd.string w21.drew A1 3 L3) := HC
  replace HK : Hid (KAt w21.drew) := HK
  replace HB := Lib.hid HB.out.drew
  replace H2 : Hid (DigAt b2 R w21.drew) := H2
  replace H8 : Hid (DigAt b8 T w21.drew) := H8
  replace H4 : Hid (CD A4 [ya, yc] w21.drew) := H4
  replace H6 : Hid (CD A6 [yc] w21.drew) := H6
  generalize w21.drew = x21 at HC HK HB H2 H8 H4 H6 ⊢
  have hS : S2d b2 R b8 T x21 := ⟨H2.out, H8.out⟩
  refine wpAnyH_take (i := 0) (v := ?_) rfl (by kernel_rfl) (by kernel_rfl) (by kernel_rfl) (fun _ _ _ h => h) (Or.inl ⟨by rfl, ?_⟩) hS ?_
  rotate_left
  · intro v _; go_simp; first | done | with_reducible rfl
  rotate_left
  simp only [List.getElem_toArray, List.getElem_cons_succ, List.getElem_cons_zero, Act.put, List.setIfInBounds_toArray, List.set_cons_zero, List.set_cons_succ]
  refine wpAnyH_take (i := 1) (v := ?_) rfl (by kernel_rfl) (by kernel_rfl) (by kernel_rfl) (fun _ _ _ h => h) (Or.inl ⟨by rfl, ?_⟩) hS ?_
  rotate_left
  · intro v _; go_simp; first | done | with_reducible rfl
  rotate_left
  simp only [List.getElem_toArray, List.getElem_cons_succ, List.getElem_cons_zero, Act.put, List.setIfInBounds_toArray, List.set_cons_zero, List.set_cons_succ]
  refine wpAnyH_take (i := 2) (v := ?_) rfl (by kernel_rfl) (by kernel_rfl) (by kernel_rfl) (fun _ _ _ h => h) (Or.inl ⟨by rfl, ?_⟩) hS ?_
  rotate_left
  · intro v _; go_simp; first | done | with_reducible rfl
  rotate_left
  simp only [List.getElem_toArray, List.getElem_cons_succ, List.getElem_cons_zero, Act.put, List.setIfInBounds_toArray, List.set_cons_zero, List.set_cons_succ]
  refine wpAnyH_take (i := 3) (v := _) rfl (by kernel_rfl) (by kernel_rfl) (by kernel_rfl) (fun _ _ _ h => h) (yieldsIf_digA (by rfl) (.tmp 2) rfl ⟨b2,0,none⟩ rfl R hrt.out (fun _ h => (DigAt.ad h.1))) hS ?_
  try simp only [List.getElem_toArray, List.getElem_cons_succ, List.getElem_cons_zero, Act.put, List.setIfInBounds_toArray, List.set_cons_zero, List.set_cons_succ]
  refine wpAnyH_take (i := 4) (v := _) rfl (by kernel_rfl) (by kernel_rfl) (by kernel_rfl) (fun _ _ _ h => h) (yieldsIf_digA (by rfl) (.tmp 8) rfl ⟨b8,0,none⟩ rfl T htw.out (fun _ h => (DigAt.ad h.2))) hS ?_
  try simp only [List.getElem_toArray, List.getElem_cons_succ, List.getElem_cons_zero, Act.put, List.setIfInBounds_toArray, List.set_cons_zero, List.set_cons_succ]
  refine wpAnyH_all (rs := [5]) (by kernel_rfl) (by simp) ?_
  intro i hi
  simp only [List.mem_cons, List.not_mem_nil, or_false] at hi
  subst hi
  refine wpOp_wp rfl (by rfl) ?_
  go_simp
  refine (klc.out x21 HK.out).mono ?_
  rintro e x22 ⟨rfl, hb_⟩
  replace HC := Lib.hid (Kd.C_below HC.out hb_)
  replace HK := Lib.hid (HK.out.below hb_)
  replace HB := Lib.hid (HB.out.trans (Below.mono hb_ HB.out.size))
  replace H2 := Lib.hid (DigAt.below H2.out hb_)
  replace H4 := Lib.hid (CD.below H4.out hb_)
  replace H6 := Lib.hid (CD.below H6.out hb_)
  replace H8 := Lib.hid (DigAt.below H8.out hb_)
  clear hb_ hS
  have hS : S2d b2 R b8 T x22 := ⟨H2.out, H8.out⟩
  refine ⟨hS, ?_⟩
  try simp only [List.getElem_toArray, List.getElem_cons_succ, List.getElem_cons_zero, Act.put, List.setIfInBounds_toArray, List.set_cons_zero, List.set_cons_succ]
  refine wpAnyH_all (rs := [6]) (by kernel_rfl) (by simp) ?_
  intro i hi
  simp only [List.mem_cons, List.not_mem_nil, or_false] at hi
  subst hi
  refine wpOp_wp rfl (by rfl) ?_
  go_simp
  refine (kjr.out x22 HK.out).mono ?_
  rintro e x23 ⟨rfl, hb_⟩
  replace HC := Lib.hid (Kd.C_below HC.out hb_)
  replace HK := Lib.hid (HK.out.below hb_)
  replace HB := Lib.hid (HB.out.trans (Below.mono hb_ HB.out.size))
  replace H2 := Lib.hid (DigAt.below H2.out hb_)
  replace H4 := Lib.hid (CD.below H4.out hb_)
  replace H6 := Lib.hid (CD.below H6.out hb_)
  replace H8 := Lib.hid (DigAt.below H8.out hb_)
  clear hb_ hS
  have hS : S2d b2 R b8 T x23 := ⟨H2.out, H8.out⟩
  refine ⟨hS, ?_⟩
  try simp only [List.getElem_toArray, List.getElem_cons_succ, List.getElem_cons_zero, Act.put, List.setIfInBounds_toArray, List.set_cons_zero, List.set_cons_succ]
  have heqR := heqr.out
  refine wpAnyH_take (i := 7) (v := ?_) rfl (by kernel_rfl) (by kernel_rfl) (by kernel_rfl) (fun _ _ _ h => h) (Or.inl ⟨by rfl, ?_⟩) hS ?_
  rotate_left
  · intro v _; go_simp; first | done | with_reducible rfl
  rotate_left
  simp only [List.getElem_toArray, List.getElem_cons_succ, List.getElem_cons_zero, Act.put, List.setIfInBounds_toArray, List.set_cons_zero, List.set_cons_succ]
  clear heqR
  refine wpAnyH_take (i := 8) (v := ?_) rfl (by kernel_rfl) (by kernel_rfl) (by kernel_rfl) (fun _ _ _ h => h) (Or.inl ⟨by rfl, ?_⟩) hS ?_
  rotate_left
  · intro v _; go_simp; first | done | with_reducible rfl
  rotate_left
  simp only [List.getElem_toArray, List.getElem_cons_succ, List.getElem_cons_zero, Act.put, List.setIfInBounds_toArray, List.set_cons_zero, List.set_cons_succ]
  refine wpAnyH_take (i := 9) (v := ?_) rfl (by kernel_rfl) (by kernel_rfl) (by kernel_rfl) (fun _ _ _ h => h) (Or.inl ⟨by rfl, ?_⟩) hS ?_
  rotate_left
  · intro v _; go_simp; first | done | with_reducible rfl
  rotate_left
  simp only [List.getElem_toArray, List.getElem_cons_succ, List.getElem_cons_zero, Act.put, List.setIfInBounds_toArray, List.set_cons_zero, List.set_cons_succ]
  refine wpAnyH_take (i := 10) (v := ?_) rfl (by kernel_rfl) (by kernel_rfl) (by kernel_rfl) (fun _ _ _ h => h) (Or.inl ⟨by rfl, ?_⟩) hS ?_
  rotate_left
  · intro v _; go_simp; first | done | with_reducible rfl
  rotate_left
  simp only [List.getElem_toArray, List.getElem_cons_succ, List.getElem_cons_zero, Act.put, List.setIfInBounds_toArray, List.set_cons_zero, List.set_cons_succ]
  refine wpAnyH_take (i := 11) (v := ?_) rfl (by kernel_rfl) (by kernel_rfl) (by kernel_rfl) (fun _ _ _ h => h) (Or.inl ⟨by rfl, ?_⟩) hS ?_
  rotate_left
  · intro v _; go_simp; first | done | with_reducible rfl
  rotate_left
  simp only [List.getElem_toArray, List.getElem_cons_succ, List.getElem_cons_zero, Act.put, List.setIfInBounds_toArray, List.set_cons_zero, List.set_cons_succ]
  refine wpAnyH_take (i := 12) (v := ?_) rfl (by kernel_rfl) (by kernel_rfl) (by kernel_rfl) (fun _ _ _ h => h) (Or.inl ⟨by rfl, ?_⟩) hS ?_
  rotate_left
  · intro v _; go_simp; first | done | with_reducible rfl
  rotate_left
  simp only [List.getElem_toArray, List.getElem_cons_succ, List.getElem_cons_zero, Act.put, List.setIfInBounds_toArray, List.set_cons_zero, List.set_cons_succ]
  refine wpAnyH_take (i := 13) (v := ?_) rfl (by kernel_rfl) (by kernel_rfl) (by kernel_rfl) (fun _ _ _ h => h) (Or.inl ⟨by rfl, ?_⟩) hS ?_
  rotate_left
  · intro v _; go_simp; first | done | with_reducible rfl
  rotate_left
  simp only [List.getElem_toArray, List.getElem_cons_succ, List.getElem_cons_zero, Act.put, List.setIfInBounds_toArray, List.set_cons_zero, List.set_cons_succ]
  refine wpAnyH_take (i := 14) (v := ?_) rfl (by kernel_rfl) (by kernel_rfl) (by kernel_rfl) (fun _ _ _ h => h) (Or.inl ⟨by rfl, ?_⟩) hS ?_
  rotate_left
  · intro v _; go_simp; first | done | with_reducible rfl
  rotate_left
  simp only [List.getElem_toArray, List.getElem_cons_succ, List.getElem_cons_zero, Act.put, List.setIfInBounds_toArray, List.set_cons_zero, List.set_cons_succ]
  refine wpAnyH_take (i := 15) (v := ?_) rfl (by kernel_rfl) (by kernel_rfl) (by kernel_rfl) (fun _ _ _ h => h) (Or.inl ⟨by rfl, ?_⟩) hS ?_
  rotate_left
  · intro v _; go_simp; first | done | with_reducible rfl
  rotate_left
  simp only [List.getElem_toArray, List.getElem_cons_succ, List.getElem_cons_zero, Act.put, List.setIfInBounds_toArray, List.set_cons_zero, List.set_cons_succ]
  refine wpAnyH_take (i := 16) (v := ?_) rfl (by kernel_rfl) (by kernel_rfl) (by kernel_rfl) (fun _ _ _ h => h) (Or.inl ⟨by rfl, ?_⟩) hS ?_
  rotate_left
  · intro v _; go_simp; first | done | with_reducible rfl
  rotate_left
  simp only [List.getElem_toArray, List.getElem_cons_succ, List.getElem_cons_zero, Act.put, List.setIfInBounds_toArray, List.set_cons_zero, List.set_cons_succ]
  refine wpAnyH_take (i := 17) (v := ?_) rfl (by kernel_rfl) (by kernel_rfl) (by kernel_rfl) (fun _ _ _ h => h) (Or.inl ⟨by rfl, ?_⟩) hS ?_
  rotate_left
  · intro v _; go_simp; first | done | with_reducible rfl
  rotate_left
  simp only [List.getElem_toArray, List.getElem_cons_succ, List.getElem_cons_zero, Act.put, List.setIfInBounds_toArray, List.set_cons_zero, List.set_cons_succ]
  refine wpAnyH_take (i := 18) (v := ?_) rfl (by kernel_rfl) (by kernel_rfl) (by kernel_rfl) (fun _ _ _ h => h) (Or.inl ⟨by rfl, ?_⟩) hS ?_
  rotate_left
  · intro v _; go_simp; first | done | with_reducible rfl
  rotate_left
  simp only [List.getElem_toArray, List.getElem_cons_succ, List.getElem_cons_zero, Act.put, List.setIfInBounds_toArray, List.set_cons_zero, List.set_cons_succ]
  refine wpAnyH_take (i := 19) (v := ?_) rfl (by kernel_rfl) (by kernel_rfl) (by kernel_rfl) (fun _ _ _ h => h) (Or.inl ⟨by rfl, ?_⟩) hS ?_
  rotate_left
  · intro v _; go_simp; first | done | with_reducible rfl
  rotate_left
  simp only [List.getElem_toArray, List.getElem_cons_succ, List.getElem_cons_zero, Act.put, List.setIfInBounds_toArray, List.set_cons_zero, List.set_cons_succ]
  refine wpAnyH_take (i := 20) (v := ?_) rfl (by kernel_rfl) (by kernel_rfl) (by kernel_rfl) (fun _ _ _ h => h) (Or.inl ⟨by rfl, ?_⟩) hS ?_
  rotate_left
  · intro v _; go_simp; first | done | with_reducible rfl
  rotate_left
  simp only [List.getElem_toArray, List.getElem_cons_succ, List.getElem_cons_zero, Act.put, List.setIfInBounds_toArray, List.set_cons_zero, List.set_cons_succ]
  refine wpAnyH_take (i := 21) (v := ?_) rfl (by kernel_rfl) (by kernel_rfl) (by kernel_rfl) (fun _ _ _ h => h) (Or.inl ⟨by rfl, ?_⟩) hS ?_
  rotate_left
  · intro v _; go_simp; first | done | with_reducible rfl
  rotate_left
  simp only [List.getElem_toArray, List.getElem_cons_succ, List.getElem_cons_zero, Act.put, List.setIfInBounds_toArray, List.set_cons_zero, List.set_cons_succ]
  refine wpAnyH_take (i := 22) (v := ?_) rfl (by kernel_rfl) (by kernel_rfl) (by kernel_rfl) (fun _ _ _ h => h) (Or.inl ⟨by rfl, ?_⟩) hS ?_
  rotate_left
  · intro v _; go_simp; first | done | with_reducible rfl
  rotate_left
  simp only [List.getElem_toArray, List.getElem_cons_succ, List.getElem_cons_zero, Act.put, List.setIfInBounds_toArray, List.set_cons_zero, List.set_cons_succ]
  refine wpAnyH_take (i := 23) (v := ?_) rfl (by kernel_rfl) (by kernel_rfl) (by kernel_rfl) (fun _ _ _ h => h) (Or.inl ⟨by rfl, ?_⟩) hS ?_
  rotate_left
  · intro v _; go_simp; first | done | with_reducible rfl
  rotate_left
  simp only [List.getElem_toArray, List.getElem_cons_succ, List.getElem_cons_zero, Act.put, List.setIfInBounds_toArray, List.set_cons_zero, List.set_cons_succ]
  refine wpAnyH_take (i := 24) (v := ?_) rfl (by kernel_rfl) (by kernel_rfl) (by kernel_rfl) (fun _ _ _ h => h) (Or.inl ⟨by rfl, ?_⟩) hS ?_
  rotate_left
  · intro v _; go_simp; first | done | with_reducible rfl
  rotate_left
  simp only [List.getElem_toArray, List.getElem_cons_succ, List.getElem_cons_zero, Act.put, List.setIfInBounds_toArray, List.set_cons_zero, List.set_cons_succ]
  refine wpAnyH_take (i := 25) (v := ?_) rfl (by kernel_rfl) (by kernel_rfl) (by kernel_rfl) (fun _ _ _ h => h) (Or.inl ⟨by rfl, ?_⟩) hS ?_
  rotate_left
  · intro v _; go_simp; first | done | with_reducible rfl
  rotate_left
  simp only [List.getElem_toArray, List.getElem_cons_succ, List.getElem_cons_zero, Act.put, List.setIfInBounds_toArray, List.set_cons_zero, List.set_cons_succ]
  refine wpAnyH_take (i := 26) (v := ?_) rfl (by kernel_rfl) (by kernel_rfl) (by kernel_rfl) (fun _ _ _ h => h) (Or.inl ⟨by rfl, ?_⟩) hS ?_
  rotate_left
  · intro v _; go_simp; first | done | with_reducible rfl
  rotate_left
  simp only [List.getElem_toArray, List.getElem_cons_succ, List.getElem_cons_zero, Act.put, List.setIfInBounds_toArray, List.set_cons_zero, List.set_cons_succ]
  refine wpAnyH_take (i := 27) (v := ?_) rfl (by kernel_rfl) (by kernel_rfl) (by kernel_rfl) (fun _ _ _ h => h) (Or.inl ⟨by rfl, ?_⟩) hS ?_
  rotate_left
  · intro v _; go_simp; first | done | with_reducible rfl
  rotate_left
  simp only [List.getElem_toArray, List.getElem_cons_succ, List.getElem_cons_zero, Act.put, List.setIfInBounds_toArray, List.set_cons_zero, List.set_cons_succ]
  refine wpAnyH_take (i := 28) (v := ?_) rfl (by kernel_rfl) (by kernel_rfl) (by kernel_rfl) (fun _ _ _ h => h) (Or.inl ⟨by rfl, ?_⟩) hS ?_
  rotate_left
  · intro v _; go_simp; first | done | with_reducible rfl
  rotate_left
  simp only [List.getElem_toArray, List.getElem_cons_succ, List.getElem_cons_zero, Act.put, List.setIfInBounds_toArray, List.set_cons_zero, List.set_cons_succ]
  refine wpAnyH_take (i := 29) (v := ?_) rfl (by kernel_rfl) (by kernel_rfl) (by kernel_rfl) (fun _ _ _ h => h) (Or.inl ⟨by rfl, ?_⟩) hS ?_
  rotate_left
  · intro v _; go_simp; first | done | with_reducible rfl
  rotate_left
  simp only [List.getElem_toArray, List.getElem_cons_succ, List.getElem_cons_zero, Act.put, List.setIfInBounds_toArray, List.set_cons_zero, List.set_cons_succ]
  refine wpAnyH_take (i := 30) (v := ?_) rfl (by kernel_rfl) (by kernel_rfl) (by kernel_rfl) (fun _ _ _ h => h) (Or.inl ⟨by rfl, ?_⟩) hS ?_
  rotate_left
  · intro v _; go_simp; first | done | with_reducible rfl
  rotate_left
  simp only [List.getElem_toArray, List.getElem_cons_succ, List.getElem_cons_zero, Act.put, List.setIfInBounds_toArray, List.set_cons_zero, List.set_cons_succ]
  refine wpAnyH_take (i := 31) (v := ?_) rfl (by kernel_rfl) (by kernel_rfl) (by kernel_rfl) (fun _ _ _ h => h) (Or.inl ⟨by rfl, ?_⟩) hS ?_
  rotate_left
  · intro v _; go_simp; first | done | with_reducible rfl
  rotate_left
  simp only [List.getElem_toArray, List.getElem_cons_succ, List.getElem_cons_zero, Act.put, List.setIfInBounds_toArray, List.set_cons_zero, List.set_cons_succ]
  refine wpAnyH_take (i := 32) (v := ?_) rfl (by kernel_rfl) (by kernel_rfl) (by kernel_rfl) (fun _ _ _ h => h) (Or.inl ⟨by rfl, ?_⟩) hS ?_
  rotate_left
  · intro v _; go_simp; first | done | with_reducible rfl
  rotate_left
  simp only [List.getElem_toArray, List.getElem_cons_succ, List.getElem_cons_zero, Act.put, List.setIfInBounds_toArray, List.set_cons_zero, List.set_cons_succ]
  refine wpAnyH_take (i := 33) (v := ?_) rfl (by kernel_rfl) (by kernel_rfl) (by kernel_rfl) (fun _ _ _ h => h) (Or.inl ⟨by rfl, ?_⟩) hS ?_
  rotate_left
  · intro v _; go_simp; first | done | with_reducible rfl
  rotate_left
  simp only [List.getElem_toArray, List.getElem_cons_succ, List.getElem_cons_zero, Act.put, List.setIfInBounds_toArray, List.set_cons_zero, List.set_cons_succ]
  refine wpAnyH_take (i := 34) (v := ?_) rfl (by kernel_rfl) (by kernel_rfl) (by kernel_rfl) (fun _ _ _ h => h) (Or.inl ⟨by rfl, ?_⟩) hS ?_
  rotate_left
  · intro v _; go_simp; first | done | with_reducible rfl
  rotate_left
  simp only [List.getElem_toArray, List.getElem_cons_succ, List.getElem_cons_zero, Act.put, List.setIfInBounds_toArray, List.set_cons_zero, List.set_cons_succ]
  refine wpAnyH_take (i := 35) (v := ?_) rfl (by kernel_rfl) (by kernel_rfl) (by kernel_rfl) (fun _ _ _ h => h) (Or.inl ⟨by rfl, ?_⟩) hS ?_
  rotate_left
  · intro v _; go_simp; first | done | with_reducible rfl
  rotate_left
  simp only [List.getElem_toArray, List.getElem_cons_succ, List.getElem_cons_zero, Act.put, List.setIfInBounds_toArray, List.set_cons_zero, List.set_cons_succ]
  refine wpAnyH_take (i := 36) (v := _) rfl (by kernel_rfl) (by kernel_rfl) (by kernel_rfl) (fun _ _ _ h => h) (yieldsIf_digA (by rfl) (.tmp 2) rfl ⟨b2,0,none⟩ rfl R hrt.out (fun _ h => (DigAt.ad h.1))) hS ?_
  try simp only [List.getElem_toArray, List.getElem_cons_succ, List.getElem_cons_zero, Act.put, List.setIfInBounds_toArray, List.set_cons_zero, List.set_cons_succ]
  refine wpAnyH_take (i := 37) (v := ?_) rfl (by kernel_rfl) (by kernel_rfl) (by kernel_rfl) (fun _ _ _ h => h) (Or.inl ⟨by rfl, ?_⟩) hS ?_
  rotate_left
  · intro v _; go_simp; first | done | with_reducible rfl
  rotate_left
  simp only [List.getElem_toArray, List.getElem_cons_succ, List.getElem_cons_zero, Act.put, List.setIfInBounds_toArray, List.set_cons_zero, List.set_cons_succ]
  refine wpAnyH_all (rs := [38]) (by kernel_rfl) (by simp) ?_
  intro i hi
  simp only [List.mem_cons, List.not_mem_nil, or_false] at hi
  subst hi
  refine wpOp_wp rfl (by rfl) ?_
  go_simp
  refine (hcp1.out A4 c4 x23 H4.out hc4.out HK.out).mono ?_
  rintro e x24 ⟨rfl, hb_⟩
  replace HC := Lib.hid (Kd.C_below HC.out hb_)
  replace HK := Lib.hid (HK.out.below hb_)
  replace HB := Lib.hid (HB.out.trans (Below.mono hb_ HB.out.size))
  replace H2 := Lib.hid (DigAt.below H2.out hb_)
  replace H4 := Lib.hid (CD.below H4.out hb_)
  replace H6 := Lib.hid (CD.below H6.out hb_)
  replace H8 := Lib.hid (DigAt.below H8.out hb_)
  clear hb_ hS
  have hS : S2d b2 R b8 T x24 := ⟨H2.out, H8.out⟩
  refine ⟨hS, ?_⟩
  try simp only [List.getElem_toArray, List.getElem_cons_succ, List.getElem_cons_zero, Act.put, List.setIfInBounds_toArray, List.set_cons_zero, List.set_cons_succ]
  refine wpAnyH_take (i := 39) (v := ?_) rfl (by kernel_rfl) (by kernel_rfl) (by kernel_rfl) (fun _ _ _ h => h) (Or.inl ⟨by rfl, ?_⟩) hS ?_
  rotate_left
  · intro v _; go_simp; first | done | with_reducible rfl
  rotate_left
  simp only [List.getElem_toArray, List.getElem_cons_succ, List.getElem_cons_zero, Act.put, List.setIfInBounds_toArray, List.set_cons_zero, List.set_cons_succ]
  refine wpAnyH_take (i := 40) (v := ?_) rfl (by kernel_rfl) (by kernel_rfl) (by kernel_rfl) (fun _ _ _ h => h) (Or.inl ⟨by rfl, ?_⟩) hS ?_
  rotate_left
  · intro v _; go_simp; first | done | with_reducible rfl
  rotate_left
  simp only [List.getElem_toArray, List.getElem_cons_succ, List.getElem_cons_zero, Act.put, List.setIfInBounds_toArray, List.set_cons_zero, List.set_cons_succ]
  refine wpAnyH_take (i := 41) (v := _) rfl (by kernel_rfl) (by kernel_rfl) (by kernel_rfl) (fun _ _ _ h => h) (yieldsIf_digA (by rfl) (.tmp 2) rfl ⟨b2,0,none⟩ rfl R hrt.out (fun _ h => (DigAt.ad h.1))) hS ?_
  try simp only [List.getElem_toArray, List.getElem_cons_succ, List.getElem_cons_zero, Act.put, List.setIfInBounds_toArray, List.set_cons_zero, List.set_cons_succ]
  refine wpAnyH_take (i := 42) (v := ?_) rfl (by kernel_rfl) (by kernel_rfl) (by kernel_rfl) (fun _ _ _ h => h) (Or.inl ⟨by rfl, ?_⟩) hS ?_
  rotate_left
  · intro v _; go_simp; first | done | with_reducible rfl
  rotate_left
  simp only [List.getElem_toArray, List.getElem_cons_succ, List.getElem_cons_zero, Act.put, List.setIfInBounds_toArray, List.set_cons_zero, List.set_cons_succ]
  refine wpAnyH_all (rs := [43]) (by kernel_rfl) (by simp) ?_
  intro i hi
  simp only [List.mem_cons, List.not_mem_nil, or_false] at hi
  subst hi
  refine wpOp_wp rfl (by rfl) ?_
  go_simp
  refine (hcp0.out A4 c4 x24 H4.out hc4.out HK.out).mono ?_
  rintro e x25 ⟨rfl, hb_⟩
  replace HC := Lib.hid (Kd.C_below HC.out hb_)
  replace HK := Lib.hid (HK.out.below hb_)
  replace HB := Lib.hid (HB.out.trans (Below.mono hb_ HB.out.size))
  replace H2 := Lib.hid (DigAt.below H2.out hb_)
  replace H4 := Lib.hid (CD.below H4.out hb_)
  replace H6 := Lib.hid (CD.below H6.out hb_)
  replace H8 := Lib.hid (DigAt.below H8.out hb_)
  clear hb_ hS
  have hS : S2d b2 R b8 T x25 := ⟨H2.out, H8.out⟩
  refine ⟨hS, ?_⟩
  try simp only [List.getElem_toArray, List.getElem_cons_succ, List.getElem_cons_zero, Act.put, List.setIfInBounds_toArray, List.set_cons_zero, List.set_cons_succ]
  refine wpAnyH_take (i := 44) (v := ?_) rfl (by kernel_rfl) (by kernel_rfl) (by kernel_rfl) (fun _ _ _ h => h) (Or.inl ⟨by rfl, ?_⟩) hS ?_
  rotate_left
  · intro v _; go_simp; first | done | with_reducible rfl
  rotate_left
  simp only [List.getElem_toArray, List.getElem_cons_succ, List.getElem_cons_zero, Act.put, List.setIfInBounds_toArray, List.set_cons_zero, List.set_cons_succ]
  refine wpAnyH_take (i := 45) (v := ?_) rfl (by kernel_rfl) (by kernel_rfl) (by kernel_rfl) (fun _ _ _ h => h) (Or.inl ⟨by rfl, ?_⟩) hS ?_
  rotate_left
  · intro v _; go_simp; first | done | with_reducible rfl
  rotate_left
  simp only [List.getElem_toArray, List.getElem_cons_succ, List.getElem_cons_zero, Act.put, List.setIfInBounds_toArray, List.set_cons_zero, List.set_cons_succ]
  refine wpAnyH_take (i := 46) (v := ?_) rfl (by kernel_rfl) (by kernel_rfl) (by kernel_rfl) (fun _ _ _ h => h) (Or.inl ⟨by rfl, ?_⟩) hS ?_
  rotate_left
  · intro v _; go_simp; first | done | with_reducible rfl
  rotate_left
  simp only [List.getElem_toArray, List.getElem_cons_succ, List.getElem_cons_zero, Act.put, List.setIfInBounds_toArray, List.set_cons_zero, List.set_cons_succ]
  refine wpAnyH_take (i := 47) (v := _) rfl (by kernel_rfl) (by kernel_rfl) (by kernel_rfl) (fun _ _ _ h => h) (yieldsIf_digA (by rfl) (.tmp 8) rfl ⟨b8,0,none⟩ rfl T htw.out (fun _ h => (DigAt.ad h.2))) hS ?_
  try simp only [List.getElem_toArray, List.getElem_cons_succ, List.getElem_cons_zero, Act.put, List.setIfInBounds_toArray, List.set_cons_zero, List.set_cons_succ]
  refine wpAnyH_take (i := 48) (v := _) rfl (by kernel_rfl) (by kernel_rfl) (by kernel_rfl) (fun _ _ _ h => h) (yieldsIf_digA (by rfl) (.tmp 2) rfl ⟨b2,0,none⟩ rfl R hrt.out (fun _ h => (DigAt.ad h.1))) hS ?_
  try simp only [List.getElem_toArray, List.getElem_cons_succ, List.getElem_cons_zero, Act.put, List.setIfInBounds_toArray, List.set_cons_zero, List.set_cons_succ]
  refine wpAnyH_take (i := 49) (v := ?_) rfl (by kernel_rfl) (by kernel_rfl) (by kernel_rfl) (fun _ _ _ h => h) (Or.inl ⟨by rfl, ?_⟩) hS ?_
  rotate_left
  · intro v _; go_simp; first | done | with_reducible rfl
  rotate_left
  simp only [List.getElem_toArray, List.getElem_cons_succ, List.getElem_cons_zero, Act.put, List.setIfInBounds_toArray, List.set_cons_zero, List.set_cons_succ]
  refine wpAnyH_all (rs := [50]) (by kernel_rfl) (by simp) ?_
  intro i hi
  simp only [List.mem_cons, List.not_mem_nil, or_false] at hi
  subst hi
  refine wpOp_wp rfl (by rfl) ?_
  go_simp
  refine (hcb2.out A6 c6 x25 H6.out hc6.out HK.out).mono ?_
  rintro e x26 ⟨rfl, hb_⟩
  replace HC := Lib.hid (Kd.C_below HC.out hb_)
  replace HK := Lib.hid (HK.out.below hb_)
  replace HB := Lib.hid (HB.out.trans (Below.mono hb_ HB.out.size))
  replace H2 := Lib.hid (DigAt.below H2.out hb_)
  replace H4 := Lib.hid (CD.below H4.out hb_)
  replace H6 := Lib.hid (CD.below H6.out hb_)
  replace H8 := Lib.hid (DigAt.below H8.out hb_)
  clear hb_ hS
  have hS : S2d b2 R b8 T x26 := ⟨H2.out, H8.out⟩
  refine ⟨hS, ?_⟩
  try simp only [List.getElem_toArray, List.getElem_cons_succ, List.getElem_cons_zero, Act.put, List.setIfInBounds_toArray, List.set_cons_zero, List.set_cons_succ]
  refine wpAnyH_take (i := 51) (v := ?_) rfl (by kernel_rfl) (by kernel_rfl) (by kernel_rfl) (fun _ _ _ h => h) (Or.inl ⟨by rfl, ?_⟩) hS ?_
  rotate_left
  · intro v _; go_simp; first | done | with_reducible rfl
  rotate_left
  simp only [List.getElem_toArray, List.getElem_cons_succ, List.getElem_cons_zero, Act.put, List.setIfInBounds_toArray, List.set_cons_zero, List.set_cons_succ]
  refine wpAnyH_take (i := 52) (v := ?_) rfl (by kernel_rfl) (by kernel_rfl) (by kernel_rfl) (fun _ _ _ h => h) (Or.inl ⟨by rfl, ?_⟩) hS ?_
  rotate_left
  · intro v _; go_simp; first | done | with_reducible rfl
  rotate_left
  simp only [List.getElem_toArray, List.getElem_cons_succ, List.getElem_cons_zero, Act.put, List.setIfInBounds_toArray, List.set_cons_zero, List.set_cons_succ]
  refine wpAnyH_take (i := 53) (v := _) rfl (by kernel_rfl) (by kernel_rfl) (by kernel_rfl) (fun _ _ _ h => h) (yieldsIf_digA (by rfl) (.tmp 8) rfl ⟨b8,0,none⟩ rfl T htw.out (fun _ h => (DigAt.ad h.2))) hS ?_
  try simp only [List.getElem_toArray, List.getElem_cons_succ, List.getElem_cons_zero, Act.put, List.setIfInBounds_toArray, List.set_cons_zero, List.set_cons_succ]
  refine wpAnyH_take (i := 54) (v := _) rfl (by kernel_rfl) (by kernel_rfl) (by kernel_rfl) (fun _ _ _ h => h) (yieldsIf_digA (by rfl) (.tmp 2) rfl ⟨b2,0,none⟩ rfl R hrt.out (fun _ h => (DigAt.ad h.1))) hS ?_
  try simp only [List.getElem_toArray, List.getElem_cons_succ, List.getElem_cons_zero, Act.put, List.setIfInBounds_toArray, List.set_cons_zero, List.set_cons_succ]
  refine wpAnyH_take (i := 55) (v := ?_) rfl (by kernel_rfl) (by kernel_rfl) (by kernel_rfl) (fun _ _ _ h => h) (Or.inl ⟨by rfl, ?_⟩) hS ?_
  rotate_left
  · intro v _; go_simp; first | done | with_reducible rfl
  rotate_left
  simp only [List.getElem_toArray, List.getElem_cons_succ, List.getElem_cons_zero, Act.put, List.setIfInBounds_toArray, List.set_cons_zero, List.set_cons_succ]
  refine wpAnyH_all (rs := [56]) (by kernel_rfl) (by simp) ?_
  intro i hi
  simp only [List.mem_cons, List.not_mem_nil, or_false] at hi
  subst hi
  refine wpOp_wp rfl (by rfl) ?_
  go_simp
  refine (hcb1.out A6 c6 x26 H6.out hc6.out HK.out).mono ?_
  rintro e x27 ⟨rfl, hb_⟩
  replace HC := Lib.hid (Kd.C_below HC.out hb_)
  replace HK := Lib.hid (HK.out.below hb_)
  replace HB := Lib.hid (HB.out.trans (Below.mono hb_ HB.out.size))
  replace H2 := Lib.hid (DigAt.below H2.out hb_)
  replace H4 := Lib.hid (CD.below H4.out hb_)
  replace H6 := Lib.hid (CD.below H6.out hb_)
  replace H8 := Lib.hid (DigAt.below H8.out hb_)
  clear hb_ hS
  have hS : S2d b2 R b8 T x27 := ⟨H2.out, H8.out⟩
  refine ⟨hS, ?_⟩
  try simp only [List.getElem_toArray, List.getElem_cons_succ, List.getElem_cons_zero, Act.put, List.setIfInBounds_toArray, List.set_cons_zero, List.set_cons_succ]
  refine wpAnyH_take (i := 57) (v := ?_) rfl (by kernel_rfl) (by kernel_rfl) (by kernel_rfl) (fun _ _ _ h => h) (Or.inl ⟨by rfl, ?_⟩) hS ?_
  rotate_left
  · intro v _; go_simp; first | done | with_reducible rfl
  rotate_left
  simp only [List.getElem_toArray, List.getElem_cons_succ, List.getElem_cons_zero, Act.put, List.setIfInBounds_toArray, List.set_cons_zero, List.set_cons_succ]
  refine wpAnyH_take (i := 58) (v := ?_) rfl (by kernel_rfl) (by kernel_rfl) (by kernel_rfl) (fun _ _ _ h => h) (Or.inl ⟨by rfl, ?_⟩) hS ?_
  rotate_left
  · intro v _; go_simp; first | done | with_reducible rfl
  rotate_left
  simp only [List.getElem_toArray, List.getElem_cons_succ, List.getElem_cons_zero, Act.put, List.setIfInBounds_toArray, List.set_cons_zero, List.set_cons_succ]
  refine wpAnyH_take (i := 59) (v := ?_) rfl (by kernel_rfl) (by kernel_rfl) (by kernel_rfl) (fun _ _ _ h => h) (Or.inl ⟨by rfl, ?_⟩) hS ?_
  rotate_left
  · intro v _; go_simp; first | done | with_reducible rfl
  rotate_left
  simp only [List.getElem_toArray, List.getElem_cons_succ, List.getElem_cons_zero, Act.put, List.setIfInBounds_toArray, List.set_cons_zero, List.set_cons_succ]
  refine wpAnyH_all (rs := [60]) (by kernel_rfl) (by simp) ?_
  intro i hi
  simp only [List.mem_cons, List.not_mem_nil, or_false] at hi
  subst hi
  refine wpOp_wp rfl (by rfl) ?_
  go_simp
  refine (kla.out x27 HK.out).mono ?_
  rintro e x28 ⟨rfl, hb_⟩
  replace HC := Lib.hid (Kd.C_below HC.out hb_)
  replace HK := Lib.hid (HK.out.below hb_)
  replace HB := Lib.hid (HB.out.trans (Below.mono hb_ HB.out.size))
  replace H2 := Lib.hid (DigAt.below H2.out hb_)
  replace H4 := Lib.hid (CD.below H4.out hb_)
  replace H6 := Lib.hid (CD.below H6.out hb_)
  replace H8 := Lib.hid (DigAt.below H8.out hb_)
  clear hb_ hS
  have hS : S2d b2 R b8 T x28 := ⟨H2.out, H8.out⟩
  refine ⟨hS, ?_⟩
  try simp only [List.getElem_toArray, List.getElem_cons_succ, List.getElem_cons_zero, Act.put, List.setIfInBounds_toArray, List.set_cons_zero, List.set_cons_succ]
  refine wpAnyH_all (rs := [61]) (by kernel_rfl) (by simp) ?_
  intro i hi
  simp only [List.mem_cons, List.not_mem_nil, or_false] at hi
  subst hi
  refine wpOp_wp rfl (by rfl) ?_
  go_simp
  refine (klb.out x28 HK.out).mono ?_
  rintro e x29 ⟨rfl, hb_⟩
  replace HC := Lib.hid (Kd.C_below HC.out hb_)
  replace HK := Lib.hid (HK.out.below hb_)
  replace HB := Lib.hid (HB.out.trans (Below.mono hb_ HB.out.size))
  replace H2 := Lib.hid (DigAt.below H2.out hb_)
  replace H4 := Lib.hid (CD.below H4.out hb_)
  replace H6 := Lib.hid (CD.below H6.out hb_)
  replace H8 := Lib.hid (DigAt.below H8.out hb_)
  clear hb_ hS
  have hS : S2d b2 R b8 T x29 := ⟨H2.out, H8.out⟩
  refine ⟨hS, ?_⟩
  try simp only [List.getElem_toArray, List.getElem_cons_succ, List.getElem_cons_zero, Act.put, List.setIfInBounds_toArray, List.set_cons_zero, List.set_cons_succ]
  have heqN := heq.out
  refine wpAnyH_take (i := 62) (v := ?_) rfl (by kernel_rfl) (by kernel_rfl) (by kernel_rfl) (fun _ _ _ h => h) (Or.inl ⟨by rfl, ?_⟩) hS ?_
  rotate_left
  · intro v _; go_simp; first | done | with_reducible rfl
  rotate_left
  simp only [List.getElem_toArray, List.getElem_cons_succ, List.getElem_cons_zero, Act.put, List.setIfInBounds_toArray, List.set_cons_zero, List.set_cons_succ]
  refine wpAnyH_take (i := 63) (v := ?_) rfl (by kernel_rfl) (by kernel_rfl) (by kernel_rfl) (fun _ _ _ h => h) (Or.inl ⟨by rfl, ?_⟩) hS ?_
  rotate_left
  · intro v _; go_simp; first | done | with_reducible rfl
  rotate_left
  simp only [List.getElem_toArray, List.getElem_cons_succ, List.getElem_cons_zero, Act.put, List.setIfInBounds_toArray, List.set_cons_zero, List.set_cons_succ]
  refine wpAnyH_take (i := 64) (v := ?_) rfl (by kernel_rfl) (by kernel_rfl) (by kernel_rfl) (fun _ _ _ h => h) (Or.inl ⟨by rfl, ?_⟩) hS ?_
  rotate_left
  · intro v _; go_simp; first | done | with_reducible rfl
  rotate_left
  simp only [List.getElem_toArray, List.getElem_cons_succ, List.getElem_cons_zero, Act.put, List.setIfInBounds_toArray, List.set_cons_zero, List.set_cons_succ]
  refine wpAnyH_done (by kernel_rfl) ?_ _
  go_wp2_with fail
  go_ret
  exact ⟨rfl, HB.out⟩
end Go.Proofs.YtldpnmebjnkjeaaDoor.TrW
namespace Go.Proofs.YtldpnmebjnkjeaaDoor.Ref10
open Go.RowKit Go.Proofs.YtldpnmebjnkjeaaDoorW.PrintWords Go.Proofs.YtldpnmebjnkjeaaDoor.PH1 Go.Proofs.YtldpnmebjnkjeaaDoor Go.Proofs.YtldpnmebjnkjeaaDoorW.PrintLast Go.Proofs.YtldpnmebjnkjeaaDoorW.PrintMore
open Go.Proofs.YtldpnmebjnkjeaaDoor.Sha (V8 wv RowU rotr kT sched rnds rnd takeP vadd mixL mixL_len mixL_get mixL_set mixL_all xo an ad rx ra rs rw32 Nr ch maj bs0 bs1 or_maj)
set_option linter.unusedVariables false
set_option linter.unusedSimpArgs false

def oo (a b : UInt32) : UInt32 := a ||| b
theorem ro (a b : UInt32) : bits .or .u32 (a.toNat : Int) (b.toNat : Int) = ((oo a b).toNat : Int) := Sha.bor a b
/-- chosen, shut. -/
def cc (a b c : UInt32) : UInt32 := ch a b c
theorem rcc (e f g : UInt32) (W : World) : Calls Tryd.prog 104 #[.int .u32 (e.toNat : Int), .int .u32 (f.toNat : Int), .int .u32 (g.toNat : Int)] W fun en w' => en = .returned (.int .u32 ((cc e f g).toNat : Int)) ∧ Drawn0 W w' := rchosen_calls e f g W
/-- A fact, shut: whnf does not open it. -/
structure Shut (p : Prop) : Prop where
  out : p
/-- An equation, shut. -/
structure EqU (a b : UInt32) : Prop where
  eq : a = b
/-- The constants' row. -/
def KC (w : World) (a : Addr) : Prop := Kd.C (Kd.int .u32) w (some a) 64 (zw kT)
theorem KC.below {w w1 : World} {a : Addr} (h : KC w a) (hb : Below w.heap.size w w1) : KC w1 a := Kd.C_below h hb
theorem at_word {w : World} {a : Addr} {L : List UInt32} {n : Nat} (h : Kd.C (Kd.int .u32) w (some a) n (zw L)) (j : Nat) (hj : j < n) : w.cell? (a.add j) = some (.int .u32 ((L.getD j 0).toNat : Int)) := by
  obtain ⟨a', he, hc⟩ := Kd.at_int h (j : Int) (by omega) (by omega)
  cases he
  rw [zw_rd, Int.toNat_natCast] at hc
  exact hc
set_option maxHeartbeats 8000000 in
set_option maxRecDepth 100000 in
theorem rtake_calls (ak : Addr) (c : Nat) (v : V8) (s : ByteArray) (hs : s.size = 64) (w : World) (hK : KC w ak) :
    Calls Tryd.prog 88 #[.slice (some ak) 64 c, .agg (wag v), .string s] w fun e w' => e = .returned (.agg (wag (takeP v s.data.toList))) ∧ Below w.heap.size w w' := by
  have hl64 : s.data.toList.length = 64 := by rw [← Lib.size_eq]; exact hs
  have hsl : (sched s.data.toList 48).length = 64 := Sha.sched_len _ hl64 48
  have hsr := sched_run s hl64
  have HK := Shut.mk hK
  have HK0 := Shut.mk hK
  clear hK hl64 hs
  go_enter Tryd.func88, Tryd.ntmps88
  go_wp2_with fail
  generalize hw1 : (w.alloc _).alloc _ = w1
  have HX : Shut (RowU 29 w.heap.size v.list w1) := by
    rw [← hw1]; refine Shut.mk ?_
    unfold RowU
    rw [Below.heap_alloc _ _ _ (by simp)]
    exact heap_alloc_last _ _
  have HR : Shut (RowU 29 (w.heap.size + 1) z8.list w1) := by
    rw [← hw1]; exact Shut.mk (Sha.heap_at1 _ _ _)
  have HB : Shut (Below w.heap.size w w1) := by
    rw [← hw1]; exact Shut.mk (((Below.refl _ _).alloc (Nat.le_refl _) _).alloc (by simp) _)
  have HS : Shut (w.heap.size + 2 ≤ w1.heap.size) := by rw [← hw1]; exact Shut.mk (by simp)
  clear hw1
  refine (cashbookref10_schedule.calls 2000 s _ w1 hsr).mono ?_
  rintro e w2 ⟨v7, rfl, hr, hb⟩
  obtain ⟨A, c7, rfl, hlc, HW⟩ := Kd.R_reads hr
  rw [zw_len, hsl] at HW hlc ⊢
  replace HX := Shut.mk (RowU.below HX.out hb)
  replace HR := Shut.mk (RowU.below HR.out hb)
  replace HB := Shut.mk (HB.out.trans (hb.mono HB.out.size))
  replace HS := Shut.mk (Nat.le_trans HS.out hb.size)
  replace HK := Shut.mk (HK.out.below HB.out)
  have hA : ∃ aw, A = some aw := by
    obtain ⟨aw, he, _⟩ := Kd.at_int HW 0 (by omega) (by omega)
    exact ⟨aw, he⟩
  obtain ⟨aw, rfl⟩ := hA
  replace HW := Shut.mk HW
  clear hb hr hsr
  replace hsl := Shut.mk hsl
  go_wp2_with (first | (refine wpList_load_w8 (o := ⟨some 15, _, _, _, _, _⟩) rfl (.tmp 4) rfl w.heap.size 0 rfl v (RowU.range HX.out) ?_) | (refine wpList_store_w8 rfl (.tmp 8) (.tmp 15) rfl w2.heap.size rfl v rfl (wag z8) 29 (heap_alloc_last w2 _) rfl ?_; intro w3 h9 hk9 hB9 hs9))
  have hb := hB9 ((Below.refl _ _).alloc (Nat.le_refl _) _) (Nat.le_refl _)
  have HV : Shut (RowU 29 w2.heap.size (rnds kT (sched s.data.toList 48) v 0).list w3) := ⟨h9.out⟩
  have hg : w.heap.size + 2 ≤ w2.heap.size := HS.out
  have hfk : Shut (ak.block ≠ w2.heap.size) := ⟨Kd.far_C (enc := Value.int .u32) 0 HK0.out (by omega) ak rfl (by omega)⟩
  have hfw : Shut (aw.block ≠ w2.heap.size) := ⟨Kd.far_C (enc := Value.int .u32) 0 HW.out (Nat.le_refl _) aw rfl (by omega)⟩
  replace HX := Shut.mk (RowU.below HX.out hb)
  replace HR := Shut.mk (RowU.below HR.out hb)
  replace HB := Shut.mk (HB.out.trans (hb.mono HB.out.size))
  replace HK := Shut.mk (HK.out.below hb)
  replace HW := Shut.mk (Kd.C_below HW.out hb)
  generalize w2.heap.size = g at HV hg hfk hfw ⊢
  clear hb h9 hk9 hB9 hs9 HS
  go_loopw [9] (fun i wx => ∃ t : Nat, t ≤ 64 ∧ i = .int .i64 t ∧ Shut (KC wx ak) ∧ Shut (Kd.C (Kd.int .u32) wx (some aw) 64 (zw (sched s.data.toList 48))) ∧ Shut (RowU 29 w.heap.size v.list wx) ∧ Shut (RowU 29 (w.heap.size + 1) z8.list wx) ∧ Shut (RowU 29 g (rnds kT (sched s.data.toList 48) v t).list wx) ∧ Shut (Below w.heap.size w wx)) (fun i _ => 64 - (intOf i).toNat)
  case atStart => exact ⟨0, by omega, rfl, HK, HW, HX, HR, HV, HB⟩
  case round =>
    clear HK HW HX HR HV HB
    obtain ⟨t, ht, rfl, HK, HW, HX, HR, HV, HB⟩ := hrel
    by_cases h64 : t < 64
    · as_aux_lemma =>
        have k64 : (t : Int) < 64 := by omega
        have HN : Nr (rnds kT (sched s.data.toList 48) v (t + 1)) _ _ _ := ⟨rfl⟩
        have ck := at_word HK.out t h64
        have cw := at_word HW.out t h64
        generalize rnds kT (sched s.data.toList 48) v t = x at HN HV
        generalize kT.getD t 0 = kk at HN ck
        generalize (sched s.data.toList 48).getD t 0 = ww at HN cw
        have x0 : wr.cell? ⟨g, 0, none⟩ = some (.int .u32 (x.a.toNat : Int)) := HV.out.cell 0 (by show 0 < 8; omega)
        have x1 : wr.cell? ⟨g, 1, none⟩ = some (.int .u32 (x.b.toNat : Int)) := HV.out.cell 1 (by show 1 < 8; omega)
        have x2 : wr.cell? ⟨g, 2, none⟩ = some (.int .u32 (x.c.toNat : Int)) := HV.out.cell 2 (by show 2 < 8; omega)
        have x3 : wr.cell? ⟨g, 3, none⟩ = some (.int .u32 (x.d.toNat : Int)) := HV.out.cell 3 (by show 3 < 8; omega)
        have x4 : wr.cell? ⟨g, 4, none⟩ = some (.int .u32 (x.e.toNat : Int)) := HV.out.cell 4 (by show 4 < 8; omega)
        have x5 : wr.cell? ⟨g, 5, none⟩ = some (.int .u32 (x.f.toNat : Int)) := HV.out.cell 5 (by show 5 < 8; omega)
        have x6 : wr.cell? ⟨g, 6, none⟩ = some (.int .u32 (x.g.toNat : Int)) := HV.out.cell 6 (by show 6 < 8; omega)
        have x7 : wr.cell? ⟨g, 7, none⟩ = some (.int .u32 (x.h.toNat : Int)) := HV.out.cell 7 (by show 7 < 8; omega)
        have RX := rx
        have RA := ra
        have RO := ro
        have RS := rw32
        have RM := rs
        have nt : (t : Int).toNat = t := by omega
        go_wp2_with fail
        go_quiet ((first | (with_reducible exact quiet_d (rturn_6 x.e)) | (with_reducible exact quiet_d (rturn_11 x.e)) | (with_reducible exact quiet_d (rturn_25 x.e)) | (with_reducible exact quiet_d (rcc x.e x.f x.g))))
        clear ck cw x0 x1 x2 x3 x4 x5 x6 x7
        replace HK : Shut (KC (wr.drewN nq) ak) := Shut.mk (HK.out.below (Drawn0.below ⟨nq, rfl⟩))
        replace HW : Shut (Kd.C (Kd.int .u32) (wr.drewN nq) (some aw) 64 (zw (sched s.data.toList 48))) := Shut.mk (Kd.C_below HW.out (Drawn0.below ⟨nq, rfl⟩))
        replace HX : Shut (RowU 29 w.heap.size v.list (wr.drewN nq)) := HX
        replace HR : Shut (RowU 29 (w.heap.size + 1) z8.list (wr.drewN nq)) := HR
        replace HV : Shut (RowU 29 g x.list (wr.drewN nq)) := HV
        replace HB : Shut (Below w.heap.size w (wr.drewN nq)) := Shut.mk (HB.out.trans (Below.mono (Drawn0.below ⟨nq, rfl⟩) HB.out.size))
        generalize wr.drewN nq = w6 at HK HW HX HR HV HB ⊢
        have x0 : w6.cell? ⟨g, 0, none⟩ = some (.int .u32 (x.a.toNat : Int)) := HV.out.cell 0 (by show 0 < 8; omega)
        have x1 : w6.cell? ⟨g, 1, none⟩ = some (.int .u32 (x.b.toNat : Int)) := HV.out.cell 1 (by show 1 < 8; omega)
        have x2 : w6.cell? ⟨g, 2, none⟩ = some (.int .u32 (x.c.toNat : Int)) := HV.out.cell 2 (by show 2 < 8; omega)
        have x3 : w6.cell? ⟨g, 3, none⟩ = some (.int .u32 (x.d.toNat : Int)) := HV.out.cell 3 (by show 3 < 8; omega)
        have x4 : w6.cell? ⟨g, 4, none⟩ = some (.int .u32 (x.e.toNat : Int)) := HV.out.cell 4 (by show 4 < 8; omega)
        have x5 : w6.cell? ⟨g, 5, none⟩ = some (.int .u32 (x.f.toNat : Int)) := HV.out.cell 5 (by show 5 < 8; omega)
        have x6 : w6.cell? ⟨g, 6, none⟩ = some (.int .u32 (x.g.toNat : Int)) := HV.out.cell 6 (by show 6 < 8; omega)
        have x7 : w6.cell? ⟨g, 7, none⟩ = some (.int .u32 (x.h.toNat : Int)) := HV.out.cell 7 (by show 7 < 8; omega)
        go_wp2_with fail
        go_quiet ((first | (with_reducible exact quiet_d (rturn_2 x.a)) | (with_reducible exact quiet_d (rturn_13 x.a)) | (with_reducible exact quiet_d (rturn_22 x.a))))
        clear x0 x1 x2 x3 x4 x5 x6 x7
        replace HK : Shut (KC (w6.drewN nq) ak) := Shut.mk (HK.out.below (Drawn0.below ⟨nq, rfl⟩))
        replace HW : Shut (Kd.C (Kd.int .u32) (w6.drewN nq) (some aw) 64 (zw (sched s.data.toList 48))) := Shut.mk (Kd.C_below HW.out (Drawn0.below ⟨nq, rfl⟩))
        replace HX : Shut (RowU 29 w.heap.size v.list (w6.drewN nq)) := HX
        replace HR : Shut (RowU 29 (w.heap.size + 1) z8.list (w6.drewN nq)) := HR
        replace HV : Shut (RowU 29 g x.list (w6.drewN nq)) := HV
        replace HB : Shut (Below w.heap.size w (w6.drewN nq)) := Shut.mk (HB.out.trans (Below.mono (Drawn0.below ⟨nq, rfl⟩) HB.out.size))
        generalize w6.drewN nq = w7 at HK HW HX HR HV HB ⊢
        have x0 : w7.cell? ⟨g, 0, none⟩ = some (.int .u32 (x.a.toNat : Int)) := HV.out.cell 0 (by show 0 < 8; omega)
        have x1 : w7.cell? ⟨g, 1, none⟩ = some (.int .u32 (x.b.toNat : Int)) := HV.out.cell 1 (by show 1 < 8; omega)
        have x2 : w7.cell? ⟨g, 2, none⟩ = some (.int .u32 (x.c.toNat : Int)) := HV.out.cell 2 (by show 2 < 8; omega)
        have x3 : w7.cell? ⟨g, 3, none⟩ = some (.int .u32 (x.d.toNat : Int)) := HV.out.cell 3 (by show 3 < 8; omega)
        have x4 : w7.cell? ⟨g, 4, none⟩ = some (.int .u32 (x.e.toNat : Int)) := HV.out.cell 4 (by show 4 < 8; omega)
        have x5 : w7.cell? ⟨g, 5, none⟩ = some (.int .u32 (x.f.toNat : Int)) := HV.out.cell 5 (by show 5 < 8; omega)
        have x6 : w7.cell? ⟨g, 6, none⟩ = some (.int .u32 (x.g.toNat : Int)) := HV.out.cell 6 (by show 6 < 8; omega)
        have x7 : w7.cell? ⟨g, 7, none⟩ = some (.int .u32 (x.h.toNat : Int)) := HV.out.cell 7 (by show 7 < 8; omega)
        generalize hp_ : (ad (ad (ad (ad x.h kk) ww) (xo (xo (rotr x.e 6) (rotr x.e 11)) (rotr x.e 25))) (cc x.e x.f x.g)) = p
        generalize hq_ : (ad (xo (xo (rotr x.a 2) (rotr x.a 13)) (rotr x.a 22)) (oo (oo (an x.a x.b) (an x.a x.c)) (an x.b x.c))) = q
        replace hp_ : EqU _ _ := ⟨hp_⟩
        replace hq_ : EqU _ _ := ⟨hq_⟩
        clear RX RA RO
        iterate 60 (first | go_values | go_skip | go_guarded | go_step | go_upon | go_back)
        refine wpList_build_w8 (o := ⟨some 100, _, _, _, _, _⟩) rfl (.tmp 83) (.tmp 85) (.tmp 87) (.tmp 89) (.tmp 93) (.tmp 95) (.tmp 97) (.tmp 99) rfl ⟨ad p q, x.a, x.b, x.c, ad x.d p, x.e, x.f, x.g⟩ rfl rfl rfl rfl rfl rfl rfl rfl ?_
        refine wpList_store_w8 (o := ⟨none, .store 29 (.tmp 8) (.tmp 100), _, _, _, _⟩) rfl (.tmp 8) (.tmp 100) rfl g rfl ⟨ad p q, x.a, x.b, x.c, ad x.d p, x.e, x.f, x.g⟩ rfl _ _ HV.out rfl ?_
        intro w8 h8 hk8 hB8 hs8
        clear RS RM x0 x1 x2 x3 x4 x5 x6 x7
        go_wp2_with fail
        go_roundw
        case rel =>
          refine ⟨t + 1, by omega, by go_num, Shut.mk ?_, Shut.mk ?_, Shut.mk ?_, Shut.mk ?_, Shut.mk ?_, Shut.mk (hB8 HB.out (by omega))⟩
          · exact Kd.C_keep (enc := Value.int .u32) 0 HK.out ⟨Nat.le_of_eq hs8.symm, fun i hi hne _ => hk8 i hne⟩ (fun ad' he _ => by cases he; exact hfk.out)
          · exact Kd.C_keep (enc := Value.int .u32) 0 HW.out ⟨Nat.le_of_eq hs8.symm, fun i hi hne _ => hk8 i hne⟩ (fun ad' he _ => by cases he; exact hfw.out)
          · exact (hk8 _ (by omega)).trans HX.out
          · exact (hk8 _ (by omega)).trans HR.out
          · rw [HN.eq]
            have e : rnd x kk ww = ⟨ad p q, x.a, x.b, x.c, ad x.d p, x.e, x.f, x.g⟩ := by
              rw [← hp_.eq, ← hq_.eq]
              show _ = V8.mk (x.h + kk + ww + bs1 x.e + ch x.e x.f x.g + (bs0 x.a + (x.a &&& x.b ||| x.a &&& x.c ||| x.b &&& x.c))) _ _ _ (x.d + (x.h + kk + ww + bs1 x.e + ch x.e x.f x.g)) _ _ _
              rw [or_maj]
              rfl
            rw [e]
            exact h8.out
        case measure => simp [intOf]; omega
    · obtain rfl : t = 64 := by omega
      clear h64 ht HK HW HK0 hfk hfw
      have HT : takeP v s.data.toList = vadd v (rnds kT (sched s.data.toList 48) v 64) := rfl
      generalize rnds kT (sched s.data.toList 48) v 64 = y at HV HT
      replace HT : Shut _ := ⟨HT⟩
      replace HX : Shut (RowU 29 w.heap.size (mixL v.list y.list 0) wr) := ⟨HX.out⟩
      go_wp2_with fail
      go_loopw [101] (fun i wx => ∃ t : Nat, t ≤ 8 ∧ i = .int .i64 t ∧ Shut (RowU 29 w.heap.size (mixL v.list y.list t) wx) ∧ Shut (RowU 29 (w.heap.size + 1) z8.list wx) ∧ Shut (RowU 29 g y.list wx) ∧ Shut (Below w.heap.size w wx)) (fun i _ => 8 - (intOf i).toNat)
      case atStart => exact ⟨0, by omega, rfl, HX, HR, HV, HB⟩
      case round =>
        clear HX HR HV HB
        obtain ⟨t, ht, rfl, HX, HR, HV, HB⟩ := hrel
        by_cases h8 : t < 8
        · as_aux_lemma =>
            have k8 : (t : Int) < 8 := by omega
            have hl8 : v.list.length = y.list.length := rfl
            have hml : (mixL v.list y.list t).length = 8 := mixL_len _ _ hl8 _ (by show t ≤ 8; omega)
            have hmg := mixL_get v.list y.list hl8 t h8
            have hms := mixL_set v.list y.list hl8 t h8
            have hmt : t < (mixL v.list y.list t).length := by omega
            replace hml := Lib.hid hml
            replace hl8 := Lib.hid hl8
            have c0 := HX.out.cell t hmt
            rw [hmg] at c0
            clear hmg
            have c1 := HV.out.cell t (by show t < 8; omega)
            have f0 := HX.out.f
            generalize v.list.getD t 0 = a0 at c0 hms
            generalize y.list.getD t 0 = b0 at c1 hms
            replace hms : Shut _ := ⟨hms⟩
            have RM := rs
            go_wp2_with fail
            go_region
            go_wp2_with fail
            clear RM
            go_roundw
            case rel =>
              refine ⟨t + 1, by omega, by go_num, Shut.mk ?_, Shut.mk ?_, Shut.mk ?_, Shut.mk ?_⟩
              · rw [← hms.out]
                exact (HX.out.set t (a0 + b0)).drew
              · exact (HR.out.far (by simp) _).drew
              · exact (HV.out.far (by simp; omega) _).drew
              · exact (HB.out.setCell (by simp) _).drew
            case measure => simp [intOf]; omega
        · obtain rfl : t = 8 := by omega
          have hmx : mixL v.list y.list 8 = (vadd v y).list := rfl
          rw [hmx] at HX
          clear hmx
          generalize vadd v y = z at HX HT
          go_wp2_with (first | (refine wpList_load_w8 (o := ⟨some 114, _, _, _, _, _⟩) rfl (.tmp 4) rfl w.heap.size 0 rfl z (RowU.range HX.out) ?_) | (refine wpList_store_w8 rfl (.tmp 6) (.tmp 114) rfl (w.heap.size + 1) rfl z rfl (wag z8) 29 HR.out rfl ?_; intro w9 h9 hk9 hB9 hs9))
          refine bodyPost_ret (v := .agg (wag z)) ?_ rfl ⟨by rw [HT.out], hB9 HB.out (by omega)⟩
          simp [results, Tryd.results88, asAddr, run_load_w8 (RowU.range h9.out), Act.put]
end Go.Proofs.YtldpnmebjnkjeaaDoor.Ref10
