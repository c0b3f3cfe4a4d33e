/-
  TreeSound of cashbooklaw11 returns true at every input: a text that is accepted at a place of a log, by its root, with any path, is the leaf there, or two things that are not the same have one digest, and are among those that both paths are made of; the arguments read behind the call as they did. Conditions: those of the given row (the table of the constants is laid as the text of the program says, tied by the given tie), none of its own.
-/
import Derived.Test.YtldpnmebjnkjeaaDoorSnD
import Derived.Test.YtldpnmebjnkjeaaDoorRows
import Derived.ProofKit
import Derived.OpenShut
import Derived.Deep.DeepHandedRow
import Derived.Lib.LaidTab
import Derived.Lib.LaidU8
import Derived.ChangeArms
import Derived.ChangeSame
import Derived.ChangeSlices
import Derived.WideShapes
import Derived.Test.YtldpnmebjnkjeaaDoorCards
import Derived.Test.YtldpnmebjnkjeaaDoorTie
import Derived.ChangeOld
import Derived.SizedLaws
namespace Go.Proofs.YtldpnmebjnkjeaaDoor.TrW
open Go.RowKit Go.Proofs.YtldpnmebjnkjeaaDoorW.PrintWords Go.Proofs.YtldpnmebjnkjeaaDoor.PH1 Go.Proofs.YtldpnmebjnkjeaaDoor Go.Proofs.YtldpnmebjnkjeaaDoorW.PrintLast Go.Proofs.YtldpnmebjnkjeaaDoorW.PrintMore
open Go.Proofs.YtldpnmebjnkjeaaDoor.Sha
open Go.Proofs.YtldpnmebjnkjeaaDoor.Ref10 (wp_store_dig wp_load_dig wpOp_wp range_row)
set_option linter.unusedVariables false
set_option linter.unusedSimpArgs false

set_option maxHeartbeats 16000000 in
set_option maxRecDepth 100000 in
/-- What a path's digests are made of. -/
theorem chain_calls (s : ByteArray) (hs : s.size ≤ 1048575) (i n : Nat) (hi : i < n) (hn : n ≤ 1024) (ps : List (List UInt8)) (A : Option Addr) (c : Nat) (w : World) (hC : CD A ps w) (hc : ps.length ≤ c) (hK : KAt w) :
    Calls Tryd.prog 48 #[.string s, .int .i64 (i : Int), .int .i64 (n : Int), .slice A ps.length c] w fun e w' => ∃ v1 v2, e = .returned (.tuple #[v1, v2]) ∧ RP w.heap.size v1 (madeP ⟨s, zDig, zDig⟩ (leafP s.data.toList) (Tr.sides i n).reverse ps) w' ∧ RD w.heap.size v2 (Tr.chainD alg (leafP s.data.toList) (Tr.sides i n).reverse ps) w' ∧ Below w.heap.size w w' := by
  have hm := Kd.C_max hC
  have hll : Hid ((Tr.sides i n).length ≤ 1024) := Lib.hid (by have := sides_le n i n (Nat.le_refl _); omega)
  have hlefts := fun W => lefts_calls i n hi hn W
  generalize Tr.sides i n = L at hll hlefts ⊢
  have hlf : Hid ((leafP s.data.toList).length = 32) := Lib.hid (sumL_len _)
  have hleaf := fun W hk => tleaf_calls s hs W hk
  generalize leafP s.data.toList = D at hlf hleaf ⊢
  obtain ⟨P0, hP0⟩ : ∃ P0 : Pr, P0 = ⟨s, zDig, zDig⟩ := ⟨_, rfl⟩
  have hP0k : P0.ok := by rw [hP0]; exact ⟨zDig_len, zDig_len⟩
  rw [← hP0]
  replace hP0k := Lib.hid hP0k
  replace hP0 := Lib.hid hP0
  replace hlefts := Lib.hid hlefts
  replace hleaf := Lib.hid hleaf
  replace hC := Lib.hid hC
  replace hK := Lib.hid hK
  go_enter Tryd.func48, Tryd.ntmps48
  go_wp2_with (first | (guard_target = wpList _ _ _ (⟨some 17, _, _, _, _, _⟩ :: _) _ _; refine wpList_build_pr1 rfl (.tmp 16) rfl s rfl ?_; rw [← hP0.out]) | (guard_target = wpList _ _ _ (⟨some 18, _, _, _, _, _⟩ :: _) _ _; refine wpList_buildSlice_pr rfl (.tmp 17) rfl P0 hP0k.out rfl ?_))
  generalize hw1 : w.alloc _ = w1
  have HM : Hid (RP w.heap.size (.slice (some ⟨w.heap.size, 0, none⟩) 1 1) [P0] w1) := by
    rw [← hw1]; exact Lib.hid (RP.one P0 hP0k.out _ (Nat.le_refl _))
  have HB : Hid (Below w.heap.size w w1) := by
    rw [← hw1]; exact Lib.hid ((Below.refl _ _).alloc (Nat.le_refl _) _)
  clear hw1
  generalize (Value.slice (some ⟨w.heap.size, 0, none⟩) 1 1) = v10 at HM ⊢
  refine (hleaf.out w1 (hK.out.below HB.out)).mono ?_
  rintro e w2 ⟨rfl, hb⟩
  replace HM := Lib.hid (HM.out.below hb)
  replace HB := Lib.hid (HB.out.trans (hb.mono HB.out.size))
  clear hb hleaf
  go_wp2_with (guard_target = wpList _ _ _ (⟨some 21, _, _, _, _, _⟩ :: _) _ _; refine wpList_buildSlice_dig rfl (.tmp 20) rfl D hlf.out rfl ?_)
  generalize hw3 : w2.alloc _ = w3
  have HA : Hid (RD w.heap.size (.slice (some ⟨w2.heap.size, 0, none⟩) 1 1) [D] w3) := by
    rw [← hw3]; exact Lib.hid (RD.one D hlf.out _ HB.out.size)
  have hb3 : Below w2.heap.size w2 w3 := by
    rw [← hw3]; exact (Below.refl _ _).alloc (Nat.le_refl _) _
  replace HM := Lib.hid (HM.out.below hb3)
  replace HB := Lib.hid (HB.out.trans (hb3.mono HB.out.size))
  clear hw3 hb3
  generalize (Value.slice (some ⟨w2.heap.size, 0, none⟩) 1 1) = v11 at HA ⊢
  refine (hlefts.out w3).mono ?_
  rintro e w4 ⟨v, rfl, hv, hb⟩
  have HM0 := Lib.hid (HM.out.below hb)
  have HA0 := Lib.hid (HA.out.below hb)
  have HL0 : Hid (RB w.heap.size v L w4) := Lib.hid (hv.lower HB.out.size)
  have HB0 := Lib.hid (HB.out.trans (hb.mono HB.out.size))
  clear hb hlefts HM HA HB hv
  obtain ⟨A1, c1, rfl, hc1, _⟩ := HL0.out.reads
  replace hc1 := Lib.hid hc1
  go_wp2_with fail
  go_loopw [10, 11, 13] (fun a b c wx => ∃ (k : Nat) (u v : Value), u = a ∧ v = b ∧ c = .int .i64 k ∧ k ≤ ps.length ∧ k ≤ L.length ∧ Hid (RP w.heap.size u (madeP P0 D (L.reverse.take k) (ps.take k)) wx) ∧ Hid (RD w.heap.size v (Tr.chainD alg D (L.reverse.take k) (ps.take k)) wx) ∧ Hid (RB w.heap.size (.slice A1 L.length c1) L wx) ∧ Hid (Below w.heap.size w wx)) (fun _ _ a _ => ps.length - (intOf a).toNat)
  case atStart => exact ⟨0, _, _, rfl, rfl, rfl, Nat.zero_le _, Nat.zero_le _, HM0, HA0, HL0, HB0⟩
  case round =>
    clear HM0 HA0 HL0 HB0
    obtain ⟨k, v10, v11, rfl, rfl, rfl, hk, hkl, HM, HA, HL, HB⟩ := hrel
    by_cases hkn : k < ps.length ∧ k < L.length
    · obtain ⟨hkn, hkm⟩ := hkn
      have hkn' : (k : Int) < (ps.length : Int) := by omega
      have hkm' : (k : Int) < (L.length : Int) := by omega
      obtain ⟨q, hq⟩ : ∃ q : Nat, q = L.length - 1 - k := ⟨_, rfl⟩
      have hq' : (L.length : Int) - 1 - (k : Int) = (q : Int) := by omega
      have hqn : q < L.length := by omega
      have hqn' : (q : Int) < (L.length : Int) := by omega
      obtain ⟨p, hp⟩ : ∃ p, ps[k]? = some p := ⟨_, List.getElem?_eq_getElem hkn⟩
      obtain ⟨t, ht⟩ : ∃ t, L[q]? = some t := ⟨_, List.getElem?_eq_getElem hqn⟩
      have htr : L.reverse[k]? = some t := by rw [List.getElem?_reverse hkm, ← hq]; exact ht
      have hMs := madeP_step P0 L.reverse ps D k t p htr hp
      have hDs := chainD_step L.reverse ps D k t p htr hp
      have hDat := chainD_at L.reverse ps D k (by rw [List.length_reverse]; exact hkl) hk
      have hDl : (Tr.chainD alg D (L.reverse.take k) (ps.take k)).length = k + 1 := by
        rw [chainD_len, List.length_take, List.length_take, List.length_reverse]; omega
      have hMl : (madeP P0 D (L.reverse.take k) (ps.take k)).length = k + 1 := by
        rw [madeP_len, List.length_take, List.length_take, List.length_reverse]; omega
      have hdl : (Tr.last alg D (L.reverse.take k) (ps.take k)).length = 32 := last_len _ _ _ hlf.out
      generalize Tr.last alg D (L.reverse.take k) (ps.take k) = d at hMs hDs hDat hdl
      obtain ⟨M, hM⟩ : ∃ M, M = madeP P0 D (L.reverse.take k) (ps.take k) := ⟨_, rfl⟩
      obtain ⟨X, hX⟩ : ∃ X, X = Tr.chainD alg D (L.reverse.take k) (ps.take k) := ⟨_, rfl⟩
      rw [← hM] at HM hMs hMl
      rw [← hX] at HA hDs hDat hDl
      replace hM := Lib.hid hM
      replace hX := Lib.hid hX
      obtain ⟨A2, c2, hv11, hc2, HX⟩ := HA.out.reads
      rw [hDl] at hv11 hc2
      obtain ⟨_, ad2, rfl, hda⟩ := HX.get hDat
      obtain ⟨hpl, ad, hAd, hpa⟩ := (hC.out.below HB.out).get hp
      subst hAd
      subst hv11
      obtain ⟨A1', c1', hv12, hc12, HLb⟩ := HL.out.reads
      obtain ⟨ad1, hA1, hlb⟩ := HLb.get ht
      cases hv12
      subst hA1
      have hLn := hll.out
      have hwb := HB.out.size
      have ex1 : ((k + 1 : Nat) : Int) - 1 = (k : Int) := by omega
      have ex2 : (k : Int) + 1 - 1 = (k : Int) := by omega
      have ex3 : (k : Int) < ((k + 1 : Nat) : Int) := by omega
      have ex4 : (k : Int) < (k : Int) + 1 := by omega
      replace HX := Lib.hid HX
      replace hda := Lib.hid hda
      replace hpa := Lib.hid hpa
      replace hlb := Lib.hid hlb
      replace hdl := Lib.hid hdl
      replace hpl := Lib.hid hpl
      replace hp := Lib.hid hp
      replace ht := Lib.hid ht
      replace htr := Lib.hid htr
      replace hq := Lib.hid hq
      replace hMs := Lib.hid hMs
      replace hDs := Lib.hid hDs
      replace hDat := Lib.hid hDat
      replace hDl := Lib.hid hDl
      replace hMl := Lib.hid hMl
      replace hc2 := Lib.hid hc2
      replace hc12 := Lib.hid hc12
      clear HLb
      go_upto_region 8 with (first | (guard_target = wpList _ _ _ (⟨some 42, _, _, _, _, _⟩ :: _) _ _; refine wpList_load_digA rfl (.tmp 41) rfl (ad2.add (k * 32)) rfl d hdl.out hda.out ?_) | (guard_target = wpList _ _ _ (⟨none, _, _, _, _, _⟩ :: _) _ _; refine wpList_store_dig rfl (.tmp 14) (.tmp 42) rfl wr.heap.size rfl d hdl.out rfl _ _ (heap_alloc_last _ _) zrow ?_; intro w5 h5 _ hB5))
      have hb5 := hB5 ((Below.refl wr.heap.size wr).alloc (Nat.le_refl _) _) (Nat.le_refl _)
      have HD : Hid (DigAt wr.heap.size d w5) := h5
      have hne10 : Hid (v10.ownBlock ≠ some wr.heap.size) := Lib.hid (fun e => absurd (HM.out.lt _ e) (Nat.lt_irrefl _))
      replace HM := Lib.hid (HM.out.below hb5)
      replace HA := Lib.hid (HA.out.below hb5)
      replace HL := Lib.hid (HL.out.below hb5)
      replace HB := Lib.hid (HB.out.trans (hb5.mono HB.out.size))
      obtain ⟨bd, hbd⟩ : ∃ b, b = wr.heap.size := ⟨_, rfl⟩
      have hbw : Hid (w.heap.size ≤ bd) := Lib.hid (by omega)
      rw [← hbd] at HD ⊢
      clear h5 hB5 hda HX hne10 hlb hpa hwb hb5
      replace hbd := Lib.hid hbd
      -- region 8
      replace HB := Lib.hid HB.out.drew
      replace HD : Hid (DigAt bd d w5.drew) := HD
      replace HM : Hid (RP w.heap.size v10 M w5.drew) := HM
      replace HA : Hid (RD w.heap.size (.slice (some ad2) (k + 1) c2) X w5.drew) := HA
      replace HL : Hid (RB w.heap.size (.slice (some ad1) L.length c1) L w5.drew) := HL
      obtain ⟨_, ad', hAd', hpa⟩ := (hC.out.below HB.out).get hp.out
      cases hAd'
      have hS : SS (ad.add (k * 32)) p ⟨bd, 0, none⟩ d w5.drew := ⟨hpa, DigAt.ad HD.out⟩
      clear hpa
      refine wp_region_held (S := SS (ad.add (k * 32)) p ⟨bd, 0, none⟩ d) (by kernel_rfl) ?_
      change wpAnyH _ _ _ _ _ _ _ _ w5.drew
      generalize w5.drew = w6 at hS HB HD HM HA HL ⊢
      refine wpAnyH_take (i := 0) (v := ?_) rfl (by kernel_rfl) (by kernel_rfl) (by kernel_rfl) (fun _ _ _ h => h) (Or.inl ⟨by rfl, ?_⟩) hS ?_
      rotate_left
      · intro v _; go_simp; first | done | with_reducible rfl
      rotate_left
      simp only [List.getElem_toArray, List.getElem_cons_succ, List.getElem_cons_zero, Act.put, List.setIfInBounds_toArray, List.set_cons_zero, List.set_cons_succ]
      refine wpAnyH_take (i := 1) (v := ?_) rfl (by kernel_rfl) (by kernel_rfl) (by kernel_rfl) (fun _ _ _ h => h) (Or.inl ⟨by rfl, ?_⟩) hS ?_
      rotate_left
      · intro v _; go_simp; first | done | with_reducible rfl
      rotate_left
      simp only [List.getElem_toArray, List.getElem_cons_succ, List.getElem_cons_zero, Act.put, List.setIfInBounds_toArray, List.set_cons_zero, List.set_cons_succ]
      refine wpAnyH_take (i := 2) (v := ?_) rfl (by kernel_rfl) (by kernel_rfl) (by kernel_rfl) (fun _ _ _ h => h) (Or.inl ⟨by rfl, ?_⟩) hS ?_
      rotate_left
      · intro v _; go_simp; first | done | with_reducible rfl
      rotate_left
      simp only [List.getElem_toArray, List.getElem_cons_succ, List.getElem_cons_zero, Act.put, List.setIfInBounds_toArray, List.set_cons_zero, List.set_cons_succ]
      refine wpAnyH_take (i := 3) (v := _) rfl (by kernel_rfl) (by kernel_rfl) (by kernel_rfl) (fun _ _ _ h => h) (yieldsIf_digA (by rfl) (.tmp 45) rfl (ad.add (k * 32)) rfl p hpl.out (fun _ h => h.1)) hS ?_
      try simp only [List.getElem_toArray, List.getElem_cons_succ, List.getElem_cons_zero, Act.put, List.setIfInBounds_toArray, List.set_cons_zero, List.set_cons_succ]
      refine wpAnyH_take (i := 4) (v := _) rfl (by kernel_rfl) (by kernel_rfl) (by kernel_rfl) (fun _ _ _ h => h) (yieldsIf_digA (by rfl) (.tmp 14) rfl ⟨bd,0,none⟩ rfl d hdl.out (fun _ h => h.2)) hS ?_
      try simp only [List.getElem_toArray, List.getElem_cons_succ, List.getElem_cons_zero, Act.put, List.setIfInBounds_toArray, List.set_cons_zero, List.set_cons_succ]
      refine wpAnyH_take (i := 5) (v := _) rfl (by kernel_rfl) (by kernel_rfl) (by kernel_rfl) (fun _ _ _ h => h) (yieldsIf_build_pr2 (by rfl) (.tmp 46) (.tmp 47) rfl p d hpl.out hdl.out rfl rfl) hS ?_
      try simp only [List.getElem_toArray, List.getElem_cons_succ, List.getElem_cons_zero, Act.put, List.setIfInBounds_toArray, List.set_cons_zero, List.set_cons_succ]
      refine wpAnyH_all (rs := [6]) (by kernel_rfl) (by simp) ?_
      intro i hi
      simp only [List.mem_cons, List.not_mem_nil, or_false] at hi
      subst hi
      refine wpOp_wp rfl (by rfl) ?_
      refine wp_alloc_pr rfl ?_
      intro w7 HX hb7
      have hnxd : Hid (w6.heap.size ≠ bd) := Lib.hid (fun e => absurd (dig_lt HD.out) (by omega))
      have hne10 : Hid (v10.ownBlock ≠ some w6.heap.size) := Lib.hid (fun e => absurd (HM.out.lt _ e) (Nat.lt_irrefl _))
      have hxw : Hid (w.heap.size ≤ w6.heap.size) := Lib.hid HB.out.size
      clear hS
      have hS : SS (ad.add (k * 32)) p ⟨bd, 0, none⟩ d w7 := by
        obtain ⟨_, ad', hAd', hpa⟩ := (hC.out.below (HB.out.trans (hb7.mono HB.out.size))).get hp.out
        cases hAd'
        exact ⟨hpa, DigAt.ad (HD.out.below hb7)⟩
      refine ⟨hS, ?_⟩
      try simp only [List.getElem_toArray, List.getElem_cons_succ, List.getElem_cons_zero, Act.put, List.setIfInBounds_toArray, List.set_cons_zero, List.set_cons_succ]
      clear hS
      refine wpAnyH_all (rs := [7]) (by kernel_rfl) (by simp) ?_
      intro i hi
      simp only [List.mem_cons, List.not_mem_nil, or_false] at hi
      subst hi
      refine wpOp_wp rfl (by rfl) ?_
      refine wp_store_pr (.tmp 15) (.tmp 48) rfl w6.heap.size rfl ⟨⟨#[]⟩, p, d⟩ ⟨hpl.out, hdl.out⟩ rfl _ ⟨zDig_len, zDig_len⟩ HX.out ?_
      intro w8 h8 hk8 hB8 hs8
      have hb8 : Below w6.heap.size w6 w8 := hB8 hb7 (Nat.le_refl _)
      clear HX hb7 hk8 hB8 hs8
      replace HM := Lib.hid (HM.out.below hb8)
      replace HA := Lib.hid (HA.out.below hb8)
      replace HL := Lib.hid (HL.out.below hb8)
      replace HD := Lib.hid (HD.out.below hb8)
      replace HB := Lib.hid (HB.out.trans (hb8.mono HB.out.size))
      clear hb8
      have HX : Hid (PrAt w6.heap.size ⟨⟨#[]⟩, p, d⟩ w8) := h8
      clear h8
      generalize w6.heap.size = bx at HX hne10 hxw hnxd ⊢
      have hS : SS (ad.add (k * 32)) p ⟨bd, 0, none⟩ d w8 := by
        obtain ⟨_, ad', hAd', hpa⟩ := (hC.out.below HB.out).get hp.out
        cases hAd'
        exact ⟨hpa, DigAt.ad HD.out⟩
      refine ⟨hS, ?_⟩
      try simp only [List.getElem_toArray, List.getElem_cons_succ, List.getElem_cons_zero, Act.put, List.setIfInBounds_toArray, List.set_cons_zero, List.set_cons_succ]
      refine wpAnyH_done (by kernel_rfl) ?_ _
      clear hS
      obtain ⟨A1', c1', hv12, hc12, HLb⟩ := HL.out.reads
      obtain ⟨ad1', hA1, hlb⟩ := HLb.get ht.out
      cases hv12
      cases hA1
      clear HLb hc12
      cases t with
      | true =>
        go_upto_region 10 with fail
        clear hlb
        replace HB := Lib.hid HB.out.drew
        replace HD : Hid (DigAt bd d w8.drew) := HD
        replace HX : Hid (PrAt bx ⟨⟨#[]⟩, p, d⟩ w8.drew) := HX
        replace HM : Hid (RP w.heap.size v10 M w8.drew) := HM
        replace HA : Hid (RD w.heap.size (.slice (some ad2) (k + 1) c2) X w8.drew) := HA
        replace HL : Hid (RB w.heap.size (.slice (some ad1) L.length c1) L w8.drew) := HL
        have hS : SS (ad.add (k * 32)) p ⟨bd, 0, none⟩ d w8.drew := by
          obtain ⟨_, ad', hAd', hpa⟩ := (hC.out.below HB.out).get hp.out
          cases hAd'
          exact ⟨hpa, DigAt.ad HD.out⟩
        refine wp_region_held (S := SS (ad.add (k * 32)) p ⟨bd, 0, none⟩ d) (by kernel_rfl) ?_
        change wpAnyH _ _ _ _ _ _ _ _ w8.drew
        generalize w8.drew = w9 at hS HB HD HX HM HA HL ⊢
        refine wpAnyH_take (i := 0) (v := _) rfl (by kernel_rfl) (by kernel_rfl) (by kernel_rfl) (fun _ _ _ h => h) (yieldsIf_digA (by rfl) (.tmp 14) rfl ⟨bd,0,none⟩ rfl d hdl.out (fun _ h => h.2)) hS ?_
        try simp only [List.getElem_toArray, List.getElem_cons_succ, List.getElem_cons_zero, Act.put, List.setIfInBounds_toArray, List.set_cons_zero, List.set_cons_succ]
        refine wpAnyH_take (i := 1) (v := ?_) rfl (by kernel_rfl) (by kernel_rfl) (by kernel_rfl) (fun _ _ _ h => h) (Or.inl ⟨by rfl, ?_⟩) hS ?_
        rotate_left
        · intro v _; go_simp; first | done | with_reducible rfl
        rotate_left
        simp only [List.getElem_toArray, List.getElem_cons_succ, List.getElem_cons_zero, Act.put, List.setIfInBounds_toArray, List.set_cons_zero, List.set_cons_succ]
        refine wpAnyH_take (i := 2) (v := ?_) rfl (by kernel_rfl) (by kernel_rfl) (by kernel_rfl) (fun _ _ _ h => h) (Or.inl ⟨by rfl, ?_⟩) hS ?_
        rotate_left
        · intro v _; go_simp; first | done | with_reducible rfl
        rotate_left
        simp only [List.getElem_toArray, List.getElem_cons_succ, List.getElem_cons_zero, Act.put, List.setIfInBounds_toArray, List.set_cons_zero, List.set_cons_succ]
        refine wpAnyH_take (i := 3) (v := ?_) rfl (by kernel_rfl) (by kernel_rfl) (by kernel_rfl) (fun _ _ _ h => h) (Or.inl ⟨by rfl, ?_⟩) hS ?_
        rotate_left
        · intro v _; go_simp; first | done | with_reducible rfl
        rotate_left
        simp only [List.getElem_toArray, List.getElem_cons_succ, List.getElem_cons_zero, Act.put, List.setIfInBounds_toArray, List.set_cons_zero, List.set_cons_succ]
        refine wpAnyH_take (i := 4) (v := _) rfl (by kernel_rfl) (by kernel_rfl) (by kernel_rfl) (fun _ _ _ h => h) (yieldsIf_digA (by rfl) (.tmp 60) rfl (ad.add (k * 32)) rfl p hpl.out (fun _ h => h.1)) hS ?_
        try simp only [List.getElem_toArray, List.getElem_cons_succ, List.getElem_cons_zero, Act.put, List.setIfInBounds_toArray, List.set_cons_zero, List.set_cons_succ]
        refine wpAnyH_take (i := 5) (v := _) rfl (by kernel_rfl) (by kernel_rfl) (by kernel_rfl) (fun _ _ _ h => h) (yieldsIf_build_pr2 (by rfl) (.tmp 57) (.tmp 61) rfl d p hdl.out hpl.out rfl rfl) hS ?_
        try simp only [List.getElem_toArray, List.getElem_cons_succ, List.getElem_cons_zero, Act.put, List.setIfInBounds_toArray, List.set_cons_zero, List.set_cons_succ]
        refine wpAnyH_all (rs := [6]) (by kernel_rfl) (by simp) ?_
        intro i hi
        simp only [List.mem_cons, List.not_mem_nil, or_false] at hi
        subst hi
        refine wpOp_wp rfl (by rfl) ?_
        refine wp_store_pr (.tmp 15) (.tmp 62) rfl bx rfl ⟨⟨#[]⟩, d, p⟩ ⟨hdl.out, hpl.out⟩ rfl _ ⟨hpl.out, hdl.out⟩ HX.out ?_
        intro w10 h10 hk10 hB10 hs10
        replace HM := Lib.hid (RP.step HM.out (w1 := w10) (fun k hk => hk10 k (fun e => hne10.out (e ▸ hk))))
        replace HA := Lib.hid (RD.far HA.out HX.out hk10)
        replace HL := Lib.hid (RB.far HL.out HX.out hk10)
        replace HB := Lib.hid (hB10 HB.out hxw.out)
        have HX10 : Hid (PrAt bx ⟨⟨#[]⟩, d, p⟩ w10) := h10
        replace HD : Hid (DigAt bd d w10) := by refine Lib.hid ?_; unfold DigAt; rw [hk10 _ (Ne.symm hnxd.out)]; exact HD.out
        clear hS HX h10 hk10 hB10 hs10
        have hS : SS (ad.add (k * 32)) p ⟨bd, 0, none⟩ d w10 := by
          obtain ⟨_, ad', hAd', hpa⟩ := (hC.out.below HB.out).get hp.out
          cases hAd'
          exact ⟨hpa, DigAt.ad HD.out⟩
        refine ⟨hS, ?_⟩
        try simp only [List.getElem_toArray, List.getElem_cons_succ, List.getElem_cons_zero, Act.put, List.setIfInBounds_toArray, List.set_cons_zero, List.set_cons_succ]
        refine wpAnyH_done (by kernel_rfl) ?_ _
        clear hS HD
        obtain ⟨Y, hY⟩ : ∃ Y : Pr, Y = ⟨⟨#[]⟩, d, p⟩ := ⟨_, rfl⟩
        rw [← hY] at HX10
        have hYok : Hid (Y.ok) := Lib.hid (by rw [hY]; exact ⟨hdl.out, hpl.out⟩)
        have hYn : Hid (Y = pairP (Tr.nextP true d p)) := Lib.hid hY
        have hYj : Hid (joinP Y.a Y.b = Tr.next alg true d p) := Lib.hid (by rw [hY]; rfl)
        clear hY
        generalize w10 = wy at HM HA HL HB HX10 ⊢
        have hMl9 : M.length ≤ 1073741824 := by rw [hMl.out]; have := hll.out; omega
        have hDl9 : X.length ≤ 1073741824 := by rw [hDl.out]; have := hll.out; omega
        replace hMl9 := Lib.hid hMl9
        replace hDl9 := Lib.hid hDl9
        go_upto_region 12 with (first | (guard_target = wpList _ _ _ (⟨some 64, _, _, _, _, _⟩ :: _) _ _; refine wpList_load_prA rfl (.tmp 15) rfl ⟨bx, 0, none⟩ rfl Y hYok.out HX10.out.ad ?_) | (guard_target = wpList _ _ _ (⟨some 65, _, _, _, _, _⟩ :: _) _ _; refine wpList_buildSlice_pr rfl (.tmp 64) rfl Y hYok.out rfl ?_) | (guard_target = wpList _ _ _ (⟨some 66, _, _, _, _, _⟩ :: _) _ _; refine wpList_append_pr2 rfl (.tmp 63) (.tmp 65) rfl v10 M Y hYok.out rfl rfl HM.out HB.out HB.out.size hMl9.out ?_; intro vm w11 HM11 HB11 hg11))
        replace HX10 := Lib.hid (HX10.out.grown hg11.out (Ne.symm hne10.out))
        replace HA := Lib.hid (HA.out.overP HM.out hg11.out)
        replace HL := Lib.hid (HL.out.overP HM.out hg11.out)
        clear HM hg11 HB
        have HM := HM11
        have HB := Lib.hid HB11
        clear HM11 HB11
        have hya : DigAd ⟨bx, 1, none⟩ Y.a w11 := PrAd.a HX10.out.ad hYok.out
        have hyb : DigAd ⟨bx, 33, none⟩ Y.b w11 := PrAd.b HX10.out.ad hYok.out
        go_wp2_with (first | (guard_target = wpList _ _ _ (⟨some 69, _, _, _, _, _⟩ :: _) _ _; refine wpList_load_digA rfl (.tmp 68) rfl ⟨bx, 1, none⟩ rfl Y.a hYok.out.1 hya ?_) | (guard_target = wpList _ _ _ (⟨some 71, _, _, _, _, _⟩ :: _) _ _; refine wpList_load_digA rfl (.tmp 70) rfl ⟨bx, 33, none⟩ rfl Y.b hYok.out.2 hyb ?_))
        refine (tjoin_calls Y.a Y.b hYok.out.1 hYok.out.2 w11 (hK.out.below HB.out)).mono ?_
        rintro e w12 ⟨rfl, hb⟩
        clear hya hyb HX10
        have HJ : Hid ((joinP Y.a Y.b).length = 32) := Lib.hid (sumL_len _)
        generalize joinP Y.a Y.b = J at HJ hYj ⊢
        replace HM := Lib.hid (HM.out.below hb)
        replace HA := Lib.hid (HA.out.below hb)
        replace HL := Lib.hid (HL.out.below hb)
        replace HB := Lib.hid (HB.out.trans (hb.mono HB.out.size))
        clear hb
        go_wp2_with (first | (guard_target = wpList _ _ _ (⟨some 73, _, _, _, _, _⟩ :: _) _ _; refine wpList_buildSlice_dig rfl (.tmp 72) rfl J HJ.out rfl ?_) | (guard_target = wpList _ _ _ (⟨some 74, _, _, _, _, _⟩ :: _) _ _; refine wpList_append_dig2 rfl (.tmp 67) (.tmp 73) rfl _ X J HJ.out rfl rfl HA.out HB.out HB.out.size hDl9.out ?_; intro va w13 HA13 HB13 hg13))
        replace HM := Lib.hid (HM.out.overD HA.out hg13.out)
        replace HL := Lib.hid (HL.out.overD HA.out hg13.out)
        clear HA HB
        rw [hYn.out, ← hMs.out] at HM
        rw [hYj.out, ← hDs.out] at HA13
        refine ⟨⟨k + 1, vm, va, rfl, rfl, by go_num, by omega, by omega, HM, HA13, HL, Lib.hid HB13⟩, ?_⟩
        simp [intOf]
        omega
      | false =>
        have HX10 := HX
        clear HX HD
        go_upto_region 11 with fail
        clear hlb
        obtain ⟨Y, hY⟩ : ∃ Y : Pr, Y = ⟨⟨#[]⟩, p, d⟩ := ⟨_, rfl⟩
        rw [← hY] at HX10
        have hYok : Hid (Y.ok) := Lib.hid (by rw [hY]; exact ⟨hpl.out, hdl.out⟩)
        have hYn : Hid (Y = pairP (Tr.nextP false d p)) := Lib.hid hY
        have hYj : Hid (joinP Y.a Y.b = Tr.next alg false d p) := Lib.hid (by rw [hY]; rfl)
        clear hY
        generalize w8 = wy at HM HA HL HB HX10 ⊢
        have hMl9 : M.length ≤ 1073741824 := by rw [hMl.out]; have := hll.out; omega
        have hDl9 : X.length ≤ 1073741824 := by rw [hDl.out]; have := hll.out; omega
        replace hMl9 := Lib.hid hMl9
        replace hDl9 := Lib.hid hDl9
        go_upto_region 12 with (first | (guard_target = wpList _ _ _ (⟨some 64, _, _, _, _, _⟩ :: _) _ _; refine wpList_load_prA rfl (.tmp 15) rfl ⟨bx, 0, none⟩ rfl Y hYok.out HX10.out.ad ?_) | (guard_target = wpList _ _ _ (⟨some 65, _, _, _, _, _⟩ :: _) _ _; refine wpList_buildSlice_pr rfl (.tmp 64) rfl Y hYok.out rfl ?_) | (guard_target = wpList _ _ _ (⟨some 66, _, _, _, _, _⟩ :: _) _ _; refine wpList_append_pr2 rfl (.tmp 63) (.tmp 65) rfl v10 M Y hYok.out rfl rfl HM.out HB.out HB.out.size hMl9.out ?_; intro vm w11 HM11 HB11 hg11))
        replace HX10 := Lib.hid (HX10.out.grown hg11.out (Ne.symm hne10.out))
        replace HA := Lib.hid (HA.out.overP HM.out hg11.out)
        replace HL := Lib.hid (HL.out.overP HM.out hg11.out)
        clear HM hg11 HB
        have HM := HM11
        have HB := Lib.hid HB11
        clear HM11 HB11
        have hya : DigAd ⟨bx, 1, none⟩ Y.a w11 := PrAd.a HX10.out.ad hYok.out
        have hyb : DigAd ⟨bx, 33, none⟩ Y.b w11 := PrAd.b HX10.out.ad hYok.out
        go_wp2_with (first | (guard_target = wpList _ _ _ (⟨some 69, _, _, _, _, _⟩ :: _) _ _; refine wpList_load_digA rfl (.tmp 68) rfl ⟨bx, 1, none⟩ rfl Y.a hYok.out.1 hya ?_) | (guard_target = wpList _ _ _ (⟨some 71, _, _, _, _, _⟩ :: _) _ _; refine wpList_load_digA rfl (.tmp 70) rfl ⟨bx, 33, none⟩ rfl Y.b hYok.out.2 hyb ?_))
        refine (tjoin_calls Y.a Y.b hYok.out.1 hYok.out.2 w11 (hK.out.below HB.out)).mono ?_
        rintro e w12 ⟨rfl, hb⟩
        clear hya hyb HX10
        have HJ : Hid ((joinP Y.a Y.b).length = 32) := Lib.hid (sumL_len _)
        generalize joinP Y.a Y.b = J at HJ hYj ⊢
        replace HM := Lib.hid (HM.out.below hb)
        replace HA := Lib.hid (HA.out.below hb)
        replace HL := Lib.hid (HL.out.below hb)
        replace HB := Lib.hid (HB.out.trans (hb.mono HB.out.size))
        clear hb
        go_wp2_with (first | (guard_target = wpList _ _ _ (⟨some 73, _, _, _, _, _⟩ :: _) _ _; refine wpList_buildSlice_dig rfl (.tmp 72) rfl J HJ.out rfl ?_) | (guard_target = wpList _ _ _ (⟨some 74, _, _, _, _, _⟩ :: _) _ _; refine wpList_append_dig2 rfl (.tmp 67) (.tmp 73) rfl _ X J HJ.out rfl rfl HA.out HB.out HB.out.size hDl9.out ?_; intro va w13 HA13 HB13 hg13))
        replace HM := Lib.hid (HM.out.overD HA.out hg13.out)
        replace HL := Lib.hid (HL.out.overD HA.out hg13.out)
        clear HA HB
        rw [hYn.out, ← hMs.out] at HM
        rw [hYj.out, ← hDs.out] at HA13
        refine ⟨⟨k + 1, vm, va, rfl, rfl, by go_num, by omega, by omega, HM, HA13, HL, Lib.hid HB13⟩, ?_⟩
        simp [intOf]
        omega
    · have hcond : ps.length ≤ k ∨ L.length ≤ k := by omega
      have hmin : min L.reverse.length ps.length ≤ k := by rw [List.length_reverse]; omega
      have eM := madeP_take P0 L.reverse ps D k hmin
      have eD := chainD_take L.reverse ps D k hmin
      rw [eM] at HM
      rw [eD] at HA
      clear eM eD hmin
      by_cases h1 : ps.length ≤ k
      · have hkn' : ¬ (k : Int) < (ps.length : Int) := by omega
        replace hcond := Lib.hid hcond
        replace hkn := Lib.hid hkn
        go_wp2_with fail
        go_ret2
        exact ⟨v10, v11, rfl, HM.out, HA.out, HB.out⟩
      · have hkn' : (k : Int) < (ps.length : Int) := by omega
        have hkm' : ¬ (k : Int) < (L.length : Int) := by omega
        replace hcond := Lib.hid hcond
        replace hkn := Lib.hid hkn
        go_wp2_with fail
        go_ret2
        exact ⟨v10, v11, rfl, HM.out, HA.out, HB.out⟩
end Go.Proofs.YtldpnmebjnkjeaaDoor.TrW
namespace Go.Proofs.YtldpnmebjnkjeaaDoor.TrW
open Go.RowKit Go.Proofs.YtldpnmebjnkjeaaDoorW.PrintWords Go.Proofs.YtldpnmebjnkjeaaDoor.PH1 Go.Proofs.YtldpnmebjnkjeaaDoor Go.Proofs.YtldpnmebjnkjeaaDoorW.PrintLast Go.Proofs.YtldpnmebjnkjeaaDoorW.PrintMore
open Go.Proofs.YtldpnmebjnkjeaaDoor.Sha
open Go.Proofs.YtldpnmebjnkjeaaDoor.Ref10 (wp_store_dig wp_load_dig wpOp_wp range_row)
set_option linter.unusedVariables false
set_option linter.unusedSimpArgs false

/-- Is any digest of two chains made of two things? -/
def twB : List Pr → List (List UInt8) → List Pr → List (List UInt8) → Bool
  | a :: al, x :: xs, b :: bs, y :: ys => (decide (x = y) && !decide (a = b)) || twB al xs bs ys
  | _, _, _, _ => false
theorem twB_drop (a : List Pr) (x : List (List UInt8)) (b : List Pr) (y : List (List UInt8)) (k : Nat) (p : Pr) (d : List UInt8) (q : Pr) (e : List UInt8) (h1 : a[k]? = some p) (h2 : x[k]? = some d) (h3 : b[k]? = some q) (h4 : y[k]? = some e) :
    twB (a.drop k) (x.drop k) (b.drop k) (y.drop k) = ((decide (d = e) && !decide (p = q)) || twB (a.drop (k + 1)) (x.drop (k + 1)) (b.drop (k + 1)) (y.drop (k + 1))) := by
  obtain ⟨a1, a2⟩ := List.getElem?_eq_some_iff.1 h1
  obtain ⟨b1, b2⟩ := List.getElem?_eq_some_iff.1 h2
  obtain ⟨c1, c2⟩ := List.getElem?_eq_some_iff.1 h3
  obtain ⟨d1, d2⟩ := List.getElem?_eq_some_iff.1 h4
  rw [List.drop_eq_getElem_cons a1, List.drop_eq_getElem_cons b1, List.drop_eq_getElem_cons c1, List.drop_eq_getElem_cons d1, a2, b2, c2, d2]
  rfl
theorem twB_end (a : List Pr) (x : List (List UInt8)) (b : List Pr) (y : List (List UInt8)) (k : Nat) (h : a.length ≤ k ∨ x.length ≤ k ∨ b.length ≤ k ∨ y.length ≤ k) : twB (a.drop k) (x.drop k) (b.drop k) (y.drop k) = false := by
  rcases h with h | h | h | h <;> rw [List.drop_eq_nil_of_le h]
  · rfl
  · cases a.drop k <;> rfl
  · cases a.drop k <;> cases x.drop k <;> rfl
  · cases a.drop k <;> cases x.drop k <;> cases b.drop k <;> rfl
/-- Somewhere it is so. -/
theorem twB_true : ∀ (i : Nat) (a : List Pr) (x : List (List UInt8)) (b : List Pr) (y : List (List UInt8)), i < a.length → i < x.length → i < b.length → i < y.length → x[i]? = y[i]? → a[i]? ≠ b[i]? → twB a x b y = true
  | 0, p :: a, d :: x, q :: b, e :: y, _, _, _, _, h, hn => by
    simp only [List.getElem?_cons_zero, Option.some.injEq, ne_eq] at h hn
    simp [twB, h, hn]
  | i + 1, p :: a, d :: x, q :: b, e :: y, h1, h2, h3, h4, h, hn => by
    simp only [List.getElem?_cons_succ] at h hn
    have := twB_true i a x b y (by simpa using h1) (by simpa using h2) (by simpa using h3) (by simpa using h4) h hn
    simp [twB, this]
  | _, [], _, _, _, h1, _, _, _, _, _ => by simp at h1
  | _, _ :: _, [], _, _, _, h2, _, _, _, _ => by simp at h2
  | _, _ :: _, _ :: _, [], _, _, _, h3, _, _, _ => by simp at h3
  | _, _ :: _, _ :: _, _ :: _, [], _, _, _, h4, _, _ => by simp at h4
/-- What the loads of a round read. -/
def S4 (a1 : Addr) (x : List UInt8) (a2 : Addr) (y : List UInt8) (a3 : Addr) (p : Pr) (a4 : Addr) (q : Pr) (W : World) : Prop := DigAd a1 x W ∧ DigAd a2 y W ∧ PrAd a3 p W ∧ PrAd a4 q W
theorem eqguardP : Tryd.prog.eqGuardType Tryd.prog.depth 116 = false := by kernel_rfl
set_option maxHeartbeats 8000000 in
set_option maxRecDepth 100000 in
theorem twice_calls (A1 A2 A3 A4 : Option Addr) (c1 c2 c3 c4 : Nat) (a : List Pr) (x : List (List UInt8)) (b : List Pr) (y : List (List UInt8)) (w : World) (h1 : CP A1 a w) (h2 : CD A2 x w) (h3 : CP A3 b w) (h4 : CD A4 y w) (ha : ∀ p ∈ a, p.ok) (hb : ∀ p ∈ b, p.ok) :
    Calls Tryd.prog 49 #[.slice A1 a.length c1, .slice A2 x.length c2, .slice A3 b.length c3, .slice A4 y.length c4] w fun e w' => e = .returned (.bool (twB a x b y)) ∧ Below w.heap.size w w' := by
  have m1 := Kd.C_max h1
  have m2 := Kd.C_max h2
  have m3 := Kd.C_max h3
  have m4 := Kd.C_max h4
  obtain ⟨V, hV⟩ : ∃ V, V = twB a x b y := ⟨_, rfl⟩
  rw [← hV]
  have HB := Lib.hid (Below.refl w.heap.size w)
  have HE : Hid (twB (a.drop 0) (x.drop 0) (b.drop 0) (y.drop 0) = V) := Lib.hid hV.symm
  clear hV
  replace h1 := Lib.hid h1
  replace h2 := Lib.hid h2
  replace h3 := Lib.hid h3
  replace h4 := Lib.hid h4
  replace ha := Lib.hid ha
  replace hb := Lib.hid hb
  have heg := eqguardP
  go_enter Tryd.func49, Tryd.ntmps49
  go_wp2_with fail
  go_loopw [9] (fun z wx => ∃ k : Nat, z = .int .i64 k ∧ k ≤ a.length ∧ Hid (twB (a.drop k) (x.drop k) (b.drop k) (y.drop k) = V) ∧ Hid (Below w.heap.size w wx)) (fun z _ => a.length - (intOf z).toNat)
  case atStart => exact ⟨0, rfl, Nat.zero_le _, HE, HB⟩
  case round =>
    clear HE HB
    obtain ⟨k, rfl, hk, HE, HB⟩ := hrel
    by_cases k1 : k < a.length
    · have k1' : (k : Int) < (a.length : Int) := by omega
      by_cases k3 : k < b.length
      · have k3' : (k : Int) < (b.length : Int) := by omega
        by_cases k2 : k < x.length
        · have k2' : (k : Int) < (x.length : Int) := by omega
          by_cases k4 : k < y.length
          · have k4' : (k : Int) < (y.length : Int) := by omega
            obtain ⟨p, hp⟩ : ∃ p, a[k]? = some p := ⟨_, List.getElem?_eq_getElem k1⟩
            obtain ⟨d, hd⟩ : ∃ p, x[k]? = some p := ⟨_, List.getElem?_eq_getElem k2⟩
            obtain ⟨q, hq⟩ : ∃ p, b[k]? = some p := ⟨_, List.getElem?_eq_getElem k3⟩
            obtain ⟨e, he⟩ : ∃ p, y[k]? = some p := ⟨_, List.getElem?_eq_getElem k4⟩
            have HB2 := Lib.hid HB.out.drew
            obtain ⟨ad1, hA1, hc1⟩ := (h1.out.below HB2.out).get hp
            obtain ⟨hdl, ad2, hA2, hc2⟩ := (h2.out.below HB2.out).get hd
            obtain ⟨ad3, hA3, hc3⟩ := (h3.out.below HB2.out).get hq
            obtain ⟨hel, ad4, hA4, hc4⟩ := (h4.out.below HB2.out).get he
            subst hA1 hA2 hA3 hA4
            have hpk := ha.out p (List.mem_of_getElem? hp)
            have hqk := hb.out q (List.mem_of_getElem? hq)
            have hE2 := HE.out
            rw [twB_drop a x b y k p d q e hp hd hq he] at hE2
            have hS : S4 (ad2.add (k * 32)) d (ad4.add (k * 32)) e (ad1.add (k * 65)) p (ad3.add (k * 65)) q wr.drew := ⟨hc2, hc4, hc1, hc3⟩
            have heqd : ∀ v : World, (Op.equalIn 10000 24 (.agg (Lib.byteCells d).toArray) (.agg (Lib.byteCells e).toArray)).run Tryd.prog v = .ok (decide (d = e)) v := fun v => eq32 v d e hdl hel
            have heqp : ∀ v : World, (Op.equalIn 10000 116 (.agg (pcs p).toArray) (.agg (pcs q).toArray)).run Tryd.prog v = .ok (decide (p = q)) v := fun v => eqPr v p q hpk hqk
            replace hdl := Lib.hid hdl
            replace hel := Lib.hid hel
            replace hpk := Lib.hid hpk
            replace hqk := Lib.hid hqk
            replace hp := Lib.hid hp
            replace hd := Lib.hid hd
            replace hq := Lib.hid hq
            replace he := Lib.hid he
            clear hc1 hc2 hc3 hc4 HE
            generalize decide (d = e) = c1 at heqd hE2
            generalize decide (p = q) = c2 at heqp hE2
            replace hE2 := Lib.hid hE2
            go_upto_region 4 with fail
            refine wp_region_held (S := S4 (ad2.add (k * 32)) d (ad4.add (k * 32)) e (ad1.add (k * 65)) p (ad3.add (k * 65)) q) (by kernel_rfl) ?_
            change wpAnyH _ _ _ _ _ _ _ _ wr.drew
            generalize wr.drew = v0 at hS HB2 ⊢
            refine wpAnyH_take (i := 0) (v := ?_) rfl (by kernel_rfl) (by kernel_rfl) (by kernel_rfl) (fun _ _ _ h => h) (Or.inl ⟨by rfl, ?_⟩) hS ?_
            rotate_left
            · intro v _; go_simp; first | done | with_reducible rfl
            rotate_left
            simp only [List.getElem_toArray, List.getElem_cons_succ, List.getElem_cons_zero, Act.put, List.setIfInBounds_toArray, List.set_cons_zero, List.set_cons_succ]
            refine wpAnyH_take (i := 1) (v := ?_) rfl (by kernel_rfl) (by kernel_rfl) (by kernel_rfl) (fun _ _ _ h => h) (Or.inl ⟨by rfl, ?_⟩) hS ?_
            rotate_left
            · intro v _; go_simp; first | done | with_reducible rfl
            rotate_left
            simp only [List.getElem_toArray, List.getElem_cons_succ, List.getElem_cons_zero, Act.put, List.setIfInBounds_toArray, List.set_cons_zero, List.set_cons_succ]
            refine wpAnyH_take (i := 2) (v := ?_) rfl (by kernel_rfl) (by kernel_rfl) (by kernel_rfl) (fun _ _ _ h => h) (Or.inl ⟨by rfl, ?_⟩) hS ?_
            rotate_left
            · intro v _; go_simp; first | done | with_reducible rfl
            rotate_left
            simp only [List.getElem_toArray, List.getElem_cons_succ, List.getElem_cons_zero, Act.put, List.setIfInBounds_toArray, List.set_cons_zero, List.set_cons_succ]
            refine wpAnyH_take (i := 3) (v := _) rfl (by kernel_rfl) (by kernel_rfl) (by kernel_rfl) (fun _ _ _ h => h) (yieldsIf_digA (by rfl) (.tmp 36) rfl (ad2.add (k * 32)) rfl d hdl.out (fun _ h => h.1)) hS ?_
            try simp only [List.getElem_toArray, List.getElem_cons_succ, List.getElem_cons_zero, Act.put, List.setIfInBounds_toArray, List.set_cons_zero, List.set_cons_succ]
            refine wpAnyH_take (i := 4) (v := ?_) rfl (by kernel_rfl) (by kernel_rfl) (by kernel_rfl) (fun _ _ _ h => h) (Or.inl ⟨by rfl, ?_⟩) hS ?_
            rotate_left
            · intro v _; go_simp; first | done | with_reducible rfl
            rotate_left
            simp only [List.getElem_toArray, List.getElem_cons_succ, List.getElem_cons_zero, Act.put, List.setIfInBounds_toArray, List.set_cons_zero, List.set_cons_succ]
            refine wpAnyH_take (i := 5) (v := ?_) rfl (by kernel_rfl) (by kernel_rfl) (by kernel_rfl) (fun _ _ _ h => h) (Or.inl ⟨by rfl, ?_⟩) hS ?_
            rotate_left
            · intro v _; go_simp; first | done | with_reducible rfl
            rotate_left
            simp only [List.getElem_toArray, List.getElem_cons_succ, List.getElem_cons_zero, Act.put, List.setIfInBounds_toArray, List.set_cons_zero, List.set_cons_succ]
            refine wpAnyH_take (i := 6) (v := ?_) rfl (by kernel_rfl) (by kernel_rfl) (by kernel_rfl) (fun _ _ _ h => h) (Or.inl ⟨by rfl, ?_⟩) hS ?_
            rotate_left
            · intro v _; go_simp; first | done | with_reducible rfl
            rotate_left
            simp only [List.getElem_toArray, List.getElem_cons_succ, List.getElem_cons_zero, Act.put, List.setIfInBounds_toArray, List.set_cons_zero, List.set_cons_succ]
            refine wpAnyH_take (i := 7) (v := _) rfl (by kernel_rfl) (by kernel_rfl) (by kernel_rfl) (fun _ _ _ h => h) (yieldsIf_digA (by rfl) (.tmp 40) rfl (ad4.add (k * 32)) rfl e hel.out (fun _ h => h.2.1)) hS ?_
            try simp only [List.getElem_toArray, List.getElem_cons_succ, List.getElem_cons_zero, Act.put, List.setIfInBounds_toArray, List.set_cons_zero, List.set_cons_succ]
            refine wpAnyH_take (i := 8) (v := ?_) rfl (by kernel_rfl) (by kernel_rfl) (by kernel_rfl) (fun _ _ _ h => h) (Or.inl ⟨by rfl, ?_⟩) hS ?_
            rotate_left
            · intro v _; go_simp; first | done | with_reducible rfl
            rotate_left
            simp only [List.getElem_toArray, List.getElem_cons_succ, List.getElem_cons_zero, Act.put, List.setIfInBounds_toArray, List.set_cons_zero, List.set_cons_succ]
            refine wpAnyH_take (i := 9) (v := ?_) rfl (by kernel_rfl) (by kernel_rfl) (by kernel_rfl) (fun _ _ _ h => h) (Or.inl ⟨by rfl, ?_⟩) hS ?_
            rotate_left
            · intro v _; go_simp; first | done | with_reducible rfl
            rotate_left
            simp only [List.getElem_toArray, List.getElem_cons_succ, List.getElem_cons_zero, Act.put, List.setIfInBounds_toArray, List.set_cons_zero, List.set_cons_succ]
            cases c1 with
            | true =>
              refine wpAnyH_take (i := 10) (v := ?_) rfl (by kernel_rfl) (by kernel_rfl) (by kernel_rfl) (fun _ _ _ h => h) (Or.inl ⟨by rfl, ?_⟩) hS ?_
              rotate_left
              · intro v _; go_simp; first | done | with_reducible rfl
              rotate_left
              simp only [List.getElem_toArray, List.getElem_cons_succ, List.getElem_cons_zero, Act.put, List.setIfInBounds_toArray, List.set_cons_zero, List.set_cons_succ]
              refine wpAnyH_take (i := 11) (v := ?_) rfl (by kernel_rfl) (by kernel_rfl) (by kernel_rfl) (fun _ _ _ h => h) (Or.inl ⟨by rfl, ?_⟩) hS ?_
              rotate_left
              · intro v _; go_simp; first | done | with_reducible rfl
              rotate_left
              simp only [List.getElem_toArray, List.getElem_cons_succ, List.getElem_cons_zero, Act.put, List.setIfInBounds_toArray, List.set_cons_zero, List.set_cons_succ]
              refine wpAnyH_take (i := 12) (v := ?_) rfl (by kernel_rfl) (by kernel_rfl) (by kernel_rfl) (fun _ _ _ h => h) (Or.inl ⟨by rfl, ?_⟩) hS ?_
              rotate_left
              · intro v _; go_simp; first | done | with_reducible rfl
              rotate_left
              simp only [List.getElem_toArray, List.getElem_cons_succ, List.getElem_cons_zero, Act.put, List.setIfInBounds_toArray, List.set_cons_zero, List.set_cons_succ]
              refine wpAnyH_take (i := 13) (v := _) rfl (by kernel_rfl) (by kernel_rfl) (by kernel_rfl) (fun _ _ _ h => h) (yieldsIf_prA (by rfl) (.tmp 46) rfl (ad1.add (k * 65)) rfl p hpk.out (fun _ h => h.2.2.1)) hS ?_
              try simp only [List.getElem_toArray, List.getElem_cons_succ, List.getElem_cons_zero, Act.put, List.setIfInBounds_toArray, List.set_cons_zero, List.set_cons_succ]
              refine wpAnyH_take (i := 14) (v := ?_) rfl (by kernel_rfl) (by kernel_rfl) (by kernel_rfl) (fun _ _ _ h => h) (Or.inl ⟨by rfl, ?_⟩) hS ?_
              rotate_left
              · intro v _; go_simp; first | done | with_reducible rfl
              rotate_left
              simp only [List.getElem_toArray, List.getElem_cons_succ, List.getElem_cons_zero, Act.put, List.setIfInBounds_toArray, List.set_cons_zero, List.set_cons_succ]
              refine wpAnyH_take (i := 15) (v := ?_) rfl (by kernel_rfl) (by kernel_rfl) (by kernel_rfl) (fun _ _ _ h => h) (Or.inl ⟨by rfl, ?_⟩) hS ?_
              rotate_left
              · intro v _; go_simp; first | done | with_reducible rfl
              rotate_left
              simp only [List.getElem_toArray, List.getElem_cons_succ, List.getElem_cons_zero, Act.put, List.setIfInBounds_toArray, List.set_cons_zero, List.set_cons_succ]
              refine wpAnyH_take (i := 16) (v := ?_) rfl (by kernel_rfl) (by kernel_rfl) (by kernel_rfl) (fun _ _ _ h => h) (Or.inl ⟨by rfl, ?_⟩) hS ?_
              rotate_left
              · intro v _; go_simp; first | done | with_reducible rfl
              rotate_left
              simp only [List.getElem_toArray, List.getElem_cons_succ, List.getElem_cons_zero, Act.put, List.setIfInBounds_toArray, List.set_cons_zero, List.set_cons_succ]
              refine wpAnyH_take (i := 17) (v := _) rfl (by kernel_rfl) (by kernel_rfl) (by kernel_rfl) (fun _ _ _ h => h) (yieldsIf_prA (by rfl) (.tmp 50) rfl (ad3.add (k * 65)) rfl q hqk.out (fun _ h => h.2.2.2)) hS ?_
              try simp only [List.getElem_toArray, List.getElem_cons_succ, List.getElem_cons_zero, Act.put, List.setIfInBounds_toArray, List.set_cons_zero, List.set_cons_succ]
              refine wpAnyH_take (i := 18) (v := ?_) rfl (by kernel_rfl) (by kernel_rfl) (by kernel_rfl) (fun _ _ _ h => h) (Or.inl ⟨by rfl, ?_⟩) hS ?_
              rotate_left
              · intro v _; go_simp; first | done | with_reducible rfl
              rotate_left
              simp only [List.getElem_toArray, List.getElem_cons_succ, List.getElem_cons_zero, Act.put, List.setIfInBounds_toArray, List.set_cons_zero, List.set_cons_succ]
              refine wpAnyH_take (i := 19) (v := ?_) rfl (by kernel_rfl) (by kernel_rfl) (by kernel_rfl) (fun _ _ _ h => h) (Or.inl ⟨by rfl, ?_⟩) hS ?_
              rotate_left
              · intro v _; go_simp; first | done | with_reducible rfl
              rotate_left
              simp only [List.getElem_toArray, List.getElem_cons_succ, List.getElem_cons_zero, Act.put, List.setIfInBounds_toArray, List.set_cons_zero, List.set_cons_succ]
              refine wpAnyH_done (by kernel_rfl) ?_ _
              clear hS
              cases c2 with
              | true =>
                have HE : Hid (twB (a.drop (k + 1)) (x.drop (k + 1)) (b.drop (k + 1)) (y.drop (k + 1)) = V) := Lib.hid (by simpa using hE2.out)
                clear hE2
                go_wp2_with fail
                refine ⟨⟨k + 1, by go_num, by omega, HE, HB2⟩, by simp [intOf]; omega⟩
              | false =>
                have hVt : true = V := by simpa using hE2.out
                subst hVt
                clear hE2
                go_wp2_with fail
                go_ret
                exact ⟨rfl, HB2.out⟩
            | false =>
              refine wpAnyH_take (i := 10) (v := undef) rfl (by kernel_rfl) (by kernel_rfl) (by kernel_rfl) (fun _ _ _ h => h) (Or.inr ⟨by rfl, rfl⟩) hS ?_
              try simp only [List.getElem_toArray, List.getElem_cons_succ, List.getElem_cons_zero, Act.put, List.setIfInBounds_toArray, List.set_cons_zero, List.set_cons_succ]
              refine wpAnyH_take (i := 11) (v := undef) rfl (by kernel_rfl) (by kernel_rfl) (by kernel_rfl) (fun _ _ _ h => h) (Or.inr ⟨by rfl, rfl⟩) hS ?_
              try simp only [List.getElem_toArray, List.getElem_cons_succ, List.getElem_cons_zero, Act.put, List.setIfInBounds_toArray, List.set_cons_zero, List.set_cons_succ]
              refine wpAnyH_take (i := 12) (v := undef) rfl (by kernel_rfl) (by kernel_rfl) (by kernel_rfl) (fun _ _ _ h => h) (Or.inr ⟨by rfl, rfl⟩) hS ?_
              try simp only [List.getElem_toArray, List.getElem_cons_succ, List.getElem_cons_zero, Act.put, List.setIfInBounds_toArray, List.set_cons_zero, List.set_cons_succ]
              refine wpAnyH_take (i := 13) (v := undef) rfl (by kernel_rfl) (by kernel_rfl) (by kernel_rfl) (fun _ _ _ h => h) (Or.inr ⟨by rfl, rfl⟩) hS ?_
              try simp only [List.getElem_toArray, List.getElem_cons_succ, List.getElem_cons_zero, Act.put, List.setIfInBounds_toArray, List.set_cons_zero, List.set_cons_succ]
              refine wpAnyH_take (i := 14) (v := undef) rfl (by kernel_rfl) (by kernel_rfl) (by kernel_rfl) (fun _ _ _ h => h) (Or.inr ⟨by rfl, rfl⟩) hS ?_
              try simp only [List.getElem_toArray, List.getElem_cons_succ, List.getElem_cons_zero, Act.put, List.setIfInBounds_toArray, List.set_cons_zero, List.set_cons_succ]
              refine wpAnyH_take (i := 15) (v := undef) rfl (by kernel_rfl) (by kernel_rfl) (by kernel_rfl) (fun _ _ _ h => h) (Or.inr ⟨by rfl, rfl⟩) hS ?_
              try simp only [List.getElem_toArray, List.getElem_cons_succ, List.getElem_cons_zero, Act.put, List.setIfInBounds_toArray, List.set_cons_zero, List.set_cons_succ]
              refine wpAnyH_take (i := 16) (v := undef) rfl (by kernel_rfl) (by kernel_rfl) (by kernel_rfl) (fun _ _ _ h => h) (Or.inr ⟨by rfl, rfl⟩) hS ?_
              try simp only [List.getElem_toArray, List.getElem_cons_succ, List.getElem_cons_zero, Act.put, List.setIfInBounds_toArray, List.set_cons_zero, List.set_cons_succ]
              refine wpAnyH_take (i := 17) (v := undef) rfl (by kernel_rfl) (by kernel_rfl) (by kernel_rfl) (fun _ _ _ h => h) (Or.inr ⟨by rfl, rfl⟩) hS ?_
              try simp only [List.getElem_toArray, List.getElem_cons_succ, List.getElem_cons_zero, Act.put, List.setIfInBounds_toArray, List.set_cons_zero, List.set_cons_succ]
              refine wpAnyH_take (i := 18) (v := undef) rfl (by kernel_rfl) (by kernel_rfl) (by kernel_rfl) (fun _ _ _ h => h) (Or.inr ⟨by rfl, rfl⟩) hS ?_
              try simp only [List.getElem_toArray, List.getElem_cons_succ, List.getElem_cons_zero, Act.put, List.setIfInBounds_toArray, List.set_cons_zero, List.set_cons_succ]
              refine wpAnyH_take (i := 19) (v := ?_) rfl (by kernel_rfl) (by kernel_rfl) (by kernel_rfl) (fun _ _ _ h => h) (Or.inl ⟨by rfl, ?_⟩) hS ?_
              rotate_left
              · intro v _; go_simp; first | done | with_reducible rfl
              rotate_left
              simp only [List.getElem_toArray, List.getElem_cons_succ, List.getElem_cons_zero, Act.put, List.setIfInBounds_toArray, List.set_cons_zero, List.set_cons_succ]
              refine wpAnyH_done (by kernel_rfl) ?_ _
              clear hS
              have HE : Hid (twB (a.drop (k + 1)) (x.drop (k + 1)) (b.drop (k + 1)) (y.drop (k + 1)) = V) := Lib.hid (by simpa using hE2.out)
              clear hE2
              go_wp2_with fail
              refine ⟨⟨k + 1, by go_num, by omega, HE, HB2⟩, by simp [intOf]; omega⟩
          · have k4' : ¬ (k : Int) < (y.length : Int) := by omega
            replace HE := HE.out.symm.trans (twB_end a x b y k (by omega))
            subst HE
            go_wp2_with fail
            go_ret
            exact ⟨rfl, HB.out⟩
        · have k2' : ¬ (k : Int) < (x.length : Int) := by omega
          replace HE := HE.out.symm.trans (twB_end a x b y k (by omega))
          subst HE
          go_wp2_with fail
          go_ret
          exact ⟨rfl, HB.out⟩
      · have k3' : ¬ (k : Int) < (b.length : Int) := by omega
        replace HE := HE.out.symm.trans (twB_end a x b y k (by omega))
        subst HE
        go_wp2_with fail
        go_ret
        exact ⟨rfl, HB.out⟩
    · have k1' : ¬ (k : Int) < (a.length : Int) := by omega
      replace HE := HE.out.symm.trans (twB_end a x b y k (by omega))
      subst HE
      go_wp2_with fail
      go_ret
      exact ⟨rfl, HB.out⟩
end Go.Proofs.YtldpnmebjnkjeaaDoor.TrW
namespace Go.Proofs.YtldpnmebjnkjeaaDoor.TrW
open Go.RowKit Go.Proofs.YtldpnmebjnkjeaaDoorW.PrintWords Go.Proofs.YtldpnmebjnkjeaaDoor.PH1 Go.Proofs.YtldpnmebjnkjeaaDoor Go.Proofs.YtldpnmebjnkjeaaDoorW.PrintLast Go.Proofs.YtldpnmebjnkjeaaDoorW.PrintMore
open Go.Proofs.YtldpnmebjnkjeaaDoor.Sha
open Go.Proofs.YtldpnmebjnkjeaaDoor.Ref10 (wp_store_dig wp_load_dig wpOp_wp range_row)
set_option linter.unusedVariables false
set_option linter.unusedSimpArgs false

def L3 : List ByteArray := [⟨#[97]⟩, ⟨#[98]⟩, ⟨#[99]⟩]
def la : List UInt8 := leafP [97]
def lb : List UInt8 := leafP [98]
def lc : List UInt8 := leafP [99]
theorem sp3 : Tr.sp 3 = 2 := by decide
theorem sp2 : Tr.sp 2 = 1 := by decide
theorem root2 : Tr.root alg [[97], [98]] = joinP la lb := by
  rw [Tr.root_join alg _ (by decide)]
  show joinP (Tr.root alg (List.take (Tr.sp 2) _)) (Tr.root alg (List.drop (Tr.sp 2) _)) = _
  rw [sp2]
  show joinP (Tr.root alg [[97]]) (Tr.root alg [[98]]) = _
  rw [Tr.root_one, Tr.root_one]
  rfl
theorem root3 : Tr.root alg (bl L3) = joinP (joinP la lb) lc := by
  show Tr.root alg [[97], [98], [99]] = _
  rw [Tr.root_join alg _ (by decide)]
  show joinP (Tr.root alg (List.take (Tr.sp 3) _)) (Tr.root alg (List.drop (Tr.sp 3) _)) = _
  rw [sp3]
  show joinP (Tr.root alg [[97], [98]]) (Tr.root alg [[99]]) = _
  rw [Tr.root_one, root2]
  rfl
theorem path3 : (Tr.path alg (bl L3) 1).reverse = [la, lc] := by
  show (Tr.path alg [[97], [98], [99]] 1).reverse = _
  rw [Tr.path_left alg _ _ (by decide) (by decide)]
  show (Tr.root alg (List.drop (Tr.sp 3) _) :: Tr.path alg (List.take (Tr.sp 3) _) 1).reverse = _
  rw [sp3]
  show (Tr.root alg [[99]] :: Tr.path alg [[97], [98]] 1).reverse = _
  rw [Tr.path_right alg [[97], [98]] _ (by decide) (by decide), Tr.root_one]
  show (_ :: Tr.root alg (List.take (Tr.sp 2) _) :: Tr.path alg (List.drop (Tr.sp 2) _) (1 - Tr.sp 2)).reverse = _
  rw [sp2]
  show (_ :: Tr.root alg [[97]] :: Tr.path alg [[98]] 0).reverse = _
  rw [Tr.path_small alg _ _ (by decide), Tr.root_one]
  rfl
theorem bridge3 : (Tr.bridge alg (bl L3) 2 true).reverse = [lc] := by
  show (Tr.bridge alg [[97], [98], [99]] 2 true).reverse = _
  rw [Tr.bridge_left alg _ _ _ (by decide) (by decide)]
  show (Tr.root alg (List.drop (Tr.sp 3) _) :: Tr.bridge alg (List.take (Tr.sp 3) _) 2 true).reverse = _
  rw [sp3]
  show (Tr.root alg [[99]] :: Tr.bridge alg [[97], [98]] 2 true).reverse = _
  rw [Tr.bridge_end alg _ _ _ (by decide), Tr.root_one]
  rfl
theorem sides13 : Tr.sides 1 3 = [true, false] := by rw [Tr.sides_left 1 3 (by decide) (by decide), sp3, Tr.sides_right 1 2 (by decide) (by decide), sp2, Tr.sides_small _ _ (by decide)]
theorem sides03 : Tr.sides 0 3 = [true, true] := by rw [Tr.sides_left 0 3 (by decide) (by decide), sp3, Tr.sides_left 0 2 (by decide) (by decide), sp2, Tr.sides_small _ _ (by decide)]
theorem way23 : Tr.way 2 3 = [true] := by rw [Tr.way_left 2 3 (by decide) (by decide), sp3, Tr.way_end _ _ (by decide)]
theorem way13 : Tr.way 1 3 = [true, true] := by rw [Tr.way_left 1 3 (by decide) (by decide), sp3, Tr.way_left 1 2 (by decide) (by decide), sp2, Tr.way_end _ _ (by decide)]
theorem path_t : pathV [98] 1 3 (joinP (joinP la lb) lc) [la, lc] = true := by
  unfold pathV
  refine decT ⟨by decide, by decide, by decide, ?_, ?_⟩
  · show (Tr.sides 1 3).length = _; rw [sides13]; rfl
  · show Tr.last alg _ (Tr.sides 1 3).reverse _ = _; rw [sides13]; rfl
set_option maxRecDepth 100000 in
theorem swap_ne : joinP (joinP lb la) lc ≠ joinP (joinP la lb) lc := by decide +kernel
set_option maxRecDepth 100000 in
theorem ab_ne : la ≠ lb := by decide +kernel
theorem path_f : pathV [98] 0 3 (joinP (joinP la lb) lc) [la, lc] = false := by
  unfold pathV
  refine decF fun h => swap_ne ?_
  have h2 : Tr.last alg (leafP [98]) (Tr.sides 0 3).reverse [la, lc] = joinP (joinP la lb) lc := h.2.2.2.2
  rw [sides03] at h2
  exact h2
theorem bridge_t : bridgeV 2 3 (joinP la lb) (joinP (joinP la lb) lc) [lc] = true := by
  have hw : Tr.whole 2 3 = true := by unfold Tr.whole; rw [way23]; rfl
  unfold bridgeV
  show (decide _ && if Tr.whole 2 3 = true then bridgeE 2 3 _ _ _ _ else _) = true
  rw [hw, if_pos rfl]
  unfold bridgeE
  rw [way23]
  simp [Tr.lastX, Tr.last, Tr.next]
  rfl
theorem bridge_f : bridgeV 1 3 (joinP la lb) (joinP (joinP la lb) lc) [lc] = false := by
  have hw : Tr.whole 1 3 = true := by unfold Tr.whole; rw [way13]; rfl
  unfold bridgeV
  show (decide _ && if Tr.whole 1 3 = true then bridgeE 1 3 _ _ _ _ else _) = false
  rw [hw, if_pos rfl]
  unfold bridgeE
  rw [way13]
  simp
theorem wrong3 : wrongN L3 = 0 := by decide
theorem wrong1025 : wrongN (List.replicate 1025 (⟨#[]⟩ : ByteArray)) = 4 := by
  unfold wrongN
  rw [if_pos (Or.inl (by rw [List.length_replicate]; decide))]
theorem run_buildSlice_dig2 (W : World) (p q : List UInt8) (hp : p.length = 32) (hq : q.length = 32) :
    (Instr.buildSlice 61 2 #[(0, .agg (Lib.byteCells p).toArray), (1, .agg (Lib.byteCells q).toArray)]).run Tryd.prog W = .ok (.slice (some ⟨W.heap.size, 0, none⟩) 2 2) (W.alloc (.cells (Lib.byteCells p ++ Lib.byteCells q).toArray 24)) := by
  obtain ⟨i, hi, hz⟩ := Option.map_eq_some_iff.1 info_digest
  simp only [Prod.mk.injEq] at hz
  obtain ⟨hz0, hz1, hz2⟩ := hz
  unfold Instr.buildSlice
  simp [run_underlying Tryd.underlying61, run_sizeOf W hi, hz1, zeroValue, typeInfo, hi, hz0]
  have hc : Tryd.prog.cellsOf 24 = 32 := by kernel_rfl
  rw [hc, if_neg (by omega), if_neg (by omega)]
  generalize hcs : Array.map _ _ = cells
  have hcl : cells.toList.length = 64 := by rw [← hcs]; simp
  have e1 := fill_seg (fun i => some (i * 32, 32)) 0 0 32 (.agg (Lib.byteCells p).toArray) (Lib.byteCells p) [] (cells.toList.take 32) (cells.toList.drop 32) [(1, .agg (Lib.byteCells q).toArray)] rfl rfl (bc_len hp) (by rw [List.length_take, hcl]; rfl) rfl
  have e2 := fill_seg (fun i => some (i * 32, 32)) 1 32 32 (.agg (Lib.byteCells q).toArray) (Lib.byteCells q) (Lib.byteCells p) (cells.toList.drop 32) [] [] rfl rfl (bc_len hq) (by rw [List.length_drop, hcl]) (bc_len hp)
  simp only [List.nil_append, List.append_nil, List.take_append_drop] at e1 e2
  rw [show cells = cells.toList.toArray by simp, e1, e2, Instr.fill]
  rfl
theorem wpList_buildSlice_dig2 {ops : Array Oper} {rest : List Oper} {o : Oper} {a : Act} {Q : Exit → Act → World → Prop} {W : World} (hgd : o.guard = none) (x y : Operand) (ho : o.op = .buildSlice 61 2 #[(0, x), (1, y)])
    (p q : List UInt8) (hp : p.length = 32) (hq : q.length = 32) (hx : a.eval x = .agg (Lib.byteCells p).toArray) (hy : a.eval y = .agg (Lib.byteCells q).toArray)
    (h : wpList Tryd.prog ops Q rest (a.put o.dst (.slice (some ⟨W.heap.size, 0, none⟩) 2 2)) (W.alloc (.cells (Lib.byteCells p ++ Lib.byteCells q).toArray 24))) : wpList Tryd.prog ops Q (o :: rest) a W := by
  refine wpList_plain hgd fun _ hK => ?_
  unfold Oper.wp execOp
  simp only [ho, List.map_toArray, List.map_cons, List.map_nil, hx, hy]
  rw [Sem.run_bind, run_buildSlice_dig2 W p q hp hq]
  exact hK _ _ h
theorem RD.two {w : World} (p q : List UInt8) (hp : p.length = 32) (hq : q.length = 32) (b : Nat) (hb : b ≤ w.heap.size) : RD b (.slice (some ⟨w.heap.size, 0, none⟩) 2 2) [p, q] (w.alloc (.cells (Lib.byteCells p ++ Lib.byteCells q).toArray 24)) := by
  refine ⟨fun _ _ => trivial, Lib.byteCells p ++ Lib.byteCells q, ?_, ⟨by rw [List.length_append, bc_len hp, bc_len hq]; rfl, fun j z hz => ?_⟩⟩
  · have h2 := World.ownsRow_lit (base := b) (e := 24) (size := 32) w (Lib.byteCells p ++ Lib.byteCells q).toArray 2 hb (by decide) (by simp [bc_len hp, bc_len hq])
    have h3 : (w.alloc (.cells (Lib.byteCells p ++ Lib.byteCells q).toArray 24)).ownsRow b 24 32 (.slice (some ⟨w.heap.size, 0, none⟩) 2 2) 2 (Lib.byteCells p ++ Lib.byteCells q) := by simpa using h2
    exact h3
  · match j with
    | 0 =>
      simp at hz
      subst hz
      rw [Nat.zero_mul, List.drop_zero, List.take_append_of_le_length (by rw [kDig_sz, bc_len hp]; exact Nat.le_refl _), List.take_of_length_le (by rw [kDig_sz, bc_len hp]; exact Nat.le_refl _)]
      exact kDig_M _ _ _ hp
    | 1 =>
      simp at hz
      subst hz
      rw [Nat.one_mul, kDig_sz, List.drop_append_of_le_length (by rw [bc_len hp]; exact Nat.le_refl _), List.drop_of_length_le (by rw [bc_len hp]; exact Nat.le_refl _), List.nil_append, List.take_of_length_le (by rw [bc_len hq]; exact Nat.le_refl _)]
      exact kDig_M _ _ _ hq
    | j + 2 => simp at hz
/-- A row of strings, made. -/
theorem RS.lit {w : World} (L : List ByteArray) (b : Nat) (hb : b ≤ w.heap.size) (hm : L.length ≤ 1000000) (cells : Array Value) (hc : cells.toList = L.map Value.string) : Kd.C Kd.string (w.alloc (.cells cells 9)) (some ⟨w.heap.size, 0, none⟩) L.length L := by
  have h2 := World.ownsRow_lit (base := b) (e := 9) (size := 1) w cells L.length hb (by unfold maxLen; omega) (by rw [← Array.length_toList, hc, List.length_map, Nat.mul_one])
  have h3 := Kd.R_of_own (enc := Value.string) (h1 := fun _ => rfl) (e := 9) (base := b) (ok := fun _ => True) (w := w.alloc (.cells cells 9)) (v := .slice (some ⟨w.heap.size, 0, none⟩) L.length L.length) (xs := L) (by rw [hc] at h2; exact h2) (fun _ _ => trivial)
  obtain ⟨A, c, hv, hcc, hC⟩ := Kd.R_reads h3
  cases hv
  exact hC
end Go.Proofs.YtldpnmebjnkjeaaDoor.TrW
namespace Go.Proofs.YtldpnmebjnkjeaaDoor.TrW
open Go.RowKit Go.Proofs.YtldpnmebjnkjeaaDoorW.PrintWords Go.Proofs.YtldpnmebjnkjeaaDoor.PH1 Go.Proofs.YtldpnmebjnkjeaaDoor Go.Proofs.YtldpnmebjnkjeaaDoorW.PrintLast Go.Proofs.YtldpnmebjnkjeaaDoorW.PrintMore
open Go.Proofs.YtldpnmebjnkjeaaDoor.Sha
open Go.Proofs.YtldpnmebjnkjeaaDoor.Ref10 (wp_store_dig wp_load_dig wpOp_wp range_row)
set_option linter.unusedVariables false
set_option linter.unusedSimpArgs false
def S2d (b : Nat) (x : List UInt8) (c : Nat) (y : List UInt8) (W : World) : Prop := DigAt b x W ∧ DigAt c y W
set_option maxHeartbeats 16000000 in
set_option maxRecDepth 100000 in
theorem alive_calls (w : World) (hK : KAt w) : Calls Tryd.prog 30 #[] w fun e w' => e = .returned (.bool true) ∧ Below w.heap.size w w' := by
  have kla := fun W hk => tleaf_calls ⟨#[97]⟩ (by decide) W hk
  have klb := fun W hk => tleaf_calls ⟨#[98]⟩ (by decide) W hk
  have klc := fun W hk => tleaf_calls ⟨#[99]⟩ (by decide) W hk
  have hla : la.length = 32 := sumL_len _
  have hlb : lb.length = 32 := sumL_len _
  have hlc : lc.length = 32 := sumL_len _
  have htw : (joinP la lb).length = 32 := sumL_len _
  have hrt : (joinP (joinP la lb) lc).length = 32 := sumL_len _
  have kjab := fun W hk => tjoin_calls la lb hla hlb W hk
  have kjr := fun W hk => tjoin_calls (joinP la lb) lc htw hlc W hk
  have kroot := fun (A : Option Addr) (c : Nat) (W : World) (h : Kd.C Kd.string W A 3 L3) hk => tRoot_ok A 3 L3 W h (Nat.le_refl _) wrong3 hk
  have kpath := fun (A : Option Addr) (c : Nat) (W : World) (h : Kd.C Kd.string W A 3 L3) hk => tPath_ok A 3 L3 1 W h (Nat.le_refl _) wrong3 (by decide) hk
  have kbrid := fun (A : Option Addr) (c : Nat) (W : World) (h : Kd.C Kd.string W A 3 L3) hk => tBridge_ok A 3 L3 2 W h (Nat.le_refl _) wrong3 (by decide) (by decide) hk
  have kpath3 := fun (A : Option Addr) (c : Nat) (W : World) (h : Kd.C Kd.string W A 3 L3) => tPath_arg A 3 L3 3 W h wrong3 (by decide)
  have kbrid0 := fun (A : Option Addr) (c : Nat) (W : World) (h : Kd.C Kd.string W A 3 L3) => tBridge_arg A 3 L3 0 W h wrong3 (by decide)
  have hpt := path_t
  have hpf := path_f
  have hbt := bridge_t
  have hbf := bridge_f
  rw [root3] at kroot
  rw [path3] at kpath
  rw [bridge3] at kbrid
  have hcp1 := fun (r : List UInt8) (hr : r.length = 32) (A : Option Addr) (c : Nat) (W : World) (hC : CD A [la, lc] W) (hc : 2 ≤ c) hk => tCheckPath_calls ⟨#[98]⟩ (by decide) 1 3 r hr [la, lc] A c W hC hc hk
  have hcp0 := fun (r : List UInt8) (hr : r.length = 32) (A : Option Addr) (c : Nat) (W : World) (hC : CD A [la, lc] W) (hc : 2 ≤ c) hk => tCheckPath_calls ⟨#[98]⟩ (by decide) 0 3 r hr [la, lc] A c W hC hc hk
  have hcb2 := fun (A : Option Addr) (c : Nat) (W : World) (hC : CD A [lc] W) (hc : 1 ≤ c) hk => tCheckBridge_calls 2 3 _ _ htw hrt [lc] A c W hC hc hk
  have hcb1 := fun (A : Option Addr) (c : Nat) (W : World) (hC : CD A [lc] W) (hc : 1 ≤ c) hk => tCheckBridge_calls 1 3 _ _ htw hrt [lc] A c W hC hc hk
  rw [hbt] at hcb2
  rw [hbf] at hcb1
  replace hcp1 := hcp1 _ hrt
  replace hcp0 := hcp0 _ hrt
  have e98 : (⟨#[98]⟩ : ByteArray).data.toList = [98] := rfl
  rw [e98, hpt] at hcp1
  rw [e98, hpf] at hcp0
  have hne := ab_ne
  rw [show leafP (⟨#[97]⟩ : ByteArray).data.toList = la from rfl] at kla
  rw [show leafP (⟨#[98]⟩ : ByteArray).data.toList = lb from rfl] at klb
  rw [show leafP (⟨#[99]⟩ : ByteArray).data.toList = lc from rfl] at klc
  clear hpt hpf hbt hbf e98
  generalize joinP (joinP la lb) lc = R at *
  generalize joinP la lb = T at *
  generalize la = ya at *
  generalize lb = yb at *
  generalize lc = yc at *
  have heq : ∀ W : World, (Op.equalIn 10000 24 (.agg (Lib.byteCells ya).toArray) (.agg (Lib.byteCells yb).toArray)).run Tryd.prog W = .ok false W := fun W => by
    rw [eq32 W ya yb hla hlb, decF hne]
  have heqr : ∀ W : World, (Op.equalIn 10000 24 (.agg (Lib.byteCells R).toArray) (.agg (Lib.byteCells R).toArray)).run Tryd.prog W = .ok true W := fun W => by
    rw [eq32 W R R hrt hrt, decT rfl]
  replace hla := Lib.hid hla
  replace hlb := Lib.hid hlb
  replace hlc := Lib.hid hlc
  replace htw := Lib.hid htw
  replace hrt := Lib.hid hrt
  replace hne := Lib.hid hne
  replace heq := Lib.hid heq
  replace heqr := Lib.hid heqr
  replace kla := Lib.hid kla
  replace klb := Lib.hid klb
  replace klc := Lib.hid klc
  replace kjab := Lib.hid kjab
  replace kjr := Lib.hid kjr
  replace kroot := Lib.hid kroot
  replace kpath := Lib.hid kpath
  replace kbrid := Lib.hid kbrid
  replace kpath3 := Lib.hid kpath3
  replace kbrid0 := Lib.hid kbrid0
  replace hcp1 := Lib.hid hcp1
  replace hcp0 := Lib.hid hcp0
  replace hcb2 := Lib.hid hcb2
  replace hcb1 := Lib.hid hcb1
  go_enter Tryd.func30, Tryd.ntmps30
  go_upto_region 2 with fail
  generalize hw1 : w.alloc _ = w1
  have HC : Hid (Kd.C Kd.string w1 (some ⟨w.heap.size, 0, none⟩) 3 L3) := by
    rw [← hw1]; exact Lib.hid (RS.lit L3 _ (Nat.le_refl _) (by decide) _ rfl)
  have HB : Hid (Below w.heap.size w w1) := by
    rw [← hw1]; exact Lib.hid ((Below.refl _ _).alloc (Nat.le_refl _) _)
  have HK : Hid (KAt w1) := Lib.hid (hK.below HB.out)
  clear hw1 hK
  obtain ⟨A1, hA1⟩ : ∃ A, A = some (⟨w.heap.size, 0, none⟩ : Addr) := ⟨_, rfl⟩
  rw [← hA1] at HC ⊢
  replace hA1 := Lib.hid hA1
  go_wp2_with fail
  refine (kroot.out A1 0 w1 HC.out HK.out).mono ?_
  rintro e w2 ⟨rfl, hb_⟩
  replace HC := Lib.hid (Kd.C_below HC.out hb_)
  replace HK := Lib.hid (HK.out.below hb_)
  replace HB := Lib.hid (HB.out.trans (Below.mono hb_ HB.out.size))
  clear hb_
  go_upto_region 3 with (guard_target = wpList _ _ _ (⟨none, _, _, _, _, _⟩ :: _) _ _; refine wpList_store_dig rfl (.tmp 2) (.tmp 21) rfl w2.heap.size rfl R hrt.out rfl _ _ (heap_alloc_last _ _) zrow ?_; intro w3 h3 _ hB3)
  have hb3 : Below w2.heap.size w2 w3 := hB3 ((Below.refl _ _).alloc (Nat.le_refl _) _) (Nat.le_refl _)
  have H2 : Hid (DigAt w2.heap.size R w3) := h3
  replace HC := Lib.hid (Kd.C_below HC.out hb3)
  replace HK := Lib.hid (HK.out.below hb3)
  replace HB := Lib.hid (HB.out.trans (Below.mono hb3 HB.out.size))
  clear hb3 hB3 h3
  generalize w2.heap.size = b2 at H2 ⊢
  go_wp2_with fail
  refine (kpath.out A1 0 w3 HC.out HK.out).mono ?_
  rintro e w4 ⟨v, rfl, hv, hb_⟩
  obtain ⟨A4, c4, rfl, hc4, H4⟩ := hv.reads
  replace H4 := Lib.hid H4
  replace hc4 := Lib.hid hc4
  replace HC := Lib.hid (Kd.C_below HC.out hb_)
  replace HK := Lib.hid (HK.out.below hb_)
  replace HB := Lib.hid (HB.out.trans (Below.mono hb_ HB.out.size))
  replace H2 := Lib.hid (DigAt.below H2.out hb_)
  clear hb_ hv
  go_wp2_with fail
  refine (kbrid.out A1 0 w4 HC.out HK.out).mono ?_
  rintro e w5 ⟨v, rfl, hv, hb_⟩
  obtain ⟨A6, c6, rfl, hc6, H6⟩ := hv.reads
  replace H6 := Lib.hid H6
  replace hc6 := Lib.hid hc6
  replace HC := Lib.hid (Kd.C_below HC.out hb_)
  replace HK := Lib.hid (HK.out.below hb_)
  replace HB := Lib.hid (HB.out.trans (Below.mono hb_ HB.out.size))
  replace H2 := Lib.hid (DigAt.below H2.out hb_)
  replace H4 := Lib.hid (CD.below H4.out hb_)
  clear hb_ hv
  go_wp2_with fail
  refine (kla.out w5 HK.out).mono ?_
  rintro e w6 ⟨rfl, hb_⟩
  replace HC := Lib.hid (Kd.C_below HC.out hb_)
  replace HK := Lib.hid (HK.out.below hb_)
  replace HB := Lib.hid (HB.out.trans (Below.mono hb_ HB.out.size))
  replace H2 := Lib.hid (DigAt.below H2.out hb_)
  replace H4 := Lib.hid (CD.below H4.out hb_)
  replace H6 := Lib.hid (CD.below H6.out hb_)
  clear hb_
  go_wp2_with fail
  refine (klb.out w6 HK.out).mono ?_
  rintro e w7 ⟨rfl, hb_⟩
  replace HC := Lib.hid (Kd.C_below HC.out hb_)
  replace HK := Lib.hid (HK.out.below hb_)
  replace HB := Lib.hid (HB.out.trans (Below.mono hb_ HB.out.size))
  replace H2 := Lib.hid (DigAt.below H2.out hb_)
  replace H4 := Lib.hid (CD.below H4.out hb_)
  replace H6 := Lib.hid (CD.below H6.out hb_)
  clear hb_
  go_wp2_with fail
  refine (kjab.out w7 HK.out).mono ?_
  rintro e w8 ⟨rfl, hb_⟩
  replace HC := Lib.hid (Kd.C_below HC.out hb_)
  replace HK := Lib.hid (HK.out.below hb_)
  replace HB := Lib.hid (HB.out.trans (Below.mono hb_ HB.out.size))
  replace H2 := Lib.hid (DigAt.below H2.out hb_)
  replace H4 := Lib.hid (CD.below H4.out hb_)
  replace H6 := Lib.hid (CD.below H6.out hb_)
  clear hb_
  go_upto_region 6 with (guard_target = wpList _ _ _ (⟨none, _, _, _, _, _⟩ :: _) _ _; refine wpList_store_dig rfl (.tmp 8) (.tmp 35) rfl w8.heap.size rfl T htw.out rfl _ _ (heap_alloc_last _ _) zrow ?_; intro w9 h9 _ hB9)
  have hb9 : Below w8.heap.size w8 w9 := hB9 ((Below.refl _ _).alloc (Nat.le_refl _) _) (Nat.le_refl _)
  have H8 : Hid (DigAt w8.heap.size T w9) := h9
  replace HC := Lib.hid (Kd.C_below HC.out hb9)
  replace HK := Lib.hid (HK.out.below hb9)
  replace HB := Lib.hid (HB.out.trans (Below.mono hb9 HB.out.size))
  replace H2 := Lib.hid (DigAt.below H2.out hb9)
  replace H4 := Lib.hid (CD.below H4.out hb9)
  replace H6 := Lib.hid (CD.below H6.out hb9)
  clear hb9 hB9 h9
  generalize w8.heap.size = b8 at H8 ⊢
  go_wp2_with fail
  refine (kpath3.out A1 0 w9 HC.out).mono ?_
  rintro e w10 ⟨rfl, hb_⟩
  replace HC := Lib.hid (Kd.C_below HC.out hb_)
  replace HK := Lib.hid (HK.out.below hb_)
  replace HB := Lib.hid (HB.out.trans (Below.mono hb_ HB.out.size))
  replace H2 := Lib.hid (DigAt.below H2.out hb_)
  replace H4 := Lib.hid (CD.below H4.out hb_)
  replace H6 := Lib.hid (CD.below H6.out hb_)
  replace H8 := Lib.hid (DigAt.below H8.out hb_)
  clear hb_
  go_wp2_with fail
  refine (kbrid0.out A1 0 w10 HC.out).mono ?_
  rintro e w11 ⟨rfl, hb_⟩
  replace HC := Lib.hid (Kd.C_below HC.out hb_)
  replace HK := Lib.hid (HK.out.below hb_)
  replace HB := Lib.hid (HB.out.trans (Below.mono hb_ HB.out.size))
  replace H2 := Lib.hid (DigAt.below H2.out hb_)
  replace H4 := Lib.hid (CD.below H4.out hb_)
  replace H6 := Lib.hid (CD.below H6.out hb_)
  replace H8 := Lib.hid (DigAt.below H8.out hb_)
  clear hb_
  go_wp2_with (guard_target = wpList _ _ _ (⟨some 47, _, _, _, _, _⟩ :: _) _ _; refine Kd.R_make Kd.string w.heap.size 9 rfl rfl 53 _ _ rfl 1025 rfl rfl und_strs (.string ⟨#[]⟩) 16 (by kernel_rfl) rfl (by decide) (by decide) ⟨#[]⟩ (ok := fun _ => True) (okp := fun _ => False) rfl (fun _ h => h.elim) trivial (by decide) (by decide) HB.out HB.out.size ?_; intro v12 w12 HR HB12 hg12 _)
  have hb12 : Below w11.heap.size w11 w12 := pw_below_grown (Below.refl _ _) none (Nat.le_refl _) hg12 (fun _ h => by cases h)
  replace HC := Lib.hid (Kd.C_below HC.out hb12)
  replace HK := Lib.hid (HK.out.below hb12)
  replace HB := Lib.hid (HB.out.trans (Below.mono hb12 HB.out.size))
  replace H2 := Lib.hid (DigAt.below H2.out hb12)
  replace H4 := Lib.hid (CD.below H4.out hb12)
  replace H6 := Lib.hid (CD.below H6.out hb12)
  replace H8 := Lib.hid (DigAt.below H8.out hb12)
  clear hb12 hg12 HB12
  obtain ⟨A12, c12, rfl, hc12, HC12⟩ := Kd.R_reads HR
  rw [show (1025 : Int).toNat = 1025 from rfl] at HC12 hc12 ⊢
  rw [List.length_replicate] at hc12 ⊢
  have kbad := tRoot_bad A12 c12 (List.replicate 1025 ⟨#[]⟩) w12 HC12 wrong1025
  rw [List.length_replicate] at kbad
  replace kbad := Lib.hid kbad
  clear HR HC12 hc12
  go_wp2_with fail
  refine (kbad.out).mono ?_
  rintro e w13 ⟨rfl, hb_⟩
  replace HC := Lib.hid (Kd.C_below HC.out hb_)
  replace HK := Lib.hid (HK.out.below hb_)
  replace HB := Lib.hid (HB.out.trans (Below.mono hb_ HB.out.size))
  replace H2 := Lib.hid (DigAt.below H2.out hb_)
  replace H4 := Lib.hid (CD.below H4.out hb_)
  replace H6 := Lib.hid (CD.below H6.out hb_)
  replace H8 := Lib.hid (DigAt.below H8.out hb_)
  clear hb_
  clear kbad
  go_upto_region 9 with (guard_target = wpList _ _ _ (⟨none, _, _, _, _, _⟩ :: _) _ _; refine wpList_store_dig rfl (.tmp 13) (.tmp 49) rfl w13.heap.size rfl (List.replicate 32 0) rfl rfl _ _ (heap_alloc_last _ _) zrow ?_; intro w14 h14 _ hB14)
  have hb14 : Below w13.heap.size w13 w14 := hB14 ((Below.refl _ _).alloc (Nat.le_refl _) _) (Nat.le_refl _)
  replace HC := Lib.hid (Kd.C_below HC.out hb14)
  replace HK := Lib.hid (HK.out.below hb14)
  replace HB := Lib.hid (HB.out.trans (Below.mono hb14 HB.out.size))
  replace H2 := Lib.hid (DigAt.below H2.out hb14)
  replace H4 := Lib.hid (CD.below H4.out hb14)
  replace H6 := Lib.hid (CD.below H6.out hb14)
  replace H8 := Lib.hid (DigAt.below H8.out hb14)
  clear hb14 hB14 h14
  generalize w13.heap.size = b13
  go_wp2_with fail
  refine (kla.out w14 HK.out).mono ?_
  rintro e w15 ⟨rfl, hb_⟩
  replace HC := Lib.hid (Kd.C_below HC.out hb_)
  replace HK := Lib.hid (HK.out.below hb_)
  replace HB := Lib.hid (HB.out.trans (Below.mono hb_ HB.out.size))
  replace H2 := Lib.hid (DigAt.below H2.out hb_)
  replace H4 := Lib.hid (CD.below H4.out hb_)
  replace H6 := Lib.hid (CD.below H6.out hb_)
  replace H8 := Lib.hid (DigAt.below H8.out hb_)
  clear hb_
  go_wp2_with fail
  refine (klc.out w15 HK.out).mono ?_
  rintro e w16 ⟨rfl, hb_⟩
  replace HC := Lib.hid (Kd.C_below HC.out hb_)
  replace HK := Lib.hid (HK.out.below hb_)
  replace HB := Lib.hid (HB.out.trans (Below.mono hb_ HB.out.size))
  replace H2 := Lib.hid (DigAt.below H2.out hb_)
  replace H4 := Lib.hid (CD.below H4.out hb_)
  replace H6 := Lib.hid (CD.below H6.out hb_)
  replace H8 := Lib.hid (DigAt.below H8.out hb_)
  clear hb_
  go_wp2_with (guard_target = wpList _ _ _ (⟨some 54, _, _, _, _, _⟩ :: _) _ _; refine wpList_buildSlice_dig2 rfl (.tmp 52) (.tmp 53) rfl ya yc hla.out hlc.out rfl rfl ?_)
  generalize hw17 : w16.alloc _ = w17
  have HR : RD w16.heap.size (.slice (some ⟨w16.heap.size, 0, none⟩) 2 2) [ya, yc] w17 := by
    rw [← hw17]; exact RD.two ya yc hla.out hlc.out _ (Nat.le_refl _)
  have hb17 : Below w16.heap.size w16 w17 := by rw [← hw17]; exact (Below.refl _ _).alloc (Nat.le_refl _) _
  replace HC := Lib.hid (Kd.C_below HC.out hb17)
  replace HK := Lib.hid (HK.out.below hb17)
  replace HB := Lib.hid (HB.out.trans (Below.mono hb17 HB.out.size))
  replace H2 := Lib.hid (DigAt.below H2.out hb17)
  replace H4 := Lib.hid (CD.below H4.out hb17)
  replace H6 := Lib.hid (CD.below H6.out hb17)
  replace H8 := Lib.hid (DigAt.below H8.out hb17)
  clear hw17 hb17
  obtain ⟨A17, c17, hv17, hc17, H17⟩ := HR.reads
  rw [hv17]
  clear hv17 HR
  have ksame := same_calls A4 A17 c4 c17 [ya, yc] [ya, yc] w17 H4.out H17
  rw [decT rfl] at ksame
  replace ksame := Lib.hid ksame
  clear H17 hc17
  refine (ksame.out).mono ?_
  rintro e w18 ⟨rfl, hb_⟩
  replace HC := Lib.hid (Kd.C_below HC.out hb_)
  replace HK := Lib.hid (HK.out.below hb_)
  replace HB := Lib.hid (HB.out.trans (Below.mono hb_ HB.out.size))
  replace H2 := Lib.hid (DigAt.below H2.out hb_)
  replace H4 := Lib.hid (CD.below H4.out hb_)
  replace H6 := Lib.hid (CD.below H6.out hb_)
  replace H8 := Lib.hid (DigAt.below H8.out hb_)
  clear hb_
  clear ksame
  go_wp2_with fail
  refine (klc.out w18 HK.out).mono ?_
  rintro e w19 ⟨rfl, hb_⟩
  replace HC := Lib.hid (Kd.C_below HC.out hb_)
  replace HK := Lib.hid (HK.out.below hb_)
  replace HB := Lib.hid (HB.out.trans (Below.mono hb_ HB.out.size))
  replace H2 := Lib.hid (DigAt.below H2.out hb_)
  replace H4 := Lib.hid (CD.below H4.out hb_)
  replace H6 := Lib.hid (CD.below H6.out hb_)
  replace H8 := Lib.hid (DigAt.below H8.out hb_)
  clear hb_
  go_wp2_with (guard_target = wpList _ _ _ (⟨some 58, _, _, _, _, _⟩ :: _) _ _; refine wpList_buildSlice_dig rfl (.tmp 57) rfl yc hlc.out rfl ?_)
  generalize hw20 : w19.alloc _ = w20
  have HR : RD w19.heap.size (.slice (some ⟨w19.heap.size, 0, none⟩) 1 1) [yc] w20 := by
    rw [← hw20]; exact RD.one yc hlc.out _ (Nat.le_refl _)
  have hb20 : Below w19.heap.size w19 w20 := by rw [← hw20]; exact (Below.refl _ _).alloc (Nat.le_refl _) _
  replace HC := Lib.hid (Kd.C_below HC.out hb20)
  replace HK := Lib.hid (HK.out.below hb20)
  replace HB := Lib.hid (HB.out.trans (Below.mono hb20 HB.out.size))
  replace H2 := Lib.hid (DigAt.below H2.out hb20)
  replace H4 := Lib.hid (CD.below H4.out hb20)
  replace H6 := Lib.hid (CD.below H6.out hb20)
  replace H8 := Lib.hid (DigAt.below H8.out hb20)
  clear hw20 hb20
  obtain ⟨A20, c20, hv20, hc20, H20⟩ := HR.reads
  rw [hv20]
  clear hv20 HR
  have ksame := same_calls A6 A20 c6 c20 [yc] [yc] w20 H6.out H20
  rw [decT rfl] at ksame
  replace ksame := Lib.hid ksame
  clear H20 hc20
  refine (ksame.out).mono ?_
  rintro e w21 ⟨rfl, hb_⟩
  replace HC := Lib.hid (Kd.C_below HC.out hb_)
  replace HK := Lib.hid (HK.out.below hb_)
  replace HB := Lib.hid (HB.out.trans (Below.mono hb_ HB.out.size))
  replace H2 := Lib.hid (DigAt.below H2.out hb_)
  replace H4 := Lib.hid (CD.below H4.out hb_)
  replace H6 := Lib.hid (CD.below H6.out hb_)
  replace H8 := Lib.hid (DigAt.below H8.out hb_)
  clear hb_
  clear ksame
  go_wp2_with fail
  refine wp_region_held (S := S2d b2 R b8 T) (by kernel_rfl) ?_
  change wpAnyH _ _ _ _ _ _ _ _ w21.drew
  replace HC : Hid (Kd.C Kd.string w21.drew A1 3 L3) := HC
  replace HK : Hid (KAt w21.drew) := HK
  replace HB := Lib.hid HB.out.drew
  replace H2 : Hid (DigAt b2 R w21.drew) := H2
  replace H8 : Hid (DigAt b8 T w21.drew) := H8
  replace H4 : Hid (CD A4 [ya, yc] w21.drew) := H4
  replace H6 : Hid (CD A6 [yc] w21.drew) := H6
  generalize w21.drew = x21 at HC HK HB H2 H8 H4 H6 ⊢
  have hS : S2d b2 R b8 T x21 := ⟨H2.out, H8.out⟩
  refine wpAnyH_take (i := 0) (v := ?_) rfl (by kernel_rfl) (by kernel_rfl) (by kernel_rfl) (fun _ _ _ h => h) (Or.inl ⟨by rfl, ?_⟩) hS ?_
  rotate_left
  · intro v _; go_simp; first | done | with_reducible rfl
  rotate_left
  simp only [List.getElem_toArray, List.getElem_cons_succ, List.getElem_cons_zero, Act.put, List.setIfInBounds_toArray, List.set_cons_zero, List.set_cons_succ]
  refine wpAnyH_take (i := 1) (v := ?_) rfl (by kernel_rfl) (by kernel_rfl) (by kernel_rfl) (fun _ _ _ h => h) (Or.inl ⟨by rfl, ?_⟩) hS ?_
  rotate_left
  · intro v _; go_simp; first | done | with_reducible rfl
  rotate_left
  simp only [List.getElem_toArray, List.getElem_cons_succ, List.getElem_cons_zero, Act.put, List.setIfInBounds_toArray, List.set_cons_zero, List.set_cons_succ]
  refine wpAnyH_take (i := 2) (v := ?_) rfl (by kernel_rfl) (by kernel_rfl) (by kernel_rfl) (fun _ _ _ h => h) (Or.inl ⟨by rfl, ?_⟩) hS ?_
  rotate_left
  · intro v _; go_simp; first | done | with_reducible rfl
  rotate_left
  simp only [List.getElem_toArray, List.getElem_cons_succ, List.getElem_cons_zero, Act.put, List.setIfInBounds_toArray, List.set_cons_zero, List.set_cons_succ]
  refine wpAnyH_take (i := 3) (v := _) rfl (by kernel_rfl) (by kernel_rfl) (by kernel_rfl) (fun _ _ _ h => h) (yieldsIf_digA (by rfl) (.tmp 2) rfl ⟨b2,0,none⟩ rfl R hrt.out (fun _ h => (DigAt.ad h.1))) hS ?_
  try simp only [List.getElem_toArray, List.getElem_cons_succ, List.getElem_cons_zero, Act.put, List.setIfInBounds_toArray, List.set_cons_zero, List.set_cons_succ]
  refine wpAnyH_take (i := 4) (v := _) rfl (by kernel_rfl) (by kernel_rfl) (by kernel_rfl) (fun _ _ _ h => h) (yieldsIf_digA (by rfl) (.tmp 8) rfl ⟨b8,0,none⟩ rfl T htw.out (fun _ h => (DigAt.ad h.2))) hS ?_
  try simp only [List.getElem_toArray, List.getElem_cons_succ, List.getElem_cons_zero, Act.put, List.setIfInBounds_toArray, List.set_cons_zero, List.set_cons_succ]
  refine wpAnyH_all (rs := [5]) (by kernel_rfl) (by simp) ?_
  intro i hi
  simp only [List.mem_cons, List.not_mem_nil, or_false] at hi
  subst hi
  refine wpOp_wp rfl (by rfl) ?_
  go_simp
  refine (klc.out x21 HK.out).mono ?_
  rintro e x22 ⟨rfl, hb_⟩
  replace HC := Lib.hid (Kd.C_below HC.out hb_)
  replace HK := Lib.hid (HK.out.below hb_)
  replace HB := Lib.hid (HB.out.trans (Below.mono hb_ HB.out.size))
  replace H2 := Lib.hid (DigAt.below H2.out hb_)
  replace H4 := Lib.hid (CD.below H4.out hb_)
  replace H6 := Lib.hid (CD.below H6.out hb_)
  replace H8 := Lib.hid (DigAt.below H8.out hb_)
  clear hb_ hS
  have hS : S2d b2 R b8 T x22 := ⟨H2.out, H8.out⟩
  refine ⟨hS, ?_⟩
  try simp only [List.getElem_toArray, List.getElem_cons_succ, List.getElem_cons_zero, Act.put, List.setIfInBounds_toArray, List.set_cons_zero, List.set_cons_succ]
  refine wpAnyH_all (rs := [6]) (by kernel_rfl) (by simp) ?_
  intro i hi
  simp only [List.mem_cons, List.not_mem_nil, or_false] at hi
  subst hi
  refine wpOp_wp rfl (by rfl) ?_
  go_simp
  refine (kjr.out x22 HK.out).mono ?_
  rintro e x23 ⟨rfl, hb_⟩
  replace HC := Lib.hid (Kd.C_below HC.out hb_)
  replace HK := Lib.hid (HK.out.below hb_)
  replace HB := Lib.hid (HB.out.trans (Below.mono hb_ HB.out.size))
  replace H2 := Lib.hid (DigAt.below H2.out hb_)
  replace H4 := Lib.hid (CD.below H4.out hb_)
  replace H6 := Lib.hid (CD.below H6.out hb_)
  replace H8 := Lib.hid (DigAt.below H8.out hb_)
  clear hb_ hS
  have hS : S2d b2 R b8 T x23 := ⟨H2.out, H8.out⟩
  refine ⟨hS, ?_⟩
  try simp only [List.getElem_toArray, List.getElem_cons_succ, List.getElem_cons_zero, Act.put, List.setIfInBounds_toArray, List.set_cons_zero, List.set_cons_succ]
  have heqR := heqr.out
  refine wpAnyH_take (i := 7) (v := ?_) rfl (by kernel_rfl) (by kernel_rfl) (by kernel_rfl) (fun _ _ _ h => h) (Or.inl ⟨by rfl, ?_⟩) hS ?_
  rotate_left
  · intro v _; go_simp; first | done | with_reducible rfl
  rotate_left
  simp only [List.getElem_toArray, List.getElem_cons_succ, List.getElem_cons_zero, Act.put, List.setIfInBounds_toArray, List.set_cons_zero, List.set_cons_succ]
  clear heqR
  refine wpAnyH_take (i := 8) (v := ?_) rfl (by kernel_rfl) (by kernel_rfl) (by kernel_rfl) (fun _ _ _ h => h) (Or.inl ⟨by rfl, ?_⟩) hS ?_
  rotate_left
  · intro v _; go_simp; first | done | with_reducible rfl
  rotate_left
  simp only [List.getElem_toArray, List.getElem_cons_succ, List.getElem_cons_zero, Act.put, List.setIfInBounds_toArray, List.set_cons_zero, List.set_cons_succ]
  refine wpAnyH_take (i := 9) (v := ?_) rfl (by kernel_rfl) (by kernel_rfl) (by kernel_rfl) (fun _ _ _ h => h) (Or.inl ⟨by rfl, ?_⟩) hS ?_
  rotate_left
  · intro v _; go_simp; first | done | with_reducible rfl
  rotate_left
  simp only [List.getElem_toArray, List.getElem_cons_succ, List.getElem_cons_zero, Act.put, List.setIfInBounds_toArray, List.set_cons_zero, List.set_cons_succ]
  refine wpAnyH_take (i := 10) (v := ?_) rfl (by kernel_rfl) (by kernel_rfl) (by kernel_rfl) (fun _ _ _ h => h) (Or.inl ⟨by rfl, ?_⟩) hS ?_
  rotate_left
  · intro v _; go_simp; first | done | with_reducible rfl
  rotate_left
  simp only [List.getElem_toArray, List.getElem_cons_succ, List.getElem_cons_zero, Act.put, List.setIfInBounds_toArray, List.set_cons_zero, List.set_cons_succ]
  refine wpAnyH_take (i := 11) (v := ?_) rfl (by kernel_rfl) (by kernel_rfl) (by kernel_rfl) (fun _ _ _ h => h) (Or.inl ⟨by rfl, ?_⟩) hS ?_
  rotate_left
  · intro v _; go_simp; first | done | with_reducible rfl
  rotate_left
  simp only [List.getElem_toArray, List.getElem_cons_succ, List.getElem_cons_zero, Act.put, List.setIfInBounds_toArray, List.set_cons_zero, List.set_cons_succ]
  refine wpAnyH_take (i := 12) (v := ?_) rfl (by kernel_rfl) (by kernel_rfl) (by kernel_rfl) (fun _ _ _ h => h) (Or.inl ⟨by rfl, ?_⟩) hS ?_
  rotate_left
  · intro v _; go_simp; first | done | with_reducible rfl
  rotate_left
  simp only [List.getElem_toArray, List.getElem_cons_succ, List.getElem_cons_zero, Act.put, List.setIfInBounds_toArray, List.set_cons_zero, List.set_cons_succ]
  refine wpAnyH_take (i := 13) (v := ?_) rfl (by kernel_rfl) (by kernel_rfl) (by kernel_rfl) (fun _ _ _ h => h) (Or.inl ⟨by rfl, ?_⟩) hS ?_
  rotate_left
  · intro v _; go_simp; first | done | with_reducible rfl
  rotate_left
  simp only [List.getElem_toArray, List.getElem_cons_succ, List.getElem_cons_zero, Act.put, List.setIfInBounds_toArray, List.set_cons_zero, List.set_cons_succ]
  refine wpAnyH_take (i := 14) (v := ?_) rfl (by kernel_rfl) (by kernel_rfl) (by kernel_rfl) (fun _ _ _ h => h) (Or.inl ⟨by rfl, ?_⟩) hS ?_
  rotate_left
  · intro v _; go_simp; first | done | with_reducible rfl
  rotate_left
  simp only [List.getElem_toArray, List.getElem_cons_succ, List.getElem_cons_zero, Act.put, List.setIfInBounds_toArray, List.set_cons_zero, List.set_cons_succ]
  refine wpAnyH_take (i := 15) (v := ?_) rfl (by kernel_rfl) (by kernel_rfl) (by kernel_rfl) (fun _ _ _ h => h) (Or.inl ⟨by rfl, ?_⟩) hS ?_
  rotate_left
  · intro v _; go_simp; first | done | with_reducible rfl
  rotate_left
  simp only [List.getElem_toArray, List.getElem_cons_succ, List.getElem_cons_zero, Act.put, List.setIfInBounds_toArray, List.set_cons_zero, List.set_cons_succ]
  refine wpAnyH_take (i := 16) (v := ?_) rfl (by kernel_rfl) (by kernel_rfl) (by kernel_rfl) (fun _ _ _ h => h) (Or.inl ⟨by rfl, ?_⟩) hS ?_
  rotate_left
  · intro v _; go_simp; first | done | with_reducible rfl
  rotate_left
  simp only [List.getElem_toArray, List.getElem_cons_succ, List.getElem_cons_zero, Act.put, List.setIfInBounds_toArray, List.set_cons_zero, List.set_cons_succ]
  refine wpAnyH_take (i := 17) (v := ?_) rfl (by kernel_rfl) (by kernel_rfl) (by kernel_rfl) (fun _ _ _ h => h) (Or.inl ⟨by rfl, ?_⟩) hS ?_
  rotate_left
  · intro v _; go_simp; first | done | with_reducible rfl
  rotate_left
  simp only [List.getElem_toArray, List.getElem_cons_succ, List.getElem_cons_zero, Act.put, List.setIfInBounds_toArray, List.set_cons_zero, List.set_cons_succ]
  refine wpAnyH_take (i := 18) (v := ?_) rfl (by kernel_rfl) (by kernel_rfl) (by kernel_rfl) (fun _ _ _ h => h) (Or.inl ⟨by rfl, ?_⟩) hS ?_
  rotate_left
  · intro v _; go_simp; first | done | with_reducible rfl
  rotate_left
  simp only [List.getElem_toArray, List.getElem_cons_succ, List.getElem_cons_zero, Act.put, List.setIfInBounds_toArray, List.set_cons_zero, List.set_cons_succ]
  refine wpAnyH_take (i := 19) (v := ?_) rfl (by kernel_rfl) (by kernel_rfl) (by kernel_rfl) (fun _ _ _ h => h) (Or.inl ⟨by rfl, ?_⟩) hS ?_
  rotate_left
  · intro v _; go_simp; first | done | with_reducible rfl
  rotate_left
  simp only [List.getElem_toArray, List.getElem_cons_succ, List.getElem_cons_zero, Act.put, List.setIfInBounds_toArray, List.set_cons_zero, List.set_cons_succ]
  refine wpAnyH_take (i := 20) (v := ?_) rfl (by kernel_rfl) (by kernel_rfl) (by kernel_rfl) (fun _ _ _ h => h) (Or.inl ⟨by rfl, ?_⟩) hS ?_
  rotate_left
  · intro v _; go_simp; first | done | with_reducible rfl
  rotate_left
  simp only [List.getElem_toArray, List.getElem_cons_succ, List.getElem_cons_zero, Act.put, List.setIfInBounds_toArray, List.set_cons_zero, List.set_cons_succ]
  refine wpAnyH_take (i := 21) (v := ?_) rfl (by kernel_rfl) (by kernel_rfl) (by kernel_rfl) (fun _ _ _ h => h) (Or.inl ⟨by rfl, ?_⟩) hS ?_
  rotate_left
  · intro v _; go_simp; first | done | with_reducible rfl
  rotate_left
  simp only [List.getElem_toArray, List.getElem_cons_succ, List.getElem_cons_zero, Act.put, List.setIfInBounds_toArray, List.set_cons_zero, List.set_cons_succ]
  refine wpAnyH_take (i := 22) (v := ?_) rfl (by kernel_rfl) (by kernel_rfl) (by kernel_rfl) (fun _ _ _ h => h) (Or.inl ⟨by rfl, ?_⟩) hS ?_
  rotate_left
  · intro v _; go_simp; first | done | with_reducible rfl
  rotate_left
  simp only [List.getElem_toArray, List.getElem_cons_succ, List.getElem_cons_zero, Act.put, List.setIfInBounds_toArray, List.set_cons_zero, List.set_cons_succ]
  refine wpAnyH_take (i := 23) (v := ?_) rfl (by kernel_rfl) (by kernel_rfl) (by kernel_rfl) (fun _ _ _ h => h) (Or.inl ⟨by rfl, ?_⟩) hS ?_
  rotate_left
  · intro v _; go_simp; first | done | with_reducible rfl
  rotate_left
  simp only [List.getElem_toArray, List.getElem_cons_succ, List.getElem_cons_zero, Act.put, List.setIfInBounds_toArray, List.set_cons_zero, List.set_cons_succ]
  refine wpAnyH_take (i := 24) (v := ?_) rfl (by kernel_rfl) (by kernel_rfl) (by kernel_rfl) (fun _ _ _ h => h) (Or.inl ⟨by rfl, ?_⟩) hS ?_
  rotate_left
  · intro v _; go_simp; first | done | with_reducible rfl
  rotate_left
  simp only [List.getElem_toArray, List.getElem_cons_succ, List.getElem_cons_zero, Act.put, List.setIfInBounds_toArray, List.set_cons_zero, List.set_cons_succ]
  refine wpAnyH_take (i := 25) (v := ?_) rfl (by kernel_rfl) (by kernel_rfl) (by kernel_rfl) (fun _ _ _ h => h) (Or.inl ⟨by rfl, ?_⟩) hS ?_
  rotate_left
  · intro v _; go_simp; first | done | with_reducible rfl
  rotate_left
  simp only [List.getElem_toArray, List.getElem_cons_succ, List.getElem_cons_zero, Act.put, List.setIfInBounds_toArray, List.set_cons_zero, List.set_cons_succ]
  refine wpAnyH_take (i := 26) (v := ?_) rfl (by kernel_rfl) (by kernel_rfl) (by kernel_rfl) (fun _ _ _ h => h) (Or.inl ⟨by rfl, ?_⟩) hS ?_
  rotate_left
  · intro v _; go_simp; first | done | with_reducible rfl
  rotate_left
  simp only [List.getElem_toArray, List.getElem_cons_succ, List.getElem_cons_zero, Act.put, List.setIfInBounds_toArray, List.set_cons_zero, List.set_cons_succ]
  refine wpAnyH_take (i := 27) (v := ?_) rfl (by kernel_rfl) (by kernel_rfl) (by kernel_rfl) (fun _ _ _ h => h) (Or.inl ⟨by rfl, ?_⟩) hS ?_
  rotate_left
  · intro v _; go_simp; first | done | with_reducible rfl
  rotate_left
  simp only [List.getElem_toArray, List.getElem_cons_succ, List.getElem_cons_zero, Act.put, List.setIfInBounds_toArray, List.set_cons_zero, List.set_cons_succ]
  refine wpAnyH_take (i := 28) (v := ?_) rfl (by kernel_rfl) (by kernel_rfl) (by kernel_rfl) (fun _ _ _ h => h) (Or.inl ⟨by rfl, ?_⟩) hS ?_
  rotate_left
  · intro v _; go_simp; first | done | with_reducible rfl
  rotate_left
  simp only [List.getElem_toArray, List.getElem_cons_succ, List.getElem_cons_zero, Act.put, List.setIfInBounds_toArray, List.set_cons_zero, List.set_cons_succ]
  refine wpAnyH_take (i := 29) (v := ?_) rfl (by kernel_rfl) (by kernel_rfl) (by kernel_rfl) (fun _ _ _ h => h) (Or.inl ⟨by rfl, ?_⟩) hS ?_
  rotate_left
  · intro v _; go_simp; first | done | with_reducible rfl
  rotate_left
  simp only [List.getElem_toArray, List.getElem_cons_succ, List.getElem_cons_zero, Act.put, List.setIfInBounds_toArray, List.set_cons_zero, List.set_cons_succ]
  refine wpAnyH_take (i := 30) (v := ?_) rfl (by kernel_rfl) (by kernel_rfl) (by kernel_rfl) (fun _ _ _ h => h) (Or.inl ⟨by rfl, ?_⟩) hS ?_
  rotate_left
  · intro v _; go_simp; first | done | with_reducible rfl
  rotate_left
  simp only [List.getElem_toArray, List.getElem_cons_succ, List.getElem_cons_zero, Act.put, List.setIfInBounds_toArray, List.set_cons_zero, List.set_cons_succ]
  refine wpAnyH_take (i := 31) (v := ?_) rfl (by kernel_rfl) (by kernel_rfl) (by kernel_rfl) (fun _ _ _ h => h) (Or.inl ⟨by rfl, ?_⟩) hS ?_
  rotate_left
  · intro v _; go_simp; first | done | with_reducible rfl
  rotate_left
  simp only [List.getElem_toArray, List.getElem_cons_succ, List.getElem_cons_zero, Act.put, List.setIfInBounds_toArray, List.set_cons_zero, List.set_cons_succ]
  refine wpAnyH_take (i := 32) (v := ?_) rfl (by kernel_rfl) (by kernel_rfl) (by kernel_rfl) (fun _ _ _ h => h) (Or.inl ⟨by rfl, ?_⟩) hS ?_
  rotate_left
  · intro v _; go_simp; first | done | with_reducible rfl
  rotate_left
  simp only [List.getElem_toArray, List.getElem_cons_succ, List.getElem_cons_zero, Act.put, List.setIfInBounds_toArray, List.set_cons_zero, List.set_cons_succ]
  refine wpAnyH_take (i := 33) (v := ?_) rfl (by kernel_rfl) (by kernel_rfl) (by kernel_rfl) (fun _ _ _ h => h) (Or.inl ⟨by rfl, ?_⟩) hS ?_
  rotate_left
  · intro v _; go_simp; first | done | with_reducible rfl
  rotate_left
  simp only [List.getElem_toArray, List.getElem_cons_succ, List.getElem_cons_zero, Act.put, List.setIfInBounds_toArray, List.set_cons_zero, List.set_cons_succ]
  refine wpAnyH_take (i := 34) (v := ?_) rfl (by kernel_rfl) (by kernel_rfl) (by kernel_rfl) (fun _ _ _ h => h) (Or.inl ⟨by rfl, ?_⟩) hS ?_
  rotate_left
  · intro v _; go_simp; first | done | with_reducible rfl
  rotate_left
  simp only [List.getElem_toArray, List.getElem_cons_succ, List.getElem_cons_zero, Act.put, List.setIfInBounds_toArray, List.set_cons_zero, List.set_cons_succ]
  refine wpAnyH_take (i := 35) (v := ?_) rfl (by kernel_rfl) (by kernel_rfl) (by kernel_rfl) (fun _ _ _ h => h) (Or.inl ⟨by rfl, ?_⟩) hS ?_
  rotate_left
  · intro v _; go_simp; first | done | with_reducible rfl
  rotate_left
  simp only [List.getElem_toArray, List.getElem_cons_succ, List.getElem_cons_zero, Act.put, List.setIfInBounds_toArray, List.set_cons_zero, List.set_cons_succ]
  refine wpAnyH_take (i := 36) (v := _) rfl (by kernel_rfl) (by kernel_rfl) (by kernel_rfl) (fun _ _ _ h => h) (yieldsIf_digA (by rfl) (.tmp 2) rfl ⟨b2,0,none⟩ rfl R hrt.out (fun _ h => (DigAt.ad h.1))) hS ?_
  try simp only [List.getElem_toArray, List.getElem_cons_succ, List.getElem_cons_zero, Act.put, List.setIfInBounds_toArray, List.set_cons_zero, List.set_cons_succ]
  refine wpAnyH_take (i := 37) (v := ?_) rfl (by kernel_rfl) (by kernel_rfl) (by kernel_rfl) (fun _ _ _ h => h) (Or.inl ⟨by rfl, ?_⟩) hS ?_
  rotate_left
  · intro v _; go_simp; first | done | with_reducible rfl
  rotate_left
  simp only [List.getElem_toArray, List.getElem_cons_succ, List.getElem_cons_zero, Act.put, List.setIfInBounds_toArray, List.set_cons_zero, List.set_cons_succ]
  refine wpAnyH_all (rs := [38]) (by kernel_rfl) (by simp) ?_
  intro i hi
  simp only [List.mem_cons, List.not_mem_nil, or_false] at hi
  subst hi
  refine wpOp_wp rfl (by rfl) ?_
  go_simp
  refine (hcp1.out A4 c4 x23 H4.out hc4.out HK.out).mono ?_
  rintro e x24 ⟨rfl, hb_⟩
  replace HC := Lib.hid (Kd.C_below HC.out hb_)
  replace HK := Lib.hid (HK.out.below hb_)
  replace HB := Lib.hid (HB.out.trans (Below.mono hb_ HB.out.size))
  replace H2 := Lib.hid (DigAt.below H2.out hb_)
  replace H4 := Lib.hid (CD.below H4.out hb_)
  replace H6 := Lib.hid (CD.below H6.out hb_)
  replace H8 := Lib.hid (DigAt.below H8.out hb_)
  clear hb_ hS
  have hS : S2d b2 R b8 T x24 := ⟨H2.out, H8.out⟩
  refine ⟨hS, ?_⟩
  try simp only [List.getElem_toArray, List.getElem_cons_succ, List.getElem_cons_zero, Act.put, List.setIfInBounds_toArray, List.set_cons_zero, List.set_cons_succ]
  refine wpAnyH_take (i := 39) (v := ?_) rfl (by kernel_rfl) (by kernel_rfl) (by kernel_rfl) (fun _ _ _ h => h) (Or.inl ⟨by rfl, ?_⟩) hS ?_
  rotate_left
  · intro v _; go_simp; first | done | with_reducible rfl
  rotate_left
  simp only [List.getElem_toArray, List.getElem_cons_succ, List.getElem_cons_zero, Act.put, List.setIfInBounds_toArray, List.set_cons_zero, List.set_cons_succ]
  refine wpAnyH_take (i := 40) (v := ?_) rfl (by kernel_rfl) (by kernel_rfl) (by kernel_rfl) (fun _ _ _ h => h) (Or.inl ⟨by rfl, ?_⟩) hS ?_
  rotate_left
  · intro v _; go_simp; first | done | with_reducible rfl
  rotate_left
  simp only [List.getElem_toArray, List.getElem_cons_succ, List.getElem_cons_zero, Act.put, List.setIfInBounds_toArray, List.set_cons_zero, List.set_cons_succ]
  refine wpAnyH_take (i := 41) (v := _) rfl (by kernel_rfl) (by kernel_rfl) (by kernel_rfl) (fun _ _ _ h => h) (yieldsIf_digA (by rfl) (.tmp 2) rfl ⟨b2,0,none⟩ rfl R hrt.out (fun _ h => (DigAt.ad h.1))) hS ?_
  try simp only [List.getElem_toArray, List.getElem_cons_succ, List.getElem_cons_zero, Act.put, List.setIfInBounds_toArray, List.set_cons_zero, List.set_cons_succ]
  refine wpAnyH_take (i := 42) (v := ?_) rfl (by kernel_rfl) (by kernel_rfl) (by kernel_rfl) (fun _ _ _ h => h) (Or.inl ⟨by rfl, ?_⟩) hS ?_
  rotate_left
  · intro v _; go_simp; first | done | with_reducible rfl
  rotate_left
  simp only [List.getElem_toArray, List.getElem_cons_succ, List.getElem_cons_zero, Act.put, List.setIfInBounds_toArray, List.set_cons_zero, List.set_cons_succ]
  refine wpAnyH_all (rs := [43]) (by kernel_rfl) (by simp) ?_
  intro i hi
  simp only [List.mem_cons, List.not_mem_nil, or_false] at hi
  subst hi
  refine wpOp_wp rfl (by rfl) ?_
  go_simp
  refine (hcp0.out A4 c4 x24 H4.out hc4.out HK.out).mono ?_
  rintro e x25 ⟨rfl, hb_⟩
  replace HC := Lib.hid (Kd.C_below HC.out hb_)
  replace HK := Lib.hid (HK.out.below hb_)
  replace HB := Lib.hid (HB.out.trans (Below.mono hb_ HB.out.size))
  replace H2 := Lib.hid (DigAt.below H2.out hb_)
  replace H4 := Lib.hid (CD.below H4.out hb_)
  replace H6 := Lib.hid (CD.below H6.out hb_)
  replace H8 := Lib.hid (DigAt.below H8.out hb_)
  clear hb_ hS
  have hS : S2d b2 R b8 T x25 := ⟨H2.out, H8.out⟩
  refine ⟨hS, ?_⟩
  try simp only [List.getElem_toArray, List.getElem_cons_succ, List.getElem_cons_zero, Act.put, List.setIfInBounds_toArray, List.set_cons_zero, List.set_cons_succ]
  refine wpAnyH_take (i := 44) (v := ?_) rfl (by kernel_rfl) (by kernel_rfl) (by kernel_rfl) (fun _ _ _ h => h) (Or.inl ⟨by rfl, ?_⟩) hS ?_
  rotate_left
  · intro v _; go_simp; first | done | with_reducible rfl
  rotate_left
  simp only [List.getElem_toArray, List.getElem_cons_succ, List.getElem_cons_zero, Act.put, List.setIfInBounds_toArray, List.set_cons_zero, List.set_cons_succ]
  refine wpAnyH_take (i := 45) (v := ?_) rfl (by kernel_rfl) (by kernel_rfl) (by kernel_rfl) (fun _ _ _ h => h) (Or.inl ⟨by rfl, ?_⟩) hS ?_
  rotate_left
  · intro v _; go_simp; first | done | with_reducible rfl
  rotate_left
  simp only [List.getElem_toArray, List.getElem_cons_succ, List.getElem_cons_zero, Act.put, List.setIfInBounds_toArray, List.set_cons_zero, List.set_cons_succ]
  refine wpAnyH_take (i := 46) (v := ?_) rfl (by kernel_rfl) (by kernel_rfl) (by kernel_rfl) (fun _ _ _ h => h) (Or.inl ⟨by rfl, ?_⟩) hS ?_
  rotate_left
  · intro v _; go_simp; first | done | with_reducible rfl
  rotate_left
  simp only [List.getElem_toArray, List.getElem_cons_succ, List.getElem_cons_zero, Act.put, List.setIfInBounds_toArray, List.set_cons_zero, List.set_cons_succ]
  refine wpAnyH_take (i := 47) (v := _) rfl (by kernel_rfl) (by kernel_rfl) (by kernel_rfl) (fun _ _ _ h => h) (yieldsIf_digA (by rfl) (.tmp 8) rfl ⟨b8,0,none⟩ rfl T htw.out (fun _ h => (DigAt.ad h.2))) hS ?_
  try simp only [List.getElem_toArray, List.getElem_cons_succ, List.getElem_cons_zero, Act.put, List.setIfInBounds_toArray, List.set_cons_zero, List.set_cons_succ]
  refine wpAnyH_take (i := 48) (v := _) rfl (by kernel_rfl) (by kernel_rfl) (by kernel_rfl) (fun _ _ _ h => h) (yieldsIf_digA (by rfl) (.tmp 2) rfl ⟨b2,0,none⟩ rfl R hrt.out (fun _ h => (DigAt.ad h.1))) hS ?_
  try simp only [List.getElem_toArray, List.getElem_cons_succ, List.getElem_cons_zero, Act.put, List.setIfInBounds_toArray, List.set_cons_zero, List.set_cons_succ]
  refine wpAnyH_take (i := 49) (v := ?_) rfl (by kernel_rfl) (by kernel_rfl) (by kernel_rfl) (fun _ _ _ h => h) (Or.inl ⟨by rfl, ?_⟩) hS ?_
  rotate_left
  · intro v _; go_simp; first | done | with_reducible rfl
  rotate_left
  simp only [List.getElem_toArray, List.getElem_cons_succ, List.getElem_cons_zero, Act.put, List.setIfInBounds_toArray, List.set_cons_zero, List.set_cons_succ]
  refine wpAnyH_all (rs := [50]) (by kernel_rfl) (by simp) ?_
  intro i hi
  simp only [List.mem_cons, List.not_mem_nil, or_false] at hi
  subst hi
  refine wpOp_wp rfl (by rfl) ?_
  go_simp
  refine (hcb2.out A6 c6 x25 H6.out hc6.out HK.out).mono ?_
  rintro e x26 ⟨rfl, hb_⟩
  replace HC := Lib.hid (Kd.C_below HC.out hb_)
  replace HK := Lib.hid (HK.out.below hb_)
  replace HB := Lib.hid (HB.out.trans (Below.mono hb_ HB.out.size))
  replace H2 := Lib.hid (DigAt.below H2.out hb_)
  replace H4 := Lib.hid (CD.below H4.out hb_)
  replace H6 := Lib.hid (CD.below H6.out hb_)
  replace H8 := Lib.hid (DigAt.below H8.out hb_)
  clear hb_ hS
  have hS : S2d b2 R b8 T x26 := ⟨H2.out, H8.out⟩
  refine ⟨hS, ?_⟩
  try simp only [List.getElem_toArray, List.getElem_cons_succ, List.getElem_cons_zero, Act.put, List.setIfInBounds_toArray, List.set_cons_zero, List.set_cons_succ]
  refine wpAnyH_take (i := 51) (v := ?_) rfl (by kernel_rfl) (by kernel_rfl) (by kernel_rfl) (fun _ _ _ h => h) (Or.inl ⟨by rfl, ?_⟩) hS ?_
  rotate_left
  · intro v _; go_simp; first | done | with_reducible rfl
  rotate_left
  simp only [List.getElem_toArray, List.getElem_cons_succ, List.getElem_cons_zero, Act.put, List.setIfInBounds_toArray, List.set_cons_zero, List.set_cons_succ]
  refine wpAnyH_take (i := 52) (v := ?_) rfl (by kernel_rfl) (by kernel_rfl) (by kernel_rfl) (fun _ _ _ h => h) (Or.inl ⟨by rfl, ?_⟩) hS ?_
  rotate_left
  · intro v _; go_simp; first | done | with_reducible rfl
  rotate_left
  simp only [List.getElem_toArray, List.getElem_cons_succ, List.getElem_cons_zero, Act.put, List.setIfInBounds_toArray, List.set_cons_zero, List.set_cons_succ]
  refine wpAnyH_take (i := 53) (v := _) rfl (by kernel_rfl) (by kernel_rfl) (by kernel_rfl) (fun _ _ _ h => h) (yieldsIf_digA (by rfl) (.tmp 8) rfl ⟨b8,0,none⟩ rfl T htw.out (fun _ h => (DigAt.ad h.2))) hS ?_
  try simp only [List.getElem_toArray, List.getElem_cons_succ, List.getElem_cons_zero, Act.put, List.setIfInBounds_toArray, List.set_cons_zero, List.set_cons_succ]
  refine wpAnyH_take (i := 54) (v := _) rfl (by kernel_rfl) (by kernel_rfl) (by kernel_rfl) (fun _ _ _ h => h) (yieldsIf_digA (by rfl) (.tmp 2) rfl ⟨b2,0,none⟩ rfl R hrt.out (fun _ h => (DigAt.ad h.1))) hS ?_
  try simp only [List.getElem_toArray, List.getElem_cons_succ, List.getElem_cons_zero, Act.put, List.setIfInBounds_toArray, List.set_cons_zero, List.set_cons_succ]
  refine wpAnyH_take (i := 55) (v := ?_) rfl (by kernel_rfl) (by kernel_rfl) (by kernel_rfl) (fun _ _ _ h => h) (Or.inl ⟨by rfl, ?_⟩) hS ?_
  rotate_left
  · intro v _; go_simp; first | done | with_reducible rfl
  rotate_left
  simp only [List.getElem_toArray, List.getElem_cons_succ, List.getElem_cons_zero, Act.put, List.setIfInBounds_toArray, List.set_cons_zero, List.set_cons_succ]
  refine wpAnyH_all (rs := [56]) (by kernel_rfl) (by simp) ?_
  intro i hi
  simp only [List.mem_cons, List.not_mem_nil, or_false] at hi
  subst hi
  refine wpOp_wp rfl (by rfl) ?_
  go_simp
  refine (hcb1.out A6 c6 x26 H6.out hc6.out HK.out).mono ?_
  rintro e x27 ⟨rfl, hb_⟩
  replace HC := Lib.hid (Kd.C_below HC.out hb_)
  replace HK := Lib.hid (HK.out.below hb_)
  replace HB := Lib.hid (HB.out.trans (Below.mono hb_ HB.out.size))
  replace H2 := Lib.hid (DigAt.below H2.out hb_)
  replace H4 := Lib.hid (CD.below H4.out hb_)
  replace H6 := Lib.hid (CD.below H6.out hb_)
  replace H8 := Lib.hid (DigAt.below H8.out hb_)
  clear hb_ hS
  have hS : S2d b2 R b8 T x27 := ⟨H2.out, H8.out⟩
  refine ⟨hS, ?_⟩
  try simp only [List.getElem_toArray, List.getElem_cons_succ, List.getElem_cons_zero, Act.put, List.setIfInBounds_toArray, List.set_cons_zero, List.set_cons_succ]
  refine wpAnyH_take (i := 57) (v := ?_) rfl (by kernel_rfl) (by kernel_rfl) (by kernel_rfl) (fun _ _ _ h => h) (Or.inl ⟨by rfl, ?_⟩) hS ?_
  rotate_left
  · intro v _; go_simp; first | done | with_reducible rfl
  rotate_left
  simp only [List.getElem_toArray, List.getElem_cons_succ, List.getElem_cons_zero, Act.put, List.setIfInBounds_toArray, List.set_cons_zero, List.set_cons_succ]
  refine wpAnyH_take (i := 58) (v := ?_) rfl (by kernel_rfl) (by kernel_rfl) (by kernel_rfl) (fun _ _ _ h => h) (Or.inl ⟨by rfl, ?_⟩) hS ?_
  rotate_left
  · intro v _; go_simp; first | done | with_reducible rfl
  rotate_left
  simp only [List.getElem_toArray, List.getElem_cons_succ, List.getElem_cons_zero, Act.put, List.setIfInBounds_toArray, List.set_cons_zero, List.set_cons_succ]
  refine wpAnyH_take (i := 59) (v := ?_) rfl (by kernel_rfl) (by kernel_rfl) (by kernel_rfl) (fun _ _ _ h => h) (Or.inl ⟨by rfl, ?_⟩) hS ?_
  rotate_left
  · intro v _; go_simp; first | done | with_reducible rfl
  rotate_left
  simp only [List.getElem_toArray, List.getElem_cons_succ, List.getElem_cons_zero, Act.put, List.setIfInBounds_toArray, List.set_cons_zero, List.set_cons_succ]
  refine wpAnyH_all (rs := [60]) (by kernel_rfl) (by simp) ?_
  intro i hi
  simp only [List.mem_cons, List.not_mem_nil, or_false] at hi
  subst hi
  refine wpOp_wp rfl (by rfl) ?_
  go_simp
  refine (kla.out x27 HK.out).mono ?_
  rintro e x28 ⟨rfl, hb_⟩
  replace HC := Lib.hid (Kd.C_below HC.out hb_)
  replace HK := Lib.hid (HK.out.below hb_)
  replace HB := Lib.hid (HB.out.trans (Below.mono hb_ HB.out.size))
  replace H2 := Lib.hid (DigAt.below H2.out hb_)
  replace H4 := Lib.hid (CD.below H4.out hb_)
  replace H6 := Lib.hid (CD.below H6.out hb_)
  replace H8 := Lib.hid (DigAt.below H8.out hb_)
  clear hb_ hS
  have hS : S2d b2 R b8 T x28 := ⟨H2.out, H8.out⟩
  refine ⟨hS, ?_⟩
  try simp only [List.getElem_toArray, List.getElem_cons_succ, List.getElem_cons_zero, Act.put, List.setIfInBounds_toArray, List.set_cons_zero, List.set_cons_succ]
  refine wpAnyH_all (rs := [61]) (by kernel_rfl) (by simp) ?_
  intro i hi
  simp only [List.mem_cons, List.not_mem_nil, or_false] at hi
  subst hi
  refine wpOp_wp rfl (by rfl) ?_
  go_simp
  refine (klb.out x28 HK.out).mono ?_
  rintro e x29 ⟨rfl, hb_⟩
  replace HC := Lib.hid (Kd.C_below HC.out hb_)
  replace HK := Lib.hid (HK.out.below hb_)
  replace HB := Lib.hid (HB.out.trans (Below.mono hb_ HB.out.size))
  replace H2 := Lib.hid (DigAt.below H2.out hb_)
  replace H4 := Lib.hid (CD.below H4.out hb_)
  replace H6 := Lib.hid (CD.below H6.out hb_)
  replace H8 := Lib.hid (DigAt.below H8.out hb_)
  clear hb_ hS
  have hS : S2d b2 R b8 T x29 := ⟨H2.out, H8.out⟩
  refine ⟨hS, ?_⟩
  try simp only [List.getElem_toArray, List.getElem_cons_succ, List.getElem_cons_zero, Act.put, List.setIfInBounds_toArray, List.set_cons_zero, List.set_cons_succ]
  have heqN := heq.out
  refine wpAnyH_take (i := 62) (v := ?_) rfl (by kernel_rfl) (by kernel_rfl) (by kernel_rfl) (fun _ _ _ h => h) (Or.inl ⟨by rfl, ?_⟩) hS ?_
  rotate_left
  · intro v _; go_simp; first | done | with_reducible rfl
  rotate_left
  simp only [List.getElem_toArray, List.getElem_cons_succ, List.getElem_cons_zero, Act.put, List.setIfInBounds_toArray, List.set_cons_zero, List.set_cons_succ]
  refine wpAnyH_take (i := 63) (v := ?_) rfl (by kernel_rfl) (by kernel_rfl) (by kernel_rfl) (fun _ _ _ h => h) (Or.inl ⟨by rfl, ?_⟩) hS ?_
  rotate_left
  · intro v _; go_simp; first | done | with_reducible rfl
  rotate_left
  simp only [List.getElem_toArray, List.getElem_cons_succ, List.getElem_cons_zero, Act.put, List.setIfInBounds_toArray, List.set_cons_zero, List.set_cons_succ]
  refine wpAnyH_take (i := 64) (v := ?_) rfl (by kernel_rfl) (by kernel_rfl) (by kernel_rfl) (fun _ _ _ h => h) (Or.inl ⟨by rfl, ?_⟩) hS ?_
  rotate_left
  · intro v _; go_simp; first | done | with_reducible rfl
  rotate_left
  simp only [List.getElem_toArray, List.getElem_cons_succ, List.getElem_cons_zero, Act.put, List.setIfInBounds_toArray, List.set_cons_zero, List.set_cons_succ]
  refine wpAnyH_done (by kernel_rfl) ?_ _
  go_wp2_with fail
  go_ret
  exact ⟨rfl, HB.out⟩
end Go.Proofs.YtldpnmebjnkjeaaDoor.TrW
namespace Go.Proofs.YtldpnmebjnkjeaaDoor.TrW
open Go.RowKit Go.Proofs.YtldpnmebjnkjeaaDoorW.PrintWords Go.Proofs.YtldpnmebjnkjeaaDoor.PH1 Go.Proofs.YtldpnmebjnkjeaaDoor Go.Proofs.YtldpnmebjnkjeaaDoorW.PrintLast Go.Proofs.YtldpnmebjnkjeaaDoorW.PrintMore
open Go.Proofs.YtldpnmebjnkjeaaDoor.Sha
set_option linter.unusedVariables false
set_option linter.unusedSimpArgs false

theorem wr64 {i : Int} (h0 : -9223372036854775808 ≤ i) (h : i ≤ 9223372036854775807) : wrap64 i = i := by unfold wrap64; omega
theorem rd_at (L : List ByteArray) (i : Nat) (h : i < L.length) : rdOf ByteArray.empty L (i : Int) = L[i] := by
  unfold rdOf
  rw [Int.toNat_natCast, List.getD_eq_getElem?_getD, List.getElem?_eq_getElem h]
  rfl
def fitB (s : ByteArray) : Bool := decide ((s.size : Int) > 1200)
theorem fits_l0 (L : List ByteArray) (hL : L.length ≤ 1000000) : ∀ (m i : Nat), i + m = L.length → cashbooklaw11_Fits.l0 (m + 1) L (i : Int) = some (!(L.drop i).any fitB)
  | 0, i, h => by
    rw [cashbooklaw11_Fits.l0, if_neg (by omega), List.drop_eq_nil_of_le (by omega)]; rfl
  | m + 1, i, h => by
    have hi : i < L.length := by omega
    rw [cashbooklaw11_Fits.l0, if_pos (by omega), if_pos (by omega), rd_at L i hi, List.drop_eq_getElem_cons hi, List.any_cons]
    by_cases h1 : ((L[i]).size : Int) > 1200
    · rw [if_pos h1, show fitB L[i] = true from decide_eq_true h1, Bool.true_or]; rfl
    · rw [if_neg h1, show fitB L[i] = false from decide_eq_false h1, Bool.false_or, wr64 (by omega) (by omega)]
      exact fits_l0 L hL m (i + 1) (by omega)
def fitsB (L : List ByteArray) : Bool := decide (L.length ≤ 24) && !L.any fitB
theorem fits_calls (A : Option Addr) (c : Nat) (L : List ByteArray) (w : World) (hC : Kd.C Kd.string w A L.length L) (hc : L.length ≤ c) :
    Calls Tryd.prog 29 #[.slice A L.length c] w fun e w' => e = .returned (.bool (fitsB L)) ∧ Drawn0 w w' := by
  refine cashbooklaw11_Fits.calls (L.length + 1) A c L _ w hC hc ?_
  unfold cashbooklaw11_Fits.f fitsB
  by_cases h : L.length ≤ 24
  · rw [if_neg (by omega), decT h, Bool.true_and]
    exact fits_l0 L (by omega) L.length 0 (by omega)
  · rw [if_pos (by omega), decF h, Bool.false_and]
theorem wrong_l0 (L : List ByteArray) (hL : L.length ≤ 1000000) : ∀ (m i : Nat), i + m = L.length → cashbookref11_Wrong.l0 (m + 1) L (i : Int) = some (if (L.drop i).any longB = true then 4 else 0)
  | 0, i, h => by
    rw [cashbookref11_Wrong.l0, if_neg (by omega), List.drop_eq_nil_of_le (by omega)]; rfl
  | m + 1, i, h => by
    have hi : i < L.length := by omega
    rw [cashbookref11_Wrong.l0, if_pos (by omega), if_pos (by omega), rd_at L i hi, List.drop_eq_getElem_cons hi, List.any_cons]
    by_cases h1 : ((L[i]).size : Int) > 1000
    · rw [if_pos h1, show longB L[i] = true from decide_eq_true h1, Bool.true_or]; rfl
    · rw [if_neg h1, show longB L[i] = false from decide_eq_false h1, Bool.false_or, wr64 (by omega) (by omega)]
      exact wrong_l0 L hL m (i + 1) (by omega)
theorem rwrong_calls (A : Option Addr) (c : Nat) (L : List ByteArray) (w : World) (hC : Kd.C Kd.string w A L.length L) (hc : L.length ≤ c) :
    Calls Tryd.prog 37 #[.slice A L.length c] w fun e w' => e = .returned (.int .i64 (wrongN L)) ∧ Drawn0 w w' := by
  refine cashbookref11_Wrong.calls (L.length + 1) A c L _ w hC hc ?_
  unfold cashbookref11_Wrong.f wrongN
  by_cases h : 1024 < L.length
  · rw [if_pos (by omega), if_pos (Or.inl h)]
  · have e : cashbookref11_Wrong.l0 (L.length + 1) L 0 = _ := wrong_l0 L (by omega) L.length 0 (by omega)
    rw [if_neg (by omega), e, List.drop_zero]
    by_cases h2 : L.any longB = true
    · rw [if_pos h2, if_pos (Or.inr h2)]
    · rw [if_neg h2, if_neg (fun h3 => h3.elim h h2)]
theorem pairP_inj {x y : List UInt8 × List UInt8} (h : pairP x = pairP y) : x = y := by
  cases x; cases y; unfold pairP at h; injection h with _ h1 h2; simp at h1 h2; simp [h1, h2]
/-- Two chains of one way that end in one digest and begin with two things. -/
theorem found_ways (f g : Pr) (rs : List Bool) (ps qs : List (List UInt8)) (d e : List UInt8) (hp : ps.length = rs.length) (hq : qs.length = rs.length) (hl : Tr.last alg d rs ps = Tr.last alg e rs qs) (hne : d ≠ e) :
    twB (madeP f d rs ps) (Tr.chainD alg d rs ps) (madeP g e rs qs) (Tr.chainD alg e rs qs) = true := by
  obtain ⟨i, hi, h1, h2⟩ := Tr.two_ways alg rs ps qs d e hp hq hl hne
  refine twB_true (i + 1) _ _ _ _ (by rw [madeP_len]; omega) (by rw [chainD_len]; omega) (by rw [madeP_len]; omega) (by rw [chainD_len]; omega) h1 ?_
  unfold madeP
  rw [List.getElem?_cons_succ, List.getElem?_cons_succ, List.getElem?_map, List.getElem?_map]
  intro h3
  apply h2
  have a := List.getElem?_eq_getElem (l := Tr.chainM alg d rs ps) (i := i) (by rw [chainM_len]; omega)
  have b := List.getElem?_eq_getElem (l := Tr.chainM alg e rs qs) (i := i) (by rw [chainM_len]; omega)
  rw [a, b] at h3 ⊢
  exact congrArg some (pairP_inj (Option.some.inj h3))
theorem chainD_zero (d : List UInt8) (rs : List Bool) (ps : List (List UInt8)) : (Tr.chainD alg d rs ps)[0]? = some d := by
  match rs, ps with
  | [], [] => rfl
  | [], _ :: _ => rfl
  | _ :: _, [] => rfl
  | _ :: _, _ :: _ => rfl
/-- A path that proves another text than the leaf there. -/
theorem sound_pure (L : List ByteArray) (i : Nat) (s t : ByteArray) (ps : List (List UInt8)) (ht : L[i]? = some t) (hst : s ≠ t) (hV : pathV s.data.toList (i : Int) (L.length : Int) (Tr.root alg (bl L)) ps = true) :
    ps.length = (Tr.path alg (bl L) i).reverse.length ∧ twB (madeP ⟨s, zDig, zDig⟩ (leafP s.data.toList) (Tr.sides i L.length).reverse ps) (Tr.chainD alg (leafP s.data.toList) (Tr.sides i L.length).reverse ps) (madeP ⟨t, zDig, zDig⟩ (leafP t.data.toList) (Tr.sides i L.length).reverse (Tr.path alg (bl L) i).reverse) (Tr.chainD alg (leafP t.data.toList) (Tr.sides i L.length).reverse (Tr.path alg (bl L) i).reverse) = true := by
  have h := of_decide_eq_true hV
  simp only [Int.toNat_natCast] at h
  obtain ⟨_, _, _, hl, hr⟩ := h
  have hlen := Tr.path_len alg (bl L).length (bl L) i (Nat.le_refl _)
  rw [bl_len] at hlen
  have hup := Tr.up_path alg (bl L).length (bl L) i t.data.toList (by unfold bl; rw [List.getElem?_map, ht]; rfl) (Nat.le_refl _)
  rw [bl_len, ← Tr.last_up alg _ _ _ hlen] at hup
  refine ⟨by rw [List.length_reverse, hlen, hl], ?_⟩
  by_cases hd : leafP s.data.toList = leafP t.data.toList
  · refine twB_true 0 _ _ _ _ (by rw [madeP_len]; omega) (by rw [chainD_len]; omega) (by rw [madeP_len]; omega) (by rw [chainD_len]; omega) (by rw [chainD_zero, chainD_zero, hd]) ?_
    unfold madeP
    rw [List.getElem?_cons_zero, List.getElem?_cons_zero]
    intro h
    have := Option.some.inj h
    injection this with h1 _ _
    exact hst h1
  · exact found_ways _ _ _ _ _ _ _ (by rw [List.length_reverse]; exact hl.symm) (by rw [List.length_reverse, List.length_reverse]; exact hlen) (hr.trans hup.symm) hd
end Go.Proofs.YtldpnmebjnkjeaaDoor.TrW
namespace Go.Proofs.YtldpnmebjnkjeaaDoor.Ref10
open Go.RowKit Go.Proofs.YtldpnmebjnkjeaaDoorW.PrintWords Go.Proofs.YtldpnmebjnkjeaaDoor.PH1 Go.Proofs.YtldpnmebjnkjeaaDoor Go.Proofs.YtldpnmebjnkjeaaDoorW.PrintLast Go.Proofs.YtldpnmebjnkjeaaDoorW.PrintMore
open Go.Proofs.YtldpnmebjnkjeaaDoor.Sha (V8 wv RowU rotr kT sched rnds rnd takeP vadd mixL mixL_len mixL_get mixL_set mixL_all xo an ad rx ra rs rw32 Nr ch maj bs0 bs1)
set_option linter.unusedVariables false
set_option linter.unusedSimpArgs false

/-- chosen, shut. -/
def cc (a b c : UInt32) : UInt32 := ch a b c
/-- A fact, shut: whnf does not open it. -/
structure Shut (p : Prop) : Prop where
  out : p
end Go.Proofs.YtldpnmebjnkjeaaDoor.Ref10
namespace Go.Proofs.YtldpnmebjnkjeaaDoor.Ref10
open Go.RowKit Go.Proofs.YtldpnmebjnkjeaaDoorW.PrintWords Go.Proofs.YtldpnmebjnkjeaaDoor.PH1 Go.Proofs.YtldpnmebjnkjeaaDoor Go.Proofs.YtldpnmebjnkjeaaDoorW.PrintLast Go.Proofs.YtldpnmebjnkjeaaDoorW.PrintMore
open Go.Proofs.YtldpnmebjnkjeaaDoor.Sha (V8 wv RowU)
set_option linter.unusedVariables false
set_option linter.unusedSimpArgs false

theorem first_at (j : Nat) (hj : j < 8) : r2 ((ps.take 8).getD j 0) = (Sha.v0.list.getD j 0).toNat := by
  have h := congrArg (fun l => l[j]?) r2_all
  have h1 : j < (ps.take 8).length := hj
  have h2 : j < Sha.v0.list.length := hj
  simp only [List.getElem?_map, List.getElem?_eq_getElem h1, List.getElem?_eq_getElem h2, Option.map_some, Option.some.injEq] at h
  rw [List.getD_eq_getElem?_getD, List.getElem?_eq_getElem h1, List.getD_eq_getElem?_getD, List.getElem?_eq_getElem h2]
  exact h
theorem root2 (j : Nat) (hj : j < 8) : cashbookref10_root.f 2000 (((ps.take 8).getD j 0 : Nat) : Int) 2 = some ((Sha.v0.list.getD j 0).toNat : Int) := by
  have hb : ∀ k : Fin 8, (ps.take 8).getD k.val 0 < 65536 := by decide
  have h := root_run ((ps.take 8).getD j 0) (hb ⟨j, hj⟩) 2 (.inl rfl) 2000 (by omega)
  rw [← first_at j hj]
  exact h
end Go.Proofs.YtldpnmebjnkjeaaDoor.Ref10
namespace Go.Proofs.YtldpnmebjnkjeaaDoor.Ref10
open Go.RowKit Go.Proofs.YtldpnmebjnkjeaaDoorW.PrintWords Go.Proofs.YtldpnmebjnkjeaaDoor.PH1 Go.Proofs.YtldpnmebjnkjeaaDoor Go.Proofs.YtldpnmebjnkjeaaDoorW.PrintLast Go.Proofs.YtldpnmebjnkjeaaDoorW.PrintMore
open Go.Proofs.YtldpnmebjnkjeaaDoor.Sha (V8 wv RowU takeP feedP tailL tailL_len digL digL_len sumL endP z32_len hashV)
set_option linter.unusedVariables false
set_option linter.unusedSimpArgs false

def CV (s : Value) (v : V8) : Array Value := (s :: v.list.map wv).toArray
theorem run_load_cell {P : Program} {w : World} {ad : Addr} {v : Value} {t : TypeId} (ht : ∀ w : World, (Go.isAgg t).run P w = .ok false w) (h : w.cell? ad = some v) : (loadVar t ad).run P w = .ok v w := by
  unfold loadVar
  rw [Sem.run_bind, ht w]
  simp [h]
theorem yieldsIf_cell {P : Program} {ops : Array Oper} {S : World → Prop} {op : Oper} {a : Act} (hw : Region.wanted op (yielded ops a.tmps) = true) (ty : TypeId) (x : Operand) (ho : op.op = .load ty x)
    (ad : Addr) (hx : a.eval x = .pointer (some ad)) (v : Value) (ht : ∀ w : World, (Go.isAgg ty).run P w = .ok false w) (hS : ∀ w, S w → w.cell? ad = some v) : YieldsIf P ops S op v a :=
  .inl ⟨hw, fun w hw' => by
    unfold execOp
    simp only [ho, hx, Instr.loadAt, Instr.sureAddr, Sem.run_bind, Sem.run_pure, Result.andThen_ok, run_load_cell ht (hS w hw')]⟩
theorem agg9 : ∀ w : World, (Go.isAgg 9).run Tryd.prog w = .ok false w := fun w => by simp [Tryd.isAgg9]
theorem agg3 : ∀ w : World, (Go.isAgg 3).run Tryd.prog w = .ok false w := fun w => by simp [Tryd.isAgg3]
def CAt (b : Nat) (s : Value) (v : V8) (w : World) : Prop := w.heap[b]? = some (.cells (CV s v) 58 (0, 0))
namespace CAt
variable {b : Nat} {s : Value} {v : V8} {w w1 : World}
theorem below (h : CAt b s v w) (hb : Below w.heap.size w w1) : CAt b s v w1 := blk_below h hb
theorem range (h : CAt b s v w) : w.rangeAt b 1 (v.list.map wv) := by
  intro j x hx
  rw [cell_of_row _ _ _ _ _ _ h]
  unfold CV
  rw [List.getElem?_toArray, Nat.add_comm 1 j, List.getElem?_cons_succ]
  exact hx
end CAt
end Go.Proofs.YtldpnmebjnkjeaaDoor.Ref10
namespace Go.Proofs.YtldpnmebjnkjeaaDoor.TrW
open Go.RowKit Go.Proofs.YtldpnmebjnkjeaaDoorW.PrintWords Go.Proofs.YtldpnmebjnkjeaaDoor.PH1 Go.Proofs.YtldpnmebjnkjeaaDoor Go.Proofs.YtldpnmebjnkjeaaDoorW.PrintLast Go.Proofs.YtldpnmebjnkjeaaDoorW.PrintMore
open Go.Proofs.YtldpnmebjnkjeaaDoor.Sha
open Go.Proofs.YtldpnmebjnkjeaaDoor.Ref10 (wp_store_dig wp_load_dig wpOp_wp range_row yieldsIf_cell agg3 agg9)
set_option linter.unusedVariables false
set_option linter.unusedSimpArgs false

def askC (i n : Int) (a b : List UInt8) (v : Value) : List Value := .int .i64 i :: .int .i64 n :: (Lib.byteCells a ++ (Lib.byteCells b ++ [v]))
def AskAt (p : Nat) (i n : Int) (a b : List UInt8) (v : Value) (w : World) : Prop := w.heap[p]? = some (.cells (askC i n a b v).toArray 73 (0, 0)) ∧ a.length = 32 ∧ b.length = 32
theorem AskAt.below {p : Nat} {i n : Int} {a b : List UInt8} {v : Value} {w w1 : World} (h : AskAt p i n a b v w) (hb : Below w.heap.size w w1) : AskAt p i n a b v w1 := ⟨blk_below h.1 hb, h.2⟩
theorem AskAt.c0 {p : Nat} {i n : Int} {a b : List UInt8} {v : Value} {w : World} (h : AskAt p i n a b v w) : w.cell? ⟨p, 0, none⟩ = some (.int .i64 i) := by rw [cell_of_row _ _ _ _ _ _ h.1]; rfl
theorem AskAt.c1 {p : Nat} {i n : Int} {a b : List UInt8} {v : Value} {w : World} (h : AskAt p i n a b v w) : w.cell? ⟨p, 1, none⟩ = some (.int .i64 n) := by rw [cell_of_row _ _ _ _ _ _ h.1]; rfl
theorem AskAt.c66 {p : Nat} {i n : Int} {a b : List UInt8} {v : Value} {w : World} (h : AskAt p i n a b v w) : w.cell? ⟨p, 66, none⟩ = some v := by
  rw [cell_of_row _ _ _ _ _ _ h.1, List.getElem?_toArray]
  unfold askC
  rw [show 66 = 64 + 1 + 1 from rfl, List.getElem?_cons_succ, List.getElem?_cons_succ, List.getElem?_append_right (by rw [bc_len h.2.1]; omega), List.getElem?_append_right (by rw [bc_len h.2.1, bc_len h.2.2]; omega), bc_len h.2.1, bc_len h.2.2]
  rfl
theorem AskAt.a {p : Nat} {i n : Int} {a b : List UInt8} {v : Value} {w : World} (h : AskAt p i n a b v w) : DigAd ⟨p, 2, none⟩ a w := by
  intro j u hu
  have hj := (List.getElem?_eq_some_iff.1 hu).1
  rw [Addr.add_mid, show 2 + j = j + 1 + 1 by omega, cell_of_row _ _ _ _ _ _ h.1, List.getElem?_toArray]
  unfold askC
  rw [List.getElem?_cons_succ, List.getElem?_cons_succ, List.getElem?_append_left hj]
  exact hu
theorem AskAt.b {p : Nat} {i n : Int} {a b : List UInt8} {v : Value} {w : World} (h : AskAt p i n a b v w) : DigAd ⟨p, 34, none⟩ b w := by
  intro j u hu
  have hj := (List.getElem?_eq_some_iff.1 hu).1
  rw [Addr.add_mid, show 34 + j = (32 + j) + 1 + 1 by omega, cell_of_row _ _ _ _ _ _ h.1, List.getElem?_toArray]
  unfold askC
  rw [List.getElem?_cons_succ, List.getElem?_cons_succ, List.getElem?_append_right (by rw [bc_len h.2.1]; omega), bc_len h.2.1, Nat.add_sub_cancel_left, List.getElem?_append_left hj]
  exact hu
theorem fits_of {L : List ByteArray} (h : fitsB L = true) : L.length ≤ 24 ∧ ∀ s ∈ L, s.size ≤ 1200 := by
  unfold fitsB at h
  rw [Bool.and_eq_true, decide_eq_true_eq] at h
  refine ⟨h.1, fun s hs => ?_⟩
  have h2 : L.any fitB = false := by simpa using h.2
  rw [List.any_eq_false] at h2
  have := h2 s hs
  unfold fitB at this
  simp at this
  omega
theorem madeP_ok (f : Pr) (hf : f.ok) (d : List UInt8) : ∀ (rs : List Bool) (ps : List (List UInt8)), d.length = 32 → (∀ p ∈ ps, p.length = 32) → ∀ q ∈ madeP f d rs ps, q.ok := by
  intro rs ps hd hp q hq
  unfold madeP at hq
  rcases List.mem_cons.1 hq with rfl | hq
  · exact hf
  · obtain ⟨x, hx, rfl⟩ := List.mem_map.1 hq
    induction rs generalizing ps d with
    | nil => simp [Tr.chainM] at hx
    | cons s rs ih =>
      match ps, hp, hx with
      | [], _, hx => simp [Tr.chainM] at hx
      | p :: ps, hp, hx =>
        rcases List.mem_cons.1 hx with rfl | hx
        · have h1 := hp p (by simp)
          cases s
          · exact ⟨h1, hd⟩
          · exact ⟨hd, h1⟩
        · refine ih _ ps ?_ (fun q hq => hp q (List.mem_cons_of_mem _ hq)) hx (List.mem_cons_of_mem _ (List.mem_map_of_mem hx)) (List.mem_map_of_mem hx)
          cases s
          · exact sumL_len _
          · exact sumL_len _
theorem str_inj {x y : ByteArray} (h : x.data.toList = y.data.toList) : x = y := ByteArray.ext (Array.toList_inj.1 h)
def ST3 (a1 : Addr) (i : Int) (a2 : Addr) (t : ByteArray) (W : World) : Prop := W.cell? a1 = some (.int .i64 i) ∧ W.cell? a2 = some (.string t)
set_option maxHeartbeats 16000000 in
set_option maxRecDepth 100000 in
theorem sound_law (A : Option Addr) (c : Nat) (L : List ByteArray) (s : ByteArray) (I N : Int) (ra rb : List UInt8) (hra : ra.length = 32) (hrb : rb.length = 32) (A1 : Option Addr) (c1 : Nat) (ps : List (List UInt8)) (w : World) (hC : Kd.C Kd.string w A L.length L) (hc : L.length ≤ c) (hD : CD A1 ps w) (hd : ps.length ≤ c1) (hK : KAt w) :
    Calls Tryd.prog 11 #[.slice A L.length c, .string s, .agg (askC I N ra rb (.slice A1 ps.length c1)).toArray] w fun e w' => e = .returned (.bool true) ∧ Below w.heap.size w w' := by
  have hmax := Kd.C_max hC
  have hmax2 := Kd.C_max hD
  go_enter Tryd.func11, Tryd.ntmps11
  go_upto_region 1 with fail
  generalize hw1 : w.alloc _ = w1
  have HQ : Hid (AskAt w.heap.size I N ra rb (.slice A1 ps.length c1) w1) := by
    rw [← hw1]; exact Lib.hid ⟨heap_alloc_last _ _, hra, hrb⟩
  have HB : Hid (Below w.heap.size w w1) := by
    rw [← hw1]; exact Lib.hid ((Below.refl _ _).alloc (Nat.le_refl _) _)
  have HK : Hid (KAt w1) := Lib.hid (hK.below HB.out)
  have HC : Hid (Kd.C Kd.string w1 A L.length L) := Lib.hid (Kd.C_below hC HB.out)
  have HD : Hid (CD A1 ps w1) := Lib.hid (hD.below HB.out)
  clear hw1 hK hC hD
  replace hc := Lib.hid hc
  replace hd := Lib.hid hd
  go_wp2_with fail
  refine (fits_calls A c L w1 HC.out hc.out).mono ?_
  rintro e w2 ⟨rfl, hb_⟩
  try replace hb_ := Drawn0.below hb_
  replace HC := Lib.hid (Kd.C_below HC.out hb_)
  replace HK := Lib.hid (HK.out.below hb_)
  replace HD := Lib.hid (CD.below HD.out hb_)
  replace HQ := Lib.hid (AskAt.below HQ.out hb_)
  replace HB := Lib.hid (HB.out.trans (Below.mono hb_ HB.out.size))
  clear hb_
  cases hfit : fitsB L with
  | false =>
    replace hfit := Lib.hid hfit
    go_wp2_with fail
    refine (alive_calls w2 HK.out).mono ?_
    rintro e wz ⟨rfl, hb_⟩
    have HBz := Lib.hid (HB.out.trans (Below.mono hb_ HB.out.size))
    clear hb_
    go_wp2_with fail
    go_ret
    exact ⟨rfl, HBz.out⟩
  | true =>
    obtain ⟨hL24, hLs⟩ := fits_of hfit
    replace hfit := Lib.hid hfit
    by_cases hs : (s.size : Int) > 1200
    · skip
      go_wp2_with fail
      refine (alive_calls w2 HK.out).mono ?_
      rintro e wz ⟨rfl, hb_⟩
      have HBz := Lib.hid (HB.out.trans (Below.mono hb_ HB.out.size))
      clear hb_
      go_wp2_with fail
      go_ret
      exact ⟨rfl, HBz.out⟩
    · have hs' : decide ((s.size : Int) > 1200) = false := decF hs
      by_cases hp : (ps.length : Int) > 24
      · skip
        have f0 := HQ.out.c0
        have f66 := HQ.out.c66
        go_wp2_with fail
        refine (alive_calls w2 HK.out).mono ?_
        rintro e wz ⟨rfl, hb_⟩
        have HBz := Lib.hid (HB.out.trans (Below.mono hb_ HB.out.size))
        clear hb_
        go_wp2_with fail
        go_ret
        exact ⟨rfl, HBz.out⟩
      · have hp' : decide ((ps.length : Int) > 24) = false := decF hp
        have f0 := HQ.out.c0
        have f66 := HQ.out.c66
        go_wp2_with fail
        clear f0 f66
        refine (rwrong_calls A c L w2 HC.out hc.out).mono ?_
        rintro e w3 ⟨rfl, hb_⟩
        try replace hb_ := Drawn0.below hb_
        replace HC := Lib.hid (Kd.C_below HC.out hb_)
        replace HK := Lib.hid (HK.out.below hb_)
        replace HD := Lib.hid (CD.below HD.out hb_)
        replace HQ := Lib.hid (AskAt.below HQ.out hb_)
        replace HB := Lib.hid (HB.out.trans (Below.mono hb_ HB.out.size))
        clear hb_
        rcases wrong_01 L with hw | hw
        · rw [hw]
          have f0 := HQ.out.c0
          have f66 := HQ.out.c66
          by_cases hI0 : I < 0
          · skip
            go_wp2_with fail
            refine (alive_calls w3 HK.out).mono ?_
            rintro e wz ⟨rfl, hb_⟩
            have HBz := Lib.hid (HB.out.trans (Below.mono hb_ HB.out.size))
            clear hb_
            go_wp2_with fail
            go_ret
            exact ⟨rfl, HBz.out⟩
          · have hI0' : decide (I < 0) = false := decF hI0
            by_cases hI1 : (L.length : Int) ≤ I
            · skip
              go_wp2_with fail
              refine (alive_calls w3 HK.out).mono ?_
              rintro e wz ⟨rfl, hb_⟩
              have HBz := Lib.hid (HB.out.trans (Below.mono hb_ HB.out.size))
              clear hb_
              go_wp2_with fail
              go_ret
              exact ⟨rfl, HBz.out⟩
            · have hI1' : decide ((L.length : Int) ≤ I) = false := decF hI1
              obtain ⟨i, rfl⟩ : ∃ i : Nat, I = i := ⟨I.toNat, by omega⟩
              have hi : i < L.length := by omega
              have hi' : (i : Int) < (L.length : Int) := by omega
              obtain ⟨t, ht⟩ : ∃ t, L[i]? = some t := ⟨_, List.getElem?_eq_getElem hi⟩
              have kroot := fun W hk hW => tRoot_ok A c L W hW hc.out hw hk
              have kpath := fun W hk hW => tPath_ok A c L i W hW hc.out hw hi hk
              have hRl := rlen (bl L)
              have hsnd := fun hne hV => sound_pure L i s t ps ht hne hV
              have hpl := path_le (bl L).length (bl L) i (Nat.le_refl _)
              rw [bl_len] at hpl
              generalize Tr.root alg (bl L) = R at kroot hRl hsnd
              generalize hQ : (Tr.path alg (bl L) i).reverse = qs at kpath hsnd
              have hql : qs.length ≤ 24 := by rw [← hQ, List.length_reverse]; omega
              clear hQ hpl
              have h1s := hLs t (List.mem_of_getElem? ht)
              replace kroot := Lib.hid kroot
              replace kpath := Lib.hid kpath
              replace hRl := Lib.hid hRl
              replace hsnd := Lib.hid hsnd
              replace hw := Lib.hid hw
              replace ht := Lib.hid ht
              replace hLs := Lib.hid hLs
              go_wp2_with fail
              clear f0 f66
              refine (kroot.out w3 HK.out HC.out).mono ?_
              rintro e w4 ⟨rfl, hb_⟩
              try replace hb_ := Drawn0.below hb_
              replace HC := Lib.hid (Kd.C_below HC.out hb_)
              replace HK := Lib.hid (HK.out.below hb_)
              replace HD := Lib.hid (CD.below HD.out hb_)
              replace HQ := Lib.hid (AskAt.below HQ.out hb_)
              replace HB := Lib.hid (HB.out.trans (Below.mono hb_ HB.out.size))
              clear hb_
              go_upto_region 5 with (guard_target = wpList _ _ _ (⟨none, _, _, _, _, _⟩ :: _) _ _; refine wpList_store_dig rfl (.tmp 8) (.tmp 53) rfl w4.heap.size rfl R hRl.out rfl _ _ (heap_alloc_last _ _) zrow ?_; intro w5 h5 _ hB5)
              have hb5 : Below w4.heap.size w4 w5 := hB5 ((Below.refl _ _).alloc (Nat.le_refl _) _) (Nat.le_refl _)
              have H2 : Hid (DigAt w4.heap.size R w5) := h5
              replace HC := Lib.hid (Kd.C_below HC.out hb5)
              replace HK := Lib.hid (HK.out.below hb5)
              replace HD := Lib.hid (CD.below HD.out hb5)
              replace HQ := Lib.hid (AskAt.below HQ.out hb5)
              replace HB := Lib.hid (HB.out.trans (Below.mono hb5 HB.out.size))
              clear hb5 hB5 h5
              generalize w4.heap.size = b8 at H2 ⊢
              have f0 := HQ.out.c0
              have f66 := HQ.out.c66
              go_wp2_with fail
              clear f0 f66
              refine (kpath.out w5 HK.out HC.out).mono ?_
              rintro e w6 ⟨v, rfl, hv, hb_⟩
              obtain ⟨A4, c4, rfl, hc4, H4⟩ := hv.reads
              replace H4 := Lib.hid H4
              replace hc4 := Lib.hid hc4
              replace HC := Lib.hid (Kd.C_below HC.out hb_)
              replace HK := Lib.hid (HK.out.below hb_)
              replace HD := Lib.hid (CD.below HD.out hb_)
              replace HQ := Lib.hid (AskAt.below HQ.out hb_)
              replace HB := Lib.hid (HB.out.trans (Below.mono hb_ HB.out.size))
              replace H2 := Lib.hid (DigAt.below H2.out hb_)
              clear hb_ hv
              have f0 := HQ.out.c0
              have f66 := HQ.out.c66
              go_wp2_with (guard_target = wpList _ _ _ (⟨some 73, _, _, _, _, _⟩ :: _) _ _; refine wpList_load_dig rfl (.tmp 8) rfl b8 rfl R hRl.out _ _ H2.out ?_)
              clear f0 f66
              refine (tCheckPath_calls s (by omega) (i : Int) (L.length : Int) R hRl.out ps A1 c1 w6 HD.out hd.out HK.out).mono ?_
              rintro e w7 ⟨rfl, hb_⟩
              replace HC := Lib.hid (Kd.C_below HC.out hb_)
              replace HK := Lib.hid (HK.out.below hb_)
              replace HD := Lib.hid (CD.below HD.out hb_)
              replace HQ := Lib.hid (AskAt.below HQ.out hb_)
              replace HB := Lib.hid (HB.out.trans (Below.mono hb_ HB.out.size))
              replace H2 := Lib.hid (DigAt.below H2.out hb_)
              replace H4 := Lib.hid (CD.below H4.out hb_)
              clear hb_
              cases hV : pathV s.data.toList (i : Int) (L.length : Int) R ps with
              | false =>
                replace hV := Lib.hid hV
                go_wp2_with fail
                refine (alive_calls w7 HK.out).mono ?_
                rintro e wz ⟨rfl, hb_⟩
                have HBz := Lib.hid (HB.out.trans (Below.mono hb_ HB.out.size))
                clear hb_
                go_wp2_with fail
                go_ret
                exact ⟨rfl, HBz.out⟩
              | true =>
                replace hsnd := Lib.hid (fun hne => hsnd.out hne hV)
                replace hV := Lib.hid hV
                obtain ⟨ad, hA, hcell⟩ := Kd.at_string HC.out (i : Int) (by omega) (by omega)
                have hrd := rd_at L i hi
                have hti : L[i] = t := by
                  have := ht.out
                  rw [List.getElem?_eq_getElem hi] at this
                  exact Option.some.inj this
                rw [Int.toNat_natCast, hrd, hti] at hcell
                subst hA
                by_cases hst : s = t
                · subst hst
                  replace hti := Lib.hid hti
                  have f0 := HQ.out.c0
                  have f66 := HQ.out.c66
                  go_wp2_with fail
                  refine (alive_calls w7 HK.out).mono ?_
                  rintro e wz ⟨rfl, hb_⟩
                  have HBz := Lib.hid (HB.out.trans (Below.mono hb_ HB.out.size))
                  clear hb_
                  go_wp2_with fail
                  go_ret
                  exact ⟨rfl, HBz.out⟩
                · replace hti := Lib.hid hti
                  obtain ⟨hlen, hfound⟩ := hsnd.out hst
                  obtain ⟨ad', hA', hcell8⟩ : ∃ ad', some ad = some ad' ∧ ∀ W, Below w7.heap.size w7 W → W.cell? (ad'.add i) = some (.string t) := ⟨ad, rfl, fun W hW => by
                    obtain ⟨ad2, hA2, hc2⟩ := Kd.at_string (Kd.C_below HC.out hW) (i : Int) (by omega) (by omega)
                    cases hA2
                    rw [Int.toNat_natCast, rd_at L i hi, hti.out] at hc2
                    exact hc2⟩
                  cases hA'
                  replace hcell8 := Lib.hid hcell8
                  have kch1 := fun W hW hk => chain_calls s (by omega) i L.length hi (by omega) ps A1 c1 W hW hd.out hk
                  have kch2 := fun W hW hk => chain_calls t (by omega) i L.length hi (by omega) qs A4 c4 W hW hc4.out hk
                  have hP1 := madeP_ok ⟨s, zDig, zDig⟩ ⟨zDig_len, zDig_len⟩ (leafP s.data.toList) (Tr.sides i L.length).reverse ps (sumL_len _) HD.out.all
                  have hP2 := madeP_ok ⟨t, zDig, zDig⟩ ⟨zDig_len, zDig_len⟩ (leafP t.data.toList) (Tr.sides i L.length).reverse qs (sumL_len _) H4.out.all
                  generalize madeP ⟨s, zDig, zDig⟩ (leafP s.data.toList) (Tr.sides i L.length).reverse ps = M1 at kch1 hfound hP1
                  generalize madeP ⟨t, zDig, zDig⟩ (leafP t.data.toList) (Tr.sides i L.length).reverse qs = M2 at kch2 hfound hP2
                  generalize Tr.chainD alg (leafP s.data.toList) (Tr.sides i L.length).reverse ps = X1 at kch1 hfound
                  generalize Tr.chainD alg (leafP t.data.toList) (Tr.sides i L.length).reverse qs = X2 at kch2 hfound
                  replace hlen := Lib.hid hlen
                  replace hfound := Lib.hid hfound
                  replace kch1 := Lib.hid kch1
                  replace kch2 := Lib.hid kch2
                  replace hP1 := Lib.hid hP1
                  replace hP2 := Lib.hid hP2
                  have hnd : s.data.toList ≠ t.data.toList := fun h => hst (str_inj h)
                  have hs1 : (s.data.toList == t.data.toList) = false := beq_eq_false_iff_ne.2 hnd
                  have hs2 : (s.toList == t.toList) = false := by rw [ByteArray.toList_eq, ByteArray.toList_eq]; exact hs1
                  have hs3 : decide (s = t) = false := decF hst
                  have f0 := HQ.out.c0
                  have f66 := HQ.out.c66
                  go_wp2_with fail
                  clear f0 f66
                  clear hcell hs1 hs2 hs3
                  have HB7 := Lib.hid (Below.refl w7.heap.size w7)
                  refine (kch1.out w7 HD.out HK.out).mono ?_
                  rintro e w8 ⟨u1, u2, rfl, hu1, hu2, hb_⟩
                  obtain ⟨B1, d1, rfl, hd1, G1⟩ := hu1.reads
                  obtain ⟨B2, d2, rfl, hd2, G2⟩ := hu2.reads
                  replace G1 := Lib.hid G1
                  replace G2 := Lib.hid G2
                  replace HB7 := Lib.hid (HB7.out.trans (Below.mono hb_ HB7.out.size))
                  replace HC := Lib.hid (Kd.C_below HC.out hb_)
                  replace HK := Lib.hid (HK.out.below hb_)
                  replace HD := Lib.hid (CD.below HD.out hb_)
                  replace HQ := Lib.hid (AskAt.below HQ.out hb_)
                  replace HB := Lib.hid (HB.out.trans (Below.mono hb_ HB.out.size))
                  replace H2 := Lib.hid (DigAt.below H2.out hb_)
                  replace H4 := Lib.hid (CD.below H4.out hb_)
                  clear hb_ hu1 hu2 hd1 hd2
                  have f0 := HQ.out.c0
                  have f66 := HQ.out.c66
                  go_upto_region 11 with fail
                  clear f0 f66
                  refine wp_region_held (S := ST3 ⟨w.heap.size, 0, none⟩ (i : Int) (ad.add i) t) (by kernel_rfl) ?_
                  change wpAnyH _ _ _ _ _ _ _ _ w8.drew
                  replace HC : Hid (Kd.C Kd.string w8.drew (some ad) L.length L) := HC
                  replace HK : Hid (KAt w8.drew) := HK
                  replace HB := Lib.hid HB.out.drew
                  replace HB7 := Lib.hid HB7.out.drew
                  replace H2 : Hid (DigAt b8 R w8.drew) := H2
                  replace H4 : Hid (CD A4 qs w8.drew) := H4
                  replace HD : Hid (CD A1 ps w8.drew) := HD
                  replace HQ : Hid (AskAt w.heap.size (i : Int) N ra rb (.slice A1 ps.length c1) w8.drew) := HQ
                  replace G1 : Hid (CP B1 M1 w8.drew) := G1
                  replace G2 : Hid (CD B2 X1 w8.drew) := G2
                  generalize w8.drew = x8 at HC HK HB HB7 H2 H4 HD HQ G1 G2 ⊢
                  have hS : ST3 ⟨w.heap.size, 0, none⟩ (i : Int) (ad.add i) t x8 := ⟨HQ.out.c0, hcell8.out x8 HB7.out⟩
                  refine wpAnyH_take (i := 0) (v := ?_) rfl (by kernel_rfl) (by kernel_rfl) (by kernel_rfl) (fun _ _ _ h => h) (Or.inl ⟨by rfl, ?_⟩) hS ?_
                  rotate_left
                  · intro v _; go_simp; first | done | with_reducible rfl
                  rotate_left
                  simp only [List.getElem_toArray, List.getElem_cons_succ, List.getElem_cons_zero, Act.put, List.setIfInBounds_toArray, List.set_cons_zero, List.set_cons_succ]
                  refine wpAnyH_take (i := 1) (v := ?_) rfl (by kernel_rfl) (by kernel_rfl) (by kernel_rfl) (fun _ _ _ h => h) (Or.inl ⟨by rfl, ?_⟩) hS ?_
                  rotate_left
                  · intro v _; go_simp; first | done | with_reducible rfl
                  rotate_left
                  simp only [List.getElem_toArray, List.getElem_cons_succ, List.getElem_cons_zero, Act.put, List.setIfInBounds_toArray, List.set_cons_zero, List.set_cons_succ]
                  refine wpAnyH_take (i := 2) (v := _) rfl (by kernel_rfl) (by kernel_rfl) (by kernel_rfl) (fun _ _ _ h => h) (yieldsIf_cell (by rfl) 3 (.tmp 101) rfl ⟨w.heap.size, 0, none⟩ rfl (.int .i64 (i : Int)) agg3 (fun _ h => h.1)) hS ?_
                  simp only [List.getElem_toArray, List.getElem_cons_succ, List.getElem_cons_zero, Act.put, List.setIfInBounds_toArray, List.set_cons_zero, List.set_cons_succ]
                  refine wpAnyH_take (i := 3) (v := ?_) rfl (by kernel_rfl) (by kernel_rfl) (by kernel_rfl) (fun _ _ _ h => h) (Or.inl ⟨by rfl, ?_⟩) hS ?_
                  rotate_left
                  · intro v _; go_simp; first | done | with_reducible rfl
                  rotate_left
                  simp only [List.getElem_toArray, List.getElem_cons_succ, List.getElem_cons_zero, Act.put, List.setIfInBounds_toArray, List.set_cons_zero, List.set_cons_succ]
                  refine wpAnyH_take (i := 4) (v := _) rfl (by kernel_rfl) (by kernel_rfl) (by kernel_rfl) (fun _ _ _ h => h) (yieldsIf_cell (by rfl) 9 (.tmp 103) rfl (ad.add i) rfl (.string t) agg9 (fun _ h => h.2)) hS ?_
                  simp only [List.getElem_toArray, List.getElem_cons_succ, List.getElem_cons_zero, Act.put, List.setIfInBounds_toArray, List.set_cons_zero, List.set_cons_succ]
                  refine wpAnyH_take (i := 5) (v := ?_) rfl (by kernel_rfl) (by kernel_rfl) (by kernel_rfl) (fun _ _ _ h => h) (Or.inl ⟨by rfl, ?_⟩) hS ?_
                  rotate_left
                  · intro v _; go_simp; first | done | with_reducible rfl
                  rotate_left
                  simp only [List.getElem_toArray, List.getElem_cons_succ, List.getElem_cons_zero, Act.put, List.setIfInBounds_toArray, List.set_cons_zero, List.set_cons_succ]
                  refine wpAnyH_take (i := 6) (v := _) rfl (by kernel_rfl) (by kernel_rfl) (by kernel_rfl) (fun _ _ _ h => h) (yieldsIf_cell (by rfl) 3 (.tmp 105) rfl ⟨w.heap.size, 0, none⟩ rfl (.int .i64 (i : Int)) agg3 (fun _ h => h.1)) hS ?_
                  simp only [List.getElem_toArray, List.getElem_cons_succ, List.getElem_cons_zero, Act.put, List.setIfInBounds_toArray, List.set_cons_zero, List.set_cons_succ]
                  refine wpAnyH_take (i := 7) (v := ?_) rfl (by kernel_rfl) (by kernel_rfl) (by kernel_rfl) (fun _ _ _ h => h) (Or.inl ⟨by rfl, ?_⟩) hS ?_
                  rotate_left
                  · intro v _; go_simp; first | done | with_reducible rfl
                  rotate_left
                  simp only [List.getElem_toArray, List.getElem_cons_succ, List.getElem_cons_zero, Act.put, List.setIfInBounds_toArray, List.set_cons_zero, List.set_cons_succ]
                  refine wpAnyH_take (i := 8) (v := ?_) rfl (by kernel_rfl) (by kernel_rfl) (by kernel_rfl) (fun _ _ _ h => h) (Or.inl ⟨by rfl, ?_⟩) hS ?_
                  rotate_left
                  · intro v _; go_simp; first | done | with_reducible rfl
                  rotate_left
                  simp only [List.getElem_toArray, List.getElem_cons_succ, List.getElem_cons_zero, Act.put, List.setIfInBounds_toArray, List.set_cons_zero, List.set_cons_succ]
                  refine wpAnyH_take (i := 9) (v := ?_) rfl (by kernel_rfl) (by kernel_rfl) (by kernel_rfl) (fun _ _ _ h => h) (Or.inl ⟨by rfl, ?_⟩) hS ?_
                  rotate_left
                  · intro v _; go_simp; first | done | with_reducible rfl
                  rotate_left
                  simp only [List.getElem_toArray, List.getElem_cons_succ, List.getElem_cons_zero, Act.put, List.setIfInBounds_toArray, List.set_cons_zero, List.set_cons_succ]
                  refine wpAnyH_all (rs := [10]) (by kernel_rfl) (by simp) ?_
                  intro i hi
                  simp only [List.mem_cons, List.not_mem_nil, or_false] at hi
                  subst hi
                  refine wpOp_wp rfl (by rfl) ?_
                  go_simp
                  refine (kch2.out x8 H4.out HK.out).mono ?_
                  rintro e w9 ⟨u1, u2, rfl, hu1, hu2, hb_⟩
                  obtain ⟨B3, d3, rfl, hd3, G3⟩ := hu1.reads
                  obtain ⟨B4, d4, rfl, hd4, G4⟩ := hu2.reads
                  replace G3 := Lib.hid G3
                  replace G4 := Lib.hid G4
                  replace G1 := Lib.hid (G1.out.below hb_)
                  replace G2 := Lib.hid (G2.out.below hb_)
                  replace HB7 := Lib.hid (HB7.out.trans (Below.mono hb_ HB7.out.size))
                  replace HC := Lib.hid (Kd.C_below HC.out hb_)
                  replace HK := Lib.hid (HK.out.below hb_)
                  replace HD := Lib.hid (CD.below HD.out hb_)
                  replace HQ := Lib.hid (AskAt.below HQ.out hb_)
                  replace HB := Lib.hid (HB.out.trans (Below.mono hb_ HB.out.size))
                  replace H2 := Lib.hid (DigAt.below H2.out hb_)
                  replace H4 := Lib.hid (CD.below H4.out hb_)
                  clear hb_ hu1 hu2 hd3 hd4 hS
                  have hS : ST3 ⟨w.heap.size, 0, none⟩ (i : Int) (ad.add i) t w9 := ⟨HQ.out.c0, hcell8.out w9 HB7.out⟩
                  refine ⟨hS, ?_⟩
                  try simp only [List.getElem_toArray, List.getElem_cons_succ, List.getElem_cons_zero, Act.put, List.setIfInBounds_toArray, List.set_cons_zero, List.set_cons_succ]
                  refine wpAnyH_take (i := 11) (v := ?_) rfl (by kernel_rfl) (by kernel_rfl) (by kernel_rfl) (fun _ _ _ h => h) (Or.inl ⟨by rfl, ?_⟩) hS ?_
                  rotate_left
                  · intro v _; go_simp; first | done | with_reducible rfl
                  rotate_left
                  simp only [List.getElem_toArray, List.getElem_cons_succ, List.getElem_cons_zero, Act.put, List.setIfInBounds_toArray, List.set_cons_zero, List.set_cons_succ]
                  refine wpAnyH_take (i := 12) (v := ?_) rfl (by kernel_rfl) (by kernel_rfl) (by kernel_rfl) (fun _ _ _ h => h) (Or.inl ⟨by rfl, ?_⟩) hS ?_
                  rotate_left
                  · intro v _; go_simp; first | done | with_reducible rfl
                  rotate_left
                  simp only [List.getElem_toArray, List.getElem_cons_succ, List.getElem_cons_zero, Act.put, List.setIfInBounds_toArray, List.set_cons_zero, List.set_cons_succ]
                  refine wpAnyH_take (i := 13) (v := ?_) rfl (by kernel_rfl) (by kernel_rfl) (by kernel_rfl) (fun _ _ _ h => h) (Or.inl ⟨by rfl, ?_⟩) hS ?_
                  rotate_left
                  · intro v _; go_simp; first | done | with_reducible rfl
                  rotate_left
                  simp only [List.getElem_toArray, List.getElem_cons_succ, List.getElem_cons_zero, Act.put, List.setIfInBounds_toArray, List.set_cons_zero, List.set_cons_succ]
                  refine wpAnyH_take (i := 14) (v := ?_) rfl (by kernel_rfl) (by kernel_rfl) (by kernel_rfl) (fun _ _ _ h => h) (Or.inl ⟨by rfl, ?_⟩) hS ?_
                  rotate_left
                  · intro v _; go_simp; first | done | with_reducible rfl
                  rotate_left
                  simp only [List.getElem_toArray, List.getElem_cons_succ, List.getElem_cons_zero, Act.put, List.setIfInBounds_toArray, List.set_cons_zero, List.set_cons_succ]
                  refine wpAnyH_take (i := 15) (v := ?_) rfl (by kernel_rfl) (by kernel_rfl) (by kernel_rfl) (fun _ _ _ h => h) (Or.inl ⟨by rfl, ?_⟩) hS ?_
                  rotate_left
                  · intro v _; go_simp; first | done | with_reducible rfl
                  rotate_left
                  simp only [List.getElem_toArray, List.getElem_cons_succ, List.getElem_cons_zero, Act.put, List.setIfInBounds_toArray, List.set_cons_zero, List.set_cons_succ]
                  refine wpAnyH_done (by kernel_rfl) ?_ _
                  clear hS
                  go_wp2_with fail
                  refine (twice_calls B1 B2 B3 B4 d1 d2 d3 d4 M1 X1 M2 X2 w9 G1.out G2.out G3.out G4.out hP1.out hP2.out).mono ?_
                  rintro e w10 ⟨rfl, hb_⟩
                  rw [hfound.out]
                  replace HC := Lib.hid (Kd.C_below HC.out hb_)
                  replace HK := Lib.hid (HK.out.below hb_)
                  replace HD := Lib.hid (CD.below HD.out hb_)
                  replace HQ := Lib.hid (AskAt.below HQ.out hb_)
                  replace HB := Lib.hid (HB.out.trans (Below.mono hb_ HB.out.size))
                  clear hb_
                  go_wp2_with fail
                  refine (alive_calls w10 HK.out).mono ?_
                  rintro e w11 ⟨rfl, hb_⟩
                  try replace hb_ := Drawn0.below hb_
                  replace HC := Lib.hid (Kd.C_below HC.out hb_)
                  replace HK := Lib.hid (HK.out.below hb_)
                  replace HD := Lib.hid (CD.below HD.out hb_)
                  replace HQ := Lib.hid (AskAt.below HQ.out hb_)
                  replace HB := Lib.hid (HB.out.trans (Below.mono hb_ HB.out.size))
                  clear hb_
                  have f0 := HQ.out.c0
                  have f66 := HQ.out.c66
                  have hlen1 : (ps.length : Int) = (qs.length : Int) := by rw [hlen.out]
                  have hlen2 := hlen.out
                  go_wp2_with fail
                  go_ret
                  exact ⟨rfl, HB.out⟩
        · rw [hw]
          go_wp2_with fail
          refine (alive_calls w3 HK.out).mono ?_
          rintro e wz ⟨rfl, hb_⟩
          have HBz := Lib.hid (HB.out.trans (Below.mono hb_ HB.out.size))
          clear hb_
          go_wp2_with fail
          go_ret
          exact ⟨rfl, HBz.out⟩
end Go.Proofs.YtldpnmebjnkjeaaDoor.TrW
namespace Go.Proofs.YtldpnmebjnkjeaaDoor.ShaCard
open Go.ChangeShapes Go.WideShapes Go.ChangeAt Go.RowKit Go.Proofs.YtldpnmebjnkjeaaDoorW.PrintWords Go.Proofs.YtldpnmebjnkjeaaDoor.Sha
set_option linter.unusedVariables false
theorem gTab : Tryd.prog.globalNamed "cashbook/hash.k" = some 0 := by kernel_rfl
theorem gTabType : (Tryd.prog.globals[0]?).map (·.type) = some 136 := by kernel_rfl
theorem undT : Tryd.prog.underlying 136 = some (.array 64 28) := by kernel_rfl
theorem undU : Tryd.prog.underlying 28 = some (.int .u32) := by kernel_rfl
theorem cellsT : Tryd.prog.cellsOf 136 = 64 := by kernel_rfl
theorem cellsU : Tryd.prog.cellsOf 28 = 1 := by kernel_rfl
theorem tab_of {P : Program} {W : World} {name : String} {k : IntKind} {zs : List Int} {g : Nat} {t e : TypeId} {n : Nat}
    (hg : P.globalNamed name = some g) (hty : (P.globals[g]?).map (·.type) = some t) (ht : P.underlying t = some (.array n e)) (he : P.underlying e = some (.int k)) (hce : P.cellsOf e = 1) (hct : P.cellsOf t = n)
    (h : Lib.VarReads P W name (Lib.tabData k zs)) : Lib.TabIs P W name k zs := by
  obtain ⟨g', t', cs, fuel, p, hg', ht', hvar, hd⟩ := h
  obtain rfl := Option.some.inj (hg.symm.trans hg')
  obtain rfl := Option.some.inj (hty.symm.trans ht')
  unfold Lib.TabIs
  rw [hvar, ← Lib.cells_of_tab ht he hce hct hd]
def ks : List Int := [1116352408, 1899447441, 3049323471, 3921009573, 961987163, 1508970993, 2453635748, 2870763221, 3624381080, 310598401, 607225278, 1426881987, 1925078388, 2162078206, 2614888103, 3248222580, 3835390401, 4022224774, 264347078, 604807628, 770255983, 1249150122, 1555081692, 1996064986, 2554220882, 2821834349, 2952996808, 3210313671, 3336571891, 3584528711, 113926993, 338241895, 666307205, 773529912, 1294757372, 1396182291, 1695183700, 1986661051, 2177026350, 2456956037, 2730485921, 2820302411, 3259730800, 3345764771, 3516065817, 3600352804, 4094571909, 275423344, 430227734, 506948616, 659060556, 883997877, 958139571, 1322822218, 1537002063, 1747873779, 1955562222, 2024104815, 2227730452, 2361852424, 2428436474, 2756734187, 3204031479, 3329325298]
theorem ks_eq : (ks.map fun z => Value.int .u32 z) = kT.map wv := by rfl
theorem kAt {W : World} (h0 : laidMetH Tryd.prog [("cashbook/hash.k", Rows.laid_cashbook_hash_k)] W) : KAt W := by
  have h : laidMet Tryd.prog [("cashbook/hash.k", Rows.laid_cashbook_hash_k)] W := h0
  have hb : Lib.TabIs Tryd.prog W "cashbook/hash.k" .u32 ks := tab_of gTab gTabType undT undU cellsU cellsT (Lib.laidMet.reads h (.head _))
  unfold Lib.TabIs World.var? at hb
  simp only [gTab, Option.bind_some] at hb
  rw [ks_eq] at hb
  unfold KAt
  cases hq : W.heap[0]? with
  | none => rw [hq] at hb; cases hb
  | some o =>
    rw [hq] at hb
    cases o with
    | cells cs t fr =>
      obtain rfl := Option.some.inj hb
      exact ⟨t, fr, rfl⟩
    | _ => cases hb
/-- A world for the witnesses: the settled one, the table holding what its initialiser lays. -/
noncomputable def laidWorld (os : Os) : World :=
  { World.holding Tryd.prog os ⟨#[], #[], []⟩ with heap := (World.holding Tryd.prog os ⟨#[], #[], []⟩).heap.modify 0 fun
      | .cells _ t frozen => .cells #[.int .u32 1116352408, .int .u32 1899447441, .int .u32 3049323471, .int .u32 3921009573, .int .u32 961987163, .int .u32 1508970993, .int .u32 2453635748, .int .u32 2870763221, .int .u32 3624381080, .int .u32 310598401, .int .u32 607225278, .int .u32 1426881987, .int .u32 1925078388, .int .u32 2162078206, .int .u32 2614888103, .int .u32 3248222580, .int .u32 3835390401, .int .u32 4022224774, .int .u32 264347078, .int .u32 604807628, .int .u32 770255983, .int .u32 1249150122, .int .u32 1555081692, .int .u32 1996064986, .int .u32 2554220882, .int .u32 2821834349, .int .u32 2952996808, .int .u32 3210313671, .int .u32 3336571891, .int .u32 3584528711, .int .u32 113926993, .int .u32 338241895, .int .u32 666307205, .int .u32 773529912, .int .u32 1294757372, .int .u32 1396182291, .int .u32 1695183700, .int .u32 1986661051, .int .u32 2177026350, .int .u32 2456956037, .int .u32 2730485921, .int .u32 2820302411, .int .u32 3259730800, .int .u32 3345764771, .int .u32 3516065817, .int .u32 3600352804, .int .u32 4094571909, .int .u32 275423344, .int .u32 430227734, .int .u32 506948616, .int .u32 659060556, .int .u32 883997877, .int .u32 958139571, .int .u32 1322822218, .int .u32 1537002063, .int .u32 1747873779, .int .u32 1955562222, .int .u32 2024104815, .int .u32 2227730452, .int .u32 2361852424, .int .u32 2428436474, .int .u32 2756734187, .int .u32 3204031479, .int .u32 3329325298] t frozen
      | o => o }
end Go.Proofs.YtldpnmebjnkjeaaDoor.ShaCard
namespace Go.Proofs.YtldpnmebjnkjeaaDoor.Op
open Go.RowKit Go.Proofs.YtldpnmebjnkjeaaDoorW.PrintWords Go.ChangeShapes
set_option linter.unusedVariables false
set_option linter.unusedSimpArgs false
set_option linter.unusedSectionVars false

def Opens {α : Type} (P : Program) (t : TypeId) (d : Kd α) (I : α → Prop) : Prop :=
  ∀ {H : Type} (enc : TypeId × Value → H) (w : World) (base : Nat) (spare : Nat → Bool) (held : Bool) (fuel : Nat) (cs : List Value) (x : DataW H × List MemPlace), DataW.trod enc P w base spare held fuel t cs = some x → ∃ a, d.K w a cs ∧ I a

variable {α β : Type} {P : Program} {t : TypeId}

theorem opens_int {k : IntKind} (ht : P.underlying t = some (.int k)) : Opens P t (Kd.int k) (fun x => (Lit.int k x).wf = true) := by
  intro H enc w base spare held fuel cs x h
  cases fuel with
  | zero => simp [DataW.trod] at h
  | succ n =>
    unfold DataW.trod at h
    rw [ht] at h
    split at h <;> simp_all
    rename_i k' n _
    obtain ⟨⟨rfl, hw⟩, _⟩ := h
    exact ⟨n, rfl, hw⟩
theorem opens_string (ht : P.underlying t = some .string) : Opens P t Kd.string (fun s => s.size ≤ maxLen) := by
  intro H enc w base spare held fuel cs x h
  cases fuel with
  | zero => simp [DataW.trod] at h
  | succ n =>
    unfold DataW.trod at h
    rw [ht] at h
    split at h <;> simp_all
    exact ⟨_, rfl, h.1⟩
theorem cells_of {w : World} {base : Nat} {a : Addr} {n : Nat} {cs : List Value} (h : w.cells? base a n = some cs) : cs.length = n ∧ ∀ i u, cs[i]? = some u → w.cell? (a.add i) = some u := by
  obtain ⟨_, hl, hat⟩ := World.cells?_some h
  refine ⟨hl, fun i u hu => ?_⟩
  have hi : i < n := by
    have := (List.getElem?_eq_some_iff.1 hu).1; omega
  rw [hat i hi]; exact hu
theorem opens_slice {e : TypeId} {d : Kd α} {I : α → Prop} (ht : P.underlying t = some (.slice e)) (o : Opens P e d I) (hc : P.cellsOf e = d.sz) :
    Opens P t (Kd.slice e d) (fun l => l.length ≤ maxLen ∧ ∀ x ∈ l, I x) := by
  intro H enc w base spare held fuel cs x h
  rcases DataW.trod_slice ht h with ⟨rfl, _⟩ | ⟨a, len, cap, elems, rest, n, _, rfl, _, _, hl, hm, hlen, hel, hsp⟩
  · exact ⟨[], ⟨none, 0, rfl, Nat.le_refl _, rfl, Nat.zero_le _, fun h => absurd h (by simp)⟩, Nat.zero_le _, fun _ h => by cases h⟩
  · have hall : ∀ i, i < len → ∃ (y : α) (c : List Value), c.length = d.sz ∧ d.K w y c ∧ I y ∧ ∀ j u, c[j]? = some u → w.cell? (a.add (i * d.sz + j)) = some u := by
      intro i hi
      have h1 := hel i hi
      have h2 : elems[i]? = some (elems[i]'(by omega)) := List.getElem?_eq_getElem (by omega)
      rw [h2] at h1
      obtain ⟨c, hcs, htr⟩ := Option.bind_eq_some_iff.1 h1
      obtain ⟨y, hK, hI⟩ := o enc w base spare held n c _ htr
      rw [hc] at hcs
      obtain ⟨hcl, hat⟩ := cells_of hcs
      refine ⟨y, c, hcl, hK, hI, fun j u hu => ?_⟩
      have := hat j u hu
      rw [← this]
      congr 1
      unfold Addr.add
      by_cases h0 : i * d.sz = 0 <;> by_cases h1 : j = 0 <;> simp [h0, h1]
      all_goals try omega
      all_goals (intro h2; omega)
    have hex : ∃ l : List α, l.length = len ∧ ∀ i y, l[i]? = some y → ∃ c : List Value, c.length = d.sz ∧ d.K w y c ∧ I y ∧ ∀ j u, c[j]? = some u → w.cell? (a.add (i * d.sz + j)) = some u := by
      clear hel hlen h hl hm hsp
      induction len with
      | zero => exact ⟨[], rfl, fun i y h => by simp at h⟩
      | succ m ih =>
        obtain ⟨l, hl, hy⟩ := ih (fun i hi => hall i (by omega))
        obtain ⟨y, c, h1, h2, h3, h4⟩ := hall m (by omega)
        refine ⟨l ++ [y], by simp [hl], fun i z hz => ?_⟩
        by_cases hi : i < l.length
        · rw [List.getElem?_append_left hi] at hz; exact hy i z hz
        · have : i = m := by
            have := (List.getElem?_eq_some_iff.1 hz).1; simp at this; omega
          subst this
          rw [List.getElem?_append_right (by omega)] at hz
          simp [hl] at hz
          subst hz
          exact ⟨c, h1, h2, h3, h4⟩
    obtain ⟨l, hl', hy⟩ := hex
    subst hl'
    refine ⟨l, ⟨some a, cap, rfl, hl, rfl, ?_, fun _ => ⟨a, rfl, fun j p hp => ?_⟩⟩, ?_, fun x hx => ?_⟩
    · unfold maxLen at hm; omega
    · obtain ⟨c, h1, h2, _, h4⟩ := hy j p hp
      exact ⟨c, h1, h2, h4⟩
    · omega
    · obtain ⟨i, hi⟩ := List.mem_iff_getElem?.1 hx
      obtain ⟨c, _, _, h3, _⟩ := hy i x hi
      exact h3

/-- Fields one behind the other. -/
def OpensAt {α : Type} (P : Program) (fs : List Field) (off : Nat) (d : Kd α) (I : α → Prop) : Prop :=
  ∀ {H : Type} (enc : TypeId × Value → H) (w : World) (base : Nat) (spare : Nat → Bool) (held : Bool) (fuel : Nat) (cs : List Value), (∀ f ∈ fs, ∃ y, DataW.trod enc P w base spare held fuel f.type ((cs.drop f.offset).take (P.cellsOf f.type)) = some y) → ∃ a, d.K w a ((cs.drop off).take d.sz) ∧ I a
theorem opensAt_one {f : Field} {d : Kd α} {I : α → Prop} (o : Opens P f.type d I) (hc : P.cellsOf f.type = d.sz) : OpensAt P [f] f.offset d I := by
  intro H enc w base spare held fuel cs h
  obtain ⟨y, hy⟩ := h f (by simp)
  rw [hc] at hy
  exact o enc w base spare held fuel _ y hy
theorem opensAt_cons {f : Field} {fs : List Field} {d : Kd α} {d' : Kd β} {I : α → Prop} {I' : β → Prop} {off' : Nat} (o : Opens P f.type d I) (hc : P.cellsOf f.type = d.sz) (ho : off' = f.offset + d.sz) (o' : OpensAt P fs off' d' I') :
    OpensAt P (f :: fs) f.offset (Kd.pair d d') (fun x => I x.1 ∧ I' x.2) := by
  intro H enc w base spare held fuel cs h
  obtain ⟨a, ha, hI⟩ := opensAt_one o hc enc w base spare held fuel cs (fun g hg => h g (by simp at hg; simp [hg]))
  obtain ⟨b, hb, hI'⟩ := o' enc w base spare held fuel cs (fun g hg => h g (by simp [hg]))
  refine ⟨(a, b), ⟨_, _, ?_, ha, hb⟩, hI, hI'⟩
  show (cs.drop f.offset).take (d.sz + d'.sz) = _
  rw [ho, ← List.drop_drop, ← List.take_append_drop d.sz (List.take (d.sz + d'.sz) (List.drop f.offset cs)), List.take_take, List.drop_take]
  simp
theorem opens_struct {fs : Array Field} {d : Kd α} {I : α → Prop} (ht : P.underlying t = some (.struct fs)) (o : OpensAt P fs.toList 0 d I) (hc : P.cellsOf t = d.sz) (f : β → α) (g : α → β) (hfg : ∀ x, f (g x) = x) :
    Opens P t (Kd.iso d f) (fun x => I (f x)) := by
  intro H enc w base spare held fuel cs x h
  obtain ⟨xs, n, _, _, hlen, hxl, hf⟩ := DataW.trod_struct ht h
  obtain ⟨a, ha, hI⟩ := o enc w base spare held n cs (fun fl hfl => by
    obtain ⟨i, hi⟩ := List.mem_iff_getElem?.1 hfl
    have hi' : fs[i]? = some fl := by rw [← Array.getElem?_toList]; exact hi
    have h1 := hf i fl hi'
    have hlt : i < xs.length := by
      have := (Array.getElem?_eq_some_iff.1 hi').1; omega
    rw [List.getElem?_eq_getElem hlt] at h1
    exact ⟨_, h1⟩)
  rw [List.drop_zero, List.take_of_length_le (by omega)] at ha
  exact ⟨g a, by show d.K w (f (g a)) cs; rw [hfg]; exact ha, by show I (f (g a)); rw [hfg]; exact hI⟩
theorem opens_arr {e n : Nat} {d : Kd α} {I : α → Prop} (ht : P.underlying t = some (.array n e)) (o : Opens P e d I) (hc : P.cellsOf e = d.sz) (hct : P.cellsOf t = n * d.sz) (hs : 0 < d.sz) :
    Opens P t (Kd.arr n d hs) (fun l => ∀ x ∈ l, I x) := by
  intro H enc w base spare held fuel cs x h
  obtain ⟨xs, m, _, _, hlen, hxl, hf⟩ := DataW.trod_array ht h
  have hall : ∀ i, i < n → ∃ y, d.K w y ((cs.drop (i * d.sz)).take d.sz) ∧ I y := by
    intro i hi
    have h1 := hf i hi
    rw [List.getElem?_eq_getElem (by omega), hc] at h1
    exact o enc w base spare held m _ _ h1
  have hex : ∀ k, k ≤ n → ∃ l : List α, l.length = k ∧ ∀ (i : Nat) (y : α), l[i]? = some y → d.K w y ((cs.drop (i * d.sz)).take d.sz) ∧ I y := by
    intro k
    induction k with
    | zero => intro _; exact ⟨[], rfl, fun i y h => by simp at h⟩
    | succ k ih =>
      intro hk
      obtain ⟨l, hl, hy⟩ := ih (by omega)
      obtain ⟨y, h1, h2⟩ := hall k (by omega)
      refine ⟨l ++ [y], by simp [hl], fun i z hz => ?_⟩
      by_cases hi : i < l.length
      · rw [List.getElem?_append_left hi] at hz; exact hy i z hz
      · have : i = k := by
          have := (List.getElem?_eq_some_iff.1 hz).1; simp at this; omega
        subst this
        rw [List.getElem?_append_right (by omega)] at hz
        simp [hl] at hz
        subst hz
        exact ⟨h1, h2⟩
  obtain ⟨l, hl, hy⟩ := hex n (Nat.le_refl _)
  refine ⟨l, ⟨hl, by rw [hlen, hct, hl], fun j p hp => (hy j p hp).1⟩, fun x hx => ?_⟩
  obtain ⟨i, hi⟩ := List.mem_iff_getElem?.1 hx
  exact (hy i x hi).2
end Go.Proofs.YtldpnmebjnkjeaaDoor.Op
namespace Go.Proofs.YtldpnmebjnkjeaaDoor.ShaOpen
open Go.RowKit Go.Proofs.YtldpnmebjnkjeaaDoorW.PrintWords Go.ChangeShapes Go.WideShapes
set_option linter.unusedVariables false
set_option linter.unusedSimpArgs false

theorem und : Tryd.prog.underlying 24 = some (.array 32 5) := by kernel_rfl
set_option maxRecDepth 100000 in
theorem opens_dig : Op.Opens Tryd.prog 24 (Kd.arr 32 (Kd.int .u8) (by decide)) (fun l => ∀ x ∈ l, (Lit.int .u8 x).wf = true) :=
  Op.opens_arr und (Op.opens_int Tryd.underlying5) (by kernel_rfl) (by kernel_rfl) (by decide)
end Go.Proofs.YtldpnmebjnkjeaaDoor.ShaOpen
namespace Go.Proofs.YtldpnmebjnkjeaaDoor.Ref10
open Go.RowKit Go.Proofs.YtldpnmebjnkjeaaDoorW.PrintWords Go.Proofs.YtldpnmebjnkjeaaDoor.PH1 Go.Proofs.YtldpnmebjnkjeaaDoor Go.Proofs.YtldpnmebjnkjeaaDoorW.PrintLast Go.Proofs.YtldpnmebjnkjeaaDoorW.PrintMore
open Go.Proofs.YtldpnmebjnkjeaaDoor.Sha (V8 wv RowU RowX takeP feedP tailL tailL_len digL digL_len sumL sumL_len endP endP_len z32_len hashV fedV)
set_option linter.unusedVariables false
set_option linter.unusedSimpArgs false

def HA (v : V8) (rest : ByteArray) (n : Int) : Array Value := (v.list.map wv ++ [Value.string rest, Value.int .i64 n]).toArray
def HAt (b : Nat) (v : V8) (rest : ByteArray) (n : Int) (w : World) : Prop := w.heap[b]? = some (.cells (HA v rest n) 31 (0, 0))
namespace HAt
variable {b : Nat} {v : V8} {rest : ByteArray} {n : Int} {w w1 : World}
theorem below (h : HAt b v rest n w) (hb : Below w.heap.size w w1) : HAt b v rest n w1 := blk_below h hb
theorem range (h : HAt b v rest n w) : w.rangeAt b 0 (v.list.map wv) := RowX.range (t := 31) (R := [.string rest, .int .i64 n]) h
end HAt
end Go.Proofs.YtldpnmebjnkjeaaDoor.Ref10
namespace Go.Proofs.YtldpnmebjnkjeaaDoor.ShaOpen
open Go.RowKit Go.Proofs.YtldpnmebjnkjeaaDoorW.PrintWords Go.ChangeShapes Go.WideShapes
open Go.Proofs.YtldpnmebjnkjeaaDoor.Sha (V8 wv)
open Go.Proofs.YtldpnmebjnkjeaaDoor.Ref10 (HA)
set_option linter.unusedVariables false
set_option linter.unusedSimpArgs false

theorem okWide_str {P : Program} {w : World} {r : Reach} {base : Nat} {t : TypeId} {fs : Array Field} {v : Value} (ht : P.underlying t = some (.struct fs)) (h : Value.okWide P w r base t v) : ∃ cs, v = .agg cs ∧ cs.size = P.cellsOf t := by
  simp only [Value.okWide, ht] at h
  obtain ⟨cs, h1, h2, _⟩ := h
  exact ⟨cs, h1, h2⟩
end Go.Proofs.YtldpnmebjnkjeaaDoor.ShaOpen
namespace Go.Proofs.YtldpnmebjnkjeaaDoor.TreeOpen
open Go.RowKit Go.Proofs.YtldpnmebjnkjeaaDoorW.PrintWords Go.ChangeShapes Go.WideShapes
open Go.Proofs.YtldpnmebjnkjeaaDoor.TrW
set_option linter.unusedVariables false
set_option linter.unusedSimpArgs false

theorem opens_strs : Op.Opens Tryd.prog 53 (Kd.slice 9 Kd.string) (fun l => l.length ≤ maxLen ∧ ∀ x ∈ l, x.size ≤ maxLen) :=
  Op.opens_slice Tryd.underlying53 (Op.opens_string Tryd.underlying9) (by kernel_rfl)
theorem opens_dig : Op.Opens Tryd.prog 24 kDig (fun x => x.length = 32) := by
  intro H enc w base spare held fuel cs x h
  obtain ⟨xs, hK, hI⟩ := Op.opens_arr (P := Tryd.prog) (t := 24) (e := 5) (n := 32) (d := Kd.int .u8) (show Tryd.prog.underlying 24 = some (.array 32 5) by kernel_rfl) (Op.opens_int (show Tryd.prog.underlying 5 = some (.int .u8) by kernel_rfl)) (by kernel_rfl) (by kernel_rfl) (by decide) enc w base spare held fuel cs x h
  have e : (xs.map fun z => UInt8.ofNat z.toNat).map (fun b => (b.toNat : Int)) = xs := by
    rw [List.map_map]
    refine (List.map_congr_left (g := fun z => z) fun z hz => ?_).trans (List.map_id' xs)
    have hw2 : IntKind.u8.min ≤ z ∧ z ≤ IntKind.u8.max := by simpa [Lit.wf] using hI z hz
    have hw3 : (0 : Int) ≤ z ∧ z ≤ 255 := hw2
    show ((UInt8.ofNat z.toNat).toNat : Int) = z
    rw [UInt8.toNat_ofNat']
    omega
  refine ⟨xs.map fun z => UInt8.ofNat z.toNat, ?_, ?_⟩
  · show (Kd.arr 32 (Kd.int .u8) (by decide)).K w ((xs.map fun z => UInt8.ofNat z.toNat).map (fun b => (b.toNat : Int))) cs
    rw [e]
    exact hK
  · obtain ⟨hl, _⟩ := Kd.arr_cells (hs := by decide) hK
    rw [List.length_map, hl]
def kAsk : Kd (Int × Int × List UInt8 × List UInt8 × List (List UInt8)) := Kd.iso (Kd.pair (Kd.int .i64) (Kd.pair (Kd.int .i64) (Kd.pair kDig (Kd.pair kDig (Kd.slice 24 kDig))))) (fun x => x)
theorem opens_digs : Op.Opens Tryd.prog 61 (Kd.slice 24 kDig) (fun l => l.length ≤ maxLen ∧ ∀ x ∈ l, x.length = 32) :=
  Op.opens_slice Tryd.underlying61 opens_dig (by kernel_rfl)
set_option maxRecDepth 100000 in
theorem opens_ask : Op.Opens Tryd.prog 73 kAsk (fun x => (Lit.int .i64 x.1).wf = true ∧ (Lit.int .i64 x.2.1).wf = true ∧ x.2.2.1.length = 32 ∧ x.2.2.2.1.length = 32 ∧ (x.2.2.2.2.length ≤ maxLen ∧ ∀ y ∈ x.2.2.2.2, y.length = 32)) :=
  Op.opens_struct Tryd.underlying73 (Op.opensAt_cons (Op.opens_int Tryd.underlying3) (by kernel_rfl) rfl (Op.opensAt_cons (Op.opens_int Tryd.underlying3) (by kernel_rfl) rfl (Op.opensAt_cons opens_dig (by kernel_rfl) rfl (Op.opensAt_cons opens_dig (by kernel_rfl) rfl (Op.opensAt_one opens_digs (by kernel_rfl)))))) (by kernel_rfl) (fun x => x) (fun p => p) (fun _ => rfl)
set_option maxRecDepth 100000 in
theorem open_ask {W : World} {r : Reach} {base : Nat} {v : Value} (hv : Value.okWide Tryd.prog W r base 73 v) {H : Type} {enc : TypeId × Value → H} {b0 : Nat} {spare : Nat → Bool} {held : Bool} {fuel : Nat} {x : DataW H × List MemPlace}
    (h : DataW.trod enc Tryd.prog W b0 spare held fuel 73 v.cells.toList = some x) : ∃ (i n : Int) (a b : List UInt8) (A : Option Addr) (c : Nat) (l : List (List UInt8)), v = .agg (askC i n a b (.slice A l.length c)).toArray ∧ a.length = 32 ∧ b.length = 32 ∧ CD A l W ∧ l.length ≤ c ∧ (-9223372036854775808 ≤ i ∧ i ≤ 9223372036854775807) ∧ (-9223372036854775808 ≤ n ∧ n ≤ 9223372036854775807) := by
  obtain ⟨cs, rfl, hcs⟩ := ShaOpen.okWide_str Tryd.underlying73 hv
  obtain ⟨⟨i, n, a, b, l⟩, hK, hI1, hI2, hI3, hI4, hI5⟩ := opens_ask enc W b0 spare held fuel _ x h
  obtain ⟨c1, d1, hc1, hK1, hR1⟩ := hK
  obtain ⟨c2, d2, hc2, hK2, hR2⟩ := hR1
  obtain ⟨c3, d3, hc3, hK3, hR3⟩ := hR2
  obtain ⟨c4, c5, hc4, hK4, hK5⟩ := hR3
  have e1 : c1 = [Value.int .i64 i] := hK1
  have e2 : c2 = [Value.int .i64 n] := hK2
  have e3 := (kDig_K hK3).2
  have e4 := (kDig_K hK4).2
  obtain ⟨A, c, e5, hc, hC⟩ := hK5
  have e : (Value.agg cs).cells.toList = cs.toList := rfl
  have hi : IntKind.i64.min ≤ i ∧ i ≤ IntKind.i64.max := by simpa [Lit.wf] using hI1
  have hn : IntKind.i64.min ≤ n ∧ n ≤ IntKind.i64.max := by simpa [Lit.wf] using hI2
  refine ⟨i, n, a, b, A, c, l, ?_, hI3, hI4, hC, hc, hi, hn⟩
  congr 1
  apply Array.toList_inj.1
  rw [e] at hc1
  rw [hc1, hc2, hc3, hc4, e1, e2, e3, e4, e5]
  simp [askC]
end Go.Proofs.YtldpnmebjnkjeaaDoor.TreeOpen
namespace Go.Proofs.YtldpnmebjnkjeaaDoor.treeSound
open Go.ChangeShapes Go.WideShapes Go.ChangeAt Go.RowKit Go.Proofs.YtldpnmebjnkjeaaDoorW.PrintWords Go.Proofs.YtldpnmebjnkjeaaDoor.Sha
open Go.ChangeMaps (open_string shut_string)
set_option linter.unusedVariables false
set_option linter.unusedSimpArgs false
theorem own : ownKnob Tryd.prog.godebug = none := by kernel_rfl
theorem laidOut : laidOutB Tryd.prog = true := by kernel_rfl
set_option maxRecDepth 100000 in
set_option maxHeartbeats 1000000 in
theorem contract (H : Type) (enc : TypeId × Value → H) (W : World) (base : Nat) (args : Array Value) (ds gs : List (DataW H)) (before : List MemPlace)
    (hval : ∀ (j : Nat) t v, Tryd.f11.params[j]? = some t → args[j]? = some v → Value.okWide Tryd.prog W .any base t v)
    (hW : DataW.Whole enc Tryd.prog Tryd.f11.params.toList Rows.treeSoundSpec.vars false W args.toList ds gs before) (hL : laidMetH Tryd.prog Rows.treeSoundRow.laid W) :
    Calls Tryd.prog 11 args W fun e W' => ∃ v, e = .returned v ∧ Rows.treeSoundSpec.post enc Tryd.prog Tryd.f11 false true false false W args v W' := by
  have hW' := hW
  obtain ⟨p, q, hA0, hV, rfl, hfz, hnd⟩ := hW
  have hA : DataW.TrodAll enc Tryd.prog W 0 (fun _ => true) true Tryd.f11.params.toList args.toList ds p := hA0
  rw [Tryd.params11] at hA hval
  obtain ⟨v0, vs0, d0, ds0, p0, q0, hargs, rfl, rfl, h0, r0⟩ := trodAll_cons hA
  obtain ⟨v1, vs1, d1, ds1, p1, q1, rfl, rfl, rfl, h1, r1⟩ := trodAll_cons r0
  obtain ⟨v2, vs2, d2, ds2, p2, q2, rfl, rfl, rfl, h2, r2⟩ := trodAll_cons r1
  obtain ⟨rfl, rfl, rfl⟩ := trodAll_nil r2
  obtain rfl : args = #[v0, v1, v2] := by cases args; simp_all
  obtain ⟨rfl, rfl⟩ := trodVars_none hV
  obtain ⟨a0, len0, cap0, rfl⟩ := okWide_slice Tryd.underlying53 (hval 0 53 v0 rfl rfl)
  have k0 := h0
  have lt0 : ∀ x ∈ p0, x.block < W.heap.size := by obtain ⟨m, hm⟩ := k0; exact DataW.trod_lt m _ _ _ hm
  obtain ⟨fuel0, hf0⟩ := h0
  obtain ⟨l0, ⟨A0, c0, hcs0, hc0, hC0⟩, hI0⟩ := TreeOpen.opens_strs enc W 0 _ _ fuel0 _ _ hf0
  simp [Value.cells] at hcs0
  obtain ⟨rfl, rfl, rfl⟩ := hcs0
  obtain ⟨a1, rfl, rfl, rfl, y1⟩ := open_string Tryd.underlying9 (hval 1 9 v1 rfl rfl) h1
  have k2 := h2
  have lt2 : ∀ x ∈ p2, x.block < W.heap.size := by obtain ⟨m, hm⟩ := k2; exact DataW.trod_lt m _ _ _ hm
  obtain ⟨fuel2, hf2⟩ := h2
  obtain ⟨i2, n2, x2, y2, A2, c2, l2, rfl, hx2, hy2, hD2, hd2, hi2, hn2⟩ := TreeOpen.open_ask (hval 2 73 v2 rfl rfl) hf2
  have hT := ShaCard.kAt hL
  refine (TrW.sound_law a0 cap0 l0 a1 i2 n2 x2 y2 hx2 hy2 A2 c2 l2 W hC0 hc0 hD2 hd2 hT).mono fun e W' ⟨he, bel⟩ => ?_
  subst he
  exact ⟨_, rfl, _, _, _, [], _, [], hW', trodAll_mk1 (shut_bool Tryd.underlying4 _), (trodAll_cons_mk (Below.trod laidOut (by kernel_rfl) (of_decide_eq_true (by kernel_rfl)) k0 bel lt0) (trodAll_cons_mk (shut_string Tryd.underlying9 y1) (trodAll_cons_mk (Below.trod laidOut (by kernel_rfl) (of_decide_eq_true (by kernel_rfl)) k2 bel lt2) trodAll_mk0))), rfl, bel.frame _, fun h => by cases h⟩
noncomputable def laidWorld (os : Os) : World := ShaCard.laidWorld os
def wit : Array Value := #[.slice none 0 0, .string ByteArray.empty, .agg #[.int .i64 0, .int .i64 0, .int .u8 0, .int .u8 0, .int .u8 0, .int .u8 0, .int .u8 0, .int .u8 0, .int .u8 0, .int .u8 0, .int .u8 0, .int .u8 0, .int .u8 0, .int .u8 0, .int .u8 0, .int .u8 0, .int .u8 0, .int .u8 0, .int .u8 0, .int .u8 0, .int .u8 0, .int .u8 0, .int .u8 0, .int .u8 0, .int .u8 0, .int .u8 0, .int .u8 0, .int .u8 0, .int .u8 0, .int .u8 0, .int .u8 0, .int .u8 0, .int .u8 0, .int .u8 0, .int .u8 0, .int .u8 0, .int .u8 0, .int .u8 0, .int .u8 0, .int .u8 0, .int .u8 0, .int .u8 0, .int .u8 0, .int .u8 0, .int .u8 0, .int .u8 0, .int .u8 0, .int .u8 0, .int .u8 0, .int .u8 0, .int .u8 0, .int .u8 0, .int .u8 0, .int .u8 0, .int .u8 0, .int .u8 0, .int .u8 0, .int .u8 0, .int .u8 0, .int .u8 0, .int .u8 0, .int .u8 0, .int .u8 0, .int .u8 0, .int .u8 0, .int .u8 0, .slice none 0 0]]
theorem laid_met (os : Os) : laidMet Tryd.prog Rows.treeSoundRow.laid ((laidWorld os).forCall (fun _ _ => 0) ⟨#[], wit, []⟩).memory :=
  laidMet_of_run' 8 (by kernel_rfl) (by kernel_rfl)
theorem reads (os : Os) {H : Type} (enc : TypeId × Value → H) : ∃ places, DataW.whole enc Tryd.prog ((laidWorld os).forCall (fun _ _ => 0) ⟨#[], wit, []⟩).memory Tryd.f11.params.toList Rows.treeSoundSpec.vars false wit.toList 8 = some ([.nil, .lit (.string []), .agg [.lit (.int .i64 0), .lit (.int .i64 0), .agg [.lit (.int .u8 0), .lit (.int .u8 0), .lit (.int .u8 0), .lit (.int .u8 0), .lit (.int .u8 0), .lit (.int .u8 0), .lit (.int .u8 0), .lit (.int .u8 0), .lit (.int .u8 0), .lit (.int .u8 0), .lit (.int .u8 0), .lit (.int .u8 0), .lit (.int .u8 0), .lit (.int .u8 0), .lit (.int .u8 0), .lit (.int .u8 0), .lit (.int .u8 0), .lit (.int .u8 0), .lit (.int .u8 0), .lit (.int .u8 0), .lit (.int .u8 0), .lit (.int .u8 0), .lit (.int .u8 0), .lit (.int .u8 0), .lit (.int .u8 0), .lit (.int .u8 0), .lit (.int .u8 0), .lit (.int .u8 0), .lit (.int .u8 0), .lit (.int .u8 0), .lit (.int .u8 0), .lit (.int .u8 0)], .agg [.lit (.int .u8 0), .lit (.int .u8 0), .lit (.int .u8 0), .lit (.int .u8 0), .lit (.int .u8 0), .lit (.int .u8 0), .lit (.int .u8 0), .lit (.int .u8 0), .lit (.int .u8 0), .lit (.int .u8 0), .lit (.int .u8 0), .lit (.int .u8 0), .lit (.int .u8 0), .lit (.int .u8 0), .lit (.int .u8 0), .lit (.int .u8 0), .lit (.int .u8 0), .lit (.int .u8 0), .lit (.int .u8 0), .lit (.int .u8 0), .lit (.int .u8 0), .lit (.int .u8 0), .lit (.int .u8 0), .lit (.int .u8 0), .lit (.int .u8 0), .lit (.int .u8 0), .lit (.int .u8 0), .lit (.int .u8 0), .lit (.int .u8 0), .lit (.int .u8 0), .lit (.int .u8 0), .lit (.int .u8 0)], .nil]], [], places) :=
  ⟨[], by kernel_rfl⟩

set_option maxRecDepth 100000 in
theorem lifted (os : Os) (started : os.Started) (H : Type) (enc : TypeId × Value → H) (F : Stop.Interp) :
    ReturnsInHanded {} Tryd.checked os 11 .any ((OpenSpec.ofChange Rows.treeSoundSpec).preRow enc Tryd.prog Tryd.f11 Rows.treeSoundRow.domain false Rows.treeSoundRow.laid) (((OpenSpec.ofChange Rows.treeSoundSpec).at F).post enc Tryd.prog Tryd.f11 false true false false) := by
  obtain ⟨places, hx⟩ := reads os enc
  refine returnsInHanded_of_row (C := Tryd.checked) (s := OpenSpec.ofChange Rows.treeSoundSpec) own started (by kernel_rfl) Tryd.func11
    (witness_row_at (enc := enc) (C := Tryd.checked) false (laidWorld os) wit rfl (by kernel_rfl) (by kernel_rfl) (by kernel_rfl)
      (OpenSpec.preRow_of_cond 8 hx (by kernel_rfl) (fun k hk => by cases hk) (by kernel_rfl) (laid_met os))) ?_
  intro W base args ds gs before hval hW _ _ _ hL _ _
  exact contract H enc W base args ds gs before hval hW hL

theorem said : Rows.TreeSoundSaid :=
  OpenClaim.holds_of_cond 11 Tryd.f11 rfl rfl rfl rfl rfl rfl rfl ⟨rfl, rfl, rfl, rfl, rfl⟩ rfl rfl rfl rfl rfl (by kernel_rfl) Tryd.func11 (by kernel_rfl)
    (of_decide_eq_true (by kernel_rfl)) (by unfold Func.isWrapper; first | (rw [if_pos (by decide +kernel)]; kernel_rfl) | (rw [if_neg (by decide +kernel)]; exact ⟨rfl, rfl⟩))
    (fun os started H enc _ F => by rw [OpenClaim.pre_eq_preRow]; exact lifted os started H enc F)

theorem plain (f : FuncId) (fn : Func) (hf : Tryd.pinned.checked.prog.funcNamed "cashbook/cashbooklaw11.TreeSound" = some f) (hfn : Tryd.pinned.checked.prog.funcs[f]? = some fn) :
    false = Tryd.pinned.checked.prog.looks [] ∧ ∀ (j : Nat) t, fn.params[j]? = some t → Tryd.pinned.checked.prog.wantsStandIn t = false := by
  obtain rfl : f = 11 := Option.some.inj ((show Tryd.prog.funcNamed "cashbook/cashbooklaw11.TreeSound" = some 11 by kernel_rfl).symm.trans hf) |>.symm
  obtain rfl : fn = Tryd.f11 := (Option.some.inj (Tryd.func11.symm.trans hfn)).symm
  refine ⟨by kernel_rfl, fun j t ht => ?_⟩
  rw [Tryd.params11] at ht
  have hm := Array.mem_of_getElem? ht
  simp at hm
  rcases hm with rfl | rfl | rfl
  · exact (show Tryd.prog.wantsStandIn 53 = false by kernel_rfl)
  · exact (show Tryd.prog.wantsStandIn 9 = false by kernel_rfl)
  · exact (show Tryd.prog.wantsStandIn 73 = false by kernel_rfl)

/-- The card. -/
theorem card : Rows.TreeSoundCardSaid :=
  Claim7.holds_tied_plain_at .later [] _ _ _ _ said (fun _ h => by cases h) (by kernel_rfl) (fun _ h => by cases h) treeSound_row_tie rfl ⟨rfl, rfl⟩ (by kernel_rfl) rfl plain (by kernel_rfl)
end Go.Proofs.YtldpnmebjnkjeaaDoor.treeSound
namespace Go.Proofs.YtldpnmebjnkjeaaDoor
theorem treeSound_holds : Rows.TreeSoundCardSaid := treeSound.card
#print axioms treeSound_holds
end Go.Proofs.YtldpnmebjnkjeaaDoor
