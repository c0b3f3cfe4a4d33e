/-
  TreeTells of cashbooklaw11 returns true at every input: the root of any log, the path of any leaf, and the bridge from any first leaves, or the error, are as the document says; so are the digests of any leaf, and of any two digests; the arguments read behind the call as they did. Conditions: those of the given row (the table of the constants is laid as the text of the program says, tied by the given tie), none of its own.
-/
import Derived.Test.YtldpnmebjnkjeaaDoorTeF
import Derived.Test.YtldpnmebjnkjeaaDoorRows
import Derived.ProofKit
import Derived.OpenShut
import Derived.Deep.DeepHandedRow
import Derived.Lib.LaidTab
import Derived.Lib.LaidU8
import Derived.ChangeArms
import Derived.ChangeSame
import Derived.ChangeSlices
import Derived.WideShapes
import Derived.Test.YtldpnmebjnkjeaaDoorCards
import Derived.Test.YtldpnmebjnkjeaaDoorTie
import Derived.ChangeOld
import Derived.SizedLaws
namespace Go.Proofs.YtldpnmebjnkjeaaDoor.TrW
open Go.RowKit Go.Proofs.YtldpnmebjnkjeaaDoorW.PrintWords Go.Proofs.YtldpnmebjnkjeaaDoor.PH1 Go.Proofs.YtldpnmebjnkjeaaDoor Go.Proofs.YtldpnmebjnkjeaaDoorW.PrintLast Go.Proofs.YtldpnmebjnkjeaaDoorW.PrintMore
open Go.Proofs.YtldpnmebjnkjeaaDoor.Sha
open Go.Proofs.YtldpnmebjnkjeaaDoor.Ref10 (wp_store_dig wp_load_dig wpOp_wp range_row yieldsIf_cell agg9 agg56 CV CAt KC run_load_C)
set_option linter.unusedVariables false
set_option linter.unusedSimpArgs false


theorem rp_le (L : List ByteArray) (i : Nat) (h : L.length ≤ 1024) : (Tr.path alg (bl L) i).reverse.length ≤ 1024 := by
  have := path_le (bl L).length (bl L) i (Nat.le_refl _)
  rw [bl_len] at this
  rw [List.length_reverse]; omega
set_option maxHeartbeats 8000000 in
set_option maxRecDepth 100000 in
theorem rpath_one (ak : Addr) (c : Nat) (A : Option Addr) (c1 : Nat) (i : Int) (w : World) :
    Calls Tryd.prog 40 #[cv ak c, .slice A 1 c1, .int .i64 i] w fun e w' => ∃ v, e = .returned v ∧ RD w.heap.size v [] w' ∧ Below w.heap.size w w' := by
  unfold cv
  go_enter Tryd.func40, Tryd.ntmps40
  go_wp2_with fail
  go_ret
  exact ⟨_, rfl, Kd.R_nil _ _ _ _ _, (Below.refl _ _).alloc (Nat.le_refl _) _⟩
set_option maxHeartbeats 8000000 in
set_option maxRecDepth 100000 in
theorem rpath_calls (ak : Addr) (c : Nat) : ∀ (m : Nat) (A : Option Addr) (c1 : Nat) (L : List ByteArray) (i : Nat) (w : World), L.length ≤ m → L.length ≤ 1024 → Small L → L.length ≤ c1 → i < L.length → Kd.C Kd.string w A L.length L → KC w ak →
    Calls Tryd.prog 40 #[cv ak c, .slice A L.length c1, .int .i64 (i : Int)] w fun e w' => ∃ v, e = .returned v ∧ RD w.heap.size v (Tr.path alg (bl L) i).reverse w' ∧ Below w.heap.size w w' := by
  intro m
  induction m with
  | zero => intro A c1 L i w hm hL hS0 hc hi hC hK; omega
  | succ m ih =>
    intro A c1 L i w hm hL hS0 hc hi hC hK
    by_cases h2 : 2 ≤ L.length
    · have h3 := Tr.sp_lt h2
      have h4 := Tr.sp_pos L.length
      have hsp := fun W => rsplit_calls L.length hL W
      have hi2 : (L.length == 1) = false := by rw [beq_eq_false_iff_ne]; omega
      have hi4 : ((L.length : Int) == 1) = false := by rw [beq_eq_false_iff_ne]; omega
      have hblen := bl_len L
      by_cases h1 : i < Tr.sp L.length
      · have hp := Tr.path_left alg (bl L) i (by rw [hblen]; exact h2) (by rw [hblen]; exact h1)
        rw [hblen, ← bl_take, ← bl_drop] at hp
        rw [hp, List.reverse_cons]
        obtain ⟨k, hk⟩ : ∃ k, k = Tr.sp L.length := ⟨_, rfl⟩
        rw [← hk] at h3 h4 hsp h1 ⊢
        replace hk := Lib.hid hk
        replace hp := Lib.hid hp
        have h1' : (i : Int) < (k : Int) := by omega
        have tk1 := fun W => cut_take (A := A) (c := c1) (L := L) k (by omega) hc W
        obtain ⟨A', dk1, dk2, dk3⟩ := cut_drop (A := A) (c := c1) (L := L) k (by omega) hc
        have hrec := fun W hC hk => ih A c1 (L.take k) i W (by rw [List.length_take]; omega) (by rw [List.length_take]; omega) (hS0.take k) (by rw [List.length_take]; omega) (by rw [List.length_take]; omega) hC hk
        have hroot := fun W hC hk => rroot_calls ak c L.length A' (c1 - k) (L.drop k) W (by rw [List.length_drop]; omega) (by rw [List.length_drop]; omega) (hS0.drop k) dk3 hC hk
        have hCt := Kd.C_take (m := k) hC (by omega)
        have hCd := dk2 w hC
        have hl := rlen (bl (L.drop k))
        have hPl := rp_le (L.take k) i (by rw [List.length_take]; omega)
        generalize Tr.root alg (bl (L.drop k)) = D at hroot hl ⊢
        generalize (Tr.path alg (bl (L.take k)) i).reverse = P at hrec hPl ⊢
        obtain ⟨PD, hPD⟩ : ∃ PD, P ++ [D] = PD := ⟨_, rfl⟩
        rw [hPD]
        obtain ⟨L1, hL1⟩ : ∃ L1, L1 = L.take k := ⟨_, rfl⟩
        obtain ⟨L2, hL2⟩ : ∃ L2, L2 = L.drop k := ⟨_, rfl⟩
        rw [← hL1] at tk1 hrec hCt
        rw [← hL2] at dk1 hroot hCd
        clear hL1 hL2 dk3
        replace tk1 := Lib.hid tk1
        replace dk1 := Lib.hid dk1
        replace hsp := Lib.hid hsp
        replace hl := Lib.hid hl
        replace hrec := Lib.hid hrec
        replace hroot := Lib.hid hroot
        replace hCt := Lib.hid hCt
        replace hCd := Lib.hid hCd
        replace hC := Lib.hid hC
        replace hS0 := Lib.hid hS0
        replace hPD := Lib.hid hPD
        replace hPl := Lib.hid hPl
        clear dk2
        clear ih
        unfold cv at *
        go_enter Tryd.func40, Tryd.ntmps40
        go_upto_region 1 with fail
        generalize hw1 : w.alloc _ = w1
        have HCc : Hid (CAt w.heap.size (.slice (some ak) 64 c) v0 w1) := by
          rw [← hw1]; exact Lib.hid (heap_alloc_last _ _)
        have HB : Hid (Below w.heap.size w w1) := by
          rw [← hw1]; exact Lib.hid ((Below.refl _ _).alloc (Nat.le_refl _) _)
        have HK := Lib.hid (hK.below HB.out)
        clear hw1 hK
        go_wp2_with fail
        refine (hsp.out w1).mono ?_
        rintro e w2 ⟨rfl, hb⟩
        replace hb := hb.below
        replace HCc := Lib.hid (CAt.below HCc.out hb)
        replace HK := Lib.hid (KC.below HK.out hb)
        replace HB := Lib.hid (HB.out.trans (Below.mono hb HB.out.size))
        clear hb
        go_upto_region 5 with fail
        refine wp_region_held (S := SC w.heap.size ak c) (by kernel_rfl) ?_
        change wpAnyH _ _ _ _ _ _ _ _ w2.drew
        replace HCc : Hid (CAt w.heap.size (.slice (some ak) 64 c) v0 w2.drew) := HCc
        replace HK : Hid (KC w2.drew ak) := HK
        replace HB := Lib.hid HB.out.drew
        generalize w2.drew = x0 at HCc HK HB ⊢
        have hS : SC w.heap.size ak c x0 := HCc.out
        refine wpAnyH_take (i := 1) (v := _) rfl (by kernel_rfl) (by kernel_rfl) (by kernel_rfl) (fun _ _ _ h => h) (yieldsIf_C (by rfl) (.tmp 3) rfl w.heap.size rfl _ _ (fun _ h => h)) hS ?_
        try simp only [List.getElem_toArray, List.getElem_cons_succ, List.getElem_cons_zero, Act.put, List.setIfInBounds_toArray, List.set_cons_zero, List.set_cons_succ]
        refine wpAnyH_take (i := 2) (v := ?_) rfl (by kernel_rfl) (by kernel_rfl) (by kernel_rfl) (fun _ _ _ h => h) (Or.inl ⟨by rfl, ?_⟩) hS ?_
        rotate_left
        · intro v _; go_simp; first | done | with_reducible rfl
        rotate_left
        simp only [List.getElem_toArray, List.getElem_cons_succ, List.getElem_cons_zero, Act.put, List.setIfInBounds_toArray, List.set_cons_zero, List.set_cons_succ]
        refine wpAnyH_take (i := 3) (v := ?_) rfl (by kernel_rfl) (by kernel_rfl) (by kernel_rfl) (fun _ _ _ h => h) (Or.inl ⟨by rfl, ?_⟩) hS ?_
        rotate_left
        · intro v _; go_simp; first | done | with_reducible rfl
        rotate_left
        simp only [List.getElem_toArray, List.getElem_cons_succ, List.getElem_cons_zero, Act.put, List.setIfInBounds_toArray, List.set_cons_zero, List.set_cons_succ]
        refine wpAnyH_take (i := 4) (v := _) rfl (by kernel_rfl) (by kernel_rfl) (by kernel_rfl) (fun _ _ _ h => h) (yieldsIf_slice (by rfl) und_strs' rfl (.slice A L.length c1) rfl none (some (.int .i64 k)) rfl rfl _ tk1.out) hS ?_
        try simp only [List.getElem_toArray, List.getElem_cons_succ, List.getElem_cons_zero, Act.put, List.setIfInBounds_toArray, List.set_cons_zero, List.set_cons_succ]
        refine wpAnyH_take (i := 5) (v := ?_) rfl (by kernel_rfl) (by kernel_rfl) (by kernel_rfl) (fun _ _ _ h => h) (Or.inl ⟨by rfl, ?_⟩) hS ?_
        rotate_left
        · intro v _; go_simp; first | done | with_reducible rfl
        rotate_left
        simp only [List.getElem_toArray, List.getElem_cons_succ, List.getElem_cons_zero, Act.put, List.setIfInBounds_toArray, List.set_cons_zero, List.set_cons_succ]
        refine wpAnyH_take (i := 8) (v := _) rfl (by kernel_rfl) (by kernel_rfl) (by kernel_rfl) (fun _ _ _ h => h) (yieldsIf_C (by rfl) (.tmp 3) rfl w.heap.size rfl _ _ (fun _ h => h)) hS ?_
        try simp only [List.getElem_toArray, List.getElem_cons_succ, List.getElem_cons_zero, Act.put, List.setIfInBounds_toArray, List.set_cons_zero, List.set_cons_succ]
        refine wpAnyH_take (i := 9) (v := ?_) rfl (by kernel_rfl) (by kernel_rfl) (by kernel_rfl) (fun _ _ _ h => h) (Or.inl ⟨by rfl, ?_⟩) hS ?_
        rotate_left
        · intro v _; go_simp; first | done | with_reducible rfl
        rotate_left
        simp only [List.getElem_toArray, List.getElem_cons_succ, List.getElem_cons_zero, Act.put, List.setIfInBounds_toArray, List.set_cons_zero, List.set_cons_succ]
        refine wpAnyH_take (i := 10) (v := ?_) rfl (by kernel_rfl) (by kernel_rfl) (by kernel_rfl) (fun _ _ _ h => h) (Or.inl ⟨by rfl, ?_⟩) hS ?_
        rotate_left
        · intro v _; go_simp; first | done | with_reducible rfl
        rotate_left
        simp only [List.getElem_toArray, List.getElem_cons_succ, List.getElem_cons_zero, Act.put, List.setIfInBounds_toArray, List.set_cons_zero, List.set_cons_succ]
        refine wpAnyH_take (i := 11) (v := _) rfl (by kernel_rfl) (by kernel_rfl) (by kernel_rfl) (fun _ _ _ h => h) (yieldsIf_slice (by rfl) und_strs' rfl (.slice A L.length c1) rfl (some (.int .i64 k)) none rfl rfl _ dk1.out) hS ?_
        try simp only [List.getElem_toArray, List.getElem_cons_succ, List.getElem_cons_zero, Act.put, List.setIfInBounds_toArray, List.set_cons_zero, List.set_cons_succ]
        refine wpAnyH_all (rs := [0, 6]) (by kernel_rfl) (by simp) ?_
        intro i hi
        simp only [List.mem_cons, List.not_mem_nil, or_false] at hi
        rcases hi with rfl | rfl
        · skip
          refine wpOp_wp rfl (by rfl) ?_
          refine wp_buildSlice_0 rfl ?_
          intro y1 HZ hb1 hs1
          have HX := Lib.hid hb1
          clear hS hb1
          have hS : SC w.heap.size ak c y1 := CAt.below HCc.out HX.out
          refine ⟨hS, ?_⟩
          try simp only [List.getElem_toArray, List.getElem_cons_succ, List.getElem_cons_zero, Act.put, List.setIfInBounds_toArray, List.set_cons_zero, List.set_cons_succ]
          refine wpAnyH_all (rs := [6]) (by kernel_rfl) (by simp) ?_
          intro i hi
          simp only [List.mem_cons, List.not_mem_nil, or_false] at hi
          subst hi
          refine wpOp_wp rfl (by rfl) ?_
          go_simp
          refine (hrec.out y1 (Kd.C_below hCt.out (HB.out.trans (HX.out.mono HB.out.size))) (KC.below HK.out HX.out)).mono ?_
          rintro e y2 ⟨v, rfl, hv, hb_⟩
          obtain ⟨AP, cP, rfl, hcP, HP⟩ := hv.reads
          replace HP := Lib.hid HP
          replace HZ := Lib.hid (RD.below HZ.out hb_)
          replace HX := Lib.hid (HX.out.trans (hb_.mono HX.out.size))
          clear hS hb_ hv
          have hS : SC w.heap.size ak c y2 := CAt.below HCc.out HX.out
          refine ⟨hS, ?_⟩
          try simp only [List.getElem_toArray, List.getElem_cons_succ, List.getElem_cons_zero, Act.put, List.setIfInBounds_toArray, List.set_cons_zero, List.set_cons_succ]
          refine wpAnyH_all (rs := [7]) (by kernel_rfl) (by simp) ?_
          intro i hi
          simp only [List.mem_cons, List.not_mem_nil, or_false] at hi
          subst hi
          refine wpOp_wp rfl (by rfl) ?_
          refine wp_append_digs rfl (.tmp 17) (.tmp 23) rfl _ [] P AP P.length cP rfl rfl rfl HZ.out HP.out HX.out HX.out.size (by have := hPl.out; simp; omega) ?_
          intro v95 y3 HR95 hb3 _
          replace HX := Lib.hid hb3
          clear hS hb3
          have hS : SC w.heap.size ak c y3 := CAt.below HCc.out HX.out
          refine ⟨hS, ?_⟩
          try simp only [List.getElem_toArray, List.getElem_cons_succ, List.getElem_cons_zero, Act.put, List.setIfInBounds_toArray, List.set_cons_zero, List.set_cons_succ]
          refine wpAnyH_all (rs := [12]) (by kernel_rfl) (by simp) ?_
          intro i hi
          simp only [List.mem_cons, List.not_mem_nil, or_false] at hi
          subst hi
          refine wpOp_wp rfl (by rfl) ?_
          go_simp
          refine (hroot.out y3 (Kd.C_below hCd.out (HB.out.trans (HX.out.mono HB.out.size))) (KC.below HK.out HX.out)).mono ?_
          rintro e y4 ⟨rfl, hb_⟩
          replace HR95 := Lib.hid (RD.below HR95.out hb_)
          replace HX := Lib.hid (HX.out.trans (hb_.mono HX.out.size))
          clear hS hb_
          have hS : SC w.heap.size ak c y4 := CAt.below HCc.out HX.out
          refine ⟨hS, ?_⟩
          try simp only [List.getElem_toArray, List.getElem_cons_succ, List.getElem_cons_zero, Act.put, List.setIfInBounds_toArray, List.set_cons_zero, List.set_cons_succ]
          refine wpAnyH_all (rs := [13]) (by kernel_rfl) (by simp) ?_
          intro i hi
          simp only [List.mem_cons, List.not_mem_nil, or_false] at hi
          subst hi
          refine wpOp_wp rfl (by rfl) ?_
          refine wp_buildSlice_1 (.tmp 29) rfl D hl.out rfl ?_
          intro y5 HL hb5 hs5
          replace HR95 := Lib.hid (RD.below HR95.out hb5)
          replace HX := Lib.hid (HX.out.trans (hb5.mono HX.out.size))
          clear hS hb5
          have hS : SC w.heap.size ak c y5 := CAt.below HCc.out HX.out
          refine ⟨hS, ?_⟩
          try simp only [List.getElem_toArray, List.getElem_cons_succ, List.getElem_cons_zero, Act.put, List.setIfInBounds_toArray, List.set_cons_zero, List.set_cons_succ]
          refine wpAnyH_all (rs := [14]) (by kernel_rfl) (by simp) ?_
          intro i hi
          simp only [List.mem_cons, List.not_mem_nil, or_false] at hi
          subst hi
          refine wpOp_wp rfl (by rfl) ?_
          obtain ⟨AL, cL, hvL, hcL, HCL⟩ := HL.out.reads
          cases hvL
          refine wp_append_digs rfl (.tmp 24) (.tmp 30) rfl v95 ([] ++ P) [D] _ 1 _ rfl rfl rfl HR95.out HCL HX.out HX.out.size (by have := hPl.out; simp; omega) ?_
          intro v98 y6 HR98 hb6 _
          replace HX := Lib.hid hb6
          clear hS hb6 HCL
          have hS : SC w.heap.size ak c y6 := CAt.below HCc.out HX.out
          refine ⟨hS, ?_⟩
          try simp only [List.getElem_toArray, List.getElem_cons_succ, List.getElem_cons_zero, Act.put, List.setIfInBounds_toArray, List.set_cons_zero, List.set_cons_succ]
          refine wpAnyH_take (i := 15) (v := ?_) rfl (by kernel_rfl) (by kernel_rfl) (by kernel_rfl) (fun _ _ _ h => h) (Or.inl ⟨by rfl, ?_⟩) hS ?_
          rotate_left
          · intro v _; go_simp; first | done | with_reducible rfl
          rotate_left
          simp only [List.getElem_toArray, List.getElem_cons_succ, List.getElem_cons_zero, Act.put, List.setIfInBounds_toArray, List.set_cons_zero, List.set_cons_succ]
          refine wpAnyH_done (by kernel_rfl) ?_ _
          clear hS
          rw [List.nil_append, hPD.out] at HR98
          go_wp2_with fail
          go_ret
          exact ⟨v98, rfl, RD.lower HR98.out HB.out.size, HB.out.trans (HX.out.mono HB.out.size)⟩
        · skip
          refine wpOp_wp rfl (by rfl) ?_
          go_simp
          have HX := Lib.hid (Below.refl x0.heap.size x0)
          refine (hrec.out x0 (Kd.C_below hCt.out (HB.out.trans (HX.out.mono HB.out.size))) (KC.below HK.out HX.out)).mono ?_
          rintro e y1 ⟨v, rfl, hv, hb_⟩
          obtain ⟨AP, cP, rfl, hcP, HP⟩ := hv.reads
          replace HP := Lib.hid HP
          replace HX := Lib.hid hb_
          clear hS hb_ hv
          have hS : SC w.heap.size ak c y1 := CAt.below HCc.out HX.out
          refine ⟨hS, ?_⟩
          try simp only [List.getElem_toArray, List.getElem_cons_succ, List.getElem_cons_zero, Act.put, List.setIfInBounds_toArray, List.set_cons_zero, List.set_cons_succ]
          refine wpAnyH_all (rs := [0]) (by kernel_rfl) (by simp) ?_
          intro i hi
          simp only [List.mem_cons, List.not_mem_nil, or_false] at hi
          subst hi
          refine wpOp_wp rfl (by rfl) ?_
          refine wp_buildSlice_0 rfl ?_
          intro y2 HZ hb2 hs2
          replace HZ := Lib.hid (HZ.out.lower HX.out.size)
          replace HP := Lib.hid (CD.below HP.out hb2)
          replace HX := Lib.hid (HX.out.trans (hb2.mono HX.out.size))
          clear hS hb2
          have hS : SC w.heap.size ak c y2 := CAt.below HCc.out HX.out
          refine ⟨hS, ?_⟩
          try simp only [List.getElem_toArray, List.getElem_cons_succ, List.getElem_cons_zero, Act.put, List.setIfInBounds_toArray, List.set_cons_zero, List.set_cons_succ]
          refine wpAnyH_all (rs := [7]) (by kernel_rfl) (by simp) ?_
          intro i hi
          simp only [List.mem_cons, List.not_mem_nil, or_false] at hi
          subst hi
          refine wpOp_wp rfl (by rfl) ?_
          refine wp_append_digs rfl (.tmp 17) (.tmp 23) rfl _ [] P AP P.length cP rfl rfl rfl HZ.out HP.out HX.out HX.out.size (by have := hPl.out; simp; omega) ?_
          intro v95 y3 HR95 hb3 _
          replace HX := Lib.hid hb3
          clear hS hb3
          have hS : SC w.heap.size ak c y3 := CAt.below HCc.out HX.out
          refine ⟨hS, ?_⟩
          try simp only [List.getElem_toArray, List.getElem_cons_succ, List.getElem_cons_zero, Act.put, List.setIfInBounds_toArray, List.set_cons_zero, List.set_cons_succ]
          refine wpAnyH_all (rs := [12]) (by kernel_rfl) (by simp) ?_
          intro i hi
          simp only [List.mem_cons, List.not_mem_nil, or_false] at hi
          subst hi
          refine wpOp_wp rfl (by rfl) ?_
          go_simp
          refine (hroot.out y3 (Kd.C_below hCd.out (HB.out.trans (HX.out.mono HB.out.size))) (KC.below HK.out HX.out)).mono ?_
          rintro e y4 ⟨rfl, hb_⟩
          replace HR95 := Lib.hid (RD.below HR95.out hb_)
          replace HX := Lib.hid (HX.out.trans (hb_.mono HX.out.size))
          clear hS hb_
          have hS : SC w.heap.size ak c y4 := CAt.below HCc.out HX.out
          refine ⟨hS, ?_⟩
          try simp only [List.getElem_toArray, List.getElem_cons_succ, List.getElem_cons_zero, Act.put, List.setIfInBounds_toArray, List.set_cons_zero, List.set_cons_succ]
          refine wpAnyH_all (rs := [13]) (by kernel_rfl) (by simp) ?_
          intro i hi
          simp only [List.mem_cons, List.not_mem_nil, or_false] at hi
          subst hi
          refine wpOp_wp rfl (by rfl) ?_
          refine wp_buildSlice_1 (.tmp 29) rfl D hl.out rfl ?_
          intro y5 HL hb5 hs5
          replace HR95 := Lib.hid (RD.below HR95.out hb5)
          replace HX := Lib.hid (HX.out.trans (hb5.mono HX.out.size))
          clear hS hb5
          have hS : SC w.heap.size ak c y5 := CAt.below HCc.out HX.out
          refine ⟨hS, ?_⟩
          try simp only [List.getElem_toArray, List.getElem_cons_succ, List.getElem_cons_zero, Act.put, List.setIfInBounds_toArray, List.set_cons_zero, List.set_cons_succ]
          refine wpAnyH_all (rs := [14]) (by kernel_rfl) (by simp) ?_
          intro i hi
          simp only [List.mem_cons, List.not_mem_nil, or_false] at hi
          subst hi
          refine wpOp_wp rfl (by rfl) ?_
          obtain ⟨AL, cL, hvL, hcL, HCL⟩ := HL.out.reads
          cases hvL
          refine wp_append_digs rfl (.tmp 24) (.tmp 30) rfl v95 ([] ++ P) [D] _ 1 _ rfl rfl rfl HR95.out HCL HX.out HX.out.size (by have := hPl.out; simp; omega) ?_
          intro v98 y6 HR98 hb6 _
          replace HX := Lib.hid hb6
          clear hS hb6 HCL
          have hS : SC w.heap.size ak c y6 := CAt.below HCc.out HX.out
          refine ⟨hS, ?_⟩
          try simp only [List.getElem_toArray, List.getElem_cons_succ, List.getElem_cons_zero, Act.put, List.setIfInBounds_toArray, List.set_cons_zero, List.set_cons_succ]
          refine wpAnyH_take (i := 15) (v := ?_) rfl (by kernel_rfl) (by kernel_rfl) (by kernel_rfl) (fun _ _ _ h => h) (Or.inl ⟨by rfl, ?_⟩) hS ?_
          rotate_left
          · intro v _; go_simp; first | done | with_reducible rfl
          rotate_left
          simp only [List.getElem_toArray, List.getElem_cons_succ, List.getElem_cons_zero, Act.put, List.setIfInBounds_toArray, List.set_cons_zero, List.set_cons_succ]
          refine wpAnyH_done (by kernel_rfl) ?_ _
          clear hS
          rw [List.nil_append, hPD.out] at HR98
          go_wp2_with fail
          go_ret
          exact ⟨v98, rfl, RD.lower HR98.out HB.out.size, HB.out.trans (HX.out.mono HB.out.size)⟩
      · have hp := Tr.path_right alg (bl L) i (by rw [hblen]; exact h2) (by rw [hblen]; exact h1)
        rw [hblen, ← bl_take, ← bl_drop] at hp
        rw [hp, List.reverse_cons]
        obtain ⟨k, hk⟩ : ∃ k, k = Tr.sp L.length := ⟨_, rfl⟩
        rw [← hk] at h3 h4 hsp h1 ⊢
        replace hk := Lib.hid hk
        replace hp := Lib.hid hp
        have h1' : ¬ (i : Int) < (k : Int) := by omega
        have hik : (i : Int) - (k : Int) = ((i - k : Nat) : Int) := by omega
        have hiw : IntKind.i64.wrap ((i - k : Nat) : Int) = ((i - k : Nat) : Int) := Go.IntWalk.i64_in _ ⟨by omega, by omega⟩
        have hiw2 : IntKind.i64.wrap ((i : Int) - (k : Int)) = ((i - k : Nat) : Int) := by rw [hik]; exact hiw
        have tk1 := fun W => cut_take (A := A) (c := c1) (L := L) k (by omega) hc W
        obtain ⟨A', dk1, dk2, dk3⟩ := cut_drop (A := A) (c := c1) (L := L) k (by omega) hc
        have hrec := fun W hC hk => ih A' (c1 - k) (L.drop k) (i - k) W (by rw [List.length_drop]; omega) (by rw [List.length_drop]; omega) (hS0.drop k) dk3 (by rw [List.length_drop]; omega) hC hk
        have hroot := fun W hC hk => rroot_calls ak c L.length A c1 (L.take k) W (by rw [List.length_take]; omega) (by rw [List.length_take]; omega) (hS0.take k) (by rw [List.length_take]; omega) hC hk
        have hCt := Kd.C_take (m := k) hC (by omega)
        have hCd := dk2 w hC
        have hl := rlen (bl (L.take k))
        have hPl := rp_le (L.drop k) (i - k) (by rw [List.length_drop]; omega)
        generalize Tr.root alg (bl (L.take k)) = D at hroot hl ⊢
        generalize (Tr.path alg (bl (L.drop k)) (i - k)).reverse = P at hrec hPl ⊢
        obtain ⟨PD, hPD⟩ : ∃ PD, P ++ [D] = PD := ⟨_, rfl⟩
        rw [hPD]
        obtain ⟨L1, hL1⟩ : ∃ L1, L1 = L.take k := ⟨_, rfl⟩
        obtain ⟨L2, hL2⟩ : ∃ L2, L2 = L.drop k := ⟨_, rfl⟩
        rw [← hL1] at tk1 hroot hCt
        rw [← hL2] at dk1 hrec hCd
        clear hL1 hL2 dk3
        replace tk1 := Lib.hid tk1
        replace dk1 := Lib.hid dk1
        replace hsp := Lib.hid hsp
        replace hl := Lib.hid hl
        replace hrec := Lib.hid hrec
        replace hroot := Lib.hid hroot
        replace hCt := Lib.hid hCt
        replace hCd := Lib.hid hCd
        replace hC := Lib.hid hC
        replace hS0 := Lib.hid hS0
        replace hPD := Lib.hid hPD
        replace hPl := Lib.hid hPl
        clear dk2
        clear ih
        unfold cv at *
        go_enter Tryd.func40, Tryd.ntmps40
        go_upto_region 1 with fail
        generalize hw1 : w.alloc _ = w1
        have HCc : Hid (CAt w.heap.size (.slice (some ak) 64 c) v0 w1) := by
          rw [← hw1]; exact Lib.hid (heap_alloc_last _ _)
        have HB : Hid (Below w.heap.size w w1) := by
          rw [← hw1]; exact Lib.hid ((Below.refl _ _).alloc (Nat.le_refl _) _)
        have HK := Lib.hid (hK.below HB.out)
        clear hw1 hK
        go_wp2_with fail
        refine (hsp.out w1).mono ?_
        rintro e w2 ⟨rfl, hb⟩
        replace hb := hb.below
        replace HCc := Lib.hid (CAt.below HCc.out hb)
        replace HK := Lib.hid (KC.below HK.out hb)
        replace HB := Lib.hid (HB.out.trans (Below.mono hb HB.out.size))
        clear hb
        go_upto_region 6 with fail
        refine wp_region_held (S := SC w.heap.size ak c) (by kernel_rfl) ?_
        change wpAnyH _ _ _ _ _ _ _ _ w2.drew
        replace HCc : Hid (CAt w.heap.size (.slice (some ak) 64 c) v0 w2.drew) := HCc
        replace HK : Hid (KC w2.drew ak) := HK
        replace HB := Lib.hid HB.out.drew
        generalize w2.drew = x0 at HCc HK HB ⊢
        have hS : SC w.heap.size ak c x0 := HCc.out
        refine wpAnyH_take (i := 1) (v := _) rfl (by kernel_rfl) (by kernel_rfl) (by kernel_rfl) (fun _ _ _ h => h) (yieldsIf_C (by rfl) (.tmp 3) rfl w.heap.size rfl _ _ (fun _ h => h)) hS ?_
        try simp only [List.getElem_toArray, List.getElem_cons_succ, List.getElem_cons_zero, Act.put, List.setIfInBounds_toArray, List.set_cons_zero, List.set_cons_succ]
        refine wpAnyH_take (i := 2) (v := ?_) rfl (by kernel_rfl) (by kernel_rfl) (by kernel_rfl) (fun _ _ _ h => h) (Or.inl ⟨by rfl, ?_⟩) hS ?_
        rotate_left
        · intro v _; go_simp; first | done | with_reducible rfl
        rotate_left
        simp only [List.getElem_toArray, List.getElem_cons_succ, List.getElem_cons_zero, Act.put, List.setIfInBounds_toArray, List.set_cons_zero, List.set_cons_succ]
        refine wpAnyH_take (i := 3) (v := ?_) rfl (by kernel_rfl) (by kernel_rfl) (by kernel_rfl) (fun _ _ _ h => h) (Or.inl ⟨by rfl, ?_⟩) hS ?_
        rotate_left
        · intro v _; go_simp; first | done | with_reducible rfl
        rotate_left
        simp only [List.getElem_toArray, List.getElem_cons_succ, List.getElem_cons_zero, Act.put, List.setIfInBounds_toArray, List.set_cons_zero, List.set_cons_succ]
        refine wpAnyH_take (i := 4) (v := _) rfl (by kernel_rfl) (by kernel_rfl) (by kernel_rfl) (fun _ _ _ h => h) (yieldsIf_slice (by rfl) und_strs' rfl (.slice A L.length c1) rfl (some (.int .i64 k)) none rfl rfl _ dk1.out) hS ?_
        try simp only [List.getElem_toArray, List.getElem_cons_succ, List.getElem_cons_zero, Act.put, List.setIfInBounds_toArray, List.set_cons_zero, List.set_cons_succ]
        refine wpAnyH_take (i := 5) (v := ?_) rfl (by kernel_rfl) (by kernel_rfl) (by kernel_rfl) (fun _ _ _ h => h) (Or.inl ⟨by rfl, ?_⟩) hS ?_
        rotate_left
        · intro v _; go_simp; first | done | with_reducible rfl
        rotate_left
        simp only [List.getElem_toArray, List.getElem_cons_succ, List.getElem_cons_zero, Act.put, List.setIfInBounds_toArray, List.set_cons_zero, List.set_cons_succ]
        refine wpAnyH_take (i := 6) (v := ?_) rfl (by kernel_rfl) (by kernel_rfl) (by kernel_rfl) (fun _ _ _ h => h) (Or.inl ⟨by rfl, ?_⟩) hS ?_
        rotate_left
        · intro v _; go_simp; first | done | with_reducible rfl
        rotate_left
        simp only [List.getElem_toArray, List.getElem_cons_succ, List.getElem_cons_zero, Act.put, List.setIfInBounds_toArray, List.set_cons_zero, List.set_cons_succ]
        refine wpAnyH_take (i := 7) (v := ?_) rfl (by kernel_rfl) (by kernel_rfl) (by kernel_rfl) (fun _ _ _ h => h) (Or.inl ⟨by rfl, ?_⟩) hS ?_
        rotate_left
        · intro v _; go_simp; first | done | with_reducible rfl
        rotate_left
        simp only [List.getElem_toArray, List.getElem_cons_succ, List.getElem_cons_zero, Act.put, List.setIfInBounds_toArray, List.set_cons_zero, List.set_cons_succ]
        refine wpAnyH_take (i := 10) (v := _) rfl (by kernel_rfl) (by kernel_rfl) (by kernel_rfl) (fun _ _ _ h => h) (yieldsIf_C (by rfl) (.tmp 3) rfl w.heap.size rfl _ _ (fun _ h => h)) hS ?_
        try simp only [List.getElem_toArray, List.getElem_cons_succ, List.getElem_cons_zero, Act.put, List.setIfInBounds_toArray, List.set_cons_zero, List.set_cons_succ]
        refine wpAnyH_take (i := 11) (v := ?_) rfl (by kernel_rfl) (by kernel_rfl) (by kernel_rfl) (fun _ _ _ h => h) (Or.inl ⟨by rfl, ?_⟩) hS ?_
        rotate_left
        · intro v _; go_simp; first | done | with_reducible rfl
        rotate_left
        simp only [List.getElem_toArray, List.getElem_cons_succ, List.getElem_cons_zero, Act.put, List.setIfInBounds_toArray, List.set_cons_zero, List.set_cons_succ]
        refine wpAnyH_take (i := 12) (v := ?_) rfl (by kernel_rfl) (by kernel_rfl) (by kernel_rfl) (fun _ _ _ h => h) (Or.inl ⟨by rfl, ?_⟩) hS ?_
        rotate_left
        · intro v _; go_simp; first | done | with_reducible rfl
        rotate_left
        simp only [List.getElem_toArray, List.getElem_cons_succ, List.getElem_cons_zero, Act.put, List.setIfInBounds_toArray, List.set_cons_zero, List.set_cons_succ]
        refine wpAnyH_take (i := 13) (v := _) rfl (by kernel_rfl) (by kernel_rfl) (by kernel_rfl) (fun _ _ _ h => h) (yieldsIf_slice (by rfl) und_strs' rfl (.slice A L.length c1) rfl none (some (.int .i64 k)) rfl rfl _ tk1.out) hS ?_
        try simp only [List.getElem_toArray, List.getElem_cons_succ, List.getElem_cons_zero, Act.put, List.setIfInBounds_toArray, List.set_cons_zero, List.set_cons_succ]
        refine wpAnyH_all (rs := [0, 8]) (by kernel_rfl) (by simp) ?_
        intro i hi
        simp only [List.mem_cons, List.not_mem_nil, or_false] at hi
        rcases hi with rfl | rfl
        · skip
          refine wpOp_wp rfl (by rfl) ?_
          refine wp_buildSlice_0 rfl ?_
          intro y1 HZ hb1 hs1
          have HX := Lib.hid hb1
          clear hS hb1
          have hS : SC w.heap.size ak c y1 := CAt.below HCc.out HX.out
          refine ⟨hS, ?_⟩
          try simp only [List.getElem_toArray, List.getElem_cons_succ, List.getElem_cons_zero, Act.put, List.setIfInBounds_toArray, List.set_cons_zero, List.set_cons_succ]
          refine wpAnyH_all (rs := [8]) (by kernel_rfl) (by simp) ?_
          intro i hi
          simp only [List.mem_cons, List.not_mem_nil, or_false] at hi
          subst hi
          refine wpOp_wp rfl (by rfl) ?_
          go_simp
          refine (hrec.out y1 (Kd.C_below hCd.out (HB.out.trans (HX.out.mono HB.out.size))) (KC.below HK.out HX.out)).mono ?_
          rintro e y2 ⟨v, rfl, hv, hb_⟩
          obtain ⟨AP, cP, rfl, hcP, HP⟩ := hv.reads
          replace HP := Lib.hid HP
          replace HZ := Lib.hid (RD.below HZ.out hb_)
          replace HX := Lib.hid (HX.out.trans (hb_.mono HX.out.size))
          clear hS hb_ hv
          have hS : SC w.heap.size ak c y2 := CAt.below HCc.out HX.out
          refine ⟨hS, ?_⟩
          try simp only [List.getElem_toArray, List.getElem_cons_succ, List.getElem_cons_zero, Act.put, List.setIfInBounds_toArray, List.set_cons_zero, List.set_cons_succ]
          refine wpAnyH_all (rs := [9]) (by kernel_rfl) (by simp) ?_
          intro i hi
          simp only [List.mem_cons, List.not_mem_nil, or_false] at hi
          subst hi
          refine wpOp_wp rfl (by rfl) ?_
          refine wp_append_digs rfl (.tmp 32) (.tmp 40) rfl _ [] P AP P.length cP rfl rfl rfl HZ.out HP.out HX.out HX.out.size (by have := hPl.out; simp; omega) ?_
          intro v95 y3 HR95 hb3 _
          replace HX := Lib.hid hb3
          clear hS hb3
          have hS : SC w.heap.size ak c y3 := CAt.below HCc.out HX.out
          refine ⟨hS, ?_⟩
          try simp only [List.getElem_toArray, List.getElem_cons_succ, List.getElem_cons_zero, Act.put, List.setIfInBounds_toArray, List.set_cons_zero, List.set_cons_succ]
          refine wpAnyH_all (rs := [14]) (by kernel_rfl) (by simp) ?_
          intro i hi
          simp only [List.mem_cons, List.not_mem_nil, or_false] at hi
          subst hi
          refine wpOp_wp rfl (by rfl) ?_
          go_simp
          refine (hroot.out y3 (Kd.C_below hCt.out (HB.out.trans (HX.out.mono HB.out.size))) (KC.below HK.out HX.out)).mono ?_
          rintro e y4 ⟨rfl, hb_⟩
          replace HR95 := Lib.hid (RD.below HR95.out hb_)
          replace HX := Lib.hid (HX.out.trans (hb_.mono HX.out.size))
          clear hS hb_
          have hS : SC w.heap.size ak c y4 := CAt.below HCc.out HX.out
          refine ⟨hS, ?_⟩
          try simp only [List.getElem_toArray, List.getElem_cons_succ, List.getElem_cons_zero, Act.put, List.setIfInBounds_toArray, List.set_cons_zero, List.set_cons_succ]
          refine wpAnyH_all (rs := [15]) (by kernel_rfl) (by simp) ?_
          intro i hi
          simp only [List.mem_cons, List.not_mem_nil, or_false] at hi
          subst hi
          refine wpOp_wp rfl (by rfl) ?_
          refine wp_buildSlice_1 (.tmp 46) rfl D hl.out rfl ?_
          intro y5 HL hb5 hs5
          replace HR95 := Lib.hid (RD.below HR95.out hb5)
          replace HX := Lib.hid (HX.out.trans (hb5.mono HX.out.size))
          clear hS hb5
          have hS : SC w.heap.size ak c y5 := CAt.below HCc.out HX.out
          refine ⟨hS, ?_⟩
          try simp only [List.getElem_toArray, List.getElem_cons_succ, List.getElem_cons_zero, Act.put, List.setIfInBounds_toArray, List.set_cons_zero, List.set_cons_succ]
          refine wpAnyH_all (rs := [16]) (by kernel_rfl) (by simp) ?_
          intro i hi
          simp only [List.mem_cons, List.not_mem_nil, or_false] at hi
          subst hi
          refine wpOp_wp rfl (by rfl) ?_
          obtain ⟨AL, cL, hvL, hcL, HCL⟩ := HL.out.reads
          cases hvL
          refine wp_append_digs rfl (.tmp 41) (.tmp 47) rfl v95 ([] ++ P) [D] _ 1 _ rfl rfl rfl HR95.out HCL HX.out HX.out.size (by have := hPl.out; simp; omega) ?_
          intro v98 y6 HR98 hb6 _
          replace HX := Lib.hid hb6
          clear hS hb6 HCL
          have hS : SC w.heap.size ak c y6 := CAt.below HCc.out HX.out
          refine ⟨hS, ?_⟩
          try simp only [List.getElem_toArray, List.getElem_cons_succ, List.getElem_cons_zero, Act.put, List.setIfInBounds_toArray, List.set_cons_zero, List.set_cons_succ]
          refine wpAnyH_take (i := 17) (v := ?_) rfl (by kernel_rfl) (by kernel_rfl) (by kernel_rfl) (fun _ _ _ h => h) (Or.inl ⟨by rfl, ?_⟩) hS ?_
          rotate_left
          · intro v _; go_simp; first | done | with_reducible rfl
          rotate_left
          simp only [List.getElem_toArray, List.getElem_cons_succ, List.getElem_cons_zero, Act.put, List.setIfInBounds_toArray, List.set_cons_zero, List.set_cons_succ]
          refine wpAnyH_done (by kernel_rfl) ?_ _
          clear hS
          rw [List.nil_append, hPD.out] at HR98
          go_wp2_with fail
          go_ret
          exact ⟨v98, rfl, RD.lower HR98.out HB.out.size, HB.out.trans (HX.out.mono HB.out.size)⟩
        · skip
          refine wpOp_wp rfl (by rfl) ?_
          go_simp
          have HX := Lib.hid (Below.refl x0.heap.size x0)
          refine (hrec.out x0 (Kd.C_below hCd.out (HB.out.trans (HX.out.mono HB.out.size))) (KC.below HK.out HX.out)).mono ?_
          rintro e y1 ⟨v, rfl, hv, hb_⟩
          obtain ⟨AP, cP, rfl, hcP, HP⟩ := hv.reads
          replace HP := Lib.hid HP
          replace HX := Lib.hid hb_
          clear hS hb_ hv
          have hS : SC w.heap.size ak c y1 := CAt.below HCc.out HX.out
          refine ⟨hS, ?_⟩
          try simp only [List.getElem_toArray, List.getElem_cons_succ, List.getElem_cons_zero, Act.put, List.setIfInBounds_toArray, List.set_cons_zero, List.set_cons_succ]
          refine wpAnyH_all (rs := [0]) (by kernel_rfl) (by simp) ?_
          intro i hi
          simp only [List.mem_cons, List.not_mem_nil, or_false] at hi
          subst hi
          refine wpOp_wp rfl (by rfl) ?_
          refine wp_buildSlice_0 rfl ?_
          intro y2 HZ hb2 hs2
          replace HZ := Lib.hid (HZ.out.lower HX.out.size)
          replace HP := Lib.hid (CD.below HP.out hb2)
          replace HX := Lib.hid (HX.out.trans (hb2.mono HX.out.size))
          clear hS hb2
          have hS : SC w.heap.size ak c y2 := CAt.below HCc.out HX.out
          refine ⟨hS, ?_⟩
          try simp only [List.getElem_toArray, List.getElem_cons_succ, List.getElem_cons_zero, Act.put, List.setIfInBounds_toArray, List.set_cons_zero, List.set_cons_succ]
          refine wpAnyH_all (rs := [9]) (by kernel_rfl) (by simp) ?_
          intro i hi
          simp only [List.mem_cons, List.not_mem_nil, or_false] at hi
          subst hi
          refine wpOp_wp rfl (by rfl) ?_
          refine wp_append_digs rfl (.tmp 32) (.tmp 40) rfl _ [] P AP P.length cP rfl rfl rfl HZ.out HP.out HX.out HX.out.size (by have := hPl.out; simp; omega) ?_
          intro v95 y3 HR95 hb3 _
          replace HX := Lib.hid hb3
          clear hS hb3
          have hS : SC w.heap.size ak c y3 := CAt.below HCc.out HX.out
          refine ⟨hS, ?_⟩
          try simp only [List.getElem_toArray, List.getElem_cons_succ, List.getElem_cons_zero, Act.put, List.setIfInBounds_toArray, List.set_cons_zero, List.set_cons_succ]
          refine wpAnyH_all (rs := [14]) (by kernel_rfl) (by simp) ?_
          intro i hi
          simp only [List.mem_cons, List.not_mem_nil, or_false] at hi
          subst hi
          refine wpOp_wp rfl (by rfl) ?_
          go_simp
          refine (hroot.out y3 (Kd.C_below hCt.out (HB.out.trans (HX.out.mono HB.out.size))) (KC.below HK.out HX.out)).mono ?_
          rintro e y4 ⟨rfl, hb_⟩
          replace HR95 := Lib.hid (RD.below HR95.out hb_)
          replace HX := Lib.hid (HX.out.trans (hb_.mono HX.out.size))
          clear hS hb_
          have hS : SC w.heap.size ak c y4 := CAt.below HCc.out HX.out
          refine ⟨hS, ?_⟩
          try simp only [List.getElem_toArray, List.getElem_cons_succ, List.getElem_cons_zero, Act.put, List.setIfInBounds_toArray, List.set_cons_zero, List.set_cons_succ]
          refine wpAnyH_all (rs := [15]) (by kernel_rfl) (by simp) ?_
          intro i hi
          simp only [List.mem_cons, List.not_mem_nil, or_false] at hi
          subst hi
          refine wpOp_wp rfl (by rfl) ?_
          refine wp_buildSlice_1 (.tmp 46) rfl D hl.out rfl ?_
          intro y5 HL hb5 hs5
          replace HR95 := Lib.hid (RD.below HR95.out hb5)
          replace HX := Lib.hid (HX.out.trans (hb5.mono HX.out.size))
          clear hS hb5
          have hS : SC w.heap.size ak c y5 := CAt.below HCc.out HX.out
          refine ⟨hS, ?_⟩
          try simp only [List.getElem_toArray, List.getElem_cons_succ, List.getElem_cons_zero, Act.put, List.setIfInBounds_toArray, List.set_cons_zero, List.set_cons_succ]
          refine wpAnyH_all (rs := [16]) (by kernel_rfl) (by simp) ?_
          intro i hi
          simp only [List.mem_cons, List.not_mem_nil, or_false] at hi
          subst hi
          refine wpOp_wp rfl (by rfl) ?_
          obtain ⟨AL, cL, hvL, hcL, HCL⟩ := HL.out.reads
          cases hvL
          refine wp_append_digs rfl (.tmp 41) (.tmp 47) rfl v95 ([] ++ P) [D] _ 1 _ rfl rfl rfl HR95.out HCL HX.out HX.out.size (by have := hPl.out; simp; omega) ?_
          intro v98 y6 HR98 hb6 _
          replace HX := Lib.hid hb6
          clear hS hb6 HCL
          have hS : SC w.heap.size ak c y6 := CAt.below HCc.out HX.out
          refine ⟨hS, ?_⟩
          try simp only [List.getElem_toArray, List.getElem_cons_succ, List.getElem_cons_zero, Act.put, List.setIfInBounds_toArray, List.set_cons_zero, List.set_cons_succ]
          refine wpAnyH_take (i := 17) (v := ?_) rfl (by kernel_rfl) (by kernel_rfl) (by kernel_rfl) (fun _ _ _ h => h) (Or.inl ⟨by rfl, ?_⟩) hS ?_
          rotate_left
          · intro v _; go_simp; first | done | with_reducible rfl
          rotate_left
          simp only [List.getElem_toArray, List.getElem_cons_succ, List.getElem_cons_zero, Act.put, List.setIfInBounds_toArray, List.set_cons_zero, List.set_cons_succ]
          refine wpAnyH_done (by kernel_rfl) ?_ _
          clear hS
          rw [List.nil_append, hPD.out] at HR98
          go_wp2_with fail
          go_ret
          exact ⟨v98, rfl, RD.lower HR98.out HB.out.size, HB.out.trans (HX.out.mono HB.out.size)⟩
    · have hl1 : L.length = 1 := by omega
      rw [Tr.path_small alg (bl L) i (by rw [bl_len]; omega), hl1]
      exact rpath_one ak c A c1 (i : Int) w
end Go.Proofs.YtldpnmebjnkjeaaDoor.TrW
namespace Go.Proofs.YtldpnmebjnkjeaaDoor.TrW
open Go.RowKit Go.Proofs.YtldpnmebjnkjeaaDoorW.PrintWords Go.Proofs.YtldpnmebjnkjeaaDoor.PH1 Go.Proofs.YtldpnmebjnkjeaaDoor Go.Proofs.YtldpnmebjnkjeaaDoorW.PrintLast Go.Proofs.YtldpnmebjnkjeaaDoorW.PrintMore
open Go.Proofs.YtldpnmebjnkjeaaDoor.Sha
open Go.Proofs.YtldpnmebjnkjeaaDoor.Ref10 (wp_store_dig wp_load_dig wpOp_wp range_row yieldsIf_cell agg9 agg56 CV CAt KC run_load_C)
set_option linter.unusedVariables false
set_option linter.unusedSimpArgs false


theorem rb_le (L : List ByteArray) (j : Nat) (wh : Bool) (h : L.length ≤ 1024) (h1 : 1 ≤ j) (h2 : j ≤ L.length) : (Tr.bridge alg (bl L) j wh).reverse.length ≤ 1025 := by
  have := bridge_le (bl L) j wh (by rw [bl_len]; exact h2) h1
  rw [bl_len] at this
  rw [List.length_reverse]; omega
set_option maxHeartbeats 8000000 in
set_option maxRecDepth 100000 in
theorem rbridge_whole (ak : Addr) (c : Nat) (A : Option Addr) (c1 : Nat) (n : Nat) (w : World) :
    Calls Tryd.prog 43 #[cv ak c, .slice A n c1, .int .i64 (n : Int), .bool true] w fun e w' => ∃ v, e = .returned v ∧ RD w.heap.size v [] w' ∧ Below w.heap.size w w' := by
  unfold cv
  go_enter Tryd.func43, Tryd.ntmps43
  go_wp2_with fail
  go_ret
  exact ⟨_, rfl, Kd.R_nil _ _ _ _ _, (Below.refl _ _).alloc (Nat.le_refl _) _⟩
set_option maxHeartbeats 8000000 in
set_option maxRecDepth 100000 in
theorem rbridge_end (ak : Addr) (c : Nat) (A : Option Addr) (c1 : Nat) (L : List ByteArray) (w : World) (hL : L.length ≤ 1024) (hS0 : Small L) (hc : L.length ≤ c1) (hC : Kd.C Kd.string w A L.length L) (hK : KC w ak) :
    Calls Tryd.prog 43 #[cv ak c, .slice A L.length c1, .int .i64 (L.length : Int), .bool false] w fun e w' => ∃ v, e = .returned v ∧ RD w.heap.size v [Tr.root alg (bl L)] w' ∧ Below w.heap.size w w' := by
  have hroot := fun W hC hk => rroot_calls ak c L.length A c1 L W (Nat.le_refl _) hL hS0 hc hC hk
  have hl := rlen (bl L)
  generalize Tr.root alg (bl L) = D at hroot hl ⊢
  replace hroot := Lib.hid hroot
  replace hl := Lib.hid hl
  replace hC := Lib.hid hC
  replace hS0 := Lib.hid hS0
  unfold cv at *
  go_enter Tryd.func43, Tryd.ntmps43
  go_upto_region 1 with fail
  generalize hw1 : w.alloc _ = w1
  have HCc : Hid (CAt w.heap.size (.slice (some ak) 64 c) v0 w1) := by
    rw [← hw1]; exact Lib.hid (heap_alloc_last _ _)
  have HB : Hid (Below w.heap.size w w1) := by
    rw [← hw1]; exact Lib.hid ((Below.refl _ _).alloc (Nat.le_refl _) _)
  have HK := Lib.hid (hK.below HB.out)
  clear hw1 hK
  go_wp2_with (guard_target = wpList _ _ _ (⟨some 21, _, _, _, _, _⟩ :: _) _ _; refine wpList_load_C rfl (.tmp 4) rfl w.heap.size rfl _ _ HCc.out ?_)
  refine (hroot.out w1 (Kd.C_below hC.out HB.out) HK.out).mono ?_
  rintro e w2 ⟨rfl, hb⟩
  replace HCc := Lib.hid (CAt.below HCc.out hb)
  replace HK := Lib.hid (KC.below HK.out hb)
  replace HB := Lib.hid (HB.out.trans (Below.mono hb HB.out.size))
  clear hb
  go_wp2_with (guard_target = wpList _ _ _ (⟨some 24, _, _, _, _, _⟩ :: _) _ _; refine wpList_buildSlice_dig rfl (.tmp 23) rfl D hl.out rfl ?_)
  generalize hw3 : w2.alloc _ = w3
  have HR3 : RD w.heap.size (.slice (some ⟨w2.heap.size, 0, none⟩) 1 1) [D] w3 := by
    rw [← hw3]; exact RD.one D hl.out _ HB.out.size
  have hb3 : Below w2.heap.size w2 w3 := by rw [← hw3]; exact (Below.refl _ _).alloc (Nat.le_refl _) _
  clear hw3
  have HB3 := Lib.hid (HB.out.trans (hb3.mono HB.out.size))
  clear hb3
  replace HR3 := Lib.hid HR3
  go_wp2_with fail
  go_ret
  exact ⟨_, rfl, HR3.out, HB3.out⟩
set_option maxHeartbeats 8000000 in
set_option maxRecDepth 100000 in
theorem rbridge_calls (ak : Addr) (c : Nat) : ∀ (m : Nat) (A : Option Addr) (c1 : Nat) (L : List ByteArray) (j : Nat) (wh : Bool) (w : World), L.length ≤ m → L.length ≤ 1024 → Small L → L.length ≤ c1 → 1 ≤ j → j ≤ L.length → Kd.C Kd.string w A L.length L → KC w ak →
    Calls Tryd.prog 43 #[cv ak c, .slice A L.length c1, .int .i64 (j : Int), .bool wh] w fun e w' => ∃ v, e = .returned v ∧ RD w.heap.size v (Tr.bridge alg (bl L) j wh).reverse w' ∧ Below w.heap.size w w' := by
  intro m
  induction m with
  | zero => intro A c1 L j wh w hm hL hS0 hc hj1 hj hC hK; omega
  | succ m ih =>
    intro A c1 L j wh w hm hL hS0 hc hj1 hj hC hK
    by_cases h2 : j < L.length
    · have h3 := Tr.sp_lt (n := L.length) (by omega)
      have h4 := Tr.sp_pos L.length
      have hsp := fun W => rsplit_calls L.length hL W
      have hi2 : (j == L.length) = false := by rw [beq_eq_false_iff_ne]; omega
      have hi4 : ((j : Int) == (L.length : Int)) = false := by rw [beq_eq_false_iff_ne]; omega
      have hblen := bl_len L
      by_cases h1 : j ≤ Tr.sp L.length
      · have hp := Tr.bridge_left alg (bl L) j wh (by rw [hblen]; exact ⟨hj1, h2⟩) (by rw [hblen]; exact h1)
        rw [hblen, ← bl_take, ← bl_drop] at hp
        rw [hp, List.reverse_cons]
        obtain ⟨k, hk⟩ : ∃ k, k = Tr.sp L.length := ⟨_, rfl⟩
        rw [← hk] at h3 h4 hsp h1 ⊢
        replace hk := Lib.hid hk
        replace hp := Lib.hid hp
        have h1' : (j : Int) ≤ (k : Int) := by omega
        have tk1 := fun W => cut_take (A := A) (c := c1) (L := L) k (by omega) hc W
        obtain ⟨A', dk1, dk2, dk3⟩ := cut_drop (A := A) (c := c1) (L := L) k (by omega) hc
        have hrec := fun W hC hk => ih A c1 (L.take k) j wh W (by rw [List.length_take]; omega) (by rw [List.length_take]; omega) (hS0.take k) (by rw [List.length_take]; omega) hj1 (by rw [List.length_take]; omega) hC hk
        have hroot := fun W hC hk => rroot_calls ak c L.length A' (c1 - k) (L.drop k) W (by rw [List.length_drop]; omega) (by rw [List.length_drop]; omega) (hS0.drop k) dk3 hC hk
        have hCt := Kd.C_take (m := k) hC (by omega)
        have hCd := dk2 w hC
        have hl := rlen (bl (L.drop k))
        have hPl := rb_le (L.take k) j wh (by rw [List.length_take]; omega) (by omega) (by rw [List.length_take]; omega)
        generalize Tr.root alg (bl (L.drop k)) = D at hroot hl ⊢
        generalize (Tr.bridge alg (bl (L.take k)) j wh).reverse = P at hrec hPl ⊢
        obtain ⟨PD, hPD⟩ : ∃ PD, P ++ [D] = PD := ⟨_, rfl⟩
        rw [hPD]
        obtain ⟨L1, hL1⟩ : ∃ L1, L1 = L.take k := ⟨_, rfl⟩
        obtain ⟨L2, hL2⟩ : ∃ L2, L2 = L.drop k := ⟨_, rfl⟩
        rw [← hL1] at tk1 hrec hCt
        rw [← hL2] at dk1 hroot hCd
        clear hL1 hL2 dk3
        replace tk1 := Lib.hid tk1
        replace dk1 := Lib.hid dk1
        replace hsp := Lib.hid hsp
        replace hl := Lib.hid hl
        replace hrec := Lib.hid hrec
        replace hroot := Lib.hid hroot
        replace hCt := Lib.hid hCt
        replace hCd := Lib.hid hCd
        replace hC := Lib.hid hC
        replace hS0 := Lib.hid hS0
        replace hPD := Lib.hid hPD
        replace hPl := Lib.hid hPl
        clear dk2
        clear ih
        unfold cv at *
        go_enter Tryd.func43, Tryd.ntmps43
        go_upto_region 1 with fail
        generalize hw1 : w.alloc _ = w1
        have HCc : Hid (CAt w.heap.size (.slice (some ak) 64 c) v0 w1) := by
          rw [← hw1]; exact Lib.hid (heap_alloc_last _ _)
        have HB : Hid (Below w.heap.size w w1) := by
          rw [← hw1]; exact Lib.hid ((Below.refl _ _).alloc (Nat.le_refl _) _)
        have HK := Lib.hid (hK.below HB.out)
        clear hw1 hK
        go_wp2_with fail
        refine (hsp.out w1).mono ?_
        rintro e w2 ⟨rfl, hb⟩
        replace hb := hb.below
        replace HCc := Lib.hid (CAt.below HCc.out hb)
        replace HK := Lib.hid (KC.below HK.out hb)
        replace HB := Lib.hid (HB.out.trans (Below.mono hb HB.out.size))
        clear hb
        go_upto_region 7 with fail
        refine wp_region_held (S := SC w.heap.size ak c) (by kernel_rfl) ?_
        change wpAnyH _ _ _ _ _ _ _ _ w2.drew
        replace HCc : Hid (CAt w.heap.size (.slice (some ak) 64 c) v0 w2.drew) := HCc
        replace HK : Hid (KC w2.drew ak) := HK
        replace HB := Lib.hid HB.out.drew
        generalize w2.drew = x0 at HCc HK HB ⊢
        have hS : SC w.heap.size ak c x0 := HCc.out
        refine wpAnyH_take (i := 1) (v := _) rfl (by kernel_rfl) (by kernel_rfl) (by kernel_rfl) (fun _ _ _ h => h) (yieldsIf_C (by rfl) (.tmp 4) rfl w.heap.size rfl _ _ (fun _ h => h)) hS ?_
        try simp only [List.getElem_toArray, List.getElem_cons_succ, List.getElem_cons_zero, Act.put, List.setIfInBounds_toArray, List.set_cons_zero, List.set_cons_succ]
        refine wpAnyH_take (i := 2) (v := ?_) rfl (by kernel_rfl) (by kernel_rfl) (by kernel_rfl) (fun _ _ _ h => h) (Or.inl ⟨by rfl, ?_⟩) hS ?_
        rotate_left
        · intro v _; go_simp; first | done | with_reducible rfl
        rotate_left
        simp only [List.getElem_toArray, List.getElem_cons_succ, List.getElem_cons_zero, Act.put, List.setIfInBounds_toArray, List.set_cons_zero, List.set_cons_succ]
        refine wpAnyH_take (i := 3) (v := ?_) rfl (by kernel_rfl) (by kernel_rfl) (by kernel_rfl) (fun _ _ _ h => h) (Or.inl ⟨by rfl, ?_⟩) hS ?_
        rotate_left
        · intro v _; go_simp; first | done | with_reducible rfl
        rotate_left
        simp only [List.getElem_toArray, List.getElem_cons_succ, List.getElem_cons_zero, Act.put, List.setIfInBounds_toArray, List.set_cons_zero, List.set_cons_succ]
        refine wpAnyH_take (i := 4) (v := _) rfl (by kernel_rfl) (by kernel_rfl) (by kernel_rfl) (fun _ _ _ h => h) (yieldsIf_slice (by rfl) und_strs' rfl (.slice A L.length c1) rfl none (some (.int .i64 k)) rfl rfl _ tk1.out) hS ?_
        try simp only [List.getElem_toArray, List.getElem_cons_succ, List.getElem_cons_zero, Act.put, List.setIfInBounds_toArray, List.set_cons_zero, List.set_cons_succ]
        refine wpAnyH_take (i := 5) (v := ?_) rfl (by kernel_rfl) (by kernel_rfl) (by kernel_rfl) (fun _ _ _ h => h) (Or.inl ⟨by rfl, ?_⟩) hS ?_
        rotate_left
        · intro v _; go_simp; first | done | with_reducible rfl
        rotate_left
        simp only [List.getElem_toArray, List.getElem_cons_succ, List.getElem_cons_zero, Act.put, List.setIfInBounds_toArray, List.set_cons_zero, List.set_cons_succ]
        refine wpAnyH_take (i := 6) (v := ?_) rfl (by kernel_rfl) (by kernel_rfl) (by kernel_rfl) (fun _ _ _ h => h) (Or.inl ⟨by rfl, ?_⟩) hS ?_
        rotate_left
        · intro v _; go_simp; first | done | with_reducible rfl
        rotate_left
        simp only [List.getElem_toArray, List.getElem_cons_succ, List.getElem_cons_zero, Act.put, List.setIfInBounds_toArray, List.set_cons_zero, List.set_cons_succ]
        refine wpAnyH_take (i := 9) (v := _) rfl (by kernel_rfl) (by kernel_rfl) (by kernel_rfl) (fun _ _ _ h => h) (yieldsIf_C (by rfl) (.tmp 4) rfl w.heap.size rfl _ _ (fun _ h => h)) hS ?_
        try simp only [List.getElem_toArray, List.getElem_cons_succ, List.getElem_cons_zero, Act.put, List.setIfInBounds_toArray, List.set_cons_zero, List.set_cons_succ]
        refine wpAnyH_take (i := 10) (v := ?_) rfl (by kernel_rfl) (by kernel_rfl) (by kernel_rfl) (fun _ _ _ h => h) (Or.inl ⟨by rfl, ?_⟩) hS ?_
        rotate_left
        · intro v _; go_simp; first | done | with_reducible rfl
        rotate_left
        simp only [List.getElem_toArray, List.getElem_cons_succ, List.getElem_cons_zero, Act.put, List.setIfInBounds_toArray, List.set_cons_zero, List.set_cons_succ]
        refine wpAnyH_take (i := 11) (v := ?_) rfl (by kernel_rfl) (by kernel_rfl) (by kernel_rfl) (fun _ _ _ h => h) (Or.inl ⟨by rfl, ?_⟩) hS ?_
        rotate_left
        · intro v _; go_simp; first | done | with_reducible rfl
        rotate_left
        simp only [List.getElem_toArray, List.getElem_cons_succ, List.getElem_cons_zero, Act.put, List.setIfInBounds_toArray, List.set_cons_zero, List.set_cons_succ]
        refine wpAnyH_take (i := 12) (v := _) rfl (by kernel_rfl) (by kernel_rfl) (by kernel_rfl) (fun _ _ _ h => h) (yieldsIf_slice (by rfl) und_strs' rfl (.slice A L.length c1) rfl (some (.int .i64 k)) none rfl rfl _ dk1.out) hS ?_
        try simp only [List.getElem_toArray, List.getElem_cons_succ, List.getElem_cons_zero, Act.put, List.setIfInBounds_toArray, List.set_cons_zero, List.set_cons_succ]
        refine wpAnyH_all (rs := [0, 7]) (by kernel_rfl) (by simp) ?_
        intro i hi
        simp only [List.mem_cons, List.not_mem_nil, or_false] at hi
        rcases hi with rfl | rfl
        · skip
          refine wpOp_wp rfl (by rfl) ?_
          refine wp_buildSlice_0 rfl ?_
          intro y1 HZ hb1 hs1
          have HX := Lib.hid hb1
          clear hS hb1
          have hS : SC w.heap.size ak c y1 := CAt.below HCc.out HX.out
          refine ⟨hS, ?_⟩
          try simp only [List.getElem_toArray, List.getElem_cons_succ, List.getElem_cons_zero, Act.put, List.setIfInBounds_toArray, List.set_cons_zero, List.set_cons_succ]
          refine wpAnyH_all (rs := [7]) (by kernel_rfl) (by simp) ?_
          intro i hi
          simp only [List.mem_cons, List.not_mem_nil, or_false] at hi
          subst hi
          refine wpOp_wp rfl (by rfl) ?_
          go_simp
          refine (hrec.out y1 (Kd.C_below hCt.out (HB.out.trans (HX.out.mono HB.out.size))) (KC.below HK.out HX.out)).mono ?_
          rintro e y2 ⟨v, rfl, hv, hb_⟩
          obtain ⟨AP, cP, rfl, hcP, HP⟩ := hv.reads
          replace HP := Lib.hid HP
          replace HZ := Lib.hid (RD.below HZ.out hb_)
          replace HX := Lib.hid (HX.out.trans (hb_.mono HX.out.size))
          clear hS hb_ hv
          have hS : SC w.heap.size ak c y2 := CAt.below HCc.out HX.out
          refine ⟨hS, ?_⟩
          try simp only [List.getElem_toArray, List.getElem_cons_succ, List.getElem_cons_zero, Act.put, List.setIfInBounds_toArray, List.set_cons_zero, List.set_cons_succ]
          refine wpAnyH_all (rs := [8]) (by kernel_rfl) (by simp) ?_
          intro i hi
          simp only [List.mem_cons, List.not_mem_nil, or_false] at hi
          subst hi
          refine wpOp_wp rfl (by rfl) ?_
          refine wp_append_digs rfl (.tmp 31) (.tmp 38) rfl _ [] P AP P.length cP rfl rfl rfl HZ.out HP.out HX.out HX.out.size (by have := hPl.out; simp; omega) ?_
          intro v95 y3 HR95 hb3 _
          replace HX := Lib.hid hb3
          clear hS hb3
          have hS : SC w.heap.size ak c y3 := CAt.below HCc.out HX.out
          refine ⟨hS, ?_⟩
          try simp only [List.getElem_toArray, List.getElem_cons_succ, List.getElem_cons_zero, Act.put, List.setIfInBounds_toArray, List.set_cons_zero, List.set_cons_succ]
          refine wpAnyH_all (rs := [13]) (by kernel_rfl) (by simp) ?_
          intro i hi
          simp only [List.mem_cons, List.not_mem_nil, or_false] at hi
          subst hi
          refine wpOp_wp rfl (by rfl) ?_
          go_simp
          refine (hroot.out y3 (Kd.C_below hCd.out (HB.out.trans (HX.out.mono HB.out.size))) (KC.below HK.out HX.out)).mono ?_
          rintro e y4 ⟨rfl, hb_⟩
          replace HR95 := Lib.hid (RD.below HR95.out hb_)
          replace HX := Lib.hid (HX.out.trans (hb_.mono HX.out.size))
          clear hS hb_
          have hS : SC w.heap.size ak c y4 := CAt.below HCc.out HX.out
          refine ⟨hS, ?_⟩
          try simp only [List.getElem_toArray, List.getElem_cons_succ, List.getElem_cons_zero, Act.put, List.setIfInBounds_toArray, List.set_cons_zero, List.set_cons_succ]
          refine wpAnyH_all (rs := [14]) (by kernel_rfl) (by simp) ?_
          intro i hi
          simp only [List.mem_cons, List.not_mem_nil, or_false] at hi
          subst hi
          refine wpOp_wp rfl (by rfl) ?_
          refine wp_buildSlice_1 (.tmp 44) rfl D hl.out rfl ?_
          intro y5 HL hb5 hs5
          replace HR95 := Lib.hid (RD.below HR95.out hb5)
          replace HX := Lib.hid (HX.out.trans (hb5.mono HX.out.size))
          clear hS hb5
          have hS : SC w.heap.size ak c y5 := CAt.below HCc.out HX.out
          refine ⟨hS, ?_⟩
          try simp only [List.getElem_toArray, List.getElem_cons_succ, List.getElem_cons_zero, Act.put, List.setIfInBounds_toArray, List.set_cons_zero, List.set_cons_succ]
          refine wpAnyH_all (rs := [15]) (by kernel_rfl) (by simp) ?_
          intro i hi
          simp only [List.mem_cons, List.not_mem_nil, or_false] at hi
          subst hi
          refine wpOp_wp rfl (by rfl) ?_
          obtain ⟨AL, cL, hvL, hcL, HCL⟩ := HL.out.reads
          cases hvL
          refine wp_append_digs rfl (.tmp 39) (.tmp 45) rfl v95 ([] ++ P) [D] _ 1 _ rfl rfl rfl HR95.out HCL HX.out HX.out.size (by have := hPl.out; simp; omega) ?_
          intro v98 y6 HR98 hb6 _
          replace HX := Lib.hid hb6
          clear hS hb6 HCL
          have hS : SC w.heap.size ak c y6 := CAt.below HCc.out HX.out
          refine ⟨hS, ?_⟩
          try simp only [List.getElem_toArray, List.getElem_cons_succ, List.getElem_cons_zero, Act.put, List.setIfInBounds_toArray, List.set_cons_zero, List.set_cons_succ]
          refine wpAnyH_take (i := 16) (v := ?_) rfl (by kernel_rfl) (by kernel_rfl) (by kernel_rfl) (fun _ _ _ h => h) (Or.inl ⟨by rfl, ?_⟩) hS ?_
          rotate_left
          · intro v _; go_simp; first | done | with_reducible rfl
          rotate_left
          simp only [List.getElem_toArray, List.getElem_cons_succ, List.getElem_cons_zero, Act.put, List.setIfInBounds_toArray, List.set_cons_zero, List.set_cons_succ]
          refine wpAnyH_done (by kernel_rfl) ?_ _
          clear hS
          rw [List.nil_append, hPD.out] at HR98
          go_wp2_with fail
          go_ret
          exact ⟨v98, rfl, RD.lower HR98.out HB.out.size, HB.out.trans (HX.out.mono HB.out.size)⟩
        · skip
          refine wpOp_wp rfl (by rfl) ?_
          go_simp
          have HX := Lib.hid (Below.refl x0.heap.size x0)
          refine (hrec.out x0 (Kd.C_below hCt.out (HB.out.trans (HX.out.mono HB.out.size))) (KC.below HK.out HX.out)).mono ?_
          rintro e y1 ⟨v, rfl, hv, hb_⟩
          obtain ⟨AP, cP, rfl, hcP, HP⟩ := hv.reads
          replace HP := Lib.hid HP
          replace HX := Lib.hid hb_
          clear hS hb_ hv
          have hS : SC w.heap.size ak c y1 := CAt.below HCc.out HX.out
          refine ⟨hS, ?_⟩
          try simp only [List.getElem_toArray, List.getElem_cons_succ, List.getElem_cons_zero, Act.put, List.setIfInBounds_toArray, List.set_cons_zero, List.set_cons_succ]
          refine wpAnyH_all (rs := [0]) (by kernel_rfl) (by simp) ?_
          intro i hi
          simp only [List.mem_cons, List.not_mem_nil, or_false] at hi
          subst hi
          refine wpOp_wp rfl (by rfl) ?_
          refine wp_buildSlice_0 rfl ?_
          intro y2 HZ hb2 hs2
          replace HZ := Lib.hid (HZ.out.lower HX.out.size)
          replace HP := Lib.hid (CD.below HP.out hb2)
          replace HX := Lib.hid (HX.out.trans (hb2.mono HX.out.size))
          clear hS hb2
          have hS : SC w.heap.size ak c y2 := CAt.below HCc.out HX.out
          refine ⟨hS, ?_⟩
          try simp only [List.getElem_toArray, List.getElem_cons_succ, List.getElem_cons_zero, Act.put, List.setIfInBounds_toArray, List.set_cons_zero, List.set_cons_succ]
          refine wpAnyH_all (rs := [8]) (by kernel_rfl) (by simp) ?_
          intro i hi
          simp only [List.mem_cons, List.not_mem_nil, or_false] at hi
          subst hi
          refine wpOp_wp rfl (by rfl) ?_
          refine wp_append_digs rfl (.tmp 31) (.tmp 38) rfl _ [] P AP P.length cP rfl rfl rfl HZ.out HP.out HX.out HX.out.size (by have := hPl.out; simp; omega) ?_
          intro v95 y3 HR95 hb3 _
          replace HX := Lib.hid hb3
          clear hS hb3
          have hS : SC w.heap.size ak c y3 := CAt.below HCc.out HX.out
          refine ⟨hS, ?_⟩
          try simp only [List.getElem_toArray, List.getElem_cons_succ, List.getElem_cons_zero, Act.put, List.setIfInBounds_toArray, List.set_cons_zero, List.set_cons_succ]
          refine wpAnyH_all (rs := [13]) (by kernel_rfl) (by simp) ?_
          intro i hi
          simp only [List.mem_cons, List.not_mem_nil, or_false] at hi
          subst hi
          refine wpOp_wp rfl (by rfl) ?_
          go_simp
          refine (hroot.out y3 (Kd.C_below hCd.out (HB.out.trans (HX.out.mono HB.out.size))) (KC.below HK.out HX.out)).mono ?_
          rintro e y4 ⟨rfl, hb_⟩
          replace HR95 := Lib.hid (RD.below HR95.out hb_)
          replace HX := Lib.hid (HX.out.trans (hb_.mono HX.out.size))
          clear hS hb_
          have hS : SC w.heap.size ak c y4 := CAt.below HCc.out HX.out
          refine ⟨hS, ?_⟩
          try simp only [List.getElem_toArray, List.getElem_cons_succ, List.getElem_cons_zero, Act.put, List.setIfInBounds_toArray, List.set_cons_zero, List.set_cons_succ]
          refine wpAnyH_all (rs := [14]) (by kernel_rfl) (by simp) ?_
          intro i hi
          simp only [List.mem_cons, List.not_mem_nil, or_false] at hi
          subst hi
          refine wpOp_wp rfl (by rfl) ?_
          refine wp_buildSlice_1 (.tmp 44) rfl D hl.out rfl ?_
          intro y5 HL hb5 hs5
          replace HR95 := Lib.hid (RD.below HR95.out hb5)
          replace HX := Lib.hid (HX.out.trans (hb5.mono HX.out.size))
          clear hS hb5
          have hS : SC w.heap.size ak c y5 := CAt.below HCc.out HX.out
          refine ⟨hS, ?_⟩
          try simp only [List.getElem_toArray, List.getElem_cons_succ, List.getElem_cons_zero, Act.put, List.setIfInBounds_toArray, List.set_cons_zero, List.set_cons_succ]
          refine wpAnyH_all (rs := [15]) (by kernel_rfl) (by simp) ?_
          intro i hi
          simp only [List.mem_cons, List.not_mem_nil, or_false] at hi
          subst hi
          refine wpOp_wp rfl (by rfl) ?_
          obtain ⟨AL, cL, hvL, hcL, HCL⟩ := HL.out.reads
          cases hvL
          refine wp_append_digs rfl (.tmp 39) (.tmp 45) rfl v95 ([] ++ P) [D] _ 1 _ rfl rfl rfl HR95.out HCL HX.out HX.out.size (by have := hPl.out; simp; omega) ?_
          intro v98 y6 HR98 hb6 _
          replace HX := Lib.hid hb6
          clear hS hb6 HCL
          have hS : SC w.heap.size ak c y6 := CAt.below HCc.out HX.out
          refine ⟨hS, ?_⟩
          try simp only [List.getElem_toArray, List.getElem_cons_succ, List.getElem_cons_zero, Act.put, List.setIfInBounds_toArray, List.set_cons_zero, List.set_cons_succ]
          refine wpAnyH_take (i := 16) (v := ?_) rfl (by kernel_rfl) (by kernel_rfl) (by kernel_rfl) (fun _ _ _ h => h) (Or.inl ⟨by rfl, ?_⟩) hS ?_
          rotate_left
          · intro v _; go_simp; first | done | with_reducible rfl
          rotate_left
          simp only [List.getElem_toArray, List.getElem_cons_succ, List.getElem_cons_zero, Act.put, List.setIfInBounds_toArray, List.set_cons_zero, List.set_cons_succ]
          refine wpAnyH_done (by kernel_rfl) ?_ _
          clear hS
          rw [List.nil_append, hPD.out] at HR98
          go_wp2_with fail
          go_ret
          exact ⟨v98, rfl, RD.lower HR98.out HB.out.size, HB.out.trans (HX.out.mono HB.out.size)⟩
      · have hp := Tr.bridge_right alg (bl L) j wh (by rw [hblen]; exact ⟨hj1, h2⟩) (by rw [hblen]; exact h1)
        rw [hblen, ← bl_take, ← bl_drop] at hp
        rw [hp, List.reverse_cons]
        obtain ⟨k, hk⟩ : ∃ k, k = Tr.sp L.length := ⟨_, rfl⟩
        rw [← hk] at h3 h4 hsp h1 ⊢
        replace hk := Lib.hid hk
        replace hp := Lib.hid hp
        have h1' : ¬ (j : Int) ≤ (k : Int) := by omega
        have hik : (j : Int) - (k : Int) = ((j - k : Nat) : Int) := by omega
        have hiw : IntKind.i64.wrap ((j - k : Nat) : Int) = ((j - k : Nat) : Int) := Go.IntWalk.i64_in _ ⟨by omega, by omega⟩
        have hiw2 : IntKind.i64.wrap ((j : Int) - (k : Int)) = ((j - k : Nat) : Int) := by rw [hik]; exact hiw
        have tk1 := fun W => cut_take (A := A) (c := c1) (L := L) k (by omega) hc W
        obtain ⟨A', dk1, dk2, dk3⟩ := cut_drop (A := A) (c := c1) (L := L) k (by omega) hc
        have hrec := fun W hC hk => ih A' (c1 - k) (L.drop k) (j - k) false W (by rw [List.length_drop]; omega) (by rw [List.length_drop]; omega) (hS0.drop k) dk3 (by omega) (by rw [List.length_drop]; omega) hC hk
        have hroot := fun W hC hk => rroot_calls ak c L.length A c1 (L.take k) W (by rw [List.length_take]; omega) (by rw [List.length_take]; omega) (hS0.take k) (by rw [List.length_take]; omega) hC hk
        have hCt := Kd.C_take (m := k) hC (by omega)
        have hCd := dk2 w hC
        have hl := rlen (bl (L.take k))
        have hPl := rb_le (L.drop k) (j - k) false (by rw [List.length_drop]; omega) (by omega) (by rw [List.length_drop]; omega)
        generalize Tr.root alg (bl (L.take k)) = D at hroot hl ⊢
        generalize (Tr.bridge alg (bl (L.drop k)) (j - k) false).reverse = P at hrec hPl ⊢
        obtain ⟨PD, hPD⟩ : ∃ PD, P ++ [D] = PD := ⟨_, rfl⟩
        rw [hPD]
        obtain ⟨L1, hL1⟩ : ∃ L1, L1 = L.take k := ⟨_, rfl⟩
        obtain ⟨L2, hL2⟩ : ∃ L2, L2 = L.drop k := ⟨_, rfl⟩
        rw [← hL1] at tk1 hroot hCt
        rw [← hL2] at dk1 hrec hCd
        clear hL1 hL2 dk3
        replace tk1 := Lib.hid tk1
        replace dk1 := Lib.hid dk1
        replace hsp := Lib.hid hsp
        replace hl := Lib.hid hl
        replace hrec := Lib.hid hrec
        replace hroot := Lib.hid hroot
        replace hCt := Lib.hid hCt
        replace hCd := Lib.hid hCd
        replace hC := Lib.hid hC
        replace hS0 := Lib.hid hS0
        replace hPD := Lib.hid hPD
        replace hPl := Lib.hid hPl
        clear dk2
        clear ih
        unfold cv at *
        go_enter Tryd.func43, Tryd.ntmps43
        go_upto_region 1 with fail
        generalize hw1 : w.alloc _ = w1
        have HCc : Hid (CAt w.heap.size (.slice (some ak) 64 c) v0 w1) := by
          rw [← hw1]; exact Lib.hid (heap_alloc_last _ _)
        have HB : Hid (Below w.heap.size w w1) := by
          rw [← hw1]; exact Lib.hid ((Below.refl _ _).alloc (Nat.le_refl _) _)
        have HK := Lib.hid (hK.below HB.out)
        clear hw1 hK
        go_wp2_with fail
        refine (hsp.out w1).mono ?_
        rintro e w2 ⟨rfl, hb⟩
        replace hb := hb.below
        replace HCc := Lib.hid (CAt.below HCc.out hb)
        replace HK := Lib.hid (KC.below HK.out hb)
        replace HB := Lib.hid (HB.out.trans (Below.mono hb HB.out.size))
        clear hb
        go_upto_region 8 with fail
        refine wp_region_held (S := SC w.heap.size ak c) (by kernel_rfl) ?_
        change wpAnyH _ _ _ _ _ _ _ _ w2.drew
        replace HCc : Hid (CAt w.heap.size (.slice (some ak) 64 c) v0 w2.drew) := HCc
        replace HK : Hid (KC w2.drew ak) := HK
        replace HB := Lib.hid HB.out.drew
        generalize w2.drew = x0 at HCc HK HB ⊢
        have hS : SC w.heap.size ak c x0 := HCc.out
        refine wpAnyH_take (i := 1) (v := _) rfl (by kernel_rfl) (by kernel_rfl) (by kernel_rfl) (fun _ _ _ h => h) (yieldsIf_C (by rfl) (.tmp 4) rfl w.heap.size rfl _ _ (fun _ h => h)) hS ?_
        try simp only [List.getElem_toArray, List.getElem_cons_succ, List.getElem_cons_zero, Act.put, List.setIfInBounds_toArray, List.set_cons_zero, List.set_cons_succ]
        refine wpAnyH_take (i := 2) (v := ?_) rfl (by kernel_rfl) (by kernel_rfl) (by kernel_rfl) (fun _ _ _ h => h) (Or.inl ⟨by rfl, ?_⟩) hS ?_
        rotate_left
        · intro v _; go_simp; first | done | with_reducible rfl
        rotate_left
        simp only [List.getElem_toArray, List.getElem_cons_succ, List.getElem_cons_zero, Act.put, List.setIfInBounds_toArray, List.set_cons_zero, List.set_cons_succ]
        refine wpAnyH_take (i := 3) (v := ?_) rfl (by kernel_rfl) (by kernel_rfl) (by kernel_rfl) (fun _ _ _ h => h) (Or.inl ⟨by rfl, ?_⟩) hS ?_
        rotate_left
        · intro v _; go_simp; first | done | with_reducible rfl
        rotate_left
        simp only [List.getElem_toArray, List.getElem_cons_succ, List.getElem_cons_zero, Act.put, List.setIfInBounds_toArray, List.set_cons_zero, List.set_cons_succ]
        refine wpAnyH_take (i := 4) (v := _) rfl (by kernel_rfl) (by kernel_rfl) (by kernel_rfl) (fun _ _ _ h => h) (yieldsIf_slice (by rfl) und_strs' rfl (.slice A L.length c1) rfl (some (.int .i64 k)) none rfl rfl _ dk1.out) hS ?_
        try simp only [List.getElem_toArray, List.getElem_cons_succ, List.getElem_cons_zero, Act.put, List.setIfInBounds_toArray, List.set_cons_zero, List.set_cons_succ]
        refine wpAnyH_take (i := 5) (v := ?_) rfl (by kernel_rfl) (by kernel_rfl) (by kernel_rfl) (fun _ _ _ h => h) (Or.inl ⟨by rfl, ?_⟩) hS ?_
        rotate_left
        · intro v _; go_simp; first | done | with_reducible rfl
        rotate_left
        simp only [List.getElem_toArray, List.getElem_cons_succ, List.getElem_cons_zero, Act.put, List.setIfInBounds_toArray, List.set_cons_zero, List.set_cons_succ]
        refine wpAnyH_take (i := 6) (v := ?_) rfl (by kernel_rfl) (by kernel_rfl) (by kernel_rfl) (fun _ _ _ h => h) (Or.inl ⟨by rfl, ?_⟩) hS ?_
        rotate_left
        · intro v _; go_simp; first | done | with_reducible rfl
        rotate_left
        simp only [List.getElem_toArray, List.getElem_cons_succ, List.getElem_cons_zero, Act.put, List.setIfInBounds_toArray, List.set_cons_zero, List.set_cons_succ]
        refine wpAnyH_take (i := 7) (v := ?_) rfl (by kernel_rfl) (by kernel_rfl) (by kernel_rfl) (fun _ _ _ h => h) (Or.inl ⟨by rfl, ?_⟩) hS ?_
        rotate_left
        · intro v _; go_simp; first | done | with_reducible rfl
        rotate_left
        simp only [List.getElem_toArray, List.getElem_cons_succ, List.getElem_cons_zero, Act.put, List.setIfInBounds_toArray, List.set_cons_zero, List.set_cons_succ]
        refine wpAnyH_take (i := 10) (v := _) rfl (by kernel_rfl) (by kernel_rfl) (by kernel_rfl) (fun _ _ _ h => h) (yieldsIf_C (by rfl) (.tmp 4) rfl w.heap.size rfl _ _ (fun _ h => h)) hS ?_
        try simp only [List.getElem_toArray, List.getElem_cons_succ, List.getElem_cons_zero, Act.put, List.setIfInBounds_toArray, List.set_cons_zero, List.set_cons_succ]
        refine wpAnyH_take (i := 11) (v := ?_) rfl (by kernel_rfl) (by kernel_rfl) (by kernel_rfl) (fun _ _ _ h => h) (Or.inl ⟨by rfl, ?_⟩) hS ?_
        rotate_left
        · intro v _; go_simp; first | done | with_reducible rfl
        rotate_left
        simp only [List.getElem_toArray, List.getElem_cons_succ, List.getElem_cons_zero, Act.put, List.setIfInBounds_toArray, List.set_cons_zero, List.set_cons_succ]
        refine wpAnyH_take (i := 12) (v := ?_) rfl (by kernel_rfl) (by kernel_rfl) (by kernel_rfl) (fun _ _ _ h => h) (Or.inl ⟨by rfl, ?_⟩) hS ?_
        rotate_left
        · intro v _; go_simp; first | done | with_reducible rfl
        rotate_left
        simp only [List.getElem_toArray, List.getElem_cons_succ, List.getElem_cons_zero, Act.put, List.setIfInBounds_toArray, List.set_cons_zero, List.set_cons_succ]
        refine wpAnyH_take (i := 13) (v := _) rfl (by kernel_rfl) (by kernel_rfl) (by kernel_rfl) (fun _ _ _ h => h) (yieldsIf_slice (by rfl) und_strs' rfl (.slice A L.length c1) rfl none (some (.int .i64 k)) rfl rfl _ tk1.out) hS ?_
        try simp only [List.getElem_toArray, List.getElem_cons_succ, List.getElem_cons_zero, Act.put, List.setIfInBounds_toArray, List.set_cons_zero, List.set_cons_succ]
        refine wpAnyH_all (rs := [0, 8]) (by kernel_rfl) (by simp) ?_
        intro i hi
        simp only [List.mem_cons, List.not_mem_nil, or_false] at hi
        rcases hi with rfl | rfl
        · skip
          refine wpOp_wp rfl (by rfl) ?_
          refine wp_buildSlice_0 rfl ?_
          intro y1 HZ hb1 hs1
          have HX := Lib.hid hb1
          clear hS hb1
          have hS : SC w.heap.size ak c y1 := CAt.below HCc.out HX.out
          refine ⟨hS, ?_⟩
          try simp only [List.getElem_toArray, List.getElem_cons_succ, List.getElem_cons_zero, Act.put, List.setIfInBounds_toArray, List.set_cons_zero, List.set_cons_succ]
          refine wpAnyH_all (rs := [8]) (by kernel_rfl) (by simp) ?_
          intro i hi
          simp only [List.mem_cons, List.not_mem_nil, or_false] at hi
          subst hi
          refine wpOp_wp rfl (by rfl) ?_
          go_simp
          refine (hrec.out y1 (Kd.C_below hCd.out (HB.out.trans (HX.out.mono HB.out.size))) (KC.below HK.out HX.out)).mono ?_
          rintro e y2 ⟨v, rfl, hv, hb_⟩
          obtain ⟨AP, cP, rfl, hcP, HP⟩ := hv.reads
          replace HP := Lib.hid HP
          replace HZ := Lib.hid (RD.below HZ.out hb_)
          replace HX := Lib.hid (HX.out.trans (hb_.mono HX.out.size))
          clear hS hb_ hv
          have hS : SC w.heap.size ak c y2 := CAt.below HCc.out HX.out
          refine ⟨hS, ?_⟩
          try simp only [List.getElem_toArray, List.getElem_cons_succ, List.getElem_cons_zero, Act.put, List.setIfInBounds_toArray, List.set_cons_zero, List.set_cons_succ]
          refine wpAnyH_all (rs := [9]) (by kernel_rfl) (by simp) ?_
          intro i hi
          simp only [List.mem_cons, List.not_mem_nil, or_false] at hi
          subst hi
          refine wpOp_wp rfl (by rfl) ?_
          refine wp_append_digs rfl (.tmp 47) (.tmp 55) rfl _ [] P AP P.length cP rfl rfl rfl HZ.out HP.out HX.out HX.out.size (by have := hPl.out; simp; omega) ?_
          intro v95 y3 HR95 hb3 _
          replace HX := Lib.hid hb3
          clear hS hb3
          have hS : SC w.heap.size ak c y3 := CAt.below HCc.out HX.out
          refine ⟨hS, ?_⟩
          try simp only [List.getElem_toArray, List.getElem_cons_succ, List.getElem_cons_zero, Act.put, List.setIfInBounds_toArray, List.set_cons_zero, List.set_cons_succ]
          refine wpAnyH_all (rs := [14]) (by kernel_rfl) (by simp) ?_
          intro i hi
          simp only [List.mem_cons, List.not_mem_nil, or_false] at hi
          subst hi
          refine wpOp_wp rfl (by rfl) ?_
          go_simp
          refine (hroot.out y3 (Kd.C_below hCt.out (HB.out.trans (HX.out.mono HB.out.size))) (KC.below HK.out HX.out)).mono ?_
          rintro e y4 ⟨rfl, hb_⟩
          replace HR95 := Lib.hid (RD.below HR95.out hb_)
          replace HX := Lib.hid (HX.out.trans (hb_.mono HX.out.size))
          clear hS hb_
          have hS : SC w.heap.size ak c y4 := CAt.below HCc.out HX.out
          refine ⟨hS, ?_⟩
          try simp only [List.getElem_toArray, List.getElem_cons_succ, List.getElem_cons_zero, Act.put, List.setIfInBounds_toArray, List.set_cons_zero, List.set_cons_succ]
          refine wpAnyH_all (rs := [15]) (by kernel_rfl) (by simp) ?_
          intro i hi
          simp only [List.mem_cons, List.not_mem_nil, or_false] at hi
          subst hi
          refine wpOp_wp rfl (by rfl) ?_
          refine wp_buildSlice_1 (.tmp 61) rfl D hl.out rfl ?_
          intro y5 HL hb5 hs5
          replace HR95 := Lib.hid (RD.below HR95.out hb5)
          replace HX := Lib.hid (HX.out.trans (hb5.mono HX.out.size))
          clear hS hb5
          have hS : SC w.heap.size ak c y5 := CAt.below HCc.out HX.out
          refine ⟨hS, ?_⟩
          try simp only [List.getElem_toArray, List.getElem_cons_succ, List.getElem_cons_zero, Act.put, List.setIfInBounds_toArray, List.set_cons_zero, List.set_cons_succ]
          refine wpAnyH_all (rs := [16]) (by kernel_rfl) (by simp) ?_
          intro i hi
          simp only [List.mem_cons, List.not_mem_nil, or_false] at hi
          subst hi
          refine wpOp_wp rfl (by rfl) ?_
          obtain ⟨AL, cL, hvL, hcL, HCL⟩ := HL.out.reads
          cases hvL
          refine wp_append_digs rfl (.tmp 56) (.tmp 62) rfl v95 ([] ++ P) [D] _ 1 _ rfl rfl rfl HR95.out HCL HX.out HX.out.size (by have := hPl.out; simp; omega) ?_
          intro v98 y6 HR98 hb6 _
          replace HX := Lib.hid hb6
          clear hS hb6 HCL
          have hS : SC w.heap.size ak c y6 := CAt.below HCc.out HX.out
          refine ⟨hS, ?_⟩
          try simp only [List.getElem_toArray, List.getElem_cons_succ, List.getElem_cons_zero, Act.put, List.setIfInBounds_toArray, List.set_cons_zero, List.set_cons_succ]
          refine wpAnyH_take (i := 17) (v := ?_) rfl (by kernel_rfl) (by kernel_rfl) (by kernel_rfl) (fun _ _ _ h => h) (Or.inl ⟨by rfl, ?_⟩) hS ?_
          rotate_left
          · intro v _; go_simp; first | done | with_reducible rfl
          rotate_left
          simp only [List.getElem_toArray, List.getElem_cons_succ, List.getElem_cons_zero, Act.put, List.setIfInBounds_toArray, List.set_cons_zero, List.set_cons_succ]
          refine wpAnyH_done (by kernel_rfl) ?_ _
          clear hS
          rw [List.nil_append, hPD.out] at HR98
          go_wp2_with fail
          go_ret
          exact ⟨v98, rfl, RD.lower HR98.out HB.out.size, HB.out.trans (HX.out.mono HB.out.size)⟩
        · skip
          refine wpOp_wp rfl (by rfl) ?_
          go_simp
          have HX := Lib.hid (Below.refl x0.heap.size x0)
          refine (hrec.out x0 (Kd.C_below hCd.out (HB.out.trans (HX.out.mono HB.out.size))) (KC.below HK.out HX.out)).mono ?_
          rintro e y1 ⟨v, rfl, hv, hb_⟩
          obtain ⟨AP, cP, rfl, hcP, HP⟩ := hv.reads
          replace HP := Lib.hid HP
          replace HX := Lib.hid hb_
          clear hS hb_ hv
          have hS : SC w.heap.size ak c y1 := CAt.below HCc.out HX.out
          refine ⟨hS, ?_⟩
          try simp only [List.getElem_toArray, List.getElem_cons_succ, List.getElem_cons_zero, Act.put, List.setIfInBounds_toArray, List.set_cons_zero, List.set_cons_succ]
          refine wpAnyH_all (rs := [0]) (by kernel_rfl) (by simp) ?_
          intro i hi
          simp only [List.mem_cons, List.not_mem_nil, or_false] at hi
          subst hi
          refine wpOp_wp rfl (by rfl) ?_
          refine wp_buildSlice_0 rfl ?_
          intro y2 HZ hb2 hs2
          replace HZ := Lib.hid (HZ.out.lower HX.out.size)
          replace HP := Lib.hid (CD.below HP.out hb2)
          replace HX := Lib.hid (HX.out.trans (hb2.mono HX.out.size))
          clear hS hb2
          have hS : SC w.heap.size ak c y2 := CAt.below HCc.out HX.out
          refine ⟨hS, ?_⟩
          try simp only [List.getElem_toArray, List.getElem_cons_succ, List.getElem_cons_zero, Act.put, List.setIfInBounds_toArray, List.set_cons_zero, List.set_cons_succ]
          refine wpAnyH_all (rs := [9]) (by kernel_rfl) (by simp) ?_
          intro i hi
          simp only [List.mem_cons, List.not_mem_nil, or_false] at hi
          subst hi
          refine wpOp_wp rfl (by rfl) ?_
          refine wp_append_digs rfl (.tmp 47) (.tmp 55) rfl _ [] P AP P.length cP rfl rfl rfl HZ.out HP.out HX.out HX.out.size (by have := hPl.out; simp; omega) ?_
          intro v95 y3 HR95 hb3 _
          replace HX := Lib.hid hb3
          clear hS hb3
          have hS : SC w.heap.size ak c y3 := CAt.below HCc.out HX.out
          refine ⟨hS, ?_⟩
          try simp only [List.getElem_toArray, List.getElem_cons_succ, List.getElem_cons_zero, Act.put, List.setIfInBounds_toArray, List.set_cons_zero, List.set_cons_succ]
          refine wpAnyH_all (rs := [14]) (by kernel_rfl) (by simp) ?_
          intro i hi
          simp only [List.mem_cons, List.not_mem_nil, or_false] at hi
          subst hi
          refine wpOp_wp rfl (by rfl) ?_
          go_simp
          refine (hroot.out y3 (Kd.C_below hCt.out (HB.out.trans (HX.out.mono HB.out.size))) (KC.below HK.out HX.out)).mono ?_
          rintro e y4 ⟨rfl, hb_⟩
          replace HR95 := Lib.hid (RD.below HR95.out hb_)
          replace HX := Lib.hid (HX.out.trans (hb_.mono HX.out.size))
          clear hS hb_
          have hS : SC w.heap.size ak c y4 := CAt.below HCc.out HX.out
          refine ⟨hS, ?_⟩
          try simp only [List.getElem_toArray, List.getElem_cons_succ, List.getElem_cons_zero, Act.put, List.setIfInBounds_toArray, List.set_cons_zero, List.set_cons_succ]
          refine wpAnyH_all (rs := [15]) (by kernel_rfl) (by simp) ?_
          intro i hi
          simp only [List.mem_cons, List.not_mem_nil, or_false] at hi
          subst hi
          refine wpOp_wp rfl (by rfl) ?_
          refine wp_buildSlice_1 (.tmp 61) rfl D hl.out rfl ?_
          intro y5 HL hb5 hs5
          replace HR95 := Lib.hid (RD.below HR95.out hb5)
          replace HX := Lib.hid (HX.out.trans (hb5.mono HX.out.size))
          clear hS hb5
          have hS : SC w.heap.size ak c y5 := CAt.below HCc.out HX.out
          refine ⟨hS, ?_⟩
          try simp only [List.getElem_toArray, List.getElem_cons_succ, List.getElem_cons_zero, Act.put, List.setIfInBounds_toArray, List.set_cons_zero, List.set_cons_succ]
          refine wpAnyH_all (rs := [16]) (by kernel_rfl) (by simp) ?_
          intro i hi
          simp only [List.mem_cons, List.not_mem_nil, or_false] at hi
          subst hi
          refine wpOp_wp rfl (by rfl) ?_
          obtain ⟨AL, cL, hvL, hcL, HCL⟩ := HL.out.reads
          cases hvL
          refine wp_append_digs rfl (.tmp 56) (.tmp 62) rfl v95 ([] ++ P) [D] _ 1 _ rfl rfl rfl HR95.out HCL HX.out HX.out.size (by have := hPl.out; simp; omega) ?_
          intro v98 y6 HR98 hb6 _
          replace HX := Lib.hid hb6
          clear hS hb6 HCL
          have hS : SC w.heap.size ak c y6 := CAt.below HCc.out HX.out
          refine ⟨hS, ?_⟩
          try simp only [List.getElem_toArray, List.getElem_cons_succ, List.getElem_cons_zero, Act.put, List.setIfInBounds_toArray, List.set_cons_zero, List.set_cons_succ]
          refine wpAnyH_take (i := 17) (v := ?_) rfl (by kernel_rfl) (by kernel_rfl) (by kernel_rfl) (fun _ _ _ h => h) (Or.inl ⟨by rfl, ?_⟩) hS ?_
          rotate_left
          · intro v _; go_simp; first | done | with_reducible rfl
          rotate_left
          simp only [List.getElem_toArray, List.getElem_cons_succ, List.getElem_cons_zero, Act.put, List.setIfInBounds_toArray, List.set_cons_zero, List.set_cons_succ]
          refine wpAnyH_done (by kernel_rfl) ?_ _
          clear hS
          rw [List.nil_append, hPD.out] at HR98
          go_wp2_with fail
          go_ret
          exact ⟨v98, rfl, RD.lower HR98.out HB.out.size, HB.out.trans (HX.out.mono HB.out.size)⟩
    · have hj0 : j = L.length := by omega
      subst hj0
      rw [Tr.bridge_end alg (bl L) _ wh (by rw [bl_len]; omega)]
      cases wh with
      | true => exact rbridge_whole ak c A c1 L.length w
      | false => exact rbridge_end ak c A c1 L w hL hS0 hc hC hK
end Go.Proofs.YtldpnmebjnkjeaaDoor.TrW
namespace Go.Proofs.YtldpnmebjnkjeaaDoor.TrW
open Go.RowKit Go.Proofs.YtldpnmebjnkjeaaDoorW.PrintWords Go.Proofs.YtldpnmebjnkjeaaDoor.PH1 Go.Proofs.YtldpnmebjnkjeaaDoor Go.Proofs.YtldpnmebjnkjeaaDoorW.PrintLast Go.Proofs.YtldpnmebjnkjeaaDoorW.PrintMore
open Go.Proofs.YtldpnmebjnkjeaaDoor.Sha
open Go.Proofs.YtldpnmebjnkjeaaDoor.Ref10 (wp_store_dig wp_load_dig wpOp_wp range_row yieldsIf_cell agg9 agg56 CV CAt KC run_load_C)
set_option linter.unusedVariables false
set_option linter.unusedSimpArgs false

def SB (b : Nat) (ak : Addr) (c : Nat) (b1 : Nat) (x : List UInt8) (b2 : Nat) (y : List UInt8) (b3 : Nat) (q : List UInt8) (W : World) : Prop := CAt b (.slice (some ak) 64 c) v0 W ∧ DigAt b1 x W ∧ DigAt b2 y W ∧ DigAt b3 q W
theorem SB.far {b : Nat} {ak : Addr} {c b1 b2 b3 g : Nat} {x y q : List UInt8} {w w1 : World} (h : SB b ak c b1 x b2 y b3 q w) (hk : ∀ k, k ≠ g → w1.heap[k]? = w.heap[k]?) (h0 : b ≠ g) (h1 : b1 ≠ g) (h2 : b2 ≠ g) (h3 : b3 ≠ g) : SB b ak c b1 x b2 y b3 q w1 :=
  ⟨by unfold CAt; rw [hk _ h0]; exact h.1, by unfold DigAt; rw [hk _ h1]; exact h.2.1, by unfold DigAt; rw [hk _ h2]; exact h.2.2.1, by unfold DigAt; rw [hk _ h3]; exact h.2.2.2⟩
end Go.Proofs.YtldpnmebjnkjeaaDoor.TrW
namespace Go.Proofs.YtldpnmebjnkjeaaDoor.TrW
open Go.RowKit Go.Proofs.YtldpnmebjnkjeaaDoorW.PrintWords Go.Proofs.YtldpnmebjnkjeaaDoor.PH1 Go.Proofs.YtldpnmebjnkjeaaDoor Go.Proofs.YtldpnmebjnkjeaaDoorW.PrintLast Go.Proofs.YtldpnmebjnkjeaaDoorW.PrintMore
open Go.Proofs.YtldpnmebjnkjeaaDoor.Sha
set_option linter.unusedVariables false
set_option linter.unusedSimpArgs false

def PV (L : List ByteArray) (i : Int) : List (List UInt8) := if 0 ≤ i ∧ i < (L.length : Int) then (Tr.path alg (bl L) i.toNat).reverse else []
def PE (L : List ByteArray) (i : Int) : Int := if 0 ≤ i ∧ i < (L.length : Int) then 0 else 1
theorem tPath_gen (A : Option Addr) (c : Nat) (L : List ByteArray) (i : Int) (w : World) (hC : Kd.C Kd.string w A L.length L) (hc : L.length ≤ c) (hw : wrongN L = 0) (hK : KAt w) :
    Calls Tryd.prog 33 #[.slice A L.length c, .int .i64 i] w fun e w' => ∃ A' c', e = .returned (.tuple #[.slice A' (PV L i).length c', .int .i64 (PE L i)]) ∧ (PV L i).length ≤ c' ∧ CD A' (PV L i) w' ∧ Below w.heap.size w w' := by
  unfold PV PE
  by_cases h : 0 ≤ i ∧ i < (L.length : Int)
  · rw [if_pos h, if_pos h]
    obtain ⟨n, rfl⟩ := Int.eq_ofNat_of_zero_le h.1
    rw [Int.toNat_natCast]
    refine (tPath_ok A c L n w hC hc hw (by omega) hK).mono ?_
    rintro e w' ⟨v, rfl, hv, hb⟩
    obtain ⟨A', c', rfl, hc', hr⟩ := hv.reads
    exact ⟨A', c', rfl, hc', hr, hb⟩
  · rw [if_neg h, if_neg h]
    refine (tPath_arg A c L i w hC hw (by omega)).mono ?_
    rintro e w' ⟨rfl, hb⟩
    obtain ⟨A', c', hv, hc', hr⟩ := RD.reads (show RD w'.heap.size (.slice none 0 0) [] w' from Kd.R_nil _ _ _ _ _)
    cases hv
    exact ⟨_, _, rfl, hc', hr, hb⟩
def BV (L : List ByteArray) (i : Int) : List (List UInt8) := if 1 ≤ i ∧ i ≤ (L.length : Int) then (Tr.bridge alg (bl L) i.toNat true).reverse else []
def BE (L : List ByteArray) (i : Int) : Int := if 1 ≤ i ∧ i ≤ (L.length : Int) then 0 else 1
theorem tBridge_gen (A : Option Addr) (c : Nat) (L : List ByteArray) (i : Int) (w : World) (hC : Kd.C Kd.string w A L.length L) (hc : L.length ≤ c) (hw : wrongN L = 0) (hK : KAt w) :
    Calls Tryd.prog 34 #[.slice A L.length c, .int .i64 i] w fun e w' => ∃ A' c', e = .returned (.tuple #[.slice A' (BV L i).length c', .int .i64 (BE L i)]) ∧ (BV L i).length ≤ c' ∧ CD A' (BV L i) w' ∧ Below w.heap.size w w' := by
  unfold BV BE
  by_cases h : 1 ≤ i ∧ i ≤ (L.length : Int)
  · rw [if_pos h, if_pos h]
    obtain ⟨n, rfl⟩ := Int.eq_ofNat_of_zero_le (show 0 ≤ i by omega)
    rw [Int.toNat_natCast]
    refine (tBridge_ok A c L n w hC hc hw (by omega) (by omega) hK).mono ?_
    rintro e w' ⟨v, rfl, hv, hb⟩
    obtain ⟨A', c', rfl, hc', hr⟩ := hv.reads
    exact ⟨A', c', rfl, hc', hr, hb⟩
  · rw [if_neg h, if_neg h]
    refine (tBridge_arg A c L i w hC hw (by omega)).mono ?_
    rintro e w' ⟨rfl, hb⟩
    obtain ⟨A', c', hv, hc', hr⟩ := RD.reads (show RD w'.heap.size (.slice none 0 0) [] w' from Kd.R_nil _ _ _ _ _)
    cases hv
    exact ⟨_, _, rfl, hc', hr, hb⟩
def D2At (p : Nat) (a b : List UInt8) (w : World) : Prop := w.heap[p]? = some (.cells (Lib.byteCells a ++ Lib.byteCells b).toArray 54 (0, 0)) ∧ a.length = 32 ∧ b.length = 32
theorem D2At.below {p : Nat} {a b : List UInt8} {w w1 : World} (h : D2At p a b w) (hb : Below w.heap.size w w1) : D2At p a b w1 := ⟨blk_below h.1 hb, h.2⟩
theorem D2At.a {p : Nat} {a b : List UInt8} {w : World} (h : D2At p a b w) : DigAd ⟨p, 0, none⟩ a w := by
  intro j u hu
  have hj := (List.getElem?_eq_some_iff.1 hu).1
  rw [Addr.add_mid, Nat.zero_add, cell_of_row _ _ _ _ _ _ h.1, List.getElem?_toArray, List.getElem?_append_left hj]
  exact hu
theorem D2At.b {p : Nat} {a b : List UInt8} {w : World} (h : D2At p a b w) : DigAd ⟨p, 32, none⟩ b w := by
  intro j u hu
  rw [Addr.add_mid, cell_of_row _ _ _ _ _ _ h.1, List.getElem?_toArray, List.getElem?_append_right (by rw [bc_len h.2.1]; omega), bc_len h.2.1, Nat.add_sub_cancel_left]
  exact hu
end Go.Proofs.YtldpnmebjnkjeaaDoor.TrW
namespace Go.Proofs.YtldpnmebjnkjeaaDoor.TrW
open Go.RowKit Go.Proofs.YtldpnmebjnkjeaaDoorW.PrintWords Go.Proofs.YtldpnmebjnkjeaaDoor.PH1 Go.Proofs.YtldpnmebjnkjeaaDoor Go.Proofs.YtldpnmebjnkjeaaDoorW.PrintLast Go.Proofs.YtldpnmebjnkjeaaDoorW.PrintMore
open Go.Proofs.YtldpnmebjnkjeaaDoor.Sha
open Go.Proofs.YtldpnmebjnkjeaaDoor.Ref10 (wp_store_dig wp_load_dig wpOp_wp range_row yieldsIf_cell agg9 agg56 CV CAt KC run_load_C rmake_calls wpList_store_C)
set_option linter.unusedVariables false
set_option linter.unusedSimpArgs false

def ST (p : Nat) (d0 d1 : List UInt8) (b8 : Nat) (ak : Addr) (c : Nat) (b9 : Nat) (R : List UInt8) (W : World) : Prop := D2At p d0 d1 W ∧ CAt b8 (.slice (some ak) 64 c) v0 W ∧ DigAt b9 R W
def STs (b8 : Nat) (ak : Addr) (c : Nat) (ad : Addr) (t : ByteArray) (W : World) : Prop := CAt b8 (.slice (some ak) 64 c) v0 W ∧ W.cell? ad = some (.string t)
set_option maxHeartbeats 16000000 in
set_option maxRecDepth 100000 in
/-- A log that is refused. -/
theorem tells_bad (A : Option Addr) (c : Nat) (L : List ByteArray) (i : Int) (d0 d1 : List UInt8) (hd0 : d0.length = 32) (hd1 : d1.length = 32) (w : World) (hC : Kd.C Kd.string w A L.length L) (hc : L.length ≤ c) (hK : KAt w) (hw : wrongN L = 4) :
    Calls Tryd.prog 8 #[.slice A L.length c, .int .i64 i, .agg (Lib.byteCells d0 ++ Lib.byteCells d1).toArray] w fun e w' => e = .returned (.bool true) ∧ Below w.heap.size w w' := by
  have hmax := Kd.C_max hC
  go_enter Tryd.func8, Tryd.ntmps8
  go_upto_region 1 with fail
  generalize hw1 : w.alloc _ = w1
  have HQ : Hid (D2At w.heap.size d0 d1 w1) := by
    rw [← hw1]; exact Lib.hid ⟨heap_alloc_last _ _, hd0, hd1⟩
  have HB : Hid (Below w.heap.size w w1) := by
    rw [← hw1]; exact Lib.hid ((Below.refl _ _).alloc (Nat.le_refl _) _)
  have HK : Hid (KAt w1) := Lib.hid (hK.below HB.out)
  have HC : Hid (Kd.C Kd.string w1 A L.length L) := Lib.hid (Kd.C_below hC HB.out)
  clear hw1 hK hC
  replace hd0 := Lib.hid hd0
  replace hd1 := Lib.hid hd1
  replace hc := Lib.hid hc
  go_wp2_with fail
  refine (fits_calls A c L w1 HC.out hc.out).mono ?_
  rintro e w2 ⟨rfl, hb_⟩
  try replace hb_ := Drawn0.below hb_
  replace HC := Lib.hid (Kd.C_below HC.out hb_)
  replace HK := Lib.hid (HK.out.below hb_)
  replace HQ := Lib.hid (D2At.below HQ.out hb_)
  replace HB := Lib.hid (HB.out.trans (Below.mono hb_ HB.out.size))
  clear hb_
  cases hfit : fitsB L with
  | false =>
    replace hfit := Lib.hid hfit
    go_wp2_with fail
    refine (alive_calls w2 HK.out).mono ?_
    rintro e wz ⟨rfl, hb_⟩
    have HBz := Lib.hid (HB.out.trans (Below.mono hb_ HB.out.size))
    clear hb_
    go_wp2_with fail
    go_ret
    exact ⟨rfl, HBz.out⟩
  | true =>
    replace hfit := Lib.hid hfit
    go_wp2_with fail
    refine (rmake_calls w2).mono ?_
    rintro e w3 ⟨ak, cC, rfl, hkc, hb_⟩
    replace HC := Lib.hid (Kd.C_below HC.out hb_)
    replace HK := Lib.hid (HK.out.below hb_)
    replace HQ := Lib.hid (D2At.below HQ.out hb_)
    replace HB := Lib.hid (HB.out.trans (Below.mono hb_ HB.out.size))
    clear hb_
    go_upto_region 5 with (guard_target = wpList _ _ _ (⟨none, _, _, _, _, _⟩ :: _) _ _; refine wpList_store_C rfl (.tmp 8) (.tmp 23) rfl w3.heap.size rfl (.slice (some ak) 64 cC) v0 rfl rfl _ _ (heap_alloc_last _ _) rfl ?_; intro w4 h4 _ hB4 _)
    have hb4 : Below w3.heap.size w3 w4 := hB4 ((Below.refl _ _).alloc (Nat.le_refl _) _) (Nat.le_refl _)
    have HCc : Hid (CAt w3.heap.size (.slice (some ak) 64 cC) v0 w4) := h4
    have HC0 := Lib.hid (KC.below hkc hb4)
    replace HC := Lib.hid (Kd.C_below HC.out hb4)
    replace HK := Lib.hid (HK.out.below hb4)
    replace HQ := Lib.hid (D2At.below HQ.out hb4)
    replace HB := Lib.hid (HB.out.trans (Below.mono hb4 HB.out.size))
    clear hb4 hB4 h4 hkc
    generalize w3.heap.size = b8 at HCc ⊢
    obtain ⟨R, hR⟩ : ∃ y : List UInt8, y = List.replicate 32 0 := ⟨_, rfl⟩
    have hRl : R.length = 32 := by rw [hR]; simp
    have hzd : zeroDig = .agg (Lib.byteCells R).toArray := by rw [hR]; rfl
    have heqD : ∀ v : World, (Op.equalIn 10000 24 (.agg (Lib.byteCells R).toArray) (.agg #[.int .u8 0, .int .u8 0, .int .u8 0, .int .u8 0, .int .u8 0, .int .u8 0, .int .u8 0, .int .u8 0, .int .u8 0, .int .u8 0, .int .u8 0, .int .u8 0, .int .u8 0, .int .u8 0, .int .u8 0, .int .u8 0, .int .u8 0, .int .u8 0, .int .u8 0, .int .u8 0, .int .u8 0, .int .u8 0, .int .u8 0, .int .u8 0, .int .u8 0, .int .u8 0, .int .u8 0, .int .u8 0, .int .u8 0, .int .u8 0, .int .u8 0, .int .u8 0])).run Tryd.prog v = .ok true v := fun v => by
      have h := eq32 v R (List.replicate 32 0) hRl (by simp)
      rw [show decide (R = List.replicate 32 0) = true by simp [hR]] at h
      exact h
    have kroot := fun W hW => tRoot_bad A c L W hW hw
    rw [hzd] at kroot
    have kpath := fun W hW => tPath_bad A c L i W hW hw
    have kbr := fun W hW => tBridge_bad A c L i W hW hw
    clear hzd hR
    replace kroot := Lib.hid kroot
    replace kpath := Lib.hid kpath
    replace kbr := Lib.hid kbr
    replace heqD := Lib.hid heqD
    replace hRl := Lib.hid hRl
    replace hw := Lib.hid hw
    go_wp2_with fail
    refine (kroot.out w4 HC.out).mono ?_
    rintro e w5 ⟨rfl, hb_⟩
    try replace hb_ := Drawn0.below hb_
    replace HC := Lib.hid (Kd.C_below HC.out hb_)
    replace HK := Lib.hid (HK.out.below hb_)
    replace HQ := Lib.hid (D2At.below HQ.out hb_)
    replace HB := Lib.hid (HB.out.trans (Below.mono hb_ HB.out.size))
    replace HCc := Lib.hid (CAt.below HCc.out hb_)
    replace HC0 := Lib.hid (KC.below HC0.out hb_)
    clear hb_
    go_upto_region 6 with (guard_target = wpList _ _ _ (⟨none, _, _, _, _, _⟩ :: _) _ _; refine wpList_store_dig rfl (.tmp 9) (.tmp 27) rfl w5.heap.size rfl R hRl.out rfl _ _ (heap_alloc_last _ _) zrow ?_; intro w6 h6 _ hB6)
    have hb6 : Below w5.heap.size w5 w6 := hB6 ((Below.refl _ _).alloc (Nat.le_refl _) _) (Nat.le_refl _)
    have H9 : Hid (DigAt w5.heap.size R w6) := h6
    replace HC := Lib.hid (Kd.C_below HC.out hb6)
    replace HK := Lib.hid (HK.out.below hb6)
    replace HQ := Lib.hid (D2At.below HQ.out hb6)
    replace HB := Lib.hid (HB.out.trans (Below.mono hb6 HB.out.size))
    replace HCc := Lib.hid (CAt.below HCc.out hb6)
    replace HC0 := Lib.hid (KC.below HC0.out hb6)
    clear hb6 hB6 h6
    generalize w5.heap.size = b9 at H9 ⊢
    go_wp2_with fail
    refine (kpath.out w6 HC.out).mono ?_
    rintro e w7 ⟨rfl, hb_⟩
    try replace hb_ := Drawn0.below hb_
    replace HC := Lib.hid (Kd.C_below HC.out hb_)
    replace HK := Lib.hid (HK.out.below hb_)
    replace HQ := Lib.hid (D2At.below HQ.out hb_)
    replace HB := Lib.hid (HB.out.trans (Below.mono hb_ HB.out.size))
    replace HCc := Lib.hid (CAt.below HCc.out hb_)
    replace HC0 := Lib.hid (KC.below HC0.out hb_)
    replace H9 := Lib.hid (DigAt.below H9.out hb_)
    clear hb_
    go_wp2_with fail
    refine (kbr.out w7 HC.out).mono ?_
    rintro e wr ⟨rfl, hb_⟩
    try replace hb_ := Drawn0.below hb_
    replace HC := Lib.hid (Kd.C_below HC.out hb_)
    replace HK := Lib.hid (HK.out.below hb_)
    replace HQ := Lib.hid (D2At.below HQ.out hb_)
    replace HB := Lib.hid (HB.out.trans (Below.mono hb_ HB.out.size))
    replace HCc := Lib.hid (CAt.below HCc.out hb_)
    replace HC0 := Lib.hid (KC.below HC0.out hb_)
    replace H9 := Lib.hid (DigAt.below H9.out hb_)
    clear hb_
    go_upto_region 8 with fail
    refine wp_region_held (S := ST w.heap.size d0 d1 b8 ak cC b9 R) (by kernel_rfl) ?_
    change wpAnyH _ _ _ _ _ _ _ _ wr.drew
    have hdr : Below wr.heap.size wr wr.drew := (Below.refl _ _).drew
    replace HC := Lib.hid (Kd.C_below HC.out hdr)
    replace HK := Lib.hid (HK.out.below hdr)
    replace HQ := Lib.hid (D2At.below HQ.out hdr)
    replace HB := Lib.hid (HB.out.trans (Below.mono hdr HB.out.size))
    replace HCc := Lib.hid (CAt.below HCc.out hdr)
    replace HC0 := Lib.hid (KC.below HC0.out hdr)
    replace H9 := Lib.hid (DigAt.below H9.out hdr)
    clear hdr
    generalize wr.drew = x0 at HC HK HQ HB HCc HC0 H9 ⊢
    have hS : ST w.heap.size d0 d1 b8 ak cC b9 R x0 := ⟨HQ.out, HCc.out, H9.out⟩
    refine wpAnyH_take (i := 0) (v := ?_) rfl (by kernel_rfl) (by kernel_rfl) (by kernel_rfl) (fun _ _ _ h => h) (Or.inl ⟨by rfl, ?_⟩) hS ?_
    rotate_left
    · intro v _; go_simp; first | done | with_reducible rfl
    rotate_left
    simp only [List.getElem_toArray, List.getElem_cons_succ, List.getElem_cons_zero, Act.put, List.setIfInBounds_toArray, List.set_cons_zero, List.set_cons_succ]
    refine wpAnyH_take (i := 1) (v := _) rfl (by kernel_rfl) (by kernel_rfl) (by kernel_rfl) (fun _ _ _ h => h) (yieldsIf_digA (by rfl) (.tmp 41) rfl ⟨w.heap.size,0,none⟩ rfl d0 hd0.out (fun _ h => (D2At.a h.1))) hS ?_
    try simp only [List.getElem_toArray, List.getElem_cons_succ, List.getElem_cons_zero, Act.put, List.setIfInBounds_toArray, List.set_cons_zero, List.set_cons_succ]
    refine wpAnyH_take (i := 2) (v := ?_) rfl (by kernel_rfl) (by kernel_rfl) (by kernel_rfl) (fun _ _ _ h => h) (Or.inl ⟨by rfl, ?_⟩) hS ?_
    rotate_left
    · intro v _; go_simp; first | done | with_reducible rfl
    rotate_left
    simp only [List.getElem_toArray, List.getElem_cons_succ, List.getElem_cons_zero, Act.put, List.setIfInBounds_toArray, List.set_cons_zero, List.set_cons_succ]
    refine wpAnyH_take (i := 3) (v := _) rfl (by kernel_rfl) (by kernel_rfl) (by kernel_rfl) (fun _ _ _ h => h) (yieldsIf_digA (by rfl) (.tmp 43) rfl ⟨w.heap.size,32,none⟩ rfl d1 hd1.out (fun _ h => (D2At.b h.1))) hS ?_
    try simp only [List.getElem_toArray, List.getElem_cons_succ, List.getElem_cons_zero, Act.put, List.setIfInBounds_toArray, List.set_cons_zero, List.set_cons_succ]
    refine wpAnyH_take (i := 5) (v := _) rfl (by kernel_rfl) (by kernel_rfl) (by kernel_rfl) (fun _ _ _ h => h) (yieldsIf_C (by rfl) (.tmp 8) rfl b8 rfl _ _ (fun _ h => h.2.1)) hS ?_
    try simp only [List.getElem_toArray, List.getElem_cons_succ, List.getElem_cons_zero, Act.put, List.setIfInBounds_toArray, List.set_cons_zero, List.set_cons_succ]
    refine wpAnyH_take (i := 6) (v := ?_) rfl (by kernel_rfl) (by kernel_rfl) (by kernel_rfl) (fun _ _ _ h => h) (Or.inl ⟨by rfl, ?_⟩) hS ?_
    rotate_left
    · intro v _; go_simp; first | done | with_reducible rfl
    rotate_left
    simp only [List.getElem_toArray, List.getElem_cons_succ, List.getElem_cons_zero, Act.put, List.setIfInBounds_toArray, List.set_cons_zero, List.set_cons_succ]
    refine wpAnyH_take (i := 7) (v := _) rfl (by kernel_rfl) (by kernel_rfl) (by kernel_rfl) (fun _ _ _ h => h) (yieldsIf_digA (by rfl) (.tmp 47) rfl ⟨w.heap.size,0,none⟩ rfl d0 hd0.out (fun _ h => (D2At.a h.1))) hS ?_
    try simp only [List.getElem_toArray, List.getElem_cons_succ, List.getElem_cons_zero, Act.put, List.setIfInBounds_toArray, List.set_cons_zero, List.set_cons_succ]
    refine wpAnyH_take (i := 8) (v := ?_) rfl (by kernel_rfl) (by kernel_rfl) (by kernel_rfl) (fun _ _ _ h => h) (Or.inl ⟨by rfl, ?_⟩) hS ?_
    rotate_left
    · intro v _; go_simp; first | done | with_reducible rfl
    rotate_left
    simp only [List.getElem_toArray, List.getElem_cons_succ, List.getElem_cons_zero, Act.put, List.setIfInBounds_toArray, List.set_cons_zero, List.set_cons_succ]
    refine wpAnyH_take (i := 9) (v := _) rfl (by kernel_rfl) (by kernel_rfl) (by kernel_rfl) (fun _ _ _ h => h) (yieldsIf_digA (by rfl) (.tmp 49) rfl ⟨w.heap.size,32,none⟩ rfl d1 hd1.out (fun _ h => (D2At.b h.1))) hS ?_
    try simp only [List.getElem_toArray, List.getElem_cons_succ, List.getElem_cons_zero, Act.put, List.setIfInBounds_toArray, List.set_cons_zero, List.set_cons_succ]
    refine wpAnyH_all (rs := [4]) (by kernel_rfl) (by simp) ?_
    intro i hi
    simp only [List.mem_cons, List.not_mem_nil, or_false] at hi
    subst hi
    refine wpOp_wp rfl (by rfl) ?_
    go_simp
    refine (tjoin_calls d0 d1 hd0.out hd1.out x0 HK.out).mono ?_
    rintro e x1 ⟨rfl, hb_⟩
    replace HC := Lib.hid (Kd.C_below HC.out hb_)
    replace HK := Lib.hid (HK.out.below hb_)
    replace HQ := Lib.hid (D2At.below HQ.out hb_)
    replace HB := Lib.hid (HB.out.trans (Below.mono hb_ HB.out.size))
    replace HCc := Lib.hid (CAt.below HCc.out hb_)
    replace HC0 := Lib.hid (KC.below HC0.out hb_)
    replace H9 := Lib.hid (DigAt.below H9.out hb_)
    clear hb_ hS
    have hS : ST w.heap.size d0 d1 b8 ak cC b9 R x1 := ⟨HQ.out, HCc.out, H9.out⟩
    refine ⟨hS, ?_⟩
    try simp only [List.getElem_toArray, List.getElem_cons_succ, List.getElem_cons_zero, Act.put, List.setIfInBounds_toArray, List.set_cons_zero, List.set_cons_succ]
    refine wpAnyH_all (rs := [10]) (by kernel_rfl) (by simp) ?_
    intro i hi
    simp only [List.mem_cons, List.not_mem_nil, or_false] at hi
    subst hi
    refine wpOp_wp rfl (by rfl) ?_
    go_simp
    refine (rjoin_calls ak cC d0 d1 hd0.out hd1.out x1 HC0.out).mono ?_
    rintro e x2 ⟨rfl, hb_⟩
    replace HC := Lib.hid (Kd.C_below HC.out hb_)
    replace HK := Lib.hid (HK.out.below hb_)
    replace HQ := Lib.hid (D2At.below HQ.out hb_)
    replace HB := Lib.hid (HB.out.trans (Below.mono hb_ HB.out.size))
    replace HCc := Lib.hid (CAt.below HCc.out hb_)
    replace HC0 := Lib.hid (KC.below HC0.out hb_)
    replace H9 := Lib.hid (DigAt.below H9.out hb_)
    clear hb_ hS
    have hS : ST w.heap.size d0 d1 b8 ak cC b9 R x2 := ⟨HQ.out, HCc.out, H9.out⟩
    refine ⟨hS, ?_⟩
    try simp only [List.getElem_toArray, List.getElem_cons_succ, List.getElem_cons_zero, Act.put, List.setIfInBounds_toArray, List.set_cons_zero, List.set_cons_succ]
    have hjl : (joinP d0 d1).length = 32 := sumL_len _
    have heqj : ∀ W : World, (Op.equalIn 10000 24 (.agg (Lib.byteCells (joinP d0 d1)).toArray) (.agg (Lib.byteCells (joinP d0 d1)).toArray)).run Tryd.prog W = .ok true W := fun W => by
      rw [eq32 W _ _ hjl hjl, decT rfl]
    generalize joinP d0 d1 = J at heqj ⊢
    clear hjl
    refine wpAnyH_take (i := 11) (v := ?_) rfl (by kernel_rfl) (by kernel_rfl) (by kernel_rfl) (fun _ _ _ h => h) (Or.inl ⟨by rfl, ?_⟩) hS ?_
    rotate_left
    · intro v _; go_simp; first | done | with_reducible rfl
    rotate_left
    simp only [List.getElem_toArray, List.getElem_cons_succ, List.getElem_cons_zero, Act.put, List.setIfInBounds_toArray, List.set_cons_zero, List.set_cons_succ]
    refine wpAnyH_done (by kernel_rfl) ?_ _
    clear hS heqj
    generalize x2 = w8 at HC HK HQ HB HCc HC0 H9 ⊢
    go_wp2_with fail
    refine (rwrong_calls A c L w8 HC.out hc.out).mono ?_
    rintro e w9 ⟨rfl, hb_⟩
    try replace hb_ := Drawn0.below hb_
    replace HC := Lib.hid (Kd.C_below HC.out hb_)
    replace HK := Lib.hid (HK.out.below hb_)
    replace HQ := Lib.hid (D2At.below HQ.out hb_)
    replace HB := Lib.hid (HB.out.trans (Below.mono hb_ HB.out.size))
    replace HCc := Lib.hid (CAt.below HCc.out hb_)
    replace HC0 := Lib.hid (KC.below HC0.out hb_)
    replace H9 := Lib.hid (DigAt.below H9.out hb_)
    clear hb_
    rw [hw.out]
    go_wp2_with fail
    refine (alive_calls w9 HK.out).mono ?_
    rintro e wy ⟨rfl, hb_⟩
    try replace hb_ := Drawn0.below hb_
    replace HC := Lib.hid (Kd.C_below HC.out hb_)
    replace HK := Lib.hid (HK.out.below hb_)
    replace HQ := Lib.hid (D2At.below HQ.out hb_)
    replace HB := Lib.hid (HB.out.trans (Below.mono hb_ HB.out.size))
    replace HCc := Lib.hid (CAt.below HCc.out hb_)
    replace HC0 := Lib.hid (KC.below HC0.out hb_)
    replace H9 := Lib.hid (DigAt.below H9.out hb_)
    clear hb_
    have heqo := heqD.out
    go_wp2_with (guard_target = wpList _ _ _ (⟨some 82, _, _, _, _, _⟩ :: _) _ _; refine wpList_load_digG rfl (.tmp 9) rfl b9 rfl R hRl.out _ _ H9.out ?_)
    go_ret
    exact ⟨rfl, HB.out⟩
end Go.Proofs.YtldpnmebjnkjeaaDoor.TrW
namespace Go.Proofs.YtldpnmebjnkjeaaDoor.TrW
open Go.RowKit Go.Proofs.YtldpnmebjnkjeaaDoorW.PrintWords Go.Proofs.YtldpnmebjnkjeaaDoor.PH1 Go.Proofs.YtldpnmebjnkjeaaDoor Go.Proofs.YtldpnmebjnkjeaaDoorW.PrintLast Go.Proofs.YtldpnmebjnkjeaaDoorW.PrintMore
open Go.Proofs.YtldpnmebjnkjeaaDoor.Sha
open Go.Proofs.YtldpnmebjnkjeaaDoor.Ref10 (wp_store_dig wp_load_dig wpOp_wp range_row yieldsIf_cell agg9 agg56 CV CAt KC run_load_C rmake_calls wpList_store_C)
set_option linter.unusedVariables false
set_option linter.unusedSimpArgs false

set_option maxHeartbeats 16000000 in
set_option maxRecDepth 100000 in
/-- A log that may be. -/
theorem tells_ok (A : Option Addr) (c : Nat) (L : List ByteArray) (i : Int) (hi0 : -9223372036854775808 ≤ i) (hi9 : i ≤ 9223372036854775807) (d0 d1 : List UInt8) (hd0 : d0.length = 32) (hd1 : d1.length = 32) (w : World) (hC : Kd.C Kd.string w A L.length L) (hc : L.length ≤ c) (hK : KAt w) (hw : wrongN L = 0) :
    Calls Tryd.prog 8 #[.slice A L.length c, .int .i64 i, .agg (Lib.byteCells d0 ++ Lib.byteCells d1).toArray] w fun e w' => e = .returned (.bool true) ∧ Below w.heap.size w w' := by
  have hmax := Kd.C_max hC
  go_enter Tryd.func8, Tryd.ntmps8
  go_upto_region 1 with fail
  generalize hw1 : w.alloc _ = w1
  have HQ : Hid (D2At w.heap.size d0 d1 w1) := by
    rw [← hw1]; exact Lib.hid ⟨heap_alloc_last _ _, hd0, hd1⟩
  have HB : Hid (Below w.heap.size w w1) := by
    rw [← hw1]; exact Lib.hid ((Below.refl _ _).alloc (Nat.le_refl _) _)
  have HK : Hid (KAt w1) := Lib.hid (hK.below HB.out)
  have HC : Hid (Kd.C Kd.string w1 A L.length L) := Lib.hid (Kd.C_below hC HB.out)
  clear hw1 hK hC
  replace hd0 := Lib.hid hd0
  replace hd1 := Lib.hid hd1
  replace hc := Lib.hid hc
  go_wp2_with fail
  refine (fits_calls A c L w1 HC.out hc.out).mono ?_
  rintro e w2 ⟨rfl, hb_⟩
  try replace hb_ := Drawn0.below hb_
  replace HC := Lib.hid (Kd.C_below HC.out hb_)
  replace HK := Lib.hid (HK.out.below hb_)
  replace HQ := Lib.hid (D2At.below HQ.out hb_)
  replace HB := Lib.hid (HB.out.trans (Below.mono hb_ HB.out.size))
  clear hb_
  cases hfit : fitsB L with
  | false =>
    replace hfit := Lib.hid hfit
    go_wp2_with fail
    refine (alive_calls w2 HK.out).mono ?_
    rintro e wz ⟨rfl, hb_⟩
    have HBz := Lib.hid (HB.out.trans (Below.mono hb_ HB.out.size))
    clear hb_
    go_wp2_with fail
    go_ret
    exact ⟨rfl, HBz.out⟩
  | true =>
    obtain ⟨hL24, hLs⟩ := fits_of hfit
    replace hfit := Lib.hid hfit
    go_wp2_with fail
    refine (rmake_calls w2).mono ?_
    rintro e w3 ⟨ak, cC, rfl, hkc, hb_⟩
    replace HC := Lib.hid (Kd.C_below HC.out hb_)
    replace HK := Lib.hid (HK.out.below hb_)
    replace HQ := Lib.hid (D2At.below HQ.out hb_)
    replace HB := Lib.hid (HB.out.trans (Below.mono hb_ HB.out.size))
    clear hb_
    go_upto_region 5 with (guard_target = wpList _ _ _ (⟨none, _, _, _, _, _⟩ :: _) _ _; refine wpList_store_C rfl (.tmp 8) (.tmp 23) rfl w3.heap.size rfl (.slice (some ak) 64 cC) v0 rfl rfl _ _ (heap_alloc_last _ _) rfl ?_; intro w4 h4 _ hB4 _)
    have hb4 : Below w3.heap.size w3 w4 := hB4 ((Below.refl _ _).alloc (Nat.le_refl _) _) (Nat.le_refl _)
    have HCc : Hid (CAt w3.heap.size (.slice (some ak) 64 cC) v0 w4) := h4
    have HC0 := Lib.hid (KC.below hkc hb4)
    replace HC := Lib.hid (Kd.C_below HC.out hb4)
    replace HK := Lib.hid (HK.out.below hb4)
    replace HQ := Lib.hid (D2At.below HQ.out hb4)
    replace HB := Lib.hid (HB.out.trans (Below.mono hb4 HB.out.size))
    clear hb4 hB4 h4 hkc
    generalize w3.heap.size = b8 at HCc ⊢
    have hSm : Hid (Small L) := Lib.hid (small_of (wrong_ok hw).2)
    have kroot := fun W hW hk => tRoot_ok A c L W hW hc.out hw hk
    have kpath := fun W hW hk => tPath_gen A c L i W hW hc.out hw hk
    have kbr := fun W hW hk => tBridge_gen A c L i W hW hc.out hw hk
    have krr := fun W hW hk => rroot_calls ak cC L.length A c L W (Nat.le_refl _) (by omega) hSm.out hc.out hW hk
    have hRl := rlen (bl L)
    generalize Tr.root alg (bl L) = R at kroot krr hRl
    have heqR : ∀ v : World, (Op.equalIn 10000 24 (.agg (Lib.byteCells R).toArray) (.agg (Lib.byteCells R).toArray)).run Tryd.prog v = .ok true v := fun v => by rw [eq32 v R R hRl hRl, decT rfl]
    generalize hPV : PV L i = P at kpath
    generalize hPE : PE L i = EP at kpath
    generalize hBV : BV L i = Bq at kbr
    generalize hBE : BE L i = EB at kbr
    replace hPV := Lib.hid hPV
    replace hPE := Lib.hid hPE
    replace hBV := Lib.hid hBV
    replace hBE := Lib.hid hBE
    replace kroot := Lib.hid kroot
    replace kpath := Lib.hid kpath
    replace kbr := Lib.hid kbr
    replace krr := Lib.hid krr
    replace heqR := Lib.hid heqR
    replace hRl := Lib.hid hRl
    replace hw := Lib.hid hw
    replace hLs := Lib.hid hLs
    go_wp2_with fail
    refine (kroot.out w4 HC.out HK.out).mono ?_
    rintro e w5 ⟨rfl, hb_⟩
    try replace hb_ := Drawn0.below hb_
    replace HC := Lib.hid (Kd.C_below HC.out hb_)
    replace HK := Lib.hid (HK.out.below hb_)
    replace HQ := Lib.hid (D2At.below HQ.out hb_)
    replace HB := Lib.hid (HB.out.trans (Below.mono hb_ HB.out.size))
    replace HCc := Lib.hid (CAt.below HCc.out hb_)
    replace HC0 := Lib.hid (KC.below HC0.out hb_)
    clear hb_
    go_upto_region 6 with (guard_target = wpList _ _ _ (⟨none, _, _, _, _, _⟩ :: _) _ _; refine wpList_store_dig rfl (.tmp 9) (.tmp 27) rfl w5.heap.size rfl R hRl.out rfl _ _ (heap_alloc_last _ _) zrow ?_; intro w6 h6 _ hB6)
    have hb6 : Below w5.heap.size w5 w6 := hB6 ((Below.refl _ _).alloc (Nat.le_refl _) _) (Nat.le_refl _)
    have H9 : Hid (DigAt w5.heap.size R w6) := h6
    replace HC := Lib.hid (Kd.C_below HC.out hb6)
    replace HK := Lib.hid (HK.out.below hb6)
    replace HQ := Lib.hid (D2At.below HQ.out hb6)
    replace HB := Lib.hid (HB.out.trans (Below.mono hb6 HB.out.size))
    replace HCc := Lib.hid (CAt.below HCc.out hb6)
    replace HC0 := Lib.hid (KC.below HC0.out hb6)
    clear hb6 hB6 h6
    generalize w5.heap.size = b9 at H9 ⊢
    go_wp2_with fail
    refine (kpath.out w6 HC.out HK.out).mono ?_
    rintro e w7 ⟨A11, c11, rfl, hc11, H11, hb_⟩
    replace H11 := Lib.hid H11
    replace hc11 := Lib.hid hc11
    replace HC := Lib.hid (Kd.C_below HC.out hb_)
    replace HK := Lib.hid (HK.out.below hb_)
    replace HQ := Lib.hid (D2At.below HQ.out hb_)
    replace HB := Lib.hid (HB.out.trans (Below.mono hb_ HB.out.size))
    replace HCc := Lib.hid (CAt.below HCc.out hb_)
    replace HC0 := Lib.hid (KC.below HC0.out hb_)
    replace H9 := Lib.hid (DigAt.below H9.out hb_)
    clear hb_
    go_wp2_with fail
    refine (kbr.out w7 HC.out HK.out).mono ?_
    rintro e wr ⟨A13, c13, rfl, hc13, H13, hb_⟩
    replace H13 := Lib.hid H13
    replace hc13 := Lib.hid hc13
    replace HC := Lib.hid (Kd.C_below HC.out hb_)
    replace HK := Lib.hid (HK.out.below hb_)
    replace HQ := Lib.hid (D2At.below HQ.out hb_)
    replace HB := Lib.hid (HB.out.trans (Below.mono hb_ HB.out.size))
    replace HCc := Lib.hid (CAt.below HCc.out hb_)
    replace HC0 := Lib.hid (KC.below HC0.out hb_)
    replace H9 := Lib.hid (DigAt.below H9.out hb_)
    replace H11 := Lib.hid (CD.below H11.out hb_)
    clear hb_
    go_upto_region 8 with fail
    refine wp_region_held (S := ST w.heap.size d0 d1 b8 ak cC b9 R) (by kernel_rfl) ?_
    change wpAnyH _ _ _ _ _ _ _ _ wr.drew
    have hdr : Below wr.heap.size wr wr.drew := (Below.refl _ _).drew
    replace HC := Lib.hid (Kd.C_below HC.out hdr)
    replace HK := Lib.hid (HK.out.below hdr)
    replace HQ := Lib.hid (D2At.below HQ.out hdr)
    replace HB := Lib.hid (HB.out.trans (Below.mono hdr HB.out.size))
    replace HCc := Lib.hid (CAt.below HCc.out hdr)
    replace HC0 := Lib.hid (KC.below HC0.out hdr)
    replace H9 := Lib.hid (DigAt.below H9.out hdr)
    replace H11 := Lib.hid (CD.below H11.out hdr)
    replace H13 := Lib.hid (CD.below H13.out hdr)
    clear hdr
    generalize wr.drew = x0 at HC HK HQ HB HCc HC0 H9 H11 H13 ⊢
    have hS : ST w.heap.size d0 d1 b8 ak cC b9 R x0 := ⟨HQ.out, HCc.out, H9.out⟩
    refine wpAnyH_take (i := 0) (v := ?_) rfl (by kernel_rfl) (by kernel_rfl) (by kernel_rfl) (fun _ _ _ h => h) (Or.inl ⟨by rfl, ?_⟩) hS ?_
    rotate_left
    · intro v _; go_simp; first | done | with_reducible rfl
    rotate_left
    simp only [List.getElem_toArray, List.getElem_cons_succ, List.getElem_cons_zero, Act.put, List.setIfInBounds_toArray, List.set_cons_zero, List.set_cons_succ]
    refine wpAnyH_take (i := 1) (v := _) rfl (by kernel_rfl) (by kernel_rfl) (by kernel_rfl) (fun _ _ _ h => h) (yieldsIf_digA (by rfl) (.tmp 41) rfl ⟨w.heap.size,0,none⟩ rfl d0 hd0.out (fun _ h => (D2At.a h.1))) hS ?_
    try simp only [List.getElem_toArray, List.getElem_cons_succ, List.getElem_cons_zero, Act.put, List.setIfInBounds_toArray, List.set_cons_zero, List.set_cons_succ]
    refine wpAnyH_take (i := 2) (v := ?_) rfl (by kernel_rfl) (by kernel_rfl) (by kernel_rfl) (fun _ _ _ h => h) (Or.inl ⟨by rfl, ?_⟩) hS ?_
    rotate_left
    · intro v _; go_simp; first | done | with_reducible rfl
    rotate_left
    simp only [List.getElem_toArray, List.getElem_cons_succ, List.getElem_cons_zero, Act.put, List.setIfInBounds_toArray, List.set_cons_zero, List.set_cons_succ]
    refine wpAnyH_take (i := 3) (v := _) rfl (by kernel_rfl) (by kernel_rfl) (by kernel_rfl) (fun _ _ _ h => h) (yieldsIf_digA (by rfl) (.tmp 43) rfl ⟨w.heap.size,32,none⟩ rfl d1 hd1.out (fun _ h => (D2At.b h.1))) hS ?_
    try simp only [List.getElem_toArray, List.getElem_cons_succ, List.getElem_cons_zero, Act.put, List.setIfInBounds_toArray, List.set_cons_zero, List.set_cons_succ]
    refine wpAnyH_take (i := 5) (v := _) rfl (by kernel_rfl) (by kernel_rfl) (by kernel_rfl) (fun _ _ _ h => h) (yieldsIf_C (by rfl) (.tmp 8) rfl b8 rfl _ _ (fun _ h => h.2.1)) hS ?_
    try simp only [List.getElem_toArray, List.getElem_cons_succ, List.getElem_cons_zero, Act.put, List.setIfInBounds_toArray, List.set_cons_zero, List.set_cons_succ]
    refine wpAnyH_take (i := 6) (v := ?_) rfl (by kernel_rfl) (by kernel_rfl) (by kernel_rfl) (fun _ _ _ h => h) (Or.inl ⟨by rfl, ?_⟩) hS ?_
    rotate_left
    · intro v _; go_simp; first | done | with_reducible rfl
    rotate_left
    simp only [List.getElem_toArray, List.getElem_cons_succ, List.getElem_cons_zero, Act.put, List.setIfInBounds_toArray, List.set_cons_zero, List.set_cons_succ]
    refine wpAnyH_take (i := 7) (v := _) rfl (by kernel_rfl) (by kernel_rfl) (by kernel_rfl) (fun _ _ _ h => h) (yieldsIf_digA (by rfl) (.tmp 47) rfl ⟨w.heap.size,0,none⟩ rfl d0 hd0.out (fun _ h => (D2At.a h.1))) hS ?_
    try simp only [List.getElem_toArray, List.getElem_cons_succ, List.getElem_cons_zero, Act.put, List.setIfInBounds_toArray, List.set_cons_zero, List.set_cons_succ]
    refine wpAnyH_take (i := 8) (v := ?_) rfl (by kernel_rfl) (by kernel_rfl) (by kernel_rfl) (fun _ _ _ h => h) (Or.inl ⟨by rfl, ?_⟩) hS ?_
    rotate_left
    · intro v _; go_simp; first | done | with_reducible rfl
    rotate_left
    simp only [List.getElem_toArray, List.getElem_cons_succ, List.getElem_cons_zero, Act.put, List.setIfInBounds_toArray, List.set_cons_zero, List.set_cons_succ]
    refine wpAnyH_take (i := 9) (v := _) rfl (by kernel_rfl) (by kernel_rfl) (by kernel_rfl) (fun _ _ _ h => h) (yieldsIf_digA (by rfl) (.tmp 49) rfl ⟨w.heap.size,32,none⟩ rfl d1 hd1.out (fun _ h => (D2At.b h.1))) hS ?_
    try simp only [List.getElem_toArray, List.getElem_cons_succ, List.getElem_cons_zero, Act.put, List.setIfInBounds_toArray, List.set_cons_zero, List.set_cons_succ]
    refine wpAnyH_all (rs := [4]) (by kernel_rfl) (by simp) ?_
    intro i hi
    simp only [List.mem_cons, List.not_mem_nil, or_false] at hi
    subst hi
    refine wpOp_wp rfl (by rfl) ?_
    go_simp
    refine (tjoin_calls d0 d1 hd0.out hd1.out x0 HK.out).mono ?_
    rintro e x1 ⟨rfl, hb_⟩
    replace HC := Lib.hid (Kd.C_below HC.out hb_)
    replace HK := Lib.hid (HK.out.below hb_)
    replace HQ := Lib.hid (D2At.below HQ.out hb_)
    replace HB := Lib.hid (HB.out.trans (Below.mono hb_ HB.out.size))
    replace HCc := Lib.hid (CAt.below HCc.out hb_)
    replace HC0 := Lib.hid (KC.below HC0.out hb_)
    replace H9 := Lib.hid (DigAt.below H9.out hb_)
    replace H11 := Lib.hid (CD.below H11.out hb_)
    replace H13 := Lib.hid (CD.below H13.out hb_)
    clear hb_ hS
    have hS : ST w.heap.size d0 d1 b8 ak cC b9 R x1 := ⟨HQ.out, HCc.out, H9.out⟩
    refine ⟨hS, ?_⟩
    try simp only [List.getElem_toArray, List.getElem_cons_succ, List.getElem_cons_zero, Act.put, List.setIfInBounds_toArray, List.set_cons_zero, List.set_cons_succ]
    refine wpAnyH_all (rs := [10]) (by kernel_rfl) (by simp) ?_
    intro i hi
    simp only [List.mem_cons, List.not_mem_nil, or_false] at hi
    subst hi
    refine wpOp_wp rfl (by rfl) ?_
    go_simp
    refine (rjoin_calls ak cC d0 d1 hd0.out hd1.out x1 HC0.out).mono ?_
    rintro e x2 ⟨rfl, hb_⟩
    replace HC := Lib.hid (Kd.C_below HC.out hb_)
    replace HK := Lib.hid (HK.out.below hb_)
    replace HQ := Lib.hid (D2At.below HQ.out hb_)
    replace HB := Lib.hid (HB.out.trans (Below.mono hb_ HB.out.size))
    replace HCc := Lib.hid (CAt.below HCc.out hb_)
    replace HC0 := Lib.hid (KC.below HC0.out hb_)
    replace H9 := Lib.hid (DigAt.below H9.out hb_)
    replace H11 := Lib.hid (CD.below H11.out hb_)
    replace H13 := Lib.hid (CD.below H13.out hb_)
    clear hb_ hS
    have hS : ST w.heap.size d0 d1 b8 ak cC b9 R x2 := ⟨HQ.out, HCc.out, H9.out⟩
    refine ⟨hS, ?_⟩
    try simp only [List.getElem_toArray, List.getElem_cons_succ, List.getElem_cons_zero, Act.put, List.setIfInBounds_toArray, List.set_cons_zero, List.set_cons_succ]
    have hjl : (joinP d0 d1).length = 32 := sumL_len _
    have heqj : ∀ W : World, (Op.equalIn 10000 24 (.agg (Lib.byteCells (joinP d0 d1)).toArray) (.agg (Lib.byteCells (joinP d0 d1)).toArray)).run Tryd.prog W = .ok true W := fun W => by
      rw [eq32 W _ _ hjl hjl, decT rfl]
    generalize joinP d0 d1 = J at heqj ⊢
    clear hjl
    refine wpAnyH_take (i := 11) (v := ?_) rfl (by kernel_rfl) (by kernel_rfl) (by kernel_rfl) (fun _ _ _ h => h) (Or.inl ⟨by rfl, ?_⟩) hS ?_
    rotate_left
    · intro v _; go_simp; first | done | with_reducible rfl
    rotate_left
    simp only [List.getElem_toArray, List.getElem_cons_succ, List.getElem_cons_zero, Act.put, List.setIfInBounds_toArray, List.set_cons_zero, List.set_cons_succ]
    refine wpAnyH_done (by kernel_rfl) ?_ _
    clear hS heqj
    generalize x2 = w8 at HC HK HQ HB HCc HC0 H9 H11 H13 ⊢
    go_wp2_with fail
    refine (rwrong_calls A c L w8 HC.out hc.out).mono ?_
    rintro e w9 ⟨rfl, hb_⟩
    try replace hb_ := Drawn0.below hb_
    replace HC := Lib.hid (Kd.C_below HC.out hb_)
    replace HK := Lib.hid (HK.out.below hb_)
    replace HQ := Lib.hid (D2At.below HQ.out hb_)
    replace HB := Lib.hid (HB.out.trans (Below.mono hb_ HB.out.size))
    replace HCc := Lib.hid (CAt.below HCc.out hb_)
    replace HC0 := Lib.hid (KC.below HC0.out hb_)
    replace H9 := Lib.hid (DigAt.below H9.out hb_)
    replace H11 := Lib.hid (CD.below H11.out hb_)
    replace H13 := Lib.hid (CD.below H13.out hb_)
    clear hb_
    rw [hw.out]
    go_upto_region 13 with fail
    refine wp_region_held (S := ST w.heap.size d0 d1 b8 ak cC b9 R) (by kernel_rfl) ?_
    change wpAnyH _ _ _ _ _ _ _ _ w9.drew
    have hdr : Below w9.heap.size w9 w9.drew := (Below.refl _ _).drew
    replace HC := Lib.hid (Kd.C_below HC.out hdr)
    replace HK := Lib.hid (HK.out.below hdr)
    replace HQ := Lib.hid (D2At.below HQ.out hdr)
    replace HB := Lib.hid (HB.out.trans (Below.mono hdr HB.out.size))
    replace HCc := Lib.hid (CAt.below HCc.out hdr)
    replace HC0 := Lib.hid (KC.below HC0.out hdr)
    replace H9 := Lib.hid (DigAt.below H9.out hdr)
    replace H11 := Lib.hid (CD.below H11.out hdr)
    replace H13 := Lib.hid (CD.below H13.out hdr)
    clear hdr
    generalize w9.drew = y0 at HC HK HQ HB HCc HC0 H9 H11 H13 ⊢
    have hS : ST w.heap.size d0 d1 b8 ak cC b9 R y0 := ⟨HQ.out, HCc.out, H9.out⟩
    refine wpAnyH_take (i := 0) (v := ?_) rfl (by kernel_rfl) (by kernel_rfl) (by kernel_rfl) (fun _ _ _ h => h) (Or.inl ⟨by rfl, ?_⟩) hS ?_
    rotate_left
    · intro v _; go_simp; first | done | with_reducible rfl
    rotate_left
    simp only [List.getElem_toArray, List.getElem_cons_succ, List.getElem_cons_zero, Act.put, List.setIfInBounds_toArray, List.set_cons_zero, List.set_cons_succ]
    refine wpAnyH_take (i := 1) (v := ?_) rfl (by kernel_rfl) (by kernel_rfl) (by kernel_rfl) (fun _ _ _ h => h) (Or.inl ⟨by rfl, ?_⟩) hS ?_
    rotate_left
    · intro v _; go_simp; first | done | with_reducible rfl
    rotate_left
    simp only [List.getElem_toArray, List.getElem_cons_succ, List.getElem_cons_zero, Act.put, List.setIfInBounds_toArray, List.set_cons_zero, List.set_cons_succ]
    refine wpAnyH_take (i := 2) (v := ?_) rfl (by kernel_rfl) (by kernel_rfl) (by kernel_rfl) (fun _ _ _ h => h) (Or.inl ⟨by rfl, ?_⟩) hS ?_
    rotate_left
    · intro v _; go_simp; first | done | with_reducible rfl
    rotate_left
    simp only [List.getElem_toArray, List.getElem_cons_succ, List.getElem_cons_zero, Act.put, List.setIfInBounds_toArray, List.set_cons_zero, List.set_cons_succ]
    refine wpAnyH_take (i := 3) (v := _) rfl (by kernel_rfl) (by kernel_rfl) (by kernel_rfl) (fun _ _ _ h => h) (yieldsIf_digA (by rfl) (.tmp 9) rfl ⟨b9,0,none⟩ rfl R hRl.out (fun _ h => (DigAt.ad h.2.2))) hS ?_
    try simp only [List.getElem_toArray, List.getElem_cons_succ, List.getElem_cons_zero, Act.put, List.setIfInBounds_toArray, List.set_cons_zero, List.set_cons_succ]
    refine wpAnyH_take (i := 4) (v := _) rfl (by kernel_rfl) (by kernel_rfl) (by kernel_rfl) (fun _ _ _ h => h) (yieldsIf_C (by rfl) (.tmp 8) rfl b8 rfl _ _ (fun _ h => h.2.1)) hS ?_
    try simp only [List.getElem_toArray, List.getElem_cons_succ, List.getElem_cons_zero, Act.put, List.setIfInBounds_toArray, List.set_cons_zero, List.set_cons_succ]
    refine wpAnyH_take (i := 5) (v := ?_) rfl (by kernel_rfl) (by kernel_rfl) (by kernel_rfl) (fun _ _ _ h => h) (Or.inl ⟨by rfl, ?_⟩) hS ?_
    rotate_left
    · intro v _; go_simp; first | done | with_reducible rfl
    rotate_left
    simp only [List.getElem_toArray, List.getElem_cons_succ, List.getElem_cons_zero, Act.put, List.setIfInBounds_toArray, List.set_cons_zero, List.set_cons_succ]
    refine wpAnyH_all (rs := [6]) (by kernel_rfl) (by simp) ?_
    intro i hi
    simp only [List.mem_cons, List.not_mem_nil, or_false] at hi
    subst hi
    refine wpOp_wp rfl (by rfl) ?_
    go_simp
    refine (krr.out y0 HC.out HC0.out).mono ?_
    rintro e y1 ⟨rfl, hb_⟩
    replace HC := Lib.hid (Kd.C_below HC.out hb_)
    replace HK := Lib.hid (HK.out.below hb_)
    replace HQ := Lib.hid (D2At.below HQ.out hb_)
    replace HB := Lib.hid (HB.out.trans (Below.mono hb_ HB.out.size))
    replace HCc := Lib.hid (CAt.below HCc.out hb_)
    replace HC0 := Lib.hid (KC.below HC0.out hb_)
    replace H9 := Lib.hid (DigAt.below H9.out hb_)
    replace H11 := Lib.hid (CD.below H11.out hb_)
    replace H13 := Lib.hid (CD.below H13.out hb_)
    clear hb_ hS
    have hS : ST w.heap.size d0 d1 b8 ak cC b9 R y1 := ⟨HQ.out, HCc.out, H9.out⟩
    refine ⟨hS, ?_⟩
    try simp only [List.getElem_toArray, List.getElem_cons_succ, List.getElem_cons_zero, Act.put, List.setIfInBounds_toArray, List.set_cons_zero, List.set_cons_succ]
    have heqr := heqR.out
    refine wpAnyH_take (i := 7) (v := ?_) rfl (by kernel_rfl) (by kernel_rfl) (by kernel_rfl) (fun _ _ _ h => h) (Or.inl ⟨by rfl, ?_⟩) hS ?_
    rotate_left
    · intro v _; go_simp; first | done | with_reducible rfl
    rotate_left
    simp only [List.getElem_toArray, List.getElem_cons_succ, List.getElem_cons_zero, Act.put, List.setIfInBounds_toArray, List.set_cons_zero, List.set_cons_succ]
    refine wpAnyH_take (i := 8) (v := ?_) rfl (by kernel_rfl) (by kernel_rfl) (by kernel_rfl) (fun _ _ _ h => h) (Or.inl ⟨by rfl, ?_⟩) hS ?_
    rotate_left
    · intro v _; go_simp; first | done | with_reducible rfl
    rotate_left
    simp only [List.getElem_toArray, List.getElem_cons_succ, List.getElem_cons_zero, Act.put, List.setIfInBounds_toArray, List.set_cons_zero, List.set_cons_succ]
    refine wpAnyH_done (by kernel_rfl) ?_ _
    clear hS heqr
    by_cases hA : 0 ≤ i ∧ i < (L.length : Int)
    · have hEP : EP = 0 := by rw [← hPE.out]; unfold PE; rw [if_pos hA]
      subst hEP
      have hP : P = (Tr.path alg (bl L) i.toNat).reverse := by rw [← hPV.out]; unfold PV; rw [if_pos hA]
      obtain ⟨n, rfl⟩ := Int.eq_ofNat_of_zero_le hA.1
      rw [Int.toNat_natCast] at hP
      have hn : n < L.length := by omega
      have kpp := fun W hW hk => rpath_calls ak cC L.length A c L n W (Nat.le_refl _) (by omega) hSm.out hc.out hn hW hk
      rw [← hP] at kpp
      have i1 : (0 : Int) ≤ (n : Int) := by omega
      have i2 : (n : Int) < (L.length : Int) := by omega
      obtain ⟨t, ht⟩ : ∃ t, L[n]? = some t := ⟨_, List.getElem?_eq_getElem hn⟩
      have hts : t.size ≤ 1048575 := by have := hLs.out t (List.mem_of_getElem? ht); omega
      obtain ⟨ad, hAd, _⟩ := Kd.at_string HC.out (n : Int) (by omega) (by omega)
      subst hAd
      have hcell : Hid (∀ W, Kd.C Kd.string W (some ad) L.length L → W.cell? (ad.add n) = some (.string t)) := Lib.hid fun W h => by
        obtain ⟨ad2, h1, h2⟩ := Kd.at_string h (n : Int) (by omega) (by omega)
        cases h1
        rw [Int.toNat_natCast, rd_at L n hn] at h2
        rw [h2]
        have h3 := List.getElem?_eq_getElem hn
        rw [ht] at h3
        rw [Option.some.inj h3]
      have klf := fun W hk => tleaf_calls t hts W hk
      have krl := fun W hk => rleaf_calls ak cC t hts W hk
      have hDl : (leafP t.data.toList).length = 32 := sumL_len _
      generalize leafP t.data.toList = D at klf krl hDl
      have heqd : ∀ v : World, (Op.equalIn 10000 24 (.agg (Lib.byteCells D).toArray) (.agg (Lib.byteCells D).toArray)).run Tryd.prog v = .ok true v := fun v => by rw [eq32 v D D hDl hDl, decT rfl]
      replace kpp := Lib.hid kpp
      replace hP := Lib.hid hP
      replace hA := Lib.hid hA
      replace ht := Lib.hid ht
      replace hts := Lib.hid hts
      replace klf := Lib.hid klf
      replace krl := Lib.hid krl
      replace hDl := Lib.hid hDl
      replace heqd := Lib.hid heqd
      go_wp2_with (guard_target = wpList _ _ _ (⟨some 104, _, _, _, _, _⟩ :: _) _ _; refine wpList_load_C rfl (.tmp 8) rfl b8 rfl _ _ HCc.out ?_)
      refine (kpp.out y1 HC.out HC0.out).mono ?_
      rintro e y2 ⟨v, rfl, hv, hb_⟩
      obtain ⟨A16, c16, rfl, hc16, H16⟩ := hv.reads
      replace H16 := Lib.hid H16
      replace HC := Lib.hid (Kd.C_below HC.out hb_)
      replace HK := Lib.hid (HK.out.below hb_)
      replace HQ := Lib.hid (D2At.below HQ.out hb_)
      replace HB := Lib.hid (HB.out.trans (Below.mono hb_ HB.out.size))
      replace HCc := Lib.hid (CAt.below HCc.out hb_)
      replace HC0 := Lib.hid (KC.below HC0.out hb_)
      replace H9 := Lib.hid (DigAt.below H9.out hb_)
      replace H11 := Lib.hid (CD.below H11.out hb_)
      replace H13 := Lib.hid (CD.below H13.out hb_)
      clear hb_ hv hc16
      go_wp2_with fail
      have ksame := same_calls A11 A16 c11 c16 P P y2 H11.out H16.out
      rw [decT rfl] at ksame
      replace ksame := Lib.hid ksame
      refine (ksame.out).mono ?_
      rintro e y3 ⟨rfl, hb_⟩
      try replace hb_ := Drawn0.below hb_
      replace HC := Lib.hid (Kd.C_below HC.out hb_)
      replace HK := Lib.hid (HK.out.below hb_)
      replace HQ := Lib.hid (D2At.below HQ.out hb_)
      replace HB := Lib.hid (HB.out.trans (Below.mono hb_ HB.out.size))
      replace HCc := Lib.hid (CAt.below HCc.out hb_)
      replace HC0 := Lib.hid (KC.below HC0.out hb_)
      replace H9 := Lib.hid (DigAt.below H9.out hb_)
      replace H11 := Lib.hid (CD.below H11.out hb_)
      replace H13 := Lib.hid (CD.below H13.out hb_)
      clear hb_
      clear ksame H16
      go_upto_region 17 with fail
      refine wp_region_held (S := STs b8 ak cC (ad.add n) t) (by kernel_rfl) ?_
      change wpAnyH _ _ _ _ _ _ _ _ y3.drew
      have hdr : Below y3.heap.size y3 y3.drew := (Below.refl _ _).drew
      replace HC := Lib.hid (Kd.C_below HC.out hdr)
      replace HK := Lib.hid (HK.out.below hdr)
      replace HQ := Lib.hid (D2At.below HQ.out hdr)
      replace HB := Lib.hid (HB.out.trans (Below.mono hdr HB.out.size))
      replace HCc := Lib.hid (CAt.below HCc.out hdr)
      replace HC0 := Lib.hid (KC.below HC0.out hdr)
      replace H9 := Lib.hid (DigAt.below H9.out hdr)
      replace H11 := Lib.hid (CD.below H11.out hdr)
      replace H13 := Lib.hid (CD.below H13.out hdr)
      clear hdr
      generalize y3.drew = z0 at HC HK HQ HB HCc HC0 H9 H11 H13 ⊢
      have hS : STs b8 ak cC (ad.add n) t z0 := ⟨HCc.out, hcell.out z0 HC.out⟩
      refine wpAnyH_take (i := 0) (v := ?_) rfl (by kernel_rfl) (by kernel_rfl) (by kernel_rfl) (fun _ _ _ h => h) (Or.inl ⟨by rfl, ?_⟩) hS ?_
      rotate_left
      · intro v _; go_simp; first | done | with_reducible rfl
      rotate_left
      simp only [List.getElem_toArray, List.getElem_cons_succ, List.getElem_cons_zero, Act.put, List.setIfInBounds_toArray, List.set_cons_zero, List.set_cons_succ]
      refine wpAnyH_take (i := 1) (v := ?_) rfl (by kernel_rfl) (by kernel_rfl) (by kernel_rfl) (fun _ _ _ h => h) (Or.inl ⟨by rfl, ?_⟩) hS ?_
      rotate_left
      · intro v _; go_simp; first | done | with_reducible rfl
      rotate_left
      simp only [List.getElem_toArray, List.getElem_cons_succ, List.getElem_cons_zero, Act.put, List.setIfInBounds_toArray, List.set_cons_zero, List.set_cons_succ]
      refine wpAnyH_take (i := 2) (v := ?_) rfl (by kernel_rfl) (by kernel_rfl) (by kernel_rfl) (fun _ _ _ h => h) (Or.inl ⟨by rfl, ?_⟩) hS ?_
      rotate_left
      · intro v _; go_simp; first | done | with_reducible rfl
      rotate_left
      simp only [List.getElem_toArray, List.getElem_cons_succ, List.getElem_cons_zero, Act.put, List.setIfInBounds_toArray, List.set_cons_zero, List.set_cons_succ]
      refine wpAnyH_take (i := 3) (v := ?_) rfl (by kernel_rfl) (by kernel_rfl) (by kernel_rfl) (fun _ _ _ h => h) (Or.inl ⟨by rfl, ?_⟩) hS ?_
      rotate_left
      · intro v _; go_simp; first | done | with_reducible rfl
      rotate_left
      simp only [List.getElem_toArray, List.getElem_cons_succ, List.getElem_cons_zero, Act.put, List.setIfInBounds_toArray, List.set_cons_zero, List.set_cons_succ]
      refine wpAnyH_take (i := 4) (v := ?_) rfl (by kernel_rfl) (by kernel_rfl) (by kernel_rfl) (fun _ _ _ h => h) (Or.inl ⟨by rfl, ?_⟩) hS ?_
      rotate_left
      · intro v _; go_simp; first | done | with_reducible rfl
      rotate_left
      simp only [List.getElem_toArray, List.getElem_cons_succ, List.getElem_cons_zero, Act.put, List.setIfInBounds_toArray, List.set_cons_zero, List.set_cons_succ]
      refine wpAnyH_take (i := 5) (v := ?_) rfl (by kernel_rfl) (by kernel_rfl) (by kernel_rfl) (fun _ _ _ h => h) (Or.inl ⟨by rfl, ?_⟩) hS ?_
      rotate_left
      · intro v _; go_simp; first | done | with_reducible rfl
      rotate_left
      simp only [List.getElem_toArray, List.getElem_cons_succ, List.getElem_cons_zero, Act.put, List.setIfInBounds_toArray, List.set_cons_zero, List.set_cons_succ]
      refine wpAnyH_take (i := 6) (v := ?_) rfl (by kernel_rfl) (by kernel_rfl) (by kernel_rfl) (fun _ _ _ h => h) (Or.inl ⟨by rfl, ?_⟩) hS ?_
      rotate_left
      · intro v _; go_simp; first | done | with_reducible rfl
      rotate_left
      simp only [List.getElem_toArray, List.getElem_cons_succ, List.getElem_cons_zero, Act.put, List.setIfInBounds_toArray, List.set_cons_zero, List.set_cons_succ]
      refine wpAnyH_take (i := 7) (v := ?_) rfl (by kernel_rfl) (by kernel_rfl) (by kernel_rfl) (fun _ _ _ h => h) (Or.inl ⟨by rfl, ?_⟩) hS ?_
      rotate_left
      · intro v _; go_simp; first | done | with_reducible rfl
      rotate_left
      simp only [List.getElem_toArray, List.getElem_cons_succ, List.getElem_cons_zero, Act.put, List.setIfInBounds_toArray, List.set_cons_zero, List.set_cons_succ]
      refine wpAnyH_take (i := 8) (v := ?_) rfl (by kernel_rfl) (by kernel_rfl) (by kernel_rfl) (fun _ _ _ h => h) (Or.inl ⟨by rfl, ?_⟩) hS ?_
      rotate_left
      · intro v _; go_simp; first | done | with_reducible rfl
      rotate_left
      simp only [List.getElem_toArray, List.getElem_cons_succ, List.getElem_cons_zero, Act.put, List.setIfInBounds_toArray, List.set_cons_zero, List.set_cons_succ]
      refine wpAnyH_take (i := 9) (v := ?_) rfl (by kernel_rfl) (by kernel_rfl) (by kernel_rfl) (fun _ _ _ h => h) (Or.inl ⟨by rfl, ?_⟩) hS ?_
      rotate_left
      · intro v _; go_simp; first | done | with_reducible rfl
      rotate_left
      simp only [List.getElem_toArray, List.getElem_cons_succ, List.getElem_cons_zero, Act.put, List.setIfInBounds_toArray, List.set_cons_zero, List.set_cons_succ]
      refine wpAnyH_take (i := 10) (v := _) rfl (by kernel_rfl) (by kernel_rfl) (by kernel_rfl) (fun _ _ _ h => h) (yieldsIf_cell (by rfl) 9 (.tmp 118) rfl (ad.add n) rfl (.string t) agg9 (fun _ h => h.2)) hS ?_
      simp only [List.getElem_toArray, List.getElem_cons_succ, List.getElem_cons_zero, Act.put, List.setIfInBounds_toArray, List.set_cons_zero, List.set_cons_succ]
      refine wpAnyH_take (i := 12) (v := _) rfl (by kernel_rfl) (by kernel_rfl) (by kernel_rfl) (fun _ _ _ h => h) (yieldsIf_C (by rfl) (.tmp 8) rfl b8 rfl _ _ (fun _ h => h.1)) hS ?_
      try simp only [List.getElem_toArray, List.getElem_cons_succ, List.getElem_cons_zero, Act.put, List.setIfInBounds_toArray, List.set_cons_zero, List.set_cons_succ]
      refine wpAnyH_take (i := 13) (v := ?_) rfl (by kernel_rfl) (by kernel_rfl) (by kernel_rfl) (fun _ _ _ h => h) (Or.inl ⟨by rfl, ?_⟩) hS ?_
      rotate_left
      · intro v _; go_simp; first | done | with_reducible rfl
      rotate_left
      simp only [List.getElem_toArray, List.getElem_cons_succ, List.getElem_cons_zero, Act.put, List.setIfInBounds_toArray, List.set_cons_zero, List.set_cons_succ]
      refine wpAnyH_take (i := 14) (v := ?_) rfl (by kernel_rfl) (by kernel_rfl) (by kernel_rfl) (fun _ _ _ h => h) (Or.inl ⟨by rfl, ?_⟩) hS ?_
      rotate_left
      · intro v _; go_simp; first | done | with_reducible rfl
      rotate_left
      simp only [List.getElem_toArray, List.getElem_cons_succ, List.getElem_cons_zero, Act.put, List.setIfInBounds_toArray, List.set_cons_zero, List.set_cons_succ]
      refine wpAnyH_take (i := 15) (v := ?_) rfl (by kernel_rfl) (by kernel_rfl) (by kernel_rfl) (fun _ _ _ h => h) (Or.inl ⟨by rfl, ?_⟩) hS ?_
      rotate_left
      · intro v _; go_simp; first | done | with_reducible rfl
      rotate_left
      simp only [List.getElem_toArray, List.getElem_cons_succ, List.getElem_cons_zero, Act.put, List.setIfInBounds_toArray, List.set_cons_zero, List.set_cons_succ]
      refine wpAnyH_take (i := 16) (v := _) rfl (by kernel_rfl) (by kernel_rfl) (by kernel_rfl) (fun _ _ _ h => h) (yieldsIf_cell (by rfl) 9 (.tmp 124) rfl (ad.add n) rfl (.string t) agg9 (fun _ h => h.2)) hS ?_
      simp only [List.getElem_toArray, List.getElem_cons_succ, List.getElem_cons_zero, Act.put, List.setIfInBounds_toArray, List.set_cons_zero, List.set_cons_succ]
      refine wpAnyH_all (rs := [11]) (by kernel_rfl) (by simp) ?_
      intro i hi
      simp only [List.mem_cons, List.not_mem_nil, or_false] at hi
      subst hi
      refine wpOp_wp rfl (by rfl) ?_
      go_simp
      refine (klf.out z0 HK.out).mono ?_
      rintro e z1 ⟨rfl, hb_⟩
      replace HC := Lib.hid (Kd.C_below HC.out hb_)
      replace HK := Lib.hid (HK.out.below hb_)
      replace HQ := Lib.hid (D2At.below HQ.out hb_)
      replace HB := Lib.hid (HB.out.trans (Below.mono hb_ HB.out.size))
      replace HCc := Lib.hid (CAt.below HCc.out hb_)
      replace HC0 := Lib.hid (KC.below HC0.out hb_)
      replace H9 := Lib.hid (DigAt.below H9.out hb_)
      replace H11 := Lib.hid (CD.below H11.out hb_)
      replace H13 := Lib.hid (CD.below H13.out hb_)
      clear hb_ hS
      have hS : STs b8 ak cC (ad.add n) t z1 := ⟨HCc.out, hcell.out z1 HC.out⟩
      refine ⟨hS, ?_⟩
      try simp only [List.getElem_toArray, List.getElem_cons_succ, List.getElem_cons_zero, Act.put, List.setIfInBounds_toArray, List.set_cons_zero, List.set_cons_succ]
      refine wpAnyH_all (rs := [17]) (by kernel_rfl) (by simp) ?_
      intro i hi
      simp only [List.mem_cons, List.not_mem_nil, or_false] at hi
      subst hi
      refine wpOp_wp rfl (by rfl) ?_
      go_simp
      refine (krl.out z1 HC0.out).mono ?_
      rintro e z2 ⟨rfl, hb_⟩
      replace HC := Lib.hid (Kd.C_below HC.out hb_)
      replace HK := Lib.hid (HK.out.below hb_)
      replace HQ := Lib.hid (D2At.below HQ.out hb_)
      replace HB := Lib.hid (HB.out.trans (Below.mono hb_ HB.out.size))
      replace HCc := Lib.hid (CAt.below HCc.out hb_)
      replace HC0 := Lib.hid (KC.below HC0.out hb_)
      replace H9 := Lib.hid (DigAt.below H9.out hb_)
      replace H11 := Lib.hid (CD.below H11.out hb_)
      replace H13 := Lib.hid (CD.below H13.out hb_)
      clear hb_ hS
      have hS : STs b8 ak cC (ad.add n) t z2 := ⟨HCc.out, hcell.out z2 HC.out⟩
      refine ⟨hS, ?_⟩
      try simp only [List.getElem_toArray, List.getElem_cons_succ, List.getElem_cons_zero, Act.put, List.setIfInBounds_toArray, List.set_cons_zero, List.set_cons_succ]
      have heqx := heqd.out
      refine wpAnyH_take (i := 18) (v := ?_) rfl (by kernel_rfl) (by kernel_rfl) (by kernel_rfl) (fun _ _ _ h => h) (Or.inl ⟨by rfl, ?_⟩) hS ?_
      rotate_left
      · intro v _; go_simp; first | done | with_reducible rfl
      rotate_left
      simp only [List.getElem_toArray, List.getElem_cons_succ, List.getElem_cons_zero, Act.put, List.setIfInBounds_toArray, List.set_cons_zero, List.set_cons_succ]
      refine wpAnyH_take (i := 19) (v := ?_) rfl (by kernel_rfl) (by kernel_rfl) (by kernel_rfl) (fun _ _ _ h => h) (Or.inl ⟨by rfl, ?_⟩) hS ?_
      rotate_left
      · intro v _; go_simp; first | done | with_reducible rfl
      rotate_left
      simp only [List.getElem_toArray, List.getElem_cons_succ, List.getElem_cons_zero, Act.put, List.setIfInBounds_toArray, List.set_cons_zero, List.set_cons_succ]
      refine wpAnyH_done (by kernel_rfl) ?_ _
      clear hS heqx
      obtain ⟨i, hi⟩ : ∃ i : Int, i = (n : Int) := ⟨_, rfl⟩
      rw [← hi] at hBV hBE i1 i2 hi0 hi9 ⊢
      replace hi := Lib.hid hi
      obtain ⟨A, hAA⟩ : ∃ A, A = some ad := ⟨_, rfl⟩
      rw [← hAA] at HC ⊢
      replace hAA := Lib.hid hAA
      by_cases hCc : 1 ≤ i ∧ i ≤ (L.length : Int)
      · have hEB : EB = 0 := by rw [← hBE.out]; unfold BE; rw [if_pos hCc]
        subst hEB
        have hBq : Bq = (Tr.bridge alg (bl L) i.toNat true).reverse := by rw [← hBV.out]; unfold BV; rw [if_pos hCc]
        obtain ⟨n2, rfl⟩ := Int.eq_ofNat_of_zero_le (show 0 ≤ i by omega)
        rw [Int.toNat_natCast] at hBq
        have kbb := fun W hW hk => rbridge_calls ak cC L.length A c L n2 true W (Nat.le_refl _) (by omega) hSm.out hc.out (by omega) (by omega) hW hk
        rw [← hBq] at kbb
        have i1 := hCc.1
        have i2 := hCc.2
        have i3 : decide ((1 : Int) ≤ (n2 : Int)) = true := decT hCc.1
        have i4 : decide ((n2 : Int) ≤ (L.length : Int)) = true := decT hCc.2
        replace kbb := Lib.hid kbb
        replace hBq := Lib.hid hBq
        replace hCc := Lib.hid hCc
        go_wp2_with (guard_target = wpList _ _ _ (⟨some 145, _, _, _, _, _⟩ :: _) _ _; refine wpList_load_C rfl (.tmp 8) rfl b8 rfl _ _ HCc.out ?_)
        refine (kbb.out z2 HC.out HC0.out).mono ?_
        rintro e wx1 ⟨v, rfl, hv, hb_⟩
        obtain ⟨A22, c22, rfl, hc22, H22⟩ := hv.reads
        replace H22 := Lib.hid H22
        replace HC := Lib.hid (Kd.C_below HC.out hb_)
        replace HK := Lib.hid (HK.out.below hb_)
        replace HQ := Lib.hid (D2At.below HQ.out hb_)
        replace HB := Lib.hid (HB.out.trans (Below.mono hb_ HB.out.size))
        replace HCc := Lib.hid (CAt.below HCc.out hb_)
        replace HC0 := Lib.hid (KC.below HC0.out hb_)
        replace H9 := Lib.hid (DigAt.below H9.out hb_)
        replace H11 := Lib.hid (CD.below H11.out hb_)
        replace H13 := Lib.hid (CD.below H13.out hb_)
        clear hb_ hv hc22
        go_wp2_with fail
        have ksame := same_calls A13 A22 c13 c22 Bq Bq wx1 H13.out H22.out
        rw [decT rfl] at ksame
        replace ksame := Lib.hid ksame
        refine (ksame.out).mono ?_
        rintro e wx2 ⟨rfl, hb_⟩
        try replace hb_ := Drawn0.below hb_
        replace HC := Lib.hid (Kd.C_below HC.out hb_)
        replace HK := Lib.hid (HK.out.below hb_)
        replace HQ := Lib.hid (D2At.below HQ.out hb_)
        replace HB := Lib.hid (HB.out.trans (Below.mono hb_ HB.out.size))
        replace HCc := Lib.hid (CAt.below HCc.out hb_)
        replace HC0 := Lib.hid (KC.below HC0.out hb_)
        replace H9 := Lib.hid (DigAt.below H9.out hb_)
        replace H11 := Lib.hid (CD.below H11.out hb_)
        replace H13 := Lib.hid (CD.below H13.out hb_)
        clear hb_
        clear ksame H22
        go_wp2_with fail
        refine (alive_calls wx2 HK.out).mono ?_
        rintro e wx3 ⟨rfl, hb_⟩
        try replace hb_ := Drawn0.below hb_
        replace HC := Lib.hid (Kd.C_below HC.out hb_)
        replace HK := Lib.hid (HK.out.below hb_)
        replace HQ := Lib.hid (D2At.below HQ.out hb_)
        replace HB := Lib.hid (HB.out.trans (Below.mono hb_ HB.out.size))
        replace HCc := Lib.hid (CAt.below HCc.out hb_)
        replace HC0 := Lib.hid (KC.below HC0.out hb_)
        replace H9 := Lib.hid (DigAt.below H9.out hb_)
        replace H11 := Lib.hid (CD.below H11.out hb_)
        replace H13 := Lib.hid (CD.below H13.out hb_)
        clear hb_
        go_wp2_with fail
        go_ret
        exact ⟨rfl, HB.out⟩
      · have hEB : EB = 1 := by rw [← hBE.out]; unfold BE; rw [if_neg hCc]
        subst hEB
        have hBq : Bq = [] := by rw [← hBV.out]; unfold BV; rw [if_neg hCc]
        subst hBq
        by_cases hi1 : 1 ≤ i
        · have hi2 : ¬ i ≤ (L.length : Int) := fun h => hCc ⟨hi1, h⟩
          have i4 : decide (i ≤ (L.length : Int)) = false := decF hi2
          replace hCc := Lib.hid hCc
          go_wp2_with fail
          refine (alive_calls z2 HK.out).mono ?_
          rintro e wx1 ⟨rfl, hb_⟩
          try replace hb_ := Drawn0.below hb_
          replace HC := Lib.hid (Kd.C_below HC.out hb_)
          replace HK := Lib.hid (HK.out.below hb_)
          replace HQ := Lib.hid (D2At.below HQ.out hb_)
          replace HB := Lib.hid (HB.out.trans (Below.mono hb_ HB.out.size))
          replace HCc := Lib.hid (CAt.below HCc.out hb_)
          replace HC0 := Lib.hid (KC.below HC0.out hb_)
          replace H9 := Lib.hid (DigAt.below H9.out hb_)
          replace H11 := Lib.hid (CD.below H11.out hb_)
          replace H13 := Lib.hid (CD.below H13.out hb_)
          clear hb_
          go_wp2_with fail
          go_ret
          exact ⟨rfl, HB.out⟩
        · have i4 : decide (1 ≤ i) = false := decF hi1
          replace hCc := Lib.hid hCc
          go_wp2_with fail
          refine (alive_calls z2 HK.out).mono ?_
          rintro e wx1 ⟨rfl, hb_⟩
          try replace hb_ := Drawn0.below hb_
          replace HC := Lib.hid (Kd.C_below HC.out hb_)
          replace HK := Lib.hid (HK.out.below hb_)
          replace HQ := Lib.hid (D2At.below HQ.out hb_)
          replace HB := Lib.hid (HB.out.trans (Below.mono hb_ HB.out.size))
          replace HCc := Lib.hid (CAt.below HCc.out hb_)
          replace HC0 := Lib.hid (KC.below HC0.out hb_)
          replace H9 := Lib.hid (DigAt.below H9.out hb_)
          replace H11 := Lib.hid (CD.below H11.out hb_)
          replace H13 := Lib.hid (CD.below H13.out hb_)
          clear hb_
          go_wp2_with fail
          go_ret
          exact ⟨rfl, HB.out⟩
    · have hEP : EP = 1 := by rw [← hPE.out]; unfold PE; rw [if_neg hA]
      subst hEP
      have hP : P = [] := by rw [← hPV.out]; unfold PV; rw [if_neg hA]
      subst hP
      by_cases hi1 : 0 ≤ i
      · have hi2 : ¬ i < (L.length : Int) := fun h => hA ⟨hi1, h⟩
        have j1 : decide (0 ≤ i) = true := decT hi1
        have j2 : decide (i < (L.length : Int)) = false := decF hi2
        replace hA := Lib.hid hA
        go_upto_region 21 with fail
        clear j1 j2
        by_cases hCc : 1 ≤ i ∧ i ≤ (L.length : Int)
        · have hEB : EB = 0 := by rw [← hBE.out]; unfold BE; rw [if_pos hCc]
          subst hEB
          have hBq : Bq = (Tr.bridge alg (bl L) i.toNat true).reverse := by rw [← hBV.out]; unfold BV; rw [if_pos hCc]
          obtain ⟨n2, rfl⟩ := Int.eq_ofNat_of_zero_le (show 0 ≤ i by omega)
          rw [Int.toNat_natCast] at hBq
          have kbb := fun W hW hk => rbridge_calls ak cC L.length A c L n2 true W (Nat.le_refl _) (by omega) hSm.out hc.out (by omega) (by omega) hW hk
          rw [← hBq] at kbb
          have i1 := hCc.1
          have i2 := hCc.2
          have i3 : decide ((1 : Int) ≤ (n2 : Int)) = true := decT hCc.1
          have i4 : decide ((n2 : Int) ≤ (L.length : Int)) = true := decT hCc.2
          replace kbb := Lib.hid kbb
          replace hBq := Lib.hid hBq
          replace hCc := Lib.hid hCc
          go_wp2_with (guard_target = wpList _ _ _ (⟨some 145, _, _, _, _, _⟩ :: _) _ _; refine wpList_load_C rfl (.tmp 8) rfl b8 rfl _ _ HCc.out ?_)
          refine (kbb.out y1 HC.out HC0.out).mono ?_
          rintro e wx1 ⟨v, rfl, hv, hb_⟩
          obtain ⟨A22, c22, rfl, hc22, H22⟩ := hv.reads
          replace H22 := Lib.hid H22
          replace HC := Lib.hid (Kd.C_below HC.out hb_)
          replace HK := Lib.hid (HK.out.below hb_)
          replace HQ := Lib.hid (D2At.below HQ.out hb_)
          replace HB := Lib.hid (HB.out.trans (Below.mono hb_ HB.out.size))
          replace HCc := Lib.hid (CAt.below HCc.out hb_)
          replace HC0 := Lib.hid (KC.below HC0.out hb_)
          replace H9 := Lib.hid (DigAt.below H9.out hb_)
          replace H11 := Lib.hid (CD.below H11.out hb_)
          replace H13 := Lib.hid (CD.below H13.out hb_)
          clear hb_ hv hc22
          go_wp2_with fail
          have ksame := same_calls A13 A22 c13 c22 Bq Bq wx1 H13.out H22.out
          rw [decT rfl] at ksame
          replace ksame := Lib.hid ksame
          refine (ksame.out).mono ?_
          rintro e wx2 ⟨rfl, hb_⟩
          try replace hb_ := Drawn0.below hb_
          replace HC := Lib.hid (Kd.C_below HC.out hb_)
          replace HK := Lib.hid (HK.out.below hb_)
          replace HQ := Lib.hid (D2At.below HQ.out hb_)
          replace HB := Lib.hid (HB.out.trans (Below.mono hb_ HB.out.size))
          replace HCc := Lib.hid (CAt.below HCc.out hb_)
          replace HC0 := Lib.hid (KC.below HC0.out hb_)
          replace H9 := Lib.hid (DigAt.below H9.out hb_)
          replace H11 := Lib.hid (CD.below H11.out hb_)
          replace H13 := Lib.hid (CD.below H13.out hb_)
          clear hb_
          clear ksame H22
          go_wp2_with fail
          refine (alive_calls wx2 HK.out).mono ?_
          rintro e wx3 ⟨rfl, hb_⟩
          try replace hb_ := Drawn0.below hb_
          replace HC := Lib.hid (Kd.C_below HC.out hb_)
          replace HK := Lib.hid (HK.out.below hb_)
          replace HQ := Lib.hid (D2At.below HQ.out hb_)
          replace HB := Lib.hid (HB.out.trans (Below.mono hb_ HB.out.size))
          replace HCc := Lib.hid (CAt.below HCc.out hb_)
          replace HC0 := Lib.hid (KC.below HC0.out hb_)
          replace H9 := Lib.hid (DigAt.below H9.out hb_)
          replace H11 := Lib.hid (CD.below H11.out hb_)
          replace H13 := Lib.hid (CD.below H13.out hb_)
          clear hb_
          go_wp2_with fail
          go_ret
          exact ⟨rfl, HB.out⟩
        · have hEB : EB = 1 := by rw [← hBE.out]; unfold BE; rw [if_neg hCc]
          subst hEB
          have hBq : Bq = [] := by rw [← hBV.out]; unfold BV; rw [if_neg hCc]
          subst hBq
          by_cases hi1 : 1 ≤ i
          · have hi2 : ¬ i ≤ (L.length : Int) := fun h => hCc ⟨hi1, h⟩
            have i4 : decide (i ≤ (L.length : Int)) = false := decF hi2
            replace hCc := Lib.hid hCc
            go_wp2_with fail
            refine (alive_calls y1 HK.out).mono ?_
            rintro e wx1 ⟨rfl, hb_⟩
            try replace hb_ := Drawn0.below hb_
            replace HC := Lib.hid (Kd.C_below HC.out hb_)
            replace HK := Lib.hid (HK.out.below hb_)
            replace HQ := Lib.hid (D2At.below HQ.out hb_)
            replace HB := Lib.hid (HB.out.trans (Below.mono hb_ HB.out.size))
            replace HCc := Lib.hid (CAt.below HCc.out hb_)
            replace HC0 := Lib.hid (KC.below HC0.out hb_)
            replace H9 := Lib.hid (DigAt.below H9.out hb_)
            replace H11 := Lib.hid (CD.below H11.out hb_)
            replace H13 := Lib.hid (CD.below H13.out hb_)
            clear hb_
            go_wp2_with fail
            go_ret
            exact ⟨rfl, HB.out⟩
          · have i4 : decide (1 ≤ i) = false := decF hi1
            replace hCc := Lib.hid hCc
            go_wp2_with fail
            refine (alive_calls y1 HK.out).mono ?_
            rintro e wx1 ⟨rfl, hb_⟩
            try replace hb_ := Drawn0.below hb_
            replace HC := Lib.hid (Kd.C_below HC.out hb_)
            replace HK := Lib.hid (HK.out.below hb_)
            replace HQ := Lib.hid (D2At.below HQ.out hb_)
            replace HB := Lib.hid (HB.out.trans (Below.mono hb_ HB.out.size))
            replace HCc := Lib.hid (CAt.below HCc.out hb_)
            replace HC0 := Lib.hid (KC.below HC0.out hb_)
            replace H9 := Lib.hid (DigAt.below H9.out hb_)
            replace H11 := Lib.hid (CD.below H11.out hb_)
            replace H13 := Lib.hid (CD.below H13.out hb_)
            clear hb_
            go_wp2_with fail
            go_ret
            exact ⟨rfl, HB.out⟩
      · have j1 : decide (0 ≤ i) = false := decF hi1
        replace hA := Lib.hid hA
        go_upto_region 21 with fail
        clear j1
        by_cases hCc : 1 ≤ i ∧ i ≤ (L.length : Int)
        · have hEB : EB = 0 := by rw [← hBE.out]; unfold BE; rw [if_pos hCc]
          subst hEB
          have hBq : Bq = (Tr.bridge alg (bl L) i.toNat true).reverse := by rw [← hBV.out]; unfold BV; rw [if_pos hCc]
          obtain ⟨n2, rfl⟩ := Int.eq_ofNat_of_zero_le (show 0 ≤ i by omega)
          rw [Int.toNat_natCast] at hBq
          have kbb := fun W hW hk => rbridge_calls ak cC L.length A c L n2 true W (Nat.le_refl _) (by omega) hSm.out hc.out (by omega) (by omega) hW hk
          rw [← hBq] at kbb
          have i1 := hCc.1
          have i2 := hCc.2
          have i3 : decide ((1 : Int) ≤ (n2 : Int)) = true := decT hCc.1
          have i4 : decide ((n2 : Int) ≤ (L.length : Int)) = true := decT hCc.2
          replace kbb := Lib.hid kbb
          replace hBq := Lib.hid hBq
          replace hCc := Lib.hid hCc
          go_wp2_with (guard_target = wpList _ _ _ (⟨some 145, _, _, _, _, _⟩ :: _) _ _; refine wpList_load_C rfl (.tmp 8) rfl b8 rfl _ _ HCc.out ?_)
          refine (kbb.out y1 HC.out HC0.out).mono ?_
          rintro e wx1 ⟨v, rfl, hv, hb_⟩
          obtain ⟨A22, c22, rfl, hc22, H22⟩ := hv.reads
          replace H22 := Lib.hid H22
          replace HC := Lib.hid (Kd.C_below HC.out hb_)
          replace HK := Lib.hid (HK.out.below hb_)
          replace HQ := Lib.hid (D2At.below HQ.out hb_)
          replace HB := Lib.hid (HB.out.trans (Below.mono hb_ HB.out.size))
          replace HCc := Lib.hid (CAt.below HCc.out hb_)
          replace HC0 := Lib.hid (KC.below HC0.out hb_)
          replace H9 := Lib.hid (DigAt.below H9.out hb_)
          replace H11 := Lib.hid (CD.below H11.out hb_)
          replace H13 := Lib.hid (CD.below H13.out hb_)
          clear hb_ hv hc22
          go_wp2_with fail
          have ksame := same_calls A13 A22 c13 c22 Bq Bq wx1 H13.out H22.out
          rw [decT rfl] at ksame
          replace ksame := Lib.hid ksame
          refine (ksame.out).mono ?_
          rintro e wx2 ⟨rfl, hb_⟩
          try replace hb_ := Drawn0.below hb_
          replace HC := Lib.hid (Kd.C_below HC.out hb_)
          replace HK := Lib.hid (HK.out.below hb_)
          replace HQ := Lib.hid (D2At.below HQ.out hb_)
          replace HB := Lib.hid (HB.out.trans (Below.mono hb_ HB.out.size))
          replace HCc := Lib.hid (CAt.below HCc.out hb_)
          replace HC0 := Lib.hid (KC.below HC0.out hb_)
          replace H9 := Lib.hid (DigAt.below H9.out hb_)
          replace H11 := Lib.hid (CD.below H11.out hb_)
          replace H13 := Lib.hid (CD.below H13.out hb_)
          clear hb_
          clear ksame H22
          go_wp2_with fail
          refine (alive_calls wx2 HK.out).mono ?_
          rintro e wx3 ⟨rfl, hb_⟩
          try replace hb_ := Drawn0.below hb_
          replace HC := Lib.hid (Kd.C_below HC.out hb_)
          replace HK := Lib.hid (HK.out.below hb_)
          replace HQ := Lib.hid (D2At.below HQ.out hb_)
          replace HB := Lib.hid (HB.out.trans (Below.mono hb_ HB.out.size))
          replace HCc := Lib.hid (CAt.below HCc.out hb_)
          replace HC0 := Lib.hid (KC.below HC0.out hb_)
          replace H9 := Lib.hid (DigAt.below H9.out hb_)
          replace H11 := Lib.hid (CD.below H11.out hb_)
          replace H13 := Lib.hid (CD.below H13.out hb_)
          clear hb_
          go_wp2_with fail
          go_ret
          exact ⟨rfl, HB.out⟩
        · have hEB : EB = 1 := by rw [← hBE.out]; unfold BE; rw [if_neg hCc]
          subst hEB
          have hBq : Bq = [] := by rw [← hBV.out]; unfold BV; rw [if_neg hCc]
          subst hBq
          by_cases hi1 : 1 ≤ i
          · have hi2 : ¬ i ≤ (L.length : Int) := fun h => hCc ⟨hi1, h⟩
            have i4 : decide (i ≤ (L.length : Int)) = false := decF hi2
            replace hCc := Lib.hid hCc
            go_wp2_with fail
            refine (alive_calls y1 HK.out).mono ?_
            rintro e wx1 ⟨rfl, hb_⟩
            try replace hb_ := Drawn0.below hb_
            replace HC := Lib.hid (Kd.C_below HC.out hb_)
            replace HK := Lib.hid (HK.out.below hb_)
            replace HQ := Lib.hid (D2At.below HQ.out hb_)
            replace HB := Lib.hid (HB.out.trans (Below.mono hb_ HB.out.size))
            replace HCc := Lib.hid (CAt.below HCc.out hb_)
            replace HC0 := Lib.hid (KC.below HC0.out hb_)
            replace H9 := Lib.hid (DigAt.below H9.out hb_)
            replace H11 := Lib.hid (CD.below H11.out hb_)
            replace H13 := Lib.hid (CD.below H13.out hb_)
            clear hb_
            go_wp2_with fail
            go_ret
            exact ⟨rfl, HB.out⟩
          · have i4 : decide (1 ≤ i) = false := decF hi1
            replace hCc := Lib.hid hCc
            go_wp2_with fail
            refine (alive_calls y1 HK.out).mono ?_
            rintro e wx1 ⟨rfl, hb_⟩
            try replace hb_ := Drawn0.below hb_
            replace HC := Lib.hid (Kd.C_below HC.out hb_)
            replace HK := Lib.hid (HK.out.below hb_)
            replace HQ := Lib.hid (D2At.below HQ.out hb_)
            replace HB := Lib.hid (HB.out.trans (Below.mono hb_ HB.out.size))
            replace HCc := Lib.hid (CAt.below HCc.out hb_)
            replace HC0 := Lib.hid (KC.below HC0.out hb_)
            replace H9 := Lib.hid (DigAt.below H9.out hb_)
            replace H11 := Lib.hid (CD.below H11.out hb_)
            replace H13 := Lib.hid (CD.below H13.out hb_)
            clear hb_
            go_wp2_with fail
            go_ret
            exact ⟨rfl, HB.out⟩
theorem tells_law (A : Option Addr) (c : Nat) (L : List ByteArray) (i : Int) (hi0 : -9223372036854775808 ≤ i) (hi9 : i ≤ 9223372036854775807) (d0 d1 : List UInt8) (hd0 : d0.length = 32) (hd1 : d1.length = 32) (w : World) (hC : Kd.C Kd.string w A L.length L) (hc : L.length ≤ c) (hK : KAt w) :
    Calls Tryd.prog 8 #[.slice A L.length c, .int .i64 i, .agg (Lib.byteCells d0 ++ Lib.byteCells d1).toArray] w fun e w' => e = .returned (.bool true) ∧ Below w.heap.size w w' := by
  rcases wrong_01 L with hw | hw
  · exact tells_ok A c L i hi0 hi9 d0 d1 hd0 hd1 w hC hc hK hw
  · exact tells_bad A c L i d0 d1 hd0 hd1 w hC hc hK hw
end Go.Proofs.YtldpnmebjnkjeaaDoor.TrW
namespace Go.Proofs.YtldpnmebjnkjeaaDoor.ShaCard
open Go.ChangeShapes Go.WideShapes Go.ChangeAt Go.RowKit Go.Proofs.YtldpnmebjnkjeaaDoorW.PrintWords Go.Proofs.YtldpnmebjnkjeaaDoor.Sha
set_option linter.unusedVariables false
theorem gTab : Tryd.prog.globalNamed "cashbook/hash.k" = some 0 := by kernel_rfl
theorem gTabType : (Tryd.prog.globals[0]?).map (·.type) = some 136 := by kernel_rfl
theorem undT : Tryd.prog.underlying 136 = some (.array 64 28) := by kernel_rfl
theorem undU : Tryd.prog.underlying 28 = some (.int .u32) := by kernel_rfl
theorem cellsT : Tryd.prog.cellsOf 136 = 64 := by kernel_rfl
theorem cellsU : Tryd.prog.cellsOf 28 = 1 := by kernel_rfl
theorem tab_of {P : Program} {W : World} {name : String} {k : IntKind} {zs : List Int} {g : Nat} {t e : TypeId} {n : Nat}
    (hg : P.globalNamed name = some g) (hty : (P.globals[g]?).map (·.type) = some t) (ht : P.underlying t = some (.array n e)) (he : P.underlying e = some (.int k)) (hce : P.cellsOf e = 1) (hct : P.cellsOf t = n)
    (h : Lib.VarReads P W name (Lib.tabData k zs)) : Lib.TabIs P W name k zs := by
  obtain ⟨g', t', cs, fuel, p, hg', ht', hvar, hd⟩ := h
  obtain rfl := Option.some.inj (hg.symm.trans hg')
  obtain rfl := Option.some.inj (hty.symm.trans ht')
  unfold Lib.TabIs
  rw [hvar, ← Lib.cells_of_tab ht he hce hct hd]
def ks : List Int := [1116352408, 1899447441, 3049323471, 3921009573, 961987163, 1508970993, 2453635748, 2870763221, 3624381080, 310598401, 607225278, 1426881987, 1925078388, 2162078206, 2614888103, 3248222580, 3835390401, 4022224774, 264347078, 604807628, 770255983, 1249150122, 1555081692, 1996064986, 2554220882, 2821834349, 2952996808, 3210313671, 3336571891, 3584528711, 113926993, 338241895, 666307205, 773529912, 1294757372, 1396182291, 1695183700, 1986661051, 2177026350, 2456956037, 2730485921, 2820302411, 3259730800, 3345764771, 3516065817, 3600352804, 4094571909, 275423344, 430227734, 506948616, 659060556, 883997877, 958139571, 1322822218, 1537002063, 1747873779, 1955562222, 2024104815, 2227730452, 2361852424, 2428436474, 2756734187, 3204031479, 3329325298]
theorem ks_eq : (ks.map fun z => Value.int .u32 z) = kT.map wv := by rfl
theorem kAt {W : World} (h0 : laidMetH Tryd.prog [("cashbook/hash.k", Rows.laid_cashbook_hash_k)] W) : KAt W := by
  have h : laidMet Tryd.prog [("cashbook/hash.k", Rows.laid_cashbook_hash_k)] W := h0
  have hb : Lib.TabIs Tryd.prog W "cashbook/hash.k" .u32 ks := tab_of gTab gTabType undT undU cellsU cellsT (Lib.laidMet.reads h (.head _))
  unfold Lib.TabIs World.var? at hb
  simp only [gTab, Option.bind_some] at hb
  rw [ks_eq] at hb
  unfold KAt
  cases hq : W.heap[0]? with
  | none => rw [hq] at hb; cases hb
  | some o =>
    rw [hq] at hb
    cases o with
    | cells cs t fr =>
      obtain rfl := Option.some.inj hb
      exact ⟨t, fr, rfl⟩
    | _ => cases hb
/-- A world for the witnesses: the settled one, the table holding what its initialiser lays. -/
noncomputable def laidWorld (os : Os) : World :=
  { World.holding Tryd.prog os ⟨#[], #[], []⟩ with heap := (World.holding Tryd.prog os ⟨#[], #[], []⟩).heap.modify 0 fun
      | .cells _ t frozen => .cells #[.int .u32 1116352408, .int .u32 1899447441, .int .u32 3049323471, .int .u32 3921009573, .int .u32 961987163, .int .u32 1508970993, .int .u32 2453635748, .int .u32 2870763221, .int .u32 3624381080, .int .u32 310598401, .int .u32 607225278, .int .u32 1426881987, .int .u32 1925078388, .int .u32 2162078206, .int .u32 2614888103, .int .u32 3248222580, .int .u32 3835390401, .int .u32 4022224774, .int .u32 264347078, .int .u32 604807628, .int .u32 770255983, .int .u32 1249150122, .int .u32 1555081692, .int .u32 1996064986, .int .u32 2554220882, .int .u32 2821834349, .int .u32 2952996808, .int .u32 3210313671, .int .u32 3336571891, .int .u32 3584528711, .int .u32 113926993, .int .u32 338241895, .int .u32 666307205, .int .u32 773529912, .int .u32 1294757372, .int .u32 1396182291, .int .u32 1695183700, .int .u32 1986661051, .int .u32 2177026350, .int .u32 2456956037, .int .u32 2730485921, .int .u32 2820302411, .int .u32 3259730800, .int .u32 3345764771, .int .u32 3516065817, .int .u32 3600352804, .int .u32 4094571909, .int .u32 275423344, .int .u32 430227734, .int .u32 506948616, .int .u32 659060556, .int .u32 883997877, .int .u32 958139571, .int .u32 1322822218, .int .u32 1537002063, .int .u32 1747873779, .int .u32 1955562222, .int .u32 2024104815, .int .u32 2227730452, .int .u32 2361852424, .int .u32 2428436474, .int .u32 2756734187, .int .u32 3204031479, .int .u32 3329325298] t frozen
      | o => o }
end Go.Proofs.YtldpnmebjnkjeaaDoor.ShaCard
namespace Go.Proofs.YtldpnmebjnkjeaaDoor.Op
open Go.RowKit Go.Proofs.YtldpnmebjnkjeaaDoorW.PrintWords Go.ChangeShapes
set_option linter.unusedVariables false
set_option linter.unusedSimpArgs false
set_option linter.unusedSectionVars false

def Opens {α : Type} (P : Program) (t : TypeId) (d : Kd α) (I : α → Prop) : Prop :=
  ∀ {H : Type} (enc : TypeId × Value → H) (w : World) (base : Nat) (spare : Nat → Bool) (held : Bool) (fuel : Nat) (cs : List Value) (x : DataW H × List MemPlace), DataW.trod enc P w base spare held fuel t cs = some x → ∃ a, d.K w a cs ∧ I a

variable {α β : Type} {P : Program} {t : TypeId}

theorem opens_int {k : IntKind} (ht : P.underlying t = some (.int k)) : Opens P t (Kd.int k) (fun x => (Lit.int k x).wf = true) := by
  intro H enc w base spare held fuel cs x h
  cases fuel with
  | zero => simp [DataW.trod] at h
  | succ n =>
    unfold DataW.trod at h
    rw [ht] at h
    split at h <;> simp_all
    rename_i k' n _
    obtain ⟨⟨rfl, hw⟩, _⟩ := h
    exact ⟨n, rfl, hw⟩
theorem opens_string (ht : P.underlying t = some .string) : Opens P t Kd.string (fun s => s.size ≤ maxLen) := by
  intro H enc w base spare held fuel cs x h
  cases fuel with
  | zero => simp [DataW.trod] at h
  | succ n =>
    unfold DataW.trod at h
    rw [ht] at h
    split at h <;> simp_all
    exact ⟨_, rfl, h.1⟩
theorem cells_of {w : World} {base : Nat} {a : Addr} {n : Nat} {cs : List Value} (h : w.cells? base a n = some cs) : cs.length = n ∧ ∀ i u, cs[i]? = some u → w.cell? (a.add i) = some u := by
  obtain ⟨_, hl, hat⟩ := World.cells?_some h
  refine ⟨hl, fun i u hu => ?_⟩
  have hi : i < n := by
    have := (List.getElem?_eq_some_iff.1 hu).1; omega
  rw [hat i hi]; exact hu
theorem opens_slice {e : TypeId} {d : Kd α} {I : α → Prop} (ht : P.underlying t = some (.slice e)) (o : Opens P e d I) (hc : P.cellsOf e = d.sz) :
    Opens P t (Kd.slice e d) (fun l => l.length ≤ maxLen ∧ ∀ x ∈ l, I x) := by
  intro H enc w base spare held fuel cs x h
  rcases DataW.trod_slice ht h with ⟨rfl, _⟩ | ⟨a, len, cap, elems, rest, n, _, rfl, _, _, hl, hm, hlen, hel, hsp⟩
  · exact ⟨[], ⟨none, 0, rfl, Nat.le_refl _, rfl, Nat.zero_le _, fun h => absurd h (by simp)⟩, Nat.zero_le _, fun _ h => by cases h⟩
  · have hall : ∀ i, i < len → ∃ (y : α) (c : List Value), c.length = d.sz ∧ d.K w y c ∧ I y ∧ ∀ j u, c[j]? = some u → w.cell? (a.add (i * d.sz + j)) = some u := by
      intro i hi
      have h1 := hel i hi
      have h2 : elems[i]? = some (elems[i]'(by omega)) := List.getElem?_eq_getElem (by omega)
      rw [h2] at h1
      obtain ⟨c, hcs, htr⟩ := Option.bind_eq_some_iff.1 h1
      obtain ⟨y, hK, hI⟩ := o enc w base spare held n c _ htr
      rw [hc] at hcs
      obtain ⟨hcl, hat⟩ := cells_of hcs
      refine ⟨y, c, hcl, hK, hI, fun j u hu => ?_⟩
      have := hat j u hu
      rw [← this]
      congr 1
      unfold Addr.add
      by_cases h0 : i * d.sz = 0 <;> by_cases h1 : j = 0 <;> simp [h0, h1]
      all_goals try omega
      all_goals (intro h2; omega)
    have hex : ∃ l : List α, l.length = len ∧ ∀ i y, l[i]? = some y → ∃ c : List Value, c.length = d.sz ∧ d.K w y c ∧ I y ∧ ∀ j u, c[j]? = some u → w.cell? (a.add (i * d.sz + j)) = some u := by
      clear hel hlen h hl hm hsp
      induction len with
      | zero => exact ⟨[], rfl, fun i y h => by simp at h⟩
      | succ m ih =>
        obtain ⟨l, hl, hy⟩ := ih (fun i hi => hall i (by omega))
        obtain ⟨y, c, h1, h2, h3, h4⟩ := hall m (by omega)
        refine ⟨l ++ [y], by simp [hl], fun i z hz => ?_⟩
        by_cases hi : i < l.length
        · rw [List.getElem?_append_left hi] at hz; exact hy i z hz
        · have : i = m := by
            have := (List.getElem?_eq_some_iff.1 hz).1; simp at this; omega
          subst this
          rw [List.getElem?_append_right (by omega)] at hz
          simp [hl] at hz
          subst hz
          exact ⟨c, h1, h2, h3, h4⟩
    obtain ⟨l, hl', hy⟩ := hex
    subst hl'
    refine ⟨l, ⟨some a, cap, rfl, hl, rfl, ?_, fun _ => ⟨a, rfl, fun j p hp => ?_⟩⟩, ?_, fun x hx => ?_⟩
    · unfold maxLen at hm; omega
    · obtain ⟨c, h1, h2, _, h4⟩ := hy j p hp
      exact ⟨c, h1, h2, h4⟩
    · omega
    · obtain ⟨i, hi⟩ := List.mem_iff_getElem?.1 hx
      obtain ⟨c, _, _, h3, _⟩ := hy i x hi
      exact h3

theorem opens_arr {e n : Nat} {d : Kd α} {I : α → Prop} (ht : P.underlying t = some (.array n e)) (o : Opens P e d I) (hc : P.cellsOf e = d.sz) (hct : P.cellsOf t = n * d.sz) (hs : 0 < d.sz) :
    Opens P t (Kd.arr n d hs) (fun l => ∀ x ∈ l, I x) := by
  intro H enc w base spare held fuel cs x h
  obtain ⟨xs, m, _, _, hlen, hxl, hf⟩ := DataW.trod_array ht h
  have hall : ∀ i, i < n → ∃ y, d.K w y ((cs.drop (i * d.sz)).take d.sz) ∧ I y := by
    intro i hi
    have h1 := hf i hi
    rw [List.getElem?_eq_getElem (by omega), hc] at h1
    exact o enc w base spare held m _ _ h1
  have hex : ∀ k, k ≤ n → ∃ l : List α, l.length = k ∧ ∀ (i : Nat) (y : α), l[i]? = some y → d.K w y ((cs.drop (i * d.sz)).take d.sz) ∧ I y := by
    intro k
    induction k with
    | zero => intro _; exact ⟨[], rfl, fun i y h => by simp at h⟩
    | succ k ih =>
      intro hk
      obtain ⟨l, hl, hy⟩ := ih (by omega)
      obtain ⟨y, h1, h2⟩ := hall k (by omega)
      refine ⟨l ++ [y], by simp [hl], fun i z hz => ?_⟩
      by_cases hi : i < l.length
      · rw [List.getElem?_append_left hi] at hz; exact hy i z hz
      · have : i = k := by
          have := (List.getElem?_eq_some_iff.1 hz).1; simp at this; omega
        subst this
        rw [List.getElem?_append_right (by omega)] at hz
        simp [hl] at hz
        subst hz
        exact ⟨h1, h2⟩
  obtain ⟨l, hl, hy⟩ := hex n (Nat.le_refl _)
  refine ⟨l, ⟨hl, by rw [hlen, hct, hl], fun j p hp => (hy j p hp).1⟩, fun x hx => ?_⟩
  obtain ⟨i, hi⟩ := List.mem_iff_getElem?.1 hx
  exact (hy i x hi).2
end Go.Proofs.YtldpnmebjnkjeaaDoor.Op
namespace Go.Proofs.YtldpnmebjnkjeaaDoor.ShaOpen
open Go.RowKit Go.Proofs.YtldpnmebjnkjeaaDoorW.PrintWords Go.ChangeShapes Go.WideShapes
set_option linter.unusedVariables false
set_option linter.unusedSimpArgs false

theorem okWide_arr {P : Program} {w : World} {r : Reach} {base : Nat} {t e : TypeId} {n : Nat} {v : Value} (ht : P.underlying t = some (.array n e)) (h : Value.okWide P w r base t v) : ∃ cs, v = .agg cs ∧ cs.size = P.cellsOf t := by
  simp only [Value.okWide, ht] at h
  obtain ⟨cs, h1, h2, _⟩ := h
  exact ⟨cs, h1, h2⟩
theorem und : Tryd.prog.underlying 24 = some (.array 32 5) := by kernel_rfl
set_option maxRecDepth 100000 in
theorem opens_dig : Op.Opens Tryd.prog 24 (Kd.arr 32 (Kd.int .u8) (by decide)) (fun l => ∀ x ∈ l, (Lit.int .u8 x).wf = true) :=
  Op.opens_arr und (Op.opens_int Tryd.underlying5) (by kernel_rfl) (by kernel_rfl) (by decide)
end Go.Proofs.YtldpnmebjnkjeaaDoor.ShaOpen
namespace Go.Proofs.YtldpnmebjnkjeaaDoor.Ref10
open Go.RowKit Go.Proofs.YtldpnmebjnkjeaaDoorW.PrintWords Go.Proofs.YtldpnmebjnkjeaaDoor.PH1 Go.Proofs.YtldpnmebjnkjeaaDoor Go.Proofs.YtldpnmebjnkjeaaDoorW.PrintLast Go.Proofs.YtldpnmebjnkjeaaDoorW.PrintMore
open Go.Proofs.YtldpnmebjnkjeaaDoor.Sha (V8 wv RowU RowX takeP feedP tailL tailL_len digL digL_len sumL sumL_len endP endP_len z32_len hashV fedV)
set_option linter.unusedVariables false
set_option linter.unusedSimpArgs false

set_option maxHeartbeats 4000000 in
set_option maxRecDepth 100000 in
theorem rsum_calls (s : ByteArray) (hs : s.size ≤ 1048576) (w : World) :
    Calls Tryd.prog 24 #[.string s] w fun e w' => e = .returned (.agg (Lib.byteCells (sumL s.data.toList)).toArray) ∧ Below w.heap.size w w' := by
  have hE : endP (feedP Sha.v0 s.data.toList).1 (feedP Sha.v0 s.data.toList).2 s.size = sumL s.data.toList := by
    unfold sumL; rw [Lib.size_eq]
  go_enter Tryd.func24, Tryd.ntmps24
  go_wp2_with fail
  generalize hw1 : w.alloc _ = w1
  have HR : Hid (w1.heap[w.heap.size]? = some (.cells (Lib.byteCells (List.replicate 32 0)).toArray 24 (0, 0))) := by
    rw [← hw1]; exact Lib.hid (heap_alloc_last _ _)
  have HB : Hid (Below w.heap.size w w1) := by
    rw [← hw1]; exact Lib.hid ((Below.refl _ _).alloc (Nat.le_refl _) _)
  clear hw1
  refine (rmake_calls w1).mono ?_
  rintro e w2 ⟨ak, c, rfl, hk, hb⟩
  replace HR := Lib.hid (blk_below HR.out hb)
  replace HB := Lib.hid (HB.out.trans (hb.mono HB.out.size))
  have hk2 := Shut.mk hk
  clear hb hk
  go_wp2_with fail
  refine (rof_calls ak c Sha.v0 s hs w2 hk2.out).mono ?_
  rintro e w3 ⟨rfl, hb⟩
  rw [hE]
  replace HR := Lib.hid (blk_below HR.out hb)
  replace HB := Lib.hid (HB.out.trans (hb.mono HB.out.size))
  have hl := Lib.hid (sumL_len s.data.toList)
  clear hb hE
  generalize hD : sumL s.data.toList = D at hl ⊢
  replace hD := Lib.hid hD
  go_wp2_with (refine wpList_store_dig rfl (.tmp 2) (.tmp 5) rfl w.heap.size rfl D hl.out rfl _ _ HR.out (by rw [List.size_toArray, Lib.byteCells, List.length_map, z32_len]) ?_; intro w9 h9 _ hB9)
  refine bodyPost_ret (v := .agg (Lib.byteCells D).toArray) ?_ rfl ⟨by rw [hD.out], hB9 HB.out (by omega)⟩
  simp [results, Tryd.results24, asAddr, run_load_dig h9.out hl.out, Act.put]
def HA (v : V8) (rest : ByteArray) (n : Int) : Array Value := (v.list.map wv ++ [Value.string rest, Value.int .i64 n]).toArray
def HAt (b : Nat) (v : V8) (rest : ByteArray) (n : Int) (w : World) : Prop := w.heap[b]? = some (.cells (HA v rest n) 31 (0, 0))
namespace HAt
variable {b : Nat} {v : V8} {rest : ByteArray} {n : Int} {w w1 : World}
theorem below (h : HAt b v rest n w) (hb : Below w.heap.size w w1) : HAt b v rest n w1 := blk_below h hb
theorem range (h : HAt b v rest n w) : w.rangeAt b 0 (v.list.map wv) := RowX.range (t := 31) (R := [.string rest, .int .i64 n]) h
end HAt
end Go.Proofs.YtldpnmebjnkjeaaDoor.Ref10
namespace Go.Proofs.YtldpnmebjnkjeaaDoor.TreeOpen
open Go.RowKit Go.Proofs.YtldpnmebjnkjeaaDoorW.PrintWords Go.ChangeShapes Go.WideShapes
open Go.Proofs.YtldpnmebjnkjeaaDoor.TrW
set_option linter.unusedVariables false
set_option linter.unusedSimpArgs false

theorem opens_strs : Op.Opens Tryd.prog 53 (Kd.slice 9 Kd.string) (fun l => l.length ≤ maxLen ∧ ∀ x ∈ l, x.size ≤ maxLen) :=
  Op.opens_slice Tryd.underlying53 (Op.opens_string Tryd.underlying9) (by kernel_rfl)
theorem opens_dig : Op.Opens Tryd.prog 24 kDig (fun x => x.length = 32) := by
  intro H enc w base spare held fuel cs x h
  obtain ⟨xs, hK, hI⟩ := Op.opens_arr (P := Tryd.prog) (t := 24) (e := 5) (n := 32) (d := Kd.int .u8) (show Tryd.prog.underlying 24 = some (.array 32 5) by kernel_rfl) (Op.opens_int (show Tryd.prog.underlying 5 = some (.int .u8) by kernel_rfl)) (by kernel_rfl) (by kernel_rfl) (by decide) enc w base spare held fuel cs x h
  have e : (xs.map fun z => UInt8.ofNat z.toNat).map (fun b => (b.toNat : Int)) = xs := by
    rw [List.map_map]
    refine (List.map_congr_left (g := fun z => z) fun z hz => ?_).trans (List.map_id' xs)
    have hw2 : IntKind.u8.min ≤ z ∧ z ≤ IntKind.u8.max := by simpa [Lit.wf] using hI z hz
    have hw3 : (0 : Int) ≤ z ∧ z ≤ 255 := hw2
    show ((UInt8.ofNat z.toNat).toNat : Int) = z
    rw [UInt8.toNat_ofNat']
    omega
  refine ⟨xs.map fun z => UInt8.ofNat z.toNat, ?_, ?_⟩
  · show (Kd.arr 32 (Kd.int .u8) (by decide)).K w ((xs.map fun z => UInt8.ofNat z.toNat).map (fun b => (b.toNat : Int))) cs
    rw [e]
    exact hK
  · obtain ⟨hl, _⟩ := Kd.arr_cells (hs := by decide) hK
    rw [List.length_map, hl]
end Go.Proofs.YtldpnmebjnkjeaaDoor.TreeOpen
namespace Go.Proofs.YtldpnmebjnkjeaaDoor.TreeOpen
open Go.RowKit Go.Proofs.YtldpnmebjnkjeaaDoorW.PrintWords Go.ChangeShapes Go.WideShapes
open Go.Proofs.YtldpnmebjnkjeaaDoor.TrW
set_option linter.unusedVariables false
set_option linter.unusedSimpArgs false

theorem und2 : Tryd.prog.underlying 54 = some (.array 2 24) := by kernel_rfl
set_option maxRecDepth 100000 in
theorem opens_dig2 : Op.Opens Tryd.prog 54 (Kd.arr 2 kDig (by decide)) (fun l => ∀ x ∈ l, x.length = 32) :=
  Op.opens_arr und2 opens_dig (by kernel_rfl) (by kernel_rfl) (by decide)
set_option maxRecDepth 100000 in
theorem open_dig2 {W : World} {r : Reach} {base : Nat} {v : Value} (hv : Value.okWide Tryd.prog W r base 54 v) {H : Type} {enc : TypeId × Value → H} {b0 : Nat} {spare : Nat → Bool} {held : Bool} {fuel : Nat} {x : DataW H × List MemPlace}
    (h : DataW.trod enc Tryd.prog W b0 spare held fuel 54 v.cells.toList = some x) : ∃ a b : List UInt8, a.length = 32 ∧ b.length = 32 ∧ v = .agg (Lib.byteCells a ++ Lib.byteCells b).toArray := by
  obtain ⟨cs, rfl, hcs⟩ := ShaOpen.okWide_arr und2 hv
  obtain ⟨xs, hK, hI⟩ := opens_dig2 enc W b0 spare held fuel _ x h
  obtain ⟨hl, hr⟩ := hK
  have e : (Value.agg cs).cells.toList = cs.toList := rfl
  rw [e] at hr
  obtain ⟨hcl, hat⟩ := hr
  match xs, hl with
  | [a, b], _ =>
    have h0 := (kDig_K (hat 0 a rfl)).2
    have h1 := (kDig_K (hat 1 b rfl)).2
    refine ⟨a, b, hI a (by simp), hI b (by simp), ?_⟩
    congr 1
    apply Array.toList_inj.1
    rw [kDig_sz] at h0 h1 hcl
    rw [Nat.zero_mul, List.drop_zero] at h0
    rw [Nat.one_mul] at h1
    have h2 : (cs.toList.drop 32).take 32 = cs.toList.drop 32 := List.take_of_length_le (by rw [List.length_drop, hcl]; simp)
    rw [h2] at h1
    rw [← h0, ← h1, List.take_append_drop]
end Go.Proofs.YtldpnmebjnkjeaaDoor.TreeOpen
namespace Go.Proofs.YtldpnmebjnkjeaaDoor.treeTells
open Go.ChangeShapes Go.WideShapes Go.ChangeAt Go.RowKit Go.Proofs.YtldpnmebjnkjeaaDoorW.PrintWords Go.Proofs.YtldpnmebjnkjeaaDoor.Sha
open Go.ChangeMaps (open_string shut_string)
set_option linter.unusedVariables false
set_option linter.unusedSimpArgs false
theorem own : ownKnob Tryd.prog.godebug = none := by kernel_rfl
theorem laidOut : laidOutB Tryd.prog = true := by kernel_rfl
set_option maxRecDepth 100000 in
set_option maxHeartbeats 1000000 in
theorem contract (H : Type) (enc : TypeId × Value → H) (W : World) (base : Nat) (args : Array Value) (ds gs : List (DataW H)) (before : List MemPlace)
    (hval : ∀ (j : Nat) t v, Tryd.f8.params[j]? = some t → args[j]? = some v → Value.okWide Tryd.prog W .any base t v)
    (hW : DataW.Whole enc Tryd.prog Tryd.f8.params.toList Rows.treeTellsSpec.vars false W args.toList ds gs before) (hL : laidMetH Tryd.prog Rows.treeTellsRow.laid W) :
    Calls Tryd.prog 8 args W fun e W' => ∃ v, e = .returned v ∧ Rows.treeTellsSpec.post enc Tryd.prog Tryd.f8 false true false false W args v W' := by
  have hW' := hW
  obtain ⟨p, q, hA0, hV, rfl, hfz, hnd⟩ := hW
  have hA : DataW.TrodAll enc Tryd.prog W 0 (fun _ => true) true Tryd.f8.params.toList args.toList ds p := hA0
  rw [Tryd.params8] at hA hval
  obtain ⟨v0, vs0, d0, ds0, p0, q0, hargs, rfl, rfl, h0, r0⟩ := trodAll_cons hA
  obtain ⟨v1, vs1, d1, ds1, p1, q1, rfl, rfl, rfl, h1, r1⟩ := trodAll_cons r0
  obtain ⟨v2, vs2, d2, ds2, p2, q2, rfl, rfl, rfl, h2, r2⟩ := trodAll_cons r1
  obtain ⟨rfl, rfl, rfl⟩ := trodAll_nil r2
  obtain rfl : args = #[v0, v1, v2] := by cases args; simp_all
  obtain ⟨rfl, rfl⟩ := trodVars_none hV
  obtain ⟨a0, len0, cap0, rfl⟩ := okWide_slice Tryd.underlying53 (hval 0 53 v0 rfl rfl)
  have k0 := h0
  have lt0 : ∀ x ∈ p0, x.block < W.heap.size := by obtain ⟨m, hm⟩ := k0; exact DataW.trod_lt m _ _ _ hm
  obtain ⟨fuel0, hf0⟩ := h0
  obtain ⟨l0, ⟨A0, c0, hcs0, hc0, hC0⟩, hI0⟩ := TreeOpen.opens_strs enc W 0 _ _ fuel0 _ _ hf0
  simp [Value.cells] at hcs0
  obtain ⟨rfl, rfl, rfl⟩ := hcs0
  obtain ⟨a1, rfl, rfl, rfl, w1⟩ := open_int Tryd.underlying3 (hval 1 3 v1 rfl rfl) h1
  have k2 := h2
  have lt2 : ∀ x ∈ p2, x.block < W.heap.size := by obtain ⟨m, hm⟩ := k2; exact DataW.trod_lt m _ _ _ hm
  obtain ⟨fuel2, hf2⟩ := h2
  obtain ⟨x2, y2, hx2, hy2, rfl⟩ := TreeOpen.open_dig2 (hval 2 54 v2 rfl rfl) hf2
  have hT := ShaCard.kAt hL
  have hi0 : IntKind.i64.min ≤ a1 ∧ a1 ≤ IntKind.i64.max := by simpa [Lit.wf] using w1
  have hi1 : (-9223372036854775808 : Int) ≤ a1 ∧ a1 ≤ 9223372036854775807 := hi0
  refine (TrW.tells_law a0 cap0 l0 a1 hi1.1 hi1.2 x2 y2 hx2 hy2 W hC0 hc0 hT).mono fun e W' ⟨he, bel⟩ => ?_
  subst he
  exact ⟨_, rfl, _, _, _, [], _, [], hW', trodAll_mk1 (shut_bool Tryd.underlying4 _), (trodAll_cons_mk (Below.trod laidOut (by kernel_rfl) (of_decide_eq_true (by kernel_rfl)) k0 bel lt0) (trodAll_cons_mk (shut_int Tryd.underlying3 w1) (trodAll_cons_mk (Below.trod laidOut (by kernel_rfl) (of_decide_eq_true (by kernel_rfl)) k2 bel lt2) trodAll_mk0))), rfl, bel.frame _, fun h => by cases h⟩
noncomputable def laidWorld (os : Os) : World := ShaCard.laidWorld os
def wit : Array Value := #[.slice none 0 0, .int .i64 0, .agg #[.int .u8 0, .int .u8 0, .int .u8 0, .int .u8 0, .int .u8 0, .int .u8 0, .int .u8 0, .int .u8 0, .int .u8 0, .int .u8 0, .int .u8 0, .int .u8 0, .int .u8 0, .int .u8 0, .int .u8 0, .int .u8 0, .int .u8 0, .int .u8 0, .int .u8 0, .int .u8 0, .int .u8 0, .int .u8 0, .int .u8 0, .int .u8 0, .int .u8 0, .int .u8 0, .int .u8 0, .int .u8 0, .int .u8 0, .int .u8 0, .int .u8 0, .int .u8 0, .int .u8 0, .int .u8 0, .int .u8 0, .int .u8 0, .int .u8 0, .int .u8 0, .int .u8 0, .int .u8 0, .int .u8 0, .int .u8 0, .int .u8 0, .int .u8 0, .int .u8 0, .int .u8 0, .int .u8 0, .int .u8 0, .int .u8 0, .int .u8 0, .int .u8 0, .int .u8 0, .int .u8 0, .int .u8 0, .int .u8 0, .int .u8 0, .int .u8 0, .int .u8 0, .int .u8 0, .int .u8 0, .int .u8 0, .int .u8 0, .int .u8 0, .int .u8 0]]
theorem laid_met (os : Os) : laidMet Tryd.prog Rows.treeTellsRow.laid ((laidWorld os).forCall (fun _ _ => 0) ⟨#[], wit, []⟩).memory :=
  laidMet_of_run' 8 (by kernel_rfl) (by kernel_rfl)
theorem reads (os : Os) {H : Type} (enc : TypeId × Value → H) : ∃ places, DataW.whole enc Tryd.prog ((laidWorld os).forCall (fun _ _ => 0) ⟨#[], wit, []⟩).memory Tryd.f8.params.toList Rows.treeTellsSpec.vars false wit.toList 8 = some ([.nil, .lit (.int .i64 0), .agg [.agg [.lit (.int .u8 0), .lit (.int .u8 0), .lit (.int .u8 0), .lit (.int .u8 0), .lit (.int .u8 0), .lit (.int .u8 0), .lit (.int .u8 0), .lit (.int .u8 0), .lit (.int .u8 0), .lit (.int .u8 0), .lit (.int .u8 0), .lit (.int .u8 0), .lit (.int .u8 0), .lit (.int .u8 0), .lit (.int .u8 0), .lit (.int .u8 0), .lit (.int .u8 0), .lit (.int .u8 0), .lit (.int .u8 0), .lit (.int .u8 0), .lit (.int .u8 0), .lit (.int .u8 0), .lit (.int .u8 0), .lit (.int .u8 0), .lit (.int .u8 0), .lit (.int .u8 0), .lit (.int .u8 0), .lit (.int .u8 0), .lit (.int .u8 0), .lit (.int .u8 0), .lit (.int .u8 0), .lit (.int .u8 0)], .agg [.lit (.int .u8 0), .lit (.int .u8 0), .lit (.int .u8 0), .lit (.int .u8 0), .lit (.int .u8 0), .lit (.int .u8 0), .lit (.int .u8 0), .lit (.int .u8 0), .lit (.int .u8 0), .lit (.int .u8 0), .lit (.int .u8 0), .lit (.int .u8 0), .lit (.int .u8 0), .lit (.int .u8 0), .lit (.int .u8 0), .lit (.int .u8 0), .lit (.int .u8 0), .lit (.int .u8 0), .lit (.int .u8 0), .lit (.int .u8 0), .lit (.int .u8 0), .lit (.int .u8 0), .lit (.int .u8 0), .lit (.int .u8 0), .lit (.int .u8 0), .lit (.int .u8 0), .lit (.int .u8 0), .lit (.int .u8 0), .lit (.int .u8 0), .lit (.int .u8 0), .lit (.int .u8 0), .lit (.int .u8 0)]]], [], places) :=
  ⟨[], by kernel_rfl⟩

set_option maxRecDepth 100000 in
theorem lifted (os : Os) (started : os.Started) (H : Type) (enc : TypeId × Value → H) (F : Stop.Interp) :
    ReturnsInHanded {} Tryd.checked os 8 .any ((OpenSpec.ofChange Rows.treeTellsSpec).preRow enc Tryd.prog Tryd.f8 Rows.treeTellsRow.domain false Rows.treeTellsRow.laid) (((OpenSpec.ofChange Rows.treeTellsSpec).at F).post enc Tryd.prog Tryd.f8 false true false false) := by
  obtain ⟨places, hx⟩ := reads os enc
  refine returnsInHanded_of_row (C := Tryd.checked) (s := OpenSpec.ofChange Rows.treeTellsSpec) own started (by kernel_rfl) Tryd.func8
    (witness_row_at (enc := enc) (C := Tryd.checked) false (laidWorld os) wit rfl (by kernel_rfl) (by kernel_rfl) (by kernel_rfl)
      (OpenSpec.preRow_of_cond 8 hx (by kernel_rfl) (fun k hk => by cases hk) (by kernel_rfl) (laid_met os))) ?_
  intro W base args ds gs before hval hW _ _ _ hL _ _
  exact contract H enc W base args ds gs before hval hW hL

theorem said : Rows.TreeTellsSaid :=
  OpenClaim.holds_of_cond 8 Tryd.f8 rfl rfl rfl rfl rfl rfl rfl ⟨rfl, rfl, rfl, rfl, rfl⟩ rfl rfl rfl rfl rfl (by kernel_rfl) Tryd.func8 (by kernel_rfl)
    (of_decide_eq_true (by kernel_rfl)) (by unfold Func.isWrapper; first | (rw [if_pos (by decide +kernel)]; kernel_rfl) | (rw [if_neg (by decide +kernel)]; exact ⟨rfl, rfl⟩))
    (fun os started H enc _ F => by rw [OpenClaim.pre_eq_preRow]; exact lifted os started H enc F)

theorem plain (f : FuncId) (fn : Func) (hf : Tryd.pinned.checked.prog.funcNamed "cashbook/cashbooklaw11.TreeTells" = some f) (hfn : Tryd.pinned.checked.prog.funcs[f]? = some fn) :
    false = Tryd.pinned.checked.prog.looks [] ∧ ∀ (j : Nat) t, fn.params[j]? = some t → Tryd.pinned.checked.prog.wantsStandIn t = false := by
  obtain rfl : f = 8 := Option.some.inj ((show Tryd.prog.funcNamed "cashbook/cashbooklaw11.TreeTells" = some 8 by kernel_rfl).symm.trans hf) |>.symm
  obtain rfl : fn = Tryd.f8 := (Option.some.inj (Tryd.func8.symm.trans hfn)).symm
  refine ⟨by kernel_rfl, fun j t ht => ?_⟩
  rw [Tryd.params8] at ht
  have hm := Array.mem_of_getElem? ht
  simp at hm
  rcases hm with rfl | rfl | rfl
  · exact (show Tryd.prog.wantsStandIn 53 = false by kernel_rfl)
  · exact (show Tryd.prog.wantsStandIn 3 = false by kernel_rfl)
  · exact (show Tryd.prog.wantsStandIn 54 = false by kernel_rfl)

/-- The card. -/
theorem card : Rows.TreeTellsCardSaid :=
  Claim7.holds_tied_plain_at .later [] _ _ _ _ said (fun _ h => by cases h) (by kernel_rfl) (fun _ h => by cases h) treeTells_row_tie rfl ⟨rfl, rfl⟩ (by kernel_rfl) rfl plain (by kernel_rfl)
end Go.Proofs.YtldpnmebjnkjeaaDoor.treeTells
namespace Go.Proofs.YtldpnmebjnkjeaaDoor
theorem treeTells_holds : Rows.TreeTellsCardSaid := treeTells.card
#print axioms treeTells_holds
end Go.Proofs.YtldpnmebjnkjeaaDoor
