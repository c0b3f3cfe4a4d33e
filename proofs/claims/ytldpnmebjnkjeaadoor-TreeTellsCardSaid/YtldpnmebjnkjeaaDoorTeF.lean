/-
  Lemmas for the last text of this claim, merged out of several texts.
-/
import Derived.Test.YtldpnmebjnkjeaaDoorTeE
namespace Go.Proofs.YtldpnmebjnkjeaaDoor.TrW
open Go.RowKit Go.Proofs.YtldpnmebjnkjeaaDoorW.PrintWords Go.Proofs.YtldpnmebjnkjeaaDoor.PH1 Go.Proofs.YtldpnmebjnkjeaaDoor Go.Proofs.YtldpnmebjnkjeaaDoorW.PrintLast Go.Proofs.YtldpnmebjnkjeaaDoorW.PrintMore
open Go.Proofs.YtldpnmebjnkjeaaDoor.Sha
open Go.Proofs.YtldpnmebjnkjeaaDoor.Ref10 (wp_store_dig wp_load_dig wpOp_wp range_row)
set_option linter.unusedVariables false
set_option linter.unusedSimpArgs false
def S2d (b : Nat) (x : List UInt8) (c : Nat) (y : List UInt8) (W : World) : Prop := DigAt b x W ∧ DigAt c y W
set_option maxHeartbeats 16000000 in
set_option maxRecDepth 100000 in
theorem alive_calls (w : World) (hK : KAt w) : Calls Tryd.prog 30 #[] w fun e w' => e = .returned (.bool true) ∧ Below w.heap.size w w' := by
  have kla := fun W hk => tleaf_calls ⟨#[97]⟩ (by decide) W hk
  have klb := fun W hk => tleaf_calls ⟨#[98]⟩ (by decide) W hk
  have klc := fun W hk => tleaf_calls ⟨#[99]⟩ (by decide) W hk
  have hla : la.length = 32 := sumL_len _
  have hlb : lb.length = 32 := sumL_len _
  have hlc : lc.length = 32 := sumL_len _
  have htw : (joinP la lb).length = 32 := sumL_len _
  have hrt : (joinP (joinP la lb) lc).length = 32 := sumL_len _
  have kjab := fun W hk => tjoin_calls la lb hla hlb W hk
  have kjr := fun W hk => tjoin_calls (joinP la lb) lc htw hlc W hk
  have kroot := fun (A : Option Addr) (c : Nat) (W : World) (h : Kd.C Kd.string W A 3 L3) hk => tRoot_ok A 3 L3 W h (Nat.le_refl _) wrong3 hk
  have kpath := fun (A : Option Addr) (c : Nat) (W : World) (h : Kd.C Kd.string W A 3 L3) hk => tPath_ok A 3 L3 1 W h (Nat.le_refl _) wrong3 (by decide) hk
  have kbrid := fun (A : Option Addr) (c : Nat) (W : World) (h : Kd.C Kd.string W A 3 L3) hk => tBridge_ok A 3 L3 2 W h (Nat.le_refl _) wrong3 (by decide) (by decide) hk
  have kpath3 := fun (A : Option Addr) (c : Nat) (W : World) (h : Kd.C Kd.string W A 3 L3) => tPath_arg A 3 L3 3 W h wrong3 (by decide)
  have kbrid0 := fun (A : Option Addr) (c : Nat) (W : World) (h : Kd.C Kd.string W A 3 L3) => tBridge_arg A 3 L3 0 W h wrong3 (by decide)
  have hpt := path_t
  have hpf := path_f
  have hbt := bridge_t
  have hbf := bridge_f
  rw [root3] at kroot
  rw [path3] at kpath
  rw [bridge3] at kbrid
  have hcp1 := fun (r : List UInt8) (hr : r.length = 32) (A : Option Addr) (c : Nat) (W : World) (hC : CD A [la, lc] W) (hc : 2 ≤ c) hk => tCheckPath_calls ⟨#[98]⟩ (by decide) 1 3 r hr [la, lc] A c W hC hc hk
  have hcp0 := fun (r : List UInt8) (hr : r.length = 32) (A : Option Addr) (c : Nat) (W : World) (hC : CD A [la, lc] W) (hc : 2 ≤ c) hk => tCheckPath_calls ⟨#[98]⟩ (by decide) 0 3 r hr [la, lc] A c W hC hc hk
  have hcb2 := fun (A : Option Addr) (c : Nat) (W : World) (hC : CD A [lc] W) (hc : 1 ≤ c) hk => tCheckBridge_calls 2 3 _ _ htw hrt [lc] A c W hC hc hk
  have hcb1 := fun (A : Option Addr) (c : Nat) (W : World) (hC : CD A [lc] W) (hc : 1 ≤ c) hk => tCheckBridge_calls 1 3 _ _ htw hrt [lc] A c W hC hc hk
  rw [hbt] at hcb2
  rw [hbf] at hcb1
  replace hcp1 := hcp1 _ hrt
  replace hcp0 := hcp0 _ hrt
  have e98 : (⟨#[98]⟩ : ByteArray).data.toList = [98] := rfl
  rw [e98, hpt] at hcp1
  rw [e98, hpf] at hcp0
  have hne := ab_ne
  rw [show leafP (⟨#[97]⟩ : ByteArray).data.toList = la from rfl] at kla
  rw [show leafP (⟨#[98]⟩ : ByteArray).data.toList = lb from rfl] at klb
  rw [show leafP (⟨#[99]⟩ : ByteArray).data.toList = lc from rfl] at klc
  clear hpt hpf hbt hbf e98
  generalize joinP (joinP la lb) lc = R at *
  generalize joinP la lb = T at *
  generalize la = ya at *
  generalize lb = yb at *
  generalize lc = yc at *
  have heq : ∀ W : World, (Op.equalIn 10000 24 (.agg (Lib.byteCells ya).toArray) (.agg (Lib.byteCells yb).toArray)).run Tryd.prog W = .ok false W := fun W => by
    rw [eq32 W ya yb hla hlb, decF hne]
  have heqr : ∀ W : World, (Op.equalIn 10000 24 (.agg (Lib.byteCells R).toArray) (.agg (Lib.byteCells R).toArray)).run Tryd.prog W = .ok true W := fun W => by
    rw [eq32 W R R hrt hrt, decT rfl]
  replace hla := Lib.hid hla
  replace hlb := Lib.hid hlb
  replace hlc := Lib.hid hlc
  replace htw := Lib.hid htw
  replace hrt := Lib.hid hrt
  replace hne := Lib.hid hne
  replace heq := Lib.hid heq
  replace heqr := Lib.hid heqr
  replace kla := Lib.hid kla
  replace klb := Lib.hid klb
  replace klc := Lib.hid klc
  replace kjab := Lib.hid kjab
  replace kjr := Lib.hid kjr
  replace kroot := Lib.hid kroot
  replace kpath := Lib.hid kpath
  replace kbrid := Lib.hid kbrid
  replace kpath3 := Lib.hid kpath3
  replace kbrid0 := Lib.hid kbrid0
  replace hcp1 := Lib.hid hcp1
  replace hcp0 := Lib.hid hcp0
  replace hcb2 := Lib.hid hcb2
  replace hcb1 := Lib.hid hcb1
  go_enter Tryd.func30, Tryd.ntmps30
  go_upto_region 2 with fail
  generalize hw1 : w.alloc _ = w1
  have HC : Hid (Kd.C Kd.string w1 (some ⟨w.heap.size, 0, none⟩) 3 L3) := by
    rw [← hw1]; exact Lib.hid (RS.lit L3 _ (Nat.le_refl _) (by decide) _ rfl)
  have HB : Hid (Below w.heap.size w w1) := by
    rw [← hw1]; exact Lib.hid ((Below.refl _ _).alloc (Nat.le_refl _) _)
  have HK : Hid (KAt w1) := Lib.hid (hK.below HB.out)
  clear hw1 hK
  obtain ⟨A1, hA1⟩ : ∃ A, A = some (⟨w.heap.size, 0, none⟩ : Addr) := ⟨_, rfl⟩
  rw [← hA1] at HC ⊢
  replace hA1 := Lib.hid hA1
  go_wp2_with fail
  refine (kroot.out A1 0 w1 HC.out HK.out).mono ?_
  rintro e w2 ⟨rfl, hb_⟩
  replace HC := Lib.hid (Kd.C_below HC.out hb_)
  replace HK := Lib.hid (HK.out.below hb_)
  replace HB := Lib.hid (HB.out.trans (Below.mono hb_ HB.out.size))
  clear hb_
  go_upto_region 3 with (guard_target = wpList _ _ _ (⟨none, _, _, _, _, _⟩ :: _) _ _; refine wpList_store_dig rfl (.tmp 2) (.tmp 21) rfl w2.heap.size rfl R hrt.out rfl _ _ (heap_alloc_last _ _) zrow ?_; intro w3 h3 _ hB3)
  have hb3 : Below w2.heap.size w2 w3 := hB3 ((Below.refl _ _).alloc (Nat.le_refl _) _) (Nat.le_refl _)
  have H2 : Hid (DigAt w2.heap.size R w3) := h3
  replace HC := Lib.hid (Kd.C_below HC.out hb3)
  replace HK := Lib.hid (HK.out.below hb3)
  replace HB := Lib.hid (HB.out.trans (Below.mono hb3 HB.out.size))
  clear hb3 hB3 h3
  generalize w2.heap.size = b2 at H2 ⊢
  go_wp2_with fail
  refine (kpath.out A1 0 w3 HC.out HK.out).mono ?_
  rintro e w4 ⟨v, rfl, hv, hb_⟩
  obtain ⟨A4, c4, rfl, hc4, H4⟩ := hv.reads
  replace H4 := Lib.hid H4
  replace hc4 := Lib.hid hc4
  replace HC := Lib.hid (Kd.C_below HC.out hb_)
  replace HK := Lib.hid (HK.out.below hb_)
  replace HB := Lib.hid (HB.out.trans (Below.mono hb_ HB.out.size))
  replace H2 := Lib.hid (DigAt.below H2.out hb_)
  clear hb_ hv
  go_wp2_with fail
  refine (kbrid.out A1 0 w4 HC.out HK.out).mono ?_
  rintro e w5 ⟨v, rfl, hv, hb_⟩
  obtain ⟨A6, c6, rfl, hc6, H6⟩ := hv.reads
  replace H6 := Lib.hid H6
  replace hc6 := Lib.hid hc6
  replace HC := Lib.hid (Kd.C_below HC.out hb_)
  replace HK := Lib.hid (HK.out.below hb_)
  replace HB := Lib.hid (HB.out.trans (Below.mono hb_ HB.out.size))
  replace H2 := Lib.hid (DigAt.below H2.out hb_)
  replace H4 := Lib.hid (CD.below H4.out hb_)
  clear hb_ hv
  go_wp2_with fail
  refine (kla.out w5 HK.out).mono ?_
  rintro e w6 ⟨rfl, hb_⟩
  replace HC := Lib.hid (Kd.C_below HC.out hb_)
  replace HK := Lib.hid (HK.out.below hb_)
  replace HB := Lib.hid (HB.out.trans (Below.mono hb_ HB.out.size))
  replace H2 := Lib.hid (DigAt.below H2.out hb_)
  replace H4 := Lib.hid (CD.below H4.out hb_)
  replace H6 := Lib.hid (CD.below H6.out hb_)
  clear hb_
  go_wp2_with fail
  refine (klb.out w6 HK.out).mono ?_
  rintro e w7 ⟨rfl, hb_⟩
  replace HC := Lib.hid (Kd.C_below HC.out hb_)
  replace HK := Lib.hid (HK.out.below hb_)
  replace HB := Lib.hid (HB.out.trans (Below.mono hb_ HB.out.size))
  replace H2 := Lib.hid (DigAt.below H2.out hb_)
  replace H4 := Lib.hid (CD.below H4.out hb_)
  replace H6 := Lib.hid (CD.below H6.out hb_)
  clear hb_
  go_wp2_with fail
  refine (kjab.out w7 HK.out).mono ?_
  rintro e w8 ⟨rfl, hb_⟩
  replace HC := Lib.hid (Kd.C_below HC.out hb_)
  replace HK := Lib.hid (HK.out.below hb_)
  replace HB := Lib.hid (HB.out.trans (Below.mono hb_ HB.out.size))
  replace H2 := Lib.hid (DigAt.below H2.out hb_)
  replace H4 := Lib.hid (CD.below H4.out hb_)
  replace H6 := Lib.hid (CD.below H6.out hb_)
  clear hb_
  go_upto_region 6 with (guard_target = wpList _ _ _ (⟨none, _, _, _, _, _⟩ :: _) _ _; refine wpList_store_dig rfl (.tmp 8) (.tmp 35) rfl w8.heap.size rfl T htw.out rfl _ _ (heap_alloc_last _ _) zrow ?_; intro w9 h9 _ hB9)
  have hb9 : Below w8.heap.size w8 w9 := hB9 ((Below.refl _ _).alloc (Nat.le_refl _) _) (Nat.le_refl _)
  have H8 : Hid (DigAt w8.heap.size T w9) := h9
  replace HC := Lib.hid (Kd.C_below HC.out hb9)
  replace HK := Lib.hid (HK.out.below hb9)
  replace HB := Lib.hid (HB.out.trans (Below.mono hb9 HB.out.size))
  replace H2 := Lib.hid (DigAt.below H2.out hb9)
  replace H4 := Lib.hid (CD.below H4.out hb9)
  replace H6 := Lib.hid (CD.below H6.out hb9)
  clear hb9 hB9 h9
  generalize w8.heap.size = b8 at H8 ⊢
  go_wp2_with fail
  refine (kpath3.out A1 0 w9 HC.out).mono ?_
  rintro e w10 ⟨rfl, hb_⟩
  replace HC := Lib.hid (Kd.C_below HC.out hb_)
  replace HK := Lib.hid (HK.out.below hb_)
  replace HB := Lib.hid (HB.out.trans (Below.mono hb_ HB.out.size))
  replace H2 := Lib.hid (DigAt.below H2.out hb_)
  replace H4 := Lib.hid (CD.below H4.out hb_)
  replace H6 := Lib.hid (CD.below H6.out hb_)
  replace H8 := Lib.hid (DigAt.below H8.out hb_)
  clear hb_
  go_wp2_with fail
  refine (kbrid0.out A1 0 w10 HC.out).mono ?_
  rintro e w11 ⟨rfl, hb_⟩
  replace HC := Lib.hid (Kd.C_below HC.out hb_)
  replace HK := Lib.hid (HK.out.below hb_)
  replace HB := Lib.hid (HB.out.trans (Below.mono hb_ HB.out.size))
  replace H2 := Lib.hid (DigAt.below H2.out hb_)
  replace H4 := Lib.hid (CD.below H4.out hb_)
  replace H6 := Lib.hid (CD.below H6.out hb_)
  replace H8 := Lib.hid (DigAt.below H8.out hb_)
  clear hb_
  go_wp2_with (guard_target = wpList _ _ _ (⟨some 47, _, _, _, _, _⟩ :: _) _ _; refine Kd.R_make Kd.string w.heap.size 9 rfl rfl 53 _ _ rfl 1025 rfl rfl und_strs (.string ⟨#[]⟩) 16 (by kernel_rfl) rfl (by decide) (by decide) ⟨#[]⟩ (ok := fun _ => True) (okp := fun _ => False) rfl (fun _ h => h.elim) trivial (by decide) (by decide) HB.out HB.out.size ?_; intro v12 w12 HR HB12 hg12 _)
  have hb12 : Below w11.heap.size w11 w12 := pw_below_grown (Below.refl _ _) none (Nat.le_refl _) hg12 (fun _ h => by cases h)
  replace HC := Lib.hid (Kd.C_below HC.out hb12)
  replace HK := Lib.hid (HK.out.below hb12)
  replace HB := Lib.hid (HB.out.trans (Below.mono hb12 HB.out.size))
  replace H2 := Lib.hid (DigAt.below H2.out hb12)
  replace H4 := Lib.hid (CD.below H4.out hb12)
  replace H6 := Lib.hid (CD.below H6.out hb12)
  replace H8 := Lib.hid (DigAt.below H8.out hb12)
  clear hb12 hg12 HB12
  obtain ⟨A12, c12, rfl, hc12, HC12⟩ := Kd.R_reads HR
  rw [show (1025 : Int).toNat = 1025 from rfl] at HC12 hc12 ⊢
  rw [List.length_replicate] at hc12 ⊢
  have kbad := tRoot_bad A12 c12 (List.replicate 1025 ⟨#[]⟩) w12 HC12 wrong1025
  rw [List.length_replicate] at kbad
  replace kbad := Lib.hid kbad
  clear HR HC12 hc12
  go_wp2_with fail
  refine (kbad.out).mono ?_
  rintro e w13 ⟨rfl, hb_⟩
  replace HC := Lib.hid (Kd.C_below HC.out hb_)
  replace HK := Lib.hid (HK.out.below hb_)
  replace HB := Lib.hid (HB.out.trans (Below.mono hb_ HB.out.size))
  replace H2 := Lib.hid (DigAt.below H2.out hb_)
  replace H4 := Lib.hid (CD.below H4.out hb_)
  replace H6 := Lib.hid (CD.below H6.out hb_)
  replace H8 := Lib.hid (DigAt.below H8.out hb_)
  clear hb_
  clear kbad
  go_upto_region 9 with (guard_target = wpList _ _ _ (⟨none, _, _, _, _, _⟩ :: _) _ _; refine wpList_store_dig rfl (.tmp 13) (.tmp 49) rfl w13.heap.size rfl (List.replicate 32 0) rfl rfl _ _ (heap_alloc_last _ _) zrow ?_; intro w14 h14 _ hB14)
  have hb14 : Below w13.heap.size w13 w14 := hB14 ((Below.refl _ _).alloc (Nat.le_refl _) _) (Nat.le_refl _)
  replace HC := Lib.hid (Kd.C_below HC.out hb14)
  replace HK := Lib.hid (HK.out.below hb14)
  replace HB := Lib.hid (HB.out.trans (Below.mono hb14 HB.out.size))
  replace H2 := Lib.hid (DigAt.below H2.out hb14)
  replace H4 := Lib.hid (CD.below H4.out hb14)
  replace H6 := Lib.hid (CD.below H6.out hb14)
  replace H8 := Lib.hid (DigAt.below H8.out hb14)
  clear hb14 hB14 h14
  generalize w13.heap.size = b13
  go_wp2_with fail
  refine (kla.out w14 HK.out).mono ?_
  rintro e w15 ⟨rfl, hb_⟩
  replace HC := Lib.hid (Kd.C_below HC.out hb_)
  replace HK := Lib.hid (HK.out.below hb_)
  replace HB := Lib.hid (HB.out.trans (Below.mono hb_ HB.out.size))
  replace H2 := Lib.hid (DigAt.below H2.out hb_)
  replace H4 := Lib.hid (CD.below H4.out hb_)
  replace H6 := Lib.hid (CD.below H6.out hb_)
  replace H8 := Lib.hid (DigAt.below H8.out hb_)
  clear hb_
  go_wp2_with fail
  refine (klc.out w15 HK.out).mono ?_
  rintro e w16 ⟨rfl, hb_⟩
  replace HC := Lib.hid (Kd.C_below HC.out hb_)
  replace HK := Lib.hid (HK.out.below hb_)
  replace HB := Lib.hid (HB.out.trans (Below.mono hb_ HB.out.size))
  replace H2 := Lib.hid (DigAt.below H2.out hb_)
  replace H4 := Lib.hid (CD.below H4.out hb_)
  replace H6 := Lib.hid (CD.below H6.out hb_)
  replace H8 := Lib.hid (DigAt.below H8.out hb_)
  clear hb_
  go_wp2_with (guard_target = wpList _ _ _ (⟨some 54, _, _, _, _, _⟩ :: _) _ _; refine wpList_buildSlice_dig2 rfl (.tmp 52) (.tmp 53) rfl ya yc hla.out hlc.out rfl rfl ?_)
  generalize hw17 : w16.alloc _ = w17
  have HR : RD w16.heap.size (.slice (some ⟨w16.heap.size, 0, none⟩) 2 2) [ya, yc] w17 := by
    rw [← hw17]; exact RD.two ya yc hla.out hlc.out _ (Nat.le_refl _)
  have hb17 : Below w16.heap.size w16 w17 := by rw [← hw17]; exact (Below.refl _ _).alloc (Nat.le_refl _) _
  replace HC := Lib.hid (Kd.C_below HC.out hb17)
  replace HK := Lib.hid (HK.out.below hb17)
  replace HB := Lib.hid (HB.out.trans (Below.mono hb17 HB.out.size))
  replace H2 := Lib.hid (DigAt.below H2.out hb17)
  replace H4 := Lib.hid (CD.below H4.out hb17)
  replace H6 := Lib.hid (CD.below H6.out hb17)
  replace H8 := Lib.hid (DigAt.below H8.out hb17)
  clear hw17 hb17
  obtain ⟨A17, c17, hv17, hc17, H17⟩ := HR.reads
  rw [hv17]
  clear hv17 HR
  have ksame := same_calls A4 A17 c4 c17 [ya, yc] [ya, yc] w17 H4.out H17
  rw [decT rfl] at ksame
  replace ksame := Lib.hid ksame
  clear H17 hc17
  refine (ksame.out).mono ?_
  rintro e w18 ⟨rfl, hb_⟩
  replace HC := Lib.hid (Kd.C_below HC.out hb_)
  replace HK := Lib.hid (HK.out.below hb_)
  replace HB := Lib.hid (HB.out.trans (Below.mono hb_ HB.out.size))
  replace H2 := Lib.hid (DigAt.below H2.out hb_)
  replace H4 := Lib.hid (CD.below H4.out hb_)
  replace H6 := Lib.hid (CD.below H6.out hb_)
  replace H8 := Lib.hid (DigAt.below H8.out hb_)
  clear hb_
  clear ksame
  go_wp2_with fail
  refine (klc.out w18 HK.out).mono ?_
  rintro e w19 ⟨rfl, hb_⟩
  replace HC := Lib.hid (Kd.C_below HC.out hb_)
  replace HK := Lib.hid (HK.out.below hb_)
  replace HB := Lib.hid (HB.out.trans (Below.mono hb_ HB.out.size))
  replace H2 := Lib.hid (DigAt.below H2.out hb_)
  replace H4 := Lib.hid (CD.below H4.out hb_)
  replace H6 := Lib.hid (CD.below H6.out hb_)
  replace H8 := Lib.hid (DigAt.below H8.out hb_)
  clear hb_
  go_wp2_with (guard_target = wpList _ _ _ (⟨some 58, _, _, _, _, _⟩ :: _) _ _; refine wpList_buildSlice_dig rfl (.tmp 57) rfl yc hlc.out rfl ?_)
  generalize hw20 : w19.alloc _ = w20
  have HR : RD w19.heap.size (.slice (some ⟨w19.heap.size, 0, none⟩) 1 1) [yc] w20 := by
    rw [← hw20]; exact RD.one yc hlc.out _ (Nat.le_refl _)
  have hb20 : Below w19.heap.size w19 w20 := by rw [← hw20]; exact (Below.refl _ _).alloc (Nat.le_refl _) _
  replace HC := Lib.hid (Kd.C_below HC.out hb20)
  replace HK := Lib.hid (HK.out.below hb20)
  replace HB := Lib.hid (HB.out.trans (Below.mono hb20 HB.out.size))
  replace H2 := Lib.hid (DigAt.below H2.out hb20)
  replace H4 := Lib.hid (CD.below H4.out hb20)
  replace H6 := Lib.hid (CD.below H6.out hb20)
  replace H8 := Lib.hid (DigAt.below H8.out hb20)
  clear hw20 hb20
  obtain ⟨A20, c20, hv20, hc20, H20⟩ := HR.reads
  rw [hv20]
  clear hv20 HR
  have ksame := same_calls A6 A20 c6 c20 [yc] [yc] w20 H6.out H20
  rw [decT rfl] at ksame
  replace ksame := Lib.hid ksame
  clear H20 hc20
  refine (ksame.out).mono ?_
  rintro e w21 ⟨rfl, hb_⟩
  replace HC := Lib.hid (Kd.C_below HC.out hb_)
  replace HK := Lib.hid (HK.out.below hb_)
  replace HB := Lib.hid (HB.out.trans (Below.mono hb_ HB.out.size))
  replace H2 := Lib.hid (DigAt.below H2.out hb_)
  replace H4 := Lib.hid (CD.below H4.out hb_)
  replace H6 := Lib.hid (CD.below H6.out hb_)
  replace H8 := Lib.hid (DigAt.below H8.out hb_)
  clear hb_
  clear ksame
  go_wp2_with fail
  refine wp_region_held (S := S2d b2 R b8 T) (by kernel_rfl) ?_
  change wpAnyH _ _ _ _ _ _ _ _ w21.drew
  replace HC : Hid (Kd.C Kd.string w21.drew A1 3 L3) := HC
  replace HK : Hid (KAt w21.drew) := HK
  replace HB := Lib.hid HB.out.drew
  replace H2 : Hid (DigAt b2 R w21.drew) := H2
  replace H8 : Hid (DigAt b8 T w21.drew) := H8
  replace H4 : Hid (CD A4 [ya, yc] w21.drew) := H4
  replace H6 : Hid (CD A6 [yc] w21.drew) := H6
  generalize w21.drew = x21 at HC HK HB H2 H8 H4 H6 ⊢
  have hS : S2d b2 R b8 T x21 := ⟨H2.out, H8.out⟩
  refine wpAnyH_take (i := 0) (v := ?_) rfl (by kernel_rfl) (by kernel_rfl) (by kernel_rfl) (fun _ _ _ h => h) (Or.inl ⟨by rfl, ?_⟩) hS ?_
  rotate_left
  · intro v _; go_simp; first | done | with_reducible rfl
  rotate_left
  simp only [List.getElem_toArray, List.getElem_cons_succ, List.getElem_cons_zero, Act.put, List.setIfInBounds_toArray, List.set_cons_zero, List.set_cons_succ]
  refine wpAnyH_take (i := 1) (v := ?_) rfl (by kernel_rfl) (by kernel_rfl) (by kernel_rfl) (fun _ _ _ h => h) (Or.inl ⟨by rfl, ?_⟩) hS ?_
  rotate_left
  · intro v _; go_simp; first | done | with_reducible rfl
  rotate_left
  simp only [List.getElem_toArray, List.getElem_cons_succ, List.getElem_cons_zero, Act.put, List.setIfInBounds_toArray, List.set_cons_zero, List.set_cons_succ]
  refine wpAnyH_take (i := 2) (v := ?_) rfl (by kernel_rfl) (by kernel_rfl) (by kernel_rfl) (fun _ _ _ h => h) (Or.inl ⟨by rfl, ?_⟩) hS ?_
  rotate_left
  · intro v _; go_simp; first | done | with_reducible rfl
  rotate_left
  simp only [List.getElem_toArray, List.getElem_cons_succ, List.getElem_cons_zero, Act.put, List.setIfInBounds_toArray, List.set_cons_zero, List.set_cons_succ]
  refine wpAnyH_take (i := 3) (v := _) rfl (by kernel_rfl) (by kernel_rfl) (by kernel_rfl) (fun _ _ _ h => h) (yieldsIf_digA (by rfl) (.tmp 2) rfl ⟨b2,0,none⟩ rfl R hrt.out (fun _ h => (DigAt.ad h.1))) hS ?_
  try simp only [List.getElem_toArray, List.getElem_cons_succ, List.getElem_cons_zero, Act.put, List.setIfInBounds_toArray, List.set_cons_zero, List.set_cons_succ]
  refine wpAnyH_take (i := 4) (v := _) rfl (by kernel_rfl) (by kernel_rfl) (by kernel_rfl) (fun _ _ _ h => h) (yieldsIf_digA (by rfl) (.tmp 8) rfl ⟨b8,0,none⟩ rfl T htw.out (fun _ h => (DigAt.ad h.2))) hS ?_
  try simp only [List.getElem_toArray, List.getElem_cons_succ, List.getElem_cons_zero, Act.put, List.setIfInBounds_toArray, List.set_cons_zero, List.set_cons_succ]
  refine wpAnyH_all (rs := [5]) (by kernel_rfl) (by simp) ?_
  intro i hi
  simp only [List.mem_cons, List.not_mem_nil, or_false] at hi
  subst hi
  refine wpOp_wp rfl (by rfl) ?_
  go_simp
  refine (klc.out x21 HK.out).mono ?_
  rintro e x22 ⟨rfl, hb_⟩
  replace HC := Lib.hid (Kd.C_below HC.out hb_)
  replace HK := Lib.hid (HK.out.below hb_)
  replace HB := Lib.hid (HB.out.trans (Below.mono hb_ HB.out.size))
  replace H2 := Lib.hid (DigAt.below H2.out hb_)
  replace H4 := Lib.hid (CD.below H4.out hb_)
  replace H6 := Lib.hid (CD.below H6.out hb_)
  replace H8 := Lib.hid (DigAt.below H8.out hb_)
  clear hb_ hS
  have hS : S2d b2 R b8 T x22 := ⟨H2.out, H8.out⟩
  refine ⟨hS, ?_⟩
  try simp only [List.getElem_toArray, List.getElem_cons_succ, List.getElem_cons_zero, Act.put, List.setIfInBounds_toArray, List.set_cons_zero, List.set_cons_succ]
  refine wpAnyH_all (rs := [6]) (by kernel_rfl) (by simp) ?_
  intro i hi
  simp only [List.mem_cons, List.not_mem_nil, or_false] at hi
  subst hi
  refine wpOp_wp rfl (by rfl) ?_
  go_simp
  refine (kjr.out x22 HK.out).mono ?_
  rintro e x23 ⟨rfl, hb_⟩
  replace HC := Lib.hid (Kd.C_below HC.out hb_)
  replace HK := Lib.hid (HK.out.below hb_)
  replace HB := Lib.hid (HB.out.trans (Below.mono hb_ HB.out.size))
  replace H2 := Lib.hid (DigAt.below H2.out hb_)
  replace H4 := Lib.hid (CD.below H4.out hb_)
  replace H6 := Lib.hid (CD.below H6.out hb_)
  replace H8 := Lib.hid (DigAt.below H8.out hb_)
  clear hb_ hS
  have hS : S2d b2 R b8 T x23 := ⟨H2.out, H8.out⟩
  refine ⟨hS, ?_⟩
  try simp only [List.getElem_toArray, List.getElem_cons_succ, List.getElem_cons_zero, Act.put, List.setIfInBounds_toArray, List.set_cons_zero, List.set_cons_succ]
  have heqR := heqr.out
  refine wpAnyH_take (i := 7) (v := ?_) rfl (by kernel_rfl) (by kernel_rfl) (by kernel_rfl) (fun _ _ _ h => h) (Or.inl ⟨by rfl, ?_⟩) hS ?_
  rotate_left
  · intro v _; go_simp; first | done | with_reducible rfl
  rotate_left
  simp only [List.getElem_toArray, List.getElem_cons_succ, List.getElem_cons_zero, Act.put, List.setIfInBounds_toArray, List.set_cons_zero, List.set_cons_succ]
  clear heqR
  refine wpAnyH_take (i := 8) (v := ?_) rfl (by kernel_rfl) (by kernel_rfl) (by kernel_rfl) (fun _ _ _ h => h) (Or.inl ⟨by rfl, ?_⟩) hS ?_
  rotate_left
  · intro v _; go_simp; first | done | with_reducible rfl
  rotate_left
  simp only [List.getElem_toArray, List.getElem_cons_succ, List.getElem_cons_zero, Act.put, List.setIfInBounds_toArray, List.set_cons_zero, List.set_cons_succ]
  refine wpAnyH_take (i := 9) (v := ?_) rfl (by kernel_rfl) (by kernel_rfl) (by kernel_rfl) (fun _ _ _ h => h) (Or.inl ⟨by rfl, ?_⟩) hS ?_
  rotate_left
  · intro v _; go_simp; first | done | with_reducible rfl
  rotate_left
  simp only [List.getElem_toArray, List.getElem_cons_succ, List.getElem_cons_zero, Act.put, List.setIfInBounds_toArray, List.set_cons_zero, List.set_cons_succ]
  refine wpAnyH_take (i := 10) (v := ?_) rfl (by kernel_rfl) (by kernel_rfl) (by kernel_rfl) (fun _ _ _ h => h) (Or.inl ⟨by rfl, ?_⟩) hS ?_
  rotate_left
  · intro v _; go_simp; first | done | with_reducible rfl
  rotate_left
  simp only [List.getElem_toArray, List.getElem_cons_succ, List.getElem_cons_zero, Act.put, List.setIfInBounds_toArray, List.set_cons_zero, List.set_cons_succ]
  refine wpAnyH_take (i := 11) (v := ?_) rfl (by kernel_rfl) (by kernel_rfl) (by kernel_rfl) (fun _ _ _ h => h) (Or.inl ⟨by rfl, ?_⟩) hS ?_
  rotate_left
  · intro v _; go_simp; first | done | with_reducible rfl
  rotate_left
  simp only [List.getElem_toArray, List.getElem_cons_succ, List.getElem_cons_zero, Act.put, List.setIfInBounds_toArray, List.set_cons_zero, List.set_cons_succ]
  refine wpAnyH_take (i := 12) (v := ?_) rfl (by kernel_rfl) (by kernel_rfl) (by kernel_rfl) (fun _ _ _ h => h) (Or.inl ⟨by rfl, ?_⟩) hS ?_
  rotate_left
  · intro v _; go_simp; first | done | with_reducible rfl
  rotate_left
  simp only [List.getElem_toArray, List.getElem_cons_succ, List.getElem_cons_zero, Act.put, List.setIfInBounds_toArray, List.set_cons_zero, List.set_cons_succ]
  refine wpAnyH_take (i := 13) (v := ?_) rfl (by kernel_rfl) (by kernel_rfl) (by kernel_rfl) (fun _ _ _ h => h) (Or.inl ⟨by rfl, ?_⟩) hS ?_
  rotate_left
  · intro v _; go_simp; first | done | with_reducible rfl
  rotate_left
  simp only [List.getElem_toArray, List.getElem_cons_succ, List.getElem_cons_zero, Act.put, List.setIfInBounds_toArray, List.set_cons_zero, List.set_cons_succ]
  refine wpAnyH_take (i := 14) (v := ?_) rfl (by kernel_rfl) (by kernel_rfl) (by kernel_rfl) (fun _ _ _ h => h) (Or.inl ⟨by rfl, ?_⟩) hS ?_
  rotate_left
  · intro v _; go_simp; first | done | with_reducible rfl
  rotate_left
  simp only [List.getElem_toArray, List.getElem_cons_succ, List.getElem_cons_zero, Act.put, List.setIfInBounds_toArray, List.set_cons_zero, List.set_cons_succ]
  refine wpAnyH_take (i := 15) (v := ?_) rfl (by kernel_rfl) (by kernel_rfl) (by kernel_rfl) (fun _ _ _ h => h) (Or.inl ⟨by rfl, ?_⟩) hS ?_
  rotate_left
  · intro v _; go_simp; first | done | with_reducible rfl
  rotate_left
  simp only [List.getElem_toArray, List.getElem_cons_succ, List.getElem_cons_zero, Act.put, List.setIfInBounds_toArray, List.set_cons_zero, List.set_cons_succ]
  refine wpAnyH_take (i := 16) (v := ?_) rfl (by kernel_rfl) (by kernel_rfl) (by kernel_rfl) (fun _ _ _ h => h) (Or.inl ⟨by rfl, ?_⟩) hS ?_
  rotate_left
  · intro v _; go_simp; first | done | with_reducible rfl
  rotate_left
  simp only [List.getElem_toArray, List.getElem_cons_succ, List.getElem_cons_zero, Act.put, List.setIfInBounds_toArray, List.set_cons_zero, List.set_cons_succ]
  refine wpAnyH_take (i := 17) (v := ?_) rfl (by kernel_rfl) (by kernel_rfl) (by kernel_rfl) (fun _ _ _ h => h) (Or.inl ⟨by rfl, ?_⟩) hS ?_
  rotate_left
  · intro v _; go_simp; first | done | with_reducible rfl
  rotate_left
  simp only [List.getElem_toArray, List.getElem_cons_succ, List.getElem_cons_zero, Act.put, List.setIfInBounds_toArray, List.set_cons_zero, List.set_cons_succ]
  refine wpAnyH_take (i := 18) (v := ?_) rfl (by kernel_rfl) (by kernel_rfl) (by kernel_rfl) (fun _ _ _ h => h) (Or.inl ⟨by rfl, ?_⟩) hS ?_
  rotate_left
  · intro v _; go_simp; first | done | with_reducible rfl
  rotate_left
  simp only [List.getElem_toArray, List.getElem_cons_succ, List.getElem_cons_zero, Act.put, List.setIfInBounds_toArray, List.set_cons_zero, List.set_cons_succ]
  refine wpAnyH_take (i := 19) (v := ?_) rfl (by kernel_rfl) (by kernel_rfl) (by kernel_rfl) (fun _ _ _ h => h) (Or.inl ⟨by rfl, ?_⟩) hS ?_
  rotate_left
  · intro v _; go_simp; first | done | with_reducible rfl
  rotate_left
  simp only [List.getElem_toArray, List.getElem_cons_succ, List.getElem_cons_zero, Act.put, List.setIfInBounds_toArray, List.set_cons_zero, List.set_cons_succ]
  refine wpAnyH_take (i := 20) (v := ?_) rfl (by kernel_rfl) (by kernel_rfl) (by kernel_rfl) (fun _ _ _ h => h) (Or.inl ⟨by rfl, ?_⟩) hS ?_
  rotate_left
  · intro v _; go_simp; first | done | with_reducible rfl
  rotate_left
  simp only [List.getElem_toArray, List.getElem_cons_succ, List.getElem_cons_zero, Act.put, List.setIfInBounds_toArray, List.set_cons_zero, List.set_cons_succ]
  refine wpAnyH_take (i := 21) (v := ?_) rfl (by kernel_rfl) (by kernel_rfl) (by kernel_rfl) (fun _ _ _ h => h) (Or.inl ⟨by rfl, ?_⟩) hS ?_
  rotate_left
  · intro v _; go_simp; first | done | with_reducible rfl
  rotate_left
  simp only [List.getElem_toArray, List.getElem_cons_succ, List.getElem_cons_zero, Act.put, List.setIfInBounds_toArray, List.set_cons_zero, List.set_cons_succ]
  refine wpAnyH_take (i := 22) (v := ?_) rfl (by kernel_rfl) (by kernel_rfl) (by kernel_rfl) (fun _ _ _ h => h) (Or.inl ⟨by rfl, ?_⟩) hS ?_
  rotate_left
  · intro v _; go_simp; first | done | with_reducible rfl
  rotate_left
  simp only [List.getElem_toArray, List.getElem_cons_succ, List.getElem_cons_zero, Act.put, List.setIfInBounds_toArray, List.set_cons_zero, List.set_cons_succ]
  refine wpAnyH_take (i := 23) (v := ?_) rfl (by kernel_rfl) (by kernel_rfl) (by kernel_rfl) (fun _ _ _ h => h) (Or.inl ⟨by rfl, ?_⟩) hS ?_
  rotate_left
  · intro v _; go_simp; first | done | with_reducible rfl
  rotate_left
  simp only [List.getElem_toArray, List.getElem_cons_succ, List.getElem_cons_zero, Act.put, List.setIfInBounds_toArray, List.set_cons_zero, List.set_cons_succ]
  refine wpAnyH_take (i := 24) (v := ?_) rfl (by kernel_rfl) (by kernel_rfl) (by kernel_rfl) (fun _ _ _ h => h) (Or.inl ⟨by rfl, ?_⟩) hS ?_
  rotate_left
  · intro v _; go_simp; first | done | with_reducible rfl
  rotate_left
  simp only [List.getElem_toArray, List.getElem_cons_succ, List.getElem_cons_zero, Act.put, List.setIfInBounds_toArray, List.set_cons_zero, List.set_cons_succ]
  refine wpAnyH_take (i := 25) (v := ?_) rfl (by kernel_rfl) (by kernel_rfl) (by kernel_rfl) (fun _ _ _ h => h) (Or.inl ⟨by rfl, ?_⟩) hS ?_
  rotate_left
  · intro v _; go_simp; first | done | with_reducible rfl
  rotate_left
  simp only [List.getElem_toArray, List.getElem_cons_succ, List.getElem_cons_zero, Act.put, List.setIfInBounds_toArray, List.set_cons_zero, List.set_cons_succ]
  refine wpAnyH_take (i := 26) (v := ?_) rfl (by kernel_rfl) (by kernel_rfl) (by kernel_rfl) (fun _ _ _ h => h) (Or.inl ⟨by rfl, ?_⟩) hS ?_
  rotate_left
  · intro v _; go_simp; first | done | with_reducible rfl
  rotate_left
  simp only [List.getElem_toArray, List.getElem_cons_succ, List.getElem_cons_zero, Act.put, List.setIfInBounds_toArray, List.set_cons_zero, List.set_cons_succ]
  refine wpAnyH_take (i := 27) (v := ?_) rfl (by kernel_rfl) (by kernel_rfl) (by kernel_rfl) (fun _ _ _ h => h) (Or.inl ⟨by rfl, ?_⟩) hS ?_
  rotate_left
  · intro v _; go_simp; first | done | with_reducible rfl
  rotate_left
  simp only [List.getElem_toArray, List.getElem_cons_succ, List.getElem_cons_zero, Act.put, List.setIfInBounds_toArray, List.set_cons_zero, List.set_cons_succ]
  refine wpAnyH_take (i := 28) (v := ?_) rfl (by kernel_rfl) (by kernel_rfl) (by kernel_rfl) (fun _ _ _ h => h) (Or.inl ⟨by rfl, ?_⟩) hS ?_
  rotate_left
  · intro v _; go_simp; first | done | with_reducible rfl
  rotate_left
  simp only [List.getElem_toArray, List.getElem_cons_succ, List.getElem_cons_zero, Act.put, List.setIfInBounds_toArray, List.set_cons_zero, List.set_cons_succ]
  refine wpAnyH_take (i := 29) (v := ?_) rfl (by kernel_rfl) (by kernel_rfl) (by kernel_rfl) (fun _ _ _ h => h) (Or.inl ⟨by rfl, ?_⟩) hS ?_
  rotate_left
  · intro v _; go_simp; first | done | with_reducible rfl
  rotate_left
  simp only [List.getElem_toArray, List.getElem_cons_succ, List.getElem_cons_zero, Act.put, List.setIfInBounds_toArray, List.set_cons_zero, List.set_cons_succ]
  refine wpAnyH_take (i := 30) (v := ?_) rfl (by kernel_rfl) (by kernel_rfl) (by kernel_rfl) (fun _ _ _ h => h) (Or.inl ⟨by rfl, ?_⟩) hS ?_
  rotate_left
  · intro v _; go_simp; first | done | with_reducible rfl
  rotate_left
  simp only [List.getElem_toArray, List.getElem_cons_succ, List.getElem_cons_zero, Act.put, List.setIfInBounds_toArray, List.set_cons_zero, List.set_cons_succ]
  refine wpAnyH_take (i := 31) (v := ?_) rfl (by kernel_rfl) (by kernel_rfl) (by kernel_rfl) (fun _ _ _ h => h) (Or.inl ⟨by rfl, ?_⟩) hS ?_
  rotate_left
  · intro v _; go_simp; first | done | with_reducible rfl
  rotate_left
  simp only [List.getElem_toArray, List.getElem_cons_succ, List.getElem_cons_zero, Act.put, List.setIfInBounds_toArray, List.set_cons_zero, List.set_cons_succ]
  refine wpAnyH_take (i := 32) (v := ?_) rfl (by kernel_rfl) (by kernel_rfl) (by kernel_rfl) (fun _ _ _ h => h) (Or.inl ⟨by rfl, ?_⟩) hS ?_
  rotate_left
  · intro v _; go_simp; first | done | with_reducible rfl
  rotate_left
  simp only [List.getElem_toArray, List.getElem_cons_succ, List.getElem_cons_zero, Act.put, List.setIfInBounds_toArray, List.set_cons_zero, List.set_cons_succ]
  refine wpAnyH_take (i := 33) (v := ?_) rfl (by kernel_rfl) (by kernel_rfl) (by kernel_rfl) (fun _ _ _ h => h) (Or.inl ⟨by rfl, ?_⟩) hS ?_
  rotate_left
  · intro v _; go_simp; first | done | with_reducible rfl
  rotate_left
  simp only [List.getElem_toArray, List.getElem_cons_succ, List.getElem_cons_zero, Act.put, List.setIfInBounds_toArray, List.set_cons_zero, List.set_cons_succ]
  refine wpAnyH_take (i := 34) (v := ?_) rfl (by kernel_rfl) (by kernel_rfl) (by kernel_rfl) (fun _ _ _ h => h) (Or.inl ⟨by rfl, ?_⟩) hS ?_
  rotate_left
  · intro v _; go_simp; first | done | with_reducible rfl
  rotate_left
  simp only [List.getElem_toArray, List.getElem_cons_succ, List.getElem_cons_zero, Act.put, List.setIfInBounds_toArray, List.set_cons_zero, List.set_cons_succ]
  refine wpAnyH_take (i := 35) (v := ?_) rfl (by kernel_rfl) (by kernel_rfl) (by kernel_rfl) (fun _ _ _ h => h) (Or.inl ⟨by rfl, ?_⟩) hS ?_
  rotate_left
  · intro v _; go_simp; first | done | with_reducible rfl
  rotate_left
  simp only [List.getElem_toArray, List.getElem_cons_succ, List.getElem_cons_zero, Act.put, List.setIfInBounds_toArray, List.set_cons_zero, List.set_cons_succ]
  refine wpAnyH_take (i := 36) (v := _) rfl (by kernel_rfl) (by kernel_rfl) (by kernel_rfl) (fun _ _ _ h => h) (yieldsIf_digA (by rfl) (.tmp 2) rfl ⟨b2,0,none⟩ rfl R hrt.out (fun _ h => (DigAt.ad h.1))) hS ?_
  try simp only [List.getElem_toArray, List.getElem_cons_succ, List.getElem_cons_zero, Act.put, List.setIfInBounds_toArray, List.set_cons_zero, List.set_cons_succ]
  refine wpAnyH_take (i := 37) (v := ?_) rfl (by kernel_rfl) (by kernel_rfl) (by kernel_rfl) (fun _ _ _ h => h) (Or.inl ⟨by rfl, ?_⟩) hS ?_
  rotate_left
  · intro v _; go_simp; first | done | with_reducible rfl
  rotate_left
  simp only [List.getElem_toArray, List.getElem_cons_succ, List.getElem_cons_zero, Act.put, List.setIfInBounds_toArray, List.set_cons_zero, List.set_cons_succ]
  refine wpAnyH_all (rs := [38]) (by kernel_rfl) (by simp) ?_
  intro i hi
  simp only [List.mem_cons, List.not_mem_nil, or_false] at hi
  subst hi
  refine wpOp_wp rfl (by rfl) ?_
  go_simp
  refine (hcp1.out A4 c4 x23 H4.out hc4.out HK.out).mono ?_
  rintro e x24 ⟨rfl, hb_⟩
  replace HC := Lib.hid (Kd.C_below HC.out hb_)
  replace HK := Lib.hid (HK.out.below hb_)
  replace HB := Lib.hid (HB.out.trans (Below.mono hb_ HB.out.size))
  replace H2 := Lib.hid (DigAt.below H2.out hb_)
  replace H4 := Lib.hid (CD.below H4.out hb_)
  replace H6 := Lib.hid (CD.below H6.out hb_)
  replace H8 := Lib.hid (DigAt.below H8.out hb_)
  clear hb_ hS
  have hS : S2d b2 R b8 T x24 := ⟨H2.out, H8.out⟩
  refine ⟨hS, ?_⟩
  try simp only [List.getElem_toArray, List.getElem_cons_succ, List.getElem_cons_zero, Act.put, List.setIfInBounds_toArray, List.set_cons_zero, List.set_cons_succ]
  refine wpAnyH_take (i := 39) (v := ?_) rfl (by kernel_rfl) (by kernel_rfl) (by kernel_rfl) (fun _ _ _ h => h) (Or.inl ⟨by rfl, ?_⟩) hS ?_
  rotate_left
  · intro v _; go_simp; first | done | with_reducible rfl
  rotate_left
  simp only [List.getElem_toArray, List.getElem_cons_succ, List.getElem_cons_zero, Act.put, List.setIfInBounds_toArray, List.set_cons_zero, List.set_cons_succ]
  refine wpAnyH_take (i := 40) (v := ?_) rfl (by kernel_rfl) (by kernel_rfl) (by kernel_rfl) (fun _ _ _ h => h) (Or.inl ⟨by rfl, ?_⟩) hS ?_
  rotate_left
  · intro v _; go_simp; first | done | with_reducible rfl
  rotate_left
  simp only [List.getElem_toArray, List.getElem_cons_succ, List.getElem_cons_zero, Act.put, List.setIfInBounds_toArray, List.set_cons_zero, List.set_cons_succ]
  refine wpAnyH_take (i := 41) (v := _) rfl (by kernel_rfl) (by kernel_rfl) (by kernel_rfl) (fun _ _ _ h => h) (yieldsIf_digA (by rfl) (.tmp 2) rfl ⟨b2,0,none⟩ rfl R hrt.out (fun _ h => (DigAt.ad h.1))) hS ?_
  try simp only [List.getElem_toArray, List.getElem_cons_succ, List.getElem_cons_zero, Act.put, List.setIfInBounds_toArray, List.set_cons_zero, List.set_cons_succ]
  refine wpAnyH_take (i := 42) (v := ?_) rfl (by kernel_rfl) (by kernel_rfl) (by kernel_rfl) (fun _ _ _ h => h) (Or.inl ⟨by rfl, ?_⟩) hS ?_
  rotate_left
  · intro v _; go_simp; first | done | with_reducible rfl
  rotate_left
  simp only [List.getElem_toArray, List.getElem_cons_succ, List.getElem_cons_zero, Act.put, List.setIfInBounds_toArray, List.set_cons_zero, List.set_cons_succ]
  refine wpAnyH_all (rs := [43]) (by kernel_rfl) (by simp) ?_
  intro i hi
  simp only [List.mem_cons, List.not_mem_nil, or_false] at hi
  subst hi
  refine wpOp_wp rfl (by rfl) ?_
  go_simp
  refine (hcp0.out A4 c4 x24 H4.out hc4.out HK.out).mono ?_
  rintro e x25 ⟨rfl, hb_⟩
  replace HC := Lib.hid (Kd.C_below HC.out hb_)
  replace HK := Lib.hid (HK.out.below hb_)
  replace HB := Lib.hid (HB.out.trans (Below.mono hb_ HB.out.size))
  replace H2 := Lib.hid (DigAt.below H2.out hb_)
  replace H4 := Lib.hid (CD.below H4.out hb_)
  replace H6 := Lib.hid (CD.below H6.out hb_)
  replace H8 := Lib.hid (DigAt.below H8.out hb_)
  clear hb_ hS
  have hS : S2d b2 R b8 T x25 := ⟨H2.out, H8.out⟩
  refine ⟨hS, ?_⟩
  try simp only [List.getElem_toArray, List.getElem_cons_succ, List.getElem_cons_zero, Act.put, List.setIfInBounds_toArray, List.set_cons_zero, List.set_cons_succ]
  refine wpAnyH_take (i := 44) (v := ?_) rfl (by kernel_rfl) (by kernel_rfl) (by kernel_rfl) (fun _ _ _ h => h) (Or.inl ⟨by rfl, ?_⟩) hS ?_
  rotate_left
  · intro v _; go_simp; first | done | with_reducible rfl
  rotate_left
  simp only [List.getElem_toArray, List.getElem_cons_succ, List.getElem_cons_zero, Act.put, List.setIfInBounds_toArray, List.set_cons_zero, List.set_cons_succ]
  refine wpAnyH_take (i := 45) (v := ?_) rfl (by kernel_rfl) (by kernel_rfl) (by kernel_rfl) (fun _ _ _ h => h) (Or.inl ⟨by rfl, ?_⟩) hS ?_
  rotate_left
  · intro v _; go_simp; first | done | with_reducible rfl
  rotate_left
  simp only [List.getElem_toArray, List.getElem_cons_succ, List.getElem_cons_zero, Act.put, List.setIfInBounds_toArray, List.set_cons_zero, List.set_cons_succ]
  refine wpAnyH_take (i := 46) (v := ?_) rfl (by kernel_rfl) (by kernel_rfl) (by kernel_rfl) (fun _ _ _ h => h) (Or.inl ⟨by rfl, ?_⟩) hS ?_
  rotate_left
  · intro v _; go_simp; first | done | with_reducible rfl
  rotate_left
  simp only [List.getElem_toArray, List.getElem_cons_succ, List.getElem_cons_zero, Act.put, List.setIfInBounds_toArray, List.set_cons_zero, List.set_cons_succ]
  refine wpAnyH_take (i := 47) (v := _) rfl (by kernel_rfl) (by kernel_rfl) (by kernel_rfl) (fun _ _ _ h => h) (yieldsIf_digA (by rfl) (.tmp 8) rfl ⟨b8,0,none⟩ rfl T htw.out (fun _ h => (DigAt.ad h.2))) hS ?_
  try simp only [List.getElem_toArray, List.getElem_cons_succ, List.getElem_cons_zero, Act.put, List.setIfInBounds_toArray, List.set_cons_zero, List.set_cons_succ]
  refine wpAnyH_take (i := 48) (v := _) rfl (by kernel_rfl) (by kernel_rfl) (by kernel_rfl) (fun _ _ _ h => h) (yieldsIf_digA (by rfl) (.tmp 2) rfl ⟨b2,0,none⟩ rfl R hrt.out (fun _ h => (DigAt.ad h.1))) hS ?_
  try simp only [List.getElem_toArray, List.getElem_cons_succ, List.getElem_cons_zero, Act.put, List.setIfInBounds_toArray, List.set_cons_zero, List.set_cons_succ]
  refine wpAnyH_take (i := 49) (v := ?_) rfl (by kernel_rfl) (by kernel_rfl) (by kernel_rfl) (fun _ _ _ h => h) (Or.inl ⟨by rfl, ?_⟩) hS ?_
  rotate_left
  · intro v _; go_simp; first | done | with_reducible rfl
  rotate_left
  simp only [List.getElem_toArray, List.getElem_cons_succ, List.getElem_cons_zero, Act.put, List.setIfInBounds_toArray, List.set_cons_zero, List.set_cons_succ]
  refine wpAnyH_all (rs := [50]) (by kernel_rfl) (by simp) ?_
  intro i hi
  simp only [List.mem_cons, List.not_mem_nil, or_false] at hi
  subst hi
  refine wpOp_wp rfl (by rfl) ?_
  go_simp
  refine (hcb2.out A6 c6 x25 H6.out hc6.out HK.out).mono ?_
  rintro e x26 ⟨rfl, hb_⟩
  replace HC := Lib.hid (Kd.C_below HC.out hb_)
  replace HK := Lib.hid (HK.out.below hb_)
  replace HB := Lib.hid (HB.out.trans (Below.mono hb_ HB.out.size))
  replace H2 := Lib.hid (DigAt.below H2.out hb_)
  replace H4 := Lib.hid (CD.below H4.out hb_)
  replace H6 := Lib.hid (CD.below H6.out hb_)
  replace H8 := Lib.hid (DigAt.below H8.out hb_)
  clear hb_ hS
  have hS : S2d b2 R b8 T x26 := ⟨H2.out, H8.out⟩
  refine ⟨hS, ?_⟩
  try simp only [List.getElem_toArray, List.getElem_cons_succ, List.getElem_cons_zero, Act.put, List.setIfInBounds_toArray, List.set_cons_zero, List.set_cons_succ]
  refine wpAnyH_take (i := 51) (v := ?_) rfl (by kernel_rfl) (by kernel_rfl) (by kernel_rfl) (fun _ _ _ h => h) (Or.inl ⟨by rfl, ?_⟩) hS ?_
  rotate_left
  · intro v _; go_simp; first | done | with_reducible rfl
  rotate_left
  simp only [List.getElem_toArray, List.getElem_cons_succ, List.getElem_cons_zero, Act.put, List.setIfInBounds_toArray, List.set_cons_zero, List.set_cons_succ]
  refine wpAnyH_take (i := 52) (v := ?_) rfl (by kernel_rfl) (by kernel_rfl) (by kernel_rfl) (fun _ _ _ h => h) (Or.inl ⟨by rfl, ?_⟩) hS ?_
  rotate_left
  · intro v _; go_simp; first | done | with_reducible rfl
  rotate_left
  simp only [List.getElem_toArray, List.getElem_cons_succ, List.getElem_cons_zero, Act.put, List.setIfInBounds_toArray, List.set_cons_zero, List.set_cons_succ]
  refine wpAnyH_take (i := 53) (v := _) rfl (by kernel_rfl) (by kernel_rfl) (by kernel_rfl) (fun _ _ _ h => h) (yieldsIf_digA (by rfl) (.tmp 8) rfl ⟨b8,0,none⟩ rfl T htw.out (fun _ h => (DigAt.ad h.2))) hS ?_
  try simp only [List.getElem_toArray, List.getElem_cons_succ, List.getElem_cons_zero, Act.put, List.setIfInBounds_toArray, List.set_cons_zero, List.set_cons_succ]
  refine wpAnyH_take (i := 54) (v := _) rfl (by kernel_rfl) (by kernel_rfl) (by kernel_rfl) (fun _ _ _ h => h) (yieldsIf_digA (by rfl) (.tmp 2) rfl ⟨b2,0,none⟩ rfl R hrt.out (fun _ h => (DigAt.ad h.1))) hS ?_
  try simp only [List.getElem_toArray, List.getElem_cons_succ, List.getElem_cons_zero, Act.put, List.setIfInBounds_toArray, List.set_cons_zero, List.set_cons_succ]
  refine wpAnyH_take (i := 55) (v := ?_) rfl (by kernel_rfl) (by kernel_rfl) (by kernel_rfl) (fun _ _ _ h => h) (Or.inl ⟨by rfl, ?_⟩) hS ?_
  rotate_left
  · intro v _; go_simp; first | done | with_reducible rfl
  rotate_left
  simp only [List.getElem_toArray, List.getElem_cons_succ, List.getElem_cons_zero, Act.put, List.setIfInBounds_toArray, List.set_cons_zero, List.set_cons_succ]
  refine wpAnyH_all (rs := [56]) (by kernel_rfl) (by simp) ?_
  intro i hi
  simp only [List.mem_cons, List.not_mem_nil, or_false] at hi
  subst hi
  refine wpOp_wp rfl (by rfl) ?_
  go_simp
  refine (hcb1.out A6 c6 x26 H6.out hc6.out HK.out).mono ?_
  rintro e x27 ⟨rfl, hb_⟩
  replace HC := Lib.hid (Kd.C_below HC.out hb_)
  replace HK := Lib.hid (HK.out.below hb_)
  replace HB := Lib.hid (HB.out.trans (Below.mono hb_ HB.out.size))
  replace H2 := Lib.hid (DigAt.below H2.out hb_)
  replace H4 := Lib.hid (CD.below H4.out hb_)
  replace H6 := Lib.hid (CD.below H6.out hb_)
  replace H8 := Lib.hid (DigAt.below H8.out hb_)
  clear hb_ hS
  have hS : S2d b2 R b8 T x27 := ⟨H2.out, H8.out⟩
  refine ⟨hS, ?_⟩
  try simp only [List.getElem_toArray, List.getElem_cons_succ, List.getElem_cons_zero, Act.put, List.setIfInBounds_toArray, List.set_cons_zero, List.set_cons_succ]
  refine wpAnyH_take (i := 57) (v := ?_) rfl (by kernel_rfl) (by kernel_rfl) (by kernel_rfl) (fun _ _ _ h => h) (Or.inl ⟨by rfl, ?_⟩) hS ?_
  rotate_left
  · intro v _; go_simp; first | done | with_reducible rfl
  rotate_left
  simp only [List.getElem_toArray, List.getElem_cons_succ, List.getElem_cons_zero, Act.put, List.setIfInBounds_toArray, List.set_cons_zero, List.set_cons_succ]
  refine wpAnyH_take (i := 58) (v := ?_) rfl (by kernel_rfl) (by kernel_rfl) (by kernel_rfl) (fun _ _ _ h => h) (Or.inl ⟨by rfl, ?_⟩) hS ?_
  rotate_left
  · intro v _; go_simp; first | done | with_reducible rfl
  rotate_left
  simp only [List.getElem_toArray, List.getElem_cons_succ, List.getElem_cons_zero, Act.put, List.setIfInBounds_toArray, List.set_cons_zero, List.set_cons_succ]
  refine wpAnyH_take (i := 59) (v := ?_) rfl (by kernel_rfl) (by kernel_rfl) (by kernel_rfl) (fun _ _ _ h => h) (Or.inl ⟨by rfl, ?_⟩) hS ?_
  rotate_left
  · intro v _; go_simp; first | done | with_reducible rfl
  rotate_left
  simp only [List.getElem_toArray, List.getElem_cons_succ, List.getElem_cons_zero, Act.put, List.setIfInBounds_toArray, List.set_cons_zero, List.set_cons_succ]
  refine wpAnyH_all (rs := [60]) (by kernel_rfl) (by simp) ?_
  intro i hi
  simp only [List.mem_cons, List.not_mem_nil, or_false] at hi
  subst hi
  refine wpOp_wp rfl (by rfl) ?_
  go_simp
  refine (kla.out x27 HK.out).mono ?_
  rintro e x28 ⟨rfl, hb_⟩
  replace HC := Lib.hid (Kd.C_below HC.out hb_)
  replace HK := Lib.hid (HK.out.below hb_)
  replace HB := Lib.hid (HB.out.trans (Below.mono hb_ HB.out.size))
  replace H2 := Lib.hid (DigAt.below H2.out hb_)
  replace H4 := Lib.hid (CD.below H4.out hb_)
  replace H6 := Lib.hid (CD.below H6.out hb_)
  replace H8 := Lib.hid (DigAt.below H8.out hb_)
  clear hb_ hS
  have hS : S2d b2 R b8 T x28 := ⟨H2.out, H8.out⟩
  refine ⟨hS, ?_⟩
  try simp only [List.getElem_toArray, List.getElem_cons_succ, List.getElem_cons_zero, Act.put, List.setIfInBounds_toArray, List.set_cons_zero, List.set_cons_succ]
  refine wpAnyH_all (rs := [61]) (by kernel_rfl) (by simp) ?_
  intro i hi
  simp only [List.mem_cons, List.not_mem_nil, or_false] at hi
  subst hi
  refine wpOp_wp rfl (by rfl) ?_
  go_simp
  refine (klb.out x28 HK.out).mono ?_
  rintro e x29 ⟨rfl, hb_⟩
  replace HC := Lib.hid (Kd.C_below HC.out hb_)
  replace HK := Lib.hid (HK.out.below hb_)
  replace HB := Lib.hid (HB.out.trans (Below.mono hb_ HB.out.size))
  replace H2 := Lib.hid (DigAt.below H2.out hb_)
  replace H4 := Lib.hid (CD.below H4.out hb_)
  replace H6 := Lib.hid (CD.below H6.out hb_)
  replace H8 := Lib.hid (DigAt.below H8.out hb_)
  clear hb_ hS
  have hS : S2d b2 R b8 T x29 := ⟨H2.out, H8.out⟩
  refine ⟨hS, ?_⟩
  try simp only [List.getElem_toArray, List.getElem_cons_succ, List.getElem_cons_zero, Act.put, List.setIfInBounds_toArray, List.set_cons_zero, List.set_cons_succ]
  have heqN := heq.out
  refine wpAnyH_take (i := 62) (v := ?_) rfl (by kernel_rfl) (by kernel_rfl) (by kernel_rfl) (fun _ _ _ h => h) (Or.inl ⟨by rfl, ?_⟩) hS ?_
  rotate_left
  · intro v _; go_simp; first | done | with_reducible rfl
  rotate_left
  simp only [List.getElem_toArray, List.getElem_cons_succ, List.getElem_cons_zero, Act.put, List.setIfInBounds_toArray, List.set_cons_zero, List.set_cons_succ]
  refine wpAnyH_take (i := 63) (v := ?_) rfl (by kernel_rfl) (by kernel_rfl) (by kernel_rfl) (fun _ _ _ h => h) (Or.inl ⟨by rfl, ?_⟩) hS ?_
  rotate_left
  · intro v _; go_simp; first | done | with_reducible rfl
  rotate_left
  simp only [List.getElem_toArray, List.getElem_cons_succ, List.getElem_cons_zero, Act.put, List.setIfInBounds_toArray, List.set_cons_zero, List.set_cons_succ]
  refine wpAnyH_take (i := 64) (v := ?_) rfl (by kernel_rfl) (by kernel_rfl) (by kernel_rfl) (fun _ _ _ h => h) (Or.inl ⟨by rfl, ?_⟩) hS ?_
  rotate_left
  · intro v _; go_simp; first | done | with_reducible rfl
  rotate_left
  simp only [List.getElem_toArray, List.getElem_cons_succ, List.getElem_cons_zero, Act.put, List.setIfInBounds_toArray, List.set_cons_zero, List.set_cons_succ]
  refine wpAnyH_done (by kernel_rfl) ?_ _
  go_wp2_with fail
  go_ret
  exact ⟨rfl, HB.out⟩
end Go.Proofs.YtldpnmebjnkjeaaDoor.TrW
namespace Go.Proofs.YtldpnmebjnkjeaaDoor.TrW
open Go.RowKit Go.Proofs.YtldpnmebjnkjeaaDoorW.PrintWords Go.Proofs.YtldpnmebjnkjeaaDoor.PH1 Go.Proofs.YtldpnmebjnkjeaaDoor Go.Proofs.YtldpnmebjnkjeaaDoorW.PrintLast Go.Proofs.YtldpnmebjnkjeaaDoorW.PrintMore
open Go.Proofs.YtldpnmebjnkjeaaDoor.Sha
set_option linter.unusedVariables false
set_option linter.unusedSimpArgs false

theorem wr64 {i : Int} (h0 : -9223372036854775808 ≤ i) (h : i ≤ 9223372036854775807) : wrap64 i = i := by unfold wrap64; omega
theorem rd_at (L : List ByteArray) (i : Nat) (h : i < L.length) : rdOf ByteArray.empty L (i : Int) = L[i] := by
  unfold rdOf
  rw [Int.toNat_natCast, List.getD_eq_getElem?_getD, List.getElem?_eq_getElem h]
  rfl
def fitB (s : ByteArray) : Bool := decide ((s.size : Int) > 1200)
theorem fits_l0 (L : List ByteArray) (hL : L.length ≤ 1000000) : ∀ (m i : Nat), i + m = L.length → cashbooklaw11_Fits.l0 (m + 1) L (i : Int) = some (!(L.drop i).any fitB)
  | 0, i, h => by
    rw [cashbooklaw11_Fits.l0, if_neg (by omega), List.drop_eq_nil_of_le (by omega)]; rfl
  | m + 1, i, h => by
    have hi : i < L.length := by omega
    rw [cashbooklaw11_Fits.l0, if_pos (by omega), if_pos (by omega), rd_at L i hi, List.drop_eq_getElem_cons hi, List.any_cons]
    by_cases h1 : ((L[i]).size : Int) > 1200
    · rw [if_pos h1, show fitB L[i] = true from decide_eq_true h1, Bool.true_or]; rfl
    · rw [if_neg h1, show fitB L[i] = false from decide_eq_false h1, Bool.false_or, wr64 (by omega) (by omega)]
      exact fits_l0 L hL m (i + 1) (by omega)
def fitsB (L : List ByteArray) : Bool := decide (L.length ≤ 24) && !L.any fitB
theorem fits_calls (A : Option Addr) (c : Nat) (L : List ByteArray) (w : World) (hC : Kd.C Kd.string w A L.length L) (hc : L.length ≤ c) :
    Calls Tryd.prog 29 #[.slice A L.length c] w fun e w' => e = .returned (.bool (fitsB L)) ∧ Drawn0 w w' := by
  refine cashbooklaw11_Fits.calls (L.length + 1) A c L _ w hC hc ?_
  unfold cashbooklaw11_Fits.f fitsB
  by_cases h : L.length ≤ 24
  · rw [if_neg (by omega), decT h, Bool.true_and]
    exact fits_l0 L (by omega) L.length 0 (by omega)
  · rw [if_pos (by omega), decF h, Bool.false_and]
theorem wrong_l0 (L : List ByteArray) (hL : L.length ≤ 1000000) : ∀ (m i : Nat), i + m = L.length → cashbookref11_Wrong.l0 (m + 1) L (i : Int) = some (if (L.drop i).any longB = true then 4 else 0)
  | 0, i, h => by
    rw [cashbookref11_Wrong.l0, if_neg (by omega), List.drop_eq_nil_of_le (by omega)]; rfl
  | m + 1, i, h => by
    have hi : i < L.length := by omega
    rw [cashbookref11_Wrong.l0, if_pos (by omega), if_pos (by omega), rd_at L i hi, List.drop_eq_getElem_cons hi, List.any_cons]
    by_cases h1 : ((L[i]).size : Int) > 1000
    · rw [if_pos h1, show longB L[i] = true from decide_eq_true h1, Bool.true_or]; rfl
    · rw [if_neg h1, show longB L[i] = false from decide_eq_false h1, Bool.false_or, wr64 (by omega) (by omega)]
      exact wrong_l0 L hL m (i + 1) (by omega)
theorem rwrong_calls (A : Option Addr) (c : Nat) (L : List ByteArray) (w : World) (hC : Kd.C Kd.string w A L.length L) (hc : L.length ≤ c) :
    Calls Tryd.prog 37 #[.slice A L.length c] w fun e w' => e = .returned (.int .i64 (wrongN L)) ∧ Drawn0 w w' := by
  refine cashbookref11_Wrong.calls (L.length + 1) A c L _ w hC hc ?_
  unfold cashbookref11_Wrong.f wrongN
  by_cases h : 1024 < L.length
  · rw [if_pos (by omega), if_pos (Or.inl h)]
  · have e : cashbookref11_Wrong.l0 (L.length + 1) L 0 = _ := wrong_l0 L (by omega) L.length 0 (by omega)
    rw [if_neg (by omega), e, List.drop_zero]
    by_cases h2 : L.any longB = true
    · rw [if_pos h2, if_pos (Or.inr h2)]
    · rw [if_neg h2, if_neg (fun h3 => h3.elim h h2)]
end Go.Proofs.YtldpnmebjnkjeaaDoor.TrW
namespace Go.Proofs.YtldpnmebjnkjeaaDoor.Ref10
open Go.RowKit Go.Proofs.YtldpnmebjnkjeaaDoorW.PrintWords Go.Proofs.YtldpnmebjnkjeaaDoor.PH1 Go.Proofs.YtldpnmebjnkjeaaDoor Go.Proofs.YtldpnmebjnkjeaaDoorW.PrintLast Go.Proofs.YtldpnmebjnkjeaaDoorW.PrintMore
open Go.Proofs.YtldpnmebjnkjeaaDoor.Sha (V8 wv RowU rotr kT sched rnds rnd takeP vadd mixL mixL_len mixL_get mixL_set mixL_all xo an ad rx ra rs rw32 Nr ch maj bs0 bs1 or_maj)
set_option linter.unusedVariables false
set_option linter.unusedSimpArgs false

def oo (a b : UInt32) : UInt32 := a ||| b
theorem ro (a b : UInt32) : bits .or .u32 (a.toNat : Int) (b.toNat : Int) = ((oo a b).toNat : Int) := Sha.bor a b
/-- chosen, shut. -/
def cc (a b c : UInt32) : UInt32 := ch a b c
theorem rcc (e f g : UInt32) (W : World) : Calls Tryd.prog 104 #[.int .u32 (e.toNat : Int), .int .u32 (f.toNat : Int), .int .u32 (g.toNat : Int)] W fun en w' => en = .returned (.int .u32 ((cc e f g).toNat : Int)) ∧ Drawn0 W w' := rchosen_calls e f g W
/-- A fact, shut: whnf does not open it. -/
structure Shut (p : Prop) : Prop where
  out : p
/-- An equation, shut. -/
structure EqU (a b : UInt32) : Prop where
  eq : a = b
/-- The constants' row. -/
def KC (w : World) (a : Addr) : Prop := Kd.C (Kd.int .u32) w (some a) 64 (zw kT)
theorem KC.below {w w1 : World} {a : Addr} (h : KC w a) (hb : Below w.heap.size w w1) : KC w1 a := Kd.C_below h hb
theorem at_word {w : World} {a : Addr} {L : List UInt32} {n : Nat} (h : Kd.C (Kd.int .u32) w (some a) n (zw L)) (j : Nat) (hj : j < n) : w.cell? (a.add j) = some (.int .u32 ((L.getD j 0).toNat : Int)) := by
  obtain ⟨a', he, hc⟩ := Kd.at_int h (j : Int) (by omega) (by omega)
  cases he
  rw [zw_rd, Int.toNat_natCast] at hc
  exact hc
set_option maxHeartbeats 8000000 in
set_option maxRecDepth 100000 in
theorem rtake_calls (ak : Addr) (c : Nat) (v : V8) (s : ByteArray) (hs : s.size = 64) (w : World) (hK : KC w ak) :
    Calls Tryd.prog 88 #[.slice (some ak) 64 c, .agg (wag v), .string s] w fun e w' => e = .returned (.agg (wag (takeP v s.data.toList))) ∧ Below w.heap.size w w' := by
  have hl64 : s.data.toList.length = 64 := by rw [← Lib.size_eq]; exact hs
  have hsl : (sched s.data.toList 48).length = 64 := Sha.sched_len _ hl64 48
  have hsr := sched_run s hl64
  have HK := Shut.mk hK
  have HK0 := Shut.mk hK
  clear hK hl64 hs
  go_enter Tryd.func88, Tryd.ntmps88
  go_wp2_with fail
  generalize hw1 : (w.alloc _).alloc _ = w1
  have HX : Shut (RowU 29 w.heap.size v.list w1) := by
    rw [← hw1]; refine Shut.mk ?_
    unfold RowU
    rw [Below.heap_alloc _ _ _ (by simp)]
    exact heap_alloc_last _ _
  have HR : Shut (RowU 29 (w.heap.size + 1) z8.list w1) := by
    rw [← hw1]; exact Shut.mk (Sha.heap_at1 _ _ _)
  have HB : Shut (Below w.heap.size w w1) := by
    rw [← hw1]; exact Shut.mk (((Below.refl _ _).alloc (Nat.le_refl _) _).alloc (by simp) _)
  have HS : Shut (w.heap.size + 2 ≤ w1.heap.size) := by rw [← hw1]; exact Shut.mk (by simp)
  clear hw1
  refine (cashbookref10_schedule.calls 2000 s _ w1 hsr).mono ?_
  rintro e w2 ⟨v7, rfl, hr, hb⟩
  obtain ⟨A, c7, rfl, hlc, HW⟩ := Kd.R_reads hr
  rw [zw_len, hsl] at HW hlc ⊢
  replace HX := Shut.mk (RowU.below HX.out hb)
  replace HR := Shut.mk (RowU.below HR.out hb)
  replace HB := Shut.mk (HB.out.trans (hb.mono HB.out.size))
  replace HS := Shut.mk (Nat.le_trans HS.out hb.size)
  replace HK := Shut.mk (HK.out.below HB.out)
  have hA : ∃ aw, A = some aw := by
    obtain ⟨aw, he, _⟩ := Kd.at_int HW 0 (by omega) (by omega)
    exact ⟨aw, he⟩
  obtain ⟨aw, rfl⟩ := hA
  replace HW := Shut.mk HW
  clear hb hr hsr
  replace hsl := Shut.mk hsl
  go_wp2_with (first | (refine wpList_load_w8 (o := ⟨some 15, _, _, _, _, _⟩) rfl (.tmp 4) rfl w.heap.size 0 rfl v (RowU.range HX.out) ?_) | (refine wpList_store_w8 rfl (.tmp 8) (.tmp 15) rfl w2.heap.size rfl v rfl (wag z8) 29 (heap_alloc_last w2 _) rfl ?_; intro w3 h9 hk9 hB9 hs9))
  have hb := hB9 ((Below.refl _ _).alloc (Nat.le_refl _) _) (Nat.le_refl _)
  have HV : Shut (RowU 29 w2.heap.size (rnds kT (sched s.data.toList 48) v 0).list w3) := ⟨h9.out⟩
  have hg : w.heap.size + 2 ≤ w2.heap.size := HS.out
  have hfk : Shut (ak.block ≠ w2.heap.size) := ⟨Kd.far_C (enc := Value.int .u32) 0 HK0.out (by omega) ak rfl (by omega)⟩
  have hfw : Shut (aw.block ≠ w2.heap.size) := ⟨Kd.far_C (enc := Value.int .u32) 0 HW.out (Nat.le_refl _) aw rfl (by omega)⟩
  replace HX := Shut.mk (RowU.below HX.out hb)
  replace HR := Shut.mk (RowU.below HR.out hb)
  replace HB := Shut.mk (HB.out.trans (hb.mono HB.out.size))
  replace HK := Shut.mk (HK.out.below hb)
  replace HW := Shut.mk (Kd.C_below HW.out hb)
  generalize w2.heap.size = g at HV hg hfk hfw ⊢
  clear hb h9 hk9 hB9 hs9 HS
  go_loopw [9] (fun i wx => ∃ t : Nat, t ≤ 64 ∧ i = .int .i64 t ∧ Shut (KC wx ak) ∧ Shut (Kd.C (Kd.int .u32) wx (some aw) 64 (zw (sched s.data.toList 48))) ∧ Shut (RowU 29 w.heap.size v.list wx) ∧ Shut (RowU 29 (w.heap.size + 1) z8.list wx) ∧ Shut (RowU 29 g (rnds kT (sched s.data.toList 48) v t).list wx) ∧ Shut (Below w.heap.size w wx)) (fun i _ => 64 - (intOf i).toNat)
  case atStart => exact ⟨0, by omega, rfl, HK, HW, HX, HR, HV, HB⟩
  case round =>
    clear HK HW HX HR HV HB
    obtain ⟨t, ht, rfl, HK, HW, HX, HR, HV, HB⟩ := hrel
    by_cases h64 : t < 64
    · as_aux_lemma =>
        have k64 : (t : Int) < 64 := by omega
        have HN : Nr (rnds kT (sched s.data.toList 48) v (t + 1)) _ _ _ := ⟨rfl⟩
        have ck := at_word HK.out t h64
        have cw := at_word HW.out t h64
        generalize rnds kT (sched s.data.toList 48) v t = x at HN HV
        generalize kT.getD t 0 = kk at HN ck
        generalize (sched s.data.toList 48).getD t 0 = ww at HN cw
        have x0 : wr.cell? ⟨g, 0, none⟩ = some (.int .u32 (x.a.toNat : Int)) := HV.out.cell 0 (by show 0 < 8; omega)
        have x1 : wr.cell? ⟨g, 1, none⟩ = some (.int .u32 (x.b.toNat : Int)) := HV.out.cell 1 (by show 1 < 8; omega)
        have x2 : wr.cell? ⟨g, 2, none⟩ = some (.int .u32 (x.c.toNat : Int)) := HV.out.cell 2 (by show 2 < 8; omega)
        have x3 : wr.cell? ⟨g, 3, none⟩ = some (.int .u32 (x.d.toNat : Int)) := HV.out.cell 3 (by show 3 < 8; omega)
        have x4 : wr.cell? ⟨g, 4, none⟩ = some (.int .u32 (x.e.toNat : Int)) := HV.out.cell 4 (by show 4 < 8; omega)
        have x5 : wr.cell? ⟨g, 5, none⟩ = some (.int .u32 (x.f.toNat : Int)) := HV.out.cell 5 (by show 5 < 8; omega)
        have x6 : wr.cell? ⟨g, 6, none⟩ = some (.int .u32 (x.g.toNat : Int)) := HV.out.cell 6 (by show 6 < 8; omega)
        have x7 : wr.cell? ⟨g, 7, none⟩ = some (.int .u32 (x.h.toNat : Int)) := HV.out.cell 7 (by show 7 < 8; omega)
        have RX := rx
        have RA := ra
        have RO := ro
        have RS := rw32
        have RM := rs
        have nt : (t : Int).toNat = t := by omega
        go_wp2_with fail
        go_quiet ((first | (with_reducible exact quiet_d (rturn_6 x.e)) | (with_reducible exact quiet_d (rturn_11 x.e)) | (with_reducible exact quiet_d (rturn_25 x.e)) | (with_reducible exact quiet_d (rcc x.e x.f x.g))))
        clear ck cw x0 x1 x2 x3 x4 x5 x6 x7
        replace HK : Shut (KC (wr.drewN nq) ak) := Shut.mk (HK.out.below (Drawn0.below ⟨nq, rfl⟩))
        replace HW : Shut (Kd.C (Kd.int .u32) (wr.drewN nq) (some aw) 64 (zw (sched s.data.toList 48))) := Shut.mk (Kd.C_below HW.out (Drawn0.below ⟨nq, rfl⟩))
        replace HX : Shut (RowU 29 w.heap.size v.list (wr.drewN nq)) := HX
        replace HR : Shut (RowU 29 (w.heap.size + 1) z8.list (wr.drewN nq)) := HR
        replace HV : Shut (RowU 29 g x.list (wr.drewN nq)) := HV
        replace HB : Shut (Below w.heap.size w (wr.drewN nq)) := Shut.mk (HB.out.trans (Below.mono (Drawn0.below ⟨nq, rfl⟩) HB.out.size))
        generalize wr.drewN nq = w6 at HK HW HX HR HV HB ⊢
        have x0 : w6.cell? ⟨g, 0, none⟩ = some (.int .u32 (x.a.toNat : Int)) := HV.out.cell 0 (by show 0 < 8; omega)
        have x1 : w6.cell? ⟨g, 1, none⟩ = some (.int .u32 (x.b.toNat : Int)) := HV.out.cell 1 (by show 1 < 8; omega)
        have x2 : w6.cell? ⟨g, 2, none⟩ = some (.int .u32 (x.c.toNat : Int)) := HV.out.cell 2 (by show 2 < 8; omega)
        have x3 : w6.cell? ⟨g, 3, none⟩ = some (.int .u32 (x.d.toNat : Int)) := HV.out.cell 3 (by show 3 < 8; omega)
        have x4 : w6.cell? ⟨g, 4, none⟩ = some (.int .u32 (x.e.toNat : Int)) := HV.out.cell 4 (by show 4 < 8; omega)
        have x5 : w6.cell? ⟨g, 5, none⟩ = some (.int .u32 (x.f.toNat : Int)) := HV.out.cell 5 (by show 5 < 8; omega)
        have x6 : w6.cell? ⟨g, 6, none⟩ = some (.int .u32 (x.g.toNat : Int)) := HV.out.cell 6 (by show 6 < 8; omega)
        have x7 : w6.cell? ⟨g, 7, none⟩ = some (.int .u32 (x.h.toNat : Int)) := HV.out.cell 7 (by show 7 < 8; omega)
        go_wp2_with fail
        go_quiet ((first | (with_reducible exact quiet_d (rturn_2 x.a)) | (with_reducible exact quiet_d (rturn_13 x.a)) | (with_reducible exact quiet_d (rturn_22 x.a))))
        clear x0 x1 x2 x3 x4 x5 x6 x7
        replace HK : Shut (KC (w6.drewN nq) ak) := Shut.mk (HK.out.below (Drawn0.below ⟨nq, rfl⟩))
        replace HW : Shut (Kd.C (Kd.int .u32) (w6.drewN nq) (some aw) 64 (zw (sched s.data.toList 48))) := Shut.mk (Kd.C_below HW.out (Drawn0.below ⟨nq, rfl⟩))
        replace HX : Shut (RowU 29 w.heap.size v.list (w6.drewN nq)) := HX
        replace HR : Shut (RowU 29 (w.heap.size + 1) z8.list (w6.drewN nq)) := HR
        replace HV : Shut (RowU 29 g x.list (w6.drewN nq)) := HV
        replace HB : Shut (Below w.heap.size w (w6.drewN nq)) := Shut.mk (HB.out.trans (Below.mono (Drawn0.below ⟨nq, rfl⟩) HB.out.size))
        generalize w6.drewN nq = w7 at HK HW HX HR HV HB ⊢
        have x0 : w7.cell? ⟨g, 0, none⟩ = some (.int .u32 (x.a.toNat : Int)) := HV.out.cell 0 (by show 0 < 8; omega)
        have x1 : w7.cell? ⟨g, 1, none⟩ = some (.int .u32 (x.b.toNat : Int)) := HV.out.cell 1 (by show 1 < 8; omega)
        have x2 : w7.cell? ⟨g, 2, none⟩ = some (.int .u32 (x.c.toNat : Int)) := HV.out.cell 2 (by show 2 < 8; omega)
        have x3 : w7.cell? ⟨g, 3, none⟩ = some (.int .u32 (x.d.toNat : Int)) := HV.out.cell 3 (by show 3 < 8; omega)
        have x4 : w7.cell? ⟨g, 4, none⟩ = some (.int .u32 (x.e.toNat : Int)) := HV.out.cell 4 (by show 4 < 8; omega)
        have x5 : w7.cell? ⟨g, 5, none⟩ = some (.int .u32 (x.f.toNat : Int)) := HV.out.cell 5 (by show 5 < 8; omega)
        have x6 : w7.cell? ⟨g, 6, none⟩ = some (.int .u32 (x.g.toNat : Int)) := HV.out.cell 6 (by show 6 < 8; omega)
        have x7 : w7.cell? ⟨g, 7, none⟩ = some (.int .u32 (x.h.toNat : Int)) := HV.out.cell 7 (by show 7 < 8; omega)
        generalize hp_ : (ad (ad (ad (ad x.h kk) ww) (xo (xo (rotr x.e 6) (rotr x.e 11)) (rotr x.e 25))) (cc x.e x.f x.g)) = p
        generalize hq_ : (ad (xo (xo (rotr x.a 2) (rotr x.a 13)) (rotr x.a 22)) (oo (oo (an x.a x.b) (an x.a x.c)) (an x.b x.c))) = q
        replace hp_ : EqU _ _ := ⟨hp_⟩
        replace hq_ : EqU _ _ := ⟨hq_⟩
        clear RX RA RO
        iterate 60 (first | go_values | go_skip | go_guarded | go_step | go_upon | go_back)
        refine wpList_build_w8 (o := ⟨some 100, _, _, _, _, _⟩) rfl (.tmp 83) (.tmp 85) (.tmp 87) (.tmp 89) (.tmp 93) (.tmp 95) (.tmp 97) (.tmp 99) rfl ⟨ad p q, x.a, x.b, x.c, ad x.d p, x.e, x.f, x.g⟩ rfl rfl rfl rfl rfl rfl rfl rfl ?_
        refine wpList_store_w8 (o := ⟨none, .store 29 (.tmp 8) (.tmp 100), _, _, _, _⟩) rfl (.tmp 8) (.tmp 100) rfl g rfl ⟨ad p q, x.a, x.b, x.c, ad x.d p, x.e, x.f, x.g⟩ rfl _ _ HV.out rfl ?_
        intro w8 h8 hk8 hB8 hs8
        clear RS RM x0 x1 x2 x3 x4 x5 x6 x7
        go_wp2_with fail
        go_roundw
        case rel =>
          refine ⟨t + 1, by omega, by go_num, Shut.mk ?_, Shut.mk ?_, Shut.mk ?_, Shut.mk ?_, Shut.mk ?_, Shut.mk (hB8 HB.out (by omega))⟩
          · exact Kd.C_keep (enc := Value.int .u32) 0 HK.out ⟨Nat.le_of_eq hs8.symm, fun i hi hne _ => hk8 i hne⟩ (fun ad' he _ => by cases he; exact hfk.out)
          · exact Kd.C_keep (enc := Value.int .u32) 0 HW.out ⟨Nat.le_of_eq hs8.symm, fun i hi hne _ => hk8 i hne⟩ (fun ad' he _ => by cases he; exact hfw.out)
          · exact (hk8 _ (by omega)).trans HX.out
          · exact (hk8 _ (by omega)).trans HR.out
          · rw [HN.eq]
            have e : rnd x kk ww = ⟨ad p q, x.a, x.b, x.c, ad x.d p, x.e, x.f, x.g⟩ := by
              rw [← hp_.eq, ← hq_.eq]
              show _ = V8.mk (x.h + kk + ww + bs1 x.e + ch x.e x.f x.g + (bs0 x.a + (x.a &&& x.b ||| x.a &&& x.c ||| x.b &&& x.c))) _ _ _ (x.d + (x.h + kk + ww + bs1 x.e + ch x.e x.f x.g)) _ _ _
              rw [or_maj]
              rfl
            rw [e]
            exact h8.out
        case measure => simp [intOf]; omega
    · obtain rfl : t = 64 := by omega
      clear h64 ht HK HW HK0 hfk hfw
      have HT : takeP v s.data.toList = vadd v (rnds kT (sched s.data.toList 48) v 64) := rfl
      generalize rnds kT (sched s.data.toList 48) v 64 = y at HV HT
      replace HT : Shut _ := ⟨HT⟩
      replace HX : Shut (RowU 29 w.heap.size (mixL v.list y.list 0) wr) := ⟨HX.out⟩
      go_wp2_with fail
      go_loopw [101] (fun i wx => ∃ t : Nat, t ≤ 8 ∧ i = .int .i64 t ∧ Shut (RowU 29 w.heap.size (mixL v.list y.list t) wx) ∧ Shut (RowU 29 (w.heap.size + 1) z8.list wx) ∧ Shut (RowU 29 g y.list wx) ∧ Shut (Below w.heap.size w wx)) (fun i _ => 8 - (intOf i).toNat)
      case atStart => exact ⟨0, by omega, rfl, HX, HR, HV, HB⟩
      case round =>
        clear HX HR HV HB
        obtain ⟨t, ht, rfl, HX, HR, HV, HB⟩ := hrel
        by_cases h8 : t < 8
        · as_aux_lemma =>
            have k8 : (t : Int) < 8 := by omega
            have hl8 : v.list.length = y.list.length := rfl
            have hml : (mixL v.list y.list t).length = 8 := mixL_len _ _ hl8 _ (by show t ≤ 8; omega)
            have hmg := mixL_get v.list y.list hl8 t h8
            have hms := mixL_set v.list y.list hl8 t h8
            have hmt : t < (mixL v.list y.list t).length := by omega
            replace hml := Lib.hid hml
            replace hl8 := Lib.hid hl8
            have c0 := HX.out.cell t hmt
            rw [hmg] at c0
            clear hmg
            have c1 := HV.out.cell t (by show t < 8; omega)
            have f0 := HX.out.f
            generalize v.list.getD t 0 = a0 at c0 hms
            generalize y.list.getD t 0 = b0 at c1 hms
            replace hms : Shut _ := ⟨hms⟩
            have RM := rs
            go_wp2_with fail
            go_region
            go_wp2_with fail
            clear RM
            go_roundw
            case rel =>
              refine ⟨t + 1, by omega, by go_num, Shut.mk ?_, Shut.mk ?_, Shut.mk ?_, Shut.mk ?_⟩
              · rw [← hms.out]
                exact (HX.out.set t (a0 + b0)).drew
              · exact (HR.out.far (by simp) _).drew
              · exact (HV.out.far (by simp; omega) _).drew
              · exact (HB.out.setCell (by simp) _).drew
            case measure => simp [intOf]; omega
        · obtain rfl : t = 8 := by omega
          have hmx : mixL v.list y.list 8 = (vadd v y).list := rfl
          rw [hmx] at HX
          clear hmx
          generalize vadd v y = z at HX HT
          go_wp2_with (first | (refine wpList_load_w8 (o := ⟨some 114, _, _, _, _, _⟩) rfl (.tmp 4) rfl w.heap.size 0 rfl z (RowU.range HX.out) ?_) | (refine wpList_store_w8 rfl (.tmp 6) (.tmp 114) rfl (w.heap.size + 1) rfl z rfl (wag z8) 29 HR.out rfl ?_; intro w9 h9 hk9 hB9 hs9))
          refine bodyPost_ret (v := .agg (wag z)) ?_ rfl ⟨by rw [HT.out], hB9 HB.out (by omega)⟩
          simp [results, Tryd.results88, asAddr, run_load_w8 (RowU.range h9.out), Act.put]
end Go.Proofs.YtldpnmebjnkjeaaDoor.Ref10
namespace Go.Proofs.YtldpnmebjnkjeaaDoor.Ref10
open Go.RowKit Go.Proofs.YtldpnmebjnkjeaaDoorW.PrintWords Go.Proofs.YtldpnmebjnkjeaaDoor.PH1 Go.Proofs.YtldpnmebjnkjeaaDoor Go.Proofs.YtldpnmebjnkjeaaDoorW.PrintLast Go.Proofs.YtldpnmebjnkjeaaDoorW.PrintMore
open Go.Proofs.YtldpnmebjnkjeaaDoor.Sha (V8 wv RowU takeP feedP feedP_lt feedP_ge)
set_option linter.unusedVariables false
set_option linter.unusedSimpArgs false

set_option maxHeartbeats 4000000 in
set_option maxRecDepth 100000 in
theorem rall_calls (ak : Addr) (c : Nat) (v : V8) (s : ByteArray) (hs : s.size ≤ 4294967296) (w : World) (hK : KC w ak) :
    Calls Tryd.prog 57 #[.slice (some ak) 64 c, .agg (wag v), .string s] w fun e w' => e = .returned (.tuple #[.agg (wag (feedP v s.data.toList).1), .string ⟨(feedP v s.data.toList).2.toArray⟩]) ∧ Below w.heap.size w w' := by
  have hr : feedP v s.data.toList = feedP v s.data.toList := rfl
  generalize hF : feedP v s.data.toList = F at hr
  clear hr
  replace hF : Shut _ := ⟨hF⟩
  have HK0 := Shut.mk hK
  clear hK
  go_enter Tryd.func57, Tryd.ntmps57
  go_wp2_with fail
  generalize hw1 : (w.alloc _).alloc _ = w1
  have HX : Hid (RowU 29 w.heap.size v.list w1) := by
    rw [← hw1]; refine Lib.hid ?_
    unfold RowU
    rw [Below.heap_alloc _ _ _ (by simp)]
    exact heap_alloc_last _ _
  have HR : Hid (RowU 29 (w.heap.size + 1) z8.list w1) := by
    rw [← hw1]; exact Lib.hid (Sha.heap_at1 _ _ _)
  have HB : Hid (Below w.heap.size w w1) := by
    rw [← hw1]; exact Lib.hid (((Below.refl _ _).alloc (Nat.le_refl _) _).alloc (by simp) _)
  have hs' := Lib.hid hs
  clear hw1 hs
  go_loopw [2] (fun x wx => ∃ (u : V8) (r : ByteArray), x = .string r ∧ Hid (r.size ≤ 4294967296) ∧ Shut (feedP u r.data.toList = F) ∧ Hid (RowU 29 w.heap.size u.list wx) ∧ Hid (RowU 29 (w.heap.size + 1) z8.list wx) ∧ Hid (Below w.heap.size w wx)) (fun x _ => match x with | .string r => r.size | _ => 0)
  case atStart => exact ⟨v, s, rfl, hs', hF, HX, HR, HB⟩
  case round =>
    clear HX HR HB hs' hF
    obtain ⟨u, r, rfl, hs, hF, HX, HR, HB⟩ := hrel
    by_cases h64 : 64 ≤ r.size
    · have h64' : (64 : Int) ≤ (r.size : Int) := by omega
      have hs2 : (r.size : Int) ≤ 9223372036854775807 := by have := hs.out; omega
      have hb64 : (r.extract 0 64).size = 64 := by rw [ByteArray.size_extract]; omega
      replace hb64 := Lib.hid hb64
      go_wp2_with fail
      refine wp_region_any (by kernel_rfl) ?_
      change wpAny _ _ _ _ _ _ _ wr.drew
      refine wpAny_take (i := 0) (v := ?_) rfl (by kernel_rfl) (by kernel_rfl) (by kernel_rfl) (fun _ _ _ h => h) (Or.inl ⟨by rfl, ?_⟩) ?_
      rotate_left
      · intro v; go_simp; first | done | with_reducible rfl
      rotate_left
      simp only [List.getElem_toArray, List.getElem_cons_succ, List.getElem_cons_zero, Act.put, List.setIfInBounds_toArray, List.set_cons_zero, List.set_cons_succ]
      refine wpAny_take (i := 2) (v := ?_) rfl (by kernel_rfl) (by kernel_rfl) (by kernel_rfl) (fun _ _ _ h => h) (Or.inl ⟨by rfl, ?_⟩) ?_
      rotate_left
      · intro v; go_simp; first | done | with_reducible rfl
      rotate_left
      simp only [List.getElem_toArray, List.getElem_cons_succ, List.getElem_cons_zero, Act.put, List.setIfInBounds_toArray, List.set_cons_zero, List.set_cons_succ]
      refine wpAny_take (i := 3) (v := ?_) rfl (by kernel_rfl) (by kernel_rfl) (by kernel_rfl) (fun _ _ _ h => h) (Or.inl ⟨by rfl, ?_⟩) ?_
      rotate_left
      · intro v; go_simp; first | done | with_reducible rfl
      rotate_left
      simp only [List.getElem_toArray, List.getElem_cons_succ, List.getElem_cons_zero, Act.put, List.setIfInBounds_toArray, List.set_cons_zero, List.set_cons_succ]
      refine wpAny_all (rs := [1]) (by kernel_rfl) (by simp) ?_
      intro i hi
      simp only [List.mem_cons, List.not_mem_nil, or_false] at hi
      subst hi
      refine wpOp_wp rfl (by rfl) ?_
      refine wp_load_w8 (.tmp 4) rfl w.heap.size 0 rfl u (RowU.range (w := wr.drew) HX.out) ?_
      try simp only [List.getElem_toArray, List.getElem_cons_succ, List.getElem_cons_zero, Act.put, List.setIfInBounds_toArray, List.set_cons_zero, List.set_cons_succ]
      refine wpAny_all (rs := [4]) (by kernel_rfl) (by simp) ?_
      intro i hi
      simp only [List.mem_cons, List.not_mem_nil, or_false] at hi
      subst hi
      refine wpOp_wp rfl (by rfl) ?_
      go_simp
      refine (rtake_calls ak c u (r.extract 0 64) hb64.out wr.drew (HK0.out.below HB.out.drew)).mono ?_
      rintro e w2 ⟨rfl, hb⟩
      have HX2 := Lib.hid (RowU.below (w := wr.drew) HX.out hb)
      have HR2 := Lib.hid (RowU.below (w := wr.drew) HR.out hb)
      have HB2 := Lib.hid (HB.out.drew.trans (Below.mono hb HB.out.size))
      clear hb HX HR HB
      try simp only [List.getElem_toArray, List.getElem_cons_succ, List.getElem_cons_zero, Act.put, List.setIfInBounds_toArray, List.set_cons_zero, List.set_cons_succ]
      refine wpAny_all (rs := [5]) (by kernel_rfl) (by simp) ?_
      intro i hi
      simp only [List.mem_cons, List.not_mem_nil, or_false] at hi
      subst hi
      refine wpOp_wp rfl (by rfl) ?_
      refine wp_store_w8 (.tmp 4) (.tmp 15) rfl w.heap.size rfl _ rfl _ _ HX2.out rfl ?_
      intro w3 h9 hk9 hB9 hs9
      try simp only [List.getElem_toArray, List.getElem_cons_succ, List.getElem_cons_zero, Act.put, List.setIfInBounds_toArray, List.set_cons_zero, List.set_cons_succ]
      refine wpAny_done (by kernel_rfl) ?_ _
      go_wp2_with fail
      go_roundw
      case rel =>
        have hl : r.size = r.data.toList.length := Lib.size_eq r
        refine ⟨_, _, rfl, Lib.hid (by have := hs.out; rw [ByteArray.size_extract]; omega), ⟨?_⟩, h9, Lib.hid ((hk9 _ (by omega)).trans HR2.out), Lib.hid (hB9 HB2.out (Nat.le_refl _))⟩
        rw [← hF.out, feedP_ge u r.data.toList (by omega), Lib.extract_data, Lib.extract_data, List.drop_zero, Nat.sub_zero]
        congr 2
        rw [List.take_of_length_le (by rw [List.length_drop]; omega)]
      case measure => simp; omega
    · have h64' : (r.size : Int) < 64 := by omega
      have hl : r.size = r.data.toList.length := Lib.size_eq r
      have hF2 : F = (u, r.data.toList) := by rw [← hF.out, feedP_lt u _ (by omega)]
      replace hl := Lib.hid hl
      go_wp2_with (first | (refine wpList_load_w8 (o := ⟨some 18, _, _, _, _, _⟩) rfl (.tmp 4) rfl w.heap.size 0 rfl u (RowU.range HX.out) ?_) | (refine wpList_store_w8 rfl (.tmp 6) (.tmp 18) rfl (w.heap.size + 1) rfl u rfl (wag z8) 29 HR.out rfl ?_; intro w9 h9 hk9 hB9 hs9))
      subst hF2
      refine bodyPost_ret (v := .tuple #[.agg (wag u), .string r]) ?_ rfl ⟨rfl, hB9 HB.out (by omega)⟩
      simp [results, Tryd.results57, asAddr, run_load_w8 (RowU.range h9.out), Act.put]
end Go.Proofs.YtldpnmebjnkjeaaDoor.Ref10
namespace Go.Proofs.YtldpnmebjnkjeaaDoor.Ref10
open Go.RowKit Go.Proofs.YtldpnmebjnkjeaaDoorW.PrintWords Go.Proofs.YtldpnmebjnkjeaaDoor.PH1 Go.Proofs.YtldpnmebjnkjeaaDoor Go.Proofs.YtldpnmebjnkjeaaDoorW.PrintLast Go.Proofs.YtldpnmebjnkjeaaDoorW.PrintMore
open Go.Proofs.YtldpnmebjnkjeaaDoor.Sha (V8 wv RowU tailL tailN bt8 tailN_next tailN_all tailN_len be8)
set_option linter.unusedVariables false
set_option linter.unusedSimpArgs false

theorem conv_one (b : UInt8) {W : World} {g : Nat} {ty : TypeId} {fr : Nat × Nat} (h : W.heap[g]? = some (.cells #[.int .u8 (b.toNat : Int)] ty fr)) : (convert 22 9 (.slice (some ⟨g, 0, none⟩) 1 1)).run Tryd.prog W = .ok (.string ⟨#[b]⟩) W := by
  refine Go.run_convert_bytes_back _ 22 9 5 ⟨_, 0, none⟩ 1 [b] (by kernel_rfl) (by kernel_rfl) (by kernel_rfl) ?_
  intro j hj
  obtain rfl : j = 0 := by simp at hj; omega
  show W.cell? ⟨g, 0, none⟩ = _
  rw [cell_of_row _ _ _ _ _ _ h]
  rfl
theorem conv_128 (W : World) (ty : TypeId) : (convert 22 9 (.slice (some ⟨W.heap.size, 0, none⟩) 1 1)).run Tryd.prog (W.alloc (.cells #[.int .u8 128] ty (0, 0))) = .ok (.string ⟨#[128]⟩) (W.alloc (.cells #[.int .u8 128] ty (0, 0))) := conv_one 128 (heap_alloc_last _ _)
theorem conv_128e (W : World) (ty : TypeId) : (convert 22 9 (.slice (some ⟨W.heap.size, 0, none⟩) 1 1)).run Tryd.prog (W.alloc (.cells #[.int .u8 128] ty (0, 0))).drew = .ok (.string ⟨#[128]⟩) (W.alloc (.cells #[.int .u8 128] ty (0, 0))).drew := conv_one 128 (W := (W.alloc (.cells #[.int .u8 128] ty (0, 0))).drew) (heap_alloc_last W _)
theorem conv_128d {W w3 : World} {ty : TypeId} (hb : Drawn0 (W.alloc (.cells #[.int .u8 128] ty (0, 0))).drew w3) : (convert 22 9 (.slice (some ⟨W.heap.size, 0, none⟩) 1 1)).run Tryd.prog w3 = .ok (.string ⟨#[128]⟩) w3 := conv_one 128 (blk_below (show (W.alloc (.cells #[.int .u8 128] ty (0, 0))).drew.heap[W.heap.size]? = _ from heap_alloc_last W _) hb.below)
set_option maxHeartbeats 4000000 in
set_option maxRecDepth 100000 in
theorem rtail_calls (n : Nat) (hn : n ≤ 1048576) (w : World) :
    Calls Tryd.prog 59 #[.int .i64 n] w fun e w' => e = .returned (.string ⟨(tailL n).toArray⟩) ∧ Below w.heap.size w w' := by
  have hbk := blank_run ((119 - n % 64) % 64) (by omega)
  have hbl := fun W => cashbookref10_blank.calls 2000 _ _ W hbk
  have hzs := zs_size ((119 - n % 64) % 64)
  generalize hZ : zs ((119 - n % 64) % 64) = Z at hbl hzs
  have hz1 : Z.size ≤ 64 := by omega
  have hlt : (9223372036854775807 < 1 + Z.size) = False := eq_false (by omega)
  generalize hm : (119 - n % 64) % 64 = m at hbl
  obtain ⟨q, hq⟩ : ∃ q, q = n % 64 := ⟨_, rfl⟩
  obtain ⟨r, hr⟩ : ∃ r, r = 119 - q := ⟨_, rfl⟩
  have e1 : (n : Int).tmod 64 = (q : Int) := by rw [Int.tmod_eq_emod_of_nonneg (by omega)]; omega
  have e1' : (n : Int) % 64 = (q : Int) := by omega
  have e3 : IntKind.i64.wrap (119 - (q : Int)) = (r : Int) := by
    rw [Go.IntWalk.i64_in _ (by omega)]; omega
  have e2 : (r : Int).tmod 64 = (m : Int) := by rw [Int.tmod_eq_emod_of_nonneg (by omega)]; omega
  have e2' : (r : Int) % 64 = (m : Int) := by omega
  replace hq := Lib.hid hq
  replace hr := Lib.hid hr
  replace hm := Lib.hid hm
  replace hZ := Lib.hid hZ
  replace hzs := Lib.hid hzs
  have hb1 := hbl w.drew
  have hb2 := hbl (w.alloc (.cells #[.int .u8 128] 5)).drew
  replace hb1 := Lib.hid hb1
  replace hb2 := Lib.hid hb2
  clear hbk hbl
  go_enter Tryd.func59, Tryd.ntmps59
  have hce := conv_128e w 5
  go_wp2_with fail
  go_cut [3] from 6 to 13 (fun p wx => p = .string (⟨#[128]⟩ ++ Z) ∧ Hid (Below w.heap.size w wx))
  case first =>
    go_region_law (first | (go_simp; go_at_call 89; (with_reducible refine hb1.out.mono ?_); rintro e w3 ⟨rfl, hb⟩; have hcd := conv_128 w3 5; have hB3 := Lib.hid hb.below; clear hb) | (go_simp; go_at_call 89; (with_reducible refine hb2.out.mono ?_); rintro e w3 ⟨rfl, hb⟩; have hcd := conv_128d hb; have hB3 := Lib.hid hb.below; clear hb))
    all_goals
      clear hce
      try clear hcd
      go_wp2_with fail
      go_meet
      refine ⟨rfl, Lib.hid ?_⟩
      first
        | exact (((Below.refl _ _).alloc (Nat.le_refl _) _).drew).trans (hB3.out.mono (by simp))
        | exact ((Below.refl _ _).drew.trans hB3.out).alloc hB3.out.size _
  case rest =>
    obtain ⟨rfl, HB⟩ := hcut
    clear hce hlt e1 e1' e3 e2 e2' hb1 hb2
    rename_i wc
    have hs1 : (⟨#[128]⟩ ++ Z : ByteArray).data = (tailN n 0).toArray := by
      rw [ByteArray.data_append, ← hZ.out]
      apply Array.ext'
      rw [Array.toList_append]
      show [128] ++ List.replicate ((119 - n % 64) % 64) 0 = 128 :: List.replicate ((119 - n % 64) % 64) 0 ++ List.take 0 _
      rw [List.take_zero, List.append_nil]
      rfl
    generalize (⟨#[128]⟩ ++ Z : ByteArray) = s0 at hs1 ⊢
    replace hs1 := Lib.hid hs1
    clear hZ hzs hm hq hr hz1
    go_wp2_with fail
    go_loopw [3, 5] (fun x i wx => ∃ (j : Nat) (t : ByteArray), j ≤ 8 ∧ x = .string t ∧ i = .int .i64 j ∧ Hid (t.data = (tailN n j).toArray) ∧ t.size ≤ 100 ∧ Hid (Below w.heap.size w wx)) (fun _ i _ => 8 - (intOf i).toNat)
    case atStart =>
      refine ⟨0, _, by omega, rfl, rfl, hs1, ?_, HB⟩
      show s0.data.size ≤ 100
      rw [hs1.out]
      show (tailN n 0).length ≤ 100
      rw [tailN_len n 0 (by omega)]; omega
    case round =>
      clear HB hs1
      obtain ⟨j, t, hj, rfl, rfl, HT, hts, HB⟩ := hrel
      by_cases h8 : j < 8
      · have k8 : (j : Int) < 8 := by omega
        have hbe := Sha.bt8_eq n j
        have hnx := tailN_next n j h8
        generalize bt8 n j = b at hbe hnx
        have hbe2 : (8 * (n : Int) / 2 ^ (56 - 8 * j)).tmod 256 % 256 = (b.toNat : Int) := by
          rw [Int.tmod_eq_emod_of_nonneg (Int.ediv_nonneg (by omega) (Int.le_of_lt (Int.pow_pos (by decide)))), Int.emod_emod_of_dvd _ (by decide : (256 : Int) ∣ 256), Int.mul_comm]
          exact hbe
        clear hbe
        have htl : (tailN n (j + 1)).length ≤ 100 := by rw [tailN_len n (j + 1) (by omega)]; omega
        replace hnx := Lib.hid hnx
        replace htl := Lib.hid htl
        have hce : (convert 22 9 (.slice (some ⟨wr.heap.size, 0, none⟩) 1 1)).run Tryd.prog (wr.alloc (.cells #[.int .u8 ((8 * (n : Int) / 2 ^ (56 - 8 * j)).tmod 256 % 256)] 5)) = .ok (.string ⟨#[b]⟩) (wr.alloc (.cells #[.int .u8 ((8 * (n : Int) / 2 ^ (56 - 8 * j)).tmod 256 % 256)] 5)) := by
          rw [hbe2]
          exact conv_one b (heap_alloc_last _ _)
        have z1 := one_size b
        have HA : Hid (t ++ ⟨#[b]⟩ = (⟨t.data ++ #[b]⟩ : ByteArray)) := Lib.hid (by
          apply ByteArray.ext; rw [ByteArray.data_append])
        replace hbe2 := Lib.hid hbe2
        go_wp2_with fail
        have hnew : (t ++ ⟨#[b]⟩ : ByteArray).data = (tailN n (j + 1)).toArray := by
          rw [HA.out, ← hnx.out]
          show t.data ++ #[b] = _
          rw [HT.out]
          apply Array.ext'
          rw [Array.toList_append]
        refine ⟨⟨j + 1, _, by omega, rfl, by push_cast; rfl, Lib.hid hnew, ?_, Lib.hid (HB.out.alloc HB.out.size _)⟩, by simp [intOf]; omega⟩
        show (t ++ ⟨#[b]⟩ : ByteArray).data.size ≤ 100
        rw [hnew]
        exact htl.out
      · obtain rfl : j = 8 := by omega
        rw [tailN_all] at HT
        go_wp2_with fail
        go_ret
        refine ⟨?_, HB.out⟩
        have e : t = ⟨(tailL n).toArray⟩ := ByteArray.ext HT.out
        rw [← e]
        rfl
end Go.Proofs.YtldpnmebjnkjeaaDoor.Ref10
namespace Go.Proofs.YtldpnmebjnkjeaaDoor.Ref10
open Go.RowKit Go.Proofs.YtldpnmebjnkjeaaDoorW.PrintWords Go.Proofs.YtldpnmebjnkjeaaDoor.PH1 Go.Proofs.YtldpnmebjnkjeaaDoor Go.Proofs.YtldpnmebjnkjeaaDoorW.PrintLast Go.Proofs.YtldpnmebjnkjeaaDoorW.PrintMore
open Go.Proofs.YtldpnmebjnkjeaaDoor.Sha (V8 wv RowU rotr digL dig dN dN_len dN_next dN_all dN_cells dig_eq set_row digL_len dN_zero z32_len)
set_option linter.unusedVariables false
set_option linter.unusedSimpArgs false

set_option maxHeartbeats 4000000 in
set_option maxRecDepth 100000 in
theorem rdigest_calls (v : V8) (w : World) :
    Calls Tryd.prog 60 #[.agg (wag v)] w fun e w' => e = .returned (.agg (Lib.byteCells (digL v)).toArray) ∧ Below w.heap.size w w' := by
  go_enter Tryd.func60, Tryd.ntmps60
  have hb3 : (((w.alloc (.cells (wag v) 29)).alloc (.cells (Lib.byteCells (List.replicate 32 0)).toArray 24)).alloc (.cells (Lib.byteCells (List.replicate 32 0)).toArray 24)).heap[w.heap.size + 2]? = some (.cells (Lib.byteCells (List.replicate 32 0)).toArray 24 (0, 0)) := by
    have h := heap_alloc_last ((w.alloc (.cells (wag v) 29)).alloc (.cells (Lib.byteCells (List.replicate 32 0)).toArray 24)) (.cells (Lib.byteCells (List.replicate 32 0)).toArray 24)
    rwa [show ((w.alloc (.cells (wag v) 29)).alloc (.cells (Lib.byteCells (List.replicate 32 0)).toArray 24)).heap.size = w.heap.size + 2 by simp] at h
  go_wp2_with (refine wpList_store_dig rfl (.tmp 3) (.tmp 5) rfl (w.heap.size + 2) rfl (List.replicate 32 0) z32_len rfl (Lib.byteCells (List.replicate 32 0)).toArray 24 hb3 (by rw [List.size_toArray, Lib.byteCells, List.length_map, z32_len]) ?_; intro w1 h9 hk9 hB9)
  have HX : Hid (RowU 29 w.heap.size v.list w1) := by
    refine Lib.hid ?_
    unfold RowU
    rw [hk9 _ (by omega), Below.heap_alloc _ _ _ (by simp; omega), Below.heap_alloc _ _ _ (by simp)]
    exact heap_alloc_last _ _
  have HZ : Hid (w1.heap[w.heap.size + 1]? = some (.cells (Lib.byteCells (List.replicate 32 0)).toArray 24 (0, 0))) := by
    refine Lib.hid ?_
    rw [hk9 _ (by omega), Below.heap_alloc _ _ _ (by simp)]
    exact Sha.heap_at1 _ _ _
  have HD : Hid (w1.heap[w.heap.size + 2]? = some (.cells (Lib.byteCells (dN v 0)).toArray 24 (0, 0))) := by
    rw [dN_zero]; exact h9
  have HB : Hid (Below w.heap.size w w1) := Lib.hid (hB9 ((((Below.refl _ _).alloc (Nat.le_refl _) _).alloc (by simp) _).alloc (by simp; omega) _) (by omega))
  clear hb3 h9 hk9 hB9
  go_loopw [6] (fun i wx => ∃ j : Nat, j ≤ 32 ∧ i = .int .i64 j ∧ Hid (wx.heap[w.heap.size + 2]? = some (.cells (Lib.byteCells (dN v j)).toArray 24 (0, 0))) ∧ Hid (RowU 29 w.heap.size v.list wx) ∧ Hid (wx.heap[w.heap.size + 1]? = some (.cells (Lib.byteCells (List.replicate 32 0)).toArray 24 (0, 0))) ∧ Hid (Below w.heap.size w wx)) (fun i _ => 32 - (intOf i).toNat)
  case atStart => exact ⟨0, by omega, rfl, HD, HX, HZ, HB⟩
  case round =>
    clear HD HX HZ HB
    obtain ⟨j, hj, rfl, HD, HX, HZ, HB⟩ := hrel
    by_cases h32 : j < 32
    · have k32 : (j : Int) < 32 := by omega
      have q0 : (j : Int) / 4 < 8 := by omega
      have c0 := HX.out.cell (j / 4) (by show j / 4 < 8; omega)
      have f0 : ∀ i, wr.frozen? ⟨w.heap.size + 2, i, none⟩ = false := fun i => frozen_of_row wr (w.heap.size + 2) i _ _ HD.out
      have hjl : j < (Lib.byteCells (dN v j)).length := by rw [Lib.byteCells, List.length_map, dN_len v j (by omega)]; exact h32
      obtain ⟨y, hy⟩ : ∃ y, wr.cell? ⟨w.heap.size + 2, j, none⟩ = some y := ⟨_, by rw [cell_of_row _ _ _ _ _ _ HD.out, List.getElem?_toArray, List.getElem?_eq_getElem hjl]⟩
      have hdg := dig_eq v j
      replace hdg := Lib.hid hdg
      replace hjl := Lib.hid hjl
      generalize hgu : v.list.getD (j / 4) 0 = uj at c0
      replace hgu := Lib.hid hgu
      go_wp2_with fail
      rw [← hgu.out]
      have e2 : (((v.list.getD (j / 4) 0).toNat : Int) / 2 ^ (24 - 8 * (j % 4))).tmod 256 % 256 = ((dig v j).toNat : Int) := by
        rw [Int.tmod_eq_emod_of_nonneg (Int.ediv_nonneg (by omega) (Int.le_of_lt (Int.pow_pos (by decide)))), Int.emod_emod_of_dvd _ (by decide : (256 : Int) ∣ 256), Nat.mul_comm]
        exact hdg.out
      rw [e2]
      go_roundw
      case rel =>
        refine ⟨j + 1, by omega, by go_num, Lib.hid ?_, Lib.hid ?_, Lib.hid ?_, Lib.hid ?_⟩
        · rw [set_row HD.out j, ← dN_next v j h32]
          simp [Lib.byteCells, List.map_set]
        · unfold RowU; rw [Below.heap_setCell _ _ _ _ (by simp; omega)]; exact HX.out
        · rw [Below.heap_setCell _ _ _ _ (by simp)]; exact HZ.out
        · exact HB.out.setCell (by simp; omega) _
      case measure => simp [intOf]; omega
    · obtain rfl : j = 32 := by omega
      clear hj h32
      rw [dN_all] at HD
      have hl32 := digL_len v
      replace hl32 := Lib.hid hl32
      generalize hE : digL v = D at HD hl32
      replace hE := Lib.hid hE
      go_wp2_with (first | (refine wpList_load_dig (o := ⟨some 24, _, _, _, _, _⟩) rfl (.tmp 3) rfl (w.heap.size + 2) rfl D hl32.out _ _ HD.out ?_) | (refine wpList_store_dig rfl (.tmp 2) (.tmp 24) rfl (w.heap.size + 1) rfl D hl32.out rfl _ _ HZ.out (by simp [Lib.byteCells]) ?_; intro w9 h9 _ hB9))
      refine bodyPost_ret (v := .agg (Lib.byteCells D).toArray) ?_ rfl ⟨by rw [hE.out], hB9 HB.out (by omega)⟩
      simp [results, Tryd.results60, asAddr, run_load_dig h9.out hl32.out, Act.put]
end Go.Proofs.YtldpnmebjnkjeaaDoor.Ref10
namespace Go.Proofs.YtldpnmebjnkjeaaDoor.Ref10
open Go.RowKit Go.Proofs.YtldpnmebjnkjeaaDoorW.PrintWords Go.Proofs.YtldpnmebjnkjeaaDoor.PH1 Go.Proofs.YtldpnmebjnkjeaaDoor Go.Proofs.YtldpnmebjnkjeaaDoorW.PrintLast Go.Proofs.YtldpnmebjnkjeaaDoorW.PrintMore
open Go.Proofs.YtldpnmebjnkjeaaDoor.Sha (V8 wv RowU)
set_option linter.unusedVariables false
set_option linter.unusedSimpArgs false

theorem first_at (j : Nat) (hj : j < 8) : r2 ((ps.take 8).getD j 0) = (Sha.v0.list.getD j 0).toNat := by
  have h := congrArg (fun l => l[j]?) r2_all
  have h1 : j < (ps.take 8).length := hj
  have h2 : j < Sha.v0.list.length := hj
  simp only [List.getElem?_map, List.getElem?_eq_getElem h1, List.getElem?_eq_getElem h2, Option.map_some, Option.some.injEq] at h
  rw [List.getD_eq_getElem?_getD, List.getElem?_eq_getElem h1, List.getD_eq_getElem?_getD, List.getElem?_eq_getElem h2]
  exact h
theorem root2 (j : Nat) (hj : j < 8) : cashbookref10_root.f 2000 (((ps.take 8).getD j 0 : Nat) : Int) 2 = some ((Sha.v0.list.getD j 0).toNat : Int) := by
  have hb : ∀ k : Fin 8, (ps.take 8).getD k.val 0 < 65536 := by decide
  have h := root_run ((ps.take 8).getD j 0) (hb ⟨j, hj⟩) 2 (.inl rfl) 2000 (by omega)
  rw [← first_at j hj]
  exact h
/-- The first j words. -/
def fsL (j : Nat) : List UInt32 := Sha.v0.list.take j ++ List.replicate (8 - j) 0
theorem fsL_len (j : Nat) (h : j ≤ 8) : (fsL j).length = 8 := by
  unfold fsL; rw [List.length_append, List.length_take, List.length_replicate]; show min j 8 + _ = 8; omega
theorem fsL_set (j : Nat) (h : j < 8) : (fsL j).set j (Sha.v0.list.getD j 0) = fsL (j + 1) := by
  have all : ∀ k : Fin 8, (fsL k.val).set k.val (Sha.v0.list.getD k.val 0) = fsL (k.val + 1) := by decide
  exact all ⟨j, h⟩
set_option maxHeartbeats 4000000 in
set_option maxRecDepth 100000 in
theorem first_calls (w : World) :
    Calls Tryd.prog 18 #[] w fun e w' => e = .returned (.agg (wag Sha.v0)) ∧ Below w.heap.size w w' := by
  have hb3 : ((w.alloc (.cells (wag z8) 29)).alloc (.cells (wag z8) 29)).heap[w.heap.size + 1]? = some (.cells (wag z8) 29 (0, 0)) := Sha.heap_at1 _ _ _
  have hb2 : ((w.alloc (.cells (wag z8) 29)).alloc (.cells (wag z8) 29)).heap[w.heap.size]? = some (.cells (wag z8) 29 (0, 0)) := by
    rw [Below.heap_alloc _ _ _ (by simp)]; exact heap_alloc_last _ _
  replace hb3 := Lib.hid hb3
  replace hb2 := Lib.hid hb2
  go_enter Tryd.func18, Tryd.ntmps18
  go_wp2_with (refine wpList_store_w8 rfl (.tmp 1) (.tmp 4) rfl (w.heap.size + 1) rfl z8 rfl (wag z8) 29 hb3.out rfl ?_; intro w1 h9 hk9 hB9 hs9)
  have HR : Hid (RowU 29 w.heap.size z8.list w1) := Lib.hid ((hk9 _ (by omega)).trans hb2.out)
  have HD : Hid (RowU 29 (w.heap.size + 1) (fsL 0) w1) := h9
  have HB : Hid (Below w.heap.size w w1) := Lib.hid (hB9 (((Below.refl _ _).alloc (Nat.le_refl _) _).alloc (by simp) _) (by omega))
  have HS : Hid (w.heap.size + 2 ≤ w1.heap.size) := Lib.hid (by rw [hs9]; simp)
  clear h9 hk9 hB9 hb3 hb2 hs9
  refine (cashbookref10_primes.calls 2000 8 _ w1 primes8).mono ?_
  rintro e w2 ⟨v5, rfl, hr, hb⟩
  obtain ⟨A, c, rfl, hlc, HC⟩ := Kd.R_reads hr
  have hfar : ∀ ad, A = some ad → w.heap.size + 2 ≤ ad.block := by
    intro ad he
    subst he
    obtain ⟨inner, ho⟩ := Kd.R_own hr
    rcases ho.2 with ⟨h1, _⟩ | ⟨g, cap, cur, hv, hg, _⟩
    · cases h1
    · cases hv; exact Nat.le_trans HS.out hg
  replace HC := Lib.hid HC
  replace HR := Lib.hid (RowU.below HR.out hb)
  replace HD := Lib.hid (RowU.below HD.out hb)
  replace HB := Lib.hid (HB.out.trans (hb.mono HB.out.size))
  have HS2 := Lib.hid (Nat.le_trans HS.out hb.size)
  have hl8 : (cz (ps.take 8)).length = 8 := by rw [cz_len]; rfl
  rw [hl8] at hlc HC ⊢
  clear hr hb HS hl8
  obtain ⟨ad, rfl, hc0⟩ := Kd.at_int HC.out 0 (by omega) (by omega)
  clear hc0
  have hfr := hfar ad rfl
  clear hfar
  go_wp2_with fail
  go_loopw [7] (fun i wx => ∃ j : Nat, j ≤ 8 ∧ i = .int .i64 j ∧ Hid (Kd.C (Kd.int .u64) wx (some ad) 8 (cz (ps.take 8))) ∧ Hid (RowU 29 w.heap.size z8.list wx) ∧ Hid (RowU 29 (w.heap.size + 1) (fsL j) wx) ∧ Hid (Below w.heap.size w wx) ∧ Hid (w.heap.size + 2 ≤ wx.heap.size)) (fun i _ => 8 - (intOf i).toNat)
  case atStart => exact ⟨0, by omega, rfl, HC, HR, HD, HB, HS2⟩
  case round =>
    clear HC HR HD HB HS2
    obtain ⟨j, hj, rfl, HC, HR, HD, HB, HS⟩ := hrel
    by_cases h8 : j < 8
    · have k8 : (j : Int) < 8 := by omega
      obtain ⟨ad', he, hc⟩ := Kd.at_int HC.out (j : Int) (by omega) (by omega)
      cases he
      rw [cz_rd, Int.toNat_natCast] at hc
      have hroot := root2 j h8
      generalize (ps.take 8).getD j 0 = p at hc hroot
      have hcr := cashbookref10_root.calls 2000 _ _ _ wr hroot
      have hset := fsL_set j h8
      generalize Sha.v0.list.getD j 0 = x at hcr hset
      clear hroot
      replace hset := Lib.hid hset
      replace hcr := Lib.hid hcr
      have hfl := fsL_len j hj
      replace hfl := Lib.hid hfl
      go_wp2_with fail
      refine hcr.out.mono ?_
      rintro e w3 ⟨rfl, hb⟩
      replace HC := Lib.hid (Kd.C_below HC.out hb)
      replace HR := Lib.hid (RowU.below HR.out hb)
      replace HD := Lib.hid (RowU.below HD.out hb)
      replace HB := Lib.hid (HB.out.trans (hb.mono HB.out.size))
      replace HS := Lib.hid (Nat.le_trans HS.out hb.size)
      clear hb hcr hc
      have c1 := HD.out.cell j (by rw [hfl.out]; exact h8)
      have f1 := HD.out.f
      go_wp2_with fail
      go_roundw
      case rel =>
        refine ⟨j + 1, by omega, by go_num, Lib.hid ?_, Lib.hid (HR.out.far (by simp) _), Lib.hid ?_, Lib.hid (HB.out.setCell (by simp) _), Lib.hid (by have := HS.out; simp [World.setCell]; exact this)⟩
        · exact Kd.C_keep (enc := Value.int .u64) 0 HC.out (KeepBut.set_ (KeepBut.refl _ _ none) _ _) (fun ad' he _ => by cases he; omega)
        · rw [← hset.out]; exact HD.out.set j x
      case measure => simp [intOf]; omega
    · obtain rfl : j = 8 := by omega
      have HV : Hid (RowU 29 (w.heap.size + 1) Sha.v0.list wr) := HD
      clear HD HC
      go_wp2_with (first | (refine wpList_load_w8 (o := ⟨some 17, _, _, _, _, _⟩) rfl (.tmp 1) rfl (w.heap.size + 1) 0 rfl Sha.v0 (RowU.range HV.out) ?_) | (refine wpList_store_w8 rfl (.tmp 0) (.tmp 17) rfl w.heap.size rfl Sha.v0 rfl (wag z8) 29 HR.out rfl ?_; intro w9 h9 hk9 hB9 hs9))
      refine bodyPost_ret (v := .agg (wag Sha.v0)) ?_ rfl ⟨rfl, hB9 HB.out (by omega)⟩
      simp [results, Tryd.results18, asAddr, run_load_w8 (RowU.range h9.out), Act.put]
end Go.Proofs.YtldpnmebjnkjeaaDoor.Ref10
namespace Go.Proofs.YtldpnmebjnkjeaaDoor.Ref10
open Go.RowKit Go.Proofs.YtldpnmebjnkjeaaDoorW.PrintWords Go.Proofs.YtldpnmebjnkjeaaDoor.PH1 Go.Proofs.YtldpnmebjnkjeaaDoor Go.Proofs.YtldpnmebjnkjeaaDoorW.PrintLast Go.Proofs.YtldpnmebjnkjeaaDoorW.PrintMore
open Go.Proofs.YtldpnmebjnkjeaaDoor.Sha (V8 wv RowU takeP feedP tailL tailL_len digL digL_len sumL endP z32_len hashV)
set_option linter.unusedVariables false
set_option linter.unusedSimpArgs false

def CV (s : Value) (v : V8) : Array Value := (s :: v.list.map wv).toArray
theorem run_load_cell {P : Program} {w : World} {ad : Addr} {v : Value} {t : TypeId} (ht : ∀ w : World, (Go.isAgg t).run P w = .ok false w) (h : w.cell? ad = some v) : (loadVar t ad).run P w = .ok v w := by
  unfold loadVar
  rw [Sem.run_bind, ht w]
  simp [h]
theorem yieldsIf_cell {P : Program} {ops : Array Oper} {S : World → Prop} {op : Oper} {a : Act} (hw : Region.wanted op (yielded ops a.tmps) = true) (ty : TypeId) (x : Operand) (ho : op.op = .load ty x)
    (ad : Addr) (hx : a.eval x = .pointer (some ad)) (v : Value) (ht : ∀ w : World, (Go.isAgg ty).run P w = .ok false w) (hS : ∀ w, S w → w.cell? ad = some v) : YieldsIf P ops S op v a :=
  .inl ⟨hw, fun w hw' => by
    unfold execOp
    simp only [ho, hx, Instr.loadAt, Instr.sureAddr, Sem.run_bind, Sem.run_pure, Result.andThen_ok, run_load_cell ht (hS w hw')]⟩
theorem agg56 : ∀ w : World, (Go.isAgg 56).run Tryd.prog w = .ok false w := fun w => by simp [Tryd.isAgg56]
theorem agg9 : ∀ w : World, (Go.isAgg 9).run Tryd.prog w = .ok false w := fun w => by simp [Tryd.isAgg9]
theorem c_info : ∃ i : TypeInfo, Tryd.prog.info? 58 = some i ∧ i.zero = some (.agg (CV (.slice none 0 0) z8)) := by
  have h : (Tryd.prog.info? 58).map (fun i => i.zero) = some (some (.agg (CV (.slice none 0 0) z8))) := by kernel_rfl
  cases hq : Tryd.prog.info? 58 with
  | none => rw [hq] at h; cases h
  | some i => rw [hq] at h; exact ⟨i, rfl, Option.some.inj h⟩
theorem built_C (s : Value) (hs : s.cells = #[s]) (v : V8) : Tryd.prog.built 58 [(0, s), (1, .agg (wag v))] = some (CV s v) := by
  obtain ⟨i, hi, hz⟩ := c_info
  obtain ⟨i8, j, h8, _, hj, hjs⟩ := w8_info
  have h8s : (Tryd.prog.info? 29).map (fun i => i.size) = some 8 := by kernel_rfl
  have hks : (Tryd.prog.info? 56).map (fun i => i.size) = some 1 := by kernel_rfl
  have hp : (([{ name := "K", type := 56, offset := 0, embedded := false, tag := "", pkgPath := "", byteOffset := 0 }, { name := "H", type := 29, offset := 1, embedded := false, tag := "", pkgPath := "", byteOffset := 24 }] : List Field).mapM fun f => (Tryd.prog.info? f.type).map fun i => (f.offset, i.size)) = some [(0, 1), (1, 8)] := by kernel_rfl
  unfold Program.built
  rw [hi, Tryd.underlying58]
  simp only [hz, hp]
  rw [show (Value.agg (CV (.slice none 0 0) z8)).cells = #[.slice none 0 0, .int .u32 0, .int .u32 0, .int .u32 0, .int .u32 0, .int .u32 0, .int .u32 0, .int .u32 0, .int .u32 0] from rfl]
  rw [fill_one _ _ _ _ _ 0 rfl hs (by simp), Instr.fill]
  simp [wag, V8.list, Value.cells, CV, Instr.fill, Array.zipIdx]
def COf (b : Nat) (ak : Addr) (c : Nat) (W : World) : Prop := W.cell? ⟨b, 0, none⟩ = some (.slice (some ak) 64 c)
theorem wpList_build_C {ops : Array Oper} {rest : List Oper} {o : Oper} {a : Act} {Q : Exit → Act → World → Prop} {w : World} (hgd : o.guard = none) (x0 x1 : Operand) (ho : o.op = .build 58 #[(0, x0), (1, x1)])
    (s : Value) (v : V8) (hs : s.cells = #[s]) (h0 : a.eval x0 = s) (h1 : a.eval x1 = .agg (wag v)) (h : wpList Tryd.prog ops Q rest (a.put o.dst (.agg (CV s v))) w) : wpList Tryd.prog ops Q (o :: rest) a w := by
  refine wpList_plain hgd fun _ hK => ?_
  unfold Oper.wp execOp
  simp only [ho, List.map_toArray, List.map_cons, List.map_nil, h0, h1]
  rw [Sem.run_bind, run_build w 58 #[(0, s), (1, .agg (wag v))] (CV s v) (built_C s hs v)]
  exact hK _ _ h
theorem CV_all (s : Value) (v : V8) (h : s.oneCell' = true) : (CV s v).all (·.oneCell') = true := all_oneCell_toArray (by
  intro x hx
  rcases List.mem_cons.1 hx with rfl | hx
  · exact h
  · rw [List.mem_map] at hx
    obtain ⟨y, _, rfl⟩ := hx
    rfl)
def CAt (b : Nat) (s : Value) (v : V8) (w : World) : Prop := w.heap[b]? = some (.cells (CV s v) 58 (0, 0))
namespace CAt
variable {b : Nat} {s : Value} {v : V8} {w w1 : World}
theorem below (h : CAt b s v w) (hb : Below w.heap.size w w1) : CAt b s v w1 := blk_below h hb
theorem cell0 (h : CAt b s v w) : w.cell? ⟨b, 0, none⟩ = some s := by rw [cell_of_row _ _ _ _ _ _ h]; rfl
theorem range (h : CAt b s v w) : w.rangeAt b 1 (v.list.map wv) := by
  intro j x hx
  rw [cell_of_row _ _ _ _ _ _ h]
  unfold CV
  rw [List.getElem?_toArray, Nat.add_comm 1 j, List.getElem?_cons_succ]
  exact hx
end CAt
theorem wpList_store_C {ops : Array Oper} {rest : List Oper} {o : Oper} {a : Act} {Q : Exit → Act → World → Prop} {w : World} (hgd : o.guard = none) (x y : Operand) (ho : o.op = .store 58 x y) (b : Nat) (hx : a.eval x = .pointer (some ⟨b, 0, none⟩))
    (s : Value) (v : V8) (hs1 : s.oneCell' = true) (hy : a.eval y = .agg (CV s v)) (old : Array Value) (t : TypeId) (hr : w.heap[b]? = some (.cells old t (0, 0))) (hs : old.size = 9)
    (h : ∀ w', Hid (w'.heap[b]? = some (.cells (CV s v) t (0, 0))) → (∀ k, k ≠ b → w'.heap[k]? = w.heap[k]?) → (∀ {B : Nat} {w0 : World}, Below B w0 w → B ≤ b → Below B w0 w') → w'.heap.size = w.heap.size → wpList Tryd.prog ops Q rest (a.put o.dst undef) w') : wpList Tryd.prog ops Q (o :: rest) a w := by
  refine wpList_plain hgd fun _ hK => ?_
  have hX : (CV s v).size = 9 := rfl
  unfold Oper.wp execOp
  simp only [ho, hx, hy, Instr.storeAt, Instr.sureAddr, Sem.run_bind, Sem.run_pure, Result.andThen_ok, run_storeVar_row w _ _ _ _ _ hr (show (Tryd.prog.info? 58).map (·.size) = some ((CV s v)).size by rw [hX]; kernel_rfl) (by rw [hX, hs]) (CV_all s v hs1)]
  refine hK _ _ (h _ (Lib.hid (setRow_heap w b _ _ _ _ hr)) (fun k hk => setRow_other _ _ _ _ hk) (fun {B w0} hb hB => hb.trans ⟨rfl, rfl, rfl, by simp, fun k hk => setRow_other _ _ _ _ (by omega)⟩) (by simp))
theorem run_load_C {w : World} {b : Nat} {s : Value} {v : V8} (hr : CAt b s v w) :
    (loadVar 58 ⟨b, 0, none⟩).run Tryd.prog w = .ok (.agg (CV s v)) w :=
  run_loadVar_mid w b 0 58 (s :: v.list.map wv) _ (range_row hr) Tryd.underlying58 rfl (by show _ = some 9; kernel_rfl)
set_option maxHeartbeats 4000000 in
set_option maxRecDepth 100000 in
theorem rmake_calls (w : World) :
    Calls Tryd.prog 31 #[] w fun e w' => ∃ ak c, e = .returned (.agg (CV (.slice (some ak) 64 c) Sha.v0)) ∧ KC w' ak ∧ Below w.heap.size w w' := by
  go_enter Tryd.func31, Tryd.ntmps31
  go_wp2_with fail
  generalize hw1 : w.alloc _ = w1
  have HZ : Hid (CAt w.heap.size (.slice none 0 0) z8 w1) := by
    rw [← hw1]; exact Lib.hid (heap_alloc_last _ _)
  have HB : Hid (Below w.heap.size w w1) := by
    rw [← hw1]; exact Lib.hid ((Below.refl _ _).alloc (Nat.le_refl _) _)
  have HS : w.heap.size < w1.heap.size := by rw [← hw1]; simp
  clear hw1
  refine (cashbookref10_constants.calls 2000 _ w1 const_run).mono ?_
  rintro e w2 ⟨v1, rfl, hr, hb⟩
  obtain ⟨A, c, rfl, hlc, HC⟩ := Kd.R_reads hr
  have hl64 : (Sha.kT.map fun x => (x.toNat : Int)).length = 64 := rfl
  rw [hl64] at hlc HC ⊢
  have hA : ∃ ak, A = some ak := by
    obtain ⟨ak, he, _⟩ := Kd.at_int HC 0 (by omega) (by omega)
    exact ⟨ak, he⟩
  obtain ⟨ak, rfl⟩ := hA
  have hfar : Shut (ak.block ≠ w.heap.size) := by
    obtain ⟨inner, ho⟩ := Kd.R_own hr
    rcases ho.2 with ⟨h1, _⟩ | ⟨g, cap, cur, hv, hg, _⟩
    · cases h1
    · cases hv; exact ⟨by show g ≠ _; omega⟩
  have HK : Shut (KC w2 ak) := ⟨HC⟩
  clear HS
  replace HZ := Lib.hid (HZ.out.below hb)
  replace HB := Lib.hid (HB.out.trans (hb.mono HB.out.size))
  clear hb hr HC hl64
  go_wp2_with fail
  refine (first_calls w2).mono ?_
  rintro e w3 ⟨rfl, hb⟩
  replace HK := Shut.mk (HK.out.below hb)
  replace HZ := Lib.hid (HZ.out.below hb)
  replace HB := Lib.hid (HB.out.trans (hb.mono HB.out.size))
  clear hb
  go_wp2_with (first | (refine wpList_build_C (o := ⟨some 3, _, _, _, _, _⟩) rfl (.tmp 1) (.tmp 2) rfl (.slice (some ak) 64 c) Sha.v0 rfl rfl rfl ?_) | (refine wpList_store_C rfl (.tmp 0) (.tmp 3) rfl w.heap.size rfl (.slice (some ak) 64 c) Sha.v0 rfl rfl _ _ HZ.out rfl ?_; intro w9 h9 hk9 hB9 hs9))
  refine bodyPost_ret (v := .agg (CV (.slice (some ak) 64 c) Sha.v0)) ?_ rfl ⟨ak, c, rfl, ?_, hB9 HB.out (by omega)⟩
  · simp [results, Tryd.results31, asAddr, run_load_C h9.out, Act.put]
  · exact Kd.C_keep (enc := Value.int .u32) 0 HK.out ⟨Nat.le_of_eq hs9.symm, fun i hi hne _ => hk9 i hne⟩ (fun ad' he _ => by cases he; exact hfar.out)
set_option maxHeartbeats 4000000 in
set_option maxRecDepth 100000 in
theorem rof_calls (ak : Addr) (c : Nat) (v : V8) (s : ByteArray) (hs : s.size ≤ 1048576) (w : World) (hK : KC w ak) :
    Calls Tryd.prog 63 #[.agg (CV (.slice (some ak) 64 c) v), .string s] w fun e w' => e = .returned (.agg (Lib.byteCells (endP (feedP v s.data.toList).1 (feedP v s.data.toList).2 s.size)).toArray) ∧ Below w.heap.size w w' := by
  have HK0 := Shut.mk hK
  clear hK
  go_enter Tryd.func63, Tryd.ntmps63
  go_upto_region 1 with fail
  generalize hw1 : (w.alloc _).alloc _ = w1
  have HC : Hid (CAt w.heap.size (.slice (some ak) 64 c) v w1) := by
    rw [← hw1]; refine Lib.hid ?_
    unfold CAt
    rw [Below.heap_alloc _ _ _ (by simp)]
    exact heap_alloc_last _ _
  have HR : Hid (w1.heap[w.heap.size + 1]? = some (.cells (Lib.byteCells (List.replicate 32 0)).toArray 24 (0, 0))) := by
    rw [← hw1]; exact Lib.hid (Sha.heap_at1 _ _ _)
  have HB : Hid (Below w.heap.size w w1) := by
    rw [← hw1]; exact Lib.hid (((Below.refl _ _).alloc (Nat.le_refl _) _).alloc (by simp) _)
  have HS : Hid (w.heap.size + 2 ≤ w1.heap.size) := by rw [← hw1]; exact Lib.hid (by simp)
  clear hw1
  have c0 := HC.out.cell0
  have hs' := Lib.hid hs
  go_wp2_with (refine wpList_load_w8 (o := ⟨some 11, _, _, _, _, _⟩) rfl (.tmp 10) rfl w.heap.size 1 rfl v HC.out.range ?_)
  refine (rall_calls ak c v s (by omega) w1 (HK0.out.below HB.out)).mono ?_
  rintro e w2 ⟨rfl, hb⟩
  clear c0
  replace HC := Lib.hid (HC.out.below hb)
  replace HR := Lib.hid (blk_below HR.out hb)
  replace HB := Lib.hid (HB.out.trans (hb.mono HB.out.size))
  replace HS := Lib.hid (Nat.le_trans HS.out hb.size)
  clear hb
  have hfl := Sha.feedP_len _ v s.data.toList (Nat.le_refl _)
  generalize hr1 : (feedP v s.data.toList).2 = r at hfl ⊢
  generalize hu1 : (feedP v s.data.toList).1 = u
  replace hr1 := Lib.hid hr1
  replace hu1 := Lib.hid hu1
  have hrl : r.length < 64 := by rw [hfl]; omega
  clear hfl
  replace hrl := Lib.hid hrl
  go_wp2_with (refine wpList_store_w8 rfl (.tmp 5) (.tmp 14) rfl w2.heap.size rfl u rfl (wag z8) 29 (heap_alloc_last w2 _) rfl ?_; intro w3 h9 hk9 hB9 hs9)
  have hb := hB9 ((Below.refl _ _).alloc (Nat.le_refl _) _) (Nat.le_refl _)
  have HV : Hid (RowU 29 w2.heap.size u.list w3) := h9
  have hg : w.heap.size + 2 ≤ w2.heap.size := HS.out
  replace HC := Lib.hid (HC.out.below hb)
  replace HR := Lib.hid (blk_below HR.out hb)
  replace HB := Lib.hid (HB.out.trans (hb.mono HB.out.size))
  generalize w2.heap.size = g at HV hg ⊢
  clear hb h9 hk9 hB9 hs9 HS
  have htc := fun W => rtail_calls s.size hs W
  obtain ⟨T, hT⟩ : ∃ T : ByteArray, T = ⟨(tailL s.size).toArray⟩ := ⟨_, rfl⟩
  rw [← hT] at htc
  obtain ⟨R, hR⟩ : ∃ R : ByteArray, R = ⟨r.toArray⟩ := ⟨_, rfl⟩
  rw [← hR]
  have hRs : R.size < 64 := by
    rw [hR]
    show r.toArray.size < 64
    rw [List.size_toArray]; exact hrl.out
  have hTs : T.size < 100 := by
    rw [hT]
    show (tailL s.size).toArray.size < 100
    rw [List.size_toArray, tailL_len]; omega
  have hrt : Hid ((R ++ T).size ≤ 4294967296) := by
    refine Lib.hid ?_
    rw [ByteArray.size_append]
    omega
  have hta : (R ++ T).data.toList = r ++ tailL s.size := by rw [ByteArray.data_append, Array.toList_append, hR, hT]
  have hlt : (9223372036854775807 < R.size + T.size) = False := eq_false (by omega)
  replace htc := Lib.hid htc
  replace hta := Lib.hid hta
  clear hT hR
  have hS : COf w.heap.size ak c w3.drew := HC.out.cell0
  refine wp_region_held (S := COf w.heap.size ak c) (by kernel_rfl) ?_
  change wpAnyH _ _ _ _ _ _ _ _ w3.drew
  refine wpAnyH_take (i := 0) (v := ?_) rfl (by kernel_rfl) (by kernel_rfl) (by kernel_rfl) (fun _ _ _ h => h) (Or.inl ⟨by rfl, ?_⟩) hS ?_
  rotate_left
  · intro v _; go_simp; first | done | with_reducible rfl
  rotate_left
  simp only [List.getElem_toArray, List.getElem_cons_succ, List.getElem_cons_zero, Act.put, List.setIfInBounds_toArray, List.set_cons_zero, List.set_cons_succ]
  refine wpAnyH_take (i := 1) (v := _) rfl (by kernel_rfl) (by kernel_rfl) (by kernel_rfl) (fun _ _ _ h => h) (yieldsIf_cell (by rfl) 56 (.tmp 17) rfl ⟨w.heap.size, 0, none⟩ rfl (.slice (some ak) 64 c) agg56 (fun _ h => h)) hS ?_
  simp only [List.getElem_toArray, List.getElem_cons_succ, List.getElem_cons_zero, Act.put, List.setIfInBounds_toArray, List.set_cons_zero, List.set_cons_succ]
  refine wpAnyH_take (i := 3) (v := ?_) rfl (by kernel_rfl) (by kernel_rfl) (by kernel_rfl) (fun _ _ _ h => h) (Or.inl ⟨by rfl, ?_⟩) hS ?_
  rotate_left
  · intro v _; go_simp; first | done | with_reducible rfl
  rotate_left
  simp only [List.getElem_toArray, List.getElem_cons_succ, List.getElem_cons_zero, Act.put, List.setIfInBounds_toArray, List.set_cons_zero, List.set_cons_succ]
  refine wpAnyH_take (i := 4) (v := ?_) rfl (by kernel_rfl) (by kernel_rfl) (by kernel_rfl) (fun _ _ _ h => h) (Or.inl ⟨by rfl, ?_⟩) hS ?_
  rotate_left
  · intro v _; go_simp; first | done | with_reducible rfl
  rotate_left
  simp only [List.getElem_toArray, List.getElem_cons_succ, List.getElem_cons_zero, Act.put, List.setIfInBounds_toArray, List.set_cons_zero, List.set_cons_succ]
  refine wpAnyH_take (i := 5) (v := ?_) rfl (by kernel_rfl) (by kernel_rfl) (by kernel_rfl) (fun _ _ _ h => h) (Or.inl ⟨by rfl, ?_⟩) hS ?_
  rotate_left
  · intro v _; go_simp; first | done | with_reducible rfl
  rotate_left
  simp only [List.getElem_toArray, List.getElem_cons_succ, List.getElem_cons_zero, Act.put, List.setIfInBounds_toArray, List.set_cons_zero, List.set_cons_succ]
  refine wpAnyH_all (rs := [2, 6]) (by kernel_rfl) (by simp) ?_
  intro i hi
  simp only [List.mem_cons, List.not_mem_nil, or_false] at hi
  rcases hi with rfl | rfl
  · skip
    refine wpOp_wp rfl (by rfl) ?_
    refine wp_load_w8 (.tmp 5) rfl g 0 rfl u (RowU.range (w := w3.drew) HV.out) ?_
    refine ⟨hS, ?_⟩
    try simp only [List.getElem_toArray, List.getElem_cons_succ, List.getElem_cons_zero, Act.put, List.setIfInBounds_toArray, List.set_cons_zero, List.set_cons_succ]
    refine wpAnyH_all (rs := [6]) (by kernel_rfl) (by simp) ?_
    intro i hi
    simp only [List.mem_cons, List.not_mem_nil, or_false] at hi
    subst hi
    refine wpOp_wp rfl (by rfl) ?_
    go_simp
    refine (htc.out w3.drew).mono ?_
    rintro e w3b ⟨rfl, hb⟩
    have HC3 := Lib.hid (CAt.below (w := w3.drew) HC.out hb)
    have hS : COf w.heap.size ak c w3b := HC3.out.cell0
    refine ⟨hS, ?_⟩
    have HV3 := Lib.hid (RowU.below (w := w3.drew) HV.out hb)
    have HR3 := Lib.hid (blk_below (show w3.drew.heap[w.heap.size + 1]? = _ from HR.out) hb)
    have HB3 := Lib.hid (HB.out.drew.trans (hb.mono HB.out.size))
    clear hb HV HR HB HC
    try simp only [List.getElem_toArray, List.getElem_cons_succ, List.getElem_cons_zero, Act.put, List.setIfInBounds_toArray, List.set_cons_zero, List.set_cons_succ]
    refine wpAnyH_take (i := 7) (v := ?_) rfl (by kernel_rfl) (by kernel_rfl) (by kernel_rfl) (fun _ _ _ h => h) (Or.inl ⟨by rfl, ?_⟩) hS ?_
    rotate_left
    · intro v _; go_simp; first | done | with_reducible rfl
    rotate_left
    simp only [List.getElem_toArray, List.getElem_cons_succ, List.getElem_cons_zero, Act.put, List.setIfInBounds_toArray, List.set_cons_zero, List.set_cons_succ]
    refine wpAnyH_all (rs := [8]) (by kernel_rfl) (by simp) ?_
    intro i hi
    simp only [List.mem_cons, List.not_mem_nil, or_false] at hi
    subst hi
    refine wpOp_wp rfl (by rfl) ?_
    go_simp
    refine (rall_calls ak c u (R ++ T) hrt.out _ (HK0.out.below HB3.out)).mono ?_
    rintro e w4 ⟨rfl, hb⟩
    rw [hta.out]
    have hE : endP u r s.size = digL (feedP u (r ++ tailL s.size)).1 := rfl
    generalize (feedP u (r ++ tailL s.size)).2 = r2
    generalize (feedP u (r ++ tailL s.size)).1 = z at hE ⊢
    replace hE := Lib.hid hE
    have hS : COf w.heap.size ak c w4 := (HC3.out.below hb).cell0
    refine ⟨hS, ?_⟩
    have HV4 := Lib.hid (HV3.out.below hb)
    have HR4 := Lib.hid (blk_below HR3.out hb)
    have HB4 := Lib.hid (HB3.out.trans (hb.mono HB3.out.size))
    have HC4 := Lib.hid (HC3.out.below hb)
    clear hb HV3 HR3 HB3 HC3
    try simp only [List.getElem_toArray, List.getElem_cons_succ, List.getElem_cons_zero, Act.put, List.setIfInBounds_toArray, List.set_cons_zero, List.set_cons_succ]
    refine wpAnyH_take (i := 9) (v := ?_) rfl (by kernel_rfl) (by kernel_rfl) (by kernel_rfl) (fun _ _ _ h => h) (Or.inl ⟨by rfl, ?_⟩) hS ?_
    rotate_left
    · intro v _; go_simp; first | done | with_reducible rfl
    rotate_left
    simp only [List.getElem_toArray, List.getElem_cons_succ, List.getElem_cons_zero, Act.put, List.setIfInBounds_toArray, List.set_cons_zero, List.set_cons_succ]
    refine wpAnyH_take (i := 10) (v := ?_) rfl (by kernel_rfl) (by kernel_rfl) (by kernel_rfl) (fun _ _ _ h => h) (Or.inl ⟨by rfl, ?_⟩) hS ?_
    rotate_left
    · intro v _; go_simp; first | done | with_reducible rfl
    rotate_left
    simp only [List.getElem_toArray, List.getElem_cons_succ, List.getElem_cons_zero, Act.put, List.setIfInBounds_toArray, List.set_cons_zero, List.set_cons_succ]
    refine wpAnyH_take (i := 11) (v := ?_) rfl (by kernel_rfl) (by kernel_rfl) (by kernel_rfl) (fun _ _ _ h => h) (Or.inl ⟨by rfl, ?_⟩) hS ?_
    rotate_left
    · intro v _; go_simp; first | done | with_reducible rfl
    rotate_left
    simp only [List.getElem_toArray, List.getElem_cons_succ, List.getElem_cons_zero, Act.put, List.setIfInBounds_toArray, List.set_cons_zero, List.set_cons_succ]
    refine wpAnyH_all (rs := [12]) (by kernel_rfl) (by simp) ?_
    intro i hi
    simp only [List.mem_cons, List.not_mem_nil, or_false] at hi
    subst hi
    refine wpOp_wp rfl (by rfl) ?_
    refine wp_store_w8 (.tmp 5) (.tmp 26) rfl g rfl _ rfl _ _ HV4.out rfl ?_
    intro w5 h9 hk9 hB9 hs9
    have HR5 := Lib.hid ((hk9 (w.heap.size + 1) (by omega)).trans HR4.out)
    have HB5 := Lib.hid (hB9 HB4.out (by omega))
    have hS : COf w.heap.size ak c w5 := by
      show w5.cell? ⟨w.heap.size, 0, none⟩ = _
      rw [cell_of_row _ _ _ _ _ _ ((hk9 w.heap.size (by omega)).trans HC4.out)]; rfl
    refine ⟨hS, ?_⟩
    clear hk9 hB9 hs9 HV4 HR4 HB4 HC4
    try simp only [List.getElem_toArray, List.getElem_cons_succ, List.getElem_cons_zero, Act.put, List.setIfInBounds_toArray, List.set_cons_zero, List.set_cons_succ]
    refine wpAnyH_done (by kernel_rfl) ?_ _
    clear hS
    go_wp2_with (refine wpList_load_w8 (o := ⟨some 28, _, _, _, _, _⟩) rfl (.tmp 5) rfl g 0 rfl z (RowU.range h9.out) ?_)
    refine (rdigest_calls z w5).mono ?_
    rintro e w6 ⟨rfl, hb⟩
    replace HR5 := Lib.hid (blk_below HR5.out hb)
    replace HB5 := Lib.hid (HB5.out.trans (hb.mono HB5.out.size))
    have hl := Lib.hid (digL_len z)
    clear hb h9
    generalize hD1 : digL z = D at hl ⊢
    replace hD1 := Lib.hid hD1
    go_wp2_with (refine wpList_store_dig rfl (.tmp 4) (.tmp 29) rfl (w.heap.size + 1) rfl D hl.out rfl _ _ HR5.out (by rw [List.size_toArray, Lib.byteCells, List.length_map, z32_len]) ?_; intro w9 h9 _ hB9)
    refine bodyPost_ret (v := .agg (Lib.byteCells D).toArray) ?_ rfl ⟨by rw [hr1.out, hu1.out, hE.out, hD1.out], hB9 HB5.out (by omega)⟩
    simp [results, Tryd.results63, asAddr, run_load_dig h9.out hl.out, Act.put]
  · skip
    refine wpOp_wp rfl (by rfl) ?_
    go_simp
    refine (htc.out w3.drew).mono ?_
    rintro e w3b ⟨rfl, hb⟩
    have HC3 := Lib.hid (CAt.below (w := w3.drew) HC.out hb)
    have hS : COf w.heap.size ak c w3b := HC3.out.cell0
    refine ⟨hS, ?_⟩
    have HV3 := Lib.hid (RowU.below (w := w3.drew) HV.out hb)
    have HR3 := Lib.hid (blk_below (show w3.drew.heap[w.heap.size + 1]? = _ from HR.out) hb)
    have HB3 := Lib.hid (HB.out.drew.trans (hb.mono HB.out.size))
    clear hb HV HR HB HC
    try simp only [List.getElem_toArray, List.getElem_cons_succ, List.getElem_cons_zero, Act.put, List.setIfInBounds_toArray, List.set_cons_zero, List.set_cons_succ]
    refine wpAnyH_take (i := 7) (v := ?_) rfl (by kernel_rfl) (by kernel_rfl) (by kernel_rfl) (fun _ _ _ h => h) (Or.inl ⟨by rfl, ?_⟩) hS ?_
    rotate_left
    · intro v _; go_simp; first | done | with_reducible rfl
    rotate_left
    simp only [List.getElem_toArray, List.getElem_cons_succ, List.getElem_cons_zero, Act.put, List.setIfInBounds_toArray, List.set_cons_zero, List.set_cons_succ]
    refine wpAnyH_all (rs := [2]) (by kernel_rfl) (by simp) ?_
    intro i hi
    simp only [List.mem_cons, List.not_mem_nil, or_false] at hi
    subst hi
    refine wpOp_wp rfl (by rfl) ?_
    refine wp_load_w8 (.tmp 5) rfl g 0 rfl u (RowU.range HV3.out) ?_
    refine ⟨hS, ?_⟩
    try simp only [List.getElem_toArray, List.getElem_cons_succ, List.getElem_cons_zero, Act.put, List.setIfInBounds_toArray, List.set_cons_zero, List.set_cons_succ]
    refine wpAnyH_all (rs := [8]) (by kernel_rfl) (by simp) ?_
    intro i hi
    simp only [List.mem_cons, List.not_mem_nil, or_false] at hi
    subst hi
    refine wpOp_wp rfl (by rfl) ?_
    go_simp
    refine (rall_calls ak c u (R ++ T) hrt.out _ (HK0.out.below HB3.out)).mono ?_
    rintro e w4 ⟨rfl, hb⟩
    rw [hta.out]
    have hE : endP u r s.size = digL (feedP u (r ++ tailL s.size)).1 := rfl
    generalize (feedP u (r ++ tailL s.size)).2 = r2
    generalize (feedP u (r ++ tailL s.size)).1 = z at hE ⊢
    replace hE := Lib.hid hE
    have hS : COf w.heap.size ak c w4 := (HC3.out.below hb).cell0
    refine ⟨hS, ?_⟩
    have HV4 := Lib.hid (HV3.out.below hb)
    have HR4 := Lib.hid (blk_below HR3.out hb)
    have HB4 := Lib.hid (HB3.out.trans (hb.mono HB3.out.size))
    have HC4 := Lib.hid (HC3.out.below hb)
    clear hb HV3 HR3 HB3 HC3
    try simp only [List.getElem_toArray, List.getElem_cons_succ, List.getElem_cons_zero, Act.put, List.setIfInBounds_toArray, List.set_cons_zero, List.set_cons_succ]
    refine wpAnyH_take (i := 9) (v := ?_) rfl (by kernel_rfl) (by kernel_rfl) (by kernel_rfl) (fun _ _ _ h => h) (Or.inl ⟨by rfl, ?_⟩) hS ?_
    rotate_left
    · intro v _; go_simp; first | done | with_reducible rfl
    rotate_left
    simp only [List.getElem_toArray, List.getElem_cons_succ, List.getElem_cons_zero, Act.put, List.setIfInBounds_toArray, List.set_cons_zero, List.set_cons_succ]
    refine wpAnyH_take (i := 10) (v := ?_) rfl (by kernel_rfl) (by kernel_rfl) (by kernel_rfl) (fun _ _ _ h => h) (Or.inl ⟨by rfl, ?_⟩) hS ?_
    rotate_left
    · intro v _; go_simp; first | done | with_reducible rfl
    rotate_left
    simp only [List.getElem_toArray, List.getElem_cons_succ, List.getElem_cons_zero, Act.put, List.setIfInBounds_toArray, List.set_cons_zero, List.set_cons_succ]
    refine wpAnyH_take (i := 11) (v := ?_) rfl (by kernel_rfl) (by kernel_rfl) (by kernel_rfl) (fun _ _ _ h => h) (Or.inl ⟨by rfl, ?_⟩) hS ?_
    rotate_left
    · intro v _; go_simp; first | done | with_reducible rfl
    rotate_left
    simp only [List.getElem_toArray, List.getElem_cons_succ, List.getElem_cons_zero, Act.put, List.setIfInBounds_toArray, List.set_cons_zero, List.set_cons_succ]
    refine wpAnyH_all (rs := [12]) (by kernel_rfl) (by simp) ?_
    intro i hi
    simp only [List.mem_cons, List.not_mem_nil, or_false] at hi
    subst hi
    refine wpOp_wp rfl (by rfl) ?_
    refine wp_store_w8 (.tmp 5) (.tmp 26) rfl g rfl _ rfl _ _ HV4.out rfl ?_
    intro w5 h9 hk9 hB9 hs9
    have HR5 := Lib.hid ((hk9 (w.heap.size + 1) (by omega)).trans HR4.out)
    have HB5 := Lib.hid (hB9 HB4.out (by omega))
    have hS : COf w.heap.size ak c w5 := by
      show w5.cell? ⟨w.heap.size, 0, none⟩ = _
      rw [cell_of_row _ _ _ _ _ _ ((hk9 w.heap.size (by omega)).trans HC4.out)]; rfl
    refine ⟨hS, ?_⟩
    clear hk9 hB9 hs9 HV4 HR4 HB4 HC4
    try simp only [List.getElem_toArray, List.getElem_cons_succ, List.getElem_cons_zero, Act.put, List.setIfInBounds_toArray, List.set_cons_zero, List.set_cons_succ]
    refine wpAnyH_done (by kernel_rfl) ?_ _
    clear hS
    go_wp2_with (refine wpList_load_w8 (o := ⟨some 28, _, _, _, _, _⟩) rfl (.tmp 5) rfl g 0 rfl z (RowU.range h9.out) ?_)
    refine (rdigest_calls z w5).mono ?_
    rintro e w6 ⟨rfl, hb⟩
    replace HR5 := Lib.hid (blk_below HR5.out hb)
    replace HB5 := Lib.hid (HB5.out.trans (hb.mono HB5.out.size))
    have hl := Lib.hid (digL_len z)
    clear hb h9
    generalize hD1 : digL z = D at hl ⊢
    replace hD1 := Lib.hid hD1
    go_wp2_with (refine wpList_store_dig rfl (.tmp 4) (.tmp 29) rfl (w.heap.size + 1) rfl D hl.out rfl _ _ HR5.out (by rw [List.size_toArray, Lib.byteCells, List.length_map, z32_len]) ?_; intro w9 h9 _ hB9)
    refine bodyPost_ret (v := .agg (Lib.byteCells D).toArray) ?_ rfl ⟨by rw [hr1.out, hu1.out, hE.out, hD1.out], hB9 HB5.out (by omega)⟩
    simp [results, Tryd.results63, asAddr, run_load_dig h9.out hl.out, Act.put]
end Go.Proofs.YtldpnmebjnkjeaaDoor.Ref10
namespace Go.Proofs.YtldpnmebjnkjeaaDoor.TrW
open Go.RowKit Go.Proofs.YtldpnmebjnkjeaaDoorW.PrintWords Go.Proofs.YtldpnmebjnkjeaaDoor.PH1 Go.Proofs.YtldpnmebjnkjeaaDoor Go.Proofs.YtldpnmebjnkjeaaDoorW.PrintLast Go.Proofs.YtldpnmebjnkjeaaDoorW.PrintMore
open Go.Proofs.YtldpnmebjnkjeaaDoor.Sha
open Go.Proofs.YtldpnmebjnkjeaaDoor.Ref10 (wp_store_dig wp_load_dig wpOp_wp range_row yieldsIf_cell agg9 agg56 CV CAt KC run_load_C rof_calls rmake_calls)
set_option linter.unusedVariables false
set_option linter.unusedSimpArgs false

/-- The constants, by value. -/
def cv (ak : Addr) (c : Nat) : Value := .agg (CV (.slice (some ak) 64 c) v0)
theorem sum_of (s : ByteArray) : endP (feedP v0 s.data.toList).1 (feedP v0 s.data.toList).2 s.size = sumL s.data.toList := by
  unfold sumL
  rw [show s.data.toList.length = s.size from Array.length_toList]
theorem rsum_calls (ak : Addr) (c : Nat) (s : ByteArray) (hs : s.size ≤ 1048576) (w : World) (hK : KC w ak) :
    Calls Tryd.prog 63 #[cv ak c, .string s] w fun e w' => e = .returned (.agg (Lib.byteCells (sumL s.data.toList)).toArray) ∧ Below w.heap.size w w' := by
  have h := rof_calls ak c v0 s hs w hK
  rw [sum_of] at h
  exact h
theorem yieldsIf_C {ops : Array Oper} {S : World → Prop} {op : Oper} {a : Act} (hw : Region.wanted op (yielded ops a.tmps) = true) (x : Operand) (ho : op.op = .load 58 x)
    (b : Nat) (hx : a.eval x = .pointer (some ⟨b, 0, none⟩)) (s : Value) (v : V8) (hS : ∀ w, S w → CAt b s v w) : YieldsIf Tryd.prog ops S op (.agg (CV s v)) a :=
  .inl ⟨hw, fun w h => by
    unfold execOp
    simp only [ho, hx, Instr.loadAt, Instr.sureAddr, Sem.run_bind, Sem.run_pure, Result.andThen_ok, run_load_C (hS w h)]⟩
theorem wpList_load_C {ops : Array Oper} {rest : List Oper} {o : Oper} {a : Act} {Q : Exit → Act → World → Prop} {w : World} (hgd : o.guard = none) (x : Operand) (ho : o.op = .load 58 x) (b : Nat) (hx : a.eval x = .pointer (some ⟨b, 0, none⟩))
    (s : Value) (v : V8) (hr : CAt b s v w) (h : wpList Tryd.prog ops Q rest (a.put o.dst (.agg (CV s v))) w) : wpList Tryd.prog ops Q (o :: rest) a w := by
  refine wpList_plain hgd fun _ hK => ?_
  unfold Oper.wp execOp
  simp only [ho, hx, Instr.loadAt, Instr.sureAddr, Sem.run_bind, Sem.run_pure, Result.andThen_ok, run_load_C hr]
  exact hK _ _ h
theorem info_u8 : (Tryd.prog.info? 5).map (fun i => (i.zero, i.size, i.bytes)) = some (some (.int .u8 0), 1, 1) := by kernel_rfl
/-- A row of bytes of the call's own. -/
def RU (b : Nat) (v : Value) (xs : List Int) (w : World) : Prop := (Kd.int .u8).R 5 w b (fun _ => True) v xs
theorem wpList_append_u8 {ops : Array Oper} {rest : List Oper} {o : Oper} {a : Act} {Q : Exit → Act → World → Prop} {W : World} (hgd : o.guard = none) (s x : Operand) (ho : o.op = .call { callee := .builtin .append, args := #[s, x], argTypes := #[22, 22] })
    {b : Nat} {w0 : World} (v : Value) (xs : List Int) (p : Int) (hs : a.eval s = v) (hx : a.eval x = .slice (some ⟨W.heap.size, 0, none⟩) 1 1) (HO : RU b v xs W) (HB : Below b w0 W) (hbase : b ≤ W.heap.size) (hl : xs.length ≤ 1073741824)
    (h : ∀ v1 w1, Hid (RU b v1 (xs ++ [p]) w1) → Below b w0 w1 → wpList Tryd.prog ops Q rest (a.put o.dst v1) w1) : wpList Tryd.prog ops Q (o :: rest) a (W.alloc (.cells #[.int .u8 p] 5)) :=
  Kd.R_append (Kd.int .u8) b hgd s x 22 5 (.int .u8 0) 1 ho Tryd.underlying22 info_u8 rfl (by decide) (by decide) v xs p [.int .u8 p] (fun _ => True) (fun _ => False) hs hx rfl (fun _ hk => hk.elim) (fun _ _ => trivial) HO HB hbase (by omega) (fun v1 w1 h1 h2 _ _ => h v1 w1 (Lib.hid h1) h2)
def ints (l : List UInt8) : List Int := l.map fun b => (b.toNat : Int)
theorem ints_snoc (l : List UInt8) (b : UInt8) : ints (l ++ [b]) = ints l ++ [(b.toNat : Int)] := by simp [ints]
theorem RU.conv {b : Nat} {v : Value} {l : List UInt8} {w : World} (h : RU b v (ints l) w) (hl : 0 < l.length) : (convert 22 9 v).run Tryd.prog w = .ok (.string ⟨l.toArray⟩) w := by
  obtain ⟨A, c, hv, hc, hC⟩ := Kd.R_reads h
  have hil : (ints l).length = l.length := by simp [ints]
  obtain ⟨ad, hA, _⟩ := Kd.at_int hC 0 (by omega) (by omega)
  have hc2 := Go.run_convert_bytes_back (P := Tryd.prog) w 22 9 5 ad c l (by kernel_rfl) (by kernel_rfl) (by kernel_rfl) (fun j hj => by
    obtain ⟨ad2, hA2, h2⟩ := Kd.at_int hC (j : Int) (by omega) (by omega)
    rw [hA] at hA2
    cases hA2
    rw [Int.toNat_natCast] at h2
    rw [h2]
    congr 2
    unfold rd ints
    rw [Int.toNat_natCast, List.getD_eq_getElem?_getD, List.getElem?_map, List.getElem?_eq_getElem hj]
    rfl)
  rw [hv, hil, hA]
  exact hc2
set_option maxHeartbeats 4000000 in
set_option maxRecDepth 100000 in
theorem rtxt_calls (d : List UInt8) (hd32 : d.length = 32) (w : World) :
    Calls Tryd.prog 73 #[.agg (Lib.byteCells d).toArray] w fun e w' => e = .returned (.string ⟨d.toArray⟩) ∧ Below w.heap.size w w' := by
  replace hd32 := Lib.hid hd32
  go_enter Tryd.func73, Tryd.ntmps73
  go_upto_region 1 with fail
  generalize hw1 : w.alloc _ = w1
  have HD : Hid (DigAt w.heap.size d w1) := by rw [← hw1]; exact Lib.hid (heap_alloc_last _ _)
  have HB : Hid (Below w.heap.size w w1) := by
    rw [← hw1]; exact Lib.hid ((Below.refl _ _).alloc (Nat.le_refl _) _)
  clear hw1
  have HO : Hid (RU w1.heap.size (.slice none 0 0) (ints (d.take 0)) w1) := Lib.hid (Kd.R_nil _ _ _ _ _)
  have H1 := Lib.hid (Below.refl w1.heap.size w1)
  go_wp2_with fail
  go_loopw [3, 4] (fun s i wx => ∃ (j : Nat) (u : Value), j ≤ 32 ∧ u = s ∧ i = .int .i64 j ∧ Hid (RU w1.heap.size u (ints (d.take j)) wx) ∧ Hid (Below w1.heap.size w1 wx)) (fun _ i _ => 32 - (intOf i).toNat)
  case atStart => exact ⟨0, _, by omega, rfl, rfl, HO, H1⟩
  case round =>
    clear HO H1
    obtain ⟨j, v3, hj, rfl, rfl, HO, H1⟩ := hrel
    by_cases h32 : j < 32
    · have k32 : (j : Int) < 32 := by omega
      have hjd : j < d.length := by rw [hd32.out]; exact h32
      have hix : d[j]? = some d[j] := List.getElem?_eq_getElem hjd
      have htk : d.take (j + 1) = d.take j ++ [d[j]] := by rw [List.take_succ_eq_append_getElem hjd]
      generalize d[j] = x at hix htk
      have hcl : wr.cell? ⟨w.heap.size, j, none⟩ = some (.int .u8 (x.toNat : Int)) := by
        have h2 := DigAt.ad (DigAt.below HD.out H1.out) j (.int .u8 (x.toNat : Int)) (by rw [Lib.byteCells, List.getElem?_map, hix]; rfl)
        rw [Addr.add_mid, Nat.zero_add] at h2
        exact h2
      have hlen : (ints (d.take j)).length ≤ 1073741824 := by simp [ints]; omega
      have hnx : ints (d.take (j + 1)) = ints (d.take j) ++ [(x.toNat : Int)] := by rw [htk, ints_snoc]
      replace htk := Lib.hid htk
      replace hix := Lib.hid hix
      replace hlen := Lib.hid hlen
      replace hnx := Lib.hid hnx
      go_wp2_with (guard_target = wpList _ _ _ (⟨some 14, _, _, _, _, _⟩ :: _) _ _; refine wpList_append_u8 rfl (.tmp 9) (.tmp 13) rfl v3 _ (x.toNat : Int) rfl rfl HO.out H1.out H1.out.size hlen.out ?_; intro v1 w5 HO1 HB1)
      rw [← hnx.out] at HO1
      refine ⟨⟨j + 1, v1, by omega, rfl, by push_cast; rfl, HO1, Lib.hid HB1⟩, by simp [intOf]; omega⟩
    · obtain rfl : j = 32 := by omega
      rw [List.take_of_length_le (by rw [hd32.out]; omega)] at HO
      have hcv := RU.conv HO.out (by rw [hd32.out]; omega)
      go_wp2_with fail
      go_ret
      exact ⟨rfl, HB.out.trans (Below.mono H1.out HB.out.size)⟩
end Go.Proofs.YtldpnmebjnkjeaaDoor.TrW
namespace Go.Proofs.YtldpnmebjnkjeaaDoor.TrW
open Go.RowKit Go.Proofs.YtldpnmebjnkjeaaDoorW.PrintWords Go.Proofs.YtldpnmebjnkjeaaDoor.PH1 Go.Proofs.YtldpnmebjnkjeaaDoor Go.Proofs.YtldpnmebjnkjeaaDoorW.PrintLast Go.Proofs.YtldpnmebjnkjeaaDoorW.PrintMore
open Go.Proofs.YtldpnmebjnkjeaaDoor.Sha
open Go.Proofs.YtldpnmebjnkjeaaDoor.Ref10 (wp_store_dig wp_load_dig wpOp_wp range_row yieldsIf_cell agg9 agg56 CV CAt KC run_load_C)
set_option linter.unusedVariables false
set_option linter.unusedSimpArgs false

theorem rone_run (n : Int) (h0 : 0 ≤ n) (h1 : n < 256) : cashbookref11_one.f n = some ⟨#[UInt8.ofNat n.toNat]⟩ := by
  have all : ∀ m : Fin 256, cashbookref11_one.f (m.val : Int) = some ⟨#[UInt8.ofNat m.val]⟩ := by decide +kernel
  obtain ⟨m, rfl⟩ := Int.eq_ofNat_of_zero_le h0
  rw [Int.toNat_natCast]
  exact all ⟨m, by omega⟩
def SC (b : Nat) (ak : Addr) (c : Nat) (W : World) : Prop := CAt b (.slice (some ak) 64 c) v0 W
set_option maxHeartbeats 8000000 in
set_option maxRecDepth 100000 in
theorem rleaf_calls (ak : Addr) (c : Nat) (s : ByteArray) (hs : s.size ≤ 1048575) (w : World) (hK : KC w ak) :
    Calls Tryd.prog 42 #[cv ak c, .string s] w fun e w' => e = .returned (.agg (Lib.byteCells (leafP s.data.toList)).toArray) ∧ Below w.heap.size w w' := by
  have hsz : (⟨#[0]⟩ ++ s : ByteArray).size ≤ 1048576 := by rw [ByteArray.size_append]; show 1 + s.size ≤ _; omega
  have hda : (⟨#[0]⟩ ++ s : ByteArray).data.toList = 0 :: s.data.toList := by rw [ByteArray.data_append, Array.toList_append]; rfl
  have hcall := fun W hk => rsum_calls ak c (⟨#[0]⟩ ++ s) hsz W hk
  rw [hda] at hcall
  have hone := fun W => cashbookref11_one.calls 0 _ W (rone_run 0 (by decide) (by decide))
  have hl := Lib.hid (sumL_len (0 :: s.data.toList))
  unfold leafP
  generalize sumL (0 :: s.data.toList) = D at hl hcall ⊢
  replace hcall := Lib.hid hcall
  replace hone := Lib.hid hone
  have hlt : (9223372036854775807 < 1 + s.size) = False := eq_false (by omega)
  clear hda hsz
  unfold cv at *
  go_enter Tryd.func42, Tryd.ntmps42
  go_upto_region 1 with fail
  generalize hw1 : World.alloc _ _ = w1
  have HCc : Hid (CAt w.heap.size (.slice (some ak) 64 c) v0 w1) := by
    rw [← hw1]; refine Lib.hid ?_
    unfold CAt
    rw [Below.heap_alloc _ _ _ (by simp)]
    exact heap_alloc_last _ _
  have HR : Hid (DigAt (w.heap.size + 1) (List.replicate 32 0) w1) := by
    rw [← hw1]; refine Lib.hid ?_; unfold DigAt; exact heap_at1 _ _ _
  have HB : Hid (Below w.heap.size w w1) := by
    rw [← hw1]; exact Lib.hid (((Below.refl _ _).alloc (Nat.le_refl _) _).alloc (by simp) _)
  have HK := Lib.hid (hK.below HB.out)
  clear hw1 hK
  refine wp_region_held (S := SC w.heap.size ak c) (by kernel_rfl) ?_
  change wpAnyH _ _ _ _ _ _ _ _ w1.drew
  have hdr : Below w1.heap.size w1 w1.drew := (Below.refl _ _).drew
  replace HR := Lib.hid (DigAt.below HR.out hdr)
  replace HCc := Lib.hid (CAt.below HCc.out hdr)
  replace HK := Lib.hid (KC.below HK.out hdr)
  replace HB := Lib.hid (HB.out.trans (Below.mono hdr HB.out.size))
  clear hdr
  generalize w1.drew = x0 at HR HCc HK HB ⊢
  have hS : SC w.heap.size ak c x0 := HCc.out
  refine wpAnyH_take (i := 0) (v := _) rfl (by kernel_rfl) (by kernel_rfl) (by kernel_rfl) (fun _ _ _ h => h) (yieldsIf_C (by rfl) (.tmp 2) rfl w.heap.size rfl _ _ (fun _ h => h)) hS ?_
  try simp only [List.getElem_toArray, List.getElem_cons_succ, List.getElem_cons_zero, Act.put, List.setIfInBounds_toArray, List.set_cons_zero, List.set_cons_succ]
  refine wpAnyH_take (i := 2) (v := ?_) rfl (by kernel_rfl) (by kernel_rfl) (by kernel_rfl) (fun _ _ _ h => h) (Or.inl ⟨by rfl, ?_⟩) hS ?_
  rotate_left
  · intro v _; go_simp; first | done | with_reducible rfl
  rotate_left
  simp only [List.getElem_toArray, List.getElem_cons_succ, List.getElem_cons_zero, Act.put, List.setIfInBounds_toArray, List.set_cons_zero, List.set_cons_succ]
  refine wpAnyH_all (rs := [1]) (by kernel_rfl) (by simp) ?_
  intro i hi
  simp only [List.mem_cons, List.not_mem_nil, or_false] at hi
  subst hi
  refine wpOp_wp rfl (by rfl) ?_
  go_simp
  refine (hone.out x0).mono ?_
  rintro e x1 ⟨rfl, hb⟩
  replace HR := Lib.hid (DigAt.below HR.out hb)
  replace HCc := Lib.hid (CAt.below HCc.out hb)
  replace HK := Lib.hid (KC.below HK.out hb)
  replace HB := Lib.hid (HB.out.trans (Below.mono hb HB.out.size))
  clear hb hS
  have hS : SC w.heap.size ak c x1 := HCc.out
  refine ⟨hS, ?_⟩
  try simp only [List.getElem_toArray, List.getElem_cons_succ, List.getElem_cons_zero, Act.put, List.setIfInBounds_toArray, List.set_cons_zero, List.set_cons_succ]
  have e0 : (⟨#[UInt8.ofNat (0 : Int).toNat]⟩ : ByteArray) = ⟨#[0]⟩ := rfl
  rw [e0]
  clear e0
  refine wpAnyH_take (i := 3) (v := ?_) rfl (by kernel_rfl) (by kernel_rfl) (by kernel_rfl) (fun _ _ _ h => h) (Or.inl ⟨by rfl, ?_⟩) hS ?_
  rotate_left
  · intro v _; go_simp; first | done | with_reducible rfl
  rotate_left
  simp only [List.getElem_toArray, List.getElem_cons_succ, List.getElem_cons_zero, Act.put, List.setIfInBounds_toArray, List.set_cons_zero, List.set_cons_succ]
  refine wpAnyH_all (rs := [4]) (by kernel_rfl) (by simp) ?_
  intro i hi
  simp only [List.mem_cons, List.not_mem_nil, or_false] at hi
  subst hi
  refine wpOp_wp rfl (by rfl) ?_
  go_simp
  refine (hcall.out x1 HK.out).mono ?_
  rintro e x2 ⟨rfl, hb⟩
  replace HR := Lib.hid (DigAt.below HR.out hb)
  replace HCc := Lib.hid (CAt.below HCc.out hb)
  replace HK := Lib.hid (KC.below HK.out hb)
  replace HB := Lib.hid (HB.out.trans (Below.mono hb HB.out.size))
  clear hb hS
  have hS : SC w.heap.size ak c x2 := HCc.out
  refine ⟨hS, ?_⟩
  try simp only [List.getElem_toArray, List.getElem_cons_succ, List.getElem_cons_zero, Act.put, List.setIfInBounds_toArray, List.set_cons_zero, List.set_cons_succ]
  refine wpAnyH_all (rs := [5]) (by kernel_rfl) (by simp) ?_
  intro i hi
  simp only [List.mem_cons, List.not_mem_nil, or_false] at hi
  subst hi
  refine wpOp_wp rfl (by rfl) ?_
  refine wp_store_dig (.tmp 4) (.tmp 9) rfl (w.heap.size + 1) rfl D hl.out rfl _ _ HR.out zrow ?_
  intro x3 h9 hk9 hB9 hs9
  have hS : SC w.heap.size ak c x3 := by unfold SC CAt; rw [hk9 _ (by omega)]; exact HCc.out
  refine ⟨hS, ?_⟩
  try simp only [List.getElem_toArray, List.getElem_cons_succ, List.getElem_cons_zero, Act.put, List.setIfInBounds_toArray, List.set_cons_zero, List.set_cons_succ]
  refine wpAnyH_done (by kernel_rfl) ?_ _
  go_wp2_with fail
  refine bodyPost_ret (v := .agg (Lib.byteCells D).toArray) ?_ rfl ⟨rfl, hB9 HB.out (by omega)⟩
  simp [results, Tryd.results42, asAddr, run_load_dig h9.out hl.out, Act.put]
def SC3 (b : Nat) (ak : Addr) (c : Nat) (b1 : Nat) (x : List UInt8) (b2 : Nat) (y : List UInt8) (W : World) : Prop := CAt b (.slice (some ak) 64 c) v0 W ∧ DigAt b1 x W ∧ DigAt b2 y W
set_option maxHeartbeats 8000000 in
set_option maxRecDepth 100000 in
theorem rjoin_calls (ak : Addr) (c : Nat) (x y : List UInt8) (hx : x.length = 32) (hy : y.length = 32) (w : World) (hK : KC w ak) :
    Calls Tryd.prog 36 #[cv ak c, .agg (Lib.byteCells x).toArray, .agg (Lib.byteCells y).toArray] w fun e w' => e = .returned (.agg (Lib.byteCells (joinP x y)).toArray) ∧ Below w.heap.size w w' := by
  have htx := fun W => rtxt_calls x hx W
  have hty := fun W => rtxt_calls y hy W
  obtain ⟨SA, hSA⟩ : ∃ s : ByteArray, s = ⟨x.toArray⟩ := ⟨_, rfl⟩
  obtain ⟨SB, hSB⟩ : ∃ s : ByteArray, s = ⟨y.toArray⟩ := ⟨_, rfl⟩
  rw [← hSA] at htx
  rw [← hSB] at hty
  have hA32 : SA.size = 32 := by rw [hSA]; show x.toArray.size = 32; rw [List.size_toArray, hx]
  have hB32 : SB.size = 32 := by rw [hSB]; show y.toArray.size = 32; rw [List.size_toArray, hy]
  have hsz : (⟨#[1]⟩ ++ SA ++ SB : ByteArray).size ≤ 1048576 := by rw [ByteArray.size_append, ByteArray.size_append]; show 1 + SA.size + SB.size ≤ _; omega
  have hda : (⟨#[1]⟩ ++ SA ++ SB : ByteArray).data.toList = 1 :: (x ++ y) := by rw [ByteArray.data_append, ByteArray.data_append, Array.toList_append, Array.toList_append, hSA, hSB]; rfl
  have hcall := fun W hk => rsum_calls ak c (⟨#[1]⟩ ++ SA ++ SB) hsz W hk
  rw [hda] at hcall
  have hone := fun W => cashbookref11_one.calls 1 _ W (rone_run 1 (by decide) (by decide))
  unfold joinP
  have hl := Lib.hid (sumL_len (1 :: (x ++ y)))
  generalize sumL (1 :: (x ++ y)) = D at hl hcall ⊢
  replace hcall := Lib.hid hcall
  replace hone := Lib.hid hone
  replace htx := Lib.hid htx
  replace hty := Lib.hid hty
  have hlt1 : (9223372036854775807 < 1 + SA.size) = False := eq_false (by omega)
  have hlt2 : (9223372036854775807 < 1 + SA.size + SB.size) = False := eq_false (by omega)
  replace hSA := Lib.hid hSA
  replace hSB := Lib.hid hSB
  replace hx := Lib.hid hx
  replace hy := Lib.hid hy
  replace hA32 := Lib.hid hA32
  replace hB32 := Lib.hid hB32
  clear hda hsz
  unfold cv at *
  go_enter Tryd.func36, Tryd.ntmps36
  go_upto_region 1 with fail
  generalize hw1 : World.alloc _ _ = w1
  have HCc : Hid (CAt w.heap.size (.slice (some ak) 64 c) v0 w1) := by
    rw [← hw1]; refine Lib.hid ?_; unfold CAt
    rw [Below.heap_alloc _ _ _ (by simp <;> omega), Below.heap_alloc _ _ _ (by simp <;> omega), Below.heap_alloc _ _ _ (by simp)]; exact heap_alloc_last _ _
  have HX : Hid (DigAt (w.heap.size + 1) x w1) := by
    rw [← hw1]; refine Lib.hid ?_; unfold DigAt
    rw [Below.heap_alloc _ _ _ (by simp <;> omega), Below.heap_alloc _ _ _ (by simp)]; exact heap_at1 _ _ _
  have hsz3 : ∀ (o1 o2 : Obj), ((w.alloc o1).alloc o2).heap.size = w.heap.size + 2 := fun _ _ => by simp
  have hsz4 : ∀ (o1 o2 o3 : Obj), (((w.alloc o1).alloc o2).alloc o3).heap.size = w.heap.size + 3 := fun _ _ _ => by simp
  have HY : Hid (DigAt (w.heap.size + 2) y w1) := by
    rw [← hw1]; refine Lib.hid ?_; unfold DigAt
    rw [Below.heap_alloc _ _ _ (by simp), ← hsz3]; first | exact heap_alloc_last _ _ | done
  have HR : Hid (DigAt (w.heap.size + 3) (List.replicate 32 0) w1) := by
    rw [← hw1]; refine Lib.hid ?_; unfold DigAt
    rw [← hsz4]; exact heap_alloc_last _ _
  have HB : Hid (Below w.heap.size w w1) := by
    rw [← hw1]; exact Lib.hid (((((Below.refl _ _).alloc (Nat.le_refl _) _).alloc (by simp) _).alloc (by simp <;> omega) _).alloc (by simp <;> omega) _)
  have HK := Lib.hid (hK.below HB.out)
  clear hw1 hK hsz3 hsz4
  refine wp_region_held (S := SC3 w.heap.size ak c (w.heap.size + 1) x (w.heap.size + 2) y) (by kernel_rfl) ?_
  change wpAnyH _ _ _ _ _ _ _ _ w1.drew
  have hdr : Below w1.heap.size w1 w1.drew := (Below.refl _ _).drew
  replace HR := Lib.hid (DigAt.below HR.out hdr)
  replace HCc := Lib.hid (CAt.below HCc.out hdr)
  replace HK := Lib.hid (KC.below HK.out hdr)
  replace HB := Lib.hid (HB.out.trans (Below.mono hdr HB.out.size))
  replace HX := Lib.hid (DigAt.below HX.out hdr)
  replace HY := Lib.hid (DigAt.below HY.out hdr)
  clear hdr
  generalize w1.drew = x0 at HR HCc HK HB HX HY ⊢
  have hS : SC3 w.heap.size ak c (w.heap.size + 1) x (w.heap.size + 2) y x0 := ⟨HCc.out, HX.out, HY.out⟩
  refine wpAnyH_take (i := 0) (v := _) rfl (by kernel_rfl) (by kernel_rfl) (by kernel_rfl) (fun _ _ _ h => h) (yieldsIf_C (by rfl) (.tmp 3) rfl w.heap.size rfl _ _ (fun _ h => h.1)) hS ?_
  try simp only [List.getElem_toArray, List.getElem_cons_succ, List.getElem_cons_zero, Act.put, List.setIfInBounds_toArray, List.set_cons_zero, List.set_cons_succ]
  refine wpAnyH_take (i := 2) (v := _) rfl (by kernel_rfl) (by kernel_rfl) (by kernel_rfl) (fun _ _ _ h => h) (yieldsIf_digA (by rfl) (.tmp 4) rfl ⟨w.heap.size+1,0,none⟩ rfl x hx.out (fun _ h => (DigAt.ad h.2.1))) hS ?_
  try simp only [List.getElem_toArray, List.getElem_cons_succ, List.getElem_cons_zero, Act.put, List.setIfInBounds_toArray, List.set_cons_zero, List.set_cons_succ]
  refine wpAnyH_take (i := 5) (v := _) rfl (by kernel_rfl) (by kernel_rfl) (by kernel_rfl) (fun _ _ _ h => h) (yieldsIf_digA (by rfl) (.tmp 5) rfl ⟨w.heap.size+2,0,none⟩ rfl y hy.out (fun _ h => (DigAt.ad h.2.2))) hS ?_
  try simp only [List.getElem_toArray, List.getElem_cons_succ, List.getElem_cons_zero, Act.put, List.setIfInBounds_toArray, List.set_cons_zero, List.set_cons_succ]
  refine wpAnyH_all (rs := [1]) (by kernel_rfl) (by simp) ?_
  intro i hi
  simp only [List.mem_cons, List.not_mem_nil, or_false] at hi
  subst hi
  refine wpOp_wp rfl (by rfl) ?_
  go_simp
  refine (hone.out x0).mono ?_
  rintro e x1 ⟨rfl, hb⟩
  replace HR := Lib.hid (DigAt.below HR.out hb)
  replace HCc := Lib.hid (CAt.below HCc.out hb)
  replace HK := Lib.hid (KC.below HK.out hb)
  replace HB := Lib.hid (HB.out.trans (Below.mono hb HB.out.size))
  replace HX := Lib.hid (DigAt.below HX.out hb)
  replace HY := Lib.hid (DigAt.below HY.out hb)
  clear hb hS
  have hS : SC3 w.heap.size ak c (w.heap.size + 1) x (w.heap.size + 2) y x1 := ⟨HCc.out, HX.out, HY.out⟩
  refine ⟨hS, ?_⟩
  try simp only [List.getElem_toArray, List.getElem_cons_succ, List.getElem_cons_zero, Act.put, List.setIfInBounds_toArray, List.set_cons_zero, List.set_cons_succ]
  have e0 : (⟨#[UInt8.ofNat (1 : Int).toNat]⟩ : ByteArray) = ⟨#[1]⟩ := rfl
  rw [e0]
  clear e0
  refine wpAnyH_all (rs := [3]) (by kernel_rfl) (by simp) ?_
  intro i hi
  simp only [List.mem_cons, List.not_mem_nil, or_false] at hi
  subst hi
  refine wpOp_wp rfl (by rfl) ?_
  go_simp
  refine (htx.out x1).mono ?_
  rintro e x2 ⟨rfl, hb⟩
  replace HR := Lib.hid (DigAt.below HR.out hb)
  replace HCc := Lib.hid (CAt.below HCc.out hb)
  replace HK := Lib.hid (KC.below HK.out hb)
  replace HB := Lib.hid (HB.out.trans (Below.mono hb HB.out.size))
  replace HX := Lib.hid (DigAt.below HX.out hb)
  replace HY := Lib.hid (DigAt.below HY.out hb)
  clear hb hS
  have hS : SC3 w.heap.size ak c (w.heap.size + 1) x (w.heap.size + 2) y x2 := ⟨HCc.out, HX.out, HY.out⟩
  refine ⟨hS, ?_⟩
  try simp only [List.getElem_toArray, List.getElem_cons_succ, List.getElem_cons_zero, Act.put, List.setIfInBounds_toArray, List.set_cons_zero, List.set_cons_succ]
  have hA2 := hA32.out
  have hB2 := hB32.out
  refine wpAnyH_take (i := 4) (v := ?_) rfl (by kernel_rfl) (by kernel_rfl) (by kernel_rfl) (fun _ _ _ h => h) (Or.inl ⟨by rfl, ?_⟩) hS ?_
  rotate_left
  · intro v _; go_simp; first | done | with_reducible rfl
  rotate_left
  simp only [List.getElem_toArray, List.getElem_cons_succ, List.getElem_cons_zero, Act.put, List.setIfInBounds_toArray, List.set_cons_zero, List.set_cons_succ]
  refine wpAnyH_all (rs := [6]) (by kernel_rfl) (by simp) ?_
  intro i hi
  simp only [List.mem_cons, List.not_mem_nil, or_false] at hi
  subst hi
  refine wpOp_wp rfl (by rfl) ?_
  go_simp
  refine (hty.out x2).mono ?_
  rintro e x3 ⟨rfl, hb⟩
  replace HR := Lib.hid (DigAt.below HR.out hb)
  replace HCc := Lib.hid (CAt.below HCc.out hb)
  replace HK := Lib.hid (KC.below HK.out hb)
  replace HB := Lib.hid (HB.out.trans (Below.mono hb HB.out.size))
  replace HX := Lib.hid (DigAt.below HX.out hb)
  replace HY := Lib.hid (DigAt.below HY.out hb)
  clear hb hS
  have hS : SC3 w.heap.size ak c (w.heap.size + 1) x (w.heap.size + 2) y x3 := ⟨HCc.out, HX.out, HY.out⟩
  refine ⟨hS, ?_⟩
  try simp only [List.getElem_toArray, List.getElem_cons_succ, List.getElem_cons_zero, Act.put, List.setIfInBounds_toArray, List.set_cons_zero, List.set_cons_succ]
  refine wpAnyH_take (i := 7) (v := ?_) rfl (by kernel_rfl) (by kernel_rfl) (by kernel_rfl) (fun _ _ _ h => h) (Or.inl ⟨by rfl, ?_⟩) hS ?_
  rotate_left
  · intro v _; go_simp; first | done | with_reducible rfl
  rotate_left
  simp only [List.getElem_toArray, List.getElem_cons_succ, List.getElem_cons_zero, Act.put, List.setIfInBounds_toArray, List.set_cons_zero, List.set_cons_succ]
  clear hA2 hB2
  refine wpAnyH_all (rs := [8]) (by kernel_rfl) (by simp) ?_
  intro i hi
  simp only [List.mem_cons, List.not_mem_nil, or_false] at hi
  subst hi
  refine wpOp_wp rfl (by rfl) ?_
  go_simp
  refine (hcall.out x3 HK.out).mono ?_
  rintro e x4 ⟨rfl, hb⟩
  replace HR := Lib.hid (DigAt.below HR.out hb)
  replace HCc := Lib.hid (CAt.below HCc.out hb)
  replace HK := Lib.hid (KC.below HK.out hb)
  replace HB := Lib.hid (HB.out.trans (Below.mono hb HB.out.size))
  replace HX := Lib.hid (DigAt.below HX.out hb)
  replace HY := Lib.hid (DigAt.below HY.out hb)
  clear hb hS
  have hS : SC3 w.heap.size ak c (w.heap.size + 1) x (w.heap.size + 2) y x4 := ⟨HCc.out, HX.out, HY.out⟩
  refine ⟨hS, ?_⟩
  try simp only [List.getElem_toArray, List.getElem_cons_succ, List.getElem_cons_zero, Act.put, List.setIfInBounds_toArray, List.set_cons_zero, List.set_cons_succ]
  refine wpAnyH_all (rs := [9]) (by kernel_rfl) (by simp) ?_
  intro i hi
  simp only [List.mem_cons, List.not_mem_nil, or_false] at hi
  subst hi
  refine wpOp_wp rfl (by rfl) ?_
  refine wp_store_dig (.tmp 6) (.tmp 15) rfl (w.heap.size + 3) rfl D hl.out rfl _ _ HR.out zrow ?_
  intro x5 h9 hk9 hB9 hs9
  have hS : SC3 w.heap.size ak c (w.heap.size + 1) x (w.heap.size + 2) y x5 := by
    refine ⟨?_, ?_, ?_⟩
    · unfold CAt; rw [hk9 _ (by omega)]; exact HCc.out
    · unfold DigAt; rw [hk9 _ (by omega)]; exact HX.out
    · unfold DigAt; rw [hk9 _ (by omega)]; exact HY.out
  refine ⟨hS, ?_⟩
  try simp only [List.getElem_toArray, List.getElem_cons_succ, List.getElem_cons_zero, Act.put, List.setIfInBounds_toArray, List.set_cons_zero, List.set_cons_succ]
  refine wpAnyH_done (by kernel_rfl) ?_ _
  go_wp2_with fail
  refine bodyPost_ret (v := .agg (Lib.byteCells D).toArray) ?_ rfl ⟨rfl, hB9 HB.out (by omega)⟩
  simp [results, Tryd.results36, asAddr, run_load_dig h9.out hl.out, Act.put]
end Go.Proofs.YtldpnmebjnkjeaaDoor.TrW
namespace Go.Proofs.YtldpnmebjnkjeaaDoor.TrW
open Go.RowKit Go.Proofs.YtldpnmebjnkjeaaDoorW.PrintWords Go.Proofs.YtldpnmebjnkjeaaDoor.PH1 Go.Proofs.YtldpnmebjnkjeaaDoor Go.Proofs.YtldpnmebjnkjeaaDoorW.PrintLast Go.Proofs.YtldpnmebjnkjeaaDoorW.PrintMore
open Go.Proofs.YtldpnmebjnkjeaaDoor.Sha
open Go.Proofs.YtldpnmebjnkjeaaDoor.Ref10 (wp_store_dig wp_load_dig wpOp_wp range_row yieldsIf_cell agg9 agg56 CV CAt KC run_load_C)
set_option linter.unusedVariables false
set_option linter.unusedSimpArgs false

set_option maxHeartbeats 8000000 in
set_option maxRecDepth 100000 in
theorem rroot_none (ak : Addr) (c : Nat) (A : Option Addr) (c1 : Nat) (w : World) (hK : KC w ak) :
    Calls Tryd.prog 38 #[cv ak c, .slice A 0 c1] w fun e w' => e = .returned (.agg (Lib.byteCells (Tr.root alg [])).toArray) ∧ Below w.heap.size w w' := by
  rw [show Tr.root alg [] = sumL [] from Tr.root_nil alg]
  have hcall := fun W hk => rsum_calls ak c ⟨#[]⟩ (by decide) W hk
  have hl := Lib.hid (sumL_len [])
  rw [show (⟨#[]⟩ : ByteArray).data.toList = [] from rfl] at hcall
  generalize sumL [] = D at hl hcall ⊢
  replace hcall := Lib.hid hcall
  unfold cv at *
  go_enter Tryd.func38, Tryd.ntmps38
  go_upto_region 1 with fail
  generalize hw1 : World.alloc _ _ = w1
  have HCc : Hid (CAt w.heap.size (.slice (some ak) 64 c) v0 w1) := by
    rw [← hw1]; refine Lib.hid ?_
    unfold CAt
    rw [Below.heap_alloc _ _ _ (by simp)]
    exact heap_alloc_last _ _
  have HR : Hid (DigAt (w.heap.size + 1) (List.replicate 32 0) w1) := by
    rw [← hw1]; refine Lib.hid ?_; unfold DigAt; exact heap_at1 _ _ _
  have HB : Hid (Below w.heap.size w w1) := by
    rw [← hw1]; exact Lib.hid (((Below.refl _ _).alloc (Nat.le_refl _) _).alloc (by simp) _)
  have HK := Lib.hid (hK.below HB.out)
  clear hw1 hK
  go_wp2_with (guard_target = wpList _ _ _ (⟨some 9, _, _, _, _, _⟩ :: _) _ _; refine wpList_load_C rfl (.tmp 2) rfl w.heap.size rfl _ _ HCc.out ?_)
  refine (hcall.out w1 HK.out).mono ?_
  rintro e w2 ⟨rfl, hb⟩
  replace HR := Lib.hid (DigAt.below HR.out hb)
  replace HCc := Lib.hid (CAt.below HCc.out hb)
  replace HK := Lib.hid (KC.below HK.out hb)
  replace HB := Lib.hid (HB.out.trans (Below.mono hb HB.out.size))
  clear hb
  go_wp2_with (guard_target = wpList _ _ _ (⟨none, _, _, _, _, _⟩ :: _) _ _; refine wpList_store_dig rfl (.tmp 4) (.tmp 10) rfl (w.heap.size + 1) rfl D hl.out rfl _ _ HR.out zrow ?_; intro w9 h9 _ hB9)
  refine bodyPost_ret (v := .agg (Lib.byteCells D).toArray) ?_ rfl ⟨rfl, hB9 HB.out (by omega)⟩
  simp [results, Tryd.results38, asAddr, run_load_dig h9.out hl.out, Act.put]
def SCs (b : Nat) (ak : Addr) (c : Nat) (ad : Addr) (s : ByteArray) (W : World) : Prop := CAt b (.slice (some ak) 64 c) v0 W ∧ W.cell? ad = some (.string s)
set_option maxHeartbeats 8000000 in
set_option maxRecDepth 100000 in
theorem rroot_single (ak : Addr) (c : Nat) (A : Option Addr) (c1 : Nat) (s : ByteArray) (hs : s.size ≤ 1048575) (w : World) (hC : Kd.C Kd.string w A 1 [s]) (hK : KC w ak) :
    Calls Tryd.prog 38 #[cv ak c, .slice A 1 c1] w fun e w' => e = .returned (.agg (Lib.byteCells (Tr.root alg [s.data.toList])).toArray) ∧ Below w.heap.size w w' := by
  rw [show Tr.root alg [s.data.toList] = leafP s.data.toList from Tr.root_one alg _]
  obtain ⟨ad, rfl, _⟩ := Kd.at_string hC 0 (by omega) (by omega)
  have hcell : Hid (∀ W, Below w.heap.size w W → W.cell? ad = some (.string s)) := Lib.hid fun W hb => by
    obtain ⟨ad2, h1, hc⟩ := Kd.at_string (Kd.C_below hC hb) 0 (by omega) (by omega)
    cases h1
    rw [show ad.add ((0 : Int).toNat) = ad by unfold Addr.add; simp] at hc
    exact hc
  have hcall := fun W hk => rleaf_calls ak c s hs W hk
  have hl : Hid ((leafP s.data.toList).length = 32) := Lib.hid (sumL_len _)
  generalize leafP s.data.toList = D at hl hcall ⊢
  replace hcall := Lib.hid hcall
  replace hC := Lib.hid hC
  unfold cv at *
  go_enter Tryd.func38, Tryd.ntmps38
  go_upto_region 1 with fail
  generalize hw1 : World.alloc _ _ = w1
  have HCc : Hid (CAt w.heap.size (.slice (some ak) 64 c) v0 w1) := by
    rw [← hw1]; refine Lib.hid ?_
    unfold CAt
    rw [Below.heap_alloc _ _ _ (by simp)]
    exact heap_alloc_last _ _
  have HR : Hid (DigAt (w.heap.size + 1) (List.replicate 32 0) w1) := by
    rw [← hw1]; refine Lib.hid ?_; unfold DigAt; exact heap_at1 _ _ _
  have HB : Hid (Below w.heap.size w w1) := by
    rw [← hw1]; exact Lib.hid (((Below.refl _ _).alloc (Nat.le_refl _) _).alloc (by simp) _)
  have HK := Lib.hid (hK.below HB.out)
  clear hw1 hK
  go_upto_region 4 with fail
  refine wp_region_held (S := (SCs w.heap.size ak c ad s)) (by kernel_rfl) ?_
  change wpAnyH _ _ _ _ _ _ _ _ w1.drew
  have hdr : Below w1.heap.size w1 w1.drew := (Below.refl _ _).drew
  replace HR := Lib.hid (DigAt.below HR.out hdr)
  replace HCc := Lib.hid (CAt.below HCc.out hdr)
  replace HK := Lib.hid (KC.below HK.out hdr)
  replace HB := Lib.hid (HB.out.trans (Below.mono hdr HB.out.size))
  clear hdr
  generalize w1.drew = x0 at HR HCc HK HB ⊢
  have hS : SCs w.heap.size ak c ad s x0 := ⟨HCc.out, hcell.out x0 HB.out⟩
  refine wpAnyH_take (i := 0) (v := _) rfl (by kernel_rfl) (by kernel_rfl) (by kernel_rfl) (fun _ _ _ h => h) (yieldsIf_C (by rfl) (.tmp 2) rfl w.heap.size rfl _ _ (fun _ h => h.1)) hS ?_
  try simp only [List.getElem_toArray, List.getElem_cons_succ, List.getElem_cons_zero, Act.put, List.setIfInBounds_toArray, List.set_cons_zero, List.set_cons_succ]
  refine wpAnyH_take (i := 1) (v := ?_) rfl (by kernel_rfl) (by kernel_rfl) (by kernel_rfl) (fun _ _ _ h => h) (Or.inl ⟨by rfl, ?_⟩) hS ?_
  rotate_left
  · intro v _; go_simp; first | done | with_reducible rfl
  rotate_left
  simp only [List.getElem_toArray, List.getElem_cons_succ, List.getElem_cons_zero, Act.put, List.setIfInBounds_toArray, List.set_cons_zero, List.set_cons_succ]
  refine wpAnyH_take (i := 2) (v := ?_) rfl (by kernel_rfl) (by kernel_rfl) (by kernel_rfl) (fun _ _ _ h => h) (Or.inl ⟨by rfl, ?_⟩) hS ?_
  rotate_left
  · intro v _; go_simp; first | done | with_reducible rfl
  rotate_left
  simp only [List.getElem_toArray, List.getElem_cons_succ, List.getElem_cons_zero, Act.put, List.setIfInBounds_toArray, List.set_cons_zero, List.set_cons_succ]
  refine wpAnyH_take (i := 3) (v := _) rfl (by kernel_rfl) (by kernel_rfl) (by kernel_rfl) (fun _ _ _ h => h) (yieldsIf_cell (by rfl) 9 (.tmp 16) rfl ad rfl (.string s) agg9 (fun _ h => h.2)) hS ?_
  simp only [List.getElem_toArray, List.getElem_cons_succ, List.getElem_cons_zero, Act.put, List.setIfInBounds_toArray, List.set_cons_zero, List.set_cons_succ]
  refine wpAnyH_all (rs := [4]) (by kernel_rfl) (by simp) ?_
  intro i hi
  simp only [List.mem_cons, List.not_mem_nil, or_false] at hi
  subst hi
  refine wpOp_wp rfl (by rfl) ?_
  go_simp
  refine (hcall.out x0 HK.out).mono ?_
  rintro e x1 ⟨rfl, hb⟩
  replace HR := Lib.hid (DigAt.below HR.out hb)
  replace HCc := Lib.hid (CAt.below HCc.out hb)
  replace HK := Lib.hid (KC.below HK.out hb)
  replace HB := Lib.hid (HB.out.trans (Below.mono hb HB.out.size))
  clear hb hS
  have hS : SCs w.heap.size ak c ad s x1 := ⟨HCc.out, hcell.out x1 HB.out⟩
  refine ⟨hS, ?_⟩
  try simp only [List.getElem_toArray, List.getElem_cons_succ, List.getElem_cons_zero, Act.put, List.setIfInBounds_toArray, List.set_cons_zero, List.set_cons_succ]
  refine wpAnyH_all (rs := [5]) (by kernel_rfl) (by simp) ?_
  intro i hi
  simp only [List.mem_cons, List.not_mem_nil, or_false] at hi
  subst hi
  refine wpOp_wp rfl (by rfl) ?_
  refine wp_store_dig (.tmp 4) (.tmp 18) rfl (w.heap.size + 1) rfl D hl.out rfl _ _ HR.out zrow ?_
  intro x2 h9 hk9 hB9 hs9
  have hS : SCs w.heap.size ak c ad s x2 := ⟨by unfold CAt; rw [hk9 _ (by omega)]; exact HCc.out, hcell.out x2 (hB9 HB.out (by omega))⟩
  refine ⟨hS, ?_⟩
  try simp only [List.getElem_toArray, List.getElem_cons_succ, List.getElem_cons_zero, Act.put, List.setIfInBounds_toArray, List.set_cons_zero, List.set_cons_succ]
  refine wpAnyH_done (by kernel_rfl) ?_ _
  go_wp2_with fail
  refine bodyPost_ret (v := .agg (Lib.byteCells D).toArray) ?_ rfl ⟨rfl, hB9 HB.out (by omega)⟩
  simp [results, Tryd.results38, asAddr, run_load_dig h9.out hl.out, Act.put]
set_option maxHeartbeats 8000000 in
set_option maxRecDepth 100000 in
theorem rroot_calls (ak : Addr) (c : Nat) : ∀ (m : Nat) (A : Option Addr) (c1 : Nat) (L : List ByteArray) (w : World), L.length ≤ m → L.length ≤ 1024 → Small L → L.length ≤ c1 → Kd.C Kd.string w A L.length L → KC w ak →
    Calls Tryd.prog 38 #[cv ak c, .slice A L.length c1] w fun e w' => e = .returned (.agg (Lib.byteCells (Tr.root alg (bl L))).toArray) ∧ Below w.heap.size w w' := by
  intro m
  induction m with
  | zero =>
    intro A c1 L w hm hL hS hc hC hK
    obtain rfl : L = [] := List.eq_nil_of_length_eq_zero (by omega)
    exact rroot_none ak c A c1 w hK
  | succ m ih =>
    intro A c1 L w hm hL hS hc hC hK
    match L, hm, hL, hS, hc, hC with
    | [], _, _, _, _, _ => exact rroot_none ak c A c1 w hK
    | [s], _, _, hS, _, hC => exact rroot_single ak c A c1 s (hS s (by simp)) w hC hK
    | x :: y :: r, hm, hL, hS, hc, hC =>
      generalize hLL : x :: y :: r = L at hm hL hS hc hC ⊢
      have h2 : 2 ≤ L.length := by rw [← hLL]; simp
      clear hLL x y r
      have h3 := Tr.sp_lt h2
      have h4 := Tr.sp_pos L.length
      have hj : Tr.root alg (bl L) = joinP (Tr.root alg (bl (L.take (Tr.sp L.length)))) (Tr.root alg (bl (L.drop (Tr.sp L.length)))) := by
        rw [Tr.root_join alg (bl L) (by rw [bl_len]; exact h2), bl_len, bl_take, bl_drop]
        rfl
      rw [hj]
      clear hj
      have hsp := fun W => rsplit_calls L.length hL W
      have hi1 : (L.length == 0) = false := by rw [beq_eq_false_iff_ne]; omega
      have hi2 : (L.length == 1) = false := by rw [beq_eq_false_iff_ne]; omega
      have hi3 : ((L.length : Int) == 0) = false := by rw [beq_eq_false_iff_ne]; omega
      have hi4 : ((L.length : Int) == 1) = false := by rw [beq_eq_false_iff_ne]; omega
      obtain ⟨k, hk⟩ : ∃ k, k = Tr.sp L.length := ⟨_, rfl⟩
      rw [← hk] at h3 h4 hsp ⊢
      replace hk := Lib.hid hk
      have tk1 := fun W => cut_take (A := A) (c := c1) (L := L) k (by omega) hc W
      obtain ⟨A', dk1, dk2, dk3⟩ := cut_drop (A := A) (c := c1) (L := L) k (by omega) hc
      have hc1 := fun W hC hk => ih A c1 (L.take k) W (by rw [List.length_take]; omega) (by rw [List.length_take]; omega) (hS.take k) (by rw [List.length_take]; omega) hC hk
      have hc2 := fun W hC hk => ih A' (c1 - k) (L.drop k) W (by rw [List.length_drop]; omega) (by rw [List.length_drop]; omega) (hS.drop k) dk3 hC hk
      have hCt := Kd.C_take (m := k) hC (by omega)
      have hCd := dk2 w hC
      have l1 := rlen (bl (L.take k))
      have l2 := rlen (bl (L.drop k))
      have hjn := fun W hk => rjoin_calls ak c _ _ l1 l2 W hk
      have hl : (joinP (Tr.root alg (bl (L.take k))) (Tr.root alg (bl (L.drop k)))).length = 32 := sumL_len _
      generalize joinP (Tr.root alg (bl (L.take k))) (Tr.root alg (bl (L.drop k))) = D at hjn hl ⊢
      generalize Tr.root alg (bl (L.take k)) = D1 at hc1 l1 hjn
      generalize Tr.root alg (bl (L.drop k)) = D2 at hc2 l2 hjn
      obtain ⟨L1, hL1⟩ : ∃ L1, L1 = L.take k := ⟨_, rfl⟩
      obtain ⟨L2, hL2⟩ : ∃ L2, L2 = L.drop k := ⟨_, rfl⟩
      rw [← hL1] at tk1 hc1 hCt
      rw [← hL2] at dk1 hc2 hCd
      clear hL1 hL2 dk3
      replace hjn := Lib.hid hjn
      replace hc1 := Lib.hid hc1
      replace hc2 := Lib.hid hc2
      replace tk1 := Lib.hid tk1
      replace dk1 := Lib.hid dk1
      replace hsp := Lib.hid hsp
      replace hl := Lib.hid hl
      replace l1 := Lib.hid l1
      replace l2 := Lib.hid l2
      replace hCt := Lib.hid hCt
      replace hCd := Lib.hid hCd
      replace hC := Lib.hid hC
      replace hS := Lib.hid hS
      clear ih dk2
      unfold cv at *
      go_enter Tryd.func38, Tryd.ntmps38
      go_upto_region 1 with fail
      generalize hw1 : World.alloc _ _ = w1
      have HCc : Hid (CAt w.heap.size (.slice (some ak) 64 c) v0 w1) := by
        rw [← hw1]; refine Lib.hid ?_
        unfold CAt
        rw [Below.heap_alloc _ _ _ (by simp)]
        exact heap_alloc_last _ _
      have HR : Hid (DigAt (w.heap.size + 1) (List.replicate 32 0) w1) := by
        rw [← hw1]; refine Lib.hid ?_; unfold DigAt; exact heap_at1 _ _ _
      have HB : Hid (Below w.heap.size w w1) := by
        rw [← hw1]; exact Lib.hid (((Below.refl _ _).alloc (Nat.le_refl _) _).alloc (by simp) _)
      have HK := Lib.hid (hK.below HB.out)
      clear hw1 hK
      go_wp2_with fail
      refine (hsp.out w1).mono ?_
      rintro e w2 ⟨rfl, hb⟩
      replace hb := hb.below
      replace HR := Lib.hid (DigAt.below HR.out hb)
      replace HCc := Lib.hid (CAt.below HCc.out hb)
      replace HK := Lib.hid (KC.below HK.out hb)
      replace HB := Lib.hid (HB.out.trans (Below.mono hb HB.out.size))
      clear hb
      go_upto_region 6 with fail
      clear hS
      refine wp_region_held (S := (SC w.heap.size ak c)) (by kernel_rfl) ?_
      change wpAnyH _ _ _ _ _ _ _ _ w2.drew
      have hdr : Below w2.heap.size w2 w2.drew := (Below.refl _ _).drew
      replace HR := Lib.hid (DigAt.below HR.out hdr)
      replace HCc := Lib.hid (CAt.below HCc.out hdr)
      replace HK := Lib.hid (KC.below HK.out hdr)
      replace HB := Lib.hid (HB.out.trans (Below.mono hdr HB.out.size))
      clear hdr
      generalize w2.drew = x0 at HR HCc HK HB ⊢
      have hS : SC w.heap.size ak c x0 := HCc.out
      refine wpAnyH_take (i := 0) (v := _) rfl (by kernel_rfl) (by kernel_rfl) (by kernel_rfl) (fun _ _ _ h => h) (yieldsIf_C (by rfl) (.tmp 2) rfl w.heap.size rfl _ _ (fun _ h => h)) hS ?_
      try simp only [List.getElem_toArray, List.getElem_cons_succ, List.getElem_cons_zero, Act.put, List.setIfInBounds_toArray, List.set_cons_zero, List.set_cons_succ]
      refine wpAnyH_take (i := 1) (v := _) rfl (by kernel_rfl) (by kernel_rfl) (by kernel_rfl) (fun _ _ _ h => h) (yieldsIf_C (by rfl) (.tmp 2) rfl w.heap.size rfl _ _ (fun _ h => h)) hS ?_
      try simp only [List.getElem_toArray, List.getElem_cons_succ, List.getElem_cons_zero, Act.put, List.setIfInBounds_toArray, List.set_cons_zero, List.set_cons_succ]
      refine wpAnyH_take (i := 2) (v := ?_) rfl (by kernel_rfl) (by kernel_rfl) (by kernel_rfl) (fun _ _ _ h => h) (Or.inl ⟨by rfl, ?_⟩) hS ?_
      rotate_left
      · intro v _; go_simp; first | done | with_reducible rfl
      rotate_left
      simp only [List.getElem_toArray, List.getElem_cons_succ, List.getElem_cons_zero, Act.put, List.setIfInBounds_toArray, List.set_cons_zero, List.set_cons_succ]
      refine wpAnyH_take (i := 3) (v := ?_) rfl (by kernel_rfl) (by kernel_rfl) (by kernel_rfl) (fun _ _ _ h => h) (Or.inl ⟨by rfl, ?_⟩) hS ?_
      rotate_left
      · intro v _; go_simp; first | done | with_reducible rfl
      rotate_left
      simp only [List.getElem_toArray, List.getElem_cons_succ, List.getElem_cons_zero, Act.put, List.setIfInBounds_toArray, List.set_cons_zero, List.set_cons_succ]
      refine wpAnyH_take (i := 4) (v := _) rfl (by kernel_rfl) (by kernel_rfl) (by kernel_rfl) (fun _ _ _ h => h) (yieldsIf_slice (by rfl) und_strs' rfl (.slice A L.length c1) rfl none (some (.int .i64 k)) rfl rfl _ tk1.out) hS ?_
      try simp only [List.getElem_toArray, List.getElem_cons_succ, List.getElem_cons_zero, Act.put, List.setIfInBounds_toArray, List.set_cons_zero, List.set_cons_succ]
      refine wpAnyH_take (i := 6) (v := _) rfl (by kernel_rfl) (by kernel_rfl) (by kernel_rfl) (fun _ _ _ h => h) (yieldsIf_C (by rfl) (.tmp 2) rfl w.heap.size rfl _ _ (fun _ h => h)) hS ?_
      try simp only [List.getElem_toArray, List.getElem_cons_succ, List.getElem_cons_zero, Act.put, List.setIfInBounds_toArray, List.set_cons_zero, List.set_cons_succ]
      refine wpAnyH_take (i := 7) (v := ?_) rfl (by kernel_rfl) (by kernel_rfl) (by kernel_rfl) (fun _ _ _ h => h) (Or.inl ⟨by rfl, ?_⟩) hS ?_
      rotate_left
      · intro v _; go_simp; first | done | with_reducible rfl
      rotate_left
      simp only [List.getElem_toArray, List.getElem_cons_succ, List.getElem_cons_zero, Act.put, List.setIfInBounds_toArray, List.set_cons_zero, List.set_cons_succ]
      refine wpAnyH_take (i := 8) (v := ?_) rfl (by kernel_rfl) (by kernel_rfl) (by kernel_rfl) (fun _ _ _ h => h) (Or.inl ⟨by rfl, ?_⟩) hS ?_
      rotate_left
      · intro v _; go_simp; first | done | with_reducible rfl
      rotate_left
      simp only [List.getElem_toArray, List.getElem_cons_succ, List.getElem_cons_zero, Act.put, List.setIfInBounds_toArray, List.set_cons_zero, List.set_cons_succ]
      refine wpAnyH_take (i := 9) (v := _) rfl (by kernel_rfl) (by kernel_rfl) (by kernel_rfl) (fun _ _ _ h => h) (yieldsIf_slice (by rfl) und_strs' rfl (.slice A L.length c1) rfl (some (.int .i64 k)) none rfl rfl _ dk1.out) hS ?_
      try simp only [List.getElem_toArray, List.getElem_cons_succ, List.getElem_cons_zero, Act.put, List.setIfInBounds_toArray, List.set_cons_zero, List.set_cons_succ]
      refine wpAnyH_all (rs := [5]) (by kernel_rfl) (by simp) ?_
      intro i hi
      simp only [List.mem_cons, List.not_mem_nil, or_false] at hi
      subst hi
      refine wpOp_wp rfl (by rfl) ?_
      go_simp
      refine (hc1.out x0 (Kd.C_below hCt.out HB.out) HK.out).mono ?_
      rintro e x1 ⟨rfl, hb⟩
      replace HR := Lib.hid (DigAt.below HR.out hb)
      replace HCc := Lib.hid (CAt.below HCc.out hb)
      replace HK := Lib.hid (KC.below HK.out hb)
      replace HB := Lib.hid (HB.out.trans (Below.mono hb HB.out.size))
      clear hb hS
      have hS : SC w.heap.size ak c x1 := HCc.out
      refine ⟨hS, ?_⟩
      try simp only [List.getElem_toArray, List.getElem_cons_succ, List.getElem_cons_zero, Act.put, List.setIfInBounds_toArray, List.set_cons_zero, List.set_cons_succ]
      refine wpAnyH_all (rs := [10]) (by kernel_rfl) (by simp) ?_
      intro i hi
      simp only [List.mem_cons, List.not_mem_nil, or_false] at hi
      subst hi
      refine wpOp_wp rfl (by rfl) ?_
      go_simp
      refine (hc2.out x1 (Kd.C_below hCd.out HB.out) HK.out).mono ?_
      rintro e x2 ⟨rfl, hb⟩
      replace HR := Lib.hid (DigAt.below HR.out hb)
      replace HCc := Lib.hid (CAt.below HCc.out hb)
      replace HK := Lib.hid (KC.below HK.out hb)
      replace HB := Lib.hid (HB.out.trans (Below.mono hb HB.out.size))
      clear hb hS
      have hS : SC w.heap.size ak c x2 := HCc.out
      refine ⟨hS, ?_⟩
      try simp only [List.getElem_toArray, List.getElem_cons_succ, List.getElem_cons_zero, Act.put, List.setIfInBounds_toArray, List.set_cons_zero, List.set_cons_succ]
      refine wpAnyH_all (rs := [11]) (by kernel_rfl) (by simp) ?_
      intro i hi
      simp only [List.mem_cons, List.not_mem_nil, or_false] at hi
      subst hi
      refine wpOp_wp rfl (by rfl) ?_
      go_simp
      refine (hjn.out x2 HK.out).mono ?_
      rintro e x3 ⟨rfl, hb⟩
      replace HR := Lib.hid (DigAt.below HR.out hb)
      replace HCc := Lib.hid (CAt.below HCc.out hb)
      replace HK := Lib.hid (KC.below HK.out hb)
      replace HB := Lib.hid (HB.out.trans (Below.mono hb HB.out.size))
      clear hb hS
      have hS : SC w.heap.size ak c x3 := HCc.out
      refine ⟨hS, ?_⟩
      try simp only [List.getElem_toArray, List.getElem_cons_succ, List.getElem_cons_zero, Act.put, List.setIfInBounds_toArray, List.set_cons_zero, List.set_cons_succ]
      refine wpAnyH_all (rs := [12]) (by kernel_rfl) (by simp) ?_
      intro i hi
      simp only [List.mem_cons, List.not_mem_nil, or_false] at hi
      subst hi
      refine wpOp_wp rfl (by rfl) ?_
      refine wp_store_dig (.tmp 4) (.tmp 33) rfl (w.heap.size + 1) rfl D hl.out rfl _ _ HR.out zrow ?_
      intro x4 h9 hk9 hB9 hs9
      have hS : SC w.heap.size ak c x4 := by unfold SC CAt; rw [hk9 _ (by omega)]; exact HCc.out
      refine ⟨hS, ?_⟩
      try simp only [List.getElem_toArray, List.getElem_cons_succ, List.getElem_cons_zero, Act.put, List.setIfInBounds_toArray, List.set_cons_zero, List.set_cons_succ]
      refine wpAnyH_done (by kernel_rfl) ?_ _
      go_wp2_with fail
      refine bodyPost_ret (v := .agg (Lib.byteCells D).toArray) ?_ rfl ⟨rfl, hB9 HB.out (by omega)⟩
      simp [results, Tryd.results38, asAddr, run_load_dig h9.out hl.out, Act.put]
end Go.Proofs.YtldpnmebjnkjeaaDoor.TrW
namespace Go.Proofs.YtldpnmebjnkjeaaDoor.TrW
open Go.RowKit Go.Proofs.YtldpnmebjnkjeaaDoorW.PrintWords Go.Proofs.YtldpnmebjnkjeaaDoor.PH1 Go.Proofs.YtldpnmebjnkjeaaDoor Go.Proofs.YtldpnmebjnkjeaaDoorW.PrintLast Go.Proofs.YtldpnmebjnkjeaaDoorW.PrintMore
open Go.Proofs.YtldpnmebjnkjeaaDoor.Sha
open Go.Proofs.YtldpnmebjnkjeaaDoor.Ref10 (wp_store_dig wp_load_dig wpOp_wp range_row yieldsIf_cell agg9 agg56)
set_option linter.unusedVariables false
set_option linter.unusedSimpArgs false

theorem fits_of {L : List ByteArray} (h : fitsB L = true) : L.length ≤ 24 ∧ ∀ s ∈ L, s.size ≤ 1200 := by
  unfold fitsB at h
  rw [Bool.and_eq_true, decide_eq_true_eq] at h
  refine ⟨h.1, fun s hs => ?_⟩
  have h2 : L.any fitB = false := by simpa using h.2
  rw [List.any_eq_false] at h2
  have := h2 s hs
  unfold fitB at this
  simp at this
  omega
end Go.Proofs.YtldpnmebjnkjeaaDoor.TrW
namespace Go.Proofs.YtldpnmebjnkjeaaDoor.TrW
open Go.RowKit Go.Proofs.YtldpnmebjnkjeaaDoorW.PrintWords Go.Proofs.YtldpnmebjnkjeaaDoor.PH1 Go.Proofs.YtldpnmebjnkjeaaDoor Go.Proofs.YtldpnmebjnkjeaaDoorW.PrintLast Go.Proofs.YtldpnmebjnkjeaaDoorW.PrintMore
open Go.Proofs.YtldpnmebjnkjeaaDoor.Sha
set_option linter.unusedVariables false
set_option linter.unusedSimpArgs false

theorem run_buildSlice_0 (W : World) :
    (Instr.buildSlice 61 0 #[]).run Tryd.prog W = .ok (.slice (some ⟨W.heap.size, 0, none⟩) 0 0) (W.alloc (.cells #[] 24)) := by
  obtain ⟨i, hi, hz⟩ := Option.map_eq_some_iff.1 info_digest
  simp only [Prod.mk.injEq] at hz
  obtain ⟨hz0, hz1, hz2⟩ := hz
  unfold Instr.buildSlice
  simp [run_underlying Tryd.underlying61, run_sizeOf W hi, hz1, zeroValue, typeInfo, hi, hz0]
  rw [Instr.fill]
  simp only [newRow]
  have e : ∀ f : Nat → Value, Array.map f (Array.range 0) = #[] := fun f => Array.eq_empty_of_size_eq_zero (by simp)
  rw [e]
  rfl
theorem RD.zero {w : World} (b : Nat) (hb : b ≤ w.heap.size) : RD b (.slice (some ⟨w.heap.size, 0, none⟩) 0 0) [] (w.alloc (.cells #[] 24)) := by
  refine ⟨fun _ _ => trivial, [], ?_, ⟨by simp, fun j z hz => by simp at hz⟩⟩
  have h2 := World.ownsRow_lit (base := b) (e := 24) (size := 32) w #[] 0 hb (by decide) (by simp)
  have h3 : (w.alloc (.cells #[] 24)).ownsRow b 24 32 (.slice (some ⟨w.heap.size, 0, none⟩) 0 0) 0 [] := by simpa using h2
  exact h3
theorem RD.step {b : Nat} {v : Value} {xs : List (List UInt8)} {w w1 : World} (h : RD b v xs w) (hm : ∀ k, v.ownBlock = some k → w1.heap[k]? = w.heap[k]?) : RD b v xs w1 := by
  obtain ⟨h0, inner, ho, hr⟩ := h
  have h2 : kDig.R 24 w b (fun k => v.ownBlock = some k) v xs := ⟨fun k hk => hk, inner, ho, hr.imp_ (fun p c hp => by obtain ⟨h3, h4⟩ := kDig_K (kDig.K_of_M hp); rw [h4]; exact kDig_M _ _ _ h3)⟩
  exact Kd.R_mono (Kd.R_move h2 hm) (fun _ _ => trivial)
end Go.Proofs.YtldpnmebjnkjeaaDoor.TrW
namespace Go.Proofs.YtldpnmebjnkjeaaDoor.TrW
open Go.RowKit Go.Proofs.YtldpnmebjnkjeaaDoorW.PrintWords Go.Proofs.YtldpnmebjnkjeaaDoor.PH1 Go.Proofs.YtldpnmebjnkjeaaDoor Go.Proofs.YtldpnmebjnkjeaaDoorW.PrintLast Go.Proofs.YtldpnmebjnkjeaaDoorW.PrintMore
open Go.Proofs.YtldpnmebjnkjeaaDoor.Sha
set_option linter.unusedVariables false
set_option linter.unusedSimpArgs false

theorem wp_buildSlice_0 {o : Oper} {a : Act} {K : Act → World → Prop} {Q : Exit → Act → World → Prop} {w : World} (ho : o.op = .buildSlice 61 0 #[])
    (h : ∀ w', Hid (RD w.heap.size (.slice (some ⟨w.heap.size, 0, none⟩) 0 0) [] w') → Below w.heap.size w w' → w'.heap.size = w.heap.size + 1 → K (a.put o.dst (.slice (some ⟨w.heap.size, 0, none⟩) 0 0)) w') : o.wp Tryd.prog a w K Q := by
  unfold Oper.wp execOp
  simp only [ho, List.map_toArray, List.map_nil]
  rw [Sem.run_bind, run_buildSlice_0 w]
  exact h _ (Lib.hid (RD.zero _ (Nat.le_refl _))) ((Below.refl _ _).alloc (Nat.le_refl _) _) (by simp)
theorem wp_buildSlice_1 {o : Oper} {a : Act} {K : Act → World → Prop} {Q : Exit → Act → World → Prop} {w : World} (x : Operand) (ho : o.op = .buildSlice 61 1 #[(0, x)])
    (l : List UInt8) (hl : l.length = 32) (hx : a.eval x = .agg (Lib.byteCells l).toArray)
    (h : ∀ w', Hid (RD w.heap.size (.slice (some ⟨w.heap.size, 0, none⟩) 1 1) [l] w') → Below w.heap.size w w' → w'.heap.size = w.heap.size + 1 → K (a.put o.dst (.slice (some ⟨w.heap.size, 0, none⟩) 1 1)) w') : o.wp Tryd.prog a w K Q := by
  unfold Oper.wp execOp
  simp only [ho, List.map_toArray, List.map_cons, List.map_nil, hx]
  rw [Sem.run_bind, run_buildSlice_dig w l hl]
  exact h _ (Lib.hid (RD.one l hl _ (Nat.le_refl _))) ((Below.refl _ _).alloc (Nat.le_refl _) _) (by simp)
theorem wp_append_digs {o : Oper} {a : Act} {K : Act → World → Prop} {Q : Exit → Act → World → Prop} {W : World} (hgd : o.guard = none) (s x : Operand) (ho : o.op = .call { callee := .builtin .append, args := #[s, x], argTypes := #[61, 61] })
    {b : Nat} {w0 : World} (v : Value) (xs ys : List (List UInt8)) (A : Option Addr) (m c : Nat) (hm : m = ys.length) (hs : a.eval s = v) (hx : a.eval x = .slice A m c) (HO : RD b v xs W) (HR : CD A ys W) (HB : Below b w0 W) (hbase : b ≤ W.heap.size) (hl : xs.length + ys.length ≤ 1000000)
    (h : ∀ v1 w1, Hid (RD b v1 (xs ++ ys) w1) → Below b w0 w1 → Hid (W.grownBy w1 v.ownBlock) → K (a.put o.dst v1) w1) : o.wp Tryd.prog a W K Q := by
  subst hm
  have hw : Region.wanted o (yielded #[] a.tmps) = true := by unfold Region.wanted; rw [hgd]
  have h1 := Kd.R_append_rows_step (P := Tryd.prog) (ops := #[]) (o := o) (a := a) (Q := Q) (Kc := K) kDig (Rr := kDig.K W) b hw s x 61 24 (.agg (Lib.byteCells (List.replicate 32 0)).toArray) 32 ho Tryd.underlying61 info_digest rfl (by decide) (by decide) v xs ys A ys.length c (fun _ => True) (fun _ => False) hs hx HO HR
    (fun x cs hx => by obtain ⟨h3, h4⟩ := kDig_K hx; rw [h4]; exact kDig_M _ _ _ h3) (fun _ hk => hk.elim) (fun _ _ => trivial) HB hbase (by omega) (fun v1 w1 h1 h2 h3 _ => h v1 w1 (Lib.hid h1) h2 (Lib.hid h3))
  rw [if_pos hw] at h1
  exact h1
/-- Another row of digests of its own stays. -/
theorem RD.grown {b : Nat} {v : Value} {xs : List (List UInt8)} {w w1 : World} {row : Option Nat} (h : RD b v xs w) (hg : w.grownBy w1 row) (hne : ∀ k, v.ownBlock = some k → some k ≠ row) : RD b v xs w1 := h.step fun k hk => hg.block k (h.lt k hk) (hne k hk)
end Go.Proofs.YtldpnmebjnkjeaaDoor.TrW
