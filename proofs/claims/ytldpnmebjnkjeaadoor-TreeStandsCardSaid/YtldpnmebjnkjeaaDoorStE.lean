/-
  Lemmas for the last text of this claim, merged out of several texts.
-/
import Derived.Test.YtldpnmebjnkjeaaDoorStD
import Derived.Test.YtldpnmebjnkjeaaDoorRows
import Derived.ProofKit
import Derived.OpenShut
import Derived.Deep.DeepHandedRow
import Derived.Lib.LaidTab
import Derived.Lib.LaidU8
import Derived.ChangeArms
import Derived.ChangeSame
import Derived.ChangeSlices
import Derived.WideShapes
namespace Go.Proofs.YtldpnmebjnkjeaaDoor.TrW
open Go.RowKit Go.Proofs.YtldpnmebjnkjeaaDoorW.PrintWords Go.Proofs.YtldpnmebjnkjeaaDoor.PH1 Go.Proofs.YtldpnmebjnkjeaaDoor Go.Proofs.YtldpnmebjnkjeaaDoorW.PrintLast Go.Proofs.YtldpnmebjnkjeaaDoorW.PrintMore
open Go.Proofs.YtldpnmebjnkjeaaDoor.Sha
open Go.Proofs.YtldpnmebjnkjeaaDoor.Ref10 (wp_store_dig wp_load_dig wpOp_wp range_row)
set_option linter.unusedVariables false
set_option linter.unusedSimpArgs false
def S2d (b : Nat) (x : List UInt8) (c : Nat) (y : List UInt8) (W : World) : Prop := DigAt b x W ∧ DigAt c y W
set_option maxHeartbeats 16000000 in
set_option maxRecDepth 100000 in
theorem alive_calls (w : World) (hK : KAt w) : Calls Tryd.prog 30 #[] w fun e w' => e = .returned (.bool true) ∧ Below w.heap.size w w' := by
  have kla := fun W hk => tleaf_calls ⟨#[97]⟩ (by decide) W hk
  have klb := fun W hk => tleaf_calls ⟨#[98]⟩ (by decide) W hk
  have klc := fun W hk => tleaf_calls ⟨#[99]⟩ (by decide) W hk
  have hla : la.length = 32 := sumL_len _
  have hlb : lb.length = 32 := sumL_len _
  have hlc : lc.length = 32 := sumL_len _
  have htw : (joinP la lb).length = 32 := sumL_len _
  have hrt : (joinP (joinP la lb) lc).length = 32 := sumL_len _
  have kjab := fun W hk => tjoin_calls la lb hla hlb W hk
  have kjr := fun W hk => tjoin_calls (joinP la lb) lc htw hlc W hk
  have kroot := fun (A : Option Addr) (c : Nat) (W : World) (h : Kd.C Kd.string W A 3 L3) hk => tRoot_ok A 3 L3 W h (Nat.le_refl _) wrong3 hk
  have kpath := fun (A : Option Addr) (c : Nat) (W : World) (h : Kd.C Kd.string W A 3 L3) hk => tPath_ok A 3 L3 1 W h (Nat.le_refl _) wrong3 (by decide) hk
  have kbrid := fun (A : Option Addr) (c : Nat) (W : World) (h : Kd.C Kd.string W A 3 L3) hk => tBridge_ok A 3 L3 2 W h (Nat.le_refl _) wrong3 (by decide) (by decide) hk
  have kpath3 := fun (A : Option Addr) (c : Nat) (W : World) (h : Kd.C Kd.string W A 3 L3) => tPath_arg A 3 L3 3 W h wrong3 (by decide)
  have kbrid0 := fun (A : Option Addr) (c : Nat) (W : World) (h : Kd.C Kd.string W A 3 L3) => tBridge_arg A 3 L3 0 W h wrong3 (by decide)
  have hpt := path_t
  have hpf := path_f
  have hbt := bridge_t
  have hbf := bridge_f
  rw [root3] at kroot
  rw [path3] at kpath
  rw [bridge3] at kbrid
  have hcp1 := fun (r : List UInt8) (hr : r.length = 32) (A : Option Addr) (c : Nat) (W : World) (hC : CD A [la, lc] W) (hc : 2 ≤ c) hk => tCheckPath_calls ⟨#[98]⟩ (by decide) 1 3 r hr [la, lc] A c W hC hc hk
  have hcp0 := fun (r : List UInt8) (hr : r.length = 32) (A : Option Addr) (c : Nat) (W : World) (hC : CD A [la, lc] W) (hc : 2 ≤ c) hk => tCheckPath_calls ⟨#[98]⟩ (by decide) 0 3 r hr [la, lc] A c W hC hc hk
  have hcb2 := fun (A : Option Addr) (c : Nat) (W : World) (hC : CD A [lc] W) (hc : 1 ≤ c) hk => tCheckBridge_calls 2 3 _ _ htw hrt [lc] A c W hC hc hk
  have hcb1 := fun (A : Option Addr) (c : Nat) (W : World) (hC : CD A [lc] W) (hc : 1 ≤ c) hk => tCheckBridge_calls 1 3 _ _ htw hrt [lc] A c W hC hc hk
  rw [hbt] at hcb2
  rw [hbf] at hcb1
  replace hcp1 := hcp1 _ hrt
  replace hcp0 := hcp0 _ hrt
  have e98 : (⟨#[98]⟩ : ByteArray).data.toList = [98] := rfl
  rw [e98, hpt] at hcp1
  rw [e98, hpf] at hcp0
  have hne := ab_ne
  rw [show leafP (⟨#[97]⟩ : ByteArray).data.toList = la from rfl] at kla
  rw [show leafP (⟨#[98]⟩ : ByteArray).data.toList = lb from rfl] at klb
  rw [show leafP (⟨#[99]⟩ : ByteArray).data.toList = lc from rfl] at klc
  clear hpt hpf hbt hbf e98
  generalize joinP (joinP la lb) lc = R at *
  generalize joinP la lb = T at *
  generalize la = ya at *
  generalize lb = yb at *
  generalize lc = yc at *
  have heq : ∀ W : World, (Op.equalIn 10000 24 (.agg (Lib.byteCells ya).toArray) (.agg (Lib.byteCells yb).toArray)).run Tryd.prog W = .ok false W := fun W => by
    rw [eq32 W ya yb hla hlb, decF hne]
  have heqr : ∀ W : World, (Op.equalIn 10000 24 (.agg (Lib.byteCells R).toArray) (.agg (Lib.byteCells R).toArray)).run Tryd.prog W = .ok true W := fun W => by
    rw [eq32 W R R hrt hrt, decT rfl]
  replace hla := Lib.hid hla
  replace hlb := Lib.hid hlb
  replace hlc := Lib.hid hlc
  replace htw := Lib.hid htw
  replace hrt := Lib.hid hrt
  replace hne := Lib.hid hne
  replace heq := Lib.hid heq
  replace heqr := Lib.hid heqr
  replace kla := Lib.hid kla
  replace klb := Lib.hid klb
  replace klc := Lib.hid klc
  replace kjab := Lib.hid kjab
  replace kjr := Lib.hid kjr
  replace kroot := Lib.hid kroot
  replace kpath := Lib.hid kpath
  replace kbrid := Lib.hid kbrid
  replace kpath3 := Lib.hid kpath3
  replace kbrid0 := Lib.hid kbrid0
  replace hcp1 := Lib.hid hcp1
  replace hcp0 := Lib.hid hcp0
  replace hcb2 := Lib.hid hcb2
  replace hcb1 := Lib.hid hcb1
  go_enter Tryd.func30, Tryd.ntmps30
  go_upto_region 2 with fail
  generalize hw1 : w.alloc _ = w1
  have HC : Hid (Kd.C Kd.string w1 (some ⟨w.heap.size, 0, none⟩) 3 L3) := by
    rw [← hw1]; exact Lib.hid (RS.lit L3 _ (Nat.le_refl _) (by decide) _ rfl)
  have HB : Hid (Below w.heap.size w w1) := by
    rw [← hw1]; exact Lib.hid ((Below.refl _ _).alloc (Nat.le_refl _) _)
  have HK : Hid (KAt w1) := Lib.hid (hK.below HB.out)
  clear hw1 hK
  obtain ⟨A1, hA1⟩ : ∃ A, A = some (⟨w.heap.size, 0, none⟩ : Addr) := ⟨_, rfl⟩
  rw [← hA1] at HC ⊢
  replace hA1 := Lib.hid hA1
  go_wp2_with fail
  refine (kroot.out A1 0 w1 HC.out HK.out).mono ?_
  rintro e w2 ⟨rfl, hb_⟩
  replace HC := Lib.hid (Kd.C_below HC.out hb_)
  replace HK := Lib.hid (HK.out.below hb_)
  replace HB := Lib.hid (HB.out.trans (Below.mono hb_ HB.out.size))
  clear hb_
  go_upto_region 3 with (guard_target = wpList _ _ _ (⟨none, _, _, _, _, _⟩ :: _) _ _; refine wpList_store_dig rfl (.tmp 2) (.tmp 21) rfl w2.heap.size rfl R hrt.out rfl _ _ (heap_alloc_last _ _) zrow ?_; intro w3 h3 _ hB3)
  have hb3 : Below w2.heap.size w2 w3 := hB3 ((Below.refl _ _).alloc (Nat.le_refl _) _) (Nat.le_refl _)
  have H2 : Hid (DigAt w2.heap.size R w3) := h3
  replace HC := Lib.hid (Kd.C_below HC.out hb3)
  replace HK := Lib.hid (HK.out.below hb3)
  replace HB := Lib.hid (HB.out.trans (Below.mono hb3 HB.out.size))
  clear hb3 hB3 h3
  generalize w2.heap.size = b2 at H2 ⊢
  go_wp2_with fail
  refine (kpath.out A1 0 w3 HC.out HK.out).mono ?_
  rintro e w4 ⟨v, rfl, hv, hb_⟩
  obtain ⟨A4, c4, rfl, hc4, H4⟩ := hv.reads
  replace H4 := Lib.hid H4
  replace hc4 := Lib.hid hc4
  replace HC := Lib.hid (Kd.C_below HC.out hb_)
  replace HK := Lib.hid (HK.out.below hb_)
  replace HB := Lib.hid (HB.out.trans (Below.mono hb_ HB.out.size))
  replace H2 := Lib.hid (DigAt.below H2.out hb_)
  clear hb_ hv
  go_wp2_with fail
  refine (kbrid.out A1 0 w4 HC.out HK.out).mono ?_
  rintro e w5 ⟨v, rfl, hv, hb_⟩
  obtain ⟨A6, c6, rfl, hc6, H6⟩ := hv.reads
  replace H6 := Lib.hid H6
  replace hc6 := Lib.hid hc6
  replace HC := Lib.hid (Kd.C_below HC.out hb_)
  replace HK := Lib.hid (HK.out.below hb_)
  replace HB := Lib.hid (HB.out.trans (Below.mono hb_ HB.out.size))
  replace H2 := Lib.hid (DigAt.below H2.out hb_)
  replace H4 := Lib.hid (CD.below H4.out hb_)
  clear hb_ hv
  go_wp2_with fail
  refine (kla.out w5 HK.out).mono ?_
  rintro e w6 ⟨rfl, hb_⟩
  replace HC := Lib.hid (Kd.C_below HC.out hb_)
  replace HK := Lib.hid (HK.out.below hb_)
  replace HB := Lib.hid (HB.out.trans (Below.mono hb_ HB.out.size))
  replace H2 := Lib.hid (DigAt.below H2.out hb_)
  replace H4 := Lib.hid (CD.below H4.out hb_)
  replace H6 := Lib.hid (CD.below H6.out hb_)
  clear hb_
  go_wp2_with fail
  refine (klb.out w6 HK.out).mono ?_
  rintro e w7 ⟨rfl, hb_⟩
  replace HC := Lib.hid (Kd.C_below HC.out hb_)
  replace HK := Lib.hid (HK.out.below hb_)
  replace HB := Lib.hid (HB.out.trans (Below.mono hb_ HB.out.size))
  replace H2 := Lib.hid (DigAt.below H2.out hb_)
  replace H4 := Lib.hid (CD.below H4.out hb_)
  replace H6 := Lib.hid (CD.below H6.out hb_)
  clear hb_
  go_wp2_with fail
  refine (kjab.out w7 HK.out).mono ?_
  rintro e w8 ⟨rfl, hb_⟩
  replace HC := Lib.hid (Kd.C_below HC.out hb_)
  replace HK := Lib.hid (HK.out.below hb_)
  replace HB := Lib.hid (HB.out.trans (Below.mono hb_ HB.out.size))
  replace H2 := Lib.hid (DigAt.below H2.out hb_)
  replace H4 := Lib.hid (CD.below H4.out hb_)
  replace H6 := Lib.hid (CD.below H6.out hb_)
  clear hb_
  go_upto_region 6 with (guard_target = wpList _ _ _ (⟨none, _, _, _, _, _⟩ :: _) _ _; refine wpList_store_dig rfl (.tmp 8) (.tmp 35) rfl w8.heap.size rfl T htw.out rfl _ _ (heap_alloc_last _ _) zrow ?_; intro w9 h9 _ hB9)
  have hb9 : Below w8.heap.size w8 w9 := hB9 ((Below.refl _ _).alloc (Nat.le_refl _) _) (Nat.le_refl _)
  have H8 : Hid (DigAt w8.heap.size T w9) := h9
  replace HC := Lib.hid (Kd.C_below HC.out hb9)
  replace HK := Lib.hid (HK.out.below hb9)
  replace HB := Lib.hid (HB.out.trans (Below.mono hb9 HB.out.size))
  replace H2 := Lib.hid (DigAt.below H2.out hb9)
  replace H4 := Lib.hid (CD.below H4.out hb9)
  replace H6 := Lib.hid (CD.below H6.out hb9)
  clear hb9 hB9 h9
  generalize w8.heap.size = b8 at H8 ⊢
  go_wp2_with fail
  refine (kpath3.out A1 0 w9 HC.out).mono ?_
  rintro e w10 ⟨rfl, hb_⟩
  replace HC := Lib.hid (Kd.C_below HC.out hb_)
  replace HK := Lib.hid (HK.out.below hb_)
  replace HB := Lib.hid (HB.out.trans (Below.mono hb_ HB.out.size))
  replace H2 := Lib.hid (DigAt.below H2.out hb_)
  replace H4 := Lib.hid (CD.below H4.out hb_)
  replace H6 := Lib.hid (CD.below H6.out hb_)
  replace H8 := Lib.hid (DigAt.below H8.out hb_)
  clear hb_
  go_wp2_with fail
  refine (kbrid0.out A1 0 w10 HC.out).mono ?_
  rintro e w11 ⟨rfl, hb_⟩
  replace HC := Lib.hid (Kd.C_below HC.out hb_)
  replace HK := Lib.hid (HK.out.below hb_)
  replace HB := Lib.hid (HB.out.trans (Below.mono hb_ HB.out.size))
  replace H2 := Lib.hid (DigAt.below H2.out hb_)
  replace H4 := Lib.hid (CD.below H4.out hb_)
  replace H6 := Lib.hid (CD.below H6.out hb_)
  replace H8 := Lib.hid (DigAt.below H8.out hb_)
  clear hb_
  go_wp2_with (guard_target = wpList _ _ _ (⟨some 47, _, _, _, _, _⟩ :: _) _ _; refine Kd.R_make Kd.string w.heap.size 9 rfl rfl 53 _ _ rfl 1025 rfl rfl und_strs (.string ⟨#[]⟩) 16 (by kernel_rfl) rfl (by decide) (by decide) ⟨#[]⟩ (ok := fun _ => True) (okp := fun _ => False) rfl (fun _ h => h.elim) trivial (by decide) (by decide) HB.out HB.out.size ?_; intro v12 w12 HR HB12 hg12 _)
  have hb12 : Below w11.heap.size w11 w12 := pw_below_grown (Below.refl _ _) none (Nat.le_refl _) hg12 (fun _ h => by cases h)
  replace HC := Lib.hid (Kd.C_below HC.out hb12)
  replace HK := Lib.hid (HK.out.below hb12)
  replace HB := Lib.hid (HB.out.trans (Below.mono hb12 HB.out.size))
  replace H2 := Lib.hid (DigAt.below H2.out hb12)
  replace H4 := Lib.hid (CD.below H4.out hb12)
  replace H6 := Lib.hid (CD.below H6.out hb12)
  replace H8 := Lib.hid (DigAt.below H8.out hb12)
  clear hb12 hg12 HB12
  obtain ⟨A12, c12, rfl, hc12, HC12⟩ := Kd.R_reads HR
  rw [show (1025 : Int).toNat = 1025 from rfl] at HC12 hc12 ⊢
  rw [List.length_replicate] at hc12 ⊢
  have kbad := tRoot_bad A12 c12 (List.replicate 1025 ⟨#[]⟩) w12 HC12 wrong1025
  rw [List.length_replicate] at kbad
  replace kbad := Lib.hid kbad
  clear HR HC12 hc12
  go_wp2_with fail
  refine (kbad.out).mono ?_
  rintro e w13 ⟨rfl, hb_⟩
  replace HC := Lib.hid (Kd.C_below HC.out hb_)
  replace HK := Lib.hid (HK.out.below hb_)
  replace HB := Lib.hid (HB.out.trans (Below.mono hb_ HB.out.size))
  replace H2 := Lib.hid (DigAt.below H2.out hb_)
  replace H4 := Lib.hid (CD.below H4.out hb_)
  replace H6 := Lib.hid (CD.below H6.out hb_)
  replace H8 := Lib.hid (DigAt.below H8.out hb_)
  clear hb_
  clear kbad
  go_upto_region 9 with (guard_target = wpList _ _ _ (⟨none, _, _, _, _, _⟩ :: _) _ _; refine wpList_store_dig rfl (.tmp 13) (.tmp 49) rfl w13.heap.size rfl (List.replicate 32 0) rfl rfl _ _ (heap_alloc_last _ _) zrow ?_; intro w14 h14 _ hB14)
  have hb14 : Below w13.heap.size w13 w14 := hB14 ((Below.refl _ _).alloc (Nat.le_refl _) _) (Nat.le_refl _)
  replace HC := Lib.hid (Kd.C_below HC.out hb14)
  replace HK := Lib.hid (HK.out.below hb14)
  replace HB := Lib.hid (HB.out.trans (Below.mono hb14 HB.out.size))
  replace H2 := Lib.hid (DigAt.below H2.out hb14)
  replace H4 := Lib.hid (CD.below H4.out hb14)
  replace H6 := Lib.hid (CD.below H6.out hb14)
  replace H8 := Lib.hid (DigAt.below H8.out hb14)
  clear hb14 hB14 h14
  generalize w13.heap.size = b13
  go_wp2_with fail
  refine (kla.out w14 HK.out).mono ?_
  rintro e w15 ⟨rfl, hb_⟩
  replace HC := Lib.hid (Kd.C_below HC.out hb_)
  replace HK := Lib.hid (HK.out.below hb_)
  replace HB := Lib.hid (HB.out.trans (Below.mono hb_ HB.out.size))
  replace H2 := Lib.hid (DigAt.below H2.out hb_)
  replace H4 := Lib.hid (CD.below H4.out hb_)
  replace H6 := Lib.hid (CD.below H6.out hb_)
  replace H8 := Lib.hid (DigAt.below H8.out hb_)
  clear hb_
  go_wp2_with fail
  refine (klc.out w15 HK.out).mono ?_
  rintro e w16 ⟨rfl, hb_⟩
  replace HC := Lib.hid (Kd.C_below HC.out hb_)
  replace HK := Lib.hid (HK.out.below hb_)
  replace HB := Lib.hid (HB.out.trans (Below.mono hb_ HB.out.size))
  replace H2 := Lib.hid (DigAt.below H2.out hb_)
  replace H4 := Lib.hid (CD.below H4.out hb_)
  replace H6 := Lib.hid (CD.below H6.out hb_)
  replace H8 := Lib.hid (DigAt.below H8.out hb_)
  clear hb_
  go_wp2_with (guard_target = wpList _ _ _ (⟨some 54, _, _, _, _, _⟩ :: _) _ _; refine wpList_buildSlice_dig2 rfl (.tmp 52) (.tmp 53) rfl ya yc hla.out hlc.out rfl rfl ?_)
  generalize hw17 : w16.alloc _ = w17
  have HR : RD w16.heap.size (.slice (some ⟨w16.heap.size, 0, none⟩) 2 2) [ya, yc] w17 := by
    rw [← hw17]; exact RD.two ya yc hla.out hlc.out _ (Nat.le_refl _)
  have hb17 : Below w16.heap.size w16 w17 := by rw [← hw17]; exact (Below.refl _ _).alloc (Nat.le_refl _) _
  replace HC := Lib.hid (Kd.C_below HC.out hb17)
  replace HK := Lib.hid (HK.out.below hb17)
  replace HB := Lib.hid (HB.out.trans (Below.mono hb17 HB.out.size))
  replace H2 := Lib.hid (DigAt.below H2.out hb17)
  replace H4 := Lib.hid (CD.below H4.out hb17)
  replace H6 := Lib.hid (CD.below H6.out hb17)
  replace H8 := Lib.hid (DigAt.below H8.out hb17)
  clear hw17 hb17
  obtain ⟨A17, c17, hv17, hc17, H17⟩ := HR.reads
  rw [hv17]
  clear hv17 HR
  have ksame := same_calls A4 A17 c4 c17 [ya, yc] [ya, yc] w17 H4.out H17
  rw [decT rfl] at ksame
  replace ksame := Lib.hid ksame
  clear H17 hc17
  refine (ksame.out).mono ?_
  rintro e w18 ⟨rfl, hb_⟩
  replace HC := Lib.hid (Kd.C_below HC.out hb_)
  replace HK := Lib.hid (HK.out.below hb_)
  replace HB := Lib.hid (HB.out.trans (Below.mono hb_ HB.out.size))
  replace H2 := Lib.hid (DigAt.below H2.out hb_)
  replace H4 := Lib.hid (CD.below H4.out hb_)
  replace H6 := Lib.hid (CD.below H6.out hb_)
  replace H8 := Lib.hid (DigAt.below H8.out hb_)
  clear hb_
  clear ksame
  go_wp2_with fail
  refine (klc.out w18 HK.out).mono ?_
  rintro e w19 ⟨rfl, hb_⟩
  replace HC := Lib.hid (Kd.C_below HC.out hb_)
  replace HK := Lib.hid (HK.out.below hb_)
  replace HB := Lib.hid (HB.out.trans (Below.mono hb_ HB.out.size))
  replace H2 := Lib.hid (DigAt.below H2.out hb_)
  replace H4 := Lib.hid (CD.below H4.out hb_)
  replace H6 := Lib.hid (CD.below H6.out hb_)
  replace H8 := Lib.hid (DigAt.below H8.out hb_)
  clear hb_
  go_wp2_with (guard_target = wpList _ _ _ (⟨some 58, _, _, _, _, _⟩ :: _) _ _; refine wpList_buildSlice_dig rfl (.tmp 57) rfl yc hlc.out rfl ?_)
  generalize hw20 : w19.alloc _ = w20
  have HR : RD w19.heap.size (.slice (some ⟨w19.heap.size, 0, none⟩) 1 1) [yc] w20 := by
    rw [← hw20]; exact RD.one yc hlc.out _ (Nat.le_refl _)
  have hb20 : Below w19.heap.size w19 w20 := by rw [← hw20]; exact (Below.refl _ _).alloc (Nat.le_refl _) _
  replace HC := Lib.hid (Kd.C_below HC.out hb20)
  replace HK := Lib.hid (HK.out.below hb20)
  replace HB := Lib.hid (HB.out.trans (Below.mono hb20 HB.out.size))
  replace H2 := Lib.hid (DigAt.below H2.out hb20)
  replace H4 := Lib.hid (CD.below H4.out hb20)
  replace H6 := Lib.hid (CD.below H6.out hb20)
  replace H8 := Lib.hid (DigAt.below H8.out hb20)
  clear hw20 hb20
  obtain ⟨A20, c20, hv20, hc20, H20⟩ := HR.reads
  rw [hv20]
  clear hv20 HR
  have ksame := same_calls A6 A20 c6 c20 [yc] [yc] w20 H6.out H20
  rw [decT rfl] at ksame
  replace ksame := Lib.hid ksame
  clear H20 hc20
  refine (ksame.out).mono ?_
  rintro e w21 ⟨rfl, hb_⟩
  replace HC := Lib.hid (Kd.C_below HC.out hb_)
  replace HK := Lib.hid (HK.out.below hb_)
  replace HB := Lib.hid (HB.out.trans (Below.mono hb_ HB.out.size))
  replace H2 := Lib.hid (DigAt.below H2.out hb_)
  replace H4 := Lib.hid (CD.below H4.out hb_)
  replace H6 := Lib.hid (CD.below H6.out hb_)
  replace H8 := Lib.hid (DigAt.below H8.out hb_)
  clear hb_
  clear ksame
  go_wp2_with fail
  refine wp_region_held (S := S2d b2 R b8 T) (by kernel_rfl) ?_
  change wpAnyH _ _ _ _ _ _ _ _ w21.drew
  replace HC : Hid (Kd.C Kd.string w21.drew A1 3 L3) := HC
  replace HK : Hid (KAt w21.drew) := HK
  replace HB := Lib.hid HB.out.drew
  replace H2 : Hid (DigAt b2 R w21.drew) := H2
  replace H8 : Hid (DigAt b8 T w21.drew) := H8
  replace H4 : Hid (CD A4 [ya, yc] w21.drew) := H4
  replace H6 : Hid (CD A6 [yc] w21.drew) := H6
  generalize w21.drew = x21 at HC HK HB H2 H8 H4 H6 ⊢
  have hS : S2d b2 R b8 T x21 := ⟨H2.out, H8.out⟩
  refine wpAnyH_take (i := 0) (v := ?_) rfl (by kernel_rfl) (by kernel_rfl) (by kernel_rfl) (fun _ _ _ h => h) (Or.inl ⟨by rfl, ?_⟩) hS ?_
  rotate_left
  · intro v _; go_simp; first | done | with_reducible rfl
  rotate_left
  simp only [List.getElem_toArray, List.getElem_cons_succ, List.getElem_cons_zero, Act.put, List.setIfInBounds_toArray, List.set_cons_zero, List.set_cons_succ]
  refine wpAnyH_take (i := 1) (v := ?_) rfl (by kernel_rfl) (by kernel_rfl) (by kernel_rfl) (fun _ _ _ h => h) (Or.inl ⟨by rfl, ?_⟩) hS ?_
  rotate_left
  · intro v _; go_simp; first | done | with_reducible rfl
  rotate_left
  simp only [List.getElem_toArray, List.getElem_cons_succ, List.getElem_cons_zero, Act.put, List.setIfInBounds_toArray, List.set_cons_zero, List.set_cons_succ]
  refine wpAnyH_take (i := 2) (v := ?_) rfl (by kernel_rfl) (by kernel_rfl) (by kernel_rfl) (fun _ _ _ h => h) (Or.inl ⟨by rfl, ?_⟩) hS ?_
  rotate_left
  · intro v _; go_simp; first | done | with_reducible rfl
  rotate_left
  simp only [List.getElem_toArray, List.getElem_cons_succ, List.getElem_cons_zero, Act.put, List.setIfInBounds_toArray, List.set_cons_zero, List.set_cons_succ]
  refine wpAnyH_take (i := 3) (v := _) rfl (by kernel_rfl) (by kernel_rfl) (by kernel_rfl) (fun _ _ _ h => h) (yieldsIf_digA (by rfl) (.tmp 2) rfl ⟨b2,0,none⟩ rfl R hrt.out (fun _ h => (DigAt.ad h.1))) hS ?_
  try simp only [List.getElem_toArray, List.getElem_cons_succ, List.getElem_cons_zero, Act.put, List.setIfInBounds_toArray, List.set_cons_zero, List.set_cons_succ]
  refine wpAnyH_take (i := 4) (v := _) rfl (by kernel_rfl) (by kernel_rfl) (by kernel_rfl) (fun _ _ _ h => h) (yieldsIf_digA (by rfl) (.tmp 8) rfl ⟨b8,0,none⟩ rfl T htw.out (fun _ h => (DigAt.ad h.2))) hS ?_
  try simp only [List.getElem_toArray, List.getElem_cons_succ, List.getElem_cons_zero, Act.put, List.setIfInBounds_toArray, List.set_cons_zero, List.set_cons_succ]
  refine wpAnyH_all (rs := [5]) (by kernel_rfl) (by simp) ?_
  intro i hi
  simp only [List.mem_cons, List.not_mem_nil, or_false] at hi
  subst hi
  refine wpOp_wp rfl (by rfl) ?_
  go_simp
  refine (klc.out x21 HK.out).mono ?_
  rintro e x22 ⟨rfl, hb_⟩
  replace HC := Lib.hid (Kd.C_below HC.out hb_)
  replace HK := Lib.hid (HK.out.below hb_)
  replace HB := Lib.hid (HB.out.trans (Below.mono hb_ HB.out.size))
  replace H2 := Lib.hid (DigAt.below H2.out hb_)
  replace H4 := Lib.hid (CD.below H4.out hb_)
  replace H6 := Lib.hid (CD.below H6.out hb_)
  replace H8 := Lib.hid (DigAt.below H8.out hb_)
  clear hb_ hS
  have hS : S2d b2 R b8 T x22 := ⟨H2.out, H8.out⟩
  refine ⟨hS, ?_⟩
  try simp only [List.getElem_toArray, List.getElem_cons_succ, List.getElem_cons_zero, Act.put, List.setIfInBounds_toArray, List.set_cons_zero, List.set_cons_succ]
  refine wpAnyH_all (rs := [6]) (by kernel_rfl) (by simp) ?_
  intro i hi
  simp only [List.mem_cons, List.not_mem_nil, or_false] at hi
  subst hi
  refine wpOp_wp rfl (by rfl) ?_
  go_simp
  refine (kjr.out x22 HK.out).mono ?_
  rintro e x23 ⟨rfl, hb_⟩
  replace HC := Lib.hid (Kd.C_below HC.out hb_)
  replace HK := Lib.hid (HK.out.below hb_)
  replace HB := Lib.hid (HB.out.trans (Below.mono hb_ HB.out.size))
  replace H2 := Lib.hid (DigAt.below H2.out hb_)
  replace H4 := Lib.hid (CD.below H4.out hb_)
  replace H6 := Lib.hid (CD.below H6.out hb_)
  replace H8 := Lib.hid (DigAt.below H8.out hb_)
  clear hb_ hS
  have hS : S2d b2 R b8 T x23 := ⟨H2.out, H8.out⟩
  refine ⟨hS, ?_⟩
  try simp only [List.getElem_toArray, List.getElem_cons_succ, List.getElem_cons_zero, Act.put, List.setIfInBounds_toArray, List.set_cons_zero, List.set_cons_succ]
  have heqR := heqr.out
  refine wpAnyH_take (i := 7) (v := ?_) rfl (by kernel_rfl) (by kernel_rfl) (by kernel_rfl) (fun _ _ _ h => h) (Or.inl ⟨by rfl, ?_⟩) hS ?_
  rotate_left
  · intro v _; go_simp; first | done | with_reducible rfl
  rotate_left
  simp only [List.getElem_toArray, List.getElem_cons_succ, List.getElem_cons_zero, Act.put, List.setIfInBounds_toArray, List.set_cons_zero, List.set_cons_succ]
  clear heqR
  refine wpAnyH_take (i := 8) (v := ?_) rfl (by kernel_rfl) (by kernel_rfl) (by kernel_rfl) (fun _ _ _ h => h) (Or.inl ⟨by rfl, ?_⟩) hS ?_
  rotate_left
  · intro v _; go_simp; first | done | with_reducible rfl
  rotate_left
  simp only [List.getElem_toArray, List.getElem_cons_succ, List.getElem_cons_zero, Act.put, List.setIfInBounds_toArray, List.set_cons_zero, List.set_cons_succ]
  refine wpAnyH_take (i := 9) (v := ?_) rfl (by kernel_rfl) (by kernel_rfl) (by kernel_rfl) (fun _ _ _ h => h) (Or.inl ⟨by rfl, ?_⟩) hS ?_
  rotate_left
  · intro v _; go_simp; first | done | with_reducible rfl
  rotate_left
  simp only [List.getElem_toArray, List.getElem_cons_succ, List.getElem_cons_zero, Act.put, List.setIfInBounds_toArray, List.set_cons_zero, List.set_cons_succ]
  refine wpAnyH_take (i := 10) (v := ?_) rfl (by kernel_rfl) (by kernel_rfl) (by kernel_rfl) (fun _ _ _ h => h) (Or.inl ⟨by rfl, ?_⟩) hS ?_
  rotate_left
  · intro v _; go_simp; first | done | with_reducible rfl
  rotate_left
  simp only [List.getElem_toArray, List.getElem_cons_succ, List.getElem_cons_zero, Act.put, List.setIfInBounds_toArray, List.set_cons_zero, List.set_cons_succ]
  refine wpAnyH_take (i := 11) (v := ?_) rfl (by kernel_rfl) (by kernel_rfl) (by kernel_rfl) (fun _ _ _ h => h) (Or.inl ⟨by rfl, ?_⟩) hS ?_
  rotate_left
  · intro v _; go_simp; first | done | with_reducible rfl
  rotate_left
  simp only [List.getElem_toArray, List.getElem_cons_succ, List.getElem_cons_zero, Act.put, List.setIfInBounds_toArray, List.set_cons_zero, List.set_cons_succ]
  refine wpAnyH_take (i := 12) (v := ?_) rfl (by kernel_rfl) (by kernel_rfl) (by kernel_rfl) (fun _ _ _ h => h) (Or.inl ⟨by rfl, ?_⟩) hS ?_
  rotate_left
  · intro v _; go_simp; first | done | with_reducible rfl
  rotate_left
  simp only [List.getElem_toArray, List.getElem_cons_succ, List.getElem_cons_zero, Act.put, List.setIfInBounds_toArray, List.set_cons_zero, List.set_cons_succ]
  refine wpAnyH_take (i := 13) (v := ?_) rfl (by kernel_rfl) (by kernel_rfl) (by kernel_rfl) (fun _ _ _ h => h) (Or.inl ⟨by rfl, ?_⟩) hS ?_
  rotate_left
  · intro v _; go_simp; first | done | with_reducible rfl
  rotate_left
  simp only [List.getElem_toArray, List.getElem_cons_succ, List.getElem_cons_zero, Act.put, List.setIfInBounds_toArray, List.set_cons_zero, List.set_cons_succ]
  refine wpAnyH_take (i := 14) (v := ?_) rfl (by kernel_rfl) (by kernel_rfl) (by kernel_rfl) (fun _ _ _ h => h) (Or.inl ⟨by rfl, ?_⟩) hS ?_
  rotate_left
  · intro v _; go_simp; first | done | with_reducible rfl
  rotate_left
  simp only [List.getElem_toArray, List.getElem_cons_succ, List.getElem_cons_zero, Act.put, List.setIfInBounds_toArray, List.set_cons_zero, List.set_cons_succ]
  refine wpAnyH_take (i := 15) (v := ?_) rfl (by kernel_rfl) (by kernel_rfl) (by kernel_rfl) (fun _ _ _ h => h) (Or.inl ⟨by rfl, ?_⟩) hS ?_
  rotate_left
  · intro v _; go_simp; first | done | with_reducible rfl
  rotate_left
  simp only [List.getElem_toArray, List.getElem_cons_succ, List.getElem_cons_zero, Act.put, List.setIfInBounds_toArray, List.set_cons_zero, List.set_cons_succ]
  refine wpAnyH_take (i := 16) (v := ?_) rfl (by kernel_rfl) (by kernel_rfl) (by kernel_rfl) (fun _ _ _ h => h) (Or.inl ⟨by rfl, ?_⟩) hS ?_
  rotate_left
  · intro v _; go_simp; first | done | with_reducible rfl
  rotate_left
  simp only [List.getElem_toArray, List.getElem_cons_succ, List.getElem_cons_zero, Act.put, List.setIfInBounds_toArray, List.set_cons_zero, List.set_cons_succ]
  refine wpAnyH_take (i := 17) (v := ?_) rfl (by kernel_rfl) (by kernel_rfl) (by kernel_rfl) (fun _ _ _ h => h) (Or.inl ⟨by rfl, ?_⟩) hS ?_
  rotate_left
  · intro v _; go_simp; first | done | with_reducible rfl
  rotate_left
  simp only [List.getElem_toArray, List.getElem_cons_succ, List.getElem_cons_zero, Act.put, List.setIfInBounds_toArray, List.set_cons_zero, List.set_cons_succ]
  refine wpAnyH_take (i := 18) (v := ?_) rfl (by kernel_rfl) (by kernel_rfl) (by kernel_rfl) (fun _ _ _ h => h) (Or.inl ⟨by rfl, ?_⟩) hS ?_
  rotate_left
  · intro v _; go_simp; first | done | with_reducible rfl
  rotate_left
  simp only [List.getElem_toArray, List.getElem_cons_succ, List.getElem_cons_zero, Act.put, List.setIfInBounds_toArray, List.set_cons_zero, List.set_cons_succ]
  refine wpAnyH_take (i := 19) (v := ?_) rfl (by kernel_rfl) (by kernel_rfl) (by kernel_rfl) (fun _ _ _ h => h) (Or.inl ⟨by rfl, ?_⟩) hS ?_
  rotate_left
  · intro v _; go_simp; first | done | with_reducible rfl
  rotate_left
  simp only [List.getElem_toArray, List.getElem_cons_succ, List.getElem_cons_zero, Act.put, List.setIfInBounds_toArray, List.set_cons_zero, List.set_cons_succ]
  refine wpAnyH_take (i := 20) (v := ?_) rfl (by kernel_rfl) (by kernel_rfl) (by kernel_rfl) (fun _ _ _ h => h) (Or.inl ⟨by rfl, ?_⟩) hS ?_
  rotate_left
  · intro v _; go_simp; first | done | with_reducible rfl
  rotate_left
  simp only [List.getElem_toArray, List.getElem_cons_succ, List.getElem_cons_zero, Act.put, List.setIfInBounds_toArray, List.set_cons_zero, List.set_cons_succ]
  refine wpAnyH_take (i := 21) (v := ?_) rfl (by kernel_rfl) (by kernel_rfl) (by kernel_rfl) (fun _ _ _ h => h) (Or.inl ⟨by rfl, ?_⟩) hS ?_
  rotate_left
  · intro v _; go_simp; first | done | with_reducible rfl
  rotate_left
  simp only [List.getElem_toArray, List.getElem_cons_succ, List.getElem_cons_zero, Act.put, List.setIfInBounds_toArray, List.set_cons_zero, List.set_cons_succ]
  refine wpAnyH_take (i := 22) (v := ?_) rfl (by kernel_rfl) (by kernel_rfl) (by kernel_rfl) (fun _ _ _ h => h) (Or.inl ⟨by rfl, ?_⟩) hS ?_
  rotate_left
  · intro v _; go_simp; first | done | with_reducible rfl
  rotate_left
  simp only [List.getElem_toArray, List.getElem_cons_succ, List.getElem_cons_zero, Act.put, List.setIfInBounds_toArray, List.set_cons_zero, List.set_cons_succ]
  refine wpAnyH_take (i := 23) (v := ?_) rfl (by kernel_rfl) (by kernel_rfl) (by kernel_rfl) (fun _ _ _ h => h) (Or.inl ⟨by rfl, ?_⟩) hS ?_
  rotate_left
  · intro v _; go_simp; first | done | with_reducible rfl
  rotate_left
  simp only [List.getElem_toArray, List.getElem_cons_succ, List.getElem_cons_zero, Act.put, List.setIfInBounds_toArray, List.set_cons_zero, List.set_cons_succ]
  refine wpAnyH_take (i := 24) (v := ?_) rfl (by kernel_rfl) (by kernel_rfl) (by kernel_rfl) (fun _ _ _ h => h) (Or.inl ⟨by rfl, ?_⟩) hS ?_
  rotate_left
  · intro v _; go_simp; first | done | with_reducible rfl
  rotate_left
  simp only [List.getElem_toArray, List.getElem_cons_succ, List.getElem_cons_zero, Act.put, List.setIfInBounds_toArray, List.set_cons_zero, List.set_cons_succ]
  refine wpAnyH_take (i := 25) (v := ?_) rfl (by kernel_rfl) (by kernel_rfl) (by kernel_rfl) (fun _ _ _ h => h) (Or.inl ⟨by rfl, ?_⟩) hS ?_
  rotate_left
  · intro v _; go_simp; first | done | with_reducible rfl
  rotate_left
  simp only [List.getElem_toArray, List.getElem_cons_succ, List.getElem_cons_zero, Act.put, List.setIfInBounds_toArray, List.set_cons_zero, List.set_cons_succ]
  refine wpAnyH_take (i := 26) (v := ?_) rfl (by kernel_rfl) (by kernel_rfl) (by kernel_rfl) (fun _ _ _ h => h) (Or.inl ⟨by rfl, ?_⟩) hS ?_
  rotate_left
  · intro v _; go_simp; first | done | with_reducible rfl
  rotate_left
  simp only [List.getElem_toArray, List.getElem_cons_succ, List.getElem_cons_zero, Act.put, List.setIfInBounds_toArray, List.set_cons_zero, List.set_cons_succ]
  refine wpAnyH_take (i := 27) (v := ?_) rfl (by kernel_rfl) (by kernel_rfl) (by kernel_rfl) (fun _ _ _ h => h) (Or.inl ⟨by rfl, ?_⟩) hS ?_
  rotate_left
  · intro v _; go_simp; first | done | with_reducible rfl
  rotate_left
  simp only [List.getElem_toArray, List.getElem_cons_succ, List.getElem_cons_zero, Act.put, List.setIfInBounds_toArray, List.set_cons_zero, List.set_cons_succ]
  refine wpAnyH_take (i := 28) (v := ?_) rfl (by kernel_rfl) (by kernel_rfl) (by kernel_rfl) (fun _ _ _ h => h) (Or.inl ⟨by rfl, ?_⟩) hS ?_
  rotate_left
  · intro v _; go_simp; first | done | with_reducible rfl
  rotate_left
  simp only [List.getElem_toArray, List.getElem_cons_succ, List.getElem_cons_zero, Act.put, List.setIfInBounds_toArray, List.set_cons_zero, List.set_cons_succ]
  refine wpAnyH_take (i := 29) (v := ?_) rfl (by kernel_rfl) (by kernel_rfl) (by kernel_rfl) (fun _ _ _ h => h) (Or.inl ⟨by rfl, ?_⟩) hS ?_
  rotate_left
  · intro v _; go_simp; first | done | with_reducible rfl
  rotate_left
  simp only [List.getElem_toArray, List.getElem_cons_succ, List.getElem_cons_zero, Act.put, List.setIfInBounds_toArray, List.set_cons_zero, List.set_cons_succ]
  refine wpAnyH_take (i := 30) (v := ?_) rfl (by kernel_rfl) (by kernel_rfl) (by kernel_rfl) (fun _ _ _ h => h) (Or.inl ⟨by rfl, ?_⟩) hS ?_
  rotate_left
  · intro v _; go_simp; first | done | with_reducible rfl
  rotate_left
  simp only [List.getElem_toArray, List.getElem_cons_succ, List.getElem_cons_zero, Act.put, List.setIfInBounds_toArray, List.set_cons_zero, List.set_cons_succ]
  refine wpAnyH_take (i := 31) (v := ?_) rfl (by kernel_rfl) (by kernel_rfl) (by kernel_rfl) (fun _ _ _ h => h) (Or.inl ⟨by rfl, ?_⟩) hS ?_
  rotate_left
  · intro v _; go_simp; first | done | with_reducible rfl
  rotate_left
  simp only [List.getElem_toArray, List.getElem_cons_succ, List.getElem_cons_zero, Act.put, List.setIfInBounds_toArray, List.set_cons_zero, List.set_cons_succ]
  refine wpAnyH_take (i := 32) (v := ?_) rfl (by kernel_rfl) (by kernel_rfl) (by kernel_rfl) (fun _ _ _ h => h) (Or.inl ⟨by rfl, ?_⟩) hS ?_
  rotate_left
  · intro v _; go_simp; first | done | with_reducible rfl
  rotate_left
  simp only [List.getElem_toArray, List.getElem_cons_succ, List.getElem_cons_zero, Act.put, List.setIfInBounds_toArray, List.set_cons_zero, List.set_cons_succ]
  refine wpAnyH_take (i := 33) (v := ?_) rfl (by kernel_rfl) (by kernel_rfl) (by kernel_rfl) (fun _ _ _ h => h) (Or.inl ⟨by rfl, ?_⟩) hS ?_
  rotate_left
  · intro v _; go_simp; first | done | with_reducible rfl
  rotate_left
  simp only [List.getElem_toArray, List.getElem_cons_succ, List.getElem_cons_zero, Act.put, List.setIfInBounds_toArray, List.set_cons_zero, List.set_cons_succ]
  refine wpAnyH_take (i := 34) (v := ?_) rfl (by kernel_rfl) (by kernel_rfl) (by kernel_rfl) (fun _ _ _ h => h) (Or.inl ⟨by rfl, ?_⟩) hS ?_
  rotate_left
  · intro v _; go_simp; first | done | with_reducible rfl
  rotate_left
  simp only [List.getElem_toArray, List.getElem_cons_succ, List.getElem_cons_zero, Act.put, List.setIfInBounds_toArray, List.set_cons_zero, List.set_cons_succ]
  refine wpAnyH_take (i := 35) (v := ?_) rfl (by kernel_rfl) (by kernel_rfl) (by kernel_rfl) (fun _ _ _ h => h) (Or.inl ⟨by rfl, ?_⟩) hS ?_
  rotate_left
  · intro v _; go_simp; first | done | with_reducible rfl
  rotate_left
  simp only [List.getElem_toArray, List.getElem_cons_succ, List.getElem_cons_zero, Act.put, List.setIfInBounds_toArray, List.set_cons_zero, List.set_cons_succ]
  refine wpAnyH_take (i := 36) (v := _) rfl (by kernel_rfl) (by kernel_rfl) (by kernel_rfl) (fun _ _ _ h => h) (yieldsIf_digA (by rfl) (.tmp 2) rfl ⟨b2,0,none⟩ rfl R hrt.out (fun _ h => (DigAt.ad h.1))) hS ?_
  try simp only [List.getElem_toArray, List.getElem_cons_succ, List.getElem_cons_zero, Act.put, List.setIfInBounds_toArray, List.set_cons_zero, List.set_cons_succ]
  refine wpAnyH_take (i := 37) (v := ?_) rfl (by kernel_rfl) (by kernel_rfl) (by kernel_rfl) (fun _ _ _ h => h) (Or.inl ⟨by rfl, ?_⟩) hS ?_
  rotate_left
  · intro v _; go_simp; first | done | with_reducible rfl
  rotate_left
  simp only [List.getElem_toArray, List.getElem_cons_succ, List.getElem_cons_zero, Act.put, List.setIfInBounds_toArray, List.set_cons_zero, List.set_cons_succ]
  refine wpAnyH_all (rs := [38]) (by kernel_rfl) (by simp) ?_
  intro i hi
  simp only [List.mem_cons, List.not_mem_nil, or_false] at hi
  subst hi
  refine wpOp_wp rfl (by rfl) ?_
  go_simp
  refine (hcp1.out A4 c4 x23 H4.out hc4.out HK.out).mono ?_
  rintro e x24 ⟨rfl, hb_⟩
  replace HC := Lib.hid (Kd.C_below HC.out hb_)
  replace HK := Lib.hid (HK.out.below hb_)
  replace HB := Lib.hid (HB.out.trans (Below.mono hb_ HB.out.size))
  replace H2 := Lib.hid (DigAt.below H2.out hb_)
  replace H4 := Lib.hid (CD.below H4.out hb_)
  replace H6 := Lib.hid (CD.below H6.out hb_)
  replace H8 := Lib.hid (DigAt.below H8.out hb_)
  clear hb_ hS
  have hS : S2d b2 R b8 T x24 := ⟨H2.out, H8.out⟩
  refine ⟨hS, ?_⟩
  try simp only [List.getElem_toArray, List.getElem_cons_succ, List.getElem_cons_zero, Act.put, List.setIfInBounds_toArray, List.set_cons_zero, List.set_cons_succ]
  refine wpAnyH_take (i := 39) (v := ?_) rfl (by kernel_rfl) (by kernel_rfl) (by kernel_rfl) (fun _ _ _ h => h) (Or.inl ⟨by rfl, ?_⟩) hS ?_
  rotate_left
  · intro v _; go_simp; first | done | with_reducible rfl
  rotate_left
  simp only [List.getElem_toArray, List.getElem_cons_succ, List.getElem_cons_zero, Act.put, List.setIfInBounds_toArray, List.set_cons_zero, List.set_cons_succ]
  refine wpAnyH_take (i := 40) (v := ?_) rfl (by kernel_rfl) (by kernel_rfl) (by kernel_rfl) (fun _ _ _ h => h) (Or.inl ⟨by rfl, ?_⟩) hS ?_
  rotate_left
  · intro v _; go_simp; first | done | with_reducible rfl
  rotate_left
  simp only [List.getElem_toArray, List.getElem_cons_succ, List.getElem_cons_zero, Act.put, List.setIfInBounds_toArray, List.set_cons_zero, List.set_cons_succ]
  refine wpAnyH_take (i := 41) (v := _) rfl (by kernel_rfl) (by kernel_rfl) (by kernel_rfl) (fun _ _ _ h => h) (yieldsIf_digA (by rfl) (.tmp 2) rfl ⟨b2,0,none⟩ rfl R hrt.out (fun _ h => (DigAt.ad h.1))) hS ?_
  try simp only [List.getElem_toArray, List.getElem_cons_succ, List.getElem_cons_zero, Act.put, List.setIfInBounds_toArray, List.set_cons_zero, List.set_cons_succ]
  refine wpAnyH_take (i := 42) (v := ?_) rfl (by kernel_rfl) (by kernel_rfl) (by kernel_rfl) (fun _ _ _ h => h) (Or.inl ⟨by rfl, ?_⟩) hS ?_
  rotate_left
  · intro v _; go_simp; first | done | with_reducible rfl
  rotate_left
  simp only [List.getElem_toArray, List.getElem_cons_succ, List.getElem_cons_zero, Act.put, List.setIfInBounds_toArray, List.set_cons_zero, List.set_cons_succ]
  refine wpAnyH_all (rs := [43]) (by kernel_rfl) (by simp) ?_
  intro i hi
  simp only [List.mem_cons, List.not_mem_nil, or_false] at hi
  subst hi
  refine wpOp_wp rfl (by rfl) ?_
  go_simp
  refine (hcp0.out A4 c4 x24 H4.out hc4.out HK.out).mono ?_
  rintro e x25 ⟨rfl, hb_⟩
  replace HC := Lib.hid (Kd.C_below HC.out hb_)
  replace HK := Lib.hid (HK.out.below hb_)
  replace HB := Lib.hid (HB.out.trans (Below.mono hb_ HB.out.size))
  replace H2 := Lib.hid (DigAt.below H2.out hb_)
  replace H4 := Lib.hid (CD.below H4.out hb_)
  replace H6 := Lib.hid (CD.below H6.out hb_)
  replace H8 := Lib.hid (DigAt.below H8.out hb_)
  clear hb_ hS
  have hS : S2d b2 R b8 T x25 := ⟨H2.out, H8.out⟩
  refine ⟨hS, ?_⟩
  try simp only [List.getElem_toArray, List.getElem_cons_succ, List.getElem_cons_zero, Act.put, List.setIfInBounds_toArray, List.set_cons_zero, List.set_cons_succ]
  refine wpAnyH_take (i := 44) (v := ?_) rfl (by kernel_rfl) (by kernel_rfl) (by kernel_rfl) (fun _ _ _ h => h) (Or.inl ⟨by rfl, ?_⟩) hS ?_
  rotate_left
  · intro v _; go_simp; first | done | with_reducible rfl
  rotate_left
  simp only [List.getElem_toArray, List.getElem_cons_succ, List.getElem_cons_zero, Act.put, List.setIfInBounds_toArray, List.set_cons_zero, List.set_cons_succ]
  refine wpAnyH_take (i := 45) (v := ?_) rfl (by kernel_rfl) (by kernel_rfl) (by kernel_rfl) (fun _ _ _ h => h) (Or.inl ⟨by rfl, ?_⟩) hS ?_
  rotate_left
  · intro v _; go_simp; first | done | with_reducible rfl
  rotate_left
  simp only [List.getElem_toArray, List.getElem_cons_succ, List.getElem_cons_zero, Act.put, List.setIfInBounds_toArray, List.set_cons_zero, List.set_cons_succ]
  refine wpAnyH_take (i := 46) (v := ?_) rfl (by kernel_rfl) (by kernel_rfl) (by kernel_rfl) (fun _ _ _ h => h) (Or.inl ⟨by rfl, ?_⟩) hS ?_
  rotate_left
  · intro v _; go_simp; first | done | with_reducible rfl
  rotate_left
  simp only [List.getElem_toArray, List.getElem_cons_succ, List.getElem_cons_zero, Act.put, List.setIfInBounds_toArray, List.set_cons_zero, List.set_cons_succ]
  refine wpAnyH_take (i := 47) (v := _) rfl (by kernel_rfl) (by kernel_rfl) (by kernel_rfl) (fun _ _ _ h => h) (yieldsIf_digA (by rfl) (.tmp 8) rfl ⟨b8,0,none⟩ rfl T htw.out (fun _ h => (DigAt.ad h.2))) hS ?_
  try simp only [List.getElem_toArray, List.getElem_cons_succ, List.getElem_cons_zero, Act.put, List.setIfInBounds_toArray, List.set_cons_zero, List.set_cons_succ]
  refine wpAnyH_take (i := 48) (v := _) rfl (by kernel_rfl) (by kernel_rfl) (by kernel_rfl) (fun _ _ _ h => h) (yieldsIf_digA (by rfl) (.tmp 2) rfl ⟨b2,0,none⟩ rfl R hrt.out (fun _ h => (DigAt.ad h.1))) hS ?_
  try simp only [List.getElem_toArray, List.getElem_cons_succ, List.getElem_cons_zero, Act.put, List.setIfInBounds_toArray, List.set_cons_zero, List.set_cons_succ]
  refine wpAnyH_take (i := 49) (v := ?_) rfl (by kernel_rfl) (by kernel_rfl) (by kernel_rfl) (fun _ _ _ h => h) (Or.inl ⟨by rfl, ?_⟩) hS ?_
  rotate_left
  · intro v _; go_simp; first | done | with_reducible rfl
  rotate_left
  simp only [List.getElem_toArray, List.getElem_cons_succ, List.getElem_cons_zero, Act.put, List.setIfInBounds_toArray, List.set_cons_zero, List.set_cons_succ]
  refine wpAnyH_all (rs := [50]) (by kernel_rfl) (by simp) ?_
  intro i hi
  simp only [List.mem_cons, List.not_mem_nil, or_false] at hi
  subst hi
  refine wpOp_wp rfl (by rfl) ?_
  go_simp
  refine (hcb2.out A6 c6 x25 H6.out hc6.out HK.out).mono ?_
  rintro e x26 ⟨rfl, hb_⟩
  replace HC := Lib.hid (Kd.C_below HC.out hb_)
  replace HK := Lib.hid (HK.out.below hb_)
  replace HB := Lib.hid (HB.out.trans (Below.mono hb_ HB.out.size))
  replace H2 := Lib.hid (DigAt.below H2.out hb_)
  replace H4 := Lib.hid (CD.below H4.out hb_)
  replace H6 := Lib.hid (CD.below H6.out hb_)
  replace H8 := Lib.hid (DigAt.below H8.out hb_)
  clear hb_ hS
  have hS : S2d b2 R b8 T x26 := ⟨H2.out, H8.out⟩
  refine ⟨hS, ?_⟩
  try simp only [List.getElem_toArray, List.getElem_cons_succ, List.getElem_cons_zero, Act.put, List.setIfInBounds_toArray, List.set_cons_zero, List.set_cons_succ]
  refine wpAnyH_take (i := 51) (v := ?_) rfl (by kernel_rfl) (by kernel_rfl) (by kernel_rfl) (fun _ _ _ h => h) (Or.inl ⟨by rfl, ?_⟩) hS ?_
  rotate_left
  · intro v _; go_simp; first | done | with_reducible rfl
  rotate_left
  simp only [List.getElem_toArray, List.getElem_cons_succ, List.getElem_cons_zero, Act.put, List.setIfInBounds_toArray, List.set_cons_zero, List.set_cons_succ]
  refine wpAnyH_take (i := 52) (v := ?_) rfl (by kernel_rfl) (by kernel_rfl) (by kernel_rfl) (fun _ _ _ h => h) (Or.inl ⟨by rfl, ?_⟩) hS ?_
  rotate_left
  · intro v _; go_simp; first | done | with_reducible rfl
  rotate_left
  simp only [List.getElem_toArray, List.getElem_cons_succ, List.getElem_cons_zero, Act.put, List.setIfInBounds_toArray, List.set_cons_zero, List.set_cons_succ]
  refine wpAnyH_take (i := 53) (v := _) rfl (by kernel_rfl) (by kernel_rfl) (by kernel_rfl) (fun _ _ _ h => h) (yieldsIf_digA (by rfl) (.tmp 8) rfl ⟨b8,0,none⟩ rfl T htw.out (fun _ h => (DigAt.ad h.2))) hS ?_
  try simp only [List.getElem_toArray, List.getElem_cons_succ, List.getElem_cons_zero, Act.put, List.setIfInBounds_toArray, List.set_cons_zero, List.set_cons_succ]
  refine wpAnyH_take (i := 54) (v := _) rfl (by kernel_rfl) (by kernel_rfl) (by kernel_rfl) (fun _ _ _ h => h) (yieldsIf_digA (by rfl) (.tmp 2) rfl ⟨b2,0,none⟩ rfl R hrt.out (fun _ h => (DigAt.ad h.1))) hS ?_
  try simp only [List.getElem_toArray, List.getElem_cons_succ, List.getElem_cons_zero, Act.put, List.setIfInBounds_toArray, List.set_cons_zero, List.set_cons_succ]
  refine wpAnyH_take (i := 55) (v := ?_) rfl (by kernel_rfl) (by kernel_rfl) (by kernel_rfl) (fun _ _ _ h => h) (Or.inl ⟨by rfl, ?_⟩) hS ?_
  rotate_left
  · intro v _; go_simp; first | done | with_reducible rfl
  rotate_left
  simp only [List.getElem_toArray, List.getElem_cons_succ, List.getElem_cons_zero, Act.put, List.setIfInBounds_toArray, List.set_cons_zero, List.set_cons_succ]
  refine wpAnyH_all (rs := [56]) (by kernel_rfl) (by simp) ?_
  intro i hi
  simp only [List.mem_cons, List.not_mem_nil, or_false] at hi
  subst hi
  refine wpOp_wp rfl (by rfl) ?_
  go_simp
  refine (hcb1.out A6 c6 x26 H6.out hc6.out HK.out).mono ?_
  rintro e x27 ⟨rfl, hb_⟩
  replace HC := Lib.hid (Kd.C_below HC.out hb_)
  replace HK := Lib.hid (HK.out.below hb_)
  replace HB := Lib.hid (HB.out.trans (Below.mono hb_ HB.out.size))
  replace H2 := Lib.hid (DigAt.below H2.out hb_)
  replace H4 := Lib.hid (CD.below H4.out hb_)
  replace H6 := Lib.hid (CD.below H6.out hb_)
  replace H8 := Lib.hid (DigAt.below H8.out hb_)
  clear hb_ hS
  have hS : S2d b2 R b8 T x27 := ⟨H2.out, H8.out⟩
  refine ⟨hS, ?_⟩
  try simp only [List.getElem_toArray, List.getElem_cons_succ, List.getElem_cons_zero, Act.put, List.setIfInBounds_toArray, List.set_cons_zero, List.set_cons_succ]
  refine wpAnyH_take (i := 57) (v := ?_) rfl (by kernel_rfl) (by kernel_rfl) (by kernel_rfl) (fun _ _ _ h => h) (Or.inl ⟨by rfl, ?_⟩) hS ?_
  rotate_left
  · intro v _; go_simp; first | done | with_reducible rfl
  rotate_left
  simp only [List.getElem_toArray, List.getElem_cons_succ, List.getElem_cons_zero, Act.put, List.setIfInBounds_toArray, List.set_cons_zero, List.set_cons_succ]
  refine wpAnyH_take (i := 58) (v := ?_) rfl (by kernel_rfl) (by kernel_rfl) (by kernel_rfl) (fun _ _ _ h => h) (Or.inl ⟨by rfl, ?_⟩) hS ?_
  rotate_left
  · intro v _; go_simp; first | done | with_reducible rfl
  rotate_left
  simp only [List.getElem_toArray, List.getElem_cons_succ, List.getElem_cons_zero, Act.put, List.setIfInBounds_toArray, List.set_cons_zero, List.set_cons_succ]
  refine wpAnyH_take (i := 59) (v := ?_) rfl (by kernel_rfl) (by kernel_rfl) (by kernel_rfl) (fun _ _ _ h => h) (Or.inl ⟨by rfl, ?_⟩) hS ?_
  rotate_left
  · intro v _; go_simp; first | done | with_reducible rfl
  rotate_left
  simp only [List.getElem_toArray, List.getElem_cons_succ, List.getElem_cons_zero, Act.put, List.setIfInBounds_toArray, List.set_cons_zero, List.set_cons_succ]
  refine wpAnyH_all (rs := [60]) (by kernel_rfl) (by simp) ?_
  intro i hi
  simp only [List.mem_cons, List.not_mem_nil, or_false] at hi
  subst hi
  refine wpOp_wp rfl (by rfl) ?_
  go_simp
  refine (kla.out x27 HK.out).mono ?_
  rintro e x28 ⟨rfl, hb_⟩
  replace HC := Lib.hid (Kd.C_below HC.out hb_)
  replace HK := Lib.hid (HK.out.below hb_)
  replace HB := Lib.hid (HB.out.trans (Below.mono hb_ HB.out.size))
  replace H2 := Lib.hid (DigAt.below H2.out hb_)
  replace H4 := Lib.hid (CD.below H4.out hb_)
  replace H6 := Lib.hid (CD.below H6.out hb_)
  replace H8 := Lib.hid (DigAt.below H8.out hb_)
  clear hb_ hS
  have hS : S2d b2 R b8 T x28 := ⟨H2.out, H8.out⟩
  refine ⟨hS, ?_⟩
  try simp only [List.getElem_toArray, List.getElem_cons_succ, List.getElem_cons_zero, Act.put, List.setIfInBounds_toArray, List.set_cons_zero, List.set_cons_succ]
  refine wpAnyH_all (rs := [61]) (by kernel_rfl) (by simp) ?_
  intro i hi
  simp only [List.mem_cons, List.not_mem_nil, or_false] at hi
  subst hi
  refine wpOp_wp rfl (by rfl) ?_
  go_simp
  refine (klb.out x28 HK.out).mono ?_
  rintro e x29 ⟨rfl, hb_⟩
  replace HC := Lib.hid (Kd.C_below HC.out hb_)
  replace HK := Lib.hid (HK.out.below hb_)
  replace HB := Lib.hid (HB.out.trans (Below.mono hb_ HB.out.size))
  replace H2 := Lib.hid (DigAt.below H2.out hb_)
  replace H4 := Lib.hid (CD.below H4.out hb_)
  replace H6 := Lib.hid (CD.below H6.out hb_)
  replace H8 := Lib.hid (DigAt.below H8.out hb_)
  clear hb_ hS
  have hS : S2d b2 R b8 T x29 := ⟨H2.out, H8.out⟩
  refine ⟨hS, ?_⟩
  try simp only [List.getElem_toArray, List.getElem_cons_succ, List.getElem_cons_zero, Act.put, List.setIfInBounds_toArray, List.set_cons_zero, List.set_cons_succ]
  have heqN := heq.out
  refine wpAnyH_take (i := 62) (v := ?_) rfl (by kernel_rfl) (by kernel_rfl) (by kernel_rfl) (fun _ _ _ h => h) (Or.inl ⟨by rfl, ?_⟩) hS ?_
  rotate_left
  · intro v _; go_simp; first | done | with_reducible rfl
  rotate_left
  simp only [List.getElem_toArray, List.getElem_cons_succ, List.getElem_cons_zero, Act.put, List.setIfInBounds_toArray, List.set_cons_zero, List.set_cons_succ]
  refine wpAnyH_take (i := 63) (v := ?_) rfl (by kernel_rfl) (by kernel_rfl) (by kernel_rfl) (fun _ _ _ h => h) (Or.inl ⟨by rfl, ?_⟩) hS ?_
  rotate_left
  · intro v _; go_simp; first | done | with_reducible rfl
  rotate_left
  simp only [List.getElem_toArray, List.getElem_cons_succ, List.getElem_cons_zero, Act.put, List.setIfInBounds_toArray, List.set_cons_zero, List.set_cons_succ]
  refine wpAnyH_take (i := 64) (v := ?_) rfl (by kernel_rfl) (by kernel_rfl) (by kernel_rfl) (fun _ _ _ h => h) (Or.inl ⟨by rfl, ?_⟩) hS ?_
  rotate_left
  · intro v _; go_simp; first | done | with_reducible rfl
  rotate_left
  simp only [List.getElem_toArray, List.getElem_cons_succ, List.getElem_cons_zero, Act.put, List.setIfInBounds_toArray, List.set_cons_zero, List.set_cons_succ]
  refine wpAnyH_done (by kernel_rfl) ?_ _
  go_wp2_with fail
  go_ret
  exact ⟨rfl, HB.out⟩
end Go.Proofs.YtldpnmebjnkjeaaDoor.TrW
namespace Go.Proofs.YtldpnmebjnkjeaaDoor.TrW
open Go.RowKit Go.Proofs.YtldpnmebjnkjeaaDoorW.PrintWords Go.Proofs.YtldpnmebjnkjeaaDoor.PH1 Go.Proofs.YtldpnmebjnkjeaaDoor Go.Proofs.YtldpnmebjnkjeaaDoorW.PrintLast Go.Proofs.YtldpnmebjnkjeaaDoorW.PrintMore
open Go.Proofs.YtldpnmebjnkjeaaDoor.Sha
set_option linter.unusedVariables false
set_option linter.unusedSimpArgs false

theorem wr64 {i : Int} (h0 : -9223372036854775808 ≤ i) (h : i ≤ 9223372036854775807) : wrap64 i = i := by unfold wrap64; omega
theorem rd_at (L : List ByteArray) (i : Nat) (h : i < L.length) : rdOf ByteArray.empty L (i : Int) = L[i] := by
  unfold rdOf
  rw [Int.toNat_natCast, List.getD_eq_getElem?_getD, List.getElem?_eq_getElem h]
  rfl
def fitB (s : ByteArray) : Bool := decide ((s.size : Int) > 1200)
theorem fits_l0 (L : List ByteArray) (hL : L.length ≤ 1000000) : ∀ (m i : Nat), i + m = L.length → cashbooklaw11_Fits.l0 (m + 1) L (i : Int) = some (!(L.drop i).any fitB)
  | 0, i, h => by
    rw [cashbooklaw11_Fits.l0, if_neg (by omega), List.drop_eq_nil_of_le (by omega)]; rfl
  | m + 1, i, h => by
    have hi : i < L.length := by omega
    rw [cashbooklaw11_Fits.l0, if_pos (by omega), if_pos (by omega), rd_at L i hi, List.drop_eq_getElem_cons hi, List.any_cons]
    by_cases h1 : ((L[i]).size : Int) > 1200
    · rw [if_pos h1, show fitB L[i] = true from decide_eq_true h1, Bool.true_or]; rfl
    · rw [if_neg h1, show fitB L[i] = false from decide_eq_false h1, Bool.false_or, wr64 (by omega) (by omega)]
      exact fits_l0 L hL m (i + 1) (by omega)
def fitsB (L : List ByteArray) : Bool := decide (L.length ≤ 24) && !L.any fitB
theorem fits_calls (A : Option Addr) (c : Nat) (L : List ByteArray) (w : World) (hC : Kd.C Kd.string w A L.length L) (hc : L.length ≤ c) :
    Calls Tryd.prog 29 #[.slice A L.length c] w fun e w' => e = .returned (.bool (fitsB L)) ∧ Drawn0 w w' := by
  refine cashbooklaw11_Fits.calls (L.length + 1) A c L _ w hC hc ?_
  unfold cashbooklaw11_Fits.f fitsB
  by_cases h : L.length ≤ 24
  · rw [if_neg (by omega), decT h, Bool.true_and]
    exact fits_l0 L (by omega) L.length 0 (by omega)
  · rw [if_pos (by omega), decF h, Bool.false_and]
theorem wrong_l0 (L : List ByteArray) (hL : L.length ≤ 1000000) : ∀ (m i : Nat), i + m = L.length → cashbookref11_Wrong.l0 (m + 1) L (i : Int) = some (if (L.drop i).any longB = true then 4 else 0)
  | 0, i, h => by
    rw [cashbookref11_Wrong.l0, if_neg (by omega), List.drop_eq_nil_of_le (by omega)]; rfl
  | m + 1, i, h => by
    have hi : i < L.length := by omega
    rw [cashbookref11_Wrong.l0, if_pos (by omega), if_pos (by omega), rd_at L i hi, List.drop_eq_getElem_cons hi, List.any_cons]
    by_cases h1 : ((L[i]).size : Int) > 1000
    · rw [if_pos h1, show longB L[i] = true from decide_eq_true h1, Bool.true_or]; rfl
    · rw [if_neg h1, show longB L[i] = false from decide_eq_false h1, Bool.false_or, wr64 (by omega) (by omega)]
      exact wrong_l0 L hL m (i + 1) (by omega)
theorem rwrong_calls (A : Option Addr) (c : Nat) (L : List ByteArray) (w : World) (hC : Kd.C Kd.string w A L.length L) (hc : L.length ≤ c) :
    Calls Tryd.prog 37 #[.slice A L.length c] w fun e w' => e = .returned (.int .i64 (wrongN L)) ∧ Drawn0 w w' := by
  refine cashbookref11_Wrong.calls (L.length + 1) A c L _ w hC hc ?_
  unfold cashbookref11_Wrong.f wrongN
  by_cases h : 1024 < L.length
  · rw [if_pos (by omega), if_pos (Or.inl h)]
  · have e : cashbookref11_Wrong.l0 (L.length + 1) L 0 = _ := wrong_l0 L (by omega) L.length 0 (by omega)
    rw [if_neg (by omega), e, List.drop_zero]
    by_cases h2 : L.any longB = true
    · rw [if_pos h2, if_pos (Or.inr h2)]
    · rw [if_neg h2, if_neg (fun h3 => h3.elim h h2)]
end Go.Proofs.YtldpnmebjnkjeaaDoor.TrW
namespace Go.Proofs.YtldpnmebjnkjeaaDoor.Ref10
open Go.RowKit Go.Proofs.YtldpnmebjnkjeaaDoorW.PrintWords Go.Proofs.YtldpnmebjnkjeaaDoor.PH1 Go.Proofs.YtldpnmebjnkjeaaDoor Go.Proofs.YtldpnmebjnkjeaaDoorW.PrintLast Go.Proofs.YtldpnmebjnkjeaaDoorW.PrintMore
open Go.Proofs.YtldpnmebjnkjeaaDoor.Sha (V8 wv RowU rotr kT sched rnds rnd takeP vadd mixL mixL_len mixL_get mixL_set mixL_all xo an ad rx ra rs rw32 Nr ch maj bs0 bs1)
set_option linter.unusedVariables false
set_option linter.unusedSimpArgs false

/-- chosen, shut. -/
def cc (a b c : UInt32) : UInt32 := ch a b c
/-- A fact, shut: whnf does not open it. -/
structure Shut (p : Prop) : Prop where
  out : p
end Go.Proofs.YtldpnmebjnkjeaaDoor.Ref10
namespace Go.Proofs.YtldpnmebjnkjeaaDoor.Ref10
open Go.RowKit Go.Proofs.YtldpnmebjnkjeaaDoorW.PrintWords Go.Proofs.YtldpnmebjnkjeaaDoor.PH1 Go.Proofs.YtldpnmebjnkjeaaDoor Go.Proofs.YtldpnmebjnkjeaaDoorW.PrintLast Go.Proofs.YtldpnmebjnkjeaaDoorW.PrintMore
open Go.Proofs.YtldpnmebjnkjeaaDoor.Sha (V8 wv RowU)
set_option linter.unusedVariables false
set_option linter.unusedSimpArgs false

theorem first_at (j : Nat) (hj : j < 8) : r2 ((ps.take 8).getD j 0) = (Sha.v0.list.getD j 0).toNat := by
  have h := congrArg (fun l => l[j]?) r2_all
  have h1 : j < (ps.take 8).length := hj
  have h2 : j < Sha.v0.list.length := hj
  simp only [List.getElem?_map, List.getElem?_eq_getElem h1, List.getElem?_eq_getElem h2, Option.map_some, Option.some.injEq] at h
  rw [List.getD_eq_getElem?_getD, List.getElem?_eq_getElem h1, List.getD_eq_getElem?_getD, List.getElem?_eq_getElem h2]
  exact h
theorem root2 (j : Nat) (hj : j < 8) : cashbookref10_root.f 2000 (((ps.take 8).getD j 0 : Nat) : Int) 2 = some ((Sha.v0.list.getD j 0).toNat : Int) := by
  have hb : ∀ k : Fin 8, (ps.take 8).getD k.val 0 < 65536 := by decide
  have h := root_run ((ps.take 8).getD j 0) (hb ⟨j, hj⟩) 2 (.inl rfl) 2000 (by omega)
  rw [← first_at j hj]
  exact h
end Go.Proofs.YtldpnmebjnkjeaaDoor.Ref10
namespace Go.Proofs.YtldpnmebjnkjeaaDoor.Ref10
open Go.RowKit Go.Proofs.YtldpnmebjnkjeaaDoorW.PrintWords Go.Proofs.YtldpnmebjnkjeaaDoor.PH1 Go.Proofs.YtldpnmebjnkjeaaDoor Go.Proofs.YtldpnmebjnkjeaaDoorW.PrintLast Go.Proofs.YtldpnmebjnkjeaaDoorW.PrintMore
open Go.Proofs.YtldpnmebjnkjeaaDoor.Sha (V8 wv RowU takeP feedP tailL tailL_len digL digL_len sumL endP z32_len hashV)
set_option linter.unusedVariables false
set_option linter.unusedSimpArgs false

def CV (s : Value) (v : V8) : Array Value := (s :: v.list.map wv).toArray
theorem run_load_cell {P : Program} {w : World} {ad : Addr} {v : Value} {t : TypeId} (ht : ∀ w : World, (Go.isAgg t).run P w = .ok false w) (h : w.cell? ad = some v) : (loadVar t ad).run P w = .ok v w := by
  unfold loadVar
  rw [Sem.run_bind, ht w]
  simp [h]
theorem yieldsIf_cell {P : Program} {ops : Array Oper} {S : World → Prop} {op : Oper} {a : Act} (hw : Region.wanted op (yielded ops a.tmps) = true) (ty : TypeId) (x : Operand) (ho : op.op = .load ty x)
    (ad : Addr) (hx : a.eval x = .pointer (some ad)) (v : Value) (ht : ∀ w : World, (Go.isAgg ty).run P w = .ok false w) (hS : ∀ w, S w → w.cell? ad = some v) : YieldsIf P ops S op v a :=
  .inl ⟨hw, fun w hw' => by
    unfold execOp
    simp only [ho, hx, Instr.loadAt, Instr.sureAddr, Sem.run_bind, Sem.run_pure, Result.andThen_ok, run_load_cell ht (hS w hw')]⟩
theorem agg9 : ∀ w : World, (Go.isAgg 9).run Tryd.prog w = .ok false w := fun w => by simp [Tryd.isAgg9]
def CAt (b : Nat) (s : Value) (v : V8) (w : World) : Prop := w.heap[b]? = some (.cells (CV s v) 58 (0, 0))
namespace CAt
variable {b : Nat} {s : Value} {v : V8} {w w1 : World}
theorem below (h : CAt b s v w) (hb : Below w.heap.size w w1) : CAt b s v w1 := blk_below h hb
theorem range (h : CAt b s v w) : w.rangeAt b 1 (v.list.map wv) := by
  intro j x hx
  rw [cell_of_row _ _ _ _ _ _ h]
  unfold CV
  rw [List.getElem?_toArray, Nat.add_comm 1 j, List.getElem?_cons_succ]
  exact hx
end CAt
end Go.Proofs.YtldpnmebjnkjeaaDoor.Ref10
namespace Go.Proofs.YtldpnmebjnkjeaaDoor.TrW
open Go.RowKit Go.Proofs.YtldpnmebjnkjeaaDoorW.PrintWords Go.Proofs.YtldpnmebjnkjeaaDoor.PH1 Go.Proofs.YtldpnmebjnkjeaaDoor Go.Proofs.YtldpnmebjnkjeaaDoorW.PrintLast Go.Proofs.YtldpnmebjnkjeaaDoorW.PrintMore
open Go.Proofs.YtldpnmebjnkjeaaDoor.Sha
open Go.Proofs.YtldpnmebjnkjeaaDoor.Ref10 (wp_store_dig wp_load_dig wpOp_wp range_row yieldsIf_cell agg9)
set_option linter.unusedVariables false
set_option linter.unusedSimpArgs false

theorem fits_of {L : List ByteArray} (h : fitsB L = true) : L.length ≤ 24 ∧ ∀ s ∈ L, s.size ≤ 1200 := by
  unfold fitsB at h
  rw [Bool.and_eq_true, decide_eq_true_eq] at h
  refine ⟨h.1, fun s hs => ?_⟩
  have h2 : L.any fitB = false := by simpa using h.2
  rw [List.any_eq_false] at h2
  have := h2 s hs
  unfold fitB at this
  simp at this
  omega
end Go.Proofs.YtldpnmebjnkjeaaDoor.TrW
namespace Go.Proofs.YtldpnmebjnkjeaaDoor.TrW
open Go.RowKit Go.Proofs.YtldpnmebjnkjeaaDoorW.PrintWords Go.Proofs.YtldpnmebjnkjeaaDoor.PH1 Go.Proofs.YtldpnmebjnkjeaaDoor Go.Proofs.YtldpnmebjnkjeaaDoorW.PrintLast Go.Proofs.YtldpnmebjnkjeaaDoorW.PrintMore
open Go.Proofs.YtldpnmebjnkjeaaDoor.Sha
set_option linter.unusedVariables false
set_option linter.unusedSimpArgs false

theorem wrong_take {L : List ByteArray} (h : wrongN L = 0) (m : Nat) : wrongN (L.take m) = 0 := by
  obtain ⟨h1, h2⟩ := wrong_ok h
  unfold wrongN
  rw [if_neg]
  rintro (h3 | h3)
  · rw [List.length_take] at h3; omega
  · rw [List.any_eq_true] at h3
    obtain ⟨s, hs, h4⟩ := h3
    have := h2 s (List.mem_of_mem_take hs)
    unfold longB at h4
    simp at h4
    omega
end Go.Proofs.YtldpnmebjnkjeaaDoor.TrW
namespace Go.Proofs.YtldpnmebjnkjeaaDoor.TrW
open Go.RowKit Go.Proofs.YtldpnmebjnkjeaaDoorW.PrintWords Go.Proofs.YtldpnmebjnkjeaaDoor.PH1 Go.Proofs.YtldpnmebjnkjeaaDoor Go.Proofs.YtldpnmebjnkjeaaDoorW.PrintLast Go.Proofs.YtldpnmebjnkjeaaDoorW.PrintMore
open Go.Proofs.YtldpnmebjnkjeaaDoor.Sha
set_option linter.unusedVariables false
set_option linter.unusedSimpArgs false

theorem path_ok (L : List ByteArray) (i : Nat) (t : ByteArray) (hn : L.length ≤ 1024) (ht : L[i]? = some t) : pathV t.data.toList (i : Int) (L.length : Int) (Tr.root alg (bl L)) (Tr.path alg (bl L) i).reverse = true := by
  have hi := (List.getElem?_eq_some_iff.1 ht).1
  have hlen := Tr.path_len alg (bl L).length (bl L) i (Nat.le_refl _)
  rw [bl_len] at hlen
  have hup := Tr.up_path alg (bl L).length (bl L) i t.data.toList (by unfold bl; rw [List.getElem?_map, ht]; rfl) (Nat.le_refl _)
  rw [bl_len, ← Tr.last_up alg _ _ _ hlen] at hup
  unfold pathV
  simp only [Int.toNat_natCast]
  exact decT ⟨by omega, by omega, by omega, by rw [List.length_reverse, hlen], hup⟩
theorem path_len_of {s : List UInt8} {i n : Nat} {r : List UInt8} {qs : List (List UInt8)} (h : qs.length ≠ (Tr.sides i n).length) : pathV s (i : Int) (n : Int) r qs = false := by
  unfold pathV
  simp only [Int.toNat_natCast]
  exact decF fun h2 => h h2.2.2.2.1.symm
theorem bridge_ok (L : List ByteArray) (m : Nat) (hn : L.length ≤ 1024) (hm : 1 ≤ m) (hmn : m ≤ L.length) : bridgeV (m : Int) (L.length : Int) (Tr.root alg (bl (L.take m))) (Tr.root alg (bl L)) (Tr.bridge alg (bl L) m true).reverse = true := by
  unfold bridgeV
  simp only [Int.toNat_natCast]
  rw [decT (by omega), Bool.true_and]
  cases hw : Tr.whole m L.length with
  | true =>
    rw [if_pos rfl]
    have hlen := Tr.bridge_len alg (bl L).length (bl L) m true (Nat.le_refl _)
    rw [bl_len, hw] at hlen
    obtain ⟨h1, h2⟩ := Tr.up_bridge_true alg (bl L).length (bl L) m hm (by rw [bl_len]; exact hmn) (Nat.le_refl _) (by rw [bl_len]; exact hw)
    rw [bl_len, ← bl_take, ← Tr.last_up alg _ _ _ (by simpa using hlen)] at h1
    rw [bl_len, ← bl_take, ← Tr.lastX_upx alg _ _ _ (by simpa using hlen)] at h2
    exact decT ⟨by rw [List.length_reverse, hlen]; rfl, h2, h1⟩
  | false =>
    rw [if_neg (by simp)]
    obtain ⟨d, bs, e1, e2, e3, e4⟩ := Tr.up_bridge_false alg (bl L).length (bl L) m hm (by rw [bl_len]; exact hmn) (Nat.le_refl _)
    have e0 := Tr.bridge_not alg (bl L).length (bl L) m (Nat.le_refl _) (by rw [bl_len]; exact hw)
    rw [bl_len] at e2 e3 e4
    rw [← Tr.last_up alg _ _ _ e2] at e3
    rw [← Tr.lastX_upx alg _ _ _ e2, ← bl_take] at e4
    rw [e0, e1, List.reverse_append]
    exact decT ⟨by show _ = bs.reverse.length; rw [List.length_reverse, e2], e4, e3⟩
def blen (m n : Nat) : Nat := (Tr.way m n).length + (if Tr.whole m n = true then 0 else 1)
theorem bridge_len_of {m n : Nat} {a b : List UInt8} {qs : List (List UInt8)} (h : qs.length ≠ blen m n) : bridgeV (m : Int) (n : Int) a b qs = false := by
  unfold bridgeV
  simp only [Int.toNat_natCast]
  unfold blen at h
  cases hw : Tr.whole m n with
  | true =>
    rw [hw, if_pos rfl] at h
    rw [if_pos rfl]
    have e : bridgeE m n a b a qs = false := decF (fun h2 => h h2.1.symm)
    rw [e, Bool.and_false]
  | false =>
    rw [hw, if_neg (by simp)] at h
    rw [if_neg (by simp)]
    match qs, h with
    | [], _ => rw [Bool.and_false]
    | f :: ps, h =>
      show (_ && bridgeE m n a b f ps) = false
      have e : bridgeE m n a b f ps = false := decF (fun h2 => h (by rw [List.length_cons]; have := h2.1; omega))
      rw [e, Bool.and_false]
theorem bridge_blen (L : List ByteArray) (m : Nat) : (Tr.bridge alg (bl L) m true).reverse.length = blen m L.length := by
  have hlen := Tr.bridge_len alg (bl L).length (bl L) m true (Nat.le_refl _)
  rw [bl_len, Bool.true_and] at hlen
  rw [List.length_reverse, hlen]
  rfl
theorem path_slen (L : List ByteArray) (i : Nat) : (Tr.path alg (bl L) i).reverse.length = (Tr.sides i L.length).length := by
  have hlen := Tr.path_len alg (bl L).length (bl L) i (Nat.le_refl _)
  rw [bl_len] at hlen
  rw [List.length_reverse, hlen]
theorem run_buildSlice_0 (W : World) :
    (Instr.buildSlice 61 0 #[]).run Tryd.prog W = .ok (.slice (some ⟨W.heap.size, 0, none⟩) 0 0) (W.alloc (.cells #[] 24)) := by
  obtain ⟨i, hi, hz⟩ := Option.map_eq_some_iff.1 info_digest
  simp only [Prod.mk.injEq] at hz
  obtain ⟨hz0, hz1, hz2⟩ := hz
  unfold Instr.buildSlice
  simp [run_underlying Tryd.underlying61, run_sizeOf W hi, hz1, zeroValue, typeInfo, hi, hz0]
  rw [Instr.fill]
  simp only [newRow]
  have e : ∀ f : Nat → Value, Array.map f (Array.range 0) = #[] := fun f => Array.eq_empty_of_size_eq_zero (by simp)
  rw [e]
  rfl
theorem RD.zero {w : World} (b : Nat) (hb : b ≤ w.heap.size) : RD b (.slice (some ⟨w.heap.size, 0, none⟩) 0 0) [] (w.alloc (.cells #[] 24)) := by
  refine ⟨fun _ _ => trivial, [], ?_, ⟨by simp, fun j z hz => by simp at hz⟩⟩
  have h2 := World.ownsRow_lit (base := b) (e := 24) (size := 32) w #[] 0 hb (by decide) (by simp)
  have h3 : (w.alloc (.cells #[] 24)).ownsRow b 24 32 (.slice (some ⟨w.heap.size, 0, none⟩) 0 0) 0 [] := by simpa using h2
  exact h3
theorem RD.step {b : Nat} {v : Value} {xs : List (List UInt8)} {w w1 : World} (h : RD b v xs w) (hm : ∀ k, v.ownBlock = some k → w1.heap[k]? = w.heap[k]?) : RD b v xs w1 := by
  obtain ⟨h0, inner, ho, hr⟩ := h
  have h2 : kDig.R 24 w b (fun k => v.ownBlock = some k) v xs := ⟨fun k hk => hk, inner, ho, hr.imp_ (fun p c hp => by obtain ⟨h3, h4⟩ := kDig_K (kDig.K_of_M hp); rw [h4]; exact kDig_M _ _ _ h3)⟩
  exact Kd.R_mono (Kd.R_move h2 hm) (fun _ _ => trivial)
end Go.Proofs.YtldpnmebjnkjeaaDoor.TrW
namespace Go.Proofs.YtldpnmebjnkjeaaDoor.TrW
open Go.RowKit Go.Proofs.YtldpnmebjnkjeaaDoorW.PrintWords Go.Proofs.YtldpnmebjnkjeaaDoor.PH1 Go.Proofs.YtldpnmebjnkjeaaDoor Go.Proofs.YtldpnmebjnkjeaaDoorW.PrintLast Go.Proofs.YtldpnmebjnkjeaaDoorW.PrintMore
open Go.Proofs.YtldpnmebjnkjeaaDoor.Sha
set_option linter.unusedVariables false
set_option linter.unusedSimpArgs false

theorem wp_buildSlice_0 {o : Oper} {a : Act} {K : Act → World → Prop} {Q : Exit → Act → World → Prop} {w : World} (ho : o.op = .buildSlice 61 0 #[])
    (h : ∀ w', Hid (RD w.heap.size (.slice (some ⟨w.heap.size, 0, none⟩) 0 0) [] w') → Below w.heap.size w w' → w'.heap.size = w.heap.size + 1 → K (a.put o.dst (.slice (some ⟨w.heap.size, 0, none⟩) 0 0)) w') : o.wp Tryd.prog a w K Q := by
  unfold Oper.wp execOp
  simp only [ho, List.map_toArray, List.map_nil]
  rw [Sem.run_bind, run_buildSlice_0 w]
  exact h _ (Lib.hid (RD.zero _ (Nat.le_refl _))) ((Below.refl _ _).alloc (Nat.le_refl _) _) (by simp)
theorem wp_buildSlice_1 {o : Oper} {a : Act} {K : Act → World → Prop} {Q : Exit → Act → World → Prop} {w : World} (x : Operand) (ho : o.op = .buildSlice 61 1 #[(0, x)])
    (l : List UInt8) (hl : l.length = 32) (hx : a.eval x = .agg (Lib.byteCells l).toArray)
    (h : ∀ w', Hid (RD w.heap.size (.slice (some ⟨w.heap.size, 0, none⟩) 1 1) [l] w') → Below w.heap.size w w' → w'.heap.size = w.heap.size + 1 → K (a.put o.dst (.slice (some ⟨w.heap.size, 0, none⟩) 1 1)) w') : o.wp Tryd.prog a w K Q := by
  unfold Oper.wp execOp
  simp only [ho, List.map_toArray, List.map_cons, List.map_nil, hx]
  rw [Sem.run_bind, run_buildSlice_dig w l hl]
  exact h _ (Lib.hid (RD.one l hl _ (Nat.le_refl _))) ((Below.refl _ _).alloc (Nat.le_refl _) _) (by simp)
theorem wp_append_digs {o : Oper} {a : Act} {K : Act → World → Prop} {Q : Exit → Act → World → Prop} {W : World} (hgd : o.guard = none) (s x : Operand) (ho : o.op = .call { callee := .builtin .append, args := #[s, x], argTypes := #[61, 61] })
    {b : Nat} {w0 : World} (v : Value) (xs ys : List (List UInt8)) (A : Option Addr) (m c : Nat) (hm : m = ys.length) (hs : a.eval s = v) (hx : a.eval x = .slice A m c) (HO : RD b v xs W) (HR : CD A ys W) (HB : Below b w0 W) (hbase : b ≤ W.heap.size) (hl : xs.length + ys.length ≤ 1000000)
    (h : ∀ v1 w1, Hid (RD b v1 (xs ++ ys) w1) → Below b w0 w1 → Hid (W.grownBy w1 v.ownBlock) → K (a.put o.dst v1) w1) : o.wp Tryd.prog a W K Q := by
  subst hm
  have hw : Region.wanted o (yielded #[] a.tmps) = true := by unfold Region.wanted; rw [hgd]
  have h1 := Kd.R_append_rows_step (P := Tryd.prog) (ops := #[]) (o := o) (a := a) (Q := Q) (Kc := K) kDig (Rr := kDig.K W) b hw s x 61 24 (.agg (Lib.byteCells (List.replicate 32 0)).toArray) 32 ho Tryd.underlying61 info_digest rfl (by decide) (by decide) v xs ys A ys.length c (fun _ => True) (fun _ => False) hs hx HO HR
    (fun x cs hx => by obtain ⟨h3, h4⟩ := kDig_K hx; rw [h4]; exact kDig_M _ _ _ h3) (fun _ hk => hk.elim) (fun _ _ => trivial) HB hbase (by omega) (fun v1 w1 h1 h2 h3 _ => h v1 w1 (Lib.hid h1) h2 (Lib.hid h3))
  rw [if_pos hw] at h1
  exact h1
/-- Another row of digests of its own stays. -/
theorem RD.grown {b : Nat} {v : Value} {xs : List (List UInt8)} {w w1 : World} {row : Option Nat} (h : RD b v xs w) (hg : w.grownBy w1 row) (hne : ∀ k, v.ownBlock = some k → some k ≠ row) : RD b v xs w1 := h.step fun k hk => hg.block k (h.lt k hk) (hne k hk)
end Go.Proofs.YtldpnmebjnkjeaaDoor.TrW
namespace Go.Proofs.YtldpnmebjnkjeaaDoor.TrW
open Go.RowKit Go.Proofs.YtldpnmebjnkjeaaDoorW.PrintWords Go.Proofs.YtldpnmebjnkjeaaDoor.PH1 Go.Proofs.YtldpnmebjnkjeaaDoor Go.Proofs.YtldpnmebjnkjeaaDoorW.PrintLast Go.Proofs.YtldpnmebjnkjeaaDoorW.PrintMore
open Go.Proofs.YtldpnmebjnkjeaaDoor.Sha
open Go.Proofs.YtldpnmebjnkjeaaDoor.Ref10 (wp_store_dig wp_load_dig wpOp_wp range_row yieldsIf_cell agg9)
set_option linter.unusedVariables false
set_option linter.unusedSimpArgs false

def S5 (b4 : Nat) (R : List UInt8) (W : World) : Prop := DigAt b4 R W
def S7 (a1 : Addr) (t : ByteArray) (b4 : Nat) (R : List UInt8) (b11 : Nat) (Ra : List UInt8) (W : World) : Prop := W.cell? a1 = some (.string t) ∧ DigAt b4 R W ∧ DigAt b11 Ra W
set_option maxHeartbeats 16000000 in
set_option maxRecDepth 100000 in
theorem stands_law (A : Option Addr) (c : Nat) (L : List ByteArray) (w : World) (hC : Kd.C Kd.string w A L.length L) (hc : L.length ≤ c) (hK : KAt w) :
    Calls Tryd.prog 10 #[.slice A L.length c] w fun e w' => e = .returned (.bool true) ∧ Below w.heap.size w w' := by
  have hmax := Kd.C_max hC
  have HC := Lib.hid hC
  have HK := Lib.hid hK
  have HB := Lib.hid (Below.refl w.heap.size w)
  clear hC hK
  replace hc := Lib.hid hc
  go_enter Tryd.func10, Tryd.ntmps10
  go_wp2_with fail
  refine (fits_calls A c L w HC.out hc.out).mono ?_
  rintro e w2 ⟨rfl, hb_⟩
  try replace hb_ := Drawn0.below hb_
  replace HC := Lib.hid (Kd.C_below HC.out hb_)
  replace HK := Lib.hid (HK.out.below hb_)
  replace HB := Lib.hid (HB.out.trans (Below.mono hb_ HB.out.size))
  clear hb_
  cases hfit : fitsB L with
  | false =>
    replace hfit := Lib.hid hfit
    go_wp2_with fail
    refine (alive_calls w2 HK.out).mono ?_
    rintro e wz ⟨rfl, hb_⟩
    have HBz := Lib.hid (HB.out.trans (Below.mono hb_ HB.out.size))
    clear hb_
    go_wp2_with fail
    go_ret
    exact ⟨rfl, HBz.out⟩
  | true =>
    obtain ⟨hL24, hLs⟩ := fits_of hfit
    replace hfit := Lib.hid hfit
    go_wp2_with fail
    refine (rwrong_calls A c L w2 HC.out hc.out).mono ?_
    rintro e w3 ⟨rfl, hb_⟩
    try replace hb_ := Drawn0.below hb_
    replace HC := Lib.hid (Kd.C_below HC.out hb_)
    replace HK := Lib.hid (HK.out.below hb_)
    replace HB := Lib.hid (HB.out.trans (Below.mono hb_ HB.out.size))
    clear hb_
    rcases wrong_01 L with hw | hw
    · rw [hw]
      have kroot := fun W hk hW => tRoot_ok A c L W hW hc.out hw hk
      have hRl := rlen (bl L)
      obtain ⟨R, hR⟩ : ∃ R, R = Tr.root alg (bl L) := ⟨_, rfl⟩
      rw [← hR] at kroot hRl
      replace hR := Lib.hid hR
      replace kroot := Lib.hid kroot
      replace hRl := Lib.hid hRl
      replace hw := Lib.hid hw
      replace hLs := Lib.hid hLs
      go_wp2_with fail
      refine (kroot.out w3 HK.out HC.out).mono ?_
      rintro e w4 ⟨rfl, hb_⟩
      try replace hb_ := Drawn0.below hb_
      replace HC := Lib.hid (Kd.C_below HC.out hb_)
      replace HK := Lib.hid (HK.out.below hb_)
      replace HB := Lib.hid (HB.out.trans (Below.mono hb_ HB.out.size))
      clear hb_
      go_upto_region 5 with (guard_target = wpList _ _ _ (⟨none, _, _, _, _, _⟩ :: _) _ _; refine wpList_store_dig rfl (.tmp 4) (.tmp 28) rfl w4.heap.size rfl R hRl.out rfl _ _ (heap_alloc_last _ _) zrow ?_; intro w5 h5 _ hB5)
      have hb5 : Below w4.heap.size w4 w5 := hB5 ((Below.refl _ _).alloc (Nat.le_refl _) _) (Nat.le_refl _)
      have H40 : Hid (DigAt w4.heap.size R w5) := h5
      replace HC := Lib.hid (Kd.C_below HC.out hb5)
      replace HK := Lib.hid (HK.out.below hb5)
      replace HB := Lib.hid (HB.out.trans (Below.mono hb5 HB.out.size))
      clear hb5 hB5 h5
      generalize w4.heap.size = b4 at H40 ⊢
      have HC0 := HC
      have HK0 := HK
      have HB0 := HB
      have HW0 := Lib.hid (Below.refl w5.heap.size w5)
      clear HC HK HB
      go_wp2_with fail
      go_loopw [6] (fun a wx => ∃ i : Nat, a = .int .i64 i ∧ i ≤ L.length ∧ Hid (Below w5.heap.size w5 wx)) (fun a _ => L.length - (intOf a).toNat)
      case atStart => exact ⟨0, rfl, Nat.zero_le _, HW0⟩
      case round =>
        clear HW0
        obtain ⟨i, rfl, hi, HW⟩ := hrel
        have HC := Lib.hid (Kd.C_below HC0.out HW.out)
        have HK := Lib.hid (HK0.out.below HW.out)
        have HB := Lib.hid (HB0.out.trans (Below.mono HW.out HB0.out.size))
        have H4 := Lib.hid (DigAt.below H40.out HW.out)
        by_cases hin : i < L.length
        · have hin' : (i : Int) < (L.length : Int) := by omega
          obtain ⟨t, ht⟩ : ∃ t, L[i]? = some t := ⟨_, List.getElem?_eq_getElem hin⟩
          obtain ⟨m, hm⟩ : ∃ m, m = i + 1 := ⟨_, rfl⟩
          have hmi : (i : Int) + 1 = (m : Int) := by omega
          have hmw : IntKind.i64.wrap (m : Int) = (m : Int) := Go.IntWalk.i64_in _ ⟨by omega, by omega⟩
          have hmw2 : IntKind.i64.wrap ((i : Int) + 1) = (m : Int) := by rw [hmi]; exact hmw
          have hm1 : 1 ≤ m := by omega
          have hm2 : m ≤ L.length := by omega
          have hm2' : (m : Int) ≤ (L.length : Int) := by omega
          have kpath := fun W hk hW => tPath_ok A c L i W hW hc.out hw.out hin hk
          have kbr := fun W hk hW => tBridge_ok A c L m W hW hc.out hw.out hm1 hm2 hk
          have kroot2 := fun W hk hW => tRoot_ok A c (L.take m) W hW (by rw [List.length_take]; have := hc.out; omega) (wrong_take hw.out m) hk
          have tk1 := fun W => cut_take (A := A) (c := c) (L := L) m hm2 hc.out W
          have hRa := rlen (bl (L.take m))
          have p1 := path_ok L i t (by omega) ht
          have p2 := path_slen L i
          have q1 := bridge_ok L m (by omega) hm1 hm2
          have q2 := bridge_blen L m
          have hpl := path_le (bl L).length (bl L) i (Nat.le_refl _)
          have hbl := bridge_le (bl L) m true (by rw [bl_len]; exact hm2) hm1
          rw [bl_len] at hpl hbl
          rw [← hR.out] at p1 q1
          generalize Tr.root alg (bl (L.take m)) = Ra at kroot2 hRa q1
          generalize hps : (Tr.path alg (bl L) i).reverse = ps at kpath p1 p2
          generalize hbs : (Tr.bridge alg (bl L) m true).reverse = bs at kbr q1 q2
          have hpl2 : ps.length ≤ 25 := by rw [← hps, List.length_reverse]; omega
          have hbl2 : bs.length ≤ 25 := by rw [← hbs, List.length_reverse]; omega
          clear hps hbs hpl hbl
          have p3 : pathV t.data.toList (i : Int) (L.length : Int) R (ps ++ [R]) = false := path_len_of (by rw [List.length_append, p2]; simp)
          have p4 : 0 < ps.length → pathV t.data.toList (i : Int) (L.length : Int) R (ps.drop 1) = false := fun h0 => path_len_of (by rw [List.length_drop]; omega)
          have q3 : bridgeV (m : Int) (L.length : Int) Ra R (bs ++ [R]) = false := bridge_len_of (by rw [List.length_append, q2]; simp)
          have q4 : 0 < bs.length → bridgeV (m : Int) (L.length : Int) Ra R (bs.drop 1) = false := fun h0 => bridge_len_of (by rw [List.length_drop]; omega)
          clear p2 q2
          obtain ⟨ad, hA, _⟩ := Kd.at_string HC.out (i : Int) (by omega) (by omega)
          subst hA
          have hcell : Hid (∀ W, Kd.C Kd.string W (some ad) L.length L → W.cell? (ad.add i) = some (.string t)) := Lib.hid fun W h => by
            obtain ⟨ad2, h1, h2⟩ := Kd.at_string h (i : Int) (by omega) (by omega)
            cases h1
            rw [Int.toNat_natCast, rd_at L i hin] at h2
            rw [h2]
            have h3 := List.getElem?_eq_getElem hin
            rw [ht] at h3
            rw [Option.some.inj h3]
          have hts : Hid (t.size ≤ 1048575) := Lib.hid (by have := hLs.out t (List.mem_of_getElem? ht); omega)
          obtain ⟨L1, hL1⟩ : ∃ L1, L1 = L.take m := ⟨_, rfl⟩
          rw [← hL1] at tk1 kroot2
          replace hL1 := Lib.hid hL1
          replace kpath := Lib.hid kpath
          replace kbr := Lib.hid kbr
          replace kroot2 := Lib.hid kroot2
          replace tk1 := Lib.hid tk1
          replace hRa := Lib.hid hRa
          replace p1 := Lib.hid p1
          replace p3 := Lib.hid p3
          replace p4 := Lib.hid p4
          replace q1 := Lib.hid q1
          replace q3 := Lib.hid q3
          replace q4 := Lib.hid q4
          replace ht := Lib.hid ht
          replace hm := Lib.hid hm
          go_wp2_with fail
          refine (kpath.out wr HK.out HC.out).mono ?_
          rintro e w6 ⟨v, rfl, hv, hb_⟩
          obtain ⟨A7, c7, rfl, hc7, H7⟩ := hv.reads
          replace H7 := Lib.hid H7
          replace HC := Lib.hid (Kd.C_below HC.out hb_)
          replace HK := Lib.hid (HK.out.below hb_)
          replace HB := Lib.hid (HB.out.trans (Below.mono hb_ HB.out.size))
          replace H4 := Lib.hid (DigAt.below H4.out hb_)
          replace HW := Lib.hid (HW.out.trans (Below.mono hb_ HW.out.size))
          clear hb_ hv
          go_wp2_with fail
          refine (kbr.out w6 HK.out HC.out).mono ?_
          rintro e w7 ⟨v, rfl, hv, hb_⟩
          obtain ⟨A9, c9, rfl, hc9, H9⟩ := hv.reads
          replace H9 := Lib.hid H9
          replace HC := Lib.hid (Kd.C_below HC.out hb_)
          replace HK := Lib.hid (HK.out.below hb_)
          replace HB := Lib.hid (HB.out.trans (Below.mono hb_ HB.out.size))
          replace H4 := Lib.hid (DigAt.below H4.out hb_)
          replace HW := Lib.hid (HW.out.trans (Below.mono hb_ HW.out.size))
          replace H7 := Lib.hid (CD.below H7.out hb_)
          clear hb_ hv
          go_wp2_with (guard_target = wpList _ _ _ (⟨some 55, _, _, _, _, _⟩ :: _) _ _; refine wpList_slice rfl und_strs' rfl _ rfl _ _ rfl rfl _ tk1.out ?_)
          have HC1 : Kd.C Kd.string w7 (some ad) L1.length L1 := by rw [hL1.out]; exact Kd.C_take HC.out hm2
          refine (kroot2.out w7 HK.out HC1).mono ?_
          rintro e w8 ⟨rfl, hb_⟩
          try replace hb_ := Drawn0.below hb_
          replace HC := Lib.hid (Kd.C_below HC.out hb_)
          replace HK := Lib.hid (HK.out.below hb_)
          replace HB := Lib.hid (HB.out.trans (Below.mono hb_ HB.out.size))
          replace H4 := Lib.hid (DigAt.below H4.out hb_)
          replace HW := Lib.hid (HW.out.trans (Below.mono hb_ HW.out.size))
          replace H7 := Lib.hid (CD.below H7.out hb_)
          replace H9 := Lib.hid (CD.below H9.out hb_)
          clear hb_
          clear HC1
          go_upto_region 13 with (guard_target = wpList _ _ _ (⟨none, _, _, _, _, _⟩ :: _) _ _; refine wpList_store_dig rfl (.tmp 11) (.tmp 57) rfl w8.heap.size rfl Ra hRa.out rfl _ _ (heap_alloc_last _ _) zrow ?_; intro w9 h9 _ hB9)
          have hb9 : Below w8.heap.size w8 w9 := hB9 ((Below.refl _ _).alloc (Nat.le_refl _) _) (Nat.le_refl _)
          have H11 : Hid (DigAt w8.heap.size Ra w9) := h9
          replace HC := Lib.hid (Kd.C_below HC.out hb9)
          replace HK := Lib.hid (HK.out.below hb9)
          replace HB := Lib.hid (HB.out.trans (Below.mono hb9 HB.out.size))
          replace H4 := Lib.hid (DigAt.below H4.out hb9)
          replace HW := Lib.hid (HW.out.trans (Below.mono hb9 HW.out.size))
          replace H7 := Lib.hid (CD.below H7.out hb9)
          replace H9 := Lib.hid (CD.below H9.out hb9)
          clear hb9 hB9 h9
          generalize w8.heap.size = b11 at H11 ⊢
          have kc1 := fun W hC hk => tCheckPath_calls t hts.out (i : Int) (L.length : Int) R hRl.out ps A7 c7 W hC hc7 hk
          have kc2 := fun W hC hk => tCheckBridge_calls (m : Int) (L.length : Int) Ra R hRa.out hRl.out bs A9 c9 W hC hc9 hk
          rw [p1.out] at kc1
          rw [q1.out] at kc2
          replace kc1 := Lib.hid kc1
          replace kc2 := Lib.hid kc2
          replace hc7 := Lib.hid hc7
          replace hc9 := Lib.hid hc9
          refine wp_region_held (S := S7 (ad.add i) t b4 R b11 Ra) (by kernel_rfl) ?_
          change wpAnyH _ _ _ _ _ _ _ _ w9.drew
          have hdr : Below w9.heap.size w9 w9.drew := (Below.refl _ _).drew
          replace HC := Lib.hid (Kd.C_below HC.out hdr)
          replace HK := Lib.hid (HK.out.below hdr)
          replace HB := Lib.hid (HB.out.trans (Below.mono hdr HB.out.size))
          replace H4 := Lib.hid (DigAt.below H4.out hdr)
          replace HW := Lib.hid (HW.out.trans (Below.mono hdr HW.out.size))
          replace H7 := Lib.hid (CD.below H7.out hdr)
          replace H9 := Lib.hid (CD.below H9.out hdr)
          replace H11 := Lib.hid (DigAt.below H11.out hdr)
          clear hdr
          generalize w9.drew = x1 at HC HK HB H4 HW H7 H9 H11 ⊢
          have hS : S7 (ad.add i) t b4 R b11 Ra x1 := ⟨hcell.out x1 HC.out, H4.out, H11.out⟩
          refine wpAnyH_take (i := 0) (v := ?_) rfl (by kernel_rfl) (by kernel_rfl) (by kernel_rfl) (fun _ _ _ h => h) (Or.inl ⟨by rfl, ?_⟩) hS ?_
          rotate_left
          · intro v _; go_simp; first | done | with_reducible rfl
          rotate_left
          simp only [List.getElem_toArray, List.getElem_cons_succ, List.getElem_cons_zero, Act.put, List.setIfInBounds_toArray, List.set_cons_zero, List.set_cons_succ]
          refine wpAnyH_take (i := 1) (v := ?_) rfl (by kernel_rfl) (by kernel_rfl) (by kernel_rfl) (fun _ _ _ h => h) (Or.inl ⟨by rfl, ?_⟩) hS ?_
          rotate_left
          · intro v _; go_simp; first | done | with_reducible rfl
          rotate_left
          simp only [List.getElem_toArray, List.getElem_cons_succ, List.getElem_cons_zero, Act.put, List.setIfInBounds_toArray, List.set_cons_zero, List.set_cons_succ]
          refine wpAnyH_take (i := 2) (v := ?_) rfl (by kernel_rfl) (by kernel_rfl) (by kernel_rfl) (fun _ _ _ h => h) (Or.inl ⟨by rfl, ?_⟩) hS ?_
          rotate_left
          · intro v _; go_simp; first | done | with_reducible rfl
          rotate_left
          simp only [List.getElem_toArray, List.getElem_cons_succ, List.getElem_cons_zero, Act.put, List.setIfInBounds_toArray, List.set_cons_zero, List.set_cons_succ]
          refine wpAnyH_take (i := 3) (v := ?_) rfl (by kernel_rfl) (by kernel_rfl) (by kernel_rfl) (fun _ _ _ h => h) (Or.inl ⟨by rfl, ?_⟩) hS ?_
          rotate_left
          · intro v _; go_simp; first | done | with_reducible rfl
          rotate_left
          simp only [List.getElem_toArray, List.getElem_cons_succ, List.getElem_cons_zero, Act.put, List.setIfInBounds_toArray, List.set_cons_zero, List.set_cons_succ]
          refine wpAnyH_take (i := 4) (v := ?_) rfl (by kernel_rfl) (by kernel_rfl) (by kernel_rfl) (fun _ _ _ h => h) (Or.inl ⟨by rfl, ?_⟩) hS ?_
          rotate_left
          · intro v _; go_simp; first | done | with_reducible rfl
          rotate_left
          simp only [List.getElem_toArray, List.getElem_cons_succ, List.getElem_cons_zero, Act.put, List.setIfInBounds_toArray, List.set_cons_zero, List.set_cons_succ]
          refine wpAnyH_take (i := 5) (v := ?_) rfl (by kernel_rfl) (by kernel_rfl) (by kernel_rfl) (fun _ _ _ h => h) (Or.inl ⟨by rfl, ?_⟩) hS ?_
          rotate_left
          · intro v _; go_simp; first | done | with_reducible rfl
          rotate_left
          simp only [List.getElem_toArray, List.getElem_cons_succ, List.getElem_cons_zero, Act.put, List.setIfInBounds_toArray, List.set_cons_zero, List.set_cons_succ]
          refine wpAnyH_take (i := 6) (v := ?_) rfl (by kernel_rfl) (by kernel_rfl) (by kernel_rfl) (fun _ _ _ h => h) (Or.inl ⟨by rfl, ?_⟩) hS ?_
          rotate_left
          · intro v _; go_simp; first | done | with_reducible rfl
          rotate_left
          simp only [List.getElem_toArray, List.getElem_cons_succ, List.getElem_cons_zero, Act.put, List.setIfInBounds_toArray, List.set_cons_zero, List.set_cons_succ]
          refine wpAnyH_take (i := 7) (v := ?_) rfl (by kernel_rfl) (by kernel_rfl) (by kernel_rfl) (fun _ _ _ h => h) (Or.inl ⟨by rfl, ?_⟩) hS ?_
          rotate_left
          · intro v _; go_simp; first | done | with_reducible rfl
          rotate_left
          simp only [List.getElem_toArray, List.getElem_cons_succ, List.getElem_cons_zero, Act.put, List.setIfInBounds_toArray, List.set_cons_zero, List.set_cons_succ]
          refine wpAnyH_take (i := 8) (v := ?_) rfl (by kernel_rfl) (by kernel_rfl) (by kernel_rfl) (fun _ _ _ h => h) (Or.inl ⟨by rfl, ?_⟩) hS ?_
          rotate_left
          · intro v _; go_simp; first | done | with_reducible rfl
          rotate_left
          simp only [List.getElem_toArray, List.getElem_cons_succ, List.getElem_cons_zero, Act.put, List.setIfInBounds_toArray, List.set_cons_zero, List.set_cons_succ]
          refine wpAnyH_take (i := 9) (v := ?_) rfl (by kernel_rfl) (by kernel_rfl) (by kernel_rfl) (fun _ _ _ h => h) (Or.inl ⟨by rfl, ?_⟩) hS ?_
          rotate_left
          · intro v _; go_simp; first | done | with_reducible rfl
          rotate_left
          simp only [List.getElem_toArray, List.getElem_cons_succ, List.getElem_cons_zero, Act.put, List.setIfInBounds_toArray, List.set_cons_zero, List.set_cons_succ]
          refine wpAnyH_take (i := 10) (v := ?_) rfl (by kernel_rfl) (by kernel_rfl) (by kernel_rfl) (fun _ _ _ h => h) (Or.inl ⟨by rfl, ?_⟩) hS ?_
          rotate_left
          · intro v _; go_simp; first | done | with_reducible rfl
          rotate_left
          simp only [List.getElem_toArray, List.getElem_cons_succ, List.getElem_cons_zero, Act.put, List.setIfInBounds_toArray, List.set_cons_zero, List.set_cons_succ]
          refine wpAnyH_take (i := 11) (v := ?_) rfl (by kernel_rfl) (by kernel_rfl) (by kernel_rfl) (fun _ _ _ h => h) (Or.inl ⟨by rfl, ?_⟩) hS ?_
          rotate_left
          · intro v _; go_simp; first | done | with_reducible rfl
          rotate_left
          simp only [List.getElem_toArray, List.getElem_cons_succ, List.getElem_cons_zero, Act.put, List.setIfInBounds_toArray, List.set_cons_zero, List.set_cons_succ]
          refine wpAnyH_take (i := 12) (v := ?_) rfl (by kernel_rfl) (by kernel_rfl) (by kernel_rfl) (fun _ _ _ h => h) (Or.inl ⟨by rfl, ?_⟩) hS ?_
          rotate_left
          · intro v _; go_simp; first | done | with_reducible rfl
          rotate_left
          simp only [List.getElem_toArray, List.getElem_cons_succ, List.getElem_cons_zero, Act.put, List.setIfInBounds_toArray, List.set_cons_zero, List.set_cons_succ]
          refine wpAnyH_take (i := 13) (v := ?_) rfl (by kernel_rfl) (by kernel_rfl) (by kernel_rfl) (fun _ _ _ h => h) (Or.inl ⟨by rfl, ?_⟩) hS ?_
          rotate_left
          · intro v _; go_simp; first | done | with_reducible rfl
          rotate_left
          simp only [List.getElem_toArray, List.getElem_cons_succ, List.getElem_cons_zero, Act.put, List.setIfInBounds_toArray, List.set_cons_zero, List.set_cons_succ]
          refine wpAnyH_take (i := 14) (v := _) rfl (by kernel_rfl) (by kernel_rfl) (by kernel_rfl) (fun _ _ _ h => h) (yieldsIf_cell (by rfl) 9 (.tmp 72) rfl (ad.add i) rfl (.string t) agg9 (fun _ h => h.1)) hS ?_
          simp only [List.getElem_toArray, List.getElem_cons_succ, List.getElem_cons_zero, Act.put, List.setIfInBounds_toArray, List.set_cons_zero, List.set_cons_succ]
          refine wpAnyH_take (i := 15) (v := ?_) rfl (by kernel_rfl) (by kernel_rfl) (by kernel_rfl) (fun _ _ _ h => h) (Or.inl ⟨by rfl, ?_⟩) hS ?_
          rotate_left
          · intro v _; go_simp; first | done | with_reducible rfl
          rotate_left
          simp only [List.getElem_toArray, List.getElem_cons_succ, List.getElem_cons_zero, Act.put, List.setIfInBounds_toArray, List.set_cons_zero, List.set_cons_succ]
          refine wpAnyH_take (i := 16) (v := ?_) rfl (by kernel_rfl) (by kernel_rfl) (by kernel_rfl) (fun _ _ _ h => h) (Or.inl ⟨by rfl, ?_⟩) hS ?_
          rotate_left
          · intro v _; go_simp; first | done | with_reducible rfl
          rotate_left
          simp only [List.getElem_toArray, List.getElem_cons_succ, List.getElem_cons_zero, Act.put, List.setIfInBounds_toArray, List.set_cons_zero, List.set_cons_succ]
          refine wpAnyH_take (i := 17) (v := ?_) rfl (by kernel_rfl) (by kernel_rfl) (by kernel_rfl) (fun _ _ _ h => h) (Or.inl ⟨by rfl, ?_⟩) hS ?_
          rotate_left
          · intro v _; go_simp; first | done | with_reducible rfl
          rotate_left
          simp only [List.getElem_toArray, List.getElem_cons_succ, List.getElem_cons_zero, Act.put, List.setIfInBounds_toArray, List.set_cons_zero, List.set_cons_succ]
          refine wpAnyH_take (i := 18) (v := _) rfl (by kernel_rfl) (by kernel_rfl) (by kernel_rfl) (fun _ _ _ h => h) (yieldsIf_digA (by rfl) (.tmp 4) rfl ⟨b4,0,none⟩ rfl R hRl.out (fun _ h => (DigAt.ad h.2.1))) hS ?_
          try simp only [List.getElem_toArray, List.getElem_cons_succ, List.getElem_cons_zero, Act.put, List.setIfInBounds_toArray, List.set_cons_zero, List.set_cons_succ]
          refine wpAnyH_take (i := 19) (v := ?_) rfl (by kernel_rfl) (by kernel_rfl) (by kernel_rfl) (fun _ _ _ h => h) (Or.inl ⟨by rfl, ?_⟩) hS ?_
          rotate_left
          · intro v _; go_simp; first | done | with_reducible rfl
          rotate_left
          simp only [List.getElem_toArray, List.getElem_cons_succ, List.getElem_cons_zero, Act.put, List.setIfInBounds_toArray, List.set_cons_zero, List.set_cons_succ]
          refine wpAnyH_all (rs := [20]) (by kernel_rfl) (by simp) ?_
          intro i hi
          simp only [List.mem_cons, List.not_mem_nil, or_false] at hi
          subst hi
          refine wpOp_wp rfl (by rfl) ?_
          go_simp
          refine (kc1.out x1 H7.out HK.out).mono ?_
          rintro e x2 ⟨rfl, hb_⟩
          replace HC := Lib.hid (Kd.C_below HC.out hb_)
          replace HK := Lib.hid (HK.out.below hb_)
          replace HB := Lib.hid (HB.out.trans (Below.mono hb_ HB.out.size))
          replace H4 := Lib.hid (DigAt.below H4.out hb_)
          replace HW := Lib.hid (HW.out.trans (Below.mono hb_ HW.out.size))
          replace H7 := Lib.hid (CD.below H7.out hb_)
          replace H9 := Lib.hid (CD.below H9.out hb_)
          replace H11 := Lib.hid (DigAt.below H11.out hb_)
          clear hb_ hS
          have hS : S7 (ad.add i) t b4 R b11 Ra x2 := ⟨hcell.out x2 HC.out, H4.out, H11.out⟩
          refine ⟨hS, ?_⟩
          try simp only [List.getElem_toArray, List.getElem_cons_succ, List.getElem_cons_zero, Act.put, List.setIfInBounds_toArray, List.set_cons_zero, List.set_cons_succ]
          refine wpAnyH_take (i := 21) (v := ?_) rfl (by kernel_rfl) (by kernel_rfl) (by kernel_rfl) (fun _ _ _ h => h) (Or.inl ⟨by rfl, ?_⟩) hS ?_
          rotate_left
          · intro v _; go_simp; first | done | with_reducible rfl
          rotate_left
          simp only [List.getElem_toArray, List.getElem_cons_succ, List.getElem_cons_zero, Act.put, List.setIfInBounds_toArray, List.set_cons_zero, List.set_cons_succ]
          refine wpAnyH_take (i := 22) (v := ?_) rfl (by kernel_rfl) (by kernel_rfl) (by kernel_rfl) (fun _ _ _ h => h) (Or.inl ⟨by rfl, ?_⟩) hS ?_
          rotate_left
          · intro v _; go_simp; first | done | with_reducible rfl
          rotate_left
          simp only [List.getElem_toArray, List.getElem_cons_succ, List.getElem_cons_zero, Act.put, List.setIfInBounds_toArray, List.set_cons_zero, List.set_cons_succ]
          refine wpAnyH_take (i := 23) (v := ?_) rfl (by kernel_rfl) (by kernel_rfl) (by kernel_rfl) (fun _ _ _ h => h) (Or.inl ⟨by rfl, ?_⟩) hS ?_
          rotate_left
          · intro v _; go_simp; first | done | with_reducible rfl
          rotate_left
          simp only [List.getElem_toArray, List.getElem_cons_succ, List.getElem_cons_zero, Act.put, List.setIfInBounds_toArray, List.set_cons_zero, List.set_cons_succ]
          refine wpAnyH_take (i := 24) (v := ?_) rfl (by kernel_rfl) (by kernel_rfl) (by kernel_rfl) (fun _ _ _ h => h) (Or.inl ⟨by rfl, ?_⟩) hS ?_
          rotate_left
          · intro v _; go_simp; first | done | with_reducible rfl
          rotate_left
          simp only [List.getElem_toArray, List.getElem_cons_succ, List.getElem_cons_zero, Act.put, List.setIfInBounds_toArray, List.set_cons_zero, List.set_cons_succ]
          refine wpAnyH_take (i := 25) (v := ?_) rfl (by kernel_rfl) (by kernel_rfl) (by kernel_rfl) (fun _ _ _ h => h) (Or.inl ⟨by rfl, ?_⟩) hS ?_
          rotate_left
          · intro v _; go_simp; first | done | with_reducible rfl
          rotate_left
          simp only [List.getElem_toArray, List.getElem_cons_succ, List.getElem_cons_zero, Act.put, List.setIfInBounds_toArray, List.set_cons_zero, List.set_cons_succ]
          refine wpAnyH_take (i := 26) (v := ?_) rfl (by kernel_rfl) (by kernel_rfl) (by kernel_rfl) (fun _ _ _ h => h) (Or.inl ⟨by rfl, ?_⟩) hS ?_
          rotate_left
          · intro v _; go_simp; first | done | with_reducible rfl
          rotate_left
          simp only [List.getElem_toArray, List.getElem_cons_succ, List.getElem_cons_zero, Act.put, List.setIfInBounds_toArray, List.set_cons_zero, List.set_cons_succ]
          refine wpAnyH_take (i := 27) (v := ?_) rfl (by kernel_rfl) (by kernel_rfl) (by kernel_rfl) (fun _ _ _ h => h) (Or.inl ⟨by rfl, ?_⟩) hS ?_
          rotate_left
          · intro v _; go_simp; first | done | with_reducible rfl
          rotate_left
          simp only [List.getElem_toArray, List.getElem_cons_succ, List.getElem_cons_zero, Act.put, List.setIfInBounds_toArray, List.set_cons_zero, List.set_cons_succ]
          refine wpAnyH_take (i := 28) (v := _) rfl (by kernel_rfl) (by kernel_rfl) (by kernel_rfl) (fun _ _ _ h => h) (yieldsIf_digA (by rfl) (.tmp 11) rfl ⟨b11,0,none⟩ rfl Ra hRa.out (fun _ h => (DigAt.ad h.2.2))) hS ?_
          try simp only [List.getElem_toArray, List.getElem_cons_succ, List.getElem_cons_zero, Act.put, List.setIfInBounds_toArray, List.set_cons_zero, List.set_cons_succ]
          refine wpAnyH_take (i := 29) (v := _) rfl (by kernel_rfl) (by kernel_rfl) (by kernel_rfl) (fun _ _ _ h => h) (yieldsIf_digA (by rfl) (.tmp 4) rfl ⟨b4,0,none⟩ rfl R hRl.out (fun _ h => (DigAt.ad h.2.1))) hS ?_
          try simp only [List.getElem_toArray, List.getElem_cons_succ, List.getElem_cons_zero, Act.put, List.setIfInBounds_toArray, List.set_cons_zero, List.set_cons_succ]
          refine wpAnyH_take (i := 30) (v := ?_) rfl (by kernel_rfl) (by kernel_rfl) (by kernel_rfl) (fun _ _ _ h => h) (Or.inl ⟨by rfl, ?_⟩) hS ?_
          rotate_left
          · intro v _; go_simp; first | done | with_reducible rfl
          rotate_left
          simp only [List.getElem_toArray, List.getElem_cons_succ, List.getElem_cons_zero, Act.put, List.setIfInBounds_toArray, List.set_cons_zero, List.set_cons_succ]
          refine wpAnyH_all (rs := [31]) (by kernel_rfl) (by simp) ?_
          intro i hi
          simp only [List.mem_cons, List.not_mem_nil, or_false] at hi
          subst hi
          refine wpOp_wp rfl (by rfl) ?_
          go_simp
          refine (kc2.out x2 H9.out HK.out).mono ?_
          rintro e x3 ⟨rfl, hb_⟩
          replace HC := Lib.hid (Kd.C_below HC.out hb_)
          replace HK := Lib.hid (HK.out.below hb_)
          replace HB := Lib.hid (HB.out.trans (Below.mono hb_ HB.out.size))
          replace H4 := Lib.hid (DigAt.below H4.out hb_)
          replace HW := Lib.hid (HW.out.trans (Below.mono hb_ HW.out.size))
          replace H7 := Lib.hid (CD.below H7.out hb_)
          replace H9 := Lib.hid (CD.below H9.out hb_)
          replace H11 := Lib.hid (DigAt.below H11.out hb_)
          clear hb_ hS
          have hS : S7 (ad.add i) t b4 R b11 Ra x3 := ⟨hcell.out x3 HC.out, H4.out, H11.out⟩
          refine ⟨hS, ?_⟩
          try simp only [List.getElem_toArray, List.getElem_cons_succ, List.getElem_cons_zero, Act.put, List.setIfInBounds_toArray, List.set_cons_zero, List.set_cons_succ]
          refine wpAnyH_take (i := 32) (v := ?_) rfl (by kernel_rfl) (by kernel_rfl) (by kernel_rfl) (fun _ _ _ h => h) (Or.inl ⟨by rfl, ?_⟩) hS ?_
          rotate_left
          · intro v _; go_simp; first | done | with_reducible rfl
          rotate_left
          simp only [List.getElem_toArray, List.getElem_cons_succ, List.getElem_cons_zero, Act.put, List.setIfInBounds_toArray, List.set_cons_zero, List.set_cons_succ]
          refine wpAnyH_take (i := 33) (v := ?_) rfl (by kernel_rfl) (by kernel_rfl) (by kernel_rfl) (fun _ _ _ h => h) (Or.inl ⟨by rfl, ?_⟩) hS ?_
          rotate_left
          · intro v _; go_simp; first | done | with_reducible rfl
          rotate_left
          simp only [List.getElem_toArray, List.getElem_cons_succ, List.getElem_cons_zero, Act.put, List.setIfInBounds_toArray, List.set_cons_zero, List.set_cons_succ]
          refine wpAnyH_done (by kernel_rfl) ?_ _
          clear hS kc1 kc2
          generalize x3 = wa at HC HK HB H4 HW H7 H9 H11 ⊢
          go_upto_region 15 with fail
          go_cut [13] from 93 to 98 (fun v wx => ∃ (A : Option Addr) (c : Nat), v = .slice A (ps ++ [R]).length c ∧ (ps ++ [R]).length ≤ c ∧ Hid (CD A (ps ++ [R]) wx) ∧ Hid (Below wa.heap.size wa wx))
          case first =>
            refine wp_region_held (S := S5 b4 R) (by kernel_rfl) ?_
            change wpAnyH _ _ _ _ _ _ _ _ wa.drew
            have h0x : Hid (Below wa.heap.size wa wa.drew) := Lib.hid (Below.refl _ _).drew
            have hz0 : Hid (wa.drew.heap.size = wa.heap.size) := Lib.hid rfl
            replace H4 : Hid (DigAt b4 R wa.drew) := H4
            have HP : Hid (CD A7 ps wa.drew) := H7
            obtain ⟨n0, hn0⟩ : ∃ n, n = wa.heap.size := ⟨_, rfl⟩
            generalize wa.drew = x0 at H4 HP h0x hz0 ⊢
            have hS : S5 b4 R x0 := H4.out
            refine wpAnyH_take (i := 1) (v := ?_) rfl (by kernel_rfl) (by kernel_rfl) (by kernel_rfl) (fun _ _ _ h => h) (Or.inl ⟨by rfl, ?_⟩) hS ?_
            rotate_left
            · intro v _; go_simp; first | done | with_reducible rfl
            rotate_left
            simp only [List.getElem_toArray, List.getElem_cons_succ, List.getElem_cons_zero, Act.put, List.setIfInBounds_toArray, List.set_cons_zero, List.set_cons_succ]
            refine wpAnyH_take (i := 3) (v := _) rfl (by kernel_rfl) (by kernel_rfl) (by kernel_rfl) (fun _ _ _ h => h) (yieldsIf_digA (by rfl) (.tmp 4) rfl ⟨b4,0,none⟩ rfl R hRl.out (fun _ h => (DigAt.ad h))) hS ?_
            try simp only [List.getElem_toArray, List.getElem_cons_succ, List.getElem_cons_zero, Act.put, List.setIfInBounds_toArray, List.set_cons_zero, List.set_cons_succ]
            refine wpAnyH_all (rs := [0, 4]) (by kernel_rfl) (by simp) ?_
            intro i hi
            simp only [List.mem_cons, List.not_mem_nil, or_false] at hi
            rcases hi with rfl | rfl
            · skip
              refine wpOp_wp rfl (by rfl) ?_
              refine wp_buildSlice_0 rfl ?_
              intro x1 HZ hb1 hs1
              have HX := Lib.hid hb1
              clear hS hb1
              have hS : S5 b4 R x1 := DigAt.below H4.out HX.out
              refine ⟨hS, ?_⟩
              try simp only [List.getElem_toArray, List.getElem_cons_succ, List.getElem_cons_zero, Act.put, List.setIfInBounds_toArray, List.set_cons_zero, List.set_cons_succ]
              refine wpAnyH_all (rs := [2, 4]) (by kernel_rfl) (by simp) ?_
              intro i hi
              simp only [List.mem_cons, List.not_mem_nil, or_false] at hi
              rcases hi with rfl | rfl
              · skip
                refine wpOp_wp rfl (by rfl) ?_
                have hP1 := CD.below HP.out HX.out
                refine wp_append_digs rfl (.tmp 93) (.tmp 94) rfl _ [] ps A7 ps.length c7 rfl rfl rfl HZ.out hP1 HX.out HX.out.size (by simp; omega) ?_
                intro v95 x2 HR95 hb2 _
                replace HX := Lib.hid hb2
                clear hS hb2 hP1
                have hS : S5 b4 R x2 := DigAt.below H4.out HX.out
                refine ⟨hS, ?_⟩
                try simp only [List.getElem_toArray, List.getElem_cons_succ, List.getElem_cons_zero, Act.put, List.setIfInBounds_toArray, List.set_cons_zero, List.set_cons_succ]
                refine wpAnyH_all (rs := [4]) (by kernel_rfl) (by simp) ?_
                intro i hi
                simp only [List.mem_cons, List.not_mem_nil, or_false] at hi
                subst hi
                refine wpOp_wp rfl (by rfl) ?_
                refine wp_buildSlice_1 (.tmp 96) rfl R hRl.out rfl ?_
                intro x3 HL hb3 hs3
                replace HR95 := Lib.hid (RD.below HR95.out hb3)
                replace HX := Lib.hid (HX.out.trans (hb3.mono HX.out.size))
                clear hS hb3
                have hS : S5 b4 R x3 := DigAt.below H4.out HX.out
                refine ⟨hS, ?_⟩
                try simp only [List.getElem_toArray, List.getElem_cons_succ, List.getElem_cons_zero, Act.put, List.setIfInBounds_toArray, List.set_cons_zero, List.set_cons_succ]
                refine wpAnyH_all (rs := [5]) (by kernel_rfl) (by simp) ?_
                intro i hi
                simp only [List.mem_cons, List.not_mem_nil, or_false] at hi
                subst hi
                refine wpOp_wp rfl (by rfl) ?_
                obtain ⟨AL, cL, hvL, hcL, HCL⟩ := HL.out.reads
                cases hvL
                refine wp_append_digs rfl (.tmp 95) (.tmp 97) rfl v95 ([] ++ ps) [R] _ 1 _ rfl rfl rfl HR95.out HCL HX.out HX.out.size (by simp; omega) ?_
                intro v98 x4 HR98 hb4 _
                replace HX := Lib.hid hb4
                clear hS hb4 HCL
                have hS : S5 b4 R x4 := DigAt.below H4.out HX.out
                refine ⟨hS, ?_⟩
                try simp only [List.getElem_toArray, List.getElem_cons_succ, List.getElem_cons_zero, Act.put, List.setIfInBounds_toArray, List.set_cons_zero, List.set_cons_succ]
                obtain ⟨A13, c13, hv, hc13, H13⟩ := HR98.out.reads
                rw [List.nil_append] at hv hc13 H13
                subst hv
                refine wpAnyH_take (i := 6) (v := ?_) rfl (by kernel_rfl) (by kernel_rfl) (by kernel_rfl) (fun _ _ _ h => h) (Or.inl ⟨by rfl, ?_⟩) hS ?_
                rotate_left
                · intro v _; go_simp; first | done | with_reducible rfl
                rotate_left
                simp only [List.getElem_toArray, List.getElem_cons_succ, List.getElem_cons_zero, Act.put, List.setIfInBounds_toArray, List.set_cons_zero, List.set_cons_succ]
                refine wpAnyH_done (by kernel_rfl) ?_ _
                go_wp2_with fail
                go_meet
                exact ⟨A13, c13, by rw [List.length_append]; rfl, hc13, Lib.hid H13, Lib.hid (h0x.out.trans (HX.out.mono h0x.out.size))⟩
              · skip
                refine wpOp_wp rfl (by rfl) ?_
                refine wp_buildSlice_1 (.tmp 96) rfl R hRl.out rfl ?_
                intro x2 HL hb2 hs2
                replace HZ := Lib.hid (RD.below HZ.out hb2)
                replace HX := Lib.hid (HX.out.trans (hb2.mono HX.out.size))
                clear hS hb2
                have hS : S5 b4 R x2 := DigAt.below H4.out HX.out
                refine ⟨hS, ?_⟩
                try simp only [List.getElem_toArray, List.getElem_cons_succ, List.getElem_cons_zero, Act.put, List.setIfInBounds_toArray, List.set_cons_zero, List.set_cons_succ]
                refine wpAnyH_all (rs := [2]) (by kernel_rfl) (by simp) ?_
                intro i hi
                simp only [List.mem_cons, List.not_mem_nil, or_false] at hi
                subst hi
                refine wpOp_wp rfl (by rfl) ?_
                have hP1 := CD.below HP.out HX.out
                refine wp_append_digs rfl (.tmp 93) (.tmp 94) rfl _ [] ps A7 ps.length c7 rfl rfl rfl HZ.out hP1 HX.out HX.out.size (by simp; omega) ?_
                intro v95 x3 HR95 hb3 hg3
                have HL3 := Lib.hid (RD.grown HL.out hg3.out (fun k hk => by have h1 : x1.heap.size = k := Option.some.inj hk; intro h2; have h3 : k = x0.heap.size := Option.some.inj h2; omega))
                replace HX := Lib.hid hb3
                clear hS hb3 hP1 hg3 HL
                have hS : S5 b4 R x3 := DigAt.below H4.out HX.out
                refine ⟨hS, ?_⟩
                try simp only [List.getElem_toArray, List.getElem_cons_succ, List.getElem_cons_zero, Act.put, List.setIfInBounds_toArray, List.set_cons_zero, List.set_cons_succ]
                refine wpAnyH_all (rs := [5]) (by kernel_rfl) (by simp) ?_
                intro i hi
                simp only [List.mem_cons, List.not_mem_nil, or_false] at hi
                subst hi
                refine wpOp_wp rfl (by rfl) ?_
                obtain ⟨AL, cL, hvL, hcL, HCL⟩ := HL3.out.reads
                cases hvL
                refine wp_append_digs rfl (.tmp 95) (.tmp 97) rfl v95 ([] ++ ps) [R] _ 1 _ rfl rfl rfl HR95.out HCL HX.out HX.out.size (by simp; omega) ?_
                intro v98 x4 HR98 hb4 _
                replace HX := Lib.hid hb4
                clear hS hb4 HCL
                have hS : S5 b4 R x4 := DigAt.below H4.out HX.out
                refine ⟨hS, ?_⟩
                try simp only [List.getElem_toArray, List.getElem_cons_succ, List.getElem_cons_zero, Act.put, List.setIfInBounds_toArray, List.set_cons_zero, List.set_cons_succ]
                obtain ⟨A13, c13, hv, hc13, H13⟩ := HR98.out.reads
                rw [List.nil_append] at hv hc13 H13
                subst hv
                refine wpAnyH_take (i := 6) (v := ?_) rfl (by kernel_rfl) (by kernel_rfl) (by kernel_rfl) (fun _ _ _ h => h) (Or.inl ⟨by rfl, ?_⟩) hS ?_
                rotate_left
                · intro v _; go_simp; first | done | with_reducible rfl
                rotate_left
                simp only [List.getElem_toArray, List.getElem_cons_succ, List.getElem_cons_zero, Act.put, List.setIfInBounds_toArray, List.set_cons_zero, List.set_cons_succ]
                refine wpAnyH_done (by kernel_rfl) ?_ _
                go_wp2_with fail
                go_meet
                exact ⟨A13, c13, by rw [List.length_append]; rfl, hc13, Lib.hid H13, Lib.hid (h0x.out.trans (HX.out.mono h0x.out.size))⟩
            · skip
              refine wpOp_wp rfl (by rfl) ?_
              refine wp_buildSlice_1 (.tmp 96) rfl R hRl.out rfl ?_
              intro x1 HL hb1 hs1
              have HX := Lib.hid hb1
              clear hS hb1
              have hS : S5 b4 R x1 := DigAt.below H4.out HX.out
              refine ⟨hS, ?_⟩
              try simp only [List.getElem_toArray, List.getElem_cons_succ, List.getElem_cons_zero, Act.put, List.setIfInBounds_toArray, List.set_cons_zero, List.set_cons_succ]
              refine wpAnyH_all (rs := [0]) (by kernel_rfl) (by simp) ?_
              intro i hi
              simp only [List.mem_cons, List.not_mem_nil, or_false] at hi
              subst hi
              refine wpOp_wp rfl (by rfl) ?_
              refine wp_buildSlice_0 rfl ?_
              intro x2 HZ hb2 hs2
              replace HL := Lib.hid (RD.below HL.out hb2)
              replace HX := Lib.hid (HX.out.trans (hb2.mono HX.out.size))
              replace HZ := Lib.hid (HZ.out.lower (show x0.heap.size ≤ x1.heap.size by omega))
              clear hS hb2
              have hS : S5 b4 R x2 := DigAt.below H4.out HX.out
              refine ⟨hS, ?_⟩
              try simp only [List.getElem_toArray, List.getElem_cons_succ, List.getElem_cons_zero, Act.put, List.setIfInBounds_toArray, List.set_cons_zero, List.set_cons_succ]
              refine wpAnyH_all (rs := [2]) (by kernel_rfl) (by simp) ?_
              intro i hi
              simp only [List.mem_cons, List.not_mem_nil, or_false] at hi
              subst hi
              refine wpOp_wp rfl (by rfl) ?_
              have hP1 := CD.below HP.out HX.out
              refine wp_append_digs rfl (.tmp 93) (.tmp 94) rfl _ [] ps A7 ps.length c7 rfl rfl rfl HZ.out hP1 HX.out HX.out.size (by simp; omega) ?_
              intro v95 x3 HR95 hb3 hg3
              have HL3 := Lib.hid (RD.grown HL.out hg3.out (fun k hk => by have h1 : x0.heap.size = k := Option.some.inj hk; intro h2; have h3 : k = x1.heap.size := Option.some.inj h2; omega))
              replace HX := Lib.hid hb3
              clear hS hb3 hP1 hg3 HL
              have hS : S5 b4 R x3 := DigAt.below H4.out HX.out
              refine ⟨hS, ?_⟩
              try simp only [List.getElem_toArray, List.getElem_cons_succ, List.getElem_cons_zero, Act.put, List.setIfInBounds_toArray, List.set_cons_zero, List.set_cons_succ]
              refine wpAnyH_all (rs := [5]) (by kernel_rfl) (by simp) ?_
              intro i hi
              simp only [List.mem_cons, List.not_mem_nil, or_false] at hi
              subst hi
              refine wpOp_wp rfl (by rfl) ?_
              obtain ⟨AL, cL, hvL, hcL, HCL⟩ := HL3.out.reads
              cases hvL
              refine wp_append_digs rfl (.tmp 95) (.tmp 97) rfl v95 ([] ++ ps) [R] _ 1 _ rfl rfl rfl HR95.out HCL HX.out HX.out.size (by simp; omega) ?_
              intro v98 x4 HR98 hb4 _
              replace HX := Lib.hid hb4
              clear hS hb4 HCL
              have hS : S5 b4 R x4 := DigAt.below H4.out HX.out
              refine ⟨hS, ?_⟩
              try simp only [List.getElem_toArray, List.getElem_cons_succ, List.getElem_cons_zero, Act.put, List.setIfInBounds_toArray, List.set_cons_zero, List.set_cons_succ]
              obtain ⟨A13, c13, hv, hc13, H13⟩ := HR98.out.reads
              rw [List.nil_append] at hv hc13 H13
              subst hv
              refine wpAnyH_take (i := 6) (v := ?_) rfl (by kernel_rfl) (by kernel_rfl) (by kernel_rfl) (fun _ _ _ h => h) (Or.inl ⟨by rfl, ?_⟩) hS ?_
              rotate_left
              · intro v _; go_simp; first | done | with_reducible rfl
              rotate_left
              simp only [List.getElem_toArray, List.getElem_cons_succ, List.getElem_cons_zero, Act.put, List.setIfInBounds_toArray, List.set_cons_zero, List.set_cons_succ]
              refine wpAnyH_done (by kernel_rfl) ?_ _
              go_wp2_with fail
              go_meet
              exact ⟨A13, c13, by rw [List.length_append]; rfl, hc13, Lib.hid H13, Lib.hid (h0x.out.trans (HX.out.mono h0x.out.size))⟩
          case rest =>
            obtain ⟨A13, c13, rfl, hc13, H13, hbc⟩ := hcut
            replace HC := Lib.hid (Kd.C_below HC.out hbc.out)
            replace HK := Lib.hid (HK.out.below hbc.out)
            replace HB := Lib.hid (HB.out.trans (Below.mono hbc.out HB.out.size))
            replace H4 := Lib.hid (DigAt.below H4.out hbc.out)
            replace HW := Lib.hid (HW.out.trans (Below.mono hbc.out HW.out.size))
            replace H7 := Lib.hid (CD.below H7.out hbc.out)
            replace H9 := Lib.hid (CD.below H9.out hbc.out)
            replace H11 := Lib.hid (DigAt.below H11.out hbc.out)
            clear hbc
            generalize wc = wb at HC HK HB H4 HW H7 H9 H11 H13 ⊢
            go_upto_region 16 with fail
            go_cut [14] from 99 to 104 (fun v wx => ∃ (A : Option Addr) (c : Nat), v = .slice A (bs ++ [R]).length c ∧ (bs ++ [R]).length ≤ c ∧ Hid (CD A (bs ++ [R]) wx) ∧ Hid (Below wb.heap.size wb wx))
            case first =>
              refine wp_region_held (S := S5 b4 R) (by kernel_rfl) ?_
              change wpAnyH _ _ _ _ _ _ _ _ wb.drew
              have h0x : Hid (Below wb.heap.size wb wb.drew) := Lib.hid (Below.refl _ _).drew
              have hz0 : Hid (wb.drew.heap.size = wb.heap.size) := Lib.hid rfl
              replace H4 : Hid (DigAt b4 R wb.drew) := H4
              have HP : Hid (CD A9 bs wb.drew) := H9
              obtain ⟨n0, hn0⟩ : ∃ n, n = wb.heap.size := ⟨_, rfl⟩
              generalize wb.drew = x0 at H4 HP h0x hz0 ⊢
              have hS : S5 b4 R x0 := H4.out
              refine wpAnyH_take (i := 1) (v := ?_) rfl (by kernel_rfl) (by kernel_rfl) (by kernel_rfl) (fun _ _ _ h => h) (Or.inl ⟨by rfl, ?_⟩) hS ?_
              rotate_left
              · intro v _; go_simp; first | done | with_reducible rfl
              rotate_left
              simp only [List.getElem_toArray, List.getElem_cons_succ, List.getElem_cons_zero, Act.put, List.setIfInBounds_toArray, List.set_cons_zero, List.set_cons_succ]
              refine wpAnyH_take (i := 3) (v := _) rfl (by kernel_rfl) (by kernel_rfl) (by kernel_rfl) (fun _ _ _ h => h) (yieldsIf_digA (by rfl) (.tmp 4) rfl ⟨b4,0,none⟩ rfl R hRl.out (fun _ h => (DigAt.ad h))) hS ?_
              try simp only [List.getElem_toArray, List.getElem_cons_succ, List.getElem_cons_zero, Act.put, List.setIfInBounds_toArray, List.set_cons_zero, List.set_cons_succ]
              refine wpAnyH_all (rs := [0, 4]) (by kernel_rfl) (by simp) ?_
              intro i hi
              simp only [List.mem_cons, List.not_mem_nil, or_false] at hi
              rcases hi with rfl | rfl
              · skip
                refine wpOp_wp rfl (by rfl) ?_
                refine wp_buildSlice_0 rfl ?_
                intro x1 HZ hb1 hs1
                have HX := Lib.hid hb1
                clear hS hb1
                have hS : S5 b4 R x1 := DigAt.below H4.out HX.out
                refine ⟨hS, ?_⟩
                try simp only [List.getElem_toArray, List.getElem_cons_succ, List.getElem_cons_zero, Act.put, List.setIfInBounds_toArray, List.set_cons_zero, List.set_cons_succ]
                refine wpAnyH_all (rs := [2, 4]) (by kernel_rfl) (by simp) ?_
                intro i hi
                simp only [List.mem_cons, List.not_mem_nil, or_false] at hi
                rcases hi with rfl | rfl
                · skip
                  refine wpOp_wp rfl (by rfl) ?_
                  have hP1 := CD.below HP.out HX.out
                  refine wp_append_digs rfl (.tmp 99) (.tmp 100) rfl _ [] bs A9 bs.length c9 rfl rfl rfl HZ.out hP1 HX.out HX.out.size (by simp; omega) ?_
                  intro v95 x2 HR95 hb2 _
                  replace HX := Lib.hid hb2
                  clear hS hb2 hP1
                  have hS : S5 b4 R x2 := DigAt.below H4.out HX.out
                  refine ⟨hS, ?_⟩
                  try simp only [List.getElem_toArray, List.getElem_cons_succ, List.getElem_cons_zero, Act.put, List.setIfInBounds_toArray, List.set_cons_zero, List.set_cons_succ]
                  refine wpAnyH_all (rs := [4]) (by kernel_rfl) (by simp) ?_
                  intro i hi
                  simp only [List.mem_cons, List.not_mem_nil, or_false] at hi
                  subst hi
                  refine wpOp_wp rfl (by rfl) ?_
                  refine wp_buildSlice_1 (.tmp 102) rfl R hRl.out rfl ?_
                  intro x3 HL hb3 hs3
                  replace HR95 := Lib.hid (RD.below HR95.out hb3)
                  replace HX := Lib.hid (HX.out.trans (hb3.mono HX.out.size))
                  clear hS hb3
                  have hS : S5 b4 R x3 := DigAt.below H4.out HX.out
                  refine ⟨hS, ?_⟩
                  try simp only [List.getElem_toArray, List.getElem_cons_succ, List.getElem_cons_zero, Act.put, List.setIfInBounds_toArray, List.set_cons_zero, List.set_cons_succ]
                  refine wpAnyH_all (rs := [5]) (by kernel_rfl) (by simp) ?_
                  intro i hi
                  simp only [List.mem_cons, List.not_mem_nil, or_false] at hi
                  subst hi
                  refine wpOp_wp rfl (by rfl) ?_
                  obtain ⟨AL, cL, hvL, hcL, HCL⟩ := HL.out.reads
                  cases hvL
                  refine wp_append_digs rfl (.tmp 101) (.tmp 103) rfl v95 ([] ++ bs) [R] _ 1 _ rfl rfl rfl HR95.out HCL HX.out HX.out.size (by simp; omega) ?_
                  intro v98 x4 HR98 hb4 _
                  replace HX := Lib.hid hb4
                  clear hS hb4 HCL
                  have hS : S5 b4 R x4 := DigAt.below H4.out HX.out
                  refine ⟨hS, ?_⟩
                  try simp only [List.getElem_toArray, List.getElem_cons_succ, List.getElem_cons_zero, Act.put, List.setIfInBounds_toArray, List.set_cons_zero, List.set_cons_succ]
                  obtain ⟨A13, c13, hv, hc13, H13⟩ := HR98.out.reads
                  rw [List.nil_append] at hv hc13 H13
                  subst hv
                  refine wpAnyH_take (i := 6) (v := ?_) rfl (by kernel_rfl) (by kernel_rfl) (by kernel_rfl) (fun _ _ _ h => h) (Or.inl ⟨by rfl, ?_⟩) hS ?_
                  rotate_left
                  · intro v _; go_simp; first | done | with_reducible rfl
                  rotate_left
                  simp only [List.getElem_toArray, List.getElem_cons_succ, List.getElem_cons_zero, Act.put, List.setIfInBounds_toArray, List.set_cons_zero, List.set_cons_succ]
                  refine wpAnyH_done (by kernel_rfl) ?_ _
                  go_wp2_with fail
                  go_meet
                  exact ⟨A13, c13, by rw [List.length_append]; rfl, hc13, Lib.hid H13, Lib.hid (h0x.out.trans (HX.out.mono h0x.out.size))⟩
                · skip
                  refine wpOp_wp rfl (by rfl) ?_
                  refine wp_buildSlice_1 (.tmp 102) rfl R hRl.out rfl ?_
                  intro x2 HL hb2 hs2
                  replace HZ := Lib.hid (RD.below HZ.out hb2)
                  replace HX := Lib.hid (HX.out.trans (hb2.mono HX.out.size))
                  clear hS hb2
                  have hS : S5 b4 R x2 := DigAt.below H4.out HX.out
                  refine ⟨hS, ?_⟩
                  try simp only [List.getElem_toArray, List.getElem_cons_succ, List.getElem_cons_zero, Act.put, List.setIfInBounds_toArray, List.set_cons_zero, List.set_cons_succ]
                  refine wpAnyH_all (rs := [2]) (by kernel_rfl) (by simp) ?_
                  intro i hi
                  simp only [List.mem_cons, List.not_mem_nil, or_false] at hi
                  subst hi
                  refine wpOp_wp rfl (by rfl) ?_
                  have hP1 := CD.below HP.out HX.out
                  refine wp_append_digs rfl (.tmp 99) (.tmp 100) rfl _ [] bs A9 bs.length c9 rfl rfl rfl HZ.out hP1 HX.out HX.out.size (by simp; omega) ?_
                  intro v95 x3 HR95 hb3 hg3
                  have HL3 := Lib.hid (RD.grown HL.out hg3.out (fun k hk => by have h1 : x1.heap.size = k := Option.some.inj hk; intro h2; have h3 : k = x0.heap.size := Option.some.inj h2; omega))
                  replace HX := Lib.hid hb3
                  clear hS hb3 hP1 hg3 HL
                  have hS : S5 b4 R x3 := DigAt.below H4.out HX.out
                  refine ⟨hS, ?_⟩
                  try simp only [List.getElem_toArray, List.getElem_cons_succ, List.getElem_cons_zero, Act.put, List.setIfInBounds_toArray, List.set_cons_zero, List.set_cons_succ]
                  refine wpAnyH_all (rs := [5]) (by kernel_rfl) (by simp) ?_
                  intro i hi
                  simp only [List.mem_cons, List.not_mem_nil, or_false] at hi
                  subst hi
                  refine wpOp_wp rfl (by rfl) ?_
                  obtain ⟨AL, cL, hvL, hcL, HCL⟩ := HL3.out.reads
                  cases hvL
                  refine wp_append_digs rfl (.tmp 101) (.tmp 103) rfl v95 ([] ++ bs) [R] _ 1 _ rfl rfl rfl HR95.out HCL HX.out HX.out.size (by simp; omega) ?_
                  intro v98 x4 HR98 hb4 _
                  replace HX := Lib.hid hb4
                  clear hS hb4 HCL
                  have hS : S5 b4 R x4 := DigAt.below H4.out HX.out
                  refine ⟨hS, ?_⟩
                  try simp only [List.getElem_toArray, List.getElem_cons_succ, List.getElem_cons_zero, Act.put, List.setIfInBounds_toArray, List.set_cons_zero, List.set_cons_succ]
                  obtain ⟨A13, c13, hv, hc13, H13⟩ := HR98.out.reads
                  rw [List.nil_append] at hv hc13 H13
                  subst hv
                  refine wpAnyH_take (i := 6) (v := ?_) rfl (by kernel_rfl) (by kernel_rfl) (by kernel_rfl) (fun _ _ _ h => h) (Or.inl ⟨by rfl, ?_⟩) hS ?_
                  rotate_left
                  · intro v _; go_simp; first | done | with_reducible rfl
                  rotate_left
                  simp only [List.getElem_toArray, List.getElem_cons_succ, List.getElem_cons_zero, Act.put, List.setIfInBounds_toArray, List.set_cons_zero, List.set_cons_succ]
                  refine wpAnyH_done (by kernel_rfl) ?_ _
                  go_wp2_with fail
                  go_meet
                  exact ⟨A13, c13, by rw [List.length_append]; rfl, hc13, Lib.hid H13, Lib.hid (h0x.out.trans (HX.out.mono h0x.out.size))⟩
              · skip
                refine wpOp_wp rfl (by rfl) ?_
                refine wp_buildSlice_1 (.tmp 102) rfl R hRl.out rfl ?_
                intro x1 HL hb1 hs1
                have HX := Lib.hid hb1
                clear hS hb1
                have hS : S5 b4 R x1 := DigAt.below H4.out HX.out
                refine ⟨hS, ?_⟩
                try simp only [List.getElem_toArray, List.getElem_cons_succ, List.getElem_cons_zero, Act.put, List.setIfInBounds_toArray, List.set_cons_zero, List.set_cons_succ]
                refine wpAnyH_all (rs := [0]) (by kernel_rfl) (by simp) ?_
                intro i hi
                simp only [List.mem_cons, List.not_mem_nil, or_false] at hi
                subst hi
                refine wpOp_wp rfl (by rfl) ?_
                refine wp_buildSlice_0 rfl ?_
                intro x2 HZ hb2 hs2
                replace HL := Lib.hid (RD.below HL.out hb2)
                replace HX := Lib.hid (HX.out.trans (hb2.mono HX.out.size))
                replace HZ := Lib.hid (HZ.out.lower (show x0.heap.size ≤ x1.heap.size by omega))
                clear hS hb2
                have hS : S5 b4 R x2 := DigAt.below H4.out HX.out
                refine ⟨hS, ?_⟩
                try simp only [List.getElem_toArray, List.getElem_cons_succ, List.getElem_cons_zero, Act.put, List.setIfInBounds_toArray, List.set_cons_zero, List.set_cons_succ]
                refine wpAnyH_all (rs := [2]) (by kernel_rfl) (by simp) ?_
                intro i hi
                simp only [List.mem_cons, List.not_mem_nil, or_false] at hi
                subst hi
                refine wpOp_wp rfl (by rfl) ?_
                have hP1 := CD.below HP.out HX.out
                refine wp_append_digs rfl (.tmp 99) (.tmp 100) rfl _ [] bs A9 bs.length c9 rfl rfl rfl HZ.out hP1 HX.out HX.out.size (by simp; omega) ?_
                intro v95 x3 HR95 hb3 hg3
                have HL3 := Lib.hid (RD.grown HL.out hg3.out (fun k hk => by have h1 : x0.heap.size = k := Option.some.inj hk; intro h2; have h3 : k = x1.heap.size := Option.some.inj h2; omega))
                replace HX := Lib.hid hb3
                clear hS hb3 hP1 hg3 HL
                have hS : S5 b4 R x3 := DigAt.below H4.out HX.out
                refine ⟨hS, ?_⟩
                try simp only [List.getElem_toArray, List.getElem_cons_succ, List.getElem_cons_zero, Act.put, List.setIfInBounds_toArray, List.set_cons_zero, List.set_cons_succ]
                refine wpAnyH_all (rs := [5]) (by kernel_rfl) (by simp) ?_
                intro i hi
                simp only [List.mem_cons, List.not_mem_nil, or_false] at hi
                subst hi
                refine wpOp_wp rfl (by rfl) ?_
                obtain ⟨AL, cL, hvL, hcL, HCL⟩ := HL3.out.reads
                cases hvL
                refine wp_append_digs rfl (.tmp 101) (.tmp 103) rfl v95 ([] ++ bs) [R] _ 1 _ rfl rfl rfl HR95.out HCL HX.out HX.out.size (by simp; omega) ?_
                intro v98 x4 HR98 hb4 _
                replace HX := Lib.hid hb4
                clear hS hb4 HCL
                have hS : S5 b4 R x4 := DigAt.below H4.out HX.out
                refine ⟨hS, ?_⟩
                try simp only [List.getElem_toArray, List.getElem_cons_succ, List.getElem_cons_zero, Act.put, List.setIfInBounds_toArray, List.set_cons_zero, List.set_cons_succ]
                obtain ⟨A13, c13, hv, hc13, H13⟩ := HR98.out.reads
                rw [List.nil_append] at hv hc13 H13
                subst hv
                refine wpAnyH_take (i := 6) (v := ?_) rfl (by kernel_rfl) (by kernel_rfl) (by kernel_rfl) (fun _ _ _ h => h) (Or.inl ⟨by rfl, ?_⟩) hS ?_
                rotate_left
                · intro v _; go_simp; first | done | with_reducible rfl
                rotate_left
                simp only [List.getElem_toArray, List.getElem_cons_succ, List.getElem_cons_zero, Act.put, List.setIfInBounds_toArray, List.set_cons_zero, List.set_cons_succ]
                refine wpAnyH_done (by kernel_rfl) ?_ _
                go_wp2_with fail
                go_meet
                exact ⟨A13, c13, by rw [List.length_append]; rfl, hc13, Lib.hid H13, Lib.hid (h0x.out.trans (HX.out.mono h0x.out.size))⟩
            case rest =>
              obtain ⟨A14, c14, rfl, hc14, H14, hbc⟩ := hcut
              replace HC := Lib.hid (Kd.C_below HC.out hbc.out)
              replace HK := Lib.hid (HK.out.below hbc.out)
              replace HB := Lib.hid (HB.out.trans (Below.mono hbc.out HB.out.size))
              replace H4 := Lib.hid (DigAt.below H4.out hbc.out)
              replace HW := Lib.hid (HW.out.trans (Below.mono hbc.out HW.out.size))
              replace H7 := Lib.hid (CD.below H7.out hbc.out)
              replace H9 := Lib.hid (CD.below H9.out hbc.out)
              replace H11 := Lib.hid (DigAt.below H11.out hbc.out)
              replace H13 := Lib.hid (CD.below H13.out hbc.out)
              clear hbc
              generalize wc = wd at HC HK HB H4 HW H7 H9 H11 H13 H14 ⊢
              have kd1 := fun W hC hk => tCheckPath_calls t hts.out (i : Int) (L.length : Int) R hRl.out (ps ++ [R]) A13 c13 W hC hc13 hk
              have kd2 := fun W hC hk => tCheckBridge_calls (m : Int) (L.length : Int) Ra R hRa.out hRl.out (bs ++ [R]) A14 c14 W hC hc14 hk
              rw [p3.out] at kd1
              rw [q3.out] at kd2
              replace kd1 := Lib.hid kd1
              replace kd2 := Lib.hid kd2
              replace hc13 := Lib.hid hc13
              replace hc14 := Lib.hid hc14
              generalize (ps ++ [R]).length = n13 at kd1 hc13 ⊢
              generalize (bs ++ [R]).length = n14 at kd2 hc14 ⊢
              go_upto_region 17 with fail
              refine wp_region_held (S := S7 (ad.add i) t b4 R b11 Ra) (by kernel_rfl) ?_
              change wpAnyH _ _ _ _ _ _ _ _ wd.drew
              have hdr : Below wd.heap.size wd wd.drew := (Below.refl _ _).drew
              replace HC := Lib.hid (Kd.C_below HC.out hdr)
              replace HK := Lib.hid (HK.out.below hdr)
              replace HB := Lib.hid (HB.out.trans (Below.mono hdr HB.out.size))
              replace H4 := Lib.hid (DigAt.below H4.out hdr)
              replace HW := Lib.hid (HW.out.trans (Below.mono hdr HW.out.size))
              replace H7 := Lib.hid (CD.below H7.out hdr)
              replace H9 := Lib.hid (CD.below H9.out hdr)
              replace H11 := Lib.hid (DigAt.below H11.out hdr)
              replace H13 := Lib.hid (CD.below H13.out hdr)
              replace H14 := Lib.hid (CD.below H14.out hdr)
              clear hdr
              generalize wd.drew = x4 at HC HK HB H4 HW H7 H9 H11 H13 H14 ⊢
              have hS : S7 (ad.add i) t b4 R b11 Ra x4 := ⟨hcell.out x4 HC.out, H4.out, H11.out⟩
              refine wpAnyH_take (i := 0) (v := ?_) rfl (by kernel_rfl) (by kernel_rfl) (by kernel_rfl) (fun _ _ _ h => h) (Or.inl ⟨by rfl, ?_⟩) hS ?_
              rotate_left
              · intro v _; go_simp; first | done | with_reducible rfl
              rotate_left
              simp only [List.getElem_toArray, List.getElem_cons_succ, List.getElem_cons_zero, Act.put, List.setIfInBounds_toArray, List.set_cons_zero, List.set_cons_succ]
              refine wpAnyH_take (i := 1) (v := ?_) rfl (by kernel_rfl) (by kernel_rfl) (by kernel_rfl) (fun _ _ _ h => h) (Or.inl ⟨by rfl, ?_⟩) hS ?_
              rotate_left
              · intro v _; go_simp; first | done | with_reducible rfl
              rotate_left
              simp only [List.getElem_toArray, List.getElem_cons_succ, List.getElem_cons_zero, Act.put, List.setIfInBounds_toArray, List.set_cons_zero, List.set_cons_succ]
              refine wpAnyH_take (i := 2) (v := ?_) rfl (by kernel_rfl) (by kernel_rfl) (by kernel_rfl) (fun _ _ _ h => h) (Or.inl ⟨by rfl, ?_⟩) hS ?_
              rotate_left
              · intro v _; go_simp; first | done | with_reducible rfl
              rotate_left
              simp only [List.getElem_toArray, List.getElem_cons_succ, List.getElem_cons_zero, Act.put, List.setIfInBounds_toArray, List.set_cons_zero, List.set_cons_succ]
              refine wpAnyH_take (i := 3) (v := _) rfl (by kernel_rfl) (by kernel_rfl) (by kernel_rfl) (fun _ _ _ h => h) (yieldsIf_cell (by rfl) 9 (.tmp 107) rfl (ad.add i) rfl (.string t) agg9 (fun _ h => h.1)) hS ?_
              simp only [List.getElem_toArray, List.getElem_cons_succ, List.getElem_cons_zero, Act.put, List.setIfInBounds_toArray, List.set_cons_zero, List.set_cons_succ]
              refine wpAnyH_take (i := 4) (v := ?_) rfl (by kernel_rfl) (by kernel_rfl) (by kernel_rfl) (fun _ _ _ h => h) (Or.inl ⟨by rfl, ?_⟩) hS ?_
              rotate_left
              · intro v _; go_simp; first | done | with_reducible rfl
              rotate_left
              simp only [List.getElem_toArray, List.getElem_cons_succ, List.getElem_cons_zero, Act.put, List.setIfInBounds_toArray, List.set_cons_zero, List.set_cons_succ]
              refine wpAnyH_take (i := 5) (v := ?_) rfl (by kernel_rfl) (by kernel_rfl) (by kernel_rfl) (fun _ _ _ h => h) (Or.inl ⟨by rfl, ?_⟩) hS ?_
              rotate_left
              · intro v _; go_simp; first | done | with_reducible rfl
              rotate_left
              simp only [List.getElem_toArray, List.getElem_cons_succ, List.getElem_cons_zero, Act.put, List.setIfInBounds_toArray, List.set_cons_zero, List.set_cons_succ]
              refine wpAnyH_take (i := 6) (v := ?_) rfl (by kernel_rfl) (by kernel_rfl) (by kernel_rfl) (fun _ _ _ h => h) (Or.inl ⟨by rfl, ?_⟩) hS ?_
              rotate_left
              · intro v _; go_simp; first | done | with_reducible rfl
              rotate_left
              simp only [List.getElem_toArray, List.getElem_cons_succ, List.getElem_cons_zero, Act.put, List.setIfInBounds_toArray, List.set_cons_zero, List.set_cons_succ]
              refine wpAnyH_take (i := 7) (v := _) rfl (by kernel_rfl) (by kernel_rfl) (by kernel_rfl) (fun _ _ _ h => h) (yieldsIf_digA (by rfl) (.tmp 4) rfl ⟨b4,0,none⟩ rfl R hRl.out (fun _ h => (DigAt.ad h.2.1))) hS ?_
              try simp only [List.getElem_toArray, List.getElem_cons_succ, List.getElem_cons_zero, Act.put, List.setIfInBounds_toArray, List.set_cons_zero, List.set_cons_succ]
              refine wpAnyH_take (i := 8) (v := ?_) rfl (by kernel_rfl) (by kernel_rfl) (by kernel_rfl) (fun _ _ _ h => h) (Or.inl ⟨by rfl, ?_⟩) hS ?_
              rotate_left
              · intro v _; go_simp; first | done | with_reducible rfl
              rotate_left
              simp only [List.getElem_toArray, List.getElem_cons_succ, List.getElem_cons_zero, Act.put, List.setIfInBounds_toArray, List.set_cons_zero, List.set_cons_succ]
              refine wpAnyH_all (rs := [9]) (by kernel_rfl) (by simp) ?_
              intro i hi
              simp only [List.mem_cons, List.not_mem_nil, or_false] at hi
              subst hi
              refine wpOp_wp rfl (by rfl) ?_
              go_simp
              refine (kd1.out x4 H13.out HK.out).mono ?_
              rintro e x5 ⟨rfl, hb_⟩
              replace HC := Lib.hid (Kd.C_below HC.out hb_)
              replace HK := Lib.hid (HK.out.below hb_)
              replace HB := Lib.hid (HB.out.trans (Below.mono hb_ HB.out.size))
              replace H4 := Lib.hid (DigAt.below H4.out hb_)
              replace HW := Lib.hid (HW.out.trans (Below.mono hb_ HW.out.size))
              replace H7 := Lib.hid (CD.below H7.out hb_)
              replace H9 := Lib.hid (CD.below H9.out hb_)
              replace H11 := Lib.hid (DigAt.below H11.out hb_)
              replace H13 := Lib.hid (CD.below H13.out hb_)
              replace H14 := Lib.hid (CD.below H14.out hb_)
              clear hb_ hS
              have hS : S7 (ad.add i) t b4 R b11 Ra x5 := ⟨hcell.out x5 HC.out, H4.out, H11.out⟩
              refine ⟨hS, ?_⟩
              try simp only [List.getElem_toArray, List.getElem_cons_succ, List.getElem_cons_zero, Act.put, List.setIfInBounds_toArray, List.set_cons_zero, List.set_cons_succ]
              refine wpAnyH_take (i := 10) (v := ?_) rfl (by kernel_rfl) (by kernel_rfl) (by kernel_rfl) (fun _ _ _ h => h) (Or.inl ⟨by rfl, ?_⟩) hS ?_
              rotate_left
              · intro v _; go_simp; first | done | with_reducible rfl
              rotate_left
              simp only [List.getElem_toArray, List.getElem_cons_succ, List.getElem_cons_zero, Act.put, List.setIfInBounds_toArray, List.set_cons_zero, List.set_cons_succ]
              refine wpAnyH_take (i := 11) (v := ?_) rfl (by kernel_rfl) (by kernel_rfl) (by kernel_rfl) (fun _ _ _ h => h) (Or.inl ⟨by rfl, ?_⟩) hS ?_
              rotate_left
              · intro v _; go_simp; first | done | with_reducible rfl
              rotate_left
              simp only [List.getElem_toArray, List.getElem_cons_succ, List.getElem_cons_zero, Act.put, List.setIfInBounds_toArray, List.set_cons_zero, List.set_cons_succ]
              refine wpAnyH_take (i := 12) (v := ?_) rfl (by kernel_rfl) (by kernel_rfl) (by kernel_rfl) (fun _ _ _ h => h) (Or.inl ⟨by rfl, ?_⟩) hS ?_
              rotate_left
              · intro v _; go_simp; first | done | with_reducible rfl
              rotate_left
              simp only [List.getElem_toArray, List.getElem_cons_succ, List.getElem_cons_zero, Act.put, List.setIfInBounds_toArray, List.set_cons_zero, List.set_cons_succ]
              refine wpAnyH_take (i := 13) (v := ?_) rfl (by kernel_rfl) (by kernel_rfl) (by kernel_rfl) (fun _ _ _ h => h) (Or.inl ⟨by rfl, ?_⟩) hS ?_
              rotate_left
              · intro v _; go_simp; first | done | with_reducible rfl
              rotate_left
              simp only [List.getElem_toArray, List.getElem_cons_succ, List.getElem_cons_zero, Act.put, List.setIfInBounds_toArray, List.set_cons_zero, List.set_cons_succ]
              refine wpAnyH_take (i := 14) (v := ?_) rfl (by kernel_rfl) (by kernel_rfl) (by kernel_rfl) (fun _ _ _ h => h) (Or.inl ⟨by rfl, ?_⟩) hS ?_
              rotate_left
              · intro v _; go_simp; first | done | with_reducible rfl
              rotate_left
              simp only [List.getElem_toArray, List.getElem_cons_succ, List.getElem_cons_zero, Act.put, List.setIfInBounds_toArray, List.set_cons_zero, List.set_cons_succ]
              refine wpAnyH_take (i := 15) (v := _) rfl (by kernel_rfl) (by kernel_rfl) (by kernel_rfl) (fun _ _ _ h => h) (yieldsIf_digA (by rfl) (.tmp 11) rfl ⟨b11,0,none⟩ rfl Ra hRa.out (fun _ h => (DigAt.ad h.2.2))) hS ?_
              try simp only [List.getElem_toArray, List.getElem_cons_succ, List.getElem_cons_zero, Act.put, List.setIfInBounds_toArray, List.set_cons_zero, List.set_cons_succ]
              refine wpAnyH_take (i := 16) (v := _) rfl (by kernel_rfl) (by kernel_rfl) (by kernel_rfl) (fun _ _ _ h => h) (yieldsIf_digA (by rfl) (.tmp 4) rfl ⟨b4,0,none⟩ rfl R hRl.out (fun _ h => (DigAt.ad h.2.1))) hS ?_
              try simp only [List.getElem_toArray, List.getElem_cons_succ, List.getElem_cons_zero, Act.put, List.setIfInBounds_toArray, List.set_cons_zero, List.set_cons_succ]
              refine wpAnyH_take (i := 17) (v := ?_) rfl (by kernel_rfl) (by kernel_rfl) (by kernel_rfl) (fun _ _ _ h => h) (Or.inl ⟨by rfl, ?_⟩) hS ?_
              rotate_left
              · intro v _; go_simp; first | done | with_reducible rfl
              rotate_left
              simp only [List.getElem_toArray, List.getElem_cons_succ, List.getElem_cons_zero, Act.put, List.setIfInBounds_toArray, List.set_cons_zero, List.set_cons_succ]
              refine wpAnyH_all (rs := [18]) (by kernel_rfl) (by simp) ?_
              intro i hi
              simp only [List.mem_cons, List.not_mem_nil, or_false] at hi
              subst hi
              refine wpOp_wp rfl (by rfl) ?_
              go_simp
              refine (kd2.out x5 H14.out HK.out).mono ?_
              rintro e x6 ⟨rfl, hb_⟩
              replace HC := Lib.hid (Kd.C_below HC.out hb_)
              replace HK := Lib.hid (HK.out.below hb_)
              replace HB := Lib.hid (HB.out.trans (Below.mono hb_ HB.out.size))
              replace H4 := Lib.hid (DigAt.below H4.out hb_)
              replace HW := Lib.hid (HW.out.trans (Below.mono hb_ HW.out.size))
              replace H7 := Lib.hid (CD.below H7.out hb_)
              replace H9 := Lib.hid (CD.below H9.out hb_)
              replace H11 := Lib.hid (DigAt.below H11.out hb_)
              replace H13 := Lib.hid (CD.below H13.out hb_)
              replace H14 := Lib.hid (CD.below H14.out hb_)
              clear hb_ hS
              have hS : S7 (ad.add i) t b4 R b11 Ra x6 := ⟨hcell.out x6 HC.out, H4.out, H11.out⟩
              refine ⟨hS, ?_⟩
              try simp only [List.getElem_toArray, List.getElem_cons_succ, List.getElem_cons_zero, Act.put, List.setIfInBounds_toArray, List.set_cons_zero, List.set_cons_succ]
              by_cases hp0 : 0 < ps.length
              · have hp0' : (0 : Int) < (ps.length : Int) := by omega
                obtain ⟨A7', hcut1, hCt1, hcl1⟩ := cutd_drop (A := A7) (c := c7) (ps := ps) 1 hp0 hc7.out
                have kf := fun W hC hk => tCheckPath_calls t hts.out (i : Int) (L.length : Int) R hRl.out (ps.drop 1) A7' (c7 - 1) W hC hcl1 hk
                rw [p4.out hp0] at kf
                obtain ⟨P1, hP1⟩ : ∃ P1, P1 = ps.drop 1 := ⟨_, rfl⟩
                rw [← hP1] at hcut1 hCt1 hcl1 kf
                replace hcut1 := Lib.hid hcut1
                replace hCt1 := Lib.hid hCt1
                replace hcl1 := Lib.hid hcl1
                replace kf := Lib.hid kf
                replace hP1 := Lib.hid hP1
                refine wpAnyH_take (i := 19) (v := ?_) rfl (by kernel_rfl) (by kernel_rfl) (by kernel_rfl) (fun _ _ _ h => h) (Or.inl ⟨by rfl, ?_⟩) hS ?_
                rotate_left
                · intro v _; go_simp; first | done | with_reducible rfl
                rotate_left
                simp only [List.getElem_toArray, List.getElem_cons_succ, List.getElem_cons_zero, Act.put, List.setIfInBounds_toArray, List.set_cons_zero, List.set_cons_succ]
                refine wpAnyH_take (i := 20) (v := ?_) rfl (by kernel_rfl) (by kernel_rfl) (by kernel_rfl) (fun _ _ _ h => h) (Or.inl ⟨by rfl, ?_⟩) hS ?_
                rotate_left
                · intro v _; go_simp; first | done | with_reducible rfl
                rotate_left
                simp only [List.getElem_toArray, List.getElem_cons_succ, List.getElem_cons_zero, Act.put, List.setIfInBounds_toArray, List.set_cons_zero, List.set_cons_succ]
                refine wpAnyH_take (i := 21) (v := ?_) rfl (by kernel_rfl) (by kernel_rfl) (by kernel_rfl) (fun _ _ _ h => h) (Or.inl ⟨by rfl, ?_⟩) hS ?_
                rotate_left
                · intro v _; go_simp; first | done | with_reducible rfl
                rotate_left
                simp only [List.getElem_toArray, List.getElem_cons_succ, List.getElem_cons_zero, Act.put, List.setIfInBounds_toArray, List.set_cons_zero, List.set_cons_succ]
                refine wpAnyH_take (i := 22) (v := ?_) rfl (by kernel_rfl) (by kernel_rfl) (by kernel_rfl) (fun _ _ _ h => h) (Or.inl ⟨by rfl, ?_⟩) hS ?_
                rotate_left
                · intro v _; go_simp; first | done | with_reducible rfl
                rotate_left
                simp only [List.getElem_toArray, List.getElem_cons_succ, List.getElem_cons_zero, Act.put, List.setIfInBounds_toArray, List.set_cons_zero, List.set_cons_succ]
                refine wpAnyH_take (i := 23) (v := ?_) rfl (by kernel_rfl) (by kernel_rfl) (by kernel_rfl) (fun _ _ _ h => h) (Or.inl ⟨by rfl, ?_⟩) hS ?_
                rotate_left
                · intro v _; go_simp; first | done | with_reducible rfl
                rotate_left
                simp only [List.getElem_toArray, List.getElem_cons_succ, List.getElem_cons_zero, Act.put, List.setIfInBounds_toArray, List.set_cons_zero, List.set_cons_succ]
                refine wpAnyH_take (i := 24) (v := ?_) rfl (by kernel_rfl) (by kernel_rfl) (by kernel_rfl) (fun _ _ _ h => h) (Or.inl ⟨by rfl, ?_⟩) hS ?_
                rotate_left
                · intro v _; go_simp; first | done | with_reducible rfl
                rotate_left
                simp only [List.getElem_toArray, List.getElem_cons_succ, List.getElem_cons_zero, Act.put, List.setIfInBounds_toArray, List.set_cons_zero, List.set_cons_succ]
                refine wpAnyH_take (i := 25) (v := ?_) rfl (by kernel_rfl) (by kernel_rfl) (by kernel_rfl) (fun _ _ _ h => h) (Or.inl ⟨by rfl, ?_⟩) hS ?_
                rotate_left
                · intro v _; go_simp; first | done | with_reducible rfl
                rotate_left
                simp only [List.getElem_toArray, List.getElem_cons_succ, List.getElem_cons_zero, Act.put, List.setIfInBounds_toArray, List.set_cons_zero, List.set_cons_succ]
                refine wpAnyH_take (i := 26) (v := ?_) rfl (by kernel_rfl) (by kernel_rfl) (by kernel_rfl) (fun _ _ _ h => h) (Or.inl ⟨by rfl, ?_⟩) hS ?_
                rotate_left
                · intro v _; go_simp; first | done | with_reducible rfl
                rotate_left
                simp only [List.getElem_toArray, List.getElem_cons_succ, List.getElem_cons_zero, Act.put, List.setIfInBounds_toArray, List.set_cons_zero, List.set_cons_succ]
                refine wpAnyH_take (i := 27) (v := ?_) rfl (by kernel_rfl) (by kernel_rfl) (by kernel_rfl) (fun _ _ _ h => h) (Or.inl ⟨by rfl, ?_⟩) hS ?_
                rotate_left
                · intro v _; go_simp; first | done | with_reducible rfl
                rotate_left
                simp only [List.getElem_toArray, List.getElem_cons_succ, List.getElem_cons_zero, Act.put, List.setIfInBounds_toArray, List.set_cons_zero, List.set_cons_succ]
                refine wpAnyH_take (i := 28) (v := _) rfl (by kernel_rfl) (by kernel_rfl) (by kernel_rfl) (fun _ _ _ h => h) (yieldsIf_cell (by rfl) 9 (.tmp 132) rfl (ad.add i) rfl (.string t) agg9 (fun _ h => h.1)) hS ?_
                simp only [List.getElem_toArray, List.getElem_cons_succ, List.getElem_cons_zero, Act.put, List.setIfInBounds_toArray, List.set_cons_zero, List.set_cons_succ]
                refine wpAnyH_take (i := 29) (v := ?_) rfl (by kernel_rfl) (by kernel_rfl) (by kernel_rfl) (fun _ _ _ h => h) (Or.inl ⟨by rfl, ?_⟩) hS ?_
                rotate_left
                · intro v _; go_simp; first | done | with_reducible rfl
                rotate_left
                simp only [List.getElem_toArray, List.getElem_cons_succ, List.getElem_cons_zero, Act.put, List.setIfInBounds_toArray, List.set_cons_zero, List.set_cons_succ]
                refine wpAnyH_take (i := 30) (v := ?_) rfl (by kernel_rfl) (by kernel_rfl) (by kernel_rfl) (fun _ _ _ h => h) (Or.inl ⟨by rfl, ?_⟩) hS ?_
                rotate_left
                · intro v _; go_simp; first | done | with_reducible rfl
                rotate_left
                simp only [List.getElem_toArray, List.getElem_cons_succ, List.getElem_cons_zero, Act.put, List.setIfInBounds_toArray, List.set_cons_zero, List.set_cons_succ]
                refine wpAnyH_take (i := 31) (v := ?_) rfl (by kernel_rfl) (by kernel_rfl) (by kernel_rfl) (fun _ _ _ h => h) (Or.inl ⟨by rfl, ?_⟩) hS ?_
                rotate_left
                · intro v _; go_simp; first | done | with_reducible rfl
                rotate_left
                simp only [List.getElem_toArray, List.getElem_cons_succ, List.getElem_cons_zero, Act.put, List.setIfInBounds_toArray, List.set_cons_zero, List.set_cons_succ]
                refine wpAnyH_take (i := 32) (v := _) rfl (by kernel_rfl) (by kernel_rfl) (by kernel_rfl) (fun _ _ _ h => h) (yieldsIf_digA (by rfl) (.tmp 4) rfl ⟨b4,0,none⟩ rfl R hRl.out (fun _ h => (DigAt.ad h.2.1))) hS ?_
                try simp only [List.getElem_toArray, List.getElem_cons_succ, List.getElem_cons_zero, Act.put, List.setIfInBounds_toArray, List.set_cons_zero, List.set_cons_succ]
                refine wpAnyH_take (i := 33) (v := ?_) rfl (by kernel_rfl) (by kernel_rfl) (by kernel_rfl) (fun _ _ _ h => h) (Or.inl ⟨by rfl, ?_⟩) hS ?_
                rotate_left
                · intro v _; go_simp; first | done | with_reducible rfl
                rotate_left
                simp only [List.getElem_toArray, List.getElem_cons_succ, List.getElem_cons_zero, Act.put, List.setIfInBounds_toArray, List.set_cons_zero, List.set_cons_succ]
                refine wpAnyH_take (i := 34) (v := _) rfl (by kernel_rfl) (by kernel_rfl) (by kernel_rfl) (fun _ _ _ h => h) (yieldsIf_slice (by rfl) und_digs' rfl (.slice A7 ps.length c7) rfl (some (.int .i64 1)) none rfl rfl _ hcut1.out) hS ?_
                try simp only [List.getElem_toArray, List.getElem_cons_succ, List.getElem_cons_zero, Act.put, List.setIfInBounds_toArray, List.set_cons_zero, List.set_cons_succ]
                refine wpAnyH_all (rs := [35]) (by kernel_rfl) (by simp) ?_
                intro i hi
                simp only [List.mem_cons, List.not_mem_nil, or_false] at hi
                subst hi
                refine wpOp_wp rfl (by rfl) ?_
                go_simp
                refine (kf.out x6 (hCt1.out x6 H7.out) HK.out).mono ?_
                rintro e x7 ⟨rfl, hb_⟩
                replace HC := Lib.hid (Kd.C_below HC.out hb_)
                replace HK := Lib.hid (HK.out.below hb_)
                replace HB := Lib.hid (HB.out.trans (Below.mono hb_ HB.out.size))
                replace H4 := Lib.hid (DigAt.below H4.out hb_)
                replace HW := Lib.hid (HW.out.trans (Below.mono hb_ HW.out.size))
                replace H7 := Lib.hid (CD.below H7.out hb_)
                replace H9 := Lib.hid (CD.below H9.out hb_)
                replace H11 := Lib.hid (DigAt.below H11.out hb_)
                replace H13 := Lib.hid (CD.below H13.out hb_)
                replace H14 := Lib.hid (CD.below H14.out hb_)
                clear hb_ hS
                have hS : S7 (ad.add i) t b4 R b11 Ra x7 := ⟨hcell.out x7 HC.out, H4.out, H11.out⟩
                refine ⟨hS, ?_⟩
                try simp only [List.getElem_toArray, List.getElem_cons_succ, List.getElem_cons_zero, Act.put, List.setIfInBounds_toArray, List.set_cons_zero, List.set_cons_succ]
                refine wpAnyH_take (i := 36) (v := ?_) rfl (by kernel_rfl) (by kernel_rfl) (by kernel_rfl) (fun _ _ _ h => h) (Or.inl ⟨by rfl, ?_⟩) hS ?_
                rotate_left
                · intro v _; go_simp; first | done | with_reducible rfl
                rotate_left
                simp only [List.getElem_toArray, List.getElem_cons_succ, List.getElem_cons_zero, Act.put, List.setIfInBounds_toArray, List.set_cons_zero, List.set_cons_succ]
                refine wpAnyH_take (i := 37) (v := ?_) rfl (by kernel_rfl) (by kernel_rfl) (by kernel_rfl) (fun _ _ _ h => h) (Or.inl ⟨by rfl, ?_⟩) hS ?_
                rotate_left
                · intro v _; go_simp; first | done | with_reducible rfl
                rotate_left
                simp only [List.getElem_toArray, List.getElem_cons_succ, List.getElem_cons_zero, Act.put, List.setIfInBounds_toArray, List.set_cons_zero, List.set_cons_succ]
                by_cases hb0 : 0 < bs.length
                · have hb0' : (0 : Int) < (bs.length : Int) := by omega
                  obtain ⟨A9', hcut2, hCt2, hcl2⟩ := cutd_drop (A := A9) (c := c9) (ps := bs) 1 hb0 hc9.out
                  have ke := fun W hC hk => tCheckBridge_calls (m : Int) (L.length : Int) Ra R hRa.out hRl.out (bs.drop 1) A9' (c9 - 1) W hC hcl2 hk
                  rw [q4.out hb0] at ke
                  obtain ⟨B1, hB1⟩ : ∃ B1, B1 = bs.drop 1 := ⟨_, rfl⟩
                  rw [← hB1] at hcut2 hCt2 hcl2 ke
                  replace hcut2 := Lib.hid hcut2
                  replace hCt2 := Lib.hid hCt2
                  replace hcl2 := Lib.hid hcl2
                  replace ke := Lib.hid ke
                  replace hB1 := Lib.hid hB1
                  refine wpAnyH_take (i := 38) (v := ?_) rfl (by kernel_rfl) (by kernel_rfl) (by kernel_rfl) (fun _ _ _ h => h) (Or.inl ⟨by rfl, ?_⟩) hS ?_
                  rotate_left
                  · intro v _; go_simp; first | done | with_reducible rfl
                  rotate_left
                  simp only [List.getElem_toArray, List.getElem_cons_succ, List.getElem_cons_zero, Act.put, List.setIfInBounds_toArray, List.set_cons_zero, List.set_cons_succ]
                  refine wpAnyH_take (i := 39) (v := ?_) rfl (by kernel_rfl) (by kernel_rfl) (by kernel_rfl) (fun _ _ _ h => h) (Or.inl ⟨by rfl, ?_⟩) hS ?_
                  rotate_left
                  · intro v _; go_simp; first | done | with_reducible rfl
                  rotate_left
                  simp only [List.getElem_toArray, List.getElem_cons_succ, List.getElem_cons_zero, Act.put, List.setIfInBounds_toArray, List.set_cons_zero, List.set_cons_succ]
                  refine wpAnyH_take (i := 40) (v := ?_) rfl (by kernel_rfl) (by kernel_rfl) (by kernel_rfl) (fun _ _ _ h => h) (Or.inl ⟨by rfl, ?_⟩) hS ?_
                  rotate_left
                  · intro v _; go_simp; first | done | with_reducible rfl
                  rotate_left
                  simp only [List.getElem_toArray, List.getElem_cons_succ, List.getElem_cons_zero, Act.put, List.setIfInBounds_toArray, List.set_cons_zero, List.set_cons_succ]
                  refine wpAnyH_take (i := 41) (v := ?_) rfl (by kernel_rfl) (by kernel_rfl) (by kernel_rfl) (fun _ _ _ h => h) (Or.inl ⟨by rfl, ?_⟩) hS ?_
                  rotate_left
                  · intro v _; go_simp; first | done | with_reducible rfl
                  rotate_left
                  simp only [List.getElem_toArray, List.getElem_cons_succ, List.getElem_cons_zero, Act.put, List.setIfInBounds_toArray, List.set_cons_zero, List.set_cons_succ]
                  refine wpAnyH_take (i := 42) (v := ?_) rfl (by kernel_rfl) (by kernel_rfl) (by kernel_rfl) (fun _ _ _ h => h) (Or.inl ⟨by rfl, ?_⟩) hS ?_
                  rotate_left
                  · intro v _; go_simp; first | done | with_reducible rfl
                  rotate_left
                  simp only [List.getElem_toArray, List.getElem_cons_succ, List.getElem_cons_zero, Act.put, List.setIfInBounds_toArray, List.set_cons_zero, List.set_cons_succ]
                  refine wpAnyH_take (i := 43) (v := ?_) rfl (by kernel_rfl) (by kernel_rfl) (by kernel_rfl) (fun _ _ _ h => h) (Or.inl ⟨by rfl, ?_⟩) hS ?_
                  rotate_left
                  · intro v _; go_simp; first | done | with_reducible rfl
                  rotate_left
                  simp only [List.getElem_toArray, List.getElem_cons_succ, List.getElem_cons_zero, Act.put, List.setIfInBounds_toArray, List.set_cons_zero, List.set_cons_succ]
                  refine wpAnyH_take (i := 44) (v := ?_) rfl (by kernel_rfl) (by kernel_rfl) (by kernel_rfl) (fun _ _ _ h => h) (Or.inl ⟨by rfl, ?_⟩) hS ?_
                  rotate_left
                  · intro v _; go_simp; first | done | with_reducible rfl
                  rotate_left
                  simp only [List.getElem_toArray, List.getElem_cons_succ, List.getElem_cons_zero, Act.put, List.setIfInBounds_toArray, List.set_cons_zero, List.set_cons_succ]
                  refine wpAnyH_take (i := 45) (v := ?_) rfl (by kernel_rfl) (by kernel_rfl) (by kernel_rfl) (fun _ _ _ h => h) (Or.inl ⟨by rfl, ?_⟩) hS ?_
                  rotate_left
                  · intro v _; go_simp; first | done | with_reducible rfl
                  rotate_left
                  simp only [List.getElem_toArray, List.getElem_cons_succ, List.getElem_cons_zero, Act.put, List.setIfInBounds_toArray, List.set_cons_zero, List.set_cons_succ]
                  refine wpAnyH_take (i := 46) (v := ?_) rfl (by kernel_rfl) (by kernel_rfl) (by kernel_rfl) (fun _ _ _ h => h) (Or.inl ⟨by rfl, ?_⟩) hS ?_
                  rotate_left
                  · intro v _; go_simp; first | done | with_reducible rfl
                  rotate_left
                  simp only [List.getElem_toArray, List.getElem_cons_succ, List.getElem_cons_zero, Act.put, List.setIfInBounds_toArray, List.set_cons_zero, List.set_cons_succ]
                  refine wpAnyH_take (i := 47) (v := _) rfl (by kernel_rfl) (by kernel_rfl) (by kernel_rfl) (fun _ _ _ h => h) (yieldsIf_digA (by rfl) (.tmp 11) rfl ⟨b11,0,none⟩ rfl Ra hRa.out (fun _ h => (DigAt.ad h.2.2))) hS ?_
                  try simp only [List.getElem_toArray, List.getElem_cons_succ, List.getElem_cons_zero, Act.put, List.setIfInBounds_toArray, List.set_cons_zero, List.set_cons_succ]
                  refine wpAnyH_take (i := 48) (v := _) rfl (by kernel_rfl) (by kernel_rfl) (by kernel_rfl) (fun _ _ _ h => h) (yieldsIf_digA (by rfl) (.tmp 4) rfl ⟨b4,0,none⟩ rfl R hRl.out (fun _ h => (DigAt.ad h.2.1))) hS ?_
                  try simp only [List.getElem_toArray, List.getElem_cons_succ, List.getElem_cons_zero, Act.put, List.setIfInBounds_toArray, List.set_cons_zero, List.set_cons_succ]
                  refine wpAnyH_take (i := 49) (v := ?_) rfl (by kernel_rfl) (by kernel_rfl) (by kernel_rfl) (fun _ _ _ h => h) (Or.inl ⟨by rfl, ?_⟩) hS ?_
                  rotate_left
                  · intro v _; go_simp; first | done | with_reducible rfl
                  rotate_left
                  simp only [List.getElem_toArray, List.getElem_cons_succ, List.getElem_cons_zero, Act.put, List.setIfInBounds_toArray, List.set_cons_zero, List.set_cons_succ]
                  refine wpAnyH_take (i := 50) (v := _) rfl (by kernel_rfl) (by kernel_rfl) (by kernel_rfl) (fun _ _ _ h => h) (yieldsIf_slice (by rfl) und_digs' rfl (.slice A9 bs.length c9) rfl (some (.int .i64 1)) none rfl rfl _ hcut2.out) hS ?_
                  try simp only [List.getElem_toArray, List.getElem_cons_succ, List.getElem_cons_zero, Act.put, List.setIfInBounds_toArray, List.set_cons_zero, List.set_cons_succ]
                  refine wpAnyH_all (rs := [51]) (by kernel_rfl) (by simp) ?_
                  intro i hi
                  simp only [List.mem_cons, List.not_mem_nil, or_false] at hi
                  subst hi
                  refine wpOp_wp rfl (by rfl) ?_
                  go_simp
                  refine (ke.out x7 (hCt2.out x7 H9.out) HK.out).mono ?_
                  rintro e x8 ⟨rfl, hb_⟩
                  replace HC := Lib.hid (Kd.C_below HC.out hb_)
                  replace HK := Lib.hid (HK.out.below hb_)
                  replace HB := Lib.hid (HB.out.trans (Below.mono hb_ HB.out.size))
                  replace H4 := Lib.hid (DigAt.below H4.out hb_)
                  replace HW := Lib.hid (HW.out.trans (Below.mono hb_ HW.out.size))
                  replace H7 := Lib.hid (CD.below H7.out hb_)
                  replace H9 := Lib.hid (CD.below H9.out hb_)
                  replace H11 := Lib.hid (DigAt.below H11.out hb_)
                  replace H13 := Lib.hid (CD.below H13.out hb_)
                  replace H14 := Lib.hid (CD.below H14.out hb_)
                  clear hb_ hS
                  have hS : S7 (ad.add i) t b4 R b11 Ra x8 := ⟨hcell.out x8 HC.out, H4.out, H11.out⟩
                  refine ⟨hS, ?_⟩
                  try simp only [List.getElem_toArray, List.getElem_cons_succ, List.getElem_cons_zero, Act.put, List.setIfInBounds_toArray, List.set_cons_zero, List.set_cons_succ]
                  refine wpAnyH_take (i := 52) (v := ?_) rfl (by kernel_rfl) (by kernel_rfl) (by kernel_rfl) (fun _ _ _ h => h) (Or.inl ⟨by rfl, ?_⟩) hS ?_
                  rotate_left
                  · intro v _; go_simp; first | done | with_reducible rfl
                  rotate_left
                  simp only [List.getElem_toArray, List.getElem_cons_succ, List.getElem_cons_zero, Act.put, List.setIfInBounds_toArray, List.set_cons_zero, List.set_cons_succ]
                  refine wpAnyH_take (i := 53) (v := ?_) rfl (by kernel_rfl) (by kernel_rfl) (by kernel_rfl) (fun _ _ _ h => h) (Or.inl ⟨by rfl, ?_⟩) hS ?_
                  rotate_left
                  · intro v _; go_simp; first | done | with_reducible rfl
                  rotate_left
                  simp only [List.getElem_toArray, List.getElem_cons_succ, List.getElem_cons_zero, Act.put, List.setIfInBounds_toArray, List.set_cons_zero, List.set_cons_succ]
                  refine wpAnyH_done (by kernel_rfl) ?_ _
                  clear hS
                  go_wp2_with fail
                  refine ⟨⟨m, rfl, hm2, HW⟩, ?_⟩
                  have := hm.out
                  simp [intOf]
                  omega
                · obtain rfl : bs = [] := List.eq_nil_of_length_eq_zero (by omega)
                  replace hb0 := Lib.hid hb0
                  refine wpAnyH_take (i := 38) (v := ?_) rfl (by kernel_rfl) (by kernel_rfl) (by kernel_rfl) (fun _ _ _ h => h) (Or.inl ⟨by rfl, ?_⟩) hS ?_
                  rotate_left
                  · intro v _; go_simp; first | done | with_reducible rfl
                  rotate_left
                  simp only [List.getElem_toArray, List.getElem_cons_succ, List.getElem_cons_zero, Act.put, List.setIfInBounds_toArray, List.set_cons_zero, List.set_cons_succ]
                  refine wpAnyH_take (i := 39) (v := ?_) rfl (by kernel_rfl) (by kernel_rfl) (by kernel_rfl) (fun _ _ _ h => h) (Or.inl ⟨by rfl, ?_⟩) hS ?_
                  rotate_left
                  · intro v _; go_simp; first | done | with_reducible rfl
                  rotate_left
                  simp only [List.getElem_toArray, List.getElem_cons_succ, List.getElem_cons_zero, Act.put, List.setIfInBounds_toArray, List.set_cons_zero, List.set_cons_succ]
                  refine wpAnyH_take (i := 40) (v := ?_) rfl (by kernel_rfl) (by kernel_rfl) (by kernel_rfl) (fun _ _ _ h => h) (Or.inl ⟨by rfl, ?_⟩) hS ?_
                  rotate_left
                  · intro v _; go_simp; first | done | with_reducible rfl
                  rotate_left
                  simp only [List.getElem_toArray, List.getElem_cons_succ, List.getElem_cons_zero, Act.put, List.setIfInBounds_toArray, List.set_cons_zero, List.set_cons_succ]
                  refine wpAnyH_take (i := 41) (v := ?_) rfl (by kernel_rfl) (by kernel_rfl) (by kernel_rfl) (fun _ _ _ h => h) (Or.inl ⟨by rfl, ?_⟩) hS ?_
                  rotate_left
                  · intro v _; go_simp; first | done | with_reducible rfl
                  rotate_left
                  simp only [List.getElem_toArray, List.getElem_cons_succ, List.getElem_cons_zero, Act.put, List.setIfInBounds_toArray, List.set_cons_zero, List.set_cons_succ]
                  refine wpAnyH_take (i := 42) (v := ?_) rfl (by kernel_rfl) (by kernel_rfl) (by kernel_rfl) (fun _ _ _ h => h) (Or.inl ⟨by rfl, ?_⟩) hS ?_
                  rotate_left
                  · intro v _; go_simp; first | done | with_reducible rfl
                  rotate_left
                  simp only [List.getElem_toArray, List.getElem_cons_succ, List.getElem_cons_zero, Act.put, List.setIfInBounds_toArray, List.set_cons_zero, List.set_cons_succ]
                  refine wpAnyH_take (i := 43) (v := undef) rfl (by kernel_rfl) (by kernel_rfl) (by kernel_rfl) (fun _ _ _ h => h) (Or.inr ⟨by rfl, rfl⟩) hS ?_
                  try simp only [List.getElem_toArray, List.getElem_cons_succ, List.getElem_cons_zero, Act.put, List.setIfInBounds_toArray, List.set_cons_zero, List.set_cons_succ]
                  refine wpAnyH_take (i := 44) (v := undef) rfl (by kernel_rfl) (by kernel_rfl) (by kernel_rfl) (fun _ _ _ h => h) (Or.inr ⟨by rfl, rfl⟩) hS ?_
                  try simp only [List.getElem_toArray, List.getElem_cons_succ, List.getElem_cons_zero, Act.put, List.setIfInBounds_toArray, List.set_cons_zero, List.set_cons_succ]
                  refine wpAnyH_take (i := 45) (v := undef) rfl (by kernel_rfl) (by kernel_rfl) (by kernel_rfl) (fun _ _ _ h => h) (Or.inr ⟨by rfl, rfl⟩) hS ?_
                  try simp only [List.getElem_toArray, List.getElem_cons_succ, List.getElem_cons_zero, Act.put, List.setIfInBounds_toArray, List.set_cons_zero, List.set_cons_succ]
                  refine wpAnyH_take (i := 46) (v := undef) rfl (by kernel_rfl) (by kernel_rfl) (by kernel_rfl) (fun _ _ _ h => h) (Or.inr ⟨by rfl, rfl⟩) hS ?_
                  try simp only [List.getElem_toArray, List.getElem_cons_succ, List.getElem_cons_zero, Act.put, List.setIfInBounds_toArray, List.set_cons_zero, List.set_cons_succ]
                  refine wpAnyH_take (i := 47) (v := undef) rfl (by kernel_rfl) (by kernel_rfl) (by kernel_rfl) (fun _ _ _ h => h) (Or.inr ⟨by rfl, rfl⟩) hS ?_
                  try simp only [List.getElem_toArray, List.getElem_cons_succ, List.getElem_cons_zero, Act.put, List.setIfInBounds_toArray, List.set_cons_zero, List.set_cons_succ]
                  refine wpAnyH_take (i := 48) (v := undef) rfl (by kernel_rfl) (by kernel_rfl) (by kernel_rfl) (fun _ _ _ h => h) (Or.inr ⟨by rfl, rfl⟩) hS ?_
                  try simp only [List.getElem_toArray, List.getElem_cons_succ, List.getElem_cons_zero, Act.put, List.setIfInBounds_toArray, List.set_cons_zero, List.set_cons_succ]
                  refine wpAnyH_take (i := 49) (v := undef) rfl (by kernel_rfl) (by kernel_rfl) (by kernel_rfl) (fun _ _ _ h => h) (Or.inr ⟨by rfl, rfl⟩) hS ?_
                  try simp only [List.getElem_toArray, List.getElem_cons_succ, List.getElem_cons_zero, Act.put, List.setIfInBounds_toArray, List.set_cons_zero, List.set_cons_succ]
                  refine wpAnyH_take (i := 50) (v := undef) rfl (by kernel_rfl) (by kernel_rfl) (by kernel_rfl) (fun _ _ _ h => h) (Or.inr ⟨by rfl, rfl⟩) hS ?_
                  try simp only [List.getElem_toArray, List.getElem_cons_succ, List.getElem_cons_zero, Act.put, List.setIfInBounds_toArray, List.set_cons_zero, List.set_cons_succ]
                  refine wpAnyH_take (i := 51) (v := undef) rfl (by kernel_rfl) (by kernel_rfl) (by kernel_rfl) (fun _ _ _ h => h) (Or.inr ⟨by rfl, rfl⟩) hS ?_
                  try simp only [List.getElem_toArray, List.getElem_cons_succ, List.getElem_cons_zero, Act.put, List.setIfInBounds_toArray, List.set_cons_zero, List.set_cons_succ]
                  refine wpAnyH_take (i := 52) (v := ?_) rfl (by kernel_rfl) (by kernel_rfl) (by kernel_rfl) (fun _ _ _ h => h) (Or.inl ⟨by rfl, ?_⟩) hS ?_
                  rotate_left
                  · intro v _; go_simp; first | done | with_reducible rfl
                  rotate_left
                  simp only [List.getElem_toArray, List.getElem_cons_succ, List.getElem_cons_zero, Act.put, List.setIfInBounds_toArray, List.set_cons_zero, List.set_cons_succ]
                  refine wpAnyH_take (i := 53) (v := ?_) rfl (by kernel_rfl) (by kernel_rfl) (by kernel_rfl) (fun _ _ _ h => h) (Or.inl ⟨by rfl, ?_⟩) hS ?_
                  rotate_left
                  · intro v _; go_simp; first | done | with_reducible rfl
                  rotate_left
                  simp only [List.getElem_toArray, List.getElem_cons_succ, List.getElem_cons_zero, Act.put, List.setIfInBounds_toArray, List.set_cons_zero, List.set_cons_succ]
                  refine wpAnyH_done (by kernel_rfl) ?_ _
                  clear hS
                  go_wp2_with fail
                  refine ⟨⟨m, rfl, hm2, HW⟩, ?_⟩
                  have := hm.out
                  simp [intOf]
                  omega
              · obtain rfl : ps = [] := List.eq_nil_of_length_eq_zero (by omega)
                replace hp0 := Lib.hid hp0
                refine wpAnyH_take (i := 19) (v := ?_) rfl (by kernel_rfl) (by kernel_rfl) (by kernel_rfl) (fun _ _ _ h => h) (Or.inl ⟨by rfl, ?_⟩) hS ?_
                rotate_left
                · intro v _; go_simp; first | done | with_reducible rfl
                rotate_left
                simp only [List.getElem_toArray, List.getElem_cons_succ, List.getElem_cons_zero, Act.put, List.setIfInBounds_toArray, List.set_cons_zero, List.set_cons_succ]
                refine wpAnyH_take (i := 20) (v := ?_) rfl (by kernel_rfl) (by kernel_rfl) (by kernel_rfl) (fun _ _ _ h => h) (Or.inl ⟨by rfl, ?_⟩) hS ?_
                rotate_left
                · intro v _; go_simp; first | done | with_reducible rfl
                rotate_left
                simp only [List.getElem_toArray, List.getElem_cons_succ, List.getElem_cons_zero, Act.put, List.setIfInBounds_toArray, List.set_cons_zero, List.set_cons_succ]
                refine wpAnyH_take (i := 21) (v := ?_) rfl (by kernel_rfl) (by kernel_rfl) (by kernel_rfl) (fun _ _ _ h => h) (Or.inl ⟨by rfl, ?_⟩) hS ?_
                rotate_left
                · intro v _; go_simp; first | done | with_reducible rfl
                rotate_left
                simp only [List.getElem_toArray, List.getElem_cons_succ, List.getElem_cons_zero, Act.put, List.setIfInBounds_toArray, List.set_cons_zero, List.set_cons_succ]
                refine wpAnyH_take (i := 22) (v := ?_) rfl (by kernel_rfl) (by kernel_rfl) (by kernel_rfl) (fun _ _ _ h => h) (Or.inl ⟨by rfl, ?_⟩) hS ?_
                rotate_left
                · intro v _; go_simp; first | done | with_reducible rfl
                rotate_left
                simp only [List.getElem_toArray, List.getElem_cons_succ, List.getElem_cons_zero, Act.put, List.setIfInBounds_toArray, List.set_cons_zero, List.set_cons_succ]
                refine wpAnyH_take (i := 23) (v := ?_) rfl (by kernel_rfl) (by kernel_rfl) (by kernel_rfl) (fun _ _ _ h => h) (Or.inl ⟨by rfl, ?_⟩) hS ?_
                rotate_left
                · intro v _; go_simp; first | done | with_reducible rfl
                rotate_left
                simp only [List.getElem_toArray, List.getElem_cons_succ, List.getElem_cons_zero, Act.put, List.setIfInBounds_toArray, List.set_cons_zero, List.set_cons_succ]
                refine wpAnyH_take (i := 24) (v := ?_) rfl (by kernel_rfl) (by kernel_rfl) (by kernel_rfl) (fun _ _ _ h => h) (Or.inl ⟨by rfl, ?_⟩) hS ?_
                rotate_left
                · intro v _; go_simp; first | done | with_reducible rfl
                rotate_left
                simp only [List.getElem_toArray, List.getElem_cons_succ, List.getElem_cons_zero, Act.put, List.setIfInBounds_toArray, List.set_cons_zero, List.set_cons_succ]
                refine wpAnyH_take (i := 25) (v := undef) rfl (by kernel_rfl) (by kernel_rfl) (by kernel_rfl) (fun _ _ _ h => h) (Or.inr ⟨by rfl, rfl⟩) hS ?_
                try simp only [List.getElem_toArray, List.getElem_cons_succ, List.getElem_cons_zero, Act.put, List.setIfInBounds_toArray, List.set_cons_zero, List.set_cons_succ]
                refine wpAnyH_take (i := 26) (v := undef) rfl (by kernel_rfl) (by kernel_rfl) (by kernel_rfl) (fun _ _ _ h => h) (Or.inr ⟨by rfl, rfl⟩) hS ?_
                try simp only [List.getElem_toArray, List.getElem_cons_succ, List.getElem_cons_zero, Act.put, List.setIfInBounds_toArray, List.set_cons_zero, List.set_cons_succ]
                refine wpAnyH_take (i := 27) (v := undef) rfl (by kernel_rfl) (by kernel_rfl) (by kernel_rfl) (fun _ _ _ h => h) (Or.inr ⟨by rfl, rfl⟩) hS ?_
                try simp only [List.getElem_toArray, List.getElem_cons_succ, List.getElem_cons_zero, Act.put, List.setIfInBounds_toArray, List.set_cons_zero, List.set_cons_succ]
                refine wpAnyH_take (i := 28) (v := undef) rfl (by kernel_rfl) (by kernel_rfl) (by kernel_rfl) (fun _ _ _ h => h) (Or.inr ⟨by rfl, rfl⟩) hS ?_
                try simp only [List.getElem_toArray, List.getElem_cons_succ, List.getElem_cons_zero, Act.put, List.setIfInBounds_toArray, List.set_cons_zero, List.set_cons_succ]
                refine wpAnyH_take (i := 29) (v := undef) rfl (by kernel_rfl) (by kernel_rfl) (by kernel_rfl) (fun _ _ _ h => h) (Or.inr ⟨by rfl, rfl⟩) hS ?_
                try simp only [List.getElem_toArray, List.getElem_cons_succ, List.getElem_cons_zero, Act.put, List.setIfInBounds_toArray, List.set_cons_zero, List.set_cons_succ]
                refine wpAnyH_take (i := 30) (v := undef) rfl (by kernel_rfl) (by kernel_rfl) (by kernel_rfl) (fun _ _ _ h => h) (Or.inr ⟨by rfl, rfl⟩) hS ?_
                try simp only [List.getElem_toArray, List.getElem_cons_succ, List.getElem_cons_zero, Act.put, List.setIfInBounds_toArray, List.set_cons_zero, List.set_cons_succ]
                refine wpAnyH_take (i := 31) (v := undef) rfl (by kernel_rfl) (by kernel_rfl) (by kernel_rfl) (fun _ _ _ h => h) (Or.inr ⟨by rfl, rfl⟩) hS ?_
                try simp only [List.getElem_toArray, List.getElem_cons_succ, List.getElem_cons_zero, Act.put, List.setIfInBounds_toArray, List.set_cons_zero, List.set_cons_succ]
                refine wpAnyH_take (i := 32) (v := undef) rfl (by kernel_rfl) (by kernel_rfl) (by kernel_rfl) (fun _ _ _ h => h) (Or.inr ⟨by rfl, rfl⟩) hS ?_
                try simp only [List.getElem_toArray, List.getElem_cons_succ, List.getElem_cons_zero, Act.put, List.setIfInBounds_toArray, List.set_cons_zero, List.set_cons_succ]
                refine wpAnyH_take (i := 33) (v := undef) rfl (by kernel_rfl) (by kernel_rfl) (by kernel_rfl) (fun _ _ _ h => h) (Or.inr ⟨by rfl, rfl⟩) hS ?_
                try simp only [List.getElem_toArray, List.getElem_cons_succ, List.getElem_cons_zero, Act.put, List.setIfInBounds_toArray, List.set_cons_zero, List.set_cons_succ]
                refine wpAnyH_take (i := 34) (v := undef) rfl (by kernel_rfl) (by kernel_rfl) (by kernel_rfl) (fun _ _ _ h => h) (Or.inr ⟨by rfl, rfl⟩) hS ?_
                try simp only [List.getElem_toArray, List.getElem_cons_succ, List.getElem_cons_zero, Act.put, List.setIfInBounds_toArray, List.set_cons_zero, List.set_cons_succ]
                refine wpAnyH_take (i := 35) (v := undef) rfl (by kernel_rfl) (by kernel_rfl) (by kernel_rfl) (fun _ _ _ h => h) (Or.inr ⟨by rfl, rfl⟩) hS ?_
                try simp only [List.getElem_toArray, List.getElem_cons_succ, List.getElem_cons_zero, Act.put, List.setIfInBounds_toArray, List.set_cons_zero, List.set_cons_succ]
                refine wpAnyH_take (i := 36) (v := ?_) rfl (by kernel_rfl) (by kernel_rfl) (by kernel_rfl) (fun _ _ _ h => h) (Or.inl ⟨by rfl, ?_⟩) hS ?_
                rotate_left
                · intro v _; go_simp; first | done | with_reducible rfl
                rotate_left
                simp only [List.getElem_toArray, List.getElem_cons_succ, List.getElem_cons_zero, Act.put, List.setIfInBounds_toArray, List.set_cons_zero, List.set_cons_succ]
                refine wpAnyH_take (i := 37) (v := ?_) rfl (by kernel_rfl) (by kernel_rfl) (by kernel_rfl) (fun _ _ _ h => h) (Or.inl ⟨by rfl, ?_⟩) hS ?_
                rotate_left
                · intro v _; go_simp; first | done | with_reducible rfl
                rotate_left
                simp only [List.getElem_toArray, List.getElem_cons_succ, List.getElem_cons_zero, Act.put, List.setIfInBounds_toArray, List.set_cons_zero, List.set_cons_succ]
                by_cases hb0 : 0 < bs.length
                · have hb0' : (0 : Int) < (bs.length : Int) := by omega
                  obtain ⟨A9', hcut2, hCt2, hcl2⟩ := cutd_drop (A := A9) (c := c9) (ps := bs) 1 hb0 hc9.out
                  have ke := fun W hC hk => tCheckBridge_calls (m : Int) (L.length : Int) Ra R hRa.out hRl.out (bs.drop 1) A9' (c9 - 1) W hC hcl2 hk
                  rw [q4.out hb0] at ke
                  obtain ⟨B1, hB1⟩ : ∃ B1, B1 = bs.drop 1 := ⟨_, rfl⟩
                  rw [← hB1] at hcut2 hCt2 hcl2 ke
                  replace hcut2 := Lib.hid hcut2
                  replace hCt2 := Lib.hid hCt2
                  replace hcl2 := Lib.hid hcl2
                  replace ke := Lib.hid ke
                  replace hB1 := Lib.hid hB1
                  refine wpAnyH_take (i := 38) (v := ?_) rfl (by kernel_rfl) (by kernel_rfl) (by kernel_rfl) (fun _ _ _ h => h) (Or.inl ⟨by rfl, ?_⟩) hS ?_
                  rotate_left
                  · intro v _; go_simp; first | done | with_reducible rfl
                  rotate_left
                  simp only [List.getElem_toArray, List.getElem_cons_succ, List.getElem_cons_zero, Act.put, List.setIfInBounds_toArray, List.set_cons_zero, List.set_cons_succ]
                  refine wpAnyH_take (i := 39) (v := ?_) rfl (by kernel_rfl) (by kernel_rfl) (by kernel_rfl) (fun _ _ _ h => h) (Or.inl ⟨by rfl, ?_⟩) hS ?_
                  rotate_left
                  · intro v _; go_simp; first | done | with_reducible rfl
                  rotate_left
                  simp only [List.getElem_toArray, List.getElem_cons_succ, List.getElem_cons_zero, Act.put, List.setIfInBounds_toArray, List.set_cons_zero, List.set_cons_succ]
                  refine wpAnyH_take (i := 40) (v := ?_) rfl (by kernel_rfl) (by kernel_rfl) (by kernel_rfl) (fun _ _ _ h => h) (Or.inl ⟨by rfl, ?_⟩) hS ?_
                  rotate_left
                  · intro v _; go_simp; first | done | with_reducible rfl
                  rotate_left
                  simp only [List.getElem_toArray, List.getElem_cons_succ, List.getElem_cons_zero, Act.put, List.setIfInBounds_toArray, List.set_cons_zero, List.set_cons_succ]
                  refine wpAnyH_take (i := 41) (v := ?_) rfl (by kernel_rfl) (by kernel_rfl) (by kernel_rfl) (fun _ _ _ h => h) (Or.inl ⟨by rfl, ?_⟩) hS ?_
                  rotate_left
                  · intro v _; go_simp; first | done | with_reducible rfl
                  rotate_left
                  simp only [List.getElem_toArray, List.getElem_cons_succ, List.getElem_cons_zero, Act.put, List.setIfInBounds_toArray, List.set_cons_zero, List.set_cons_succ]
                  refine wpAnyH_take (i := 42) (v := ?_) rfl (by kernel_rfl) (by kernel_rfl) (by kernel_rfl) (fun _ _ _ h => h) (Or.inl ⟨by rfl, ?_⟩) hS ?_
                  rotate_left
                  · intro v _; go_simp; first | done | with_reducible rfl
                  rotate_left
                  simp only [List.getElem_toArray, List.getElem_cons_succ, List.getElem_cons_zero, Act.put, List.setIfInBounds_toArray, List.set_cons_zero, List.set_cons_succ]
                  refine wpAnyH_take (i := 43) (v := ?_) rfl (by kernel_rfl) (by kernel_rfl) (by kernel_rfl) (fun _ _ _ h => h) (Or.inl ⟨by rfl, ?_⟩) hS ?_
                  rotate_left
                  · intro v _; go_simp; first | done | with_reducible rfl
                  rotate_left
                  simp only [List.getElem_toArray, List.getElem_cons_succ, List.getElem_cons_zero, Act.put, List.setIfInBounds_toArray, List.set_cons_zero, List.set_cons_succ]
                  refine wpAnyH_take (i := 44) (v := ?_) rfl (by kernel_rfl) (by kernel_rfl) (by kernel_rfl) (fun _ _ _ h => h) (Or.inl ⟨by rfl, ?_⟩) hS ?_
                  rotate_left
                  · intro v _; go_simp; first | done | with_reducible rfl
                  rotate_left
                  simp only [List.getElem_toArray, List.getElem_cons_succ, List.getElem_cons_zero, Act.put, List.setIfInBounds_toArray, List.set_cons_zero, List.set_cons_succ]
                  refine wpAnyH_take (i := 45) (v := ?_) rfl (by kernel_rfl) (by kernel_rfl) (by kernel_rfl) (fun _ _ _ h => h) (Or.inl ⟨by rfl, ?_⟩) hS ?_
                  rotate_left
                  · intro v _; go_simp; first | done | with_reducible rfl
                  rotate_left
                  simp only [List.getElem_toArray, List.getElem_cons_succ, List.getElem_cons_zero, Act.put, List.setIfInBounds_toArray, List.set_cons_zero, List.set_cons_succ]
                  refine wpAnyH_take (i := 46) (v := ?_) rfl (by kernel_rfl) (by kernel_rfl) (by kernel_rfl) (fun _ _ _ h => h) (Or.inl ⟨by rfl, ?_⟩) hS ?_
                  rotate_left
                  · intro v _; go_simp; first | done | with_reducible rfl
                  rotate_left
                  simp only [List.getElem_toArray, List.getElem_cons_succ, List.getElem_cons_zero, Act.put, List.setIfInBounds_toArray, List.set_cons_zero, List.set_cons_succ]
                  refine wpAnyH_take (i := 47) (v := _) rfl (by kernel_rfl) (by kernel_rfl) (by kernel_rfl) (fun _ _ _ h => h) (yieldsIf_digA (by rfl) (.tmp 11) rfl ⟨b11,0,none⟩ rfl Ra hRa.out (fun _ h => (DigAt.ad h.2.2))) hS ?_
                  try simp only [List.getElem_toArray, List.getElem_cons_succ, List.getElem_cons_zero, Act.put, List.setIfInBounds_toArray, List.set_cons_zero, List.set_cons_succ]
                  refine wpAnyH_take (i := 48) (v := _) rfl (by kernel_rfl) (by kernel_rfl) (by kernel_rfl) (fun _ _ _ h => h) (yieldsIf_digA (by rfl) (.tmp 4) rfl ⟨b4,0,none⟩ rfl R hRl.out (fun _ h => (DigAt.ad h.2.1))) hS ?_
                  try simp only [List.getElem_toArray, List.getElem_cons_succ, List.getElem_cons_zero, Act.put, List.setIfInBounds_toArray, List.set_cons_zero, List.set_cons_succ]
                  refine wpAnyH_take (i := 49) (v := ?_) rfl (by kernel_rfl) (by kernel_rfl) (by kernel_rfl) (fun _ _ _ h => h) (Or.inl ⟨by rfl, ?_⟩) hS ?_
                  rotate_left
                  · intro v _; go_simp; first | done | with_reducible rfl
                  rotate_left
                  simp only [List.getElem_toArray, List.getElem_cons_succ, List.getElem_cons_zero, Act.put, List.setIfInBounds_toArray, List.set_cons_zero, List.set_cons_succ]
                  refine wpAnyH_take (i := 50) (v := _) rfl (by kernel_rfl) (by kernel_rfl) (by kernel_rfl) (fun _ _ _ h => h) (yieldsIf_slice (by rfl) und_digs' rfl (.slice A9 bs.length c9) rfl (some (.int .i64 1)) none rfl rfl _ hcut2.out) hS ?_
                  try simp only [List.getElem_toArray, List.getElem_cons_succ, List.getElem_cons_zero, Act.put, List.setIfInBounds_toArray, List.set_cons_zero, List.set_cons_succ]
                  refine wpAnyH_all (rs := [51]) (by kernel_rfl) (by simp) ?_
                  intro i hi
                  simp only [List.mem_cons, List.not_mem_nil, or_false] at hi
                  subst hi
                  refine wpOp_wp rfl (by rfl) ?_
                  go_simp
                  refine (ke.out x6 (hCt2.out x6 H9.out) HK.out).mono ?_
                  rintro e x9 ⟨rfl, hb_⟩
                  replace HC := Lib.hid (Kd.C_below HC.out hb_)
                  replace HK := Lib.hid (HK.out.below hb_)
                  replace HB := Lib.hid (HB.out.trans (Below.mono hb_ HB.out.size))
                  replace H4 := Lib.hid (DigAt.below H4.out hb_)
                  replace HW := Lib.hid (HW.out.trans (Below.mono hb_ HW.out.size))
                  replace H7 := Lib.hid (CD.below H7.out hb_)
                  replace H9 := Lib.hid (CD.below H9.out hb_)
                  replace H11 := Lib.hid (DigAt.below H11.out hb_)
                  replace H13 := Lib.hid (CD.below H13.out hb_)
                  replace H14 := Lib.hid (CD.below H14.out hb_)
                  clear hb_ hS
                  have hS : S7 (ad.add i) t b4 R b11 Ra x9 := ⟨hcell.out x9 HC.out, H4.out, H11.out⟩
                  refine ⟨hS, ?_⟩
                  try simp only [List.getElem_toArray, List.getElem_cons_succ, List.getElem_cons_zero, Act.put, List.setIfInBounds_toArray, List.set_cons_zero, List.set_cons_succ]
                  refine wpAnyH_take (i := 52) (v := ?_) rfl (by kernel_rfl) (by kernel_rfl) (by kernel_rfl) (fun _ _ _ h => h) (Or.inl ⟨by rfl, ?_⟩) hS ?_
                  rotate_left
                  · intro v _; go_simp; first | done | with_reducible rfl
                  rotate_left
                  simp only [List.getElem_toArray, List.getElem_cons_succ, List.getElem_cons_zero, Act.put, List.setIfInBounds_toArray, List.set_cons_zero, List.set_cons_succ]
                  refine wpAnyH_take (i := 53) (v := ?_) rfl (by kernel_rfl) (by kernel_rfl) (by kernel_rfl) (fun _ _ _ h => h) (Or.inl ⟨by rfl, ?_⟩) hS ?_
                  rotate_left
                  · intro v _; go_simp; first | done | with_reducible rfl
                  rotate_left
                  simp only [List.getElem_toArray, List.getElem_cons_succ, List.getElem_cons_zero, Act.put, List.setIfInBounds_toArray, List.set_cons_zero, List.set_cons_succ]
                  refine wpAnyH_done (by kernel_rfl) ?_ _
                  clear hS
                  go_wp2_with fail
                  refine ⟨⟨m, rfl, hm2, HW⟩, ?_⟩
                  have := hm.out
                  simp [intOf]
                  omega
                · obtain rfl : bs = [] := List.eq_nil_of_length_eq_zero (by omega)
                  replace hb0 := Lib.hid hb0
                  refine wpAnyH_take (i := 38) (v := ?_) rfl (by kernel_rfl) (by kernel_rfl) (by kernel_rfl) (fun _ _ _ h => h) (Or.inl ⟨by rfl, ?_⟩) hS ?_
                  rotate_left
                  · intro v _; go_simp; first | done | with_reducible rfl
                  rotate_left
                  simp only [List.getElem_toArray, List.getElem_cons_succ, List.getElem_cons_zero, Act.put, List.setIfInBounds_toArray, List.set_cons_zero, List.set_cons_succ]
                  refine wpAnyH_take (i := 39) (v := ?_) rfl (by kernel_rfl) (by kernel_rfl) (by kernel_rfl) (fun _ _ _ h => h) (Or.inl ⟨by rfl, ?_⟩) hS ?_
                  rotate_left
                  · intro v _; go_simp; first | done | with_reducible rfl
                  rotate_left
                  simp only [List.getElem_toArray, List.getElem_cons_succ, List.getElem_cons_zero, Act.put, List.setIfInBounds_toArray, List.set_cons_zero, List.set_cons_succ]
                  refine wpAnyH_take (i := 40) (v := ?_) rfl (by kernel_rfl) (by kernel_rfl) (by kernel_rfl) (fun _ _ _ h => h) (Or.inl ⟨by rfl, ?_⟩) hS ?_
                  rotate_left
                  · intro v _; go_simp; first | done | with_reducible rfl
                  rotate_left
                  simp only [List.getElem_toArray, List.getElem_cons_succ, List.getElem_cons_zero, Act.put, List.setIfInBounds_toArray, List.set_cons_zero, List.set_cons_succ]
                  refine wpAnyH_take (i := 41) (v := ?_) rfl (by kernel_rfl) (by kernel_rfl) (by kernel_rfl) (fun _ _ _ h => h) (Or.inl ⟨by rfl, ?_⟩) hS ?_
                  rotate_left
                  · intro v _; go_simp; first | done | with_reducible rfl
                  rotate_left
                  simp only [List.getElem_toArray, List.getElem_cons_succ, List.getElem_cons_zero, Act.put, List.setIfInBounds_toArray, List.set_cons_zero, List.set_cons_succ]
                  refine wpAnyH_take (i := 42) (v := ?_) rfl (by kernel_rfl) (by kernel_rfl) (by kernel_rfl) (fun _ _ _ h => h) (Or.inl ⟨by rfl, ?_⟩) hS ?_
                  rotate_left
                  · intro v _; go_simp; first | done | with_reducible rfl
                  rotate_left
                  simp only [List.getElem_toArray, List.getElem_cons_succ, List.getElem_cons_zero, Act.put, List.setIfInBounds_toArray, List.set_cons_zero, List.set_cons_succ]
                  refine wpAnyH_take (i := 43) (v := undef) rfl (by kernel_rfl) (by kernel_rfl) (by kernel_rfl) (fun _ _ _ h => h) (Or.inr ⟨by rfl, rfl⟩) hS ?_
                  try simp only [List.getElem_toArray, List.getElem_cons_succ, List.getElem_cons_zero, Act.put, List.setIfInBounds_toArray, List.set_cons_zero, List.set_cons_succ]
                  refine wpAnyH_take (i := 44) (v := undef) rfl (by kernel_rfl) (by kernel_rfl) (by kernel_rfl) (fun _ _ _ h => h) (Or.inr ⟨by rfl, rfl⟩) hS ?_
                  try simp only [List.getElem_toArray, List.getElem_cons_succ, List.getElem_cons_zero, Act.put, List.setIfInBounds_toArray, List.set_cons_zero, List.set_cons_succ]
                  refine wpAnyH_take (i := 45) (v := undef) rfl (by kernel_rfl) (by kernel_rfl) (by kernel_rfl) (fun _ _ _ h => h) (Or.inr ⟨by rfl, rfl⟩) hS ?_
                  try simp only [List.getElem_toArray, List.getElem_cons_succ, List.getElem_cons_zero, Act.put, List.setIfInBounds_toArray, List.set_cons_zero, List.set_cons_succ]
                  refine wpAnyH_take (i := 46) (v := undef) rfl (by kernel_rfl) (by kernel_rfl) (by kernel_rfl) (fun _ _ _ h => h) (Or.inr ⟨by rfl, rfl⟩) hS ?_
                  try simp only [List.getElem_toArray, List.getElem_cons_succ, List.getElem_cons_zero, Act.put, List.setIfInBounds_toArray, List.set_cons_zero, List.set_cons_succ]
                  refine wpAnyH_take (i := 47) (v := undef) rfl (by kernel_rfl) (by kernel_rfl) (by kernel_rfl) (fun _ _ _ h => h) (Or.inr ⟨by rfl, rfl⟩) hS ?_
                  try simp only [List.getElem_toArray, List.getElem_cons_succ, List.getElem_cons_zero, Act.put, List.setIfInBounds_toArray, List.set_cons_zero, List.set_cons_succ]
                  refine wpAnyH_take (i := 48) (v := undef) rfl (by kernel_rfl) (by kernel_rfl) (by kernel_rfl) (fun _ _ _ h => h) (Or.inr ⟨by rfl, rfl⟩) hS ?_
                  try simp only [List.getElem_toArray, List.getElem_cons_succ, List.getElem_cons_zero, Act.put, List.setIfInBounds_toArray, List.set_cons_zero, List.set_cons_succ]
                  refine wpAnyH_take (i := 49) (v := undef) rfl (by kernel_rfl) (by kernel_rfl) (by kernel_rfl) (fun _ _ _ h => h) (Or.inr ⟨by rfl, rfl⟩) hS ?_
                  try simp only [List.getElem_toArray, List.getElem_cons_succ, List.getElem_cons_zero, Act.put, List.setIfInBounds_toArray, List.set_cons_zero, List.set_cons_succ]
                  refine wpAnyH_take (i := 50) (v := undef) rfl (by kernel_rfl) (by kernel_rfl) (by kernel_rfl) (fun _ _ _ h => h) (Or.inr ⟨by rfl, rfl⟩) hS ?_
                  try simp only [List.getElem_toArray, List.getElem_cons_succ, List.getElem_cons_zero, Act.put, List.setIfInBounds_toArray, List.set_cons_zero, List.set_cons_succ]
                  refine wpAnyH_take (i := 51) (v := undef) rfl (by kernel_rfl) (by kernel_rfl) (by kernel_rfl) (fun _ _ _ h => h) (Or.inr ⟨by rfl, rfl⟩) hS ?_
                  try simp only [List.getElem_toArray, List.getElem_cons_succ, List.getElem_cons_zero, Act.put, List.setIfInBounds_toArray, List.set_cons_zero, List.set_cons_succ]
                  refine wpAnyH_take (i := 52) (v := ?_) rfl (by kernel_rfl) (by kernel_rfl) (by kernel_rfl) (fun _ _ _ h => h) (Or.inl ⟨by rfl, ?_⟩) hS ?_
                  rotate_left
                  · intro v _; go_simp; first | done | with_reducible rfl
                  rotate_left
                  simp only [List.getElem_toArray, List.getElem_cons_succ, List.getElem_cons_zero, Act.put, List.setIfInBounds_toArray, List.set_cons_zero, List.set_cons_succ]
                  refine wpAnyH_take (i := 53) (v := ?_) rfl (by kernel_rfl) (by kernel_rfl) (by kernel_rfl) (fun _ _ _ h => h) (Or.inl ⟨by rfl, ?_⟩) hS ?_
                  rotate_left
                  · intro v _; go_simp; first | done | with_reducible rfl
                  rotate_left
                  simp only [List.getElem_toArray, List.getElem_cons_succ, List.getElem_cons_zero, Act.put, List.setIfInBounds_toArray, List.set_cons_zero, List.set_cons_succ]
                  refine wpAnyH_done (by kernel_rfl) ?_ _
                  clear hS
                  go_wp2_with fail
                  refine ⟨⟨m, rfl, hm2, HW⟩, ?_⟩
                  have := hm.out
                  simp [intOf]
                  omega
        · have hin' : ¬ (i : Int) < (L.length : Int) := by omega
          go_wp2_with fail
          refine (alive_calls wr HK.out).mono ?_
          rintro e wz ⟨rfl, hb_⟩
          have HBz := Lib.hid (HB.out.trans (Below.mono hb_ HB.out.size))
          clear hb_
          go_wp2_with fail
          go_ret
          exact ⟨rfl, HBz.out⟩
    · rw [hw]
      go_wp2_with fail
      refine (alive_calls w3 HK.out).mono ?_
      rintro e wz ⟨rfl, hb_⟩
      have HBz := Lib.hid (HB.out.trans (Below.mono hb_ HB.out.size))
      clear hb_
      go_wp2_with fail
      go_ret
      exact ⟨rfl, HBz.out⟩
end Go.Proofs.YtldpnmebjnkjeaaDoor.TrW
namespace Go.Proofs.YtldpnmebjnkjeaaDoor.ShaCard
open Go.ChangeShapes Go.WideShapes Go.ChangeAt Go.RowKit Go.Proofs.YtldpnmebjnkjeaaDoorW.PrintWords Go.Proofs.YtldpnmebjnkjeaaDoor.Sha
set_option linter.unusedVariables false
theorem gTab : Tryd.prog.globalNamed "cashbook/hash.k" = some 0 := by kernel_rfl
theorem gTabType : (Tryd.prog.globals[0]?).map (·.type) = some 136 := by kernel_rfl
theorem undT : Tryd.prog.underlying 136 = some (.array 64 28) := by kernel_rfl
theorem undU : Tryd.prog.underlying 28 = some (.int .u32) := by kernel_rfl
theorem cellsT : Tryd.prog.cellsOf 136 = 64 := by kernel_rfl
theorem cellsU : Tryd.prog.cellsOf 28 = 1 := by kernel_rfl
theorem tab_of {P : Program} {W : World} {name : String} {k : IntKind} {zs : List Int} {g : Nat} {t e : TypeId} {n : Nat}
    (hg : P.globalNamed name = some g) (hty : (P.globals[g]?).map (·.type) = some t) (ht : P.underlying t = some (.array n e)) (he : P.underlying e = some (.int k)) (hce : P.cellsOf e = 1) (hct : P.cellsOf t = n)
    (h : Lib.VarReads P W name (Lib.tabData k zs)) : Lib.TabIs P W name k zs := by
  obtain ⟨g', t', cs, fuel, p, hg', ht', hvar, hd⟩ := h
  obtain rfl := Option.some.inj (hg.symm.trans hg')
  obtain rfl := Option.some.inj (hty.symm.trans ht')
  unfold Lib.TabIs
  rw [hvar, ← Lib.cells_of_tab ht he hce hct hd]
def ks : List Int := [1116352408, 1899447441, 3049323471, 3921009573, 961987163, 1508970993, 2453635748, 2870763221, 3624381080, 310598401, 607225278, 1426881987, 1925078388, 2162078206, 2614888103, 3248222580, 3835390401, 4022224774, 264347078, 604807628, 770255983, 1249150122, 1555081692, 1996064986, 2554220882, 2821834349, 2952996808, 3210313671, 3336571891, 3584528711, 113926993, 338241895, 666307205, 773529912, 1294757372, 1396182291, 1695183700, 1986661051, 2177026350, 2456956037, 2730485921, 2820302411, 3259730800, 3345764771, 3516065817, 3600352804, 4094571909, 275423344, 430227734, 506948616, 659060556, 883997877, 958139571, 1322822218, 1537002063, 1747873779, 1955562222, 2024104815, 2227730452, 2361852424, 2428436474, 2756734187, 3204031479, 3329325298]
theorem ks_eq : (ks.map fun z => Value.int .u32 z) = kT.map wv := by rfl
theorem kAt {W : World} (h0 : laidMetH Tryd.prog [("cashbook/hash.k", Rows.laid_cashbook_hash_k)] W) : KAt W := by
  have h : laidMet Tryd.prog [("cashbook/hash.k", Rows.laid_cashbook_hash_k)] W := h0
  have hb : Lib.TabIs Tryd.prog W "cashbook/hash.k" .u32 ks := tab_of gTab gTabType undT undU cellsU cellsT (Lib.laidMet.reads h (.head _))
  unfold Lib.TabIs World.var? at hb
  simp only [gTab, Option.bind_some] at hb
  rw [ks_eq] at hb
  unfold KAt
  cases hq : W.heap[0]? with
  | none => rw [hq] at hb; cases hb
  | some o =>
    rw [hq] at hb
    cases o with
    | cells cs t fr =>
      obtain rfl := Option.some.inj hb
      exact ⟨t, fr, rfl⟩
    | _ => cases hb
/-- A world for the witnesses: the settled one, the table holding what its initialiser lays. -/
noncomputable def laidWorld (os : Os) : World :=
  { World.holding Tryd.prog os ⟨#[], #[], []⟩ with heap := (World.holding Tryd.prog os ⟨#[], #[], []⟩).heap.modify 0 fun
      | .cells _ t frozen => .cells #[.int .u32 1116352408, .int .u32 1899447441, .int .u32 3049323471, .int .u32 3921009573, .int .u32 961987163, .int .u32 1508970993, .int .u32 2453635748, .int .u32 2870763221, .int .u32 3624381080, .int .u32 310598401, .int .u32 607225278, .int .u32 1426881987, .int .u32 1925078388, .int .u32 2162078206, .int .u32 2614888103, .int .u32 3248222580, .int .u32 3835390401, .int .u32 4022224774, .int .u32 264347078, .int .u32 604807628, .int .u32 770255983, .int .u32 1249150122, .int .u32 1555081692, .int .u32 1996064986, .int .u32 2554220882, .int .u32 2821834349, .int .u32 2952996808, .int .u32 3210313671, .int .u32 3336571891, .int .u32 3584528711, .int .u32 113926993, .int .u32 338241895, .int .u32 666307205, .int .u32 773529912, .int .u32 1294757372, .int .u32 1396182291, .int .u32 1695183700, .int .u32 1986661051, .int .u32 2177026350, .int .u32 2456956037, .int .u32 2730485921, .int .u32 2820302411, .int .u32 3259730800, .int .u32 3345764771, .int .u32 3516065817, .int .u32 3600352804, .int .u32 4094571909, .int .u32 275423344, .int .u32 430227734, .int .u32 506948616, .int .u32 659060556, .int .u32 883997877, .int .u32 958139571, .int .u32 1322822218, .int .u32 1537002063, .int .u32 1747873779, .int .u32 1955562222, .int .u32 2024104815, .int .u32 2227730452, .int .u32 2361852424, .int .u32 2428436474, .int .u32 2756734187, .int .u32 3204031479, .int .u32 3329325298] t frozen
      | o => o }
end Go.Proofs.YtldpnmebjnkjeaaDoor.ShaCard
namespace Go.Proofs.YtldpnmebjnkjeaaDoor.Op
open Go.RowKit Go.Proofs.YtldpnmebjnkjeaaDoorW.PrintWords Go.ChangeShapes
set_option linter.unusedVariables false
set_option linter.unusedSimpArgs false
set_option linter.unusedSectionVars false

def Opens {α : Type} (P : Program) (t : TypeId) (d : Kd α) (I : α → Prop) : Prop :=
  ∀ {H : Type} (enc : TypeId × Value → H) (w : World) (base : Nat) (spare : Nat → Bool) (held : Bool) (fuel : Nat) (cs : List Value) (x : DataW H × List MemPlace), DataW.trod enc P w base spare held fuel t cs = some x → ∃ a, d.K w a cs ∧ I a

variable {α β : Type} {P : Program} {t : TypeId}

theorem opens_string (ht : P.underlying t = some .string) : Opens P t Kd.string (fun s => s.size ≤ maxLen) := by
  intro H enc w base spare held fuel cs x h
  cases fuel with
  | zero => simp [DataW.trod] at h
  | succ n =>
    unfold DataW.trod at h
    rw [ht] at h
    split at h <;> simp_all
    exact ⟨_, rfl, h.1⟩
theorem cells_of {w : World} {base : Nat} {a : Addr} {n : Nat} {cs : List Value} (h : w.cells? base a n = some cs) : cs.length = n ∧ ∀ i u, cs[i]? = some u → w.cell? (a.add i) = some u := by
  obtain ⟨_, hl, hat⟩ := World.cells?_some h
  refine ⟨hl, fun i u hu => ?_⟩
  have hi : i < n := by
    have := (List.getElem?_eq_some_iff.1 hu).1; omega
  rw [hat i hi]; exact hu
theorem opens_slice {e : TypeId} {d : Kd α} {I : α → Prop} (ht : P.underlying t = some (.slice e)) (o : Opens P e d I) (hc : P.cellsOf e = d.sz) :
    Opens P t (Kd.slice e d) (fun l => l.length ≤ maxLen ∧ ∀ x ∈ l, I x) := by
  intro H enc w base spare held fuel cs x h
  rcases DataW.trod_slice ht h with ⟨rfl, _⟩ | ⟨a, len, cap, elems, rest, n, _, rfl, _, _, hl, hm, hlen, hel, hsp⟩
  · exact ⟨[], ⟨none, 0, rfl, Nat.le_refl _, rfl, Nat.zero_le _, fun h => absurd h (by simp)⟩, Nat.zero_le _, fun _ h => by cases h⟩
  · have hall : ∀ i, i < len → ∃ (y : α) (c : List Value), c.length = d.sz ∧ d.K w y c ∧ I y ∧ ∀ j u, c[j]? = some u → w.cell? (a.add (i * d.sz + j)) = some u := by
      intro i hi
      have h1 := hel i hi
      have h2 : elems[i]? = some (elems[i]'(by omega)) := List.getElem?_eq_getElem (by omega)
      rw [h2] at h1
      obtain ⟨c, hcs, htr⟩ := Option.bind_eq_some_iff.1 h1
      obtain ⟨y, hK, hI⟩ := o enc w base spare held n c _ htr
      rw [hc] at hcs
      obtain ⟨hcl, hat⟩ := cells_of hcs
      refine ⟨y, c, hcl, hK, hI, fun j u hu => ?_⟩
      have := hat j u hu
      rw [← this]
      congr 1
      unfold Addr.add
      by_cases h0 : i * d.sz = 0 <;> by_cases h1 : j = 0 <;> simp [h0, h1]
      all_goals try omega
      all_goals (intro h2; omega)
    have hex : ∃ l : List α, l.length = len ∧ ∀ i y, l[i]? = some y → ∃ c : List Value, c.length = d.sz ∧ d.K w y c ∧ I y ∧ ∀ j u, c[j]? = some u → w.cell? (a.add (i * d.sz + j)) = some u := by
      clear hel hlen h hl hm hsp
      induction len with
      | zero => exact ⟨[], rfl, fun i y h => by simp at h⟩
      | succ m ih =>
        obtain ⟨l, hl, hy⟩ := ih (fun i hi => hall i (by omega))
        obtain ⟨y, c, h1, h2, h3, h4⟩ := hall m (by omega)
        refine ⟨l ++ [y], by simp [hl], fun i z hz => ?_⟩
        by_cases hi : i < l.length
        · rw [List.getElem?_append_left hi] at hz; exact hy i z hz
        · have : i = m := by
            have := (List.getElem?_eq_some_iff.1 hz).1; simp at this; omega
          subst this
          rw [List.getElem?_append_right (by omega)] at hz
          simp [hl] at hz
          subst hz
          exact ⟨c, h1, h2, h3, h4⟩
    obtain ⟨l, hl', hy⟩ := hex
    subst hl'
    refine ⟨l, ⟨some a, cap, rfl, hl, rfl, ?_, fun _ => ⟨a, rfl, fun j p hp => ?_⟩⟩, ?_, fun x hx => ?_⟩
    · unfold maxLen at hm; omega
    · obtain ⟨c, h1, h2, _, h4⟩ := hy j p hp
      exact ⟨c, h1, h2, h4⟩
    · omega
    · obtain ⟨i, hi⟩ := List.mem_iff_getElem?.1 hx
      obtain ⟨c, _, _, h3, _⟩ := hy i x hi
      exact h3

end Go.Proofs.YtldpnmebjnkjeaaDoor.Op
namespace Go.Proofs.YtldpnmebjnkjeaaDoor.Ref10
open Go.RowKit Go.Proofs.YtldpnmebjnkjeaaDoorW.PrintWords Go.Proofs.YtldpnmebjnkjeaaDoor.PH1 Go.Proofs.YtldpnmebjnkjeaaDoor Go.Proofs.YtldpnmebjnkjeaaDoorW.PrintLast Go.Proofs.YtldpnmebjnkjeaaDoorW.PrintMore
open Go.Proofs.YtldpnmebjnkjeaaDoor.Sha (V8 wv RowU RowX takeP feedP tailL tailL_len digL digL_len sumL sumL_len endP endP_len z32_len hashV fedV)
set_option linter.unusedVariables false
set_option linter.unusedSimpArgs false

def HA (v : V8) (rest : ByteArray) (n : Int) : Array Value := (v.list.map wv ++ [Value.string rest, Value.int .i64 n]).toArray
def HAt (b : Nat) (v : V8) (rest : ByteArray) (n : Int) (w : World) : Prop := w.heap[b]? = some (.cells (HA v rest n) 31 (0, 0))
namespace HAt
variable {b : Nat} {v : V8} {rest : ByteArray} {n : Int} {w w1 : World}
theorem below (h : HAt b v rest n w) (hb : Below w.heap.size w w1) : HAt b v rest n w1 := blk_below h hb
theorem range (h : HAt b v rest n w) : w.rangeAt b 0 (v.list.map wv) := RowX.range (t := 31) (R := [.string rest, .int .i64 n]) h
end HAt
end Go.Proofs.YtldpnmebjnkjeaaDoor.Ref10
namespace Go.Proofs.YtldpnmebjnkjeaaDoor.TreeOpen
open Go.RowKit Go.Proofs.YtldpnmebjnkjeaaDoorW.PrintWords Go.ChangeShapes Go.WideShapes
open Go.Proofs.YtldpnmebjnkjeaaDoor.TrW
set_option linter.unusedVariables false
set_option linter.unusedSimpArgs false

theorem opens_strs : Op.Opens Tryd.prog 53 (Kd.slice 9 Kd.string) (fun l => l.length ≤ maxLen ∧ ∀ x ∈ l, x.size ≤ maxLen) :=
  Op.opens_slice Tryd.underlying53 (Op.opens_string Tryd.underlying9) (by kernel_rfl)
end Go.Proofs.YtldpnmebjnkjeaaDoor.TreeOpen
