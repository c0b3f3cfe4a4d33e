/-
  TreeChecks of cashbooklaw11 returns true at every input: whether any path proves any leaf at any place, and any bridge any beginning, is as the document says; the arguments read behind the call as they did. Conditions: those of the given row (the table of the constants is laid as the text of the program says, tied by the given tie), none of its own.
-/
import Derived.Test.YtldpnmebjnkjeaaDoorCkF
import Derived.Test.YtldpnmebjnkjeaaDoorRows
import Derived.ProofKit
import Derived.OpenShut
import Derived.Deep.DeepHandedRow
import Derived.Lib.LaidTab
import Derived.Lib.LaidU8
import Derived.ChangeArms
import Derived.ChangeSame
import Derived.ChangeSlices
import Derived.WideShapes
import Derived.Test.YtldpnmebjnkjeaaDoorCards
import Derived.Test.YtldpnmebjnkjeaaDoorTie
import Derived.ChangeOld
import Derived.SizedLaws
namespace Go.Proofs.YtldpnmebjnkjeaaDoor.TrW
open Go.RowKit Go.Proofs.YtldpnmebjnkjeaaDoorW.PrintWords Go.Proofs.YtldpnmebjnkjeaaDoor.PH1 Go.Proofs.YtldpnmebjnkjeaaDoor Go.Proofs.YtldpnmebjnkjeaaDoorW.PrintLast Go.Proofs.YtldpnmebjnkjeaaDoorW.PrintMore
open Go.Proofs.YtldpnmebjnkjeaaDoor.Sha
open Go.Proofs.YtldpnmebjnkjeaaDoor.Ref10 (wp_store_dig wp_load_dig wpOp_wp range_row yieldsIf_cell agg3 agg56 CV CAt KC run_load_C)
set_option linter.unusedVariables false
set_option linter.unusedSimpArgs false

def SB (b : Nat) (ak : Addr) (c : Nat) (b1 : Nat) (x : List UInt8) (b2 : Nat) (y : List UInt8) (b3 : Nat) (q : List UInt8) (W : World) : Prop := CAt b (.slice (some ak) 64 c) v0 W ∧ DigAt b1 x W ∧ DigAt b2 y W ∧ DigAt b3 q W
theorem SB.far {b : Nat} {ak : Addr} {c b1 b2 b3 g : Nat} {x y q : List UInt8} {w w1 : World} (h : SB b ak c b1 x b2 y b3 q w) (hk : ∀ k, k ≠ g → w1.heap[k]? = w.heap[k]?) (h0 : b ≠ g) (h1 : b1 ≠ g) (h2 : b2 ≠ g) (h3 : b3 ≠ g) : SB b ak c b1 x b2 y b3 q w1 :=
  ⟨by unfold CAt; rw [hk _ h0]; exact h.1, by unfold DigAt; rw [hk _ h1]; exact h.2.1, by unfold DigAt; rw [hk _ h2]; exact h.2.2.1, by unfold DigAt; rw [hk _ h3]; exact h.2.2.2⟩
theorem heap_at0 (w : World) (o1 o2 : Obj) : ((w.alloc o1).alloc o2).heap[w.heap.size]? = some o1 := by
  rw [Below.heap_alloc _ _ _ (by simp)]; exact heap_alloc_last _ _
set_option maxHeartbeats 16000000 in
set_option maxRecDepth 100000 in
theorem rboth_calls (ak : Addr) (c : Nat) : ∀ (j n m : Nat) (d : List UInt8) (wh : Bool) (bs : List (List UInt8)) (A : Option Addr) (c1 : Nat) (w : World), n ≤ j → n ≤ 1024 → 1 ≤ m → m ≤ n → d.length = 32 → CD A bs w → bs.length ≤ c1 → KC w ak →
    Calls Tryd.prog 78 #[cv ak c, .agg (Lib.byteCells d).toArray, .int .i64 (m : Int), .int .i64 (n : Int), .bool wh, .slice A bs.length c1] w fun e w' => ∃ x y, e = .returned (.tuple #[.agg (Lib.byteCells x).toArray, .agg (Lib.byteCells y).toArray, .bool (bothB m n wh bs)]) ∧ bothV d m n wh bs x y ∧ Below w.heap.size w w' := by
  intro j
  induction j with
  | zero => intro n m d wh bs A c1 w hj hn hm hmn hd hC hc hK; omega
  | succ j ih =>
    intro n m d wh bs A c1 w hj hn hm hmn hd hC hc hK
    by_cases h2 : m < n
    · by_cases h0 : bs.length = 0
      · have hb : bothB m n wh bs = false := by
          have hw : 0 < (Tr.way m n).length := by
            by_cases h1 : m ≤ Tr.sp n
            · rw [Tr.way_left m n ⟨hm, h2⟩ h1]; simp
            · rw [Tr.way_right m n ⟨hm, h2⟩ h1]; simp
          exact decF (by omega)
        rw [hb]
        refine (rboth_3 ak c d hd m n wh bs A c1 w hC hc hK (Or.inr ⟨by omega, h0⟩)).mono ?_
        rintro e w' ⟨x, y, rfl, ⟨hx1, hy1⟩, hb_⟩
        rw [hx1, hy1]
        exact ⟨_, _, rfl, ⟨hd, hd, fun h => by rw [hb] at h; cases h⟩, hb_⟩
      · obtain ⟨l, hl⟩ : ∃ l, bs.length = l + 1 := ⟨bs.length - 1, by omega⟩
        have h3 := Tr.sp_lt (n := n) (by omega)
        have h4 := Tr.sp_pos n
        have hsp := fun W => rsplit_calls n hn W
        have g1 : ((m : Int) == (n : Int)) = false := by rw [beq_eq_false_iff_ne]; omega
        have g2 : (m == n) = false := by rw [beq_eq_false_iff_ne]; omega
        have g3 : ((bs.length : Int) == 0) = false := by rw [beq_eq_false_iff_ne]; omega
        have g4 : (bs.length == 0) = false := by rw [beq_eq_false_iff_ne]; omega
        have g5 : (bs.length : Int) - 1 = (l : Int) := by omega
        have g6 : (l : Int) < (bs.length : Int) := by omega
        have hm2 := Kd.C_max hC
        obtain ⟨q, hq⟩ : ∃ q, bs[l]? = some q := ⟨_, List.getElem?_eq_getElem (by omega)⟩
        have hpq : bs = bs.take l ++ [q] := by
          have h := List.take_append_drop l bs
          rw [List.drop_eq_getElem_cons (by omega), List.drop_eq_nil_of_le (by omega)] at h
          have h5 := List.getElem?_eq_getElem (l := bs) (i := l) (by omega)
          rw [hq] at h5
          rw [Option.some.inj h5]
          exact h.symm
        obtain ⟨hql, ad, hA, _⟩ := hC.get hq
        subst hA
        have hdq : Hid (∀ W, CD (some ad) bs W → DigAd (ad.add (l * 32)) q W) := Lib.hid fun W h => by
          obtain ⟨_, ad2, h1, h5⟩ := h.get hq
          cases h1
          exact h5
        have hcut := fun W => cut_init (A := some ad) (c := c1) (ps := bs) l hl hc W
        have HC2 : Hid (∀ W, CD (some ad) bs W → CD (some ad) (bs.take l) W) := Lib.hid fun W h => Kd.C_take h (by omega)
        have htl : (bs.take l).length ≤ c1 := by rw [List.length_take]; omega
        replace h0 := Lib.hid h0
        by_cases h1 : m ≤ Tr.sp n
        · have hEV := fun x' y' hx => (both_left (a := d) (x' := x') (y' := y') (q := q) (wh := wh) ⟨hm, h2⟩ h1 hpq hx).1
          have hrec := fun W hC hk => ih (Tr.sp n) m d wh (bs.take l) (some ad) c1 W (by omega) (by omega) hm h1 hd hC htl hk
          have hEB : bothB m n wh bs = bothB m (Tr.sp n) wh (bs.take l) := by
            have hwh : wholeB m n wh = wholeB m (Tr.sp n) wh := by
              unfold wholeB Tr.whole; rw [Tr.way_left m n ⟨hm, h2⟩ h1, List.all_cons, Bool.true_and]
            unfold bothB
            rw [hwh, Tr.way_left m n ⟨hm, h2⟩ h1, decide_eq_decide, List.length_cons, List.length_take, hl]; omega
          obtain ⟨k, hk⟩ : ∃ k, k = Tr.sp n := ⟨_, rfl⟩
          rw [← hk] at h3 h4 hsp h1 hEB hEV hrec
          replace hk := Lib.hid hk
          have h1' : (m : Int) ≤ (k : Int) := by omega
          have hcc := HC2.out
          obtain ⟨P1, hP1⟩ : ∃ P1, P1 = bs.take l := ⟨_, rfl⟩
          rw [← hP1] at hcut hcc htl hrec hEB hEV
          clear HC2
          obtain ⟨BB, hBB⟩ : ∃ BB, BB = bothB m n wh bs := ⟨_, rfl⟩
          rw [← hBB]
          rw [← hEB, ← hBB] at hrec
          replace hBB := Lib.hid hBB
          replace hP1 := Lib.hid hP1
          replace hcut := Lib.hid hcut
          replace hcc := Lib.hid hcc
          replace htl := Lib.hid htl
          replace hrec := Lib.hid hrec
          replace hsp := Lib.hid hsp
          replace hql := Lib.hid hql
          replace hpq := Lib.hid hpq
          replace hq := Lib.hid hq
          replace hd := Lib.hid hd
          replace hEB := Lib.hid hEB
          replace hEV := Lib.hid hEV
          replace hl := Lib.hid hl
          clear ih
          unfold cv at *
          go_enter Tryd.func78, Tryd.ntmps78
          go_upto_region 1 with fail
          generalize hw1 : World.alloc _ _ = w1
          have hsz3 : ∀ (o1 o2 : Obj), ((w.alloc o1).alloc o2).heap.size = w.heap.size + 2 := fun _ _ => by simp
          have hsz4 : ∀ (o1 o2 o3 : Obj), (((w.alloc o1).alloc o2).alloc o3).heap.size = w.heap.size + 3 := fun _ _ _ => by simp
          have HCc : Hid (CAt w.heap.size (.slice (some ak) 64 c) v0 w1) := by
            rw [← hw1]; refine Lib.hid ?_; unfold CAt
            rw [Below.heap_alloc _ _ _ (by simp <;> omega), Below.heap_alloc _ _ _ (by simp <;> omega), Below.heap_alloc _ _ _ (by simp)]; exact heap_alloc_last _ _
          have HX : Hid (DigAt (w.heap.size + 1) d w1) := by
            rw [← hw1]; refine Lib.hid ?_; unfold DigAt
            rw [Below.heap_alloc _ _ _ (by simp <;> omega), Below.heap_alloc _ _ _ (by simp)]; exact heap_at1 _ _ _
          have HR : Hid (DigAt (w.heap.size + 2) (List.replicate 32 0) w1) := by
            rw [← hw1]; refine Lib.hid ?_; unfold DigAt
            rw [Below.heap_alloc _ _ _ (by simp), ← hsz3]; exact heap_alloc_last _ _
          have HR3 : Hid (DigAt (w.heap.size + 3) (List.replicate 32 0) w1) := by
            rw [← hw1]; refine Lib.hid ?_; unfold DigAt
            rw [← hsz4]; exact heap_alloc_last _ _
          have HB : Hid (Below w.heap.size w w1) := by
            rw [← hw1]; exact Lib.hid (((((Below.refl _ _).alloc (Nat.le_refl _) _).alloc (by simp) _).alloc (by simp <;> omega) _).alloc (by simp <;> omega) _)
          have HK := Lib.hid (hK.below HB.out)
          have HC := Lib.hid (hC.below HB.out)
          clear hw1 hK hsz3 hsz4 hC
          go_wp2_with fail
          refine (hsp.out w1).mono ?_
          rintro e w2 ⟨rfl, hb_⟩
          replace hb_ := hb_.below
          replace HR := Lib.hid (DigAt.below HR.out hb_)
          replace HR3 := Lib.hid (DigAt.below HR3.out hb_)
          replace HCc := Lib.hid (CAt.below HCc.out hb_)
          replace HK := Lib.hid (KC.below HK.out hb_)
          replace HX := Lib.hid (DigAt.below HX.out hb_)
          replace HC := Lib.hid (CD.below HC.out hb_)
          replace HB := Lib.hid (HB.out.trans (Below.mono hb_ HB.out.size))
          clear hb_
          have hq2 := hdq.out w2 HC.out
          have hs2 : Hid (w.heap.size + 4 ≤ w2.heap.size) := Lib.hid (by have := dig_lt HR3.out; omega)
          go_upto_region 9 with (first | (guard_target = wpList _ _ _ (⟨some 66, _, _, _, _, _⟩ :: _) _ _; refine wpList_load_digA rfl (.tmp 65) rfl (ad.add (l * 32)) rfl q hql.out hq2 ?_) | (guard_target = wpList _ _ _ (⟨none, _, _, _, _, _⟩ :: _) _ _; refine wpList_store_dig rfl (.tmp 16) (.tmp 66) rfl w2.heap.size rfl q hql.out rfl _ _ (heap_alloc_last _ _) zrow ?_; intro w3 h3 _ hB3))
          clear hq2
          have hb3 : Below w2.heap.size w2 w3 := hB3 ((Below.refl _ _).alloc (Nat.le_refl _) _) (Nat.le_refl _)
          have H16 : Hid (DigAt w2.heap.size q w3) := h3
          replace HR := Lib.hid (DigAt.below HR.out hb3)
          replace HR3 := Lib.hid (DigAt.below HR3.out hb3)
          replace HCc := Lib.hid (CAt.below HCc.out hb3)
          replace HK := Lib.hid (KC.below HK.out hb3)
          replace HX := Lib.hid (DigAt.below HX.out hb3)
          replace HC := Lib.hid (CD.below HC.out hb3)
          replace HB := Lib.hid (HB.out.trans (Below.mono hb3 HB.out.size))
          have hl16 : Hid (w2.heap.size < w3.heap.size) := Lib.hid (dig_lt H16.out)
          clear hb3 hB3 h3
          obtain ⟨b16, hb16⟩ : ∃ b, b = w2.heap.size := ⟨_, rfl⟩
          rw [← hb16] at H16 hs2 hl16 ⊢
          replace hb16 := Lib.hid hb16
          go_wp2_with (first | (guard_target = wpList _ _ _ (⟨some 71, _, _, _, _, _⟩ :: _) _ _; refine wpList_slice rfl und_digs' rfl (.slice (some ad) bs.length c1) rfl none (some (.int .i64 l)) rfl rfl _ hcut.out ?_) | (guard_target = wpList _ _ _ (⟨some 76, _, _, _, _, _⟩ :: _) _ _; refine wpList_load_C rfl (.tmp 6) rfl w.heap.size rfl _ _ HCc.out ?_) | (guard_target = wpList _ _ _ (⟨some 77, _, _, _, _, _⟩ :: _) _ _; refine wpList_load_dig rfl (.tmp 7) rfl (w.heap.size + 1) rfl d hd.out _ _ HX.out ?_))
          refine (hrec.out w3 (hcc.out w3 HC.out) HK.out).mono ?_
          rintro e w4 ⟨x', y', rfl, hx', hb_⟩
          replace hl16 := Lib.hid (Nat.lt_of_lt_of_le hl16.out hb_.size)
          replace HR := Lib.hid (DigAt.below HR.out hb_)
          replace HR3 := Lib.hid (DigAt.below HR3.out hb_)
          replace HCc := Lib.hid (CAt.below HCc.out hb_)
          replace HK := Lib.hid (KC.below HK.out hb_)
          replace HX := Lib.hid (DigAt.below HX.out hb_)
          replace HC := Lib.hid (CD.below HC.out hb_)
          replace HB := Lib.hid (HB.out.trans (Below.mono hb_ HB.out.size))
          replace H16 := Lib.hid (DigAt.below H16.out hb_)
          clear hb_
          have hxl := hx'.1
          have hyl := hx'.2.1
          replace hEV := Lib.hid (hEV.out x' y' hx')
          clear hx'
          replace hxl := Lib.hid hxl
          replace hyl := Lib.hid hyl
          go_upto_region 12 with (first | (guard_target = wpList _ _ _ (⟨none, Op.store _ (Operand.tmp 18) _, _, _, _, _⟩ :: _) _ _; refine wpList_store_dig rfl (.tmp 18) (.tmp 83) rfl w4.heap.size rfl x' hxl.out rfl _ _ (heap_at0 _ _ _) zrow ?_; intro w5 h5 hk5 hB5) | (guard_target = wpList _ _ _ (⟨none, Op.store _ (Operand.tmp 19) _, _, _, _, _⟩ :: _) _ _; refine wpList_store_dig rfl (.tmp 19) (.tmp 84) rfl (w4.heap.size + 1) rfl y' hyl.out rfl _ _ ((hk5 _ (by omega)).trans (heap_at1 _ _ _)) zrow ?_; intro w6 h6 hk6 hB6))
          have hb6 : Below w4.heap.size w4 w6 := hB6 (hB5 (((Below.refl _ _).alloc (Nat.le_refl _) _).alloc (by simp) _) (Nat.le_refl _)) (by omega)
          have H19 : Hid (DigAt (w4.heap.size + 1) y' w6) := h6
          have H18 : Hid (DigAt w4.heap.size x' w6) := by refine Lib.hid ?_; unfold DigAt; rw [hk6 _ (by omega)]; exact h5.out
          replace HR := Lib.hid (DigAt.below HR.out hb6)
          replace HR3 := Lib.hid (DigAt.below HR3.out hb6)
          replace HCc := Lib.hid (CAt.below HCc.out hb6)
          replace HK := Lib.hid (KC.below HK.out hb6)
          replace HX := Lib.hid (DigAt.below HX.out hb6)
          replace HC := Lib.hid (CD.below HC.out hb6)
          replace HB := Lib.hid (HB.out.trans (Below.mono hb6 HB.out.size))
          replace H16 := Lib.hid (DigAt.below H16.out hb6)
          clear hb6 hB6 hB5 hk5 hk6 h5 h6
          obtain ⟨b18, hb18⟩ : ∃ b, b = w4.heap.size := ⟨_, rfl⟩
          rw [← hb18] at H18 H19 hl16 ⊢
          replace hb18 := Lib.hid hb18
          have n16 := hs2.out
          have n18 := hl16.out
          refine wp_region_held (S := (SB w.heap.size ak c b18 x' (b18 + 1) y' b16 q)) (by kernel_rfl) ?_
          change wpAnyH _ _ _ _ _ _ _ _ w6.drew
          have hdr : Below w6.heap.size w6 w6.drew := (Below.refl _ _).drew
          replace HR := Lib.hid (DigAt.below HR.out hdr)
          replace HR3 := Lib.hid (DigAt.below HR3.out hdr)
          replace HCc := Lib.hid (CAt.below HCc.out hdr)
          replace HK := Lib.hid (KC.below HK.out hdr)
          replace HX := Lib.hid (DigAt.below HX.out hdr)
          replace HC := Lib.hid (CD.below HC.out hdr)
          replace HB := Lib.hid (HB.out.trans (Below.mono hdr HB.out.size))
          replace H16 := Lib.hid (DigAt.below H16.out hdr)
          replace H18 := Lib.hid (DigAt.below H18.out hdr)
          replace H19 := Lib.hid (DigAt.below H19.out hdr)
          clear hdr
          generalize w6.drew = x0 at HR HR3 HCc HK HX HC HB H16 H18 H19 ⊢
          have hS : SB w.heap.size ak c b18 x' (b18 + 1) y' b16 q x0 := ⟨HCc.out, H18.out, H19.out, H16.out⟩
          refine wpAnyH_take (i := 0) (v := _) rfl (by kernel_rfl) (by kernel_rfl) (by kernel_rfl) (fun _ _ _ h => h) (yieldsIf_digA (by rfl) (.tmp 18) rfl ⟨b18,0,none⟩ rfl x' hxl.out (fun _ h => (DigAt.ad h.2.1))) hS ?_
          try simp only [List.getElem_toArray, List.getElem_cons_succ, List.getElem_cons_zero, Act.put, List.setIfInBounds_toArray, List.set_cons_zero, List.set_cons_succ]
          refine wpAnyH_take (i := 1) (v := _) rfl (by kernel_rfl) (by kernel_rfl) (by kernel_rfl) (fun _ _ _ h => h) (yieldsIf_C (by rfl) (.tmp 6) rfl w.heap.size rfl _ _ (fun _ h => h.1)) hS ?_
          try simp only [List.getElem_toArray, List.getElem_cons_succ, List.getElem_cons_zero, Act.put, List.setIfInBounds_toArray, List.set_cons_zero, List.set_cons_succ]
          refine wpAnyH_take (i := 2) (v := _) rfl (by kernel_rfl) (by kernel_rfl) (by kernel_rfl) (fun _ _ _ h => h) (yieldsIf_digA (by rfl) (.tmp 19) rfl ⟨b18+1,0,none⟩ rfl y' hyl.out (fun _ h => (DigAt.ad h.2.2.1))) hS ?_
          try simp only [List.getElem_toArray, List.getElem_cons_succ, List.getElem_cons_zero, Act.put, List.setIfInBounds_toArray, List.set_cons_zero, List.set_cons_succ]
          refine wpAnyH_take (i := 3) (v := _) rfl (by kernel_rfl) (by kernel_rfl) (by kernel_rfl) (fun _ _ _ h => h) (yieldsIf_digA (by rfl) (.tmp 16) rfl ⟨b16,0,none⟩ rfl q hql.out (fun _ h => (DigAt.ad h.2.2.2))) hS ?_
          try simp only [List.getElem_toArray, List.getElem_cons_succ, List.getElem_cons_zero, Act.put, List.setIfInBounds_toArray, List.set_cons_zero, List.set_cons_succ]
          refine wpAnyH_take (i := 5) (v := ?_) rfl (by kernel_rfl) (by kernel_rfl) (by kernel_rfl) (fun _ _ _ h => h) (Or.inl ⟨by rfl, ?_⟩) hS ?_
          rotate_left
          · intro v _; go_simp; first | done | with_reducible rfl
          rotate_left
          simp only [List.getElem_toArray, List.getElem_cons_succ, List.getElem_cons_zero, Act.put, List.setIfInBounds_toArray, List.set_cons_zero, List.set_cons_succ]
          refine wpAnyH_all (rs := [4]) (by kernel_rfl) (by simp) ?_
          intro i hi
          simp only [List.mem_cons, List.not_mem_nil, or_false] at hi
          subst hi
          refine wpOp_wp rfl (by rfl) ?_
          go_simp
          refine (rjoin_calls ak c y' q hyl.out hql.out x0 HK.out).mono ?_
          rintro e x1 ⟨rfl, hb_⟩
          replace HR := Lib.hid (DigAt.below HR.out hb_)
          replace HR3 := Lib.hid (DigAt.below HR3.out hb_)
          replace HCc := Lib.hid (CAt.below HCc.out hb_)
          replace HK := Lib.hid (KC.below HK.out hb_)
          replace HX := Lib.hid (DigAt.below HX.out hb_)
          replace HC := Lib.hid (CD.below HC.out hb_)
          replace HB := Lib.hid (HB.out.trans (Below.mono hb_ HB.out.size))
          replace H16 := Lib.hid (DigAt.below H16.out hb_)
          replace H18 := Lib.hid (DigAt.below H18.out hb_)
          replace H19 := Lib.hid (DigAt.below H19.out hb_)
          clear hb_ hS
          have hS : SB w.heap.size ak c b18 x' (b18 + 1) y' b16 q x1 := ⟨HCc.out, H18.out, H19.out, H16.out⟩
          refine ⟨hS, ?_⟩
          try simp only [List.getElem_toArray, List.getElem_cons_succ, List.getElem_cons_zero, Act.put, List.setIfInBounds_toArray, List.set_cons_zero, List.set_cons_succ]
          have hJ : Hid ((joinP y' q).length = 32) := Lib.hid (sumL_len _)
          generalize joinP y' q = J at hJ hEV ⊢
          refine wpAnyH_all (rs := [6]) (by kernel_rfl) (by simp) ?_
          intro i hi
          simp only [List.mem_cons, List.not_mem_nil, or_false] at hi
          subst hi
          refine wpOp_wp rfl (by rfl) ?_
          refine wp_store_dig (.tmp 12) (.tmp 86) rfl (w.heap.size + 2) rfl x' hxl.out rfl _ _ HR.out zrow ?_
          intro z1 g1 hk1 hB1 hz1
          have hS := (hS.far hk1 (by omega) (by omega) (by omega) (by omega))
          refine ⟨hS, ?_⟩
          try simp only [List.getElem_toArray, List.getElem_cons_succ, List.getElem_cons_zero, Act.put, List.setIfInBounds_toArray, List.set_cons_zero, List.set_cons_succ]
          have HR3' : DigAt (w.heap.size + 3) (List.replicate 32 0) z1 := by unfold DigAt; rw [hk1 _ (by omega)]; exact HR3.out
          refine wpAnyH_all (rs := [7]) (by kernel_rfl) (by simp) ?_
          intro i hi
          simp only [List.mem_cons, List.not_mem_nil, or_false] at hi
          subst hi
          refine wpOp_wp rfl (by rfl) ?_
          refine wp_store_dig (.tmp 13) (.tmp 90) rfl (w.heap.size + 3) rfl J hJ.out rfl _ _ HR3' zrow ?_
          intro z2 h13 hk2 hB2 hz2
          have h12 : Hid (DigAt (w.heap.size + 2) x' z2) := by refine Lib.hid ?_; unfold DigAt; rw [hk2 _ (by omega)]; exact g1.out
          have hS := (hS.far hk2 (by omega) (by omega) (by omega) (by omega))
          refine ⟨hS, ?_⟩
          try simp only [List.getElem_toArray, List.getElem_cons_succ, List.getElem_cons_zero, Act.put, List.setIfInBounds_toArray, List.set_cons_zero, List.set_cons_succ]
          refine wpAnyH_take (i := 8) (v := ?_) rfl (by kernel_rfl) (by kernel_rfl) (by kernel_rfl) (fun _ _ _ h => h) (Or.inl ⟨by rfl, ?_⟩) hS ?_
          rotate_left
          · intro v _; go_simp; first | done | with_reducible rfl
          rotate_left
          simp only [List.getElem_toArray, List.getElem_cons_succ, List.getElem_cons_zero, Act.put, List.setIfInBounds_toArray, List.set_cons_zero, List.set_cons_succ]
          refine wpAnyH_done (by kernel_rfl) ?_ _
          clear hS
          go_wp2_with fail
          refine bodyPost_ret (v := .tuple #[.agg (Lib.byteCells x').toArray, .agg (Lib.byteCells J).toArray, .bool BB]) ?_ rfl ⟨x', J, rfl, hEV.out, hB2 (hB1 HB.out (by omega)) (by omega)⟩
          simp [results, Tryd.results78, asAddr, run_load_dig h12.out hxl.out, run_load_dig h13.out hJ.out, Act.put]
        · have hEV := fun x' y' hx => (both_right (a := d) (x' := x') (y' := y') (q := q) (wh := wh) ⟨hm, h2⟩ h1 hpq hx).1
          have hrec := fun W hC hk => ih (n - Tr.sp n) (m - Tr.sp n) d false (bs.take l) (some ad) c1 W (by omega) (by omega) (by omega) (by omega) hd hC htl hk
          have hEB : bothB m n wh bs = bothB (m - Tr.sp n) (n - Tr.sp n) false (bs.take l) := by
            have hwh : wholeB m n wh = false := by
              unfold wholeB Tr.whole; rw [Tr.way_right m n ⟨hm, h2⟩ h1, List.all_cons, Bool.false_and, Bool.and_false]
            have hwf : wholeB (m - Tr.sp n) (n - Tr.sp n) false = false := by unfold wholeB; rw [Bool.false_and]
            unfold bothB
            rw [hwh, hwf, Tr.way_right m n ⟨hm, h2⟩ h1, decide_eq_decide, List.length_cons, List.length_take, hl]; omega
          obtain ⟨k, hk⟩ : ∃ k, k = Tr.sp n := ⟨_, rfl⟩
          rw [← hk] at h3 h4 hsp h1 hEB hEV hrec
          replace hk := Lib.hid hk
          have h1' : ¬ (m : Int) ≤ (k : Int) := by omega
          have e1 : (m : Int) - (k : Int) = ((m - k : Nat) : Int) := by omega
          have e2 : (n : Int) - (k : Int) = ((n - k : Nat) : Int) := by omega
          have e3 : IntKind.i64.wrap ((m : Int) - (k : Int)) = ((m - k : Nat) : Int) := by rw [e1]; exact Go.IntWalk.i64_in _ ⟨by omega, by omega⟩
          have e4 : IntKind.i64.wrap ((n : Int) - (k : Int)) = ((n - k : Nat) : Int) := by rw [e2]; exact Go.IntWalk.i64_in _ ⟨by omega, by omega⟩
          have hcc := HC2.out
          obtain ⟨P1, hP1⟩ : ∃ P1, P1 = bs.take l := ⟨_, rfl⟩
          rw [← hP1] at hcut hcc htl hrec hEB hEV
          clear HC2
          obtain ⟨BB, hBB⟩ : ∃ BB, BB = bothB m n wh bs := ⟨_, rfl⟩
          rw [← hBB]
          rw [← hEB, ← hBB] at hrec
          replace hBB := Lib.hid hBB
          replace hP1 := Lib.hid hP1
          replace hcut := Lib.hid hcut
          replace hcc := Lib.hid hcc
          replace htl := Lib.hid htl
          replace hrec := Lib.hid hrec
          replace hsp := Lib.hid hsp
          replace hql := Lib.hid hql
          replace hpq := Lib.hid hpq
          replace hq := Lib.hid hq
          replace hd := Lib.hid hd
          replace hEB := Lib.hid hEB
          replace hEV := Lib.hid hEV
          replace hl := Lib.hid hl
          clear ih
          unfold cv at *
          go_enter Tryd.func78, Tryd.ntmps78
          go_upto_region 1 with fail
          generalize hw1 : World.alloc _ _ = w1
          have hsz3 : ∀ (o1 o2 : Obj), ((w.alloc o1).alloc o2).heap.size = w.heap.size + 2 := fun _ _ => by simp
          have hsz4 : ∀ (o1 o2 o3 : Obj), (((w.alloc o1).alloc o2).alloc o3).heap.size = w.heap.size + 3 := fun _ _ _ => by simp
          have HCc : Hid (CAt w.heap.size (.slice (some ak) 64 c) v0 w1) := by
            rw [← hw1]; refine Lib.hid ?_; unfold CAt
            rw [Below.heap_alloc _ _ _ (by simp <;> omega), Below.heap_alloc _ _ _ (by simp <;> omega), Below.heap_alloc _ _ _ (by simp)]; exact heap_alloc_last _ _
          have HX : Hid (DigAt (w.heap.size + 1) d w1) := by
            rw [← hw1]; refine Lib.hid ?_; unfold DigAt
            rw [Below.heap_alloc _ _ _ (by simp <;> omega), Below.heap_alloc _ _ _ (by simp)]; exact heap_at1 _ _ _
          have HR : Hid (DigAt (w.heap.size + 2) (List.replicate 32 0) w1) := by
            rw [← hw1]; refine Lib.hid ?_; unfold DigAt
            rw [Below.heap_alloc _ _ _ (by simp), ← hsz3]; exact heap_alloc_last _ _
          have HR3 : Hid (DigAt (w.heap.size + 3) (List.replicate 32 0) w1) := by
            rw [← hw1]; refine Lib.hid ?_; unfold DigAt
            rw [← hsz4]; exact heap_alloc_last _ _
          have HB : Hid (Below w.heap.size w w1) := by
            rw [← hw1]; exact Lib.hid (((((Below.refl _ _).alloc (Nat.le_refl _) _).alloc (by simp) _).alloc (by simp <;> omega) _).alloc (by simp <;> omega) _)
          have HK := Lib.hid (hK.below HB.out)
          have HC := Lib.hid (hC.below HB.out)
          clear hw1 hK hsz3 hsz4 hC
          go_wp2_with fail
          refine (hsp.out w1).mono ?_
          rintro e w2 ⟨rfl, hb_⟩
          replace hb_ := hb_.below
          replace HR := Lib.hid (DigAt.below HR.out hb_)
          replace HR3 := Lib.hid (DigAt.below HR3.out hb_)
          replace HCc := Lib.hid (CAt.below HCc.out hb_)
          replace HK := Lib.hid (KC.below HK.out hb_)
          replace HX := Lib.hid (DigAt.below HX.out hb_)
          replace HC := Lib.hid (CD.below HC.out hb_)
          replace HB := Lib.hid (HB.out.trans (Below.mono hb_ HB.out.size))
          clear hb_
          have hq2 := hdq.out w2 HC.out
          have hs2 : Hid (w.heap.size + 4 ≤ w2.heap.size) := Lib.hid (by have := dig_lt HR3.out; omega)
          go_upto_region 9 with (first | (guard_target = wpList _ _ _ (⟨some 66, _, _, _, _, _⟩ :: _) _ _; refine wpList_load_digA rfl (.tmp 65) rfl (ad.add (l * 32)) rfl q hql.out hq2 ?_) | (guard_target = wpList _ _ _ (⟨none, _, _, _, _, _⟩ :: _) _ _; refine wpList_store_dig rfl (.tmp 16) (.tmp 66) rfl w2.heap.size rfl q hql.out rfl _ _ (heap_alloc_last _ _) zrow ?_; intro w3 h3 _ hB3))
          clear hq2
          have hb3 : Below w2.heap.size w2 w3 := hB3 ((Below.refl _ _).alloc (Nat.le_refl _) _) (Nat.le_refl _)
          have H16 : Hid (DigAt w2.heap.size q w3) := h3
          replace HR := Lib.hid (DigAt.below HR.out hb3)
          replace HR3 := Lib.hid (DigAt.below HR3.out hb3)
          replace HCc := Lib.hid (CAt.below HCc.out hb3)
          replace HK := Lib.hid (KC.below HK.out hb3)
          replace HX := Lib.hid (DigAt.below HX.out hb3)
          replace HC := Lib.hid (CD.below HC.out hb3)
          replace HB := Lib.hid (HB.out.trans (Below.mono hb3 HB.out.size))
          have hl16 : Hid (w2.heap.size < w3.heap.size) := Lib.hid (dig_lt H16.out)
          clear hb3 hB3 h3
          obtain ⟨b16, hb16⟩ : ∃ b, b = w2.heap.size := ⟨_, rfl⟩
          rw [← hb16] at H16 hs2 hl16 ⊢
          replace hb16 := Lib.hid hb16
          go_wp2_with (first | (guard_target = wpList _ _ _ (⟨some 71, _, _, _, _, _⟩ :: _) _ _; refine wpList_slice rfl und_digs' rfl (.slice (some ad) bs.length c1) rfl none (some (.int .i64 l)) rfl rfl _ hcut.out ?_) | (guard_target = wpList _ _ _ (⟨some 93, _, _, _, _, _⟩ :: _) _ _; refine wpList_load_C rfl (.tmp 6) rfl w.heap.size rfl _ _ HCc.out ?_) | (guard_target = wpList _ _ _ (⟨some 94, _, _, _, _, _⟩ :: _) _ _; refine wpList_load_dig rfl (.tmp 7) rfl (w.heap.size + 1) rfl d hd.out _ _ HX.out ?_))
          refine (hrec.out w3 (hcc.out w3 HC.out) HK.out).mono ?_
          rintro e w4 ⟨x', y', rfl, hx', hb_⟩
          replace hl16 := Lib.hid (Nat.lt_of_lt_of_le hl16.out hb_.size)
          replace HR := Lib.hid (DigAt.below HR.out hb_)
          replace HR3 := Lib.hid (DigAt.below HR3.out hb_)
          replace HCc := Lib.hid (CAt.below HCc.out hb_)
          replace HK := Lib.hid (KC.below HK.out hb_)
          replace HX := Lib.hid (DigAt.below HX.out hb_)
          replace HC := Lib.hid (CD.below HC.out hb_)
          replace HB := Lib.hid (HB.out.trans (Below.mono hb_ HB.out.size))
          replace H16 := Lib.hid (DigAt.below H16.out hb_)
          clear hb_
          have hxl := hx'.1
          have hyl := hx'.2.1
          replace hEV := Lib.hid (hEV.out x' y' hx')
          clear hx'
          replace hxl := Lib.hid hxl
          replace hyl := Lib.hid hyl
          go_upto_region 14 with (first | (guard_target = wpList _ _ _ (⟨none, Op.store _ (Operand.tmp 21) _, _, _, _, _⟩ :: _) _ _; refine wpList_store_dig rfl (.tmp 21) (.tmp 103) rfl w4.heap.size rfl x' hxl.out rfl _ _ (heap_at0 _ _ _) zrow ?_; intro w5 h5 hk5 hB5) | (guard_target = wpList _ _ _ (⟨none, Op.store _ (Operand.tmp 22) _, _, _, _, _⟩ :: _) _ _; refine wpList_store_dig rfl (.tmp 22) (.tmp 104) rfl (w4.heap.size + 1) rfl y' hyl.out rfl _ _ ((hk5 _ (by omega)).trans (heap_at1 _ _ _)) zrow ?_; intro w6 h6 hk6 hB6))
          have hb6 : Below w4.heap.size w4 w6 := hB6 (hB5 (((Below.refl _ _).alloc (Nat.le_refl _) _).alloc (by simp) _) (Nat.le_refl _)) (by omega)
          have H19 : Hid (DigAt (w4.heap.size + 1) y' w6) := h6
          have H18 : Hid (DigAt w4.heap.size x' w6) := by refine Lib.hid ?_; unfold DigAt; rw [hk6 _ (by omega)]; exact h5.out
          replace HR := Lib.hid (DigAt.below HR.out hb6)
          replace HR3 := Lib.hid (DigAt.below HR3.out hb6)
          replace HCc := Lib.hid (CAt.below HCc.out hb6)
          replace HK := Lib.hid (KC.below HK.out hb6)
          replace HX := Lib.hid (DigAt.below HX.out hb6)
          replace HC := Lib.hid (CD.below HC.out hb6)
          replace HB := Lib.hid (HB.out.trans (Below.mono hb6 HB.out.size))
          replace H16 := Lib.hid (DigAt.below H16.out hb6)
          clear hb6 hB6 hB5 hk5 hk6 h5 h6
          obtain ⟨b18, hb18⟩ : ∃ b, b = w4.heap.size := ⟨_, rfl⟩
          rw [← hb18] at H18 H19 hl16 ⊢
          replace hb18 := Lib.hid hb18
          have n16 := hs2.out
          have n18 := hl16.out
          refine wp_region_held (S := (SB w.heap.size ak c b18 x' (b18 + 1) y' b16 q)) (by kernel_rfl) ?_
          change wpAnyH _ _ _ _ _ _ _ _ w6.drew
          have hdr : Below w6.heap.size w6 w6.drew := (Below.refl _ _).drew
          replace HR := Lib.hid (DigAt.below HR.out hdr)
          replace HR3 := Lib.hid (DigAt.below HR3.out hdr)
          replace HCc := Lib.hid (CAt.below HCc.out hdr)
          replace HK := Lib.hid (KC.below HK.out hdr)
          replace HX := Lib.hid (DigAt.below HX.out hdr)
          replace HC := Lib.hid (CD.below HC.out hdr)
          replace HB := Lib.hid (HB.out.trans (Below.mono hdr HB.out.size))
          replace H16 := Lib.hid (DigAt.below H16.out hdr)
          replace H18 := Lib.hid (DigAt.below H18.out hdr)
          replace H19 := Lib.hid (DigAt.below H19.out hdr)
          clear hdr
          generalize w6.drew = x0 at HR HR3 HCc HK HX HC HB H16 H18 H19 ⊢
          have hS : SB w.heap.size ak c b18 x' (b18 + 1) y' b16 q x0 := ⟨HCc.out, H18.out, H19.out, H16.out⟩
          refine wpAnyH_take (i := 0) (v := _) rfl (by kernel_rfl) (by kernel_rfl) (by kernel_rfl) (fun _ _ _ h => h) (yieldsIf_C (by rfl) (.tmp 6) rfl w.heap.size rfl _ _ (fun _ h => h.1)) hS ?_
          try simp only [List.getElem_toArray, List.getElem_cons_succ, List.getElem_cons_zero, Act.put, List.setIfInBounds_toArray, List.set_cons_zero, List.set_cons_succ]
          refine wpAnyH_take (i := 1) (v := _) rfl (by kernel_rfl) (by kernel_rfl) (by kernel_rfl) (fun _ _ _ h => h) (yieldsIf_digA (by rfl) (.tmp 16) rfl ⟨b16,0,none⟩ rfl q hql.out (fun _ h => (DigAt.ad h.2.2.2))) hS ?_
          try simp only [List.getElem_toArray, List.getElem_cons_succ, List.getElem_cons_zero, Act.put, List.setIfInBounds_toArray, List.set_cons_zero, List.set_cons_succ]
          refine wpAnyH_take (i := 2) (v := _) rfl (by kernel_rfl) (by kernel_rfl) (by kernel_rfl) (fun _ _ _ h => h) (yieldsIf_digA (by rfl) (.tmp 21) rfl ⟨b18,0,none⟩ rfl x' hxl.out (fun _ h => (DigAt.ad h.2.1))) hS ?_
          try simp only [List.getElem_toArray, List.getElem_cons_succ, List.getElem_cons_zero, Act.put, List.setIfInBounds_toArray, List.set_cons_zero, List.set_cons_succ]
          refine wpAnyH_take (i := 4) (v := _) rfl (by kernel_rfl) (by kernel_rfl) (by kernel_rfl) (fun _ _ _ h => h) (yieldsIf_C (by rfl) (.tmp 6) rfl w.heap.size rfl _ _ (fun _ h => h.1)) hS ?_
          try simp only [List.getElem_toArray, List.getElem_cons_succ, List.getElem_cons_zero, Act.put, List.setIfInBounds_toArray, List.set_cons_zero, List.set_cons_succ]
          refine wpAnyH_take (i := 5) (v := _) rfl (by kernel_rfl) (by kernel_rfl) (by kernel_rfl) (fun _ _ _ h => h) (yieldsIf_digA (by rfl) (.tmp 16) rfl ⟨b16,0,none⟩ rfl q hql.out (fun _ h => (DigAt.ad h.2.2.2))) hS ?_
          try simp only [List.getElem_toArray, List.getElem_cons_succ, List.getElem_cons_zero, Act.put, List.setIfInBounds_toArray, List.set_cons_zero, List.set_cons_succ]
          refine wpAnyH_take (i := 6) (v := _) rfl (by kernel_rfl) (by kernel_rfl) (by kernel_rfl) (fun _ _ _ h => h) (yieldsIf_digA (by rfl) (.tmp 22) rfl ⟨b18+1,0,none⟩ rfl y' hyl.out (fun _ h => (DigAt.ad h.2.2.1))) hS ?_
          try simp only [List.getElem_toArray, List.getElem_cons_succ, List.getElem_cons_zero, Act.put, List.setIfInBounds_toArray, List.set_cons_zero, List.set_cons_succ]
          refine wpAnyH_take (i := 8) (v := ?_) rfl (by kernel_rfl) (by kernel_rfl) (by kernel_rfl) (fun _ _ _ h => h) (Or.inl ⟨by rfl, ?_⟩) hS ?_
          rotate_left
          · intro v _; go_simp; first | done | with_reducible rfl
          rotate_left
          simp only [List.getElem_toArray, List.getElem_cons_succ, List.getElem_cons_zero, Act.put, List.setIfInBounds_toArray, List.set_cons_zero, List.set_cons_succ]
          refine wpAnyH_all (rs := [3]) (by kernel_rfl) (by simp) ?_
          intro i hi
          simp only [List.mem_cons, List.not_mem_nil, or_false] at hi
          subst hi
          refine wpOp_wp rfl (by rfl) ?_
          go_simp
          refine (rjoin_calls ak c q x' hql.out hxl.out x0 HK.out).mono ?_
          rintro e x1 ⟨rfl, hb_⟩
          replace HR := Lib.hid (DigAt.below HR.out hb_)
          replace HR3 := Lib.hid (DigAt.below HR3.out hb_)
          replace HCc := Lib.hid (CAt.below HCc.out hb_)
          replace HK := Lib.hid (KC.below HK.out hb_)
          replace HX := Lib.hid (DigAt.below HX.out hb_)
          replace HC := Lib.hid (CD.below HC.out hb_)
          replace HB := Lib.hid (HB.out.trans (Below.mono hb_ HB.out.size))
          replace H16 := Lib.hid (DigAt.below H16.out hb_)
          replace H18 := Lib.hid (DigAt.below H18.out hb_)
          replace H19 := Lib.hid (DigAt.below H19.out hb_)
          clear hb_ hS
          have hS : SB w.heap.size ak c b18 x' (b18 + 1) y' b16 q x1 := ⟨HCc.out, H18.out, H19.out, H16.out⟩
          refine ⟨hS, ?_⟩
          try simp only [List.getElem_toArray, List.getElem_cons_succ, List.getElem_cons_zero, Act.put, List.setIfInBounds_toArray, List.set_cons_zero, List.set_cons_succ]
          refine wpAnyH_all (rs := [7]) (by kernel_rfl) (by simp) ?_
          intro i hi
          simp only [List.mem_cons, List.not_mem_nil, or_false] at hi
          subst hi
          refine wpOp_wp rfl (by rfl) ?_
          go_simp
          refine (rjoin_calls ak c q y' hql.out hyl.out x1 HK.out).mono ?_
          rintro e x2 ⟨rfl, hb_⟩
          replace HR := Lib.hid (DigAt.below HR.out hb_)
          replace HR3 := Lib.hid (DigAt.below HR3.out hb_)
          replace HCc := Lib.hid (CAt.below HCc.out hb_)
          replace HK := Lib.hid (KC.below HK.out hb_)
          replace HX := Lib.hid (DigAt.below HX.out hb_)
          replace HC := Lib.hid (CD.below HC.out hb_)
          replace HB := Lib.hid (HB.out.trans (Below.mono hb_ HB.out.size))
          replace H16 := Lib.hid (DigAt.below H16.out hb_)
          replace H18 := Lib.hid (DigAt.below H18.out hb_)
          replace H19 := Lib.hid (DigAt.below H19.out hb_)
          clear hb_ hS
          have hS : SB w.heap.size ak c b18 x' (b18 + 1) y' b16 q x2 := ⟨HCc.out, H18.out, H19.out, H16.out⟩
          refine ⟨hS, ?_⟩
          try simp only [List.getElem_toArray, List.getElem_cons_succ, List.getElem_cons_zero, Act.put, List.setIfInBounds_toArray, List.set_cons_zero, List.set_cons_succ]
          have hJ : Hid ((joinP q x').length = 32) := Lib.hid (sumL_len _)
          have hJ2 : Hid ((joinP q y').length = 32) := Lib.hid (sumL_len _)
          generalize joinP q x' = J at hJ hEV ⊢
          generalize joinP q y' = J2 at hJ2 hEV ⊢
          refine wpAnyH_all (rs := [9]) (by kernel_rfl) (by simp) ?_
          intro i hi
          simp only [List.mem_cons, List.not_mem_nil, or_false] at hi
          subst hi
          refine wpOp_wp rfl (by rfl) ?_
          refine wp_store_dig (.tmp 12) (.tmp 109) rfl (w.heap.size + 2) rfl J hJ.out rfl _ _ HR.out zrow ?_
          intro z1 g1 hk1 hB1 hz1
          have hS := (hS.far hk1 (by omega) (by omega) (by omega) (by omega))
          refine ⟨hS, ?_⟩
          try simp only [List.getElem_toArray, List.getElem_cons_succ, List.getElem_cons_zero, Act.put, List.setIfInBounds_toArray, List.set_cons_zero, List.set_cons_succ]
          have HR3' : DigAt (w.heap.size + 3) (List.replicate 32 0) z1 := by unfold DigAt; rw [hk1 _ (by omega)]; exact HR3.out
          refine wpAnyH_all (rs := [10]) (by kernel_rfl) (by simp) ?_
          intro i hi
          simp only [List.mem_cons, List.not_mem_nil, or_false] at hi
          subst hi
          refine wpOp_wp rfl (by rfl) ?_
          refine wp_store_dig (.tmp 13) (.tmp 113) rfl (w.heap.size + 3) rfl J2 hJ2.out rfl _ _ HR3' zrow ?_
          intro z2 h13 hk2 hB2 hz2
          have h12 : Hid (DigAt (w.heap.size + 2) J z2) := by refine Lib.hid ?_; unfold DigAt; rw [hk2 _ (by omega)]; exact g1.out
          have hS := (hS.far hk2 (by omega) (by omega) (by omega) (by omega))
          refine ⟨hS, ?_⟩
          try simp only [List.getElem_toArray, List.getElem_cons_succ, List.getElem_cons_zero, Act.put, List.setIfInBounds_toArray, List.set_cons_zero, List.set_cons_succ]
          refine wpAnyH_take (i := 11) (v := ?_) rfl (by kernel_rfl) (by kernel_rfl) (by kernel_rfl) (fun _ _ _ h => h) (Or.inl ⟨by rfl, ?_⟩) hS ?_
          rotate_left
          · intro v _; go_simp; first | done | with_reducible rfl
          rotate_left
          simp only [List.getElem_toArray, List.getElem_cons_succ, List.getElem_cons_zero, Act.put, List.setIfInBounds_toArray, List.set_cons_zero, List.set_cons_succ]
          refine wpAnyH_done (by kernel_rfl) ?_ _
          clear hS
          go_wp2_with fail
          refine bodyPost_ret (v := .tuple #[.agg (Lib.byteCells J).toArray, .agg (Lib.byteCells J2).toArray, .bool BB]) ?_ rfl ⟨J, J2, rfl, hEV.out, hB2 (hB1 HB.out (by omega)) (by omega)⟩
          simp [results, Tryd.results78, asAddr, run_load_dig h12.out hJ.out, run_load_dig h13.out hJ2.out, Act.put]
    · obtain rfl : m = n := by omega
      have hw : Tr.way m m = [] := Tr.way_end _ _ (by omega)
      have hwl : Tr.whole m m = true := by unfold Tr.whole; rw [hw]; rfl
      cases wh with
      | true =>
        have hwb : wholeB m m true = true := by unfold wholeB; rw [hwl]; rfl
        have hb : bothB m m true bs = decide (bs.length = 0) := by unfold bothB; rw [hwb, hw, if_pos rfl]; rfl
        refine (rboth_1 ak c d hd m bs A c1 w hC hc hK _ hb).mono ?_
        rintro e w' ⟨x, y, rfl, ⟨hx1, hy1⟩, hb_⟩
        rw [hx1, hy1]
        refine ⟨d, d, rfl, ⟨hd, hd, fun h => ⟨d, bs, by rw [hwb, if_pos rfl]; exact ⟨rfl, rfl⟩, ?_, ?_⟩⟩, hb_⟩
        · rw [hw]; rfl
        · rw [hw]; rfl
      | false =>
        have hwb : wholeB m m false = false := by unfold wholeB; rw [Bool.false_and]
        have hb : bothB m m false bs = decide (bs.length = 1) := by unfold bothB; rw [hwb, hw, if_neg (by simp)]; rfl
        by_cases h1 : bs.length = 1
        · obtain ⟨f, rfl⟩ : ∃ f, bs = [f] := List.length_eq_one_iff.1 h1
          rw [hb, decT h1]
          refine (rboth_2 ak c d f hd (hC.all f (by simp)) m A c1 w hC hc hK).mono ?_
          rintro e w' ⟨x, y, rfl, ⟨hx1, hy1⟩, hb_⟩
          rw [hx1, hy1]
          refine ⟨f, f, rfl, ⟨hC.all f (by simp), hC.all f (by simp), fun h => ⟨f, [], by rw [hwb, if_neg (by simp)], ?_, ?_⟩⟩, hb_⟩
          · rw [hw]; rfl
          · rw [hw]; rfl
        · rw [hb, decF h1]
          refine (rboth_3 ak c d hd m m false bs A c1 w hC hc hK (Or.inl ⟨rfl, rfl, h1⟩)).mono ?_
          rintro e w' ⟨x, y, rfl, ⟨hx1, hy1⟩, hb_⟩
          rw [hx1, hy1]
          exact ⟨d, d, rfl, ⟨hd, hd, fun h => by rw [hb, decF h1] at h; cases h⟩, hb_⟩
end Go.Proofs.YtldpnmebjnkjeaaDoor.TrW
namespace Go.Proofs.YtldpnmebjnkjeaaDoor.TrW
open Go.RowKit Go.Proofs.YtldpnmebjnkjeaaDoorW.PrintWords Go.Proofs.YtldpnmebjnkjeaaDoor.PH1 Go.Proofs.YtldpnmebjnkjeaaDoor Go.Proofs.YtldpnmebjnkjeaaDoorW.PrintLast Go.Proofs.YtldpnmebjnkjeaaDoorW.PrintMore
open Go.Proofs.YtldpnmebjnkjeaaDoor.Sha
open Go.Proofs.YtldpnmebjnkjeaaDoor.Ref10 (wp_store_dig wp_load_dig wpOp_wp range_row yieldsIf_cell agg3 agg56 CV CAt KC run_load_C)
set_option linter.unusedVariables false
set_option linter.unusedSimpArgs false

theorem bl3 (w : World) (o1 o2 o3 : Obj) : Below w.heap.size w (((w.alloc o1).alloc o2).alloc o3) := (((Below.refl _ _).alloc (Nat.le_refl _) _).alloc (by simp) _).alloc (by simp <;> omega) _
set_option maxHeartbeats 8000000 in
set_option maxRecDepth 100000 in
theorem rCheckBridge_arg (ak : Addr) (c : Nat) (m n : Int) (a b : List UInt8) (ps : List (List UInt8)) (A : Option Addr) (c1 : Nat) (w : World) (h : m < 1 ∨ n < m ∨ 1024 < n) :
    Calls Tryd.prog 47 #[cv ak c, .int .i64 m, .int .i64 n, .agg (Lib.byteCells a).toArray, .agg (Lib.byteCells b).toArray, .slice A ps.length c1] w fun e w' => e = .returned (.bool (bridgeV m n a b ps)) ∧ Below w.heap.size w w' := by
  have hv : bridgeV m n a b ps = false := by unfold bridgeV; rw [decF (by omega), Bool.false_and]
  rw [hv]
  clear hv
  unfold cv
  by_cases h0 : m < 1
  · replace h := Lib.hid h
    go_enter Tryd.func47, Tryd.ntmps47
    go_wp2_with fail
    go_ret
    exact ⟨rfl, bl3 _ _ _ _⟩
  · by_cases h1 : n < m
    · have d0 := decF h0
      replace h := Lib.hid h
      go_enter Tryd.func47, Tryd.ntmps47
      go_wp2_with fail
      go_ret
      exact ⟨rfl, bl3 _ _ _ _⟩
    · have h2 : 1024 < n := by omega
      have d0 := decF h0
      have d1 := decF h1
      replace h := Lib.hid h
      go_enter Tryd.func47, Tryd.ntmps47
      go_wp2_with fail
      go_ret
      exact ⟨rfl, bl3 _ _ _ _⟩
theorem bridge_both (m n : Nat) (a b x y : List UInt8) (ps : List (List UInt8)) (h : 1 ≤ m ∧ m ≤ n ∧ n ≤ 1024) (hx : bothV a m n true ps x y) : bridgeV (m : Int) (n : Int) a b ps = (bothB m n true ps && (decide (x = a) && decide (y = b))) := by
  unfold bridgeV
  simp only [Int.toNat_natCast]
  rw [decT (by omega), Bool.true_and]
  have hwe : wholeB m n true = Tr.whole m n := by unfold wholeB; rw [Bool.true_and]
  cases hB : bothB m n true ps with
  | false =>
    rw [Bool.false_and]
    have hn := of_decide_eq_false hB
    rw [hwe] at hn
    cases hw : Tr.whole m n with
    | true =>
      rw [hw, if_pos rfl] at hn
      rw [if_pos rfl]
      exact decF (fun h2 => hn h2.1.symm)
    | false =>
      rw [hw, if_neg (by simp)] at hn
      rw [if_neg (by simp)]
      match ps, hn with
      | [], _ => rfl
      | f :: qs, hn => exact decF (fun h2 => hn (by rw [List.length_cons, h2.1]))
  | true =>
    rw [Bool.true_and, ← Bool.decide_and]
    obtain ⟨f, qs, hf, hx1, hy1⟩ := hx.2.2 hB
    have hlen := of_decide_eq_true hB
    rw [hwe] at hf hlen
    cases hw : Tr.whole m n with
    | true =>
      rw [hw, if_pos rfl] at hf hlen
      obtain ⟨rfl, rfl⟩ := hf
      rw [if_pos rfl]
      unfold bridgeE
      rw [decide_eq_decide, hx1, hy1]
      exact ⟨fun h2 => h2.2, fun h2 => ⟨by omega, h2⟩⟩
    | false =>
      rw [hw, if_neg (by simp)] at hf hlen
      rw [if_neg (by simp), hf]
      show bridgeE m n a b f qs = _
      unfold bridgeE
      rw [decide_eq_decide, hx1, hy1]
      rw [hf, List.length_cons] at hlen
      exact ⟨fun h2 => h2.2, fun h2 => ⟨by omega, h2⟩⟩
set_option maxHeartbeats 8000000 in
set_option maxRecDepth 100000 in
theorem rCheckBridge_ok (ak : Addr) (c : Nat) (m n : Nat) (a b : List UInt8) (ha : a.length = 32) (hb : b.length = 32) (ps : List (List UInt8)) (A : Option Addr) (c1 : Nat) (w : World) (hC : CD A ps w) (hc : ps.length ≤ c1) (hm : 1 ≤ m) (hmn : m ≤ n) (hn : n ≤ 1024) (hK : KC w ak) :
    Calls Tryd.prog 47 #[cv ak c, .int .i64 (m : Int), .int .i64 (n : Int), .agg (Lib.byteCells a).toArray, .agg (Lib.byteCells b).toArray, .slice A ps.length c1] w fun e w' => e = .returned (.bool (bridgeV m n a b ps)) ∧ Below w.heap.size w w' := by
  have hboth := fun W hC hk => rboth_calls ak c n n m a true ps A c1 W (Nat.le_refl _) hn hm hmn ha hC hc hk
  obtain ⟨V, hVV⟩ : ∃ V, V = bridgeV (m : Int) (n : Int) a b ps := ⟨_, rfl⟩
  rw [← hVV]
  have d0 : decide ((m : Int) < 1) = false := decF (by omega)
  have d0' : decide (m < 1) = false := decF (by omega)
  have d0'' : decide (m = 0) = false := decF (by omega)
  have d1 : decide ((n : Int) < (m : Int)) = false := decF (by omega)
  have d1' : decide (n < m) = false := decF (by omega)
  have d2 : decide (1024 < (n : Int)) = false := decF (by omega)
  have d2' : decide (1024 < n) = false := decF (by omega)
  replace hVV := Lib.hid hVV
  replace hboth := Lib.hid hboth
  replace ha := Lib.hid ha
  replace hb := Lib.hid hb
  unfold cv at *
  go_enter Tryd.func47, Tryd.ntmps47
  go_upto_region 1 with fail
  generalize hw1 : World.alloc _ _ = w1
  have hsz3 : ∀ (o1 o2 : Obj), ((w.alloc o1).alloc o2).heap.size = w.heap.size + 2 := fun _ _ => by simp
  have HCc : Hid (CAt w.heap.size (.slice (some ak) 64 c) v0 w1) := by
    rw [← hw1]; refine Lib.hid ?_; unfold CAt
    rw [Below.heap_alloc _ _ _ (by simp <;> omega), Below.heap_alloc _ _ _ (by simp)]; exact heap_alloc_last _ _
  have HX : Hid (DigAt (w.heap.size + 1) a w1) := by
    rw [← hw1]; refine Lib.hid ?_; unfold DigAt
    rw [Below.heap_alloc _ _ _ (by simp)]; exact heap_at1 _ _ _
  have HY : Hid (DigAt (w.heap.size + 2) b w1) := by
    rw [← hw1]; refine Lib.hid ?_; unfold DigAt
    rw [← hsz3]; exact heap_alloc_last _ _
  have HB : Hid (Below w.heap.size w w1) := by
    rw [← hw1]; exact Lib.hid ((((Below.refl _ _).alloc (Nat.le_refl _) _).alloc (by simp) _).alloc (by simp <;> omega) _)
  have HK := Lib.hid (hK.below HB.out)
  have HC := Lib.hid (hC.below HB.out)
  clear hw1 hK hC hsz3
  go_wp2_with (first | (guard_target = wpList _ _ _ (⟨some 28, _, _, _, _, _⟩ :: _) _ _; refine wpList_load_C rfl (.tmp 6) rfl w.heap.size rfl _ _ HCc.out ?_) | (guard_target = wpList _ _ _ (⟨some 29, _, _, _, _, _⟩ :: _) _ _; refine wpList_load_dig rfl (.tmp 9) rfl (w.heap.size + 1) rfl a ha.out _ _ HX.out ?_))
  refine (hboth.out w1 HC.out HK.out).mono ?_
  rintro e w4 ⟨x', y', rfl, hx', hb_⟩
  replace HCc := Lib.hid (CAt.below HCc.out hb_)
  replace HK := Lib.hid (KC.below HK.out hb_)
  replace HX := Lib.hid (DigAt.below HX.out hb_)
  replace HY := Lib.hid (DigAt.below HY.out hb_)
  replace HC := Lib.hid (CD.below HC.out hb_)
  replace HB := Lib.hid (HB.out.trans (Below.mono hb_ HB.out.size))
  clear hb_
  have hxl := hx'.1
  have hyl := hx'.2.1
  have hV2 := bridge_both m n a b x' y' ps ⟨hm, hmn, hn⟩ hx'
  rw [← hVV.out] at hV2
  clear hx' hVV
  replace hxl := Lib.hid hxl
  replace hyl := Lib.hid hyl
  replace hV2 := Lib.hid hV2
  go_upto_region 4 with (first | (guard_target = wpList _ _ _ (⟨none, Op.store _ (Operand.tmp 13) _, _, _, _, _⟩ :: _) _ _; refine wpList_store_dig rfl (.tmp 13) (.tmp 34) rfl w4.heap.size rfl x' hxl.out rfl _ _ (heap_at0 _ _ _) zrow ?_; intro w5 h5 hk5 hB5) | (guard_target = wpList _ _ _ (⟨none, Op.store _ (Operand.tmp 14) _, _, _, _, _⟩ :: _) _ _; refine wpList_store_dig rfl (.tmp 14) (.tmp 35) rfl (w4.heap.size + 1) rfl y' hyl.out rfl _ _ ((hk5 _ (by omega)).trans (heap_at1 _ _ _)) zrow ?_; intro w6 h6 hk6 hB6))
  have hb6 : Below w4.heap.size w4 w6 := hB6 (hB5 (((Below.refl _ _).alloc (Nat.le_refl _) _).alloc (by simp) _) (Nat.le_refl _)) (by omega)
  have H14 : Hid (DigAt (w4.heap.size + 1) y' w6) := h6
  have H13 : Hid (DigAt w4.heap.size x' w6) := by refine Lib.hid ?_; unfold DigAt; rw [hk6 _ (by omega)]; exact h5.out
  replace HCc := Lib.hid (CAt.below HCc.out hb6)
  replace HK := Lib.hid (KC.below HK.out hb6)
  replace HX := Lib.hid (DigAt.below HX.out hb6)
  replace HY := Lib.hid (DigAt.below HY.out hb6)
  replace HC := Lib.hid (CD.below HC.out hb6)
  replace HB := Lib.hid (HB.out.trans (Below.mono hb6 HB.out.size))
  clear hb6 hB6 hB5 hk5 hk6 h5 h6
  generalize w4.heap.size = b13 at H13 H14 ⊢
  have hq1 := fun v : World => eq32 v x' a hxl.out ha.out
  have hq2 := fun v : World => eq32 v y' b hyl.out hb.out
  generalize bothB m n true ps = BB at hV2 ⊢
  generalize decide (x' = a) = E1 at hq1 hV2
  generalize decide (y' = b) = E2 at hq2 hV2
  have hV3 := hV2.out
  subst hV3
  cases BB with
  | false =>
    clear hq1 hq2
    go_wp2_with fail
    go_ret
    exact ⟨rfl, HB.out⟩
  | true =>
    cases E1 with
    | false =>
      clear hq2
      go_wp2_with (first | (guard_target = wpList _ _ _ (⟨some 39, _, _, _, _, _⟩ :: _) _ _; refine wpList_load_digG rfl (.tmp 13) rfl b13 rfl x' hxl.out _ _ H13.out ?_) | (guard_target = wpList _ _ _ (⟨some 40, _, _, _, _, _⟩ :: _) _ _; refine wpList_load_digG rfl (.tmp 9) rfl (w.heap.size + 1) rfl a ha.out _ _ HX.out ?_))
      go_ret
      exact ⟨rfl, HB.out⟩
    | true =>
      go_wp2_with (first | (guard_target = wpList _ _ _ (⟨some 39, _, _, _, _, _⟩ :: _) _ _; refine wpList_load_digG rfl (.tmp 13) rfl b13 rfl x' hxl.out _ _ H13.out ?_) | (guard_target = wpList _ _ _ (⟨some 40, _, _, _, _, _⟩ :: _) _ _; refine wpList_load_digG rfl (.tmp 9) rfl (w.heap.size + 1) rfl a ha.out _ _ HX.out ?_) | (guard_target = wpList _ _ _ (⟨some 44, _, _, _, _, _⟩ :: _) _ _; refine wpList_load_digG rfl (.tmp 14) rfl (b13 + 1) rfl y' hyl.out _ _ H14.out ?_) | (guard_target = wpList _ _ _ (⟨some 45, _, _, _, _, _⟩ :: _) _ _; refine wpList_load_digG rfl (.tmp 10) rfl (w.heap.size + 2) rfl b hb.out _ _ HY.out ?_))
      go_ret
      exact ⟨rfl, HB.out⟩
theorem rCheckBridge_calls (ak : Addr) (c : Nat) (m n : Int) (a b : List UInt8) (ha : a.length = 32) (hb : b.length = 32) (ps : List (List UInt8)) (A : Option Addr) (c1 : Nat) (w : World) (hC : CD A ps w) (hc : ps.length ≤ c1) (hK : KC w ak) :
    Calls Tryd.prog 47 #[cv ak c, .int .i64 m, .int .i64 n, .agg (Lib.byteCells a).toArray, .agg (Lib.byteCells b).toArray, .slice A ps.length c1] w fun e w' => e = .returned (.bool (bridgeV m n a b ps)) ∧ Below w.heap.size w w' := by
  by_cases h : m < 1 ∨ n < m ∨ 1024 < n
  · exact rCheckBridge_arg ak c m n a b ps A c1 w h
  · obtain ⟨m', rfl⟩ := Int.eq_ofNat_of_zero_le (show 0 ≤ m by omega)
    obtain ⟨n', rfl⟩ := Int.eq_ofNat_of_zero_le (show 0 ≤ n by omega)
    exact rCheckBridge_ok ak c m' n' a b ha hb ps A c1 w hC hc (by omega) (by omega) (by omega) hK
end Go.Proofs.YtldpnmebjnkjeaaDoor.TrW
namespace Go.Proofs.YtldpnmebjnkjeaaDoor.TrW
open Go.RowKit Go.Proofs.YtldpnmebjnkjeaaDoorW.PrintWords Go.Proofs.YtldpnmebjnkjeaaDoor.PH1 Go.Proofs.YtldpnmebjnkjeaaDoor Go.Proofs.YtldpnmebjnkjeaaDoorW.PrintLast Go.Proofs.YtldpnmebjnkjeaaDoorW.PrintMore
open Go.Proofs.YtldpnmebjnkjeaaDoor.Sha
open Go.Proofs.YtldpnmebjnkjeaaDoor.Ref10 (wp_store_dig wp_load_dig wpOp_wp range_row yieldsIf_cell agg3 agg56)
set_option linter.unusedVariables false
set_option linter.unusedSimpArgs false

def askC (i n : Int) (a b : List UInt8) (v : Value) : List Value := .int .i64 i :: .int .i64 n :: (Lib.byteCells a ++ (Lib.byteCells b ++ [v]))
def AskAt (p : Nat) (i n : Int) (a b : List UInt8) (v : Value) (w : World) : Prop := w.heap[p]? = some (.cells (askC i n a b v).toArray 73 (0, 0)) ∧ a.length = 32 ∧ b.length = 32
theorem AskAt.below {p : Nat} {i n : Int} {a b : List UInt8} {v : Value} {w w1 : World} (h : AskAt p i n a b v w) (hb : Below w.heap.size w w1) : AskAt p i n a b v w1 := ⟨blk_below h.1 hb, h.2⟩
theorem AskAt.c0 {p : Nat} {i n : Int} {a b : List UInt8} {v : Value} {w : World} (h : AskAt p i n a b v w) : w.cell? ⟨p, 0, none⟩ = some (.int .i64 i) := by rw [cell_of_row _ _ _ _ _ _ h.1]; rfl
theorem AskAt.c1 {p : Nat} {i n : Int} {a b : List UInt8} {v : Value} {w : World} (h : AskAt p i n a b v w) : w.cell? ⟨p, 1, none⟩ = some (.int .i64 n) := by rw [cell_of_row _ _ _ _ _ _ h.1]; rfl
theorem AskAt.c66 {p : Nat} {i n : Int} {a b : List UInt8} {v : Value} {w : World} (h : AskAt p i n a b v w) : w.cell? ⟨p, 66, none⟩ = some v := by
  rw [cell_of_row _ _ _ _ _ _ h.1, List.getElem?_toArray]
  unfold askC
  rw [show 66 = 64 + 1 + 1 from rfl, List.getElem?_cons_succ, List.getElem?_cons_succ, List.getElem?_append_right (by rw [bc_len h.2.1]; omega), List.getElem?_append_right (by rw [bc_len h.2.1, bc_len h.2.2]; omega), bc_len h.2.1, bc_len h.2.2]
  rfl
theorem AskAt.a {p : Nat} {i n : Int} {a b : List UInt8} {v : Value} {w : World} (h : AskAt p i n a b v w) : DigAd ⟨p, 2, none⟩ a w := by
  intro j u hu
  have hj := (List.getElem?_eq_some_iff.1 hu).1
  rw [Addr.add_mid, show 2 + j = j + 1 + 1 by omega, cell_of_row _ _ _ _ _ _ h.1, List.getElem?_toArray]
  unfold askC
  rw [List.getElem?_cons_succ, List.getElem?_cons_succ, List.getElem?_append_left hj]
  exact hu
theorem AskAt.b {p : Nat} {i n : Int} {a b : List UInt8} {v : Value} {w : World} (h : AskAt p i n a b v w) : DigAd ⟨p, 34, none⟩ b w := by
  intro j u hu
  have hj := (List.getElem?_eq_some_iff.1 hu).1
  rw [Addr.add_mid, show 34 + j = (32 + j) + 1 + 1 by omega, cell_of_row _ _ _ _ _ _ h.1, List.getElem?_toArray]
  unfold askC
  rw [List.getElem?_cons_succ, List.getElem?_cons_succ, List.getElem?_append_right (by rw [bc_len h.2.1]; omega), bc_len h.2.1, Nat.add_sub_cancel_left, List.getElem?_append_left hj]
  exact hu
end Go.Proofs.YtldpnmebjnkjeaaDoor.TrW
namespace Go.Proofs.YtldpnmebjnkjeaaDoor.TrW
open Go.RowKit Go.Proofs.YtldpnmebjnkjeaaDoorW.PrintWords Go.Proofs.YtldpnmebjnkjeaaDoor.PH1 Go.Proofs.YtldpnmebjnkjeaaDoor Go.Proofs.YtldpnmebjnkjeaaDoorW.PrintLast Go.Proofs.YtldpnmebjnkjeaaDoorW.PrintMore
open Go.Proofs.YtldpnmebjnkjeaaDoor.Sha
open Go.Proofs.YtldpnmebjnkjeaaDoor.Ref10 (wp_store_dig wp_load_dig wpOp_wp range_row yieldsIf_cell agg3 agg56 CV CAt KC run_load_C rmake_calls wpList_store_C)
set_option linter.unusedVariables false
set_option linter.unusedSimpArgs false

theorem aggDs : ∀ w : World, (Go.isAgg 61).run Tryd.prog w = .ok false w := fun w => by simp [Tryd.isAgg61]
def SK (p : Nat) (i n : Int) (a b : List UInt8) (v : Value) (b5 : Nat) (ak : Addr) (c : Nat) (W : World) : Prop := AskAt p i n a b v W ∧ CAt b5 (.slice (some ak) 64 c) v0 W
set_option maxHeartbeats 16000000 in
set_option maxRecDepth 100000 in
theorem checks_law (s : ByteArray) (I N : Int) (ra rb : List UInt8) (hra : ra.length = 32) (hrb : rb.length = 32) (A1 : Option Addr) (c1 : Nat) (ps : List (List UInt8)) (w : World) (hD : CD A1 ps w) (hd : ps.length ≤ c1) (hK : KAt w) :
    Calls Tryd.prog 9 #[.string s, .agg (askC I N ra rb (.slice A1 ps.length c1)).toArray] w fun e w' => e = .returned (.bool true) ∧ Below w.heap.size w w' := by
  have hmax2 := Kd.C_max hD
  go_enter Tryd.func9, Tryd.ntmps9
  go_upto_region 1 with fail
  generalize hw1 : w.alloc _ = w1
  have HQ : Hid (AskAt w.heap.size I N ra rb (.slice A1 ps.length c1) w1) := by
    rw [← hw1]; exact Lib.hid ⟨heap_alloc_last _ _, hra, hrb⟩
  have HB : Hid (Below w.heap.size w w1) := by
    rw [← hw1]; exact Lib.hid ((Below.refl _ _).alloc (Nat.le_refl _) _)
  have HK : Hid (KAt w1) := Lib.hid (hK.below HB.out)
  have HD : Hid (CD A1 ps w1) := Lib.hid (hD.below HB.out)
  clear hw1 hK hD
  replace hd := Lib.hid hd
  replace hra := Lib.hid hra
  replace hrb := Lib.hid hrb
  by_cases hs : (s.size : Int) > 1200
  · skip
    go_wp2_with fail
    refine (alive_calls w1 HK.out).mono ?_
    rintro e wz ⟨rfl, hb_⟩
    have HBz := Lib.hid (HB.out.trans (Below.mono hb_ HB.out.size))
    clear hb_
    go_wp2_with fail
    go_ret
    exact ⟨rfl, HBz.out⟩
  · have hs' : decide ((s.size : Int) > 1200) = false := decF hs
    have f66 := HQ.out.c66
    by_cases hp : (ps.length : Int) > 24
    · skip
      go_wp2_with fail
      refine (alive_calls w1 HK.out).mono ?_
      rintro e wz ⟨rfl, hb_⟩
      have HBz := Lib.hid (HB.out.trans (Below.mono hb_ HB.out.size))
      clear hb_
      go_wp2_with fail
      go_ret
      exact ⟨rfl, HBz.out⟩
    · have hp' : decide ((ps.length : Int) > 24) = false := decF hp
      go_wp2_with fail
      clear f66
      refine (rmake_calls w1).mono ?_
      rintro e w2 ⟨ak, cC, rfl, hkc, hb_⟩
      replace HK := Lib.hid (HK.out.below hb_)
      replace HD := Lib.hid (CD.below HD.out hb_)
      replace HQ := Lib.hid (AskAt.below HQ.out hb_)
      replace HB := Lib.hid (HB.out.trans (Below.mono hb_ HB.out.size))
      clear hb_
      go_upto_region 4 with (guard_target = wpList _ _ _ (⟨none, _, _, _, _, _⟩ :: _) _ _; refine wpList_store_C rfl (.tmp 5) (.tmp 16) rfl w2.heap.size rfl (.slice (some ak) 64 cC) v0 rfl rfl _ _ (heap_alloc_last _ _) rfl ?_; intro w3 h3 _ hB3 _)
      have hb3 : Below w2.heap.size w2 w3 := hB3 ((Below.refl _ _).alloc (Nat.le_refl _) _) (Nat.le_refl _)
      have HCc : Hid (CAt w2.heap.size (.slice (some ak) 64 cC) v0 w3) := h3
      have HC0 := Lib.hid (KC.below hkc hb3)
      replace HK := Lib.hid (HK.out.below hb3)
      replace HD := Lib.hid (CD.below HD.out hb3)
      replace HQ := Lib.hid (AskAt.below HQ.out hb3)
      replace HB := Lib.hid (HB.out.trans (Below.mono hb3 HB.out.size))
      clear hb3 hB3 h3 hkc
      generalize w2.heap.size = b5 at HCc ⊢
      have hs : s.size ≤ 1048575 := by omega
      have hrp := Lib.hid (fun W hC hk => rCheckPath_calls ak cC s hs I N rb hrb.out ps A1 c1 W hC hd.out hk)
      have hrb2 := Lib.hid (fun W hC hk => rCheckBridge_calls ak cC I N ra rb hra.out hrb.out ps A1 c1 W hC hd.out hk)
      refine wp_region_held (S := SK w.heap.size I N ra rb (.slice A1 ps.length c1) b5 ak cC) (by kernel_rfl) ?_
      change wpAnyH _ _ _ _ _ _ _ _ w3.drew
      have hdr : Below w3.heap.size w3 w3.drew := (Below.refl _ _).drew
      replace HK := Lib.hid (HK.out.below hdr)
      replace HD := Lib.hid (CD.below HD.out hdr)
      replace HQ := Lib.hid (AskAt.below HQ.out hdr)
      replace HB := Lib.hid (HB.out.trans (Below.mono hdr HB.out.size))
      replace HCc := Lib.hid (CAt.below HCc.out hdr)
      replace HC0 := Lib.hid (KC.below HC0.out hdr)
      clear hdr
      generalize w3.drew = x0 at HK HD HQ HB HCc HC0 ⊢
      have hS : SK w.heap.size I N ra rb (.slice A1 ps.length c1) b5 ak cC x0 := ⟨HQ.out, HCc.out⟩
      refine wpAnyH_all (rs := [0]) (by kernel_rfl) (by simp) ?_
      intro i hi
      simp only [List.mem_cons, List.not_mem_nil, or_false] at hi
      subst hi
      refine wpOp_wp rfl (by rfl) ?_
      go_simp
      refine (alive_calls x0 HK.out).mono ?_
      rintro e x1 ⟨rfl, hb_⟩
      replace HK := Lib.hid (HK.out.below hb_)
      replace HD := Lib.hid (CD.below HD.out hb_)
      replace HQ := Lib.hid (AskAt.below HQ.out hb_)
      replace HB := Lib.hid (HB.out.trans (Below.mono hb_ HB.out.size))
      replace HCc := Lib.hid (CAt.below HCc.out hb_)
      replace HC0 := Lib.hid (KC.below HC0.out hb_)
      clear hb_ hS
      have hS : SK w.heap.size I N ra rb (.slice A1 ps.length c1) b5 ak cC x1 := ⟨HQ.out, HCc.out⟩
      refine ⟨hS, ?_⟩
      try simp only [List.getElem_toArray, List.getElem_cons_succ, List.getElem_cons_zero, Act.put, List.setIfInBounds_toArray, List.set_cons_zero, List.set_cons_succ]
      refine wpAnyH_take (i := 1) (v := ?_) rfl (by kernel_rfl) (by kernel_rfl) (by kernel_rfl) (fun _ _ _ h => h) (Or.inl ⟨by rfl, ?_⟩) hS ?_
      rotate_left
      · intro v _; go_simp; first | done | with_reducible rfl
      rotate_left
      simp only [List.getElem_toArray, List.getElem_cons_succ, List.getElem_cons_zero, Act.put, List.setIfInBounds_toArray, List.set_cons_zero, List.set_cons_succ]
      refine wpAnyH_take (i := 2) (v := ?_) rfl (by kernel_rfl) (by kernel_rfl) (by kernel_rfl) (fun _ _ _ h => h) (Or.inl ⟨by rfl, ?_⟩) hS ?_
      rotate_left
      · intro v _; go_simp; first | done | with_reducible rfl
      rotate_left
      simp only [List.getElem_toArray, List.getElem_cons_succ, List.getElem_cons_zero, Act.put, List.setIfInBounds_toArray, List.set_cons_zero, List.set_cons_succ]
      refine wpAnyH_take (i := 3) (v := ?_) rfl (by kernel_rfl) (by kernel_rfl) (by kernel_rfl) (fun _ _ _ h => h) (Or.inl ⟨by rfl, ?_⟩) hS ?_
      rotate_left
      · intro v _; go_simp; first | done | with_reducible rfl
      rotate_left
      simp only [List.getElem_toArray, List.getElem_cons_succ, List.getElem_cons_zero, Act.put, List.setIfInBounds_toArray, List.set_cons_zero, List.set_cons_succ]
      refine wpAnyH_take (i := 4) (v := _) rfl (by kernel_rfl) (by kernel_rfl) (by kernel_rfl) (fun _ _ _ h => h) (yieldsIf_cell (by rfl) 3 (.tmp 20) rfl ⟨w.heap.size, 0, none⟩ rfl (.int .i64 I) agg3 (fun _ h => (AskAt.c0 h.1))) hS ?_
      simp only [List.getElem_toArray, List.getElem_cons_succ, List.getElem_cons_zero, Act.put, List.setIfInBounds_toArray, List.set_cons_zero, List.set_cons_succ]
      refine wpAnyH_take (i := 5) (v := ?_) rfl (by kernel_rfl) (by kernel_rfl) (by kernel_rfl) (fun _ _ _ h => h) (Or.inl ⟨by rfl, ?_⟩) hS ?_
      rotate_left
      · intro v _; go_simp; first | done | with_reducible rfl
      rotate_left
      simp only [List.getElem_toArray, List.getElem_cons_succ, List.getElem_cons_zero, Act.put, List.setIfInBounds_toArray, List.set_cons_zero, List.set_cons_succ]
      refine wpAnyH_take (i := 6) (v := _) rfl (by kernel_rfl) (by kernel_rfl) (by kernel_rfl) (fun _ _ _ h => h) (yieldsIf_cell (by rfl) 3 (.tmp 22) rfl ⟨w.heap.size, 1, none⟩ rfl (.int .i64 N) agg3 (fun _ h => (AskAt.c1 h.1))) hS ?_
      simp only [List.getElem_toArray, List.getElem_cons_succ, List.getElem_cons_zero, Act.put, List.setIfInBounds_toArray, List.set_cons_zero, List.set_cons_succ]
      refine wpAnyH_take (i := 7) (v := ?_) rfl (by kernel_rfl) (by kernel_rfl) (by kernel_rfl) (fun _ _ _ h => h) (Or.inl ⟨by rfl, ?_⟩) hS ?_
      rotate_left
      · intro v _; go_simp; first | done | with_reducible rfl
      rotate_left
      simp only [List.getElem_toArray, List.getElem_cons_succ, List.getElem_cons_zero, Act.put, List.setIfInBounds_toArray, List.set_cons_zero, List.set_cons_succ]
      refine wpAnyH_take (i := 8) (v := _) rfl (by kernel_rfl) (by kernel_rfl) (by kernel_rfl) (fun _ _ _ h => h) (yieldsIf_digA (by rfl) (.tmp 24) rfl ⟨w.heap.size,34,none⟩ rfl rb hrb.out (fun _ h => (AskAt.b h.1))) hS ?_
      try simp only [List.getElem_toArray, List.getElem_cons_succ, List.getElem_cons_zero, Act.put, List.setIfInBounds_toArray, List.set_cons_zero, List.set_cons_succ]
      refine wpAnyH_take (i := 9) (v := ?_) rfl (by kernel_rfl) (by kernel_rfl) (by kernel_rfl) (fun _ _ _ h => h) (Or.inl ⟨by rfl, ?_⟩) hS ?_
      rotate_left
      · intro v _; go_simp; first | done | with_reducible rfl
      rotate_left
      simp only [List.getElem_toArray, List.getElem_cons_succ, List.getElem_cons_zero, Act.put, List.setIfInBounds_toArray, List.set_cons_zero, List.set_cons_succ]
      refine wpAnyH_take (i := 10) (v := _) rfl (by kernel_rfl) (by kernel_rfl) (by kernel_rfl) (fun _ _ _ h => h) (yieldsIf_cell (by rfl) 61 (.tmp 26) rfl ⟨w.heap.size, 66, none⟩ rfl (.slice A1 ps.length c1) aggDs (fun _ h => (AskAt.c66 h.1))) hS ?_
      simp only [List.getElem_toArray, List.getElem_cons_succ, List.getElem_cons_zero, Act.put, List.setIfInBounds_toArray, List.set_cons_zero, List.set_cons_succ]
      refine wpAnyH_take (i := 12) (v := _) rfl (by kernel_rfl) (by kernel_rfl) (by kernel_rfl) (fun _ _ _ h => h) (yieldsIf_C (by rfl) (.tmp 5) rfl b5 rfl _ _ (fun _ h => h.2)) hS ?_
      try simp only [List.getElem_toArray, List.getElem_cons_succ, List.getElem_cons_zero, Act.put, List.setIfInBounds_toArray, List.set_cons_zero, List.set_cons_succ]
      refine wpAnyH_take (i := 13) (v := ?_) rfl (by kernel_rfl) (by kernel_rfl) (by kernel_rfl) (fun _ _ _ h => h) (Or.inl ⟨by rfl, ?_⟩) hS ?_
      rotate_left
      · intro v _; go_simp; first | done | with_reducible rfl
      rotate_left
      simp only [List.getElem_toArray, List.getElem_cons_succ, List.getElem_cons_zero, Act.put, List.setIfInBounds_toArray, List.set_cons_zero, List.set_cons_succ]
      refine wpAnyH_take (i := 14) (v := ?_) rfl (by kernel_rfl) (by kernel_rfl) (by kernel_rfl) (fun _ _ _ h => h) (Or.inl ⟨by rfl, ?_⟩) hS ?_
      rotate_left
      · intro v _; go_simp; first | done | with_reducible rfl
      rotate_left
      simp only [List.getElem_toArray, List.getElem_cons_succ, List.getElem_cons_zero, Act.put, List.setIfInBounds_toArray, List.set_cons_zero, List.set_cons_succ]
      refine wpAnyH_take (i := 15) (v := _) rfl (by kernel_rfl) (by kernel_rfl) (by kernel_rfl) (fun _ _ _ h => h) (yieldsIf_cell (by rfl) 3 (.tmp 31) rfl ⟨w.heap.size, 0, none⟩ rfl (.int .i64 I) agg3 (fun _ h => (AskAt.c0 h.1))) hS ?_
      simp only [List.getElem_toArray, List.getElem_cons_succ, List.getElem_cons_zero, Act.put, List.setIfInBounds_toArray, List.set_cons_zero, List.set_cons_succ]
      refine wpAnyH_take (i := 16) (v := ?_) rfl (by kernel_rfl) (by kernel_rfl) (by kernel_rfl) (fun _ _ _ h => h) (Or.inl ⟨by rfl, ?_⟩) hS ?_
      rotate_left
      · intro v _; go_simp; first | done | with_reducible rfl
      rotate_left
      simp only [List.getElem_toArray, List.getElem_cons_succ, List.getElem_cons_zero, Act.put, List.setIfInBounds_toArray, List.set_cons_zero, List.set_cons_succ]
      refine wpAnyH_take (i := 17) (v := _) rfl (by kernel_rfl) (by kernel_rfl) (by kernel_rfl) (fun _ _ _ h => h) (yieldsIf_cell (by rfl) 3 (.tmp 33) rfl ⟨w.heap.size, 1, none⟩ rfl (.int .i64 N) agg3 (fun _ h => (AskAt.c1 h.1))) hS ?_
      simp only [List.getElem_toArray, List.getElem_cons_succ, List.getElem_cons_zero, Act.put, List.setIfInBounds_toArray, List.set_cons_zero, List.set_cons_succ]
      refine wpAnyH_take (i := 18) (v := ?_) rfl (by kernel_rfl) (by kernel_rfl) (by kernel_rfl) (fun _ _ _ h => h) (Or.inl ⟨by rfl, ?_⟩) hS ?_
      rotate_left
      · intro v _; go_simp; first | done | with_reducible rfl
      rotate_left
      simp only [List.getElem_toArray, List.getElem_cons_succ, List.getElem_cons_zero, Act.put, List.setIfInBounds_toArray, List.set_cons_zero, List.set_cons_succ]
      refine wpAnyH_take (i := 19) (v := _) rfl (by kernel_rfl) (by kernel_rfl) (by kernel_rfl) (fun _ _ _ h => h) (yieldsIf_digA (by rfl) (.tmp 35) rfl ⟨w.heap.size,34,none⟩ rfl rb hrb.out (fun _ h => (AskAt.b h.1))) hS ?_
      try simp only [List.getElem_toArray, List.getElem_cons_succ, List.getElem_cons_zero, Act.put, List.setIfInBounds_toArray, List.set_cons_zero, List.set_cons_succ]
      refine wpAnyH_take (i := 20) (v := ?_) rfl (by kernel_rfl) (by kernel_rfl) (by kernel_rfl) (fun _ _ _ h => h) (Or.inl ⟨by rfl, ?_⟩) hS ?_
      rotate_left
      · intro v _; go_simp; first | done | with_reducible rfl
      rotate_left
      simp only [List.getElem_toArray, List.getElem_cons_succ, List.getElem_cons_zero, Act.put, List.setIfInBounds_toArray, List.set_cons_zero, List.set_cons_succ]
      refine wpAnyH_take (i := 21) (v := _) rfl (by kernel_rfl) (by kernel_rfl) (by kernel_rfl) (fun _ _ _ h => h) (yieldsIf_cell (by rfl) 61 (.tmp 37) rfl ⟨w.heap.size, 66, none⟩ rfl (.slice A1 ps.length c1) aggDs (fun _ h => (AskAt.c66 h.1))) hS ?_
      simp only [List.getElem_toArray, List.getElem_cons_succ, List.getElem_cons_zero, Act.put, List.setIfInBounds_toArray, List.set_cons_zero, List.set_cons_succ]
      refine wpAnyH_all (rs := [11]) (by kernel_rfl) (by simp) ?_
      intro i hi
      simp only [List.mem_cons, List.not_mem_nil, or_false] at hi
      subst hi
      refine wpOp_wp rfl (by rfl) ?_
      go_simp
      refine (tCheckPath_calls s hs I N rb hrb.out ps A1 c1 x1 HD.out hd.out HK.out).mono ?_
      rintro e x2 ⟨rfl, hb_⟩
      replace HK := Lib.hid (HK.out.below hb_)
      replace HD := Lib.hid (CD.below HD.out hb_)
      replace HQ := Lib.hid (AskAt.below HQ.out hb_)
      replace HB := Lib.hid (HB.out.trans (Below.mono hb_ HB.out.size))
      replace HCc := Lib.hid (CAt.below HCc.out hb_)
      replace HC0 := Lib.hid (KC.below HC0.out hb_)
      clear hb_ hS
      have hS : SK w.heap.size I N ra rb (.slice A1 ps.length c1) b5 ak cC x2 := ⟨HQ.out, HCc.out⟩
      refine ⟨hS, ?_⟩
      try simp only [List.getElem_toArray, List.getElem_cons_succ, List.getElem_cons_zero, Act.put, List.setIfInBounds_toArray, List.set_cons_zero, List.set_cons_succ]
      refine wpAnyH_all (rs := [22]) (by kernel_rfl) (by simp) ?_
      intro i hi
      simp only [List.mem_cons, List.not_mem_nil, or_false] at hi
      subst hi
      refine wpOp_wp rfl (by rfl) ?_
      go_simp
      refine (hrp.out x2 HD.out HC0.out).mono ?_
      rintro e x3 ⟨rfl, hb_⟩
      replace HK := Lib.hid (HK.out.below hb_)
      replace HD := Lib.hid (CD.below HD.out hb_)
      replace HQ := Lib.hid (AskAt.below HQ.out hb_)
      replace HB := Lib.hid (HB.out.trans (Below.mono hb_ HB.out.size))
      replace HCc := Lib.hid (CAt.below HCc.out hb_)
      replace HC0 := Lib.hid (KC.below HC0.out hb_)
      clear hb_ hS
      have hS : SK w.heap.size I N ra rb (.slice A1 ps.length c1) b5 ak cC x3 := ⟨HQ.out, HCc.out⟩
      refine ⟨hS, ?_⟩
      try simp only [List.getElem_toArray, List.getElem_cons_succ, List.getElem_cons_zero, Act.put, List.setIfInBounds_toArray, List.set_cons_zero, List.set_cons_succ]
      generalize pathV s.data.toList I N rb ps = V1
      refine wpAnyH_take (i := 23) (v := ?_) rfl (by kernel_rfl) (by kernel_rfl) (by kernel_rfl) (fun _ _ _ h => h) (Or.inl ⟨by rfl, ?_⟩) hS ?_
      rotate_left
      · intro v _; go_simp; first | done | with_reducible rfl
      rotate_left
      simp only [List.getElem_toArray, List.getElem_cons_succ, List.getElem_cons_zero, Act.put, List.setIfInBounds_toArray, List.set_cons_zero, List.set_cons_succ]
      refine wpAnyH_take (i := 24) (v := ?_) rfl (by kernel_rfl) (by kernel_rfl) (by kernel_rfl) (fun _ _ _ h => h) (Or.inl ⟨by rfl, ?_⟩) hS ?_
      rotate_left
      · intro v _; go_simp; first | done | with_reducible rfl
      rotate_left
      simp only [List.getElem_toArray, List.getElem_cons_succ, List.getElem_cons_zero, Act.put, List.setIfInBounds_toArray, List.set_cons_zero, List.set_cons_succ]
      refine wpAnyH_take (i := 25) (v := ?_) rfl (by kernel_rfl) (by kernel_rfl) (by kernel_rfl) (fun _ _ _ h => h) (Or.inl ⟨by rfl, ?_⟩) hS ?_
      rotate_left
      · intro v _; go_simp; first | done | with_reducible rfl
      rotate_left
      simp only [List.getElem_toArray, List.getElem_cons_succ, List.getElem_cons_zero, Act.put, List.setIfInBounds_toArray, List.set_cons_zero, List.set_cons_succ]
      refine wpAnyH_take (i := 26) (v := ?_) rfl (by kernel_rfl) (by kernel_rfl) (by kernel_rfl) (fun _ _ _ h => h) (Or.inl ⟨by rfl, ?_⟩) hS ?_
      rotate_left
      · intro v _; go_simp; first | done | with_reducible rfl
      rotate_left
      simp only [List.getElem_toArray, List.getElem_cons_succ, List.getElem_cons_zero, Act.put, List.setIfInBounds_toArray, List.set_cons_zero, List.set_cons_succ]
      refine wpAnyH_take (i := 27) (v := _) rfl (by kernel_rfl) (by kernel_rfl) (by kernel_rfl) (fun _ _ _ h => h) (yieldsIf_cell (by rfl) 3 (.tmp 43) rfl ⟨w.heap.size, 0, none⟩ rfl (.int .i64 I) agg3 (fun _ h => (AskAt.c0 h.1))) hS ?_
      simp only [List.getElem_toArray, List.getElem_cons_succ, List.getElem_cons_zero, Act.put, List.setIfInBounds_toArray, List.set_cons_zero, List.set_cons_succ]
      refine wpAnyH_take (i := 28) (v := ?_) rfl (by kernel_rfl) (by kernel_rfl) (by kernel_rfl) (fun _ _ _ h => h) (Or.inl ⟨by rfl, ?_⟩) hS ?_
      rotate_left
      · intro v _; go_simp; first | done | with_reducible rfl
      rotate_left
      simp only [List.getElem_toArray, List.getElem_cons_succ, List.getElem_cons_zero, Act.put, List.setIfInBounds_toArray, List.set_cons_zero, List.set_cons_succ]
      refine wpAnyH_take (i := 29) (v := _) rfl (by kernel_rfl) (by kernel_rfl) (by kernel_rfl) (fun _ _ _ h => h) (yieldsIf_cell (by rfl) 3 (.tmp 45) rfl ⟨w.heap.size, 1, none⟩ rfl (.int .i64 N) agg3 (fun _ h => (AskAt.c1 h.1))) hS ?_
      simp only [List.getElem_toArray, List.getElem_cons_succ, List.getElem_cons_zero, Act.put, List.setIfInBounds_toArray, List.set_cons_zero, List.set_cons_succ]
      refine wpAnyH_take (i := 30) (v := ?_) rfl (by kernel_rfl) (by kernel_rfl) (by kernel_rfl) (fun _ _ _ h => h) (Or.inl ⟨by rfl, ?_⟩) hS ?_
      rotate_left
      · intro v _; go_simp; first | done | with_reducible rfl
      rotate_left
      simp only [List.getElem_toArray, List.getElem_cons_succ, List.getElem_cons_zero, Act.put, List.setIfInBounds_toArray, List.set_cons_zero, List.set_cons_succ]
      refine wpAnyH_take (i := 31) (v := _) rfl (by kernel_rfl) (by kernel_rfl) (by kernel_rfl) (fun _ _ _ h => h) (yieldsIf_digA (by rfl) (.tmp 47) rfl ⟨w.heap.size,2,none⟩ rfl ra hra.out (fun _ h => (AskAt.a h.1))) hS ?_
      try simp only [List.getElem_toArray, List.getElem_cons_succ, List.getElem_cons_zero, Act.put, List.setIfInBounds_toArray, List.set_cons_zero, List.set_cons_succ]
      refine wpAnyH_take (i := 32) (v := ?_) rfl (by kernel_rfl) (by kernel_rfl) (by kernel_rfl) (fun _ _ _ h => h) (Or.inl ⟨by rfl, ?_⟩) hS ?_
      rotate_left
      · intro v _; go_simp; first | done | with_reducible rfl
      rotate_left
      simp only [List.getElem_toArray, List.getElem_cons_succ, List.getElem_cons_zero, Act.put, List.setIfInBounds_toArray, List.set_cons_zero, List.set_cons_succ]
      refine wpAnyH_take (i := 33) (v := _) rfl (by kernel_rfl) (by kernel_rfl) (by kernel_rfl) (fun _ _ _ h => h) (yieldsIf_digA (by rfl) (.tmp 49) rfl ⟨w.heap.size,34,none⟩ rfl rb hrb.out (fun _ h => (AskAt.b h.1))) hS ?_
      try simp only [List.getElem_toArray, List.getElem_cons_succ, List.getElem_cons_zero, Act.put, List.setIfInBounds_toArray, List.set_cons_zero, List.set_cons_succ]
      refine wpAnyH_take (i := 34) (v := ?_) rfl (by kernel_rfl) (by kernel_rfl) (by kernel_rfl) (fun _ _ _ h => h) (Or.inl ⟨by rfl, ?_⟩) hS ?_
      rotate_left
      · intro v _; go_simp; first | done | with_reducible rfl
      rotate_left
      simp only [List.getElem_toArray, List.getElem_cons_succ, List.getElem_cons_zero, Act.put, List.setIfInBounds_toArray, List.set_cons_zero, List.set_cons_succ]
      refine wpAnyH_take (i := 35) (v := _) rfl (by kernel_rfl) (by kernel_rfl) (by kernel_rfl) (fun _ _ _ h => h) (yieldsIf_cell (by rfl) 61 (.tmp 51) rfl ⟨w.heap.size, 66, none⟩ rfl (.slice A1 ps.length c1) aggDs (fun _ h => (AskAt.c66 h.1))) hS ?_
      simp only [List.getElem_toArray, List.getElem_cons_succ, List.getElem_cons_zero, Act.put, List.setIfInBounds_toArray, List.set_cons_zero, List.set_cons_succ]
      refine wpAnyH_take (i := 37) (v := _) rfl (by kernel_rfl) (by kernel_rfl) (by kernel_rfl) (fun _ _ _ h => h) (yieldsIf_C (by rfl) (.tmp 5) rfl b5 rfl _ _ (fun _ h => h.2)) hS ?_
      try simp only [List.getElem_toArray, List.getElem_cons_succ, List.getElem_cons_zero, Act.put, List.setIfInBounds_toArray, List.set_cons_zero, List.set_cons_succ]
      refine wpAnyH_take (i := 38) (v := ?_) rfl (by kernel_rfl) (by kernel_rfl) (by kernel_rfl) (fun _ _ _ h => h) (Or.inl ⟨by rfl, ?_⟩) hS ?_
      rotate_left
      · intro v _; go_simp; first | done | with_reducible rfl
      rotate_left
      simp only [List.getElem_toArray, List.getElem_cons_succ, List.getElem_cons_zero, Act.put, List.setIfInBounds_toArray, List.set_cons_zero, List.set_cons_succ]
      refine wpAnyH_take (i := 39) (v := _) rfl (by kernel_rfl) (by kernel_rfl) (by kernel_rfl) (fun _ _ _ h => h) (yieldsIf_cell (by rfl) 3 (.tmp 55) rfl ⟨w.heap.size, 0, none⟩ rfl (.int .i64 I) agg3 (fun _ h => (AskAt.c0 h.1))) hS ?_
      simp only [List.getElem_toArray, List.getElem_cons_succ, List.getElem_cons_zero, Act.put, List.setIfInBounds_toArray, List.set_cons_zero, List.set_cons_succ]
      refine wpAnyH_take (i := 40) (v := ?_) rfl (by kernel_rfl) (by kernel_rfl) (by kernel_rfl) (fun _ _ _ h => h) (Or.inl ⟨by rfl, ?_⟩) hS ?_
      rotate_left
      · intro v _; go_simp; first | done | with_reducible rfl
      rotate_left
      simp only [List.getElem_toArray, List.getElem_cons_succ, List.getElem_cons_zero, Act.put, List.setIfInBounds_toArray, List.set_cons_zero, List.set_cons_succ]
      refine wpAnyH_take (i := 41) (v := _) rfl (by kernel_rfl) (by kernel_rfl) (by kernel_rfl) (fun _ _ _ h => h) (yieldsIf_cell (by rfl) 3 (.tmp 57) rfl ⟨w.heap.size, 1, none⟩ rfl (.int .i64 N) agg3 (fun _ h => (AskAt.c1 h.1))) hS ?_
      simp only [List.getElem_toArray, List.getElem_cons_succ, List.getElem_cons_zero, Act.put, List.setIfInBounds_toArray, List.set_cons_zero, List.set_cons_succ]
      refine wpAnyH_take (i := 42) (v := ?_) rfl (by kernel_rfl) (by kernel_rfl) (by kernel_rfl) (fun _ _ _ h => h) (Or.inl ⟨by rfl, ?_⟩) hS ?_
      rotate_left
      · intro v _; go_simp; first | done | with_reducible rfl
      rotate_left
      simp only [List.getElem_toArray, List.getElem_cons_succ, List.getElem_cons_zero, Act.put, List.setIfInBounds_toArray, List.set_cons_zero, List.set_cons_succ]
      refine wpAnyH_take (i := 43) (v := _) rfl (by kernel_rfl) (by kernel_rfl) (by kernel_rfl) (fun _ _ _ h => h) (yieldsIf_digA (by rfl) (.tmp 59) rfl ⟨w.heap.size,2,none⟩ rfl ra hra.out (fun _ h => (AskAt.a h.1))) hS ?_
      try simp only [List.getElem_toArray, List.getElem_cons_succ, List.getElem_cons_zero, Act.put, List.setIfInBounds_toArray, List.set_cons_zero, List.set_cons_succ]
      refine wpAnyH_take (i := 44) (v := ?_) rfl (by kernel_rfl) (by kernel_rfl) (by kernel_rfl) (fun _ _ _ h => h) (Or.inl ⟨by rfl, ?_⟩) hS ?_
      rotate_left
      · intro v _; go_simp; first | done | with_reducible rfl
      rotate_left
      simp only [List.getElem_toArray, List.getElem_cons_succ, List.getElem_cons_zero, Act.put, List.setIfInBounds_toArray, List.set_cons_zero, List.set_cons_succ]
      refine wpAnyH_take (i := 45) (v := _) rfl (by kernel_rfl) (by kernel_rfl) (by kernel_rfl) (fun _ _ _ h => h) (yieldsIf_digA (by rfl) (.tmp 61) rfl ⟨w.heap.size,34,none⟩ rfl rb hrb.out (fun _ h => (AskAt.b h.1))) hS ?_
      try simp only [List.getElem_toArray, List.getElem_cons_succ, List.getElem_cons_zero, Act.put, List.setIfInBounds_toArray, List.set_cons_zero, List.set_cons_succ]
      refine wpAnyH_take (i := 46) (v := ?_) rfl (by kernel_rfl) (by kernel_rfl) (by kernel_rfl) (fun _ _ _ h => h) (Or.inl ⟨by rfl, ?_⟩) hS ?_
      rotate_left
      · intro v _; go_simp; first | done | with_reducible rfl
      rotate_left
      simp only [List.getElem_toArray, List.getElem_cons_succ, List.getElem_cons_zero, Act.put, List.setIfInBounds_toArray, List.set_cons_zero, List.set_cons_succ]
      refine wpAnyH_take (i := 47) (v := _) rfl (by kernel_rfl) (by kernel_rfl) (by kernel_rfl) (fun _ _ _ h => h) (yieldsIf_cell (by rfl) 61 (.tmp 63) rfl ⟨w.heap.size, 66, none⟩ rfl (.slice A1 ps.length c1) aggDs (fun _ h => (AskAt.c66 h.1))) hS ?_
      simp only [List.getElem_toArray, List.getElem_cons_succ, List.getElem_cons_zero, Act.put, List.setIfInBounds_toArray, List.set_cons_zero, List.set_cons_succ]
      refine wpAnyH_all (rs := [36]) (by kernel_rfl) (by simp) ?_
      intro i hi
      simp only [List.mem_cons, List.not_mem_nil, or_false] at hi
      subst hi
      refine wpOp_wp rfl (by rfl) ?_
      go_simp
      refine (tCheckBridge_calls I N ra rb hra.out hrb.out ps A1 c1 x3 HD.out hd.out HK.out).mono ?_
      rintro e x4 ⟨rfl, hb_⟩
      replace HK := Lib.hid (HK.out.below hb_)
      replace HD := Lib.hid (CD.below HD.out hb_)
      replace HQ := Lib.hid (AskAt.below HQ.out hb_)
      replace HB := Lib.hid (HB.out.trans (Below.mono hb_ HB.out.size))
      replace HCc := Lib.hid (CAt.below HCc.out hb_)
      replace HC0 := Lib.hid (KC.below HC0.out hb_)
      clear hb_ hS
      have hS : SK w.heap.size I N ra rb (.slice A1 ps.length c1) b5 ak cC x4 := ⟨HQ.out, HCc.out⟩
      refine ⟨hS, ?_⟩
      try simp only [List.getElem_toArray, List.getElem_cons_succ, List.getElem_cons_zero, Act.put, List.setIfInBounds_toArray, List.set_cons_zero, List.set_cons_succ]
      refine wpAnyH_all (rs := [48]) (by kernel_rfl) (by simp) ?_
      intro i hi
      simp only [List.mem_cons, List.not_mem_nil, or_false] at hi
      subst hi
      refine wpOp_wp rfl (by rfl) ?_
      go_simp
      refine (hrb2.out x4 HD.out HC0.out).mono ?_
      rintro e x5 ⟨rfl, hb_⟩
      replace HK := Lib.hid (HK.out.below hb_)
      replace HD := Lib.hid (CD.below HD.out hb_)
      replace HQ := Lib.hid (AskAt.below HQ.out hb_)
      replace HB := Lib.hid (HB.out.trans (Below.mono hb_ HB.out.size))
      replace HCc := Lib.hid (CAt.below HCc.out hb_)
      replace HC0 := Lib.hid (KC.below HC0.out hb_)
      clear hb_ hS
      have hS : SK w.heap.size I N ra rb (.slice A1 ps.length c1) b5 ak cC x5 := ⟨HQ.out, HCc.out⟩
      refine ⟨hS, ?_⟩
      try simp only [List.getElem_toArray, List.getElem_cons_succ, List.getElem_cons_zero, Act.put, List.setIfInBounds_toArray, List.set_cons_zero, List.set_cons_succ]
      generalize bridgeV I N ra rb ps = V2
      refine wpAnyH_take (i := 49) (v := ?_) rfl (by kernel_rfl) (by kernel_rfl) (by kernel_rfl) (fun _ _ _ h => h) (Or.inl ⟨by rfl, ?_⟩) hS ?_
      rotate_left
      · intro v _; go_simp; first | done | with_reducible rfl
      rotate_left
      simp only [List.getElem_toArray, List.getElem_cons_succ, List.getElem_cons_zero, Act.put, List.setIfInBounds_toArray, List.set_cons_zero, List.set_cons_succ]
      refine wpAnyH_take (i := 50) (v := ?_) rfl (by kernel_rfl) (by kernel_rfl) (by kernel_rfl) (fun _ _ _ h => h) (Or.inl ⟨by rfl, ?_⟩) hS ?_
      rotate_left
      · intro v _; go_simp; first | done | with_reducible rfl
      rotate_left
      simp only [List.getElem_toArray, List.getElem_cons_succ, List.getElem_cons_zero, Act.put, List.setIfInBounds_toArray, List.set_cons_zero, List.set_cons_succ]
      refine wpAnyH_take (i := 51) (v := ?_) rfl (by kernel_rfl) (by kernel_rfl) (by kernel_rfl) (fun _ _ _ h => h) (Or.inl ⟨by rfl, ?_⟩) hS ?_
      rotate_left
      · intro v _; go_simp; first | done | with_reducible rfl
      rotate_left
      simp only [List.getElem_toArray, List.getElem_cons_succ, List.getElem_cons_zero, Act.put, List.setIfInBounds_toArray, List.set_cons_zero, List.set_cons_succ]
      refine wpAnyH_done (by kernel_rfl) ?_ _
      clear hS
      go_wp2_with fail
      go_ret
      exact ⟨rfl, HB.out⟩
end Go.Proofs.YtldpnmebjnkjeaaDoor.TrW
namespace Go.Proofs.YtldpnmebjnkjeaaDoor.ShaCard
open Go.ChangeShapes Go.WideShapes Go.ChangeAt Go.RowKit Go.Proofs.YtldpnmebjnkjeaaDoorW.PrintWords Go.Proofs.YtldpnmebjnkjeaaDoor.Sha
set_option linter.unusedVariables false
theorem gTab : Tryd.prog.globalNamed "cashbook/hash.k" = some 0 := by kernel_rfl
theorem gTabType : (Tryd.prog.globals[0]?).map (·.type) = some 136 := by kernel_rfl
theorem undT : Tryd.prog.underlying 136 = some (.array 64 28) := by kernel_rfl
theorem undU : Tryd.prog.underlying 28 = some (.int .u32) := by kernel_rfl
theorem cellsT : Tryd.prog.cellsOf 136 = 64 := by kernel_rfl
theorem cellsU : Tryd.prog.cellsOf 28 = 1 := by kernel_rfl
theorem tab_of {P : Program} {W : World} {name : String} {k : IntKind} {zs : List Int} {g : Nat} {t e : TypeId} {n : Nat}
    (hg : P.globalNamed name = some g) (hty : (P.globals[g]?).map (·.type) = some t) (ht : P.underlying t = some (.array n e)) (he : P.underlying e = some (.int k)) (hce : P.cellsOf e = 1) (hct : P.cellsOf t = n)
    (h : Lib.VarReads P W name (Lib.tabData k zs)) : Lib.TabIs P W name k zs := by
  obtain ⟨g', t', cs, fuel, p, hg', ht', hvar, hd⟩ := h
  obtain rfl := Option.some.inj (hg.symm.trans hg')
  obtain rfl := Option.some.inj (hty.symm.trans ht')
  unfold Lib.TabIs
  rw [hvar, ← Lib.cells_of_tab ht he hce hct hd]
def ks : List Int := [1116352408, 1899447441, 3049323471, 3921009573, 961987163, 1508970993, 2453635748, 2870763221, 3624381080, 310598401, 607225278, 1426881987, 1925078388, 2162078206, 2614888103, 3248222580, 3835390401, 4022224774, 264347078, 604807628, 770255983, 1249150122, 1555081692, 1996064986, 2554220882, 2821834349, 2952996808, 3210313671, 3336571891, 3584528711, 113926993, 338241895, 666307205, 773529912, 1294757372, 1396182291, 1695183700, 1986661051, 2177026350, 2456956037, 2730485921, 2820302411, 3259730800, 3345764771, 3516065817, 3600352804, 4094571909, 275423344, 430227734, 506948616, 659060556, 883997877, 958139571, 1322822218, 1537002063, 1747873779, 1955562222, 2024104815, 2227730452, 2361852424, 2428436474, 2756734187, 3204031479, 3329325298]
theorem ks_eq : (ks.map fun z => Value.int .u32 z) = kT.map wv := by rfl
theorem kAt {W : World} (h0 : laidMetH Tryd.prog [("cashbook/hash.k", Rows.laid_cashbook_hash_k)] W) : KAt W := by
  have h : laidMet Tryd.prog [("cashbook/hash.k", Rows.laid_cashbook_hash_k)] W := h0
  have hb : Lib.TabIs Tryd.prog W "cashbook/hash.k" .u32 ks := tab_of gTab gTabType undT undU cellsU cellsT (Lib.laidMet.reads h (.head _))
  unfold Lib.TabIs World.var? at hb
  simp only [gTab, Option.bind_some] at hb
  rw [ks_eq] at hb
  unfold KAt
  cases hq : W.heap[0]? with
  | none => rw [hq] at hb; cases hb
  | some o =>
    rw [hq] at hb
    cases o with
    | cells cs t fr =>
      obtain rfl := Option.some.inj hb
      exact ⟨t, fr, rfl⟩
    | _ => cases hb
/-- A world for the witnesses: the settled one, the table holding what its initialiser lays. -/
noncomputable def laidWorld (os : Os) : World :=
  { World.holding Tryd.prog os ⟨#[], #[], []⟩ with heap := (World.holding Tryd.prog os ⟨#[], #[], []⟩).heap.modify 0 fun
      | .cells _ t frozen => .cells #[.int .u32 1116352408, .int .u32 1899447441, .int .u32 3049323471, .int .u32 3921009573, .int .u32 961987163, .int .u32 1508970993, .int .u32 2453635748, .int .u32 2870763221, .int .u32 3624381080, .int .u32 310598401, .int .u32 607225278, .int .u32 1426881987, .int .u32 1925078388, .int .u32 2162078206, .int .u32 2614888103, .int .u32 3248222580, .int .u32 3835390401, .int .u32 4022224774, .int .u32 264347078, .int .u32 604807628, .int .u32 770255983, .int .u32 1249150122, .int .u32 1555081692, .int .u32 1996064986, .int .u32 2554220882, .int .u32 2821834349, .int .u32 2952996808, .int .u32 3210313671, .int .u32 3336571891, .int .u32 3584528711, .int .u32 113926993, .int .u32 338241895, .int .u32 666307205, .int .u32 773529912, .int .u32 1294757372, .int .u32 1396182291, .int .u32 1695183700, .int .u32 1986661051, .int .u32 2177026350, .int .u32 2456956037, .int .u32 2730485921, .int .u32 2820302411, .int .u32 3259730800, .int .u32 3345764771, .int .u32 3516065817, .int .u32 3600352804, .int .u32 4094571909, .int .u32 275423344, .int .u32 430227734, .int .u32 506948616, .int .u32 659060556, .int .u32 883997877, .int .u32 958139571, .int .u32 1322822218, .int .u32 1537002063, .int .u32 1747873779, .int .u32 1955562222, .int .u32 2024104815, .int .u32 2227730452, .int .u32 2361852424, .int .u32 2428436474, .int .u32 2756734187, .int .u32 3204031479, .int .u32 3329325298] t frozen
      | o => o }
end Go.Proofs.YtldpnmebjnkjeaaDoor.ShaCard
namespace Go.Proofs.YtldpnmebjnkjeaaDoor.Op
open Go.RowKit Go.Proofs.YtldpnmebjnkjeaaDoorW.PrintWords Go.ChangeShapes
set_option linter.unusedVariables false
set_option linter.unusedSimpArgs false
set_option linter.unusedSectionVars false

def Opens {α : Type} (P : Program) (t : TypeId) (d : Kd α) (I : α → Prop) : Prop :=
  ∀ {H : Type} (enc : TypeId × Value → H) (w : World) (base : Nat) (spare : Nat → Bool) (held : Bool) (fuel : Nat) (cs : List Value) (x : DataW H × List MemPlace), DataW.trod enc P w base spare held fuel t cs = some x → ∃ a, d.K w a cs ∧ I a

variable {α β : Type} {P : Program} {t : TypeId}

theorem opens_int {k : IntKind} (ht : P.underlying t = some (.int k)) : Opens P t (Kd.int k) (fun x => (Lit.int k x).wf = true) := by
  intro H enc w base spare held fuel cs x h
  cases fuel with
  | zero => simp [DataW.trod] at h
  | succ n =>
    unfold DataW.trod at h
    rw [ht] at h
    split at h <;> simp_all
    rename_i k' n _
    obtain ⟨⟨rfl, hw⟩, _⟩ := h
    exact ⟨n, rfl, hw⟩
theorem cells_of {w : World} {base : Nat} {a : Addr} {n : Nat} {cs : List Value} (h : w.cells? base a n = some cs) : cs.length = n ∧ ∀ i u, cs[i]? = some u → w.cell? (a.add i) = some u := by
  obtain ⟨_, hl, hat⟩ := World.cells?_some h
  refine ⟨hl, fun i u hu => ?_⟩
  have hi : i < n := by
    have := (List.getElem?_eq_some_iff.1 hu).1; omega
  rw [hat i hi]; exact hu
theorem opens_slice {e : TypeId} {d : Kd α} {I : α → Prop} (ht : P.underlying t = some (.slice e)) (o : Opens P e d I) (hc : P.cellsOf e = d.sz) :
    Opens P t (Kd.slice e d) (fun l => l.length ≤ maxLen ∧ ∀ x ∈ l, I x) := by
  intro H enc w base spare held fuel cs x h
  rcases DataW.trod_slice ht h with ⟨rfl, _⟩ | ⟨a, len, cap, elems, rest, n, _, rfl, _, _, hl, hm, hlen, hel, hsp⟩
  · exact ⟨[], ⟨none, 0, rfl, Nat.le_refl _, rfl, Nat.zero_le _, fun h => absurd h (by simp)⟩, Nat.zero_le _, fun _ h => by cases h⟩
  · have hall : ∀ i, i < len → ∃ (y : α) (c : List Value), c.length = d.sz ∧ d.K w y c ∧ I y ∧ ∀ j u, c[j]? = some u → w.cell? (a.add (i * d.sz + j)) = some u := by
      intro i hi
      have h1 := hel i hi
      have h2 : elems[i]? = some (elems[i]'(by omega)) := List.getElem?_eq_getElem (by omega)
      rw [h2] at h1
      obtain ⟨c, hcs, htr⟩ := Option.bind_eq_some_iff.1 h1
      obtain ⟨y, hK, hI⟩ := o enc w base spare held n c _ htr
      rw [hc] at hcs
      obtain ⟨hcl, hat⟩ := cells_of hcs
      refine ⟨y, c, hcl, hK, hI, fun j u hu => ?_⟩
      have := hat j u hu
      rw [← this]
      congr 1
      unfold Addr.add
      by_cases h0 : i * d.sz = 0 <;> by_cases h1 : j = 0 <;> simp [h0, h1]
      all_goals try omega
      all_goals (intro h2; omega)
    have hex : ∃ l : List α, l.length = len ∧ ∀ i y, l[i]? = some y → ∃ c : List Value, c.length = d.sz ∧ d.K w y c ∧ I y ∧ ∀ j u, c[j]? = some u → w.cell? (a.add (i * d.sz + j)) = some u := by
      clear hel hlen h hl hm hsp
      induction len with
      | zero => exact ⟨[], rfl, fun i y h => by simp at h⟩
      | succ m ih =>
        obtain ⟨l, hl, hy⟩ := ih (fun i hi => hall i (by omega))
        obtain ⟨y, c, h1, h2, h3, h4⟩ := hall m (by omega)
        refine ⟨l ++ [y], by simp [hl], fun i z hz => ?_⟩
        by_cases hi : i < l.length
        · rw [List.getElem?_append_left hi] at hz; exact hy i z hz
        · have : i = m := by
            have := (List.getElem?_eq_some_iff.1 hz).1; simp at this; omega
          subst this
          rw [List.getElem?_append_right (by omega)] at hz
          simp [hl] at hz
          subst hz
          exact ⟨c, h1, h2, h3, h4⟩
    obtain ⟨l, hl', hy⟩ := hex
    subst hl'
    refine ⟨l, ⟨some a, cap, rfl, hl, rfl, ?_, fun _ => ⟨a, rfl, fun j p hp => ?_⟩⟩, ?_, fun x hx => ?_⟩
    · unfold maxLen at hm; omega
    · obtain ⟨c, h1, h2, _, h4⟩ := hy j p hp
      exact ⟨c, h1, h2, h4⟩
    · omega
    · obtain ⟨i, hi⟩ := List.mem_iff_getElem?.1 hx
      obtain ⟨c, _, _, h3, _⟩ := hy i x hi
      exact h3

/-- Fields one behind the other. -/
def OpensAt {α : Type} (P : Program) (fs : List Field) (off : Nat) (d : Kd α) (I : α → Prop) : Prop :=
  ∀ {H : Type} (enc : TypeId × Value → H) (w : World) (base : Nat) (spare : Nat → Bool) (held : Bool) (fuel : Nat) (cs : List Value), (∀ f ∈ fs, ∃ y, DataW.trod enc P w base spare held fuel f.type ((cs.drop f.offset).take (P.cellsOf f.type)) = some y) → ∃ a, d.K w a ((cs.drop off).take d.sz) ∧ I a
theorem opensAt_one {f : Field} {d : Kd α} {I : α → Prop} (o : Opens P f.type d I) (hc : P.cellsOf f.type = d.sz) : OpensAt P [f] f.offset d I := by
  intro H enc w base spare held fuel cs h
  obtain ⟨y, hy⟩ := h f (by simp)
  rw [hc] at hy
  exact o enc w base spare held fuel _ y hy
theorem opensAt_cons {f : Field} {fs : List Field} {d : Kd α} {d' : Kd β} {I : α → Prop} {I' : β → Prop} {off' : Nat} (o : Opens P f.type d I) (hc : P.cellsOf f.type = d.sz) (ho : off' = f.offset + d.sz) (o' : OpensAt P fs off' d' I') :
    OpensAt P (f :: fs) f.offset (Kd.pair d d') (fun x => I x.1 ∧ I' x.2) := by
  intro H enc w base spare held fuel cs h
  obtain ⟨a, ha, hI⟩ := opensAt_one o hc enc w base spare held fuel cs (fun g hg => h g (by simp at hg; simp [hg]))
  obtain ⟨b, hb, hI'⟩ := o' enc w base spare held fuel cs (fun g hg => h g (by simp [hg]))
  refine ⟨(a, b), ⟨_, _, ?_, ha, hb⟩, hI, hI'⟩
  show (cs.drop f.offset).take (d.sz + d'.sz) = _
  rw [ho, ← List.drop_drop, ← List.take_append_drop d.sz (List.take (d.sz + d'.sz) (List.drop f.offset cs)), List.take_take, List.drop_take]
  simp
theorem opens_struct {fs : Array Field} {d : Kd α} {I : α → Prop} (ht : P.underlying t = some (.struct fs)) (o : OpensAt P fs.toList 0 d I) (hc : P.cellsOf t = d.sz) (f : β → α) (g : α → β) (hfg : ∀ x, f (g x) = x) :
    Opens P t (Kd.iso d f) (fun x => I (f x)) := by
  intro H enc w base spare held fuel cs x h
  obtain ⟨xs, n, _, _, hlen, hxl, hf⟩ := DataW.trod_struct ht h
  obtain ⟨a, ha, hI⟩ := o enc w base spare held n cs (fun fl hfl => by
    obtain ⟨i, hi⟩ := List.mem_iff_getElem?.1 hfl
    have hi' : fs[i]? = some fl := by rw [← Array.getElem?_toList]; exact hi
    have h1 := hf i fl hi'
    have hlt : i < xs.length := by
      have := (Array.getElem?_eq_some_iff.1 hi').1; omega
    rw [List.getElem?_eq_getElem hlt] at h1
    exact ⟨_, h1⟩)
  rw [List.drop_zero, List.take_of_length_le (by omega)] at ha
  exact ⟨g a, by show d.K w (f (g a)) cs; rw [hfg]; exact ha, by show I (f (g a)); rw [hfg]; exact hI⟩
theorem opens_arr {e n : Nat} {d : Kd α} {I : α → Prop} (ht : P.underlying t = some (.array n e)) (o : Opens P e d I) (hc : P.cellsOf e = d.sz) (hct : P.cellsOf t = n * d.sz) (hs : 0 < d.sz) :
    Opens P t (Kd.arr n d hs) (fun l => ∀ x ∈ l, I x) := by
  intro H enc w base spare held fuel cs x h
  obtain ⟨xs, m, _, _, hlen, hxl, hf⟩ := DataW.trod_array ht h
  have hall : ∀ i, i < n → ∃ y, d.K w y ((cs.drop (i * d.sz)).take d.sz) ∧ I y := by
    intro i hi
    have h1 := hf i hi
    rw [List.getElem?_eq_getElem (by omega), hc] at h1
    exact o enc w base spare held m _ _ h1
  have hex : ∀ k, k ≤ n → ∃ l : List α, l.length = k ∧ ∀ (i : Nat) (y : α), l[i]? = some y → d.K w y ((cs.drop (i * d.sz)).take d.sz) ∧ I y := by
    intro k
    induction k with
    | zero => intro _; exact ⟨[], rfl, fun i y h => by simp at h⟩
    | succ k ih =>
      intro hk
      obtain ⟨l, hl, hy⟩ := ih (by omega)
      obtain ⟨y, h1, h2⟩ := hall k (by omega)
      refine ⟨l ++ [y], by simp [hl], fun i z hz => ?_⟩
      by_cases hi : i < l.length
      · rw [List.getElem?_append_left hi] at hz; exact hy i z hz
      · have : i = k := by
          have := (List.getElem?_eq_some_iff.1 hz).1; simp at this; omega
        subst this
        rw [List.getElem?_append_right (by omega)] at hz
        simp [hl] at hz
        subst hz
        exact ⟨h1, h2⟩
  obtain ⟨l, hl, hy⟩ := hex n (Nat.le_refl _)
  refine ⟨l, ⟨hl, by rw [hlen, hct, hl], fun j p hp => (hy j p hp).1⟩, fun x hx => ?_⟩
  obtain ⟨i, hi⟩ := List.mem_iff_getElem?.1 hx
  exact (hy i x hi).2
end Go.Proofs.YtldpnmebjnkjeaaDoor.Op
namespace Go.Proofs.YtldpnmebjnkjeaaDoor.ShaOpen
open Go.RowKit Go.Proofs.YtldpnmebjnkjeaaDoorW.PrintWords Go.ChangeShapes Go.WideShapes
set_option linter.unusedVariables false
set_option linter.unusedSimpArgs false

theorem und : Tryd.prog.underlying 24 = some (.array 32 5) := by kernel_rfl
set_option maxRecDepth 100000 in
theorem opens_dig : Op.Opens Tryd.prog 24 (Kd.arr 32 (Kd.int .u8) (by decide)) (fun l => ∀ x ∈ l, (Lit.int .u8 x).wf = true) :=
  Op.opens_arr und (Op.opens_int Tryd.underlying5) (by kernel_rfl) (by kernel_rfl) (by decide)
end Go.Proofs.YtldpnmebjnkjeaaDoor.ShaOpen
namespace Go.Proofs.YtldpnmebjnkjeaaDoor.Ref10
open Go.RowKit Go.Proofs.YtldpnmebjnkjeaaDoorW.PrintWords Go.Proofs.YtldpnmebjnkjeaaDoor.PH1 Go.Proofs.YtldpnmebjnkjeaaDoor Go.Proofs.YtldpnmebjnkjeaaDoorW.PrintLast Go.Proofs.YtldpnmebjnkjeaaDoorW.PrintMore
open Go.Proofs.YtldpnmebjnkjeaaDoor.Sha (V8 wv RowU RowX takeP feedP tailL tailL_len digL digL_len sumL sumL_len endP endP_len z32_len hashV fedV)
set_option linter.unusedVariables false
set_option linter.unusedSimpArgs false

set_option maxHeartbeats 4000000 in
set_option maxRecDepth 100000 in
theorem rsum_calls (s : ByteArray) (hs : s.size ≤ 1048576) (w : World) :
    Calls Tryd.prog 24 #[.string s] w fun e w' => e = .returned (.agg (Lib.byteCells (sumL s.data.toList)).toArray) ∧ Below w.heap.size w w' := by
  have hE : endP (feedP Sha.v0 s.data.toList).1 (feedP Sha.v0 s.data.toList).2 s.size = sumL s.data.toList := by
    unfold sumL; rw [Lib.size_eq]
  go_enter Tryd.func24, Tryd.ntmps24
  go_wp2_with fail
  generalize hw1 : w.alloc _ = w1
  have HR : Hid (w1.heap[w.heap.size]? = some (.cells (Lib.byteCells (List.replicate 32 0)).toArray 24 (0, 0))) := by
    rw [← hw1]; exact Lib.hid (heap_alloc_last _ _)
  have HB : Hid (Below w.heap.size w w1) := by
    rw [← hw1]; exact Lib.hid ((Below.refl _ _).alloc (Nat.le_refl _) _)
  clear hw1
  refine (rmake_calls w1).mono ?_
  rintro e w2 ⟨ak, c, rfl, hk, hb⟩
  replace HR := Lib.hid (blk_below HR.out hb)
  replace HB := Lib.hid (HB.out.trans (hb.mono HB.out.size))
  have hk2 := Shut.mk hk
  clear hb hk
  go_wp2_with fail
  refine (rof_calls ak c Sha.v0 s hs w2 hk2.out).mono ?_
  rintro e w3 ⟨rfl, hb⟩
  rw [hE]
  replace HR := Lib.hid (blk_below HR.out hb)
  replace HB := Lib.hid (HB.out.trans (hb.mono HB.out.size))
  have hl := Lib.hid (sumL_len s.data.toList)
  clear hb hE
  generalize hD : sumL s.data.toList = D at hl ⊢
  replace hD := Lib.hid hD
  go_wp2_with (refine wpList_store_dig rfl (.tmp 2) (.tmp 5) rfl w.heap.size rfl D hl.out rfl _ _ HR.out (by rw [List.size_toArray, Lib.byteCells, List.length_map, z32_len]) ?_; intro w9 h9 _ hB9)
  refine bodyPost_ret (v := .agg (Lib.byteCells D).toArray) ?_ rfl ⟨by rw [hD.out], hB9 HB.out (by omega)⟩
  simp [results, Tryd.results24, asAddr, run_load_dig h9.out hl.out, Act.put]
def HA (v : V8) (rest : ByteArray) (n : Int) : Array Value := (v.list.map wv ++ [Value.string rest, Value.int .i64 n]).toArray
def HAt (b : Nat) (v : V8) (rest : ByteArray) (n : Int) (w : World) : Prop := w.heap[b]? = some (.cells (HA v rest n) 31 (0, 0))
namespace HAt
variable {b : Nat} {v : V8} {rest : ByteArray} {n : Int} {w w1 : World}
theorem below (h : HAt b v rest n w) (hb : Below w.heap.size w w1) : HAt b v rest n w1 := blk_below h hb
theorem range (h : HAt b v rest n w) : w.rangeAt b 0 (v.list.map wv) := RowX.range (t := 31) (R := [.string rest, .int .i64 n]) h
end HAt
end Go.Proofs.YtldpnmebjnkjeaaDoor.Ref10
namespace Go.Proofs.YtldpnmebjnkjeaaDoor.ShaOpen
open Go.RowKit Go.Proofs.YtldpnmebjnkjeaaDoorW.PrintWords Go.ChangeShapes Go.WideShapes
open Go.Proofs.YtldpnmebjnkjeaaDoor.Sha (V8 wv)
open Go.Proofs.YtldpnmebjnkjeaaDoor.Ref10 (HA)
set_option linter.unusedVariables false
set_option linter.unusedSimpArgs false

theorem okWide_str {P : Program} {w : World} {r : Reach} {base : Nat} {t : TypeId} {fs : Array Field} {v : Value} (ht : P.underlying t = some (.struct fs)) (h : Value.okWide P w r base t v) : ∃ cs, v = .agg cs ∧ cs.size = P.cellsOf t := by
  simp only [Value.okWide, ht] at h
  obtain ⟨cs, h1, h2, _⟩ := h
  exact ⟨cs, h1, h2⟩
end Go.Proofs.YtldpnmebjnkjeaaDoor.ShaOpen
namespace Go.Proofs.YtldpnmebjnkjeaaDoor.TreeOpen
open Go.RowKit Go.Proofs.YtldpnmebjnkjeaaDoorW.PrintWords Go.ChangeShapes Go.WideShapes
open Go.Proofs.YtldpnmebjnkjeaaDoor.TrW
set_option linter.unusedVariables false
set_option linter.unusedSimpArgs false

theorem opens_dig : Op.Opens Tryd.prog 24 kDig (fun x => x.length = 32) := by
  intro H enc w base spare held fuel cs x h
  obtain ⟨xs, hK, hI⟩ := Op.opens_arr (P := Tryd.prog) (t := 24) (e := 5) (n := 32) (d := Kd.int .u8) (show Tryd.prog.underlying 24 = some (.array 32 5) by kernel_rfl) (Op.opens_int (show Tryd.prog.underlying 5 = some (.int .u8) by kernel_rfl)) (by kernel_rfl) (by kernel_rfl) (by decide) enc w base spare held fuel cs x h
  have e : (xs.map fun z => UInt8.ofNat z.toNat).map (fun b => (b.toNat : Int)) = xs := by
    rw [List.map_map]
    refine (List.map_congr_left (g := fun z => z) fun z hz => ?_).trans (List.map_id' xs)
    have hw2 : IntKind.u8.min ≤ z ∧ z ≤ IntKind.u8.max := by simpa [Lit.wf] using hI z hz
    have hw3 : (0 : Int) ≤ z ∧ z ≤ 255 := hw2
    show ((UInt8.ofNat z.toNat).toNat : Int) = z
    rw [UInt8.toNat_ofNat']
    omega
  refine ⟨xs.map fun z => UInt8.ofNat z.toNat, ?_, ?_⟩
  · show (Kd.arr 32 (Kd.int .u8) (by decide)).K w ((xs.map fun z => UInt8.ofNat z.toNat).map (fun b => (b.toNat : Int))) cs
    rw [e]
    exact hK
  · obtain ⟨hl, _⟩ := Kd.arr_cells (hs := by decide) hK
    rw [List.length_map, hl]
def kAsk : Kd (Int × Int × List UInt8 × List UInt8 × List (List UInt8)) := Kd.iso (Kd.pair (Kd.int .i64) (Kd.pair (Kd.int .i64) (Kd.pair kDig (Kd.pair kDig (Kd.slice 24 kDig))))) (fun x => x)
theorem opens_digs : Op.Opens Tryd.prog 61 (Kd.slice 24 kDig) (fun l => l.length ≤ maxLen ∧ ∀ x ∈ l, x.length = 32) :=
  Op.opens_slice Tryd.underlying61 opens_dig (by kernel_rfl)
set_option maxRecDepth 100000 in
theorem opens_ask : Op.Opens Tryd.prog 73 kAsk (fun x => (Lit.int .i64 x.1).wf = true ∧ (Lit.int .i64 x.2.1).wf = true ∧ x.2.2.1.length = 32 ∧ x.2.2.2.1.length = 32 ∧ (x.2.2.2.2.length ≤ maxLen ∧ ∀ y ∈ x.2.2.2.2, y.length = 32)) :=
  Op.opens_struct Tryd.underlying73 (Op.opensAt_cons (Op.opens_int Tryd.underlying3) (by kernel_rfl) rfl (Op.opensAt_cons (Op.opens_int Tryd.underlying3) (by kernel_rfl) rfl (Op.opensAt_cons opens_dig (by kernel_rfl) rfl (Op.opensAt_cons opens_dig (by kernel_rfl) rfl (Op.opensAt_one opens_digs (by kernel_rfl)))))) (by kernel_rfl) (fun x => x) (fun p => p) (fun _ => rfl)
set_option maxRecDepth 100000 in
theorem open_ask {W : World} {r : Reach} {base : Nat} {v : Value} (hv : Value.okWide Tryd.prog W r base 73 v) {H : Type} {enc : TypeId × Value → H} {b0 : Nat} {spare : Nat → Bool} {held : Bool} {fuel : Nat} {x : DataW H × List MemPlace}
    (h : DataW.trod enc Tryd.prog W b0 spare held fuel 73 v.cells.toList = some x) : ∃ (i n : Int) (a b : List UInt8) (A : Option Addr) (c : Nat) (l : List (List UInt8)), v = .agg (askC i n a b (.slice A l.length c)).toArray ∧ a.length = 32 ∧ b.length = 32 ∧ CD A l W ∧ l.length ≤ c ∧ (-9223372036854775808 ≤ i ∧ i ≤ 9223372036854775807) ∧ (-9223372036854775808 ≤ n ∧ n ≤ 9223372036854775807) := by
  obtain ⟨cs, rfl, hcs⟩ := ShaOpen.okWide_str Tryd.underlying73 hv
  obtain ⟨⟨i, n, a, b, l⟩, hK, hI1, hI2, hI3, hI4, hI5⟩ := opens_ask enc W b0 spare held fuel _ x h
  obtain ⟨c1, d1, hc1, hK1, hR1⟩ := hK
  obtain ⟨c2, d2, hc2, hK2, hR2⟩ := hR1
  obtain ⟨c3, d3, hc3, hK3, hR3⟩ := hR2
  obtain ⟨c4, c5, hc4, hK4, hK5⟩ := hR3
  have e1 : c1 = [Value.int .i64 i] := hK1
  have e2 : c2 = [Value.int .i64 n] := hK2
  have e3 := (kDig_K hK3).2
  have e4 := (kDig_K hK4).2
  obtain ⟨A, c, e5, hc, hC⟩ := hK5
  have e : (Value.agg cs).cells.toList = cs.toList := rfl
  have hi : IntKind.i64.min ≤ i ∧ i ≤ IntKind.i64.max := by simpa [Lit.wf] using hI1
  have hn : IntKind.i64.min ≤ n ∧ n ≤ IntKind.i64.max := by simpa [Lit.wf] using hI2
  refine ⟨i, n, a, b, A, c, l, ?_, hI3, hI4, hC, hc, hi, hn⟩
  congr 1
  apply Array.toList_inj.1
  rw [e] at hc1
  rw [hc1, hc2, hc3, hc4, e1, e2, e3, e4, e5]
  simp [askC]
end Go.Proofs.YtldpnmebjnkjeaaDoor.TreeOpen
namespace Go.Proofs.YtldpnmebjnkjeaaDoor.treeChecks
open Go.ChangeShapes Go.WideShapes Go.ChangeAt Go.RowKit Go.Proofs.YtldpnmebjnkjeaaDoorW.PrintWords Go.Proofs.YtldpnmebjnkjeaaDoor.Sha
open Go.ChangeMaps (open_string shut_string)
set_option linter.unusedVariables false
set_option linter.unusedSimpArgs false
theorem own : ownKnob Tryd.prog.godebug = none := by kernel_rfl
theorem laidOut : laidOutB Tryd.prog = true := by kernel_rfl
set_option maxRecDepth 100000 in
set_option maxHeartbeats 1000000 in
theorem contract (H : Type) (enc : TypeId × Value → H) (W : World) (base : Nat) (args : Array Value) (ds gs : List (DataW H)) (before : List MemPlace)
    (hval : ∀ (j : Nat) t v, Tryd.f9.params[j]? = some t → args[j]? = some v → Value.okWide Tryd.prog W .any base t v)
    (hW : DataW.Whole enc Tryd.prog Tryd.f9.params.toList Rows.treeChecksSpec.vars false W args.toList ds gs before) (hL : laidMetH Tryd.prog Rows.treeChecksRow.laid W) :
    Calls Tryd.prog 9 args W fun e W' => ∃ v, e = .returned v ∧ Rows.treeChecksSpec.post enc Tryd.prog Tryd.f9 false true false false W args v W' := by
  have hW' := hW
  obtain ⟨p, q, hA0, hV, rfl, hfz, hnd⟩ := hW
  have hA : DataW.TrodAll enc Tryd.prog W 0 (fun _ => true) true Tryd.f9.params.toList args.toList ds p := hA0
  rw [Tryd.params9] at hA hval
  obtain ⟨v0, vs0, d0, ds0, p0, q0, hargs, rfl, rfl, h0, r0⟩ := trodAll_cons hA
  obtain ⟨v1, vs1, d1, ds1, p1, q1, rfl, rfl, rfl, h1, r1⟩ := trodAll_cons r0
  obtain ⟨rfl, rfl, rfl⟩ := trodAll_nil r1
  obtain rfl : args = #[v0, v1] := by cases args; simp_all
  obtain ⟨rfl, rfl⟩ := trodVars_none hV
  obtain ⟨a0, rfl, rfl, rfl, y0⟩ := open_string Tryd.underlying9 (hval 0 9 v0 rfl rfl) h0
  have k1 := h1
  have lt1 : ∀ x ∈ p1, x.block < W.heap.size := by obtain ⟨m, hm⟩ := k1; exact DataW.trod_lt m _ _ _ hm
  obtain ⟨fuel1, hf1⟩ := h1
  obtain ⟨i1, n1, x1, y1, A1, c1, l1, rfl, hx1, hy1, hD1, hd1, hi1, hn1⟩ := TreeOpen.open_ask (hval 1 73 v1 rfl rfl) hf1
  have hT := ShaCard.kAt hL
  refine (TrW.checks_law a0 i1 n1 x1 y1 hx1 hy1 A1 c1 l1 W hD1 hd1 hT).mono fun e W' ⟨he, bel⟩ => ?_
  subst he
  exact ⟨_, rfl, _, _, _, [], _, [], hW', trodAll_mk1 (shut_bool Tryd.underlying4 _), (trodAll_cons_mk (shut_string Tryd.underlying9 y0) (trodAll_cons_mk (Below.trod laidOut (by kernel_rfl) (of_decide_eq_true (by kernel_rfl)) k1 bel lt1) trodAll_mk0)), rfl, bel.frame _, fun h => by cases h⟩
noncomputable def laidWorld (os : Os) : World := ShaCard.laidWorld os
def wit : Array Value := #[.string ByteArray.empty, .agg #[.int .i64 0, .int .i64 0, .int .u8 0, .int .u8 0, .int .u8 0, .int .u8 0, .int .u8 0, .int .u8 0, .int .u8 0, .int .u8 0, .int .u8 0, .int .u8 0, .int .u8 0, .int .u8 0, .int .u8 0, .int .u8 0, .int .u8 0, .int .u8 0, .int .u8 0, .int .u8 0, .int .u8 0, .int .u8 0, .int .u8 0, .int .u8 0, .int .u8 0, .int .u8 0, .int .u8 0, .int .u8 0, .int .u8 0, .int .u8 0, .int .u8 0, .int .u8 0, .int .u8 0, .int .u8 0, .int .u8 0, .int .u8 0, .int .u8 0, .int .u8 0, .int .u8 0, .int .u8 0, .int .u8 0, .int .u8 0, .int .u8 0, .int .u8 0, .int .u8 0, .int .u8 0, .int .u8 0, .int .u8 0, .int .u8 0, .int .u8 0, .int .u8 0, .int .u8 0, .int .u8 0, .int .u8 0, .int .u8 0, .int .u8 0, .int .u8 0, .int .u8 0, .int .u8 0, .int .u8 0, .int .u8 0, .int .u8 0, .int .u8 0, .int .u8 0, .int .u8 0, .int .u8 0, .slice none 0 0]]
theorem laid_met (os : Os) : laidMet Tryd.prog Rows.treeChecksRow.laid ((laidWorld os).forCall (fun _ _ => 0) ⟨#[], wit, []⟩).memory :=
  laidMet_of_run' 8 (by kernel_rfl) (by kernel_rfl)
theorem reads (os : Os) {H : Type} (enc : TypeId × Value → H) : ∃ places, DataW.whole enc Tryd.prog ((laidWorld os).forCall (fun _ _ => 0) ⟨#[], wit, []⟩).memory Tryd.f9.params.toList Rows.treeChecksSpec.vars false wit.toList 8 = some ([.lit (.string []), .agg [.lit (.int .i64 0), .lit (.int .i64 0), .agg [.lit (.int .u8 0), .lit (.int .u8 0), .lit (.int .u8 0), .lit (.int .u8 0), .lit (.int .u8 0), .lit (.int .u8 0), .lit (.int .u8 0), .lit (.int .u8 0), .lit (.int .u8 0), .lit (.int .u8 0), .lit (.int .u8 0), .lit (.int .u8 0), .lit (.int .u8 0), .lit (.int .u8 0), .lit (.int .u8 0), .lit (.int .u8 0), .lit (.int .u8 0), .lit (.int .u8 0), .lit (.int .u8 0), .lit (.int .u8 0), .lit (.int .u8 0), .lit (.int .u8 0), .lit (.int .u8 0), .lit (.int .u8 0), .lit (.int .u8 0), .lit (.int .u8 0), .lit (.int .u8 0), .lit (.int .u8 0), .lit (.int .u8 0), .lit (.int .u8 0), .lit (.int .u8 0), .lit (.int .u8 0)], .agg [.lit (.int .u8 0), .lit (.int .u8 0), .lit (.int .u8 0), .lit (.int .u8 0), .lit (.int .u8 0), .lit (.int .u8 0), .lit (.int .u8 0), .lit (.int .u8 0), .lit (.int .u8 0), .lit (.int .u8 0), .lit (.int .u8 0), .lit (.int .u8 0), .lit (.int .u8 0), .lit (.int .u8 0), .lit (.int .u8 0), .lit (.int .u8 0), .lit (.int .u8 0), .lit (.int .u8 0), .lit (.int .u8 0), .lit (.int .u8 0), .lit (.int .u8 0), .lit (.int .u8 0), .lit (.int .u8 0), .lit (.int .u8 0), .lit (.int .u8 0), .lit (.int .u8 0), .lit (.int .u8 0), .lit (.int .u8 0), .lit (.int .u8 0), .lit (.int .u8 0), .lit (.int .u8 0), .lit (.int .u8 0)], .nil]], [], places) :=
  ⟨[], by kernel_rfl⟩

set_option maxRecDepth 100000 in
theorem lifted (os : Os) (started : os.Started) (H : Type) (enc : TypeId × Value → H) (F : Stop.Interp) :
    ReturnsInHanded {} Tryd.checked os 9 .any ((OpenSpec.ofChange Rows.treeChecksSpec).preRow enc Tryd.prog Tryd.f9 Rows.treeChecksRow.domain false Rows.treeChecksRow.laid) (((OpenSpec.ofChange Rows.treeChecksSpec).at F).post enc Tryd.prog Tryd.f9 false true false false) := by
  obtain ⟨places, hx⟩ := reads os enc
  refine returnsInHanded_of_row (C := Tryd.checked) (s := OpenSpec.ofChange Rows.treeChecksSpec) own started (by kernel_rfl) Tryd.func9
    (witness_row_at (enc := enc) (C := Tryd.checked) false (laidWorld os) wit rfl (by kernel_rfl) (by kernel_rfl) (by kernel_rfl)
      (OpenSpec.preRow_of_cond 8 hx (by kernel_rfl) (fun k hk => by cases hk) (by kernel_rfl) (laid_met os))) ?_
  intro W base args ds gs before hval hW _ _ _ hL _ _
  exact contract H enc W base args ds gs before hval hW hL

theorem said : Rows.TreeChecksSaid :=
  OpenClaim.holds_of_cond 9 Tryd.f9 rfl rfl rfl rfl rfl rfl rfl ⟨rfl, rfl, rfl, rfl, rfl⟩ rfl rfl rfl rfl rfl (by kernel_rfl) Tryd.func9 (by kernel_rfl)
    (of_decide_eq_true (by kernel_rfl)) (by unfold Func.isWrapper; first | (rw [if_pos (by decide +kernel)]; kernel_rfl) | (rw [if_neg (by decide +kernel)]; exact ⟨rfl, rfl⟩))
    (fun os started H enc _ F => by rw [OpenClaim.pre_eq_preRow]; exact lifted os started H enc F)

theorem plain (f : FuncId) (fn : Func) (hf : Tryd.pinned.checked.prog.funcNamed "cashbook/cashbooklaw11.TreeChecks" = some f) (hfn : Tryd.pinned.checked.prog.funcs[f]? = some fn) :
    false = Tryd.pinned.checked.prog.looks [] ∧ ∀ (j : Nat) t, fn.params[j]? = some t → Tryd.pinned.checked.prog.wantsStandIn t = false := by
  obtain rfl : f = 9 := Option.some.inj ((show Tryd.prog.funcNamed "cashbook/cashbooklaw11.TreeChecks" = some 9 by kernel_rfl).symm.trans hf) |>.symm
  obtain rfl : fn = Tryd.f9 := (Option.some.inj (Tryd.func9.symm.trans hfn)).symm
  refine ⟨by kernel_rfl, fun j t ht => ?_⟩
  rw [Tryd.params9] at ht
  have hm := Array.mem_of_getElem? ht
  simp at hm
  rcases hm with rfl | rfl
  · exact (show Tryd.prog.wantsStandIn 9 = false by kernel_rfl)
  · exact (show Tryd.prog.wantsStandIn 73 = false by kernel_rfl)

/-- The card. -/
theorem card : Rows.TreeChecksCardSaid :=
  Claim7.holds_tied_plain_at .later [] _ _ _ _ said (fun _ h => by cases h) (by kernel_rfl) (fun _ h => by cases h) treeChecks_row_tie rfl ⟨rfl, rfl⟩ (by kernel_rfl) rfl plain (by kernel_rfl)
end Go.Proofs.YtldpnmebjnkjeaaDoor.treeChecks
namespace Go.Proofs.YtldpnmebjnkjeaaDoor
theorem treeChecks_holds : Rows.TreeChecksCardSaid := treeChecks.card
#print axioms treeChecks_holds
end Go.Proofs.YtldpnmebjnkjeaaDoor
