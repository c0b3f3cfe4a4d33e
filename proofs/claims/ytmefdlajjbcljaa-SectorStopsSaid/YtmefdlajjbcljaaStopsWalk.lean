import Derived.Test.YtmefdlajjbcljaaSealsWalk
import Derived.Test.YtmefdlajjbcljaaSecJ
import Derived.Deep.CutRange
import Derived.Deep.DeepCutAuto
import Derived.Outline
namespace Go.Proofs.Ytmefdlajjbcljaa
open Go.RowKit Go.Proofs.Ytmefdlajjbcljaa.PS8 Go.Proofs.YtmefdlajjbcljaaW.PrintWords
set_option linter.unusedVariables false
set_option linter.unusedSimpArgs false

/-- Three texts in an array's variable. -/
def Last3 (g : Nat) (z : Nat → ByteArray) (w : World) : Prop := w.heap[g]? = some (.cells #[.string (z 0), .string (z 1), .string (z 2)] 51 (0, 0))
def upd (z : Nat → ByteArray) (j : Nat) (x : ByteArray) : Nat → ByteArray := fun i => if i = j then x else z i
namespace Last3
variable {g : Nat} {z : Nat → ByteArray} {w w1 : World}
theorem below (h : Last3 g z w) (hb : Below w.heap.size w w1) : Last3 g z w1 := blk_below h hb
theorem far (h : Last3 g z w) {p : Addr} (hp : g ≠ p.block) (u : Value) : Last3 g z (w.setCell p u) := by
  unfold Last3 at *; rw [Below.heap_setCell _ _ _ _ hp]; exact h
theorem far3 (h : Last3 g z w) {b : Nat} (hg : g ≠ b) (u0 u1 u2 : Value) : Last3 g z (((w.setCell ⟨b, 0, none⟩ u0).setCell ⟨b, 1, none⟩ u1).setCell ⟨b, 2, none⟩ u2) :=
  ((h.far (p := ⟨b, 0, none⟩) hg _).far (p := ⟨b, 1, none⟩) hg _).far (p := ⟨b, 2, none⟩) hg _
theorem lt (h : Last3 g z w) : g < w.heap.size := blk_lt h
theorem c0 (h : Last3 g z w) : w.cell? ⟨g, 0, none⟩ = some (.string (z 0)) := by rw [cell_of_row _ _ _ _ _ _ h]; rfl
theorem c1 (h : Last3 g z w) : w.cell? ⟨g, 1, none⟩ = some (.string (z 1)) := by rw [cell_of_row _ _ _ _ _ _ h]; rfl
theorem c2 (h : Last3 g z w) : w.cell? ⟨g, 2, none⟩ = some (.string (z 2)) := by rw [cell_of_row _ _ _ _ _ _ h]; rfl
theorem cell (h : Last3 g z w) (j : Nat) (hj : j < 3) : w.cell? ⟨g, j, none⟩ = some (.string (z j)) := by
  match j, hj with
  | 0, _ => exact h.c0
  | 1, _ => exact h.c1
  | 2, _ => exact h.c2
theorem f (h : Last3 g z w) (i : Nat) : w.frozen? ⟨g, i, none⟩ = false := frozen_of_row w g i _ _ h
theorem set (h : Last3 g z w) (j : Nat) (hj : j < 3) (x : ByteArray) : Last3 g (upd z j x) (w.setCell ⟨g, j, none⟩ (.string x)) := by
  unfold Last3 at *
  rw [World.setCell]
  simp only [Array.getElem?_modify, if_true, h, Option.map_some]
  match j, hj with
  | 0, _ => rfl
  | 1, _ => rfl
  | 2, _ => rfl
end Last3
/-- The texts are those. -/
def LastOK (z : Nat → ByteArray) (L : List ByteArray) : Prop := ∀ i, i < 3 → z i = rdOf ByteArray.empty L (i : Int)
theorem LastOK.upd {z : Nat → ByteArray} {L : List ByteArray} (h : LastOK z L) (hL : L.length = 3) (j : Nat) (hj : j < 3) (x : ByteArray) : LastOK (upd z j x) (L.set j x) := by
  intro i hi
  rw [rd_set x (by omega) (by omega)]
  show (if i = j then x else z i) = _
  by_cases e : i = j
  · rw [if_pos e, if_pos e]
  · rw [if_neg e, if_neg e, h i hi]
set_option maxRecDepth 100000 in
theorem idx3 (x : Nat → ByteArray) (j : Nat) (hj : j < 3) (w : World) : (Instr.index 51 (.agg #[.string (x 0), .string (x 1), .string (x 2)]) (.int .i64 j)).run Try.prog w = .ok (.string (x j)) w := by
  match j, hj with
  | 0, _ => rfl
  | 1, _ => rfl
  | 2, _ => rfl
theorem tmod20 (x : Int) : -20 < x.tmod 20 ∧ x.tmod 20 < 20 :=
  ⟨by have := Int.lt_tmod_of_pos x (show (0 : Int) < 20 by omega); omega, Int.tmod_lt_of_pos x (show (0 : Int) < 20 by omega)⟩
set_option maxHeartbeats 4000000 in
set_option maxRecDepth 100000 in
theorem stops_calls (fuse : Int) (A : Option Addr) (c : Nat) (l : List ByteArray) (w : World) (hr : Kd.C Kd.string w A l.length l) (hc : l.length ≤ c) (hm : l.length ≤ 9223372036854775807) :
    Calls Try.prog 6 #[.int .i64 fuse, .slice A l.length c] w (AllTrue w) := by
  have HR := Lib.hid hr
  clear hr
  obtain ⟨t1, t2⟩ := tmod20 fuse
  obtain ⟨q, hq⟩ : ∃ q : Nat, (fuse.tmod 20 + 20) % 20 = (q : Int) := ⟨((fuse.tmod 20 + 20) % 20).toNat, by omega⟩
  have q20 : q < 20 := by omega
  have hw : wrap64 (fuse.tmod 20 + 20) = fuse.tmod 20 + 20 := w64 (by omega) (by omega)
  have hq2 : (fuse.tmod 20 + 20).tmod 20 = (q : Int) := by rw [Int.tmod_eq_emod_of_nonneg (by omega)]; exact hq
  clear t1 t2
  obtain ⟨M, hM⟩ : ∃ M : Nat, min (l.length : Int) 40 = (M : Int) := ⟨min l.length 40, by omega⟩
  have hM2 : max (M : Int) 0 = M := by omega
  have hMl : M ≤ l.length := by omega
  have hM40 : M ≤ 40 := by omega
  have HI := Lib.hid (Inv.new 3 (q : Int) (by omega) (by omega) (by omega))
  have hnew := Lib.hid (fun W => new_i 3 (q : Int) (by omega) (by omega) (by omega) W)
  go_enter Try.func6, Try.ntmps6
  go_wp2_with fail
  refine (hnew.out _).mono ?_
  rintro e w1 ⟨A0, c0, A1, c1, rfl, ho, hb⟩
  have HV := Lib.hid (DV.mk_new ho hb HI.out)
  have hle := hb.size
  clear ho hb hnew HI
  go_wp2_with fail
  have hv := HV.out.lt
  have HL : Hid (Last3 (w1.heap.size + 1) (fun _ => ⟨#[]⟩) ((w1.alloc (Obj.cells #[.slice A0 3 c0, .slice A1 3 c1, .int .i64 (q : Int)] 30)).alloc (Obj.cells #[.string ⟨#[]⟩, .string ⟨#[]⟩, .string ⟨#[]⟩] 51))) := Lib.hid (Sec.heap_at1 _ _ _)
  have HV2 := Lib.hid (HV.out.step ((Below.refl _ _).alloc (Nat.le_refl _) (Obj.cells #[.string ⟨#[]⟩, .string ⟨#[]⟩, .string ⟨#[]⟩] 51)))
  generalize (w1.alloc (Obj.cells #[.slice A0 3 c0, .slice A1 3 c1, .int .i64 (q : Int)] 30)).alloc (Obj.cells #[.string ⟨#[]⟩, .string ⟨#[]⟩, .string ⟨#[]⟩] 51) = w2 at HL HV2 ⊢
  clear HV hv
  obtain ⟨b, hb⟩ : ∃ b, b = w1.heap.size := ⟨_, rfl⟩
  rw [← hb] at HL HV2 hle ⊢
  clear hb
  go_loopw [7, 35] (fun dn i wr => ∃ (k d : Nat) (A0 : Option Addr) (c0 : Nat) (A1 : Option Addr) (c1 : Nat) (S N L : List ByteArray) (z : Nat → ByteArray), k ≤ M ∧ i = .int .i64 k ∧ d ≤ q ∧ dn = .int .i64 d ∧ Hid (DV w b 3 A0 c0 A1 c1 S N ((q - d : Nat) : Int) L wr) ∧ Hid (Last3 (b + 1) z wr) ∧ Hid (LastOK z L)) (fun _ i _ => M - (intOf i).toNat)
  case atStart => exact ⟨0, 0, A0, c0, A1, c1, _, _, _, fun _ => ⟨#[]⟩, Nat.zero_le _, rfl, Nat.zero_le _, rfl, HV2, HL, Lib.hid (fun i hi => (rd_rep _ hi).symm)⟩
  case round =>
    clear HV2 HL
    obtain ⟨k, d, A0, c0, A1, c1, S, N, L, z, hk, rfl, hd, rfl, HV, HL, HZ⟩ := hrel
    by_cases hlt : k < M
    · obtain ⟨ad, hA, hcell⟩ := Kd.at_string (Kd.C_below HR.out HV.out.below) (k : Int) (by omega) (by omega)
      subst hA
      rw [Int.toNat_natCast] at hcell
      generalize rdOf ByteArray.empty l (k : Int) = s at hcell
      have hsl : (s.extract 0 (min (s.size : Int) 58).toNat).size ≤ 58 := by rw [ByteArray.size_extract]; omega
      obtain ⟨j, hj⟩ : ∃ j : Nat, (k : Int) % 3 = (j : Int) := ⟨k % 3, by omega⟩
      have hj3 : j < 3 := by omega
      have hbw := HV.out.lt
      have hlw := HL.out.lt
      have hle2 := HV.out.le
      by_cases hf : d < q
      · clear hk
        have hk : k ≤ M := by omega
        have x0 := HV.out.box.c0
        have x1 := HV.out.box.c1
        have x2 := HV.out.box.c2
        have xf := HV.out.box.f
        have l0 := HL.out.c0
        have l1 := HL.out.c1
        have l2 := HL.out.c2
        have lf := HL.out.f
        go_wp2_with fail
        clear x0 x1 x2 xf l0 l1 l2 lf
        obtain ⟨x, hx⟩ : ∃ x, x = s.extract 0 (min (s.size : Int) 58).toNat := ⟨_, rfl⟩
        rw [← hx] at hsl ⊢
        clear hx
        have hbu : burnI ((q - d : Nat) : Int) = ((q - (d + 1) : Nat) : Int) := by unfold burnI; rw [if_pos (by omega)]; omega
        have hIw := Lib.hid (HV.out.inv.write j hj3 x hsl)
        have hIs := Lib.hid HV.out.inv.sync
        have hwr := HV.out.write j hj3 x hsl (by omega)
        rw [hbu] at hwr hIw hIs
        replace hwr := Lib.hid hwr
        have hdq : (d : Int) < (q : Int) := by omega
        have hL3 := Lib.hid HV.out.inv.hL
        by_cases h4 : (k : Int) % 4 = 3
        · refine hwr.out.mono ?_
          rintro e w3 ⟨A2, c2, B2, e2, rfl, ho, hb_⟩
          have hs3 := hb_.size
          have HX : Hid (BoxD w3.heap.size (.slice A2 3 c2) (.slice B2 3 e2) (.int .i64 ((q - (d + 1) : Nat) : Int)) (w3.alloc (.cells #[.slice A2 3 c2, .slice B2 3 e2, .int .i64 ((q - (d + 1) : Nat) : Int)] 30))) := Lib.hid (heap_alloc_new w3 _)
          replace HV := Lib.hid ((HV.out.step hb_).step ((Below.refl _ _).alloc (Nat.le_refl _) (.cells #[.slice A2 3 c2, .slice B2 3 e2, .int .i64 ((q - (d + 1) : Nat) : Int)] 30)))
          replace HL := Lib.hid ((HL.out.below hb_).below ((Below.refl _ _).alloc (Nat.le_refl _) (.cells #[.slice A2 3 c2, .slice B2 3 e2, .int .i64 ((q - (d + 1) : Nat) : Int)] 30)))
          have hx3 : w3.heap.size < (w3.alloc (.cells #[.slice A2 3 c2, .slice B2 3 e2, .int .i64 ((q - (d + 1) : Nat) : Int)] 30)).heap.size := by simp
          clear ho hb_
          have hsy := HV.out.sync (by omega)
          rw [hbu] at hsy
          replace hsy := Lib.hid hsy
          clear hbu
          have x0 := HV.out.box.c0
          have x1 := HV.out.box.c1
          have x2 := HV.out.box.c2
          have xf := HV.out.box.f
          have l0 := HL.out.c0
          have l1 := HL.out.c1
          have l2 := HL.out.c2
          have lf := HL.out.f
          go_wp2_with fail
          refine hsy.out.mono ?_
          rintro e w4 ⟨A4, c4, B4, e4, rfl, ho, hb_⟩
          clear x0 x1 x2 xf l0 l1 l2 lf
          have hs4 := hb_.size
          replace HX := Lib.hid (HX.out.below hb_)
          replace HV := Lib.hid (HV.out.step hb_)
          replace HL := Lib.hid (HL.out.below hb_)
          have HO := Lib.hid ho
          clear ho hb_ hsy hwr
          obtain ⟨bx, hbx⟩ : ∃ bx, bx = w3.heap.size := ⟨_, rfl⟩
          rw [← hbx] at HX hx3 hs3 ⊢
          clear hbx
          have n1 : bx ≠ b := by omega
          have n2 : b ≠ bx := by omega
          have n3 : b + 1 ≠ bx := by omega
          have n4 : bx ≠ b + 1 := by omega
          have hx4 : bx < w4.heap.size := by omega
          have hb4 : b < w4.heap.size := by omega
          have x0 := HV.out.box.c0
          have x1 := HV.out.box.c1
          have x2 := HV.out.box.c2
          have xf := HV.out.box.f
          have l0 := HL.out.c0
          have l1 := HL.out.c1
          have l2 := HL.out.c2
          have lf := HL.out.f
          have y0 := HX.out.c0
          have y1 := HX.out.c1
          have y2 := HX.out.c2
          have yf := HX.out.f
          go_upto_region 21 with fail
          clear x0 x1 x2 xf l0 l1 l2 lf
          clear y0 y1 y2 yf
          have HVn := Lib.hid (DV.put (HV.out.box.far3 n2 (.slice A4 3 c4) (.slice B4 3 e4) (.int .i64 ((q - (d + 1) : Nat) : Int))) (below_set3 HV.out.below (by omega) (.slice A4 3 c4) (.slice B4 3 e4) (.int .i64 ((q - (d + 1) : Nat) : Int))) hle2 (by omega) (HO.out.other3 hx3 (.slice A4 3 c4) (.slice B4 3 e4) (.int .i64 ((q - (d + 1) : Nat) : Int))) hIs.out)
          have HLn := Lib.hid ((HL.out.far3 n3 (.slice A4 3 c4) (.slice B4 3 e4) (.int .i64 ((q - (d + 1) : Nat) : Int))).far3 (b := b) (by omega) (.slice A4 3 c4) (.slice B4 3 e4) (.int .i64 ((q - (d + 1) : Nat) : Int)))
          clear HV HL HX HO hIw hIs
          have HV := HVn
          have HL := HLn
          clear HVn HLn
          generalize (((((w4.setCell ⟨bx, 0, none⟩ _).setCell ⟨bx, 1, none⟩ _).setCell ⟨bx, 2, none⟩ _).setCell ⟨b, 0, none⟩ _).setCell ⟨b, 1, none⟩ _).setCell ⟨b, 2, none⟩ _ = w5 at HV HL ⊢
          try replace h4 := Lib.hid h4
          replace hj := Lib.hid hj
          have x0 := HV.out.box.c0
          have x1 := HV.out.box.c1
          have x2 := HV.out.box.c2
          have xf := HV.out.box.f
          have l0 := HL.out.c0
          have l1 := HL.out.c1
          have l2 := HL.out.c2
          have lf := HL.out.f
          go_wp2_with fail
          clear x0 x1 x2 xf l0 l1 l2 lf
          go_loopw [88] (fun i wr => ∃ t : Nat, t ≤ 3 ∧ i = .int .i64 t ∧ Hid (DV w b 3 A4 c4 B4 e4 (nowL S N) (List.replicate S.length ⟨#[]⟩) (((q - (d + 1)) : Nat) : Int) L wr) ∧ Hid (Last3 (b + 1) z wr)) (fun i _ => 3 - (intOf i).toNat)
          case atStart => exact ⟨0, by omega, rfl, HV, HL⟩
          case round =>
            clear HV HL
            obtain ⟨t, ht, rfl, HV, HL⟩ := hrel
            by_cases hlt3 : t < 3
            · have hix := fun W => idx3 z t hlt3 W
              have hrd := HV.out.read t hlt3
              rw [← HZ.out t hlt3] at hrd
              replace hrd := Lib.hid hrd
              have x0 := HV.out.box.c0
              have x1 := HV.out.box.c1
              have x2 := HV.out.box.c2
              have xf := HV.out.box.f
              have l0 := HL.out.c0
              have l1 := HL.out.c1
              have l2 := HL.out.c2
              have lf := HL.out.f
              go_wp2_with fail
              refine hrd.out.mono ?_
              rintro e w9 ⟨rfl, hb_⟩
              clear x0 x1 x2 xf l0 l1 l2 lf
              replace HV := Lib.hid (HV.out.step hb_)
              replace HL := Lib.hid (HL.out.below hb_)
              clear hb_
              have hne := str_ne (rfl : z t = z t)
              go_wp2_with fail
              go_roundw
              case rel => exact ⟨t + 1, by omega, by go_num, HV, HL⟩
              case measure => simp [intOf]; omega
            · obtain rfl : t = 3 := by omega
              have x0 := HV.out.box.c0
              have x1 := HV.out.box.c1
              have x2 := HV.out.box.c2
              have xf := HV.out.box.f
              have l0 := HL.out.c0
              have l1 := HL.out.c1
              have l2 := HL.out.c2
              have lf := HL.out.f
              go_wp2_with fail
              go_roundw
              case rel => exact ⟨k + 1, (d + 1), A4, c4, B4, e4, (nowL S N), (List.replicate S.length ⟨#[]⟩), L, z, by omega, by go_num, by omega, by first | rfl | go_num, by first | exact HV | exact (by rw [hq0.out]; exact HV), HL, HZ⟩
              case measure => simp [intOf]; omega
        · have h4b : ((k : Int) % 4 == 3) = false := beq_eq_false_iff_ne.2 h4
          have h4c : ((k : Int) % 4 != 3) = true := bne_iff_ne.2 h4
          replace h4 := Lib.hid h4
          refine hwr.out.mono ?_
          rintro e w3 ⟨A2, c2, B2, e2, rfl, ho, hb_⟩
          have hs3 := hb_.size
          have HV1 := Lib.hid (HV.out.step hb_)
          replace HL := Lib.hid (HL.out.below hb_)
          have HO := Lib.hid ho
          clear ho hb_ hwr hbu HV
          have HV := HV1
          clear HV1
          have n1 : w3.heap.size ≠ b := by omega
          have n2 : b ≠ w3.heap.size := by omega
          have n3 : b + 1 ≠ w3.heap.size := by omega
          have n4 : w3.heap.size ≠ b + 1 := by omega
          have hb3 : b < w3.heap.size := by omega
          have hb4 : b + 1 < w3.heap.size := by omega
          have x0 := HV.out.box.c0
          have x1 := HV.out.box.c1
          have x2 := HV.out.box.c2
          have xf := HV.out.box.f
          have l0 := HL.out.c0
          have l1 := HL.out.c1
          have l2 := HL.out.c2
          have lf := HL.out.f
          have lj := HL.out.cell j hj3
          go_upto_region 21 with fail
          clear x0 x1 x2 xf l0 l1 l2 lf
          clear lj
          have HVn := Lib.hid ((DV.putL HV.out.box HV.out.below hle2 (by omega) HO.out hIw.out (b + 1) j (by omega) hlw (by omega) (.string x)).step ((Below.refl _ _).alloc (Nat.le_refl _) (.cells #[.slice A2 3 c2, .slice B2 3 e2, .int .i64 ((q - (d + 1) : Nat) : Int)] 30)))
          have HZn := Lib.hid (HZ.out.upd hL3.out j hj3 x)
          have HLn := Lib.hid (((HL.out.far3 (b := b) (by omega) (.slice A2 3 c2) (.slice B2 3 e2) (.int .i64 ((q - (d + 1) : Nat) : Int))).set j hj3 x).below ((Below.refl _ _).alloc (Nat.le_refl _) (.cells #[.slice A2 3 c2, .slice B2 3 e2, .int .i64 ((q - (d + 1) : Nat) : Int)] 30)))
          clear HV HL HO hIw hIs HZ
          have HV := HVn
          have HL := HLn
          have HZ := HZn
          clear HVn HLn HZn
          generalize upd z j x = z2 at HL HZ
          generalize ((((w3.setCell ⟨b, 0, none⟩ _).setCell ⟨b, 1, none⟩ _).setCell ⟨b, 2, none⟩ _).setCell ⟨b + 1, j, none⟩ _).alloc _ = w5 at HV HL ⊢
          try replace h4 := Lib.hid h4
          replace hj := Lib.hid hj
          have x0 := HV.out.box.c0
          have x1 := HV.out.box.c1
          have x2 := HV.out.box.c2
          have xf := HV.out.box.f
          have l0 := HL.out.c0
          have l1 := HL.out.c1
          have l2 := HL.out.c2
          have lf := HL.out.f
          go_wp2_with fail
          clear x0 x1 x2 xf l0 l1 l2 lf
          go_loopw [88] (fun i wr => ∃ t : Nat, t ≤ 3 ∧ i = .int .i64 t ∧ Hid (DV w b 3 A2 c2 B2 e2 S (N.set j (sealB x)) (((q - (d + 1)) : Nat) : Int) (L.set j x) wr) ∧ Hid (Last3 (b + 1) z2 wr)) (fun i _ => 3 - (intOf i).toNat)
          case atStart => exact ⟨0, by omega, rfl, HV, HL⟩
          case round =>
            clear HV HL
            obtain ⟨t, ht, rfl, HV, HL⟩ := hrel
            by_cases hlt3 : t < 3
            · have hix := fun W => idx3 z2 t hlt3 W
              have hrd := HV.out.read t hlt3
              rw [← HZ.out t hlt3] at hrd
              replace hrd := Lib.hid hrd
              have x0 := HV.out.box.c0
              have x1 := HV.out.box.c1
              have x2 := HV.out.box.c2
              have xf := HV.out.box.f
              have l0 := HL.out.c0
              have l1 := HL.out.c1
              have l2 := HL.out.c2
              have lf := HL.out.f
              go_wp2_with fail
              refine hrd.out.mono ?_
              rintro e w9 ⟨rfl, hb_⟩
              clear x0 x1 x2 xf l0 l1 l2 lf
              replace HV := Lib.hid (HV.out.step hb_)
              replace HL := Lib.hid (HL.out.below hb_)
              clear hb_
              have hne := str_ne (rfl : z2 t = z2 t)
              go_wp2_with fail
              go_roundw
              case rel => exact ⟨t + 1, by omega, by go_num, HV, HL⟩
              case measure => simp [intOf]; omega
            · obtain rfl : t = 3 := by omega
              have x0 := HV.out.box.c0
              have x1 := HV.out.box.c1
              have x2 := HV.out.box.c2
              have xf := HV.out.box.f
              have l0 := HL.out.c0
              have l1 := HL.out.c1
              have l2 := HL.out.c2
              have lf := HL.out.f
              go_wp2_with fail
              go_roundw
              case rel => exact ⟨k + 1, (d + 1), A2, c2, B2, e2, S, (N.set j (sealB x)), (L.set j x), z2, by omega, by go_num, by omega, by first | rfl | go_num, by first | exact HV | exact (by rw [hq0.out]; exact HV), HL, HZ⟩
              case measure => simp [intOf]; omega
      · have hdq : ¬ (d : Int) < (q : Int) := by omega
        have hq0 : q - d = 0 := by omega
        have HVd : Hid (DV w b 3 A0 c0 A1 c1 S N 0 L wr) := Lib.hid (by have := HV.out; rw [hq0] at this; exact this)
        clear HV
        have HV := HVd
        clear HVd
        replace hq0 := Lib.hid hq0
        have x0 := HV.out.box.c0
        have x1 := HV.out.box.c1
        have x2 := HV.out.box.c2
        have xf := HV.out.box.f
        have l0 := HL.out.c0
        have l1 := HL.out.c1
        have l2 := HL.out.c2
        have lf := HL.out.f
        go_wp2_with fail
        clear x0 x1 x2 xf l0 l1 l2 lf
        obtain ⟨x, hx⟩ : ∃ x, x = s.extract 0 (min (s.size : Int) 58).toNat := ⟨_, rfl⟩
        rw [← hx] at hsl ⊢
        clear hx
        refine (HV.out.write_down j hj3 x hsl).mono ?_
        rintro e w3 ⟨A2, c2, B2, e2, rfl, ho, hb_⟩
        clear ho
        have hs3 := hb_.size
        have HVo := HV
        have HLo := HL
        clear HV HL
        by_cases h4 : (k : Int) % 4 = 3
        · have HX : Hid (BoxD w3.heap.size (.slice A2 0 c2) (.slice B2 0 e2) (.int .i64 0) (w3.alloc (.cells #[.slice A2 0 c2, .slice B2 0 e2, .int .i64 0] 30))) := Lib.hid (heap_alloc_new w3 _)
          have HV := Lib.hid ((HVo.out.step hb_).step ((Below.refl _ _).alloc (Nat.le_refl _) (.cells #[.slice A2 0 c2, .slice B2 0 e2, .int .i64 0] 30)))
          have HL := Lib.hid ((HLo.out.below hb_).below ((Below.refl _ _).alloc (Nat.le_refl _) (.cells #[.slice A2 0 c2, .slice B2 0 e2, .int .i64 0] 30)))
          have HBw := Lib.hid (hb_.alloc hs3 (.cells #[.slice A2 0 c2, .slice B2 0 e2, .int .i64 0] 30))
          have hx3 : w3.heap.size < (w3.alloc (.cells #[.slice A2 0 c2, .slice B2 0 e2, .int .i64 0] 30)).heap.size := by simp
          clear hb_
          have hsy := Lib.hid HV.out.sync_down
          have x0 := HV.out.box.c0
          have x1 := HV.out.box.c1
          have x2 := HV.out.box.c2
          have xf := HV.out.box.f
          have l0 := HL.out.c0
          have l1 := HL.out.c1
          have l2 := HL.out.c2
          have lf := HL.out.f
          go_wp2_with fail
          refine hsy.out.mono ?_
          rintro e w4 ⟨A4, c4, B4, e4, rfl, ho, hb_⟩
          clear x0 x1 x2 xf l0 l1 l2 lf
          have hs4 := hb_.size
          have HBn := Lib.hid (HBw.out.trans (Below.mono hb_ HBw.out.size))
          replace HX := Lib.hid (HX.out.below hb_)
          replace HV := Lib.hid (HV.out.step hb_)
          replace HL := Lib.hid (HL.out.below hb_)
          clear ho hb_ hsy HBw
          obtain ⟨bx, hbx⟩ : ∃ bx, bx = w3.heap.size := ⟨_, rfl⟩
          rw [← hbx] at HX hx3 hs3 ⊢
          clear hbx
          have n1 : bx ≠ b := by omega
          have n2 : b ≠ bx := by omega
          have n3 : b + 1 ≠ bx := by omega
          have n4 : bx ≠ b + 1 := by omega
          have hx4 : bx < w4.heap.size := by omega
          have hb4 : b < w4.heap.size := by omega
          have x0 := HV.out.box.c0
          have x1 := HV.out.box.c1
          have x2 := HV.out.box.c2
          have xf := HV.out.box.f
          have l0 := HL.out.c0
          have l1 := HL.out.c1
          have l2 := HL.out.c2
          have lf := HL.out.f
          have y0 := HX.out.c0
          have y1 := HX.out.c1
          have y2 := HX.out.c2
          have yf := HX.out.f
          go_upto_region 21 with fail
          clear x0 x1 x2 xf l0 l1 l2 lf
          clear y0 y1 y2 yf HV HL HX
          have HV := Lib.hid (HVo.out.step (below_set3 HBn.out (g := bx) (by omega) (.slice A4 0 c4) (.slice B4 0 e4) (.int .i64 0)))
          have HL := Lib.hid (HLo.out.below (below_set3 HBn.out (g := bx) (by omega) (.slice A4 0 c4) (.slice B4 0 e4) (.int .i64 0)))
          clear HBn HVo HLo
          generalize ((w4.setCell ⟨bx, 0, none⟩ _).setCell ⟨bx, 1, none⟩ _).setCell ⟨bx, 2, none⟩ _ = w5 at HV HL ⊢
          try replace h4 := Lib.hid h4
          replace hj := Lib.hid hj
          have x0 := HV.out.box.c0
          have x1 := HV.out.box.c1
          have x2 := HV.out.box.c2
          have xf := HV.out.box.f
          have l0 := HL.out.c0
          have l1 := HL.out.c1
          have l2 := HL.out.c2
          have lf := HL.out.f
          go_wp2_with fail
          clear x0 x1 x2 xf l0 l1 l2 lf
          go_loopw [88] (fun i wr => ∃ t : Nat, t ≤ 3 ∧ i = .int .i64 t ∧ Hid (DV w b 3 A0 c0 A1 c1 S N (((0 : Nat) : Nat) : Int) L wr) ∧ Hid (Last3 (b + 1) z wr)) (fun i _ => 3 - (intOf i).toNat)
          case atStart => exact ⟨0, by omega, rfl, HV, HL⟩
          case round =>
            clear HV HL
            obtain ⟨t, ht, rfl, HV, HL⟩ := hrel
            by_cases hlt3 : t < 3
            · have hix := fun W => idx3 z t hlt3 W
              have hrd := HV.out.read t hlt3
              rw [← HZ.out t hlt3] at hrd
              replace hrd := Lib.hid hrd
              have x0 := HV.out.box.c0
              have x1 := HV.out.box.c1
              have x2 := HV.out.box.c2
              have xf := HV.out.box.f
              have l0 := HL.out.c0
              have l1 := HL.out.c1
              have l2 := HL.out.c2
              have lf := HL.out.f
              go_wp2_with fail
              refine hrd.out.mono ?_
              rintro e w9 ⟨rfl, hb_⟩
              clear x0 x1 x2 xf l0 l1 l2 lf
              replace HV := Lib.hid (HV.out.step hb_)
              replace HL := Lib.hid (HL.out.below hb_)
              clear hb_
              have hne := str_ne (rfl : z t = z t)
              go_wp2_with fail
              go_roundw
              case rel => exact ⟨t + 1, by omega, by go_num, HV, HL⟩
              case measure => simp [intOf]; omega
            · obtain rfl : t = 3 := by omega
              have x0 := HV.out.box.c0
              have x1 := HV.out.box.c1
              have x2 := HV.out.box.c2
              have xf := HV.out.box.f
              have l0 := HL.out.c0
              have l1 := HL.out.c1
              have l2 := HL.out.c2
              have lf := HL.out.f
              go_wp2_with fail
              go_roundw
              case rel => exact ⟨k + 1, d, A0, c0, A1, c1, S, N, L, z, by omega, by go_num, by omega, by first | rfl | go_num, by first | exact HV | exact (by rw [hq0.out]; exact HV), HL, HZ⟩
              case measure => simp [intOf]; omega
        · have h4b : ((k : Int) % 4 == 3) = false := beq_eq_false_iff_ne.2 h4
          have h4c : ((k : Int) % 4 != 3) = true := bne_iff_ne.2 h4
          replace h4 := Lib.hid h4
          have HV := Lib.hid ((HVo.out.step hb_).step ((Below.refl _ _).alloc (Nat.le_refl _) (.cells #[.slice A2 0 c2, .slice B2 0 e2, .int .i64 0] 30)))
          have HL := Lib.hid ((HLo.out.below hb_).below ((Below.refl _ _).alloc (Nat.le_refl _) (.cells #[.slice A2 0 c2, .slice B2 0 e2, .int .i64 0] 30)))
          clear hb_ HVo HLo
          go_upto_region 21 with fail
          generalize w3.alloc _ = w5 at HV HL ⊢
          try replace h4 := Lib.hid h4
          replace hj := Lib.hid hj
          have x0 := HV.out.box.c0
          have x1 := HV.out.box.c1
          have x2 := HV.out.box.c2
          have xf := HV.out.box.f
          have l0 := HL.out.c0
          have l1 := HL.out.c1
          have l2 := HL.out.c2
          have lf := HL.out.f
          go_wp2_with fail
          clear x0 x1 x2 xf l0 l1 l2 lf
          go_loopw [88] (fun i wr => ∃ t : Nat, t ≤ 3 ∧ i = .int .i64 t ∧ Hid (DV w b 3 A0 c0 A1 c1 S N (((0 : Nat) : Nat) : Int) L wr) ∧ Hid (Last3 (b + 1) z wr)) (fun i _ => 3 - (intOf i).toNat)
          case atStart => exact ⟨0, by omega, rfl, HV, HL⟩
          case round =>
            clear HV HL
            obtain ⟨t, ht, rfl, HV, HL⟩ := hrel
            by_cases hlt3 : t < 3
            · have hix := fun W => idx3 z t hlt3 W
              have hrd := HV.out.read t hlt3
              rw [← HZ.out t hlt3] at hrd
              replace hrd := Lib.hid hrd
              have x0 := HV.out.box.c0
              have x1 := HV.out.box.c1
              have x2 := HV.out.box.c2
              have xf := HV.out.box.f
              have l0 := HL.out.c0
              have l1 := HL.out.c1
              have l2 := HL.out.c2
              have lf := HL.out.f
              go_wp2_with fail
              refine hrd.out.mono ?_
              rintro e w9 ⟨rfl, hb_⟩
              clear x0 x1 x2 xf l0 l1 l2 lf
              replace HV := Lib.hid (HV.out.step hb_)
              replace HL := Lib.hid (HL.out.below hb_)
              clear hb_
              have hne := str_ne (rfl : z t = z t)
              go_wp2_with fail
              go_roundw
              case rel => exact ⟨t + 1, by omega, by go_num, HV, HL⟩
              case measure => simp [intOf]; omega
            · obtain rfl : t = 3 := by omega
              have x0 := HV.out.box.c0
              have x1 := HV.out.box.c1
              have x2 := HV.out.box.c2
              have xf := HV.out.box.f
              have l0 := HL.out.c0
              have l1 := HL.out.c1
              have l2 := HL.out.c2
              have lf := HL.out.f
              go_wp2_with fail
              go_roundw
              case rel => exact ⟨k + 1, d, A0, c0, A1, c1, S, N, L, z, by omega, by go_num, by omega, by first | rfl | go_num, by first | exact HV | exact (by rw [hq0.out]; exact HV), HL, HZ⟩
              case measure => simp [intOf]; omega
    · obtain rfl : k = M := by omega
      have HB := Lib.hid HV.out.below
      go_wp2_with fail
      refine (alive_calls _).mono ?_
      rintro e w' ⟨rfl, hb_⟩
      go_wp2_with fail
      go_ret
      exact ⟨rfl, HB.out.trans (Below.mono hb_ HB.out.size)⟩
end Go.Proofs.Ytmefdlajjbcljaa
