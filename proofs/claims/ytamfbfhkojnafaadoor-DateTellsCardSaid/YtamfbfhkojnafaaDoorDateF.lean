import Derived.Test.YtamfbfhkojnafaaDoorOfPure
import Derived.Test.YtamfbfhkojnafaaDoorDateV
import Derived.Lib.Hide
import Derived.Deep.RegionHeld3
import Derived.RegionCalls
import Derived.BigRegion
namespace Go.Proofs.YtamfbfhkojnafaaDoor
open Go.RowKit Go.Proofs.YtamfbfhkojnafaaDoor.PD4 Go.Proofs.YtamfbfhkojnafaaDoorW.PrintWords
set_option linter.unusedVariables false
set_option linter.unusedSimpArgs false

def twoS (n : Int) : ByteArray := ⟨(d2 n.toNat).toArray⟩
theorem twoS_size (n : Int) : (twoS n).size ≤ 2 := by unfold twoS d2; simp [ByteArray.size]
theorem two_f (n : Int) (h0 : 0 ≤ n) (h1 : n ≤ 99) : cashbookref04_two.f n = some (twoS n) := by
  obtain ⟨m, rfl⟩ := Int.eq_ofNat_of_zero_le h0
  have hm : m < 100 := by omega
  have all : ∀ m : Fin 100, cashbookref04_two.f (m.val : Int) = some (twoS (m.val : Int)) := by decide +kernel
  exact all ⟨m, hm⟩
/-- The parts lie in a block; nothing older has turned. -/
structure HeldP (w : World) (g : Nat) (y m d : Int) (V : World) : Prop where
  c0 : V.cell? ⟨g, 0, none⟩ = some (.int .i64 y)
  c1 : V.cell? ⟨g, 1, none⟩ = some (.int .i64 m)
  c2 : V.cell? ⟨g, 2, none⟩ = some (.int .i64 d)
  lt : g < V.heap.size
  below : Below w.heap.size w V
theorem HeldP.drew {w V : World} {g : Nat} {y m d : Int} (h : HeldP w g y m d V) : HeldP w g y m d V.drew := ⟨h.c0, h.c1, h.c2, h.lt, h.below.drew⟩
theorem two_held {w : World} {g : Nat} {y m d n : Int} {s : ByteArray} (hg : ∀ W, Calls Tryd.prog 63 #[.int .i64 n] W fun e w' => e = .returned (.string s) ∧ Below W.heap.size W w') (W : World) (h : HeldP w g y m d W) :
    Calls Tryd.prog 63 #[.int .i64 n] W fun e w' => e = .returned (.string s) ∧ HeldP w g y m d w' := by
  refine (hg W).mono ?_
  rintro e w' ⟨he, hb⟩
  exact ⟨he, ⟨by rw [hb.cell (p := ⟨g, 0, none⟩) h.lt]; exact h.c0, by rw [hb.cell (p := ⟨g, 1, none⟩) h.lt]; exact h.c1, by rw [hb.cell (p := ⟨g, 2, none⟩) h.lt]; exact h.c2, Nat.lt_of_lt_of_le h.lt hb.size, h.below.trans (Below.mono hb h.below.size)⟩⟩
def refText (y m d : Int) : ByteArray := twoS (y / 100) ++ twoS (y % 100) ++ ⟨#[45]⟩ ++ twoS m ++ ⟨#[45]⟩ ++ twoS d
set_option maxHeartbeats 2000000 in
set_option maxRecDepth 100000 in
theorem refPrint_calls (x y m d : Int) (w : World) (x1 : -50000 ≤ x) (x2 : x ≤ 50000) (hc : Civ x y m d) :
    Calls Tryd.prog 46 #[.int .i32 x] w fun e w' => e = .returned (.string (refText y m d)) ∧ Below w.heap.size w w' := by
  have hy := PD4.year_bd hc (by omega) (by omega)
  have HC := Lib.hid hc
  obtain ⟨c1, c2, c3, c4, c5⟩ := hc
  have hmb := PD4.ml_bd y m c1 c2
  obtain ⟨y1, y2⟩ := hy
  have d31 : d ≤ 31 := by omega
  clear c4 c5 hmb
  have y0 : 0 ≤ y := by omega
  have hT : Hid (refText y m d = twoS (y / 100) ++ twoS (y % 100) ++ ⟨#[45]⟩ ++ twoS m ++ ⟨#[45]⟩ ++ twoS d) := Lib.hid rfl
  have g1 := Lib.hid (fun W => cashbookref04_two.calls (y / 100) _ W (two_f (y / 100) (by omega) (by omega)))
  have g2 := Lib.hid (fun W => cashbookref04_two.calls (y % 100) _ W (two_f (y % 100) (by omega) (by omega)))
  have g3 := Lib.hid (fun W => cashbookref04_two.calls m _ W (two_f m (by omega) (by omega)))
  have g4 := Lib.hid (fun W => cashbookref04_two.calls d _ W (two_f d (by omega) (by omega)))
  have s1 := twoS_size (y / 100)
  have s2 := twoS_size (y % 100)
  have s3 := twoS_size m
  have s4 := twoS_size d
  generalize twoS (y / 100) = S1 at *
  generalize twoS (y % 100) = S2 at *
  generalize twoS m = S3 at *
  generalize twoS d = S4 at *
  generalize refText y m d = TT at *
  go_enter Tryd.func46, Tryd.ntmps46
  go_wp2_with fail
  refine (parts_calls x _ x1 x2).mono ?_
  rintro e w1 ⟨y', m', d', rfl, hc', hb1⟩
  obtain ⟨rfl, rfl, rfl⟩ := civ_unique hc'.out HC.out
  replace hb1 := Lib.hid hb1
  clear hc'
  go_wp2_with fail
  have hc0 : (w1.alloc (.cells #[.int .i64 y', .int .i64 m', .int .i64 d'] 64)).cell? ⟨w1.heap.size, 0, none⟩ = some (.int .i64 y') := by go_simp
  have hc1 : (w1.alloc (.cells #[.int .i64 y', .int .i64 m', .int .i64 d'] 64)).cell? ⟨w1.heap.size, 1, none⟩ = some (.int .i64 m') := by go_simp
  have hc2 : (w1.alloc (.cells #[.int .i64 y', .int .i64 m', .int .i64 d'] 64)).cell? ⟨w1.heap.size, 2, none⟩ = some (.int .i64 d') := by go_simp
  have hlt : w1.heap.size < (w1.alloc (.cells #[.int .i64 y', .int .i64 m', .int .i64 d'] 64)).heap.size := by simp
  have hWB := Lib.hid (show Below w.heap.size w (w1.alloc (.cells #[.int .i64 y', .int .i64 m', .int .i64 d'] 64)) from hb1.out.alloc hb1.out.size _)
  generalize (w1.alloc (.cells #[.int .i64 y', .int .i64 m', .int .i64 d'] 64)) = W at hc0 hc1 hc2 hlt hWB ⊢
  generalize w1.heap.size = g at hc0 hc1 hc2 hlt ⊢
  clear hb1
  have dq : y'.tdiv 100 = y' / 100 := Int.tdiv_eq_ediv_of_nonneg y0
  have dr : y'.tmod 100 = y' % 100 := Int.tmod_eq_emod_of_nonneg y0
  have dw : IntKind.i64.wrap (y' / 100) = y' / 100 := by rw [IntKind.wrap_i64]; omega
  have dv : IntKind.i64.wrap (y' % 100) = y' % 100 := by rw [IntKind.wrap_i64]; omega
  have hcl := Lib.hid (fun (V : World) (h : V.cell? ⟨g, 0, none⟩ = some (.int .i64 y') ∧ V.cell? ⟨g, 1, none⟩ = some (.int .i64 m') ∧ V.cell? ⟨g, 2, none⟩ = some (.int .i64 d') ∧ g < V.heap.size ∧ Below w.heap.size w V) => h)
  have k1 := Lib.hid (two_held (w := w) (g := g) (y := y') (m := m') (d := d') g1.out)
  have k2 := Lib.hid (two_held (w := w) (g := g) (y := y') (m := m') (d := d') g2.out)
  have k3 := Lib.hid (two_held (w := w) (g := g) (y := y') (m := m') (d := d') g3.out)
  have k4 := Lib.hid (two_held (w := w) (g := g) (y := y') (m := m') (d := d') g4.out)
  have hH : HeldP w g y' m' d' W := ⟨hc0, hc1, hc2, hlt, hWB.out⟩
  generalize hq1 : y' / 100 = q1 at k1 dq dw
  generalize hq2 : y' % 100 = q2 at k2 dr dv
  clear hq1 hq2 g1 g2 g3 g4 hcl c1 c2 y0 y1 y2 d31 HC x1 x2 hWB hlt
  have hH0 := Lib.hid hH
  clear hH
  have b1 : (9223372036854775807 < S1.size + S2.size) = False := eq_false (by omega)
  have b2 : (9223372036854775807 < S1.size + S2.size + 1) = False := eq_false (by omega)
  have b2' : (9223372036854775807 < (S1 ++ S2).size + 1) = False := eq_false (by rw [ByteArray.size_append]; omega)
  have b3 : (9223372036854775807 < S1.size + S2.size + 1 + S3.size) = False := eq_false (by omega)
  have b3' : (9223372036854775807 < (S1 ++ S2 ++ ⟨#[45]⟩).size + S3.size) = False := eq_false (by rw [ByteArray.size_append, ByteArray.size_append]; show ¬ (_ < S1.size + S2.size + 1 + S3.size); omega)
  have b4 : (9223372036854775807 < S1.size + S2.size + 1 + S3.size + 1) = False := eq_false (by omega)
  have b4' : (9223372036854775807 < (S1 ++ S2 ++ ⟨#[45]⟩ ++ S3).size + 1) = False := eq_false (by rw [ByteArray.size_append, ByteArray.size_append, ByteArray.size_append]; show ¬ (_ < S1.size + S2.size + 1 + S3.size + 1); omega)
  have b5 : (9223372036854775807 < S1.size + S2.size + 1 + S3.size + 1 + S4.size) = False := eq_false (by omega)
  have b5' : (9223372036854775807 < (S1 ++ S2 ++ ⟨#[45]⟩ ++ S3 ++ ⟨#[45]⟩).size + S4.size) = False := eq_false (by rw [ByteArray.size_append, ByteArray.size_append, ByteArray.size_append, ByteArray.size_append]; show ¬ (_ < S1.size + S2.size + 1 + S3.size + 1 + S4.size); omega)
  clear s1 s2 s3 s4
  go_region_held3 (fun w' => w'.cell? ⟨g, 0, none⟩ = some (.int .i64 y') ∧ w'.cell? ⟨g, 1, none⟩ = some (.int .i64 m') ∧ w'.cell? ⟨g, 2, none⟩ = some (.int .i64 d'))
    (first
      | go_keep
      | (go_split_ands
         refine ⟨?_, ?_, ?_⟩ <;> assumption))
    (first
    | (go_at_call_of 63 (Value.int .i64 q1); refine (k1.out _ ?_).mono ?_; exact hH0.out.drew; rintro e w4 ⟨rfl, hh⟩; obtain ⟨t0, t1, t2, t3, t4⟩ := id hh)
    | (go_at_call_of 63 (Value.int .i64 q2); refine (k2.out _ (by assumption)).mono ?_; rintro e w5 ⟨rfl, hh2⟩; obtain ⟨t0, t1, t2, t3, t4⟩ := id hh2)
    | (go_at_call_of 63 (Value.int .i64 m'); refine (k3.out _ (by assumption)).mono ?_; rintro e w6 ⟨rfl, hh3⟩; obtain ⟨t0, t1, t2, t3, t4⟩ := id hh3)
    | (go_at_call_of 63 (Value.int .i64 d'); refine (k4.out _ (by assumption)).mono ?_; rintro e w7 ⟨rfl, hh4⟩; obtain ⟨t0, t1, t2, t3, t4⟩ := id hh4))
  go_wp2_with fail
  go_ret
  exact ⟨by rw [hT.out]; rfl, t4⟩
end Go.Proofs.YtamfbfhkojnafaaDoor
