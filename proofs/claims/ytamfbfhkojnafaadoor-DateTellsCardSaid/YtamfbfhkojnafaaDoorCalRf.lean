import Derived.Test.YtamfbfhkojnafaaDoorCalP
import Derived.Test.YtamfbfhkojnafaaDoorPC6x2
import Derived.Test.YtamfbfhkojnafaaDoorCiv
namespace Go.Proofs.YtamfbfhkojnafaaDoor
open Go.RowKit Go.Proofs.YtamfbfhkojnafaaDoor.PC6 Go.Proofs.YtamfbfhkojnafaaDoorW.PrintWords
set_option linter.unusedVariables false
set_option linter.unusedSimpArgs false
set_option linter.unusedSectionVars false

/-! cashbookref04: the years and the months. -/
def longB (y : Int) : Bool := (y.tmod 4 == 0 && y.tmod 100 != 0) || y.tmod 400 == 0
theorem long_f (y : Int) : cashbookref04_Long.f y = some (longB y) := by
  unfold cashbookref04_Long.f longB
  by_cases h1 : Int.tmod y 4 = 0 <;> by_cases h2 : Int.tmod y 100 = 0 <;> simp [h1, h2]
def ylen (y : Int) : Int := if longB y then 366 else 365
theorem year_f (y : Int) : cashbookref04_year.f y = some (ylen y) := by
  unfold cashbookref04_year.f ylen
  rw [long_f]; simp only [Option.bind_some]; cases longB y <;> rfl
def mlen (y m : Int) : Int := if m = 2 then (if longB y then 29 else 28) else if m = 4 ∨ m = 6 ∨ m = 9 ∨ m = 11 then 30 else 31
theorem days_f (y m : Int) : cashbookref04_Days.f y m = some (mlen y m) := by
  unfold cashbookref04_Days.f mlen
  rw [long_f]; simp only [Option.bind_some]
  by_cases h1 : m = 2
  · simp only [h1, if_true]; cases longB y <;> rfl
  · simp only [if_neg h1]
    by_cases h2 : m = 4
    · simp [h2]
    · by_cases h3 : m = 6
      · simp [h3]
      · by_cases h4 : m = 9
        · simp [h4]
        · by_cases h5 : m = 11
          · simp [h5]
          · simp [h2, h3, h4, h5]

theorem longB_lng (y : Int) : longB y = decide (lng y = 1) := by
  have t : ∀ b : Int, (y.tmod b = 0 ↔ y % b = 0) := by
    intro b
    rw [← Int.dvd_iff_tmod_eq_zero, ← Int.dvd_iff_emod_eq_zero]
  unfold longB lng
  rw [Bool.eq_iff_iff]
  simp only [Bool.or_eq_true, Bool.and_eq_true, beq_iff_eq, bne_iff_ne, ne_eq, t, decide_eq_true_eq]
  omega
theorem ylen_lng (y : Int) : ylen y = 365 + lng y := by
  have := lng_01 y
  unfold ylen
  rw [longB_lng]
  by_cases h : lng y = 1
  · simp [h]
  · simp [h]; omega
theorem mlen_ml (y m : Int) (h1 : 1 ≤ m) (h2 : m ≤ 12) : mlen y m = ml y m := by
  have := lng_01 y
  unfold mlen ml mcum
  rw [longB_lng]
  rcases m12 h1 h2 with h|h|h|h|h|h|h|h|h|h|h|h <;> subst h <;> simp [cumF] <;> (try split) <;> omega
theorem year_calls (y : Int) (w : World) : Calls Tryd.prog 62 #[.int .i64 y] w fun e w' => e = .returned (.int .i64 (365 + lng y)) ∧ Below w.heap.size w w' := by
  rw [← ylen_lng]
  exact (cashbookref04_year.calls y _ w (year_f y)).mono fun e w' ⟨he, hd⟩ => ⟨he, hd.below⟩
theorem days_calls (y m : Int) (w : World) (h1 : 1 ≤ m) (h2 : m ≤ 12) : Calls Tryd.prog 48 #[.int .i64 y, .int .i64 m] w fun e w' => e = .returned (.int .i64 (ml y m)) ∧ Below w.heap.size w w' := by
  rw [← mlen_ml y m h1 h2]
  exact (cashbookref04_Days.calls y m _ w (days_f y m)).mono fun e w' ⟨he, hd⟩ => ⟨he, hd.below⟩

theorem yd_bd (y x n : Int) (h : n + yd y = x) (h1 : -50000 ≤ x) (h2 : x ≤ 50000) (h3 : -60000 ≤ n) (h4 : n ≤ 60000) : 1600 ≤ y ∧ y ≤ 2400 := by
  unfold yd at h; omega
theorem ml_sum (y m n : Int) (h1 : 1 ≤ m) (h2 : m ≤ 12) (h3 : mcum y m + n < 365 + lng y) (h4 : ml y m ≤ n) : m + 1 ≤ 12 := by
  have := lng_01 y
  unfold ml mcum at *
  rcases m12 h1 h2 with h|h|h|h|h|h|h|h|h|h|h|h <;> subst h <;> simp [cumF] at * <;> omega
theorem ml_pos (y m : Int) (h1 : 1 ≤ m) (h2 : m ≤ 12) : 28 ≤ ml y m ∧ ml y m ≤ 31 := by
  have := lng_01 y
  unfold ml mcum
  rcases m12 h1 h2 with h|h|h|h|h|h|h|h|h|h|h|h <;> subst h <;> simp [cumF] <;> omega

set_option maxHeartbeats 2000000 in
theorem parts_calls (x : Int) (w : World) (x1 : -50000 ≤ x) (x2 : x ≤ 50000) :
    Calls Tryd.prog 44 #[.int .i32 x] w fun e w' => ∃ y m d : Int, e = .returned (.agg #[.int .i64 y, .int .i64 m, .int .i64 d]) ∧ Hid (Civ x y m d) ∧ Below w.heap.size w w' := by
  go_enter Tryd.func44, Tryd.ntmps44
  go_wp2_with fail
  have hb0 : Below w.heap.size w (w.alloc (.cells #[.int .i64 0, .int .i64 0, .int .i64 0] 64)) := (Below.refl _ _).alloc (Nat.le_refl _) _
  have hc0 : (w.alloc (.cells #[.int .i64 0, .int .i64 0, .int .i64 0] 64)).heap[w.heap.size]? = some (.cells #[.int .i64 0, .int .i64 0, .int .i64 0] 64 (0, 0)) := heap_alloc_new w _
  go_loopw [3, 4] (fun u v wr => ∃ n y : Int, u = .int .i64 n ∧ v = .int .i64 y ∧ -50000 ≤ n ∧ n ≤ 50000 ∧ Hid (n + yd y = x) ∧ Hid (Below w.heap.size w wr) ∧ Hid (wr.heap[w.heap.size]? = some (.cells #[.int .i64 0, .int .i64 0, .int .i64 0] 64 (0, 0)))) (fun u _ _ => (-(intOf u)).toNat)
  case atStart => exact ⟨x, 2000, rfl, rfl, by omega, by omega, by show x + yd 2000 = x; simp [yd], hb0, hc0⟩
  case round =>
    clear hb0 hc0
    obtain ⟨n, y, rfl, rfl, n1, n2, hn, hb, hc⟩ := hrel
    have hy := yd_bd y x n hn.out x1 x2 (by omega) (by omega)
    obtain ⟨y1, y2⟩ := hy
    by_cases hlt : n < 0
    · have hlb : decide (n < 0) = true := by simpa using hlt
      have hl := lng_01 (y - 1)
      obtain ⟨l1, l2⟩ := hl
      have hs := yd_succ (y - 1)
      rw [show y - 1 + 1 = y by omega] at hs
      have HS := Lib.hid hs
      clear hs
      go_wp2_with fail
      refine (year_calls _ _).mono ?_; rintro e w1 ⟨rfl, hb1⟩
      go_wp2_with fail
      go_roundw
      case rel => exact ⟨n + (365 + lng (y - 1)), y - 1, rfl, rfl, by omega, by omega, by show _ = x; have := HS.out; have := hn.out; omega, below2 hb.out hb1, blk_below hc.out hb1⟩
      case measure => simp [intOf]; omega
    · have hlb : decide (n < 0) = false := by simpa using hlt
      obtain ⟨wo, rfl⟩ : ∃ wo : World, wo = wr := ⟨_, rfl⟩
      go_wp2_with fail
      go_loopw [3, 4] (fun u v wr => ∃ n y : Int, u = .int .i64 n ∧ v = .int .i64 y ∧ 0 ≤ n ∧ n ≤ 50000 ∧ Hid (n + yd y = x) ∧ Hid (Below w.heap.size w wr) ∧ Hid (wr.heap[w.heap.size]? = some (.cells #[.int .i64 0, .int .i64 0, .int .i64 0] 64 (0, 0)))) (fun u _ _ => (intOf u).toNat)
      case atStart => exact ⟨n, y, rfl, rfl, by omega, by omega, hn, hb, hc⟩
      case round =>
        clear hb hc hn n1 n2 hlb hlt y1 y2
        obtain ⟨n, y, rfl, rfl, n1, n2, hn, hb, hc⟩ := hrel
        have hy := yd_bd y x n hn.out x1 x2 (by omega) (by omega)
        obtain ⟨y1, y2⟩ := hy
        have hl := lng_01 y
        obtain ⟨l1, l2⟩ := hl
        by_cases hlt : 365 + lng y ≤ n
        · have hlb : decide (365 + lng y ≤ n) = true := by simpa using hlt
          have HS := Lib.hid (yd_succ y)
          go_wp2_with fail
          refine (year_calls _ _).mono ?_; rintro e w1 ⟨rfl, hb1⟩
          have HB1 := Lib.hid hb1
          clear hb1
          go_wp2_with fail
          refine (year_calls _ _).mono ?_; rintro e w2 ⟨rfl, hb2⟩
          have HB2 := Lib.hid hb2
          clear hb2
          go_wp2_with fail
          go_roundw
          case rel => exact ⟨n - (365 + lng y), y + 1, rfl, rfl, by omega, by omega, by show _ = x; have := HS.out; have := hn.out; omega, below3 hb.out HB1.out HB2.out, blk_below (blk_below hc.out HB1.out) HB2.out⟩
          case measure => simp [intOf]; omega
        · have hlb : decide (365 + lng y ≤ n) = false := by simpa using hlt
          have hyr : n < 365 + lng y := by omega
          go_wp2_with fail
          refine (year_calls _ _).mono ?_; rintro e w1 ⟨rfl, hb1⟩
          have hb3 : Below w.heap.size w w1 := below2 hb.out hb1
          have hc3 := blk_below hc.out hb1
          clear hb hc hb1
          go_wp2_with fail
          go_loopw [3, 5] (fun u v wr => ∃ q m : Int, u = .int .i64 q ∧ v = .int .i64 m ∧ 1 ≤ m ∧ m ≤ 12 ∧ 0 ≤ q ∧ q ≤ 50000 ∧ Hid (mcum y m + q = n) ∧ Hid (Below w.heap.size w wr) ∧ Hid (wr.heap[w.heap.size]? = some (.cells #[.int .i64 0, .int .i64 0, .int .i64 0] 64 (0, 0)))) (fun u _ _ => (intOf u).toNat)
          case atStart => exact ⟨n, 1, rfl, rfl, by omega, by omega, by omega, by omega, by show mcum y 1 + n = n; simp [mcum, cumF], hb3, hc3⟩
          case round =>
            clear hb3 hc3
            obtain ⟨q, m, rfl, rfl, m1, m2, q1, q2, hq, hb, hc⟩ := hrel
            have hp := ml_pos y m m1 m2
            obtain ⟨p1, p2⟩ := hp
            by_cases hml : ml y m ≤ q
            · have hmb : decide (ml y m ≤ q) = true := by simpa using hml
              have hm12 := ml_sum y m q m1 m2 (by rw [hq.out]; omega) hml
              have HM : Hid (mcum y (m + 1) = mcum y m + ml y m) := by show _ = _; unfold ml; omega
              go_wp2_with fail
              refine (days_calls _ _ _ m1 m2).mono ?_; rintro e w2 ⟨rfl, hb2⟩
              have HB2 := Lib.hid hb2
              clear hb2
              go_wp2_with fail
              refine (days_calls _ _ _ m1 m2).mono ?_; rintro e w3 ⟨rfl, hb3⟩
              have HB3 := Lib.hid hb3
              clear hb3
              go_wp2_with fail
              go_roundw
              case rel => exact ⟨q - ml y m, m + 1, rfl, rfl, by omega, by omega, by omega, by omega, by show _ = n; have := HM.out; have := hq.out; omega, below3 hb.out HB2.out HB3.out, blk_below (blk_below hc.out HB2.out) HB3.out⟩
              case measure => simp [intOf]; omega
            · have hmb : decide (ml y m ≤ q) = false := by simpa using hml
              go_wp2_with fail
              refine (days_calls _ _ _ m1 m2).mono ?_; rintro e w2 ⟨rfl, hb2⟩
              have hb4 : Below w.heap.size w w2 := below2 hb.out hb2
              have hc4 := blk_below hc.out hb2
              have d0 : w2.cell? ⟨w.heap.size, 0, none⟩ = some (.int .i64 0) := cell_of_row w2 _ 0 _ _ _ hc4
              have d1 : w2.cell? ⟨w.heap.size, 1, none⟩ = some (.int .i64 0) := cell_of_row w2 _ 1 _ _ _ hc4
              have d2 : w2.cell? ⟨w.heap.size, 2, none⟩ = some (.int .i64 0) := cell_of_row w2 _ 2 _ _ _ hc4
              have f0 : ∀ i, w2.frozen? ⟨w.heap.size, i, none⟩ = false := fun i => blk_frozen hc4 i
              have HB4 := Lib.hid hb4
              clear hb hc hb2 hc4 hb4
              go_wp2_with fail
              refine bodyPost_ret (v := .agg #[.int .i64 y, .int .i64 m, .int .i64 (q + 1)]) (by simp [results, Tryd.results44, go_sem, d0, d1, d2]) rfl ⟨y, m, q + 1, rfl, ?_, ?_⟩
              · show Civ x y m (q + 1)
                exact ⟨m1, m2, by omega, by omega, by have := hq.out; have := hn.out; omega⟩
              · exact ((HB4.out.setCell (by simp) _).setCell (by simp) _).setCell (by simp) _
end Go.Proofs.YtamfbfhkojnafaaDoor
