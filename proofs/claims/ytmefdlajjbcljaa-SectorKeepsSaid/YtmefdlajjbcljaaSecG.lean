import Derived.Test.YtmefdlajjbcljaaSecN
import Derived.Test.YtmefdlajjbcljaaSecS
import Derived.Test.YtmefdlajjbcljaaSecM
import Derived.RegionCalls
import Derived.BigRegion
import Derived.Outline
namespace Go.Proofs.Ytmefdlajjbcljaa
open Go.RowKit Go.Proofs.Ytmefdlajjbcljaa.PS8 Go.Proofs.YtmefdlajjbcljaaW.PrintWords
set_option linter.unusedVariables false
set_option linter.unusedSimpArgs false

theorem mul_one (n : Nat) (hn : n ≤ 512) (W : World) : Calls Try.prog 76 #[.int .u64 1, .int .u64 n] W fun e w' => e = .returned (.tuple #[.int .u64 0, .int .u64 n]) ∧ w' = W := by
  refine (Try.bits_Mul 1 n (by omega) (by omega) W).mono ?_
  rintro e w' ⟨rfl, rfl⟩
  rw [Nat.one_mul, Nat.div_eq_of_lt (by omega), Nat.mod_eq_of_lt (by omega)]
  exact ⟨rfl, rfl⟩
theorem repeat_all (b : Nat) (s : ByteArray) (n : Nat) (w : World) (hn : n ≤ 512) (hb : w.cell? ⟨b, 0, none⟩ = some (.string s)) :
    Calls Try.prog 54 #[.slice (some ⟨b, 0, none⟩) 1 1, .int .i64 n] w fun e w' => ∃ g, e = .returned (.slice (some ⟨g, 0, none⟩) n n) ∧ w.heap.size ≤ g ∧ w'.heap[g]? = some (.cells (List.replicate n (Value.string s)).toArray 9 (0, 0)) ∧ Below w.heap.size w w' := by
  rcases Nat.eq_zero_or_pos n with h | h
  · subst h; exact repeat_zero b s w (mul_one 0 (by omega))
  · exact repeat_calls b s n w hn h hb (mul_one n hn)
/-- Rows that were laid whole. -/
def RowIs (g n : Nat) (s : ByteArray) (w : World) : Prop := w.heap[g]? = some (.cells (List.replicate n (Value.string s)).toArray 9 (0, 0))
theorem RowIs.below {g n : Nat} {s : ByteArray} {w w1 : World} (h : RowIs g n s w) (hb : Below w.heap.size w w1) : RowIs g n s w1 := blk_below h hb
theorem RowIs.far3 {g n b : Nat} {s : ByteArray} {w : World} (h : RowIs g n s w) (hg : g ≠ b) (u0 u1 u2 : Value) : RowIs g n s (((w.setCell ⟨b, 0, none⟩ u0).setCell ⟨b, 1, none⟩ u1).setCell ⟨b, 2, none⟩ u2) := by
  unfold RowIs at *
  rw [Below.heap_setCell _ _ _ _ hg, Below.heap_setCell _ _ _ _ hg, Below.heap_setCell _ _ _ _ hg]; exact h
theorem RowIs.own {g n base : Nat} {s : ByteArray} {w : World} (h : RowIs g n s w) (hb : base ≤ g) (hn : n ≤ 512) (ok : Nat → Prop) (hok : ok g) : Kd.R Kd.string 9 w base ok (.slice (some ⟨g, 0, none⟩) n n) (List.replicate n s) := by
  refine Kd.R_of_own ?_ (fun k hk => by obtain rfl := Option.some.inj hk; exact hok)
  refine ⟨?_, Or.inr ⟨g, n, _, by rw [List.length_replicate], hb, h, by rw [List.length_replicate]; exact Nat.le_refl _, by unfold maxLen; omega, by simp, ?_⟩⟩
  · simp [encs]
  · simp [encs]
theorem new_own {g g2 n : Nat} {s : ByteArray} {w w1 : World} (h1 : RowIs g n s w1) (h2 : RowIs g2 n ⟨#[]⟩ w1) (hne : g ≠ g2) (b1 : w.heap.size ≤ g) (b2 : w.heap.size ≤ g2) (hn : n ≤ 512) :
    OwnDisk w (.slice (some ⟨g, 0, none⟩) n n) (.slice (some ⟨g2, 0, none⟩) n n) (List.replicate n s) (List.replicate n ⟨#[]⟩) w1 :=
  ⟨h1.own b1 hn _ (fun e => hne (Option.some.inj e)), h2.own b2 hn _ (fun e => hne (Option.some.inj e).symm)⟩
theorem below3 {w V : World} (h : Below w.heap.size w V) (u0 u1 u2 : Value) : Below w.heap.size w (((V.setCell ⟨w.heap.size, 0, none⟩ u0).setCell ⟨w.heap.size, 1, none⟩ u1).setCell ⟨w.heap.size, 2, none⟩ u2) :=
  ((h.setCell (p := ⟨w.heap.size, 0, none⟩) (Nat.le_refl _) u0).setCell (p := ⟨w.heap.size, 1, none⟩) (Nat.le_refl _) u1).setCell (p := ⟨w.heap.size, 2, none⟩) (Nat.le_refl _) u2
theorem new_rep (n : Nat) (hn : n ≤ 512) (s : ByteArray) {w wr : World} {k : Nat} {x0 x1 x2 : Value} (HX : BoxD k x0 x1 x2 wr) (HB : Below w.heap.size w wr)
    (W : World) (b : Nat) (hW : Below wr.heap.size wr W) (hb : W.cell? ⟨b, 0, none⟩ = some (.string s)) :
    Calls Try.prog 54 #[.slice (some ⟨b, 0, none⟩) 1 1, .int .i64 n] W fun e w' => ∃ g, e = .returned (.slice (some ⟨g, 0, none⟩) n n) ∧ W.heap.size ≤ g ∧ RowIs g n s w' ∧ BoxD k x0 x1 x2 w' ∧ Below w.heap.size w w' ∧ Below W.heap.size W w' ∧ wr.heap.size ≤ W.heap.size := by
  refine (repeat_all b s n W hn hb).mono ?_
  rintro e w' ⟨g, rfl, hg, hrow, hB⟩
  have hs := hW.size
  have hb2 : Below wr.heap.size wr w' := hW.trans (Below.mono hB hs)
  exact ⟨g, rfl, hg, hrow, HX.below hb2, HB.trans (Below.mono hb2 HB.size), hB, hs⟩

set_option maxHeartbeats 4000000 in
set_option maxRecDepth 100000 in
theorem new_ok (n : Nat) (f : Int) (w : World) (hn : n ≤ 512) (f1 : -1 ≤ f) (f2 : f ≤ 1000000) :
    Calls Try.prog 19 #[.int .i64 n, .int .i64 f] w (DiskPost w ((List.replicate n (sealB ⟨#[]⟩), List.replicate n ⟨#[]⟩, f), 0)) := by
  have h64 := Sec.sealL_length [] (by decide)
  obtain ⟨L, hL⟩ : ∃ L, L = Sec.sealL [] := ⟨_, rfl⟩
  have hLs : L.length = 64 := by rw [hL]; exact h64
  obtain ⟨X, hX⟩ : ∃ X, X = (Lib.byteCells L).toArray := ⟨_, rfl⟩
  have hsl : ∀ W, Calls Try.prog 48 #[.string ⟨#[]⟩] W fun e w' => e = .returned (.agg X) ∧ Below W.heap.size W w' := by
    intro W; rw [hX, hL]; exact sealed_calls ⟨#[]⟩ W (by decide)
  replace hsl := Lib.hid hsl
  clear h64
  replace hX := Lib.hid hX
  replace hL := Lib.hid hL
  replace hLs := Lib.hid hLs
  go_enter Try.func19, Try.ntmps19
  go_wp2_with fail
  refine (hsl.out _).mono ?_
  rintro e w1 ⟨rfl, hb1⟩
  have HX : Hid (BoxD w.heap.size (.slice none 0 0) (.slice none 0 0) (.int .i64 0) w1) := Lib.hid (blk_below (heap_alloc_new _ _) hb1)
  have hz : w.heap.size < w1.heap.size := by have := hb1.size; simp at this; omega
  have HB := Lib.hid (((Below.refl _ _).alloc (Nat.le_refl _) _).trans (hb1.mono (by simp)) : Below w.heap.size w w1)
  clear hb1
  have hST : ∀ ops rest (a : Act) Q after old, old.size = 64 → a.eval (.tmp 6) = .pointer (some ⟨w1.heap.size, 0, none⟩) → a.eval (.tmp 22) = .agg X → wpList Try.prog ops Q rest (a.put none undef) (w1.alloc (.cells X 81)) →
      wpList Try.prog ops Q ({ dst := none, op := .store 81 (.tmp 6) (.tmp 22), type := 0, pos := "sector.go:72", after := after, guard := none } :: rest) a (w1.alloc (.cells old 81)) := by
    intro ops rest a Q after old ho ha hb h
    refine wpList_plain rfl fun _ hK => ?_
    unfold Oper.wp execOp
    have hrun := Sec.store64 (w1.alloc (.cells old 81)) w1.heap.size L old 81 hLs.out ho (heap_alloc_last w1 _)
    rw [World.setRow_alloc_new, ← hX.out] at hrun
    simp only [ha, hb, hrun, Sem.run_bind, Sem.run_pure, Result.andThen_ok]
    exact hK _ _ h
  go_wp2_with (refine hST _ _ _ _ _ _ rfl rfl rfl ?_)
  clear hST
  have hrw : (w1.alloc (.cells X 81)).heap[w1.heap.size]? = some (.cells X 81 (0, 0)) := heap_alloc_last w1 _
  have HX2 := Lib.hid (HX.out.below (((Below.refl _ _).alloc (Nat.le_refl _) _) : Below w1.heap.size w1 (w1.alloc (.cells X 81))))
  have HB2 := Lib.hid (HB.out.alloc (by omega) _ : Below w.heap.size w (w1.alloc (.cells X 81)))
  have hz2 : w1.heap.size + 1 = (w1.alloc (.cells X 81)).heap.size := by simp
  generalize hw2 : w1.alloc (.cells X 81) = w2 at hrw HX2 HB2 hz2 ⊢
  clear HX HB hw2
  obtain ⟨g1, hg1⟩ : ∃ g1, g1 = w1.heap.size := ⟨_, rfl⟩
  rw [← hg1] at hrw hz2 hz ⊢
  clear hg1
  have hLB : (⟨L.toArray⟩ : ByteArray) = sealB ⟨#[]⟩ := by rw [hL.out]; rfl
  have hcv : ∀ W : World, W.heap[g1]? = some (.cells X 81 (0, 0)) → (convert 53 9 (.slice (some ⟨g1, 0, none⟩) 64 64)).run Try.prog W = .ok (.string (sealB ⟨#[]⟩)) W := by
    intro W hW
    rw [← hLB]
    refine Sec.bytes_string _ _ L 81 64 64 hLs.out.symm ?_
    rw [← hX.out]
    exact hW
  clear hLB hLs hL
  have hms := fun W => Sec.make_strings W n (by omega)
  have x0 := HX2.out.c0
  have x1 := HX2.out.c1
  have x2 := HX2.out.c2
  have xf := HX2.out.f
  have hrep := Lib.hid (fun W b => new_rep n hn (sealB ⟨#[]⟩) HX2.out HB2.out W b)
  have c1 := hcv w2.drew hrw
  have hlt1 : g1 < w2.heap.size := by omega
  have c2 := hcv ((w2.alloc (.cells (Array.replicate n (Value.string ⟨#[]⟩)) 9)).drew) (by show (w2.heap.push _)[g1]? = _; rw [Array.getElem?_push_lt hlt1]; rw [← Array.getElem?_eq_getElem hlt1]; exact hrw)
  go_region_with ((refine (hrep.out _ _ (by repeat (first | exact Below.refl _ _ | refine Below.drew ?_ | refine Below.alloc ?_ (by simp) _)) (by go_simp)).mono ?_; rintro e w4 ⟨g, rfl, hg, hrow', HX4', HB4', hB4', hs⟩; have HX4 := Lib.hid HX4'; have HB4 := Lib.hid HB4'; have hB4 := Lib.hid hB4'; have hrow := Lib.hid hrow'; clear hrow' HX4' HB4' hB4'; have hz4 : w.heap.size < w4.heap.size := blk_lt HX4.out; have d0 := HX4.out.c0; have d1 := HX4.out.c1; have d2 := HX4.out.c2; have f4 := HX4.out.f))
  all_goals go_wp2_with fail
  · have hgl : g < w4.heap.size := by have := hrow.out; unfold RowIs at this; exact (Array.getElem?_eq_some_iff.1 this).1
    refine bodyPost_ret (v := .tuple #[.agg #[.slice (some ⟨g, 0, none⟩) n n, .slice (some ⟨w4.heap.size, 0, none⟩) n n, .int .i64 f], .int .i64 0]) (by simp [results, Try.results19, go_sem, d0, d1, d2, f4, hz4]) rfl ⟨_, _, rfl, ?_, ?_⟩
    · have hb5 : Below (((w4.setCell ⟨w.heap.size, 0, none⟩ (.slice (some ⟨g, 0, none⟩) n n)).setCell ⟨w.heap.size, 1, none⟩ (.slice (some ⟨w4.heap.size, 0, none⟩) n n)).setCell ⟨w.heap.size, 2, none⟩ (.int .i64 f)).heap.size _ ((((w4.setCell ⟨w.heap.size, 0, none⟩ (.slice (some ⟨g, 0, none⟩) n n)).setCell ⟨w.heap.size, 1, none⟩ (.slice (some ⟨w4.heap.size, 0, none⟩) n n)).setCell ⟨w.heap.size, 2, none⟩ (.int .i64 f)).alloc (Obj.cells (Array.replicate n (Value.string ⟨#[]⟩)) 9)) := (Below.refl _ _).alloc (Nat.le_refl _) _
      simp at hg
      refine new_own ((hrow.out.far3 (by omega) _ _ _).below hb5) ?_ (by omega) (by omega) (by omega) hn
      have hn4 := heap_alloc_new (((w4.setCell ⟨w.heap.size, 0, none⟩ (.slice (some ⟨g, 0, none⟩) n n)).setCell ⟨w.heap.size, 1, none⟩ (.slice (some ⟨w4.heap.size, 0, none⟩) n n)).setCell ⟨w.heap.size, 2, none⟩ (.int .i64 f)) (Obj.cells (Array.replicate n (Value.string ⟨#[]⟩)) 9)
      simp only [World.size_setCell] at hn4
      unfold RowIs
      rw [List.toArray_replicate]
      exact hn4
    · exact (below3 HB4.out _ _ _).alloc (by have := HB4.out.size; simpa using this) _
  · have hr1 : RowIs (w2.heap.size + 1) n ⟨#[]⟩ (((w2.alloc (.cells #[.string (sealB ⟨#[]⟩)] 9)).alloc (.cells (Array.replicate n (Value.string ⟨#[]⟩)) 9)).drew) := by unfold RowIs; rw [List.toArray_replicate]; exact Sec.heap_at1 _ _ _
    have hr2 := hr1.below hB4.out
    simp at hg
    refine bodyPost_ret (v := .tuple #[.agg #[.slice (some ⟨g, 0, none⟩) n n, .slice (some ⟨w2.heap.size + 1, 0, none⟩) n n, .int .i64 f], .int .i64 0]) (by simp [results, Try.results19, go_sem, d0, d1, d2, f4, hz4]) rfl ⟨_, _, rfl, new_own (hrow.out.far3 (by omega) _ _ _) (hr2.far3 (by omega) _ _ _) (by omega) (by omega) (by omega) hn, below3 HB4.out _ _ _⟩
  · have hr1 : RowIs (w2.heap.size) n ⟨#[]⟩ (((w2.alloc (.cells (Array.replicate n (Value.string ⟨#[]⟩)) 9)).alloc (.cells #[.string (sealB ⟨#[]⟩)] 9)).drew) := by unfold RowIs; rw [List.toArray_replicate]; exact heap_at0 _ _ _
    have hr2 := hr1.below hB4.out
    simp at hg
    refine bodyPost_ret (v := .tuple #[.agg #[.slice (some ⟨g, 0, none⟩) n n, .slice (some ⟨w2.heap.size, 0, none⟩) n n, .int .i64 f], .int .i64 0]) (by simp [results, Try.results19, go_sem, d0, d1, d2, f4, hz4]) rfl ⟨_, _, rfl, new_own (hrow.out.far3 (by omega) _ _ _) (hr2.far3 (by omega) _ _ _) (by omega) (by omega) (by omega) hn, below3 HB4.out _ _ _⟩
  · have hr1 : RowIs (w2.heap.size) n ⟨#[]⟩ (((w2.alloc (.cells (Array.replicate n (Value.string ⟨#[]⟩)) 9)).alloc (.cells #[.string (sealB ⟨#[]⟩)] 9)).drew) := by unfold RowIs; rw [List.toArray_replicate]; exact heap_at0 _ _ _
    have hr2 := hr1.below hB4.out
    simp at hg
    refine bodyPost_ret (v := .tuple #[.agg #[.slice (some ⟨g, 0, none⟩) n n, .slice (some ⟨w2.heap.size, 0, none⟩) n n, .int .i64 f], .int .i64 0]) (by simp [results, Try.results19, go_sem, d0, d1, d2, f4, hz4]) rfl ⟨_, _, rfl, new_own (hrow.out.far3 (by omega) _ _ _) (hr2.far3 (by omega) _ _ _) (by omega) (by omega) (by omega) hn, below3 HB4.out _ _ _⟩


theorem new_bad (n f : Int) (w : World) (h : n < 0 ∨ 512 < n ∨ f < -1 ∨ 1000000 < f) :
    Calls Try.prog 19 #[.int .i64 n, .int .i64 f] w (DiskPost w (([], [], 0), 1)) := by
  have hb : (decide (n < 0) || decide (512 < n) || decide (f < -1) || decide (1000000 < f)) = true := by
    simp only [Bool.or_eq_true, decide_eq_true_eq]; omega
  clear h
  go_enter Try.func19, Try.ntmps19
  go_wp2_with fail
  all_goals
    refine bodyPost_ret (v := .tuple #[.agg #[.slice none 0 0, .slice none 0 0, .int .i64 0], .int .i64 1]) (by simp [results, Try.results19, go_sem]) rfl ⟨_, _, rfl, own_nils _ _, ?_⟩
    exact (Below.refl _ _).alloc (Nat.le_refl _) _
theorem new_calls (n f : Int) (w : World) : Calls Try.prog 19 #[.int .i64 n, .int .i64 f] w (DiskPost w (newR n f)) := by
  unfold newR
  by_cases h : n < 0 ∨ 512 < n ∨ f < -1 ∨ 1000000 < f
  · rw [if_pos h]; exact new_bad n f w h
  · rw [if_neg h]
    obtain ⟨m, rfl⟩ := Int.eq_ofNat_of_zero_le (show 0 ≤ n by omega)
    rw [Int.toNat_natCast]
    exact new_ok m f w (by omega) (by omega) (by omega)
end Go.Proofs.Ytmefdlajjbcljaa
