import Derived.Test.YtmefdlajjbcljaaSecR
import Derived.Test.YtmefdlajjbcljaaPS8x1
import Derived.RegionCalls
import Derived.BigRegion
import Derived.StillTailTactics
namespace Go.Proofs.Ytmefdlajjbcljaa
open Go.RowKit Go.Proofs.Ytmefdlajjbcljaa.PS8 Go.Proofs.YtmefdlajjbcljaaW.PrintWords
set_option linter.unusedVariables false
set_option linter.unusedSimpArgs false

def burnI (f : Int) : Int := if 0 < f then f - 1 else f
def setS (l : List ByteArray) (i : Nat) (x : ByteArray) : List ByteArray := l.set i x
/-- What a write makes. -/
def writeR (s n : List ByteArray) (f at_ : Int) (data : ByteArray) : (List ByteArray × List ByteArray × Int) × Int :=
  if Sec.rightB s n f then
    (if 58 < data.size then (([], [], 0), 4) else
     if at_ < 0 ∨ (s.length : Int) ≤ at_ then (([], [], 0), 6) else
     if f = 0 then (([], [], 0), 7) else ((s, n.set at_.toNat (sealB data), burnI f), 0))
  else (([], [], 0), 1)
/-- A store's rows, of the call's own. -/
def OwnDisk (W0 : World) (v0 v1 : Value) (s n : List ByteArray) (w' : World) : Prop :=
  Kd.R Kd.string 9 w' W0.heap.size (fun k_ => some k_ ≠ v1.ownBlock) v0 s ∧ Kd.R Kd.string 9 w' W0.heap.size (fun k_ => some k_ ≠ v0.ownBlock) v1 n
def DiskPost (w : World) (X : (List ByteArray × List ByteArray × Int) × Int) (e : Ending) (w' : World) : Prop :=
  ∃ v0 v1 : Value, e = .returned (.tuple #[.agg #[v0, v1, .int .i64 X.1.2.2], .int .i64 X.2]) ∧ OwnDisk w v0 v1 X.1.1 X.1.2.1 w' ∧ Below w.heap.size w w'
theorem bcell {W w1 : World} (hb : Below W.heap.size W w1) : (∀ b o, b < W.heap.size → w1.cell? ⟨b, o, none⟩ = W.cell? ⟨b, o, none⟩) ∧ (∀ b o, b < W.heap.size → w1.frozen? ⟨b, o, none⟩ = W.frozen? ⟨b, o, none⟩) :=
  ⟨fun b o h => hb.cell (p := ⟨b, o, none⟩) h, fun b o h => hb.frozen (p := ⟨b, o, none⟩) h⟩
theorem own_nils (W0 w : World) : OwnDisk W0 (.slice none 0 0) (.slice none 0 0) [] [] w := ⟨Kd.R_nil _ _ _ _ _, Kd.R_nil _ _ _ _ _⟩

theorem burn_f (f : Int) (h1 : -1 ≤ f) (h2 : f ≤ 1000000) : sector_burn.f f = some (burnI f) := by
  unfold sector_burn.f burnI
  by_cases h : f > 0
  · rw [if_pos h, if_pos h, Go.IntWalk.wrap64_in _ (by omega)]
  · rw [if_neg h, if_neg (by omega)]
theorem burn_same (f : Int) (w : World) (h1 : -1 ≤ f) (h2 : f ≤ 1000000) : Calls Try.prog 56 #[.int .i64 f] w fun e w' => e = .returned (.int .i64 (burnI f)) ∧ w' = w := by
  by_cases h : 0 < f
  · have hb : burnI f = f - 1 := by unfold burnI; rw [if_pos h]
    rw [hb]
    clear hb
    go_enter Try.func56, Try.ntmps56
    go_wp2_with fail
    go_ret
    exact ⟨rfl, rfl⟩
  · have hb : burnI f = f := by unfold burnI; rw [if_neg h]
    rw [hb]
    clear hb
    go_enter Try.func56, Try.ntmps56
    go_wp2_with fail
    go_ret
    exact ⟨rfl, rfl⟩
theorem seal_any (s : ByteArray) (w : World) (hs : s.size ≤ 58) : Calls Try.prog 13 #[.string s] w fun e w' => e = .returned (.tuple #[.string (sealB s), .int .i64 0]) ∧ Below w.heap.size w w' := seal_calls s w hs

set_option maxHeartbeats 2000000 in
set_option maxRecDepth 100000 in
theorem write_bad (A0 : Option Addr) (c0 : Nat) (s : List ByteArray) (A1 : Option Addr) (c1 : Nat) (n : List ByteArray) (f at_ : Int) (data : ByteArray) (w : World) (hr0 : Kd.C Kd.string w A0 s.length s) (hc0 : s.length ≤ c0) (hr1 : Kd.C Kd.string w A1 n.length n) (hc1 : n.length ≤ c1)
    (hR : Sec.rightB s n f = false) :
    Calls Try.prog 20 #[.agg #[.slice A0 s.length c0, .slice A1 n.length c1, .int .i64 f], .int .i64 at_, .string data] w (DiskPost w (([], [], 0), 1)) := by
  have HR := Lib.hid hR
  have H0 := Lib.hid hr0
  have H1 := Lib.hid hr1
  clear hR hr0 hr1
  go_enter Try.func20, Try.ntmps20
  go_wp2_with fail
  refine (sector_right_calls A0 c0 s A1 c1 n f _ (Kd.C_alloc (Kd.C_alloc H0.out _) _) hc0 (Kd.C_alloc (Kd.C_alloc H1.out _) _) hc1).mono ?_
  rintro e w1 ⟨rfl, hb1⟩
  rw [HR.out]
  obtain ⟨hc, hf⟩ := bcell hb1
  have q0 : w1.cell? ⟨w.heap.size, 0, none⟩ = some (.slice A0 s.length c0) := by rw [hc _ _ (by simp; omega)]; go_simp
  have q1 : w1.cell? ⟨w.heap.size, 1, none⟩ = some (.slice A1 n.length c1) := by rw [hc _ _ (by simp; omega)]; go_simp
  have q2 : w1.cell? ⟨w.heap.size, 2, none⟩ = some (.int .i64 f) := by rw [hc _ _ (by simp; omega)]; go_simp
  have q3 : w1.cell? ⟨w.heap.size + 1, 0, none⟩ = some (.slice none 0 0) := by rw [hc _ _ (by simp)]; go_simp
  have q4 : w1.cell? ⟨w.heap.size + 1, 1, none⟩ = some (.slice none 0 0) := by rw [hc _ _ (by simp)]; go_simp
  have q5 : w1.cell? ⟨w.heap.size + 1, 2, none⟩ = some (.int .i64 0) := by rw [hc _ _ (by simp)]; go_simp
  have f0 : ∀ o, w1.frozen? ⟨w.heap.size, o, none⟩ = false := fun o => by rw [hf _ _ (by simp; omega)]; go_simp
  have f1 : ∀ o, w1.frozen? ⟨w.heap.size + 1, o, none⟩ = false := fun o => by rw [hf _ _ (by simp)]; go_simp
  clear hc hf
  have hz : w.heap.size + 1 < w1.heap.size := by have := hb1.size; simp at this; omega
  have HB := Lib.hid ((((Below.refl _ _).alloc (Nat.le_refl _) _).alloc (by simp) _).trans (hb1.mono (by simp; omega)) : Below w.heap.size w w1)
  clear hb1
  go_wp2_with fail
  refine bodyPost_ret (v := .tuple #[.agg #[.slice none 0 0, .slice none 0 0, .int .i64 0], .int .i64 1]) (by simp [results, Try.results20, go_sem, q3, q4, q5]) rfl ⟨_, _, rfl, own_nils _ _, ?_⟩
  exact ((HB.out.setCell (by simp) _).setCell (by simp) _).setCell (by simp) _
theorem write_fin (w w3 W Wf : World) (base g i c cap : Nat) (A : Option Addr) (s n : List ByteArray) (x : ByteArray)
    (HR0 : Kd.R Kd.string 9 w3 base (fun k_ => some k_ ≠ (Value.slice (some ⟨g, 0, none⟩) n.length cap).ownBlock) (.slice A s.length c) s)
    (HR1 : Kd.R Kd.string 9 w3 base (fun k_ => some k_ ≠ (Value.slice A s.length c).ownBlock) (.slice (some ⟨g, 0, none⟩) n.length cap) n)
    (hb : w.heap.size + 1 < base) (HWh : ∀ b, b ≠ w.heap.size → W.heap[b]? = w3.heap[b]?)
    (hfin : ∀ k, base ≤ k → Wf.heap[k]? = (W.setCell ⟨g, i, none⟩ (.string x)).heap[k]?) :
    OwnDisk w (.slice A s.length c) (.slice (some ⟨g, 0, none⟩) n.length cap) s (n.set i x) Wf := by
  constructor
  · have h0 := Kd.R_step (w1 := W) (Kd.R_bound HR0) (fun k hk _ => HWh k (by have := hk.2.1; omega))
    refine Kd.R_lower (base := base) ?_ (by omega)
    refine Kd.R_mono (Kd.R_step h0 (fun k hk _ => ?_)) (fun k hk => hk.1)
    have hkg : k ≠ g := fun e => hk.1 (by rw [e]; rfl)
    rw [hfin k hk.2.1, Below.heap_setCell _ _ _ _ hkg]
  · have h1 := Kd.R_step (w1 := W) (Kd.R_bound HR1) (fun k hk _ => HWh k (by have := hk.2.1; omega))
    have h2 := Kd.R_putn h1 (i : Int) x
    rw [Int.toNat_natCast] at h2
    refine Kd.R_lower (base := base) ?_ (by omega)
    refine Kd.R_mono (Kd.R_step h2 (fun k hk _ => ?_)) (fun k hk => hk.1)
    exact hfin k hk.2.1
theorem heap4 (V : World) (b k : Nat) (u0 u1 u2 u3 : Value) (h0 : k ≠ b) (h1 : k ≠ b + 1) : (((((V.setCell ⟨b, 2, none⟩ u0).setCell ⟨b + 1, 0, none⟩ u1).setCell ⟨b + 1, 1, none⟩ u2).setCell ⟨b + 1, 2, none⟩ u3).drew).heap[k]? = V.heap[k]? := by
  show ((((V.setCell ⟨b, 2, none⟩ u0).setCell ⟨b + 1, 0, none⟩ u1).setCell ⟨b + 1, 1, none⟩ u2).setCell ⟨b + 1, 2, none⟩ u3).heap[k]? = _
  rw [Below.heap_setCell _ _ _ _ h1, Below.heap_setCell _ _ _ _ h1, Below.heap_setCell _ _ _ _ h1, Below.heap_setCell _ _ _ _ h0]
theorem below4 {w V : World} (h : Below w.heap.size w V) (u0 u1 u2 u3 : Value) : Below w.heap.size w (((((V.setCell ⟨w.heap.size, 2, none⟩ u0).setCell ⟨w.heap.size + 1, 0, none⟩ u1).setCell ⟨w.heap.size + 1, 1, none⟩ u2).setCell ⟨w.heap.size + 1, 2, none⟩ u3).drew) := by
  have h1 := h.setCell (p := ⟨w.heap.size, 2, none⟩) (Nat.le_refl _) u0
  have h2 := h1.setCell (p := ⟨w.heap.size + 1, 0, none⟩) (Nat.le_succ _) u1
  have h3 := h2.setCell (p := ⟨w.heap.size + 1, 1, none⟩) (Nat.le_succ _) u2
  exact (h3.setCell (p := ⟨w.heap.size + 1, 2, none⟩) (Nat.le_succ _) u3).drew
set_option maxHeartbeats 2000000 in
set_option maxRecDepth 100000 in
theorem write_long (A0 : Option Addr) (c0 : Nat) (s : List ByteArray) (A1 : Option Addr) (c1 : Nat) (n : List ByteArray) (f at_ : Int) (data : ByteArray) (w : World) (hr0 : Kd.C Kd.string w A0 s.length s) (hc0 : s.length ≤ c0) (hr1 : Kd.C Kd.string w A1 n.length n) (hc1 : n.length ≤ c1)
    (hR : Sec.rightB s n f = true) (hd : 58 < data.size) :
    Calls Try.prog 20 #[.agg #[.slice A0 s.length c0, .slice A1 n.length c1, .int .i64 f], .int .i64 at_, .string data] w
    (DiskPost w (([], [], 0), 4)) := by
  have HR := Lib.hid hR
  have H0 := Lib.hid hr0
  have H1 := Lib.hid hr1
  clear hR hr0 hr1
  go_enter Try.func20, Try.ntmps20
  go_wp2_with fail
  refine (sector_right_calls A0 c0 s A1 c1 n f _ (Kd.C_alloc (Kd.C_alloc H0.out _) _) hc0 (Kd.C_alloc (Kd.C_alloc H1.out _) _) hc1).mono ?_
  rintro e w1 ⟨rfl, hb1⟩
  rw [HR.out]
  obtain ⟨hc, hf⟩ := bcell hb1
  have q0 : w1.cell? ⟨w.heap.size, 0, none⟩ = some (.slice A0 s.length c0) := by rw [hc _ _ (by simp; omega)]; go_simp
  have q1 : w1.cell? ⟨w.heap.size, 1, none⟩ = some (.slice A1 n.length c1) := by rw [hc _ _ (by simp; omega)]; go_simp
  have q2 : w1.cell? ⟨w.heap.size, 2, none⟩ = some (.int .i64 f) := by rw [hc _ _ (by simp; omega)]; go_simp
  have q3 : w1.cell? ⟨w.heap.size + 1, 0, none⟩ = some (.slice none 0 0) := by rw [hc _ _ (by simp)]; go_simp
  have q4 : w1.cell? ⟨w.heap.size + 1, 1, none⟩ = some (.slice none 0 0) := by rw [hc _ _ (by simp)]; go_simp
  have q5 : w1.cell? ⟨w.heap.size + 1, 2, none⟩ = some (.int .i64 0) := by rw [hc _ _ (by simp)]; go_simp
  have f0 : ∀ o, w1.frozen? ⟨w.heap.size, o, none⟩ = false := fun o => by rw [hf _ _ (by simp; omega)]; go_simp
  have f1 : ∀ o, w1.frozen? ⟨w.heap.size + 1, o, none⟩ = false := fun o => by rw [hf _ _ (by simp)]; go_simp
  clear hc hf
  have hz : w.heap.size + 1 < w1.heap.size := by have := hb1.size; simp at this; omega
  have HB := Lib.hid ((((Below.refl _ _).alloc (Nat.le_refl _) _).alloc (by simp) _).trans (hb1.mono (by simp; omega)) : Below w.heap.size w w1)
  clear hb1
  go_wp2_with fail
  refine (seal_long data _ hd).mono ?_
  rintro e w' ⟨rfl, rfl⟩
  go_wp2_with fail
  refine bodyPost_ret (v := .tuple #[.agg #[.slice none 0 0, .slice none 0 0, .int .i64 0], .int .i64 4]) (by simp [results, Try.results20, go_sem, q3, q4, q5]) rfl ⟨_, _, rfl, own_nils _ _, ?_⟩
  exact ((HB.out.setCell (by simp) _).setCell (by simp) _).setCell (by simp) _
set_option maxHeartbeats 2000000 in
set_option maxRecDepth 100000 in
theorem write_rest (A0 : Option Addr) (c0 : Nat) (s : List ByteArray) (A1 : Option Addr) (c1 : Nat) (n : List ByteArray) (f at_ : Int) (data : ByteArray) (w : World) (hr0 : Kd.C Kd.string w A0 s.length s) (hc0 : s.length ≤ c0) (hr1 : Kd.C Kd.string w A1 n.length n) (hc1 : n.length ≤ c1)
    (hR : Sec.rightB s n f = true) (hd : data.size ≤ 58) (hsz : Sec.sizesB s n f = true) :
    Calls Try.prog 20 #[.agg #[.slice A0 s.length c0, .slice A1 n.length c1, .int .i64 f], .int .i64 at_, .string data] w
    (DiskPost w (writeR s n f at_ data)) := by
  have HW : Hid (writeR s n f at_ data = (if at_ < 0 ∨ (s.length : Int) ≤ at_ then (([], [], 0), 6) else if f = 0 then (([], [], 0), 7) else ((s, n.set at_.toNat (sealB data), burnI f), 0))) := by
    unfold writeR
    rw [hR, if_pos rfl, if_neg (by omega)]; exact Lib.hid rfl
  unfold Sec.sizesB at hsz
  simp at hsz
  obtain ⟨s512, hnl, fu1, fu2⟩ := hsz
  have HN := Lib.hid hnl
  clear hnl
  have HR := Lib.hid hR
  have H0 := Lib.hid hr0
  have H1 := Lib.hid hr1
  clear hR hr0 hr1
  go_enter Try.func20, Try.ntmps20
  go_wp2_with fail
  refine (sector_right_calls A0 c0 s A1 c1 n f _ (Kd.C_alloc (Kd.C_alloc H0.out _) _) hc0 (Kd.C_alloc (Kd.C_alloc H1.out _) _) hc1).mono ?_
  rintro e w1 ⟨rfl, hb1⟩
  rw [HR.out]
  obtain ⟨hc, hf⟩ := bcell hb1
  have q0 : w1.cell? ⟨w.heap.size, 0, none⟩ = some (.slice A0 s.length c0) := by rw [hc _ _ (by simp; omega)]; go_simp
  have q1 : w1.cell? ⟨w.heap.size, 1, none⟩ = some (.slice A1 n.length c1) := by rw [hc _ _ (by simp; omega)]; go_simp
  have q2 : w1.cell? ⟨w.heap.size, 2, none⟩ = some (.int .i64 f) := by rw [hc _ _ (by simp; omega)]; go_simp
  have q3 : w1.cell? ⟨w.heap.size + 1, 0, none⟩ = some (.slice none 0 0) := by rw [hc _ _ (by simp)]; go_simp
  have q4 : w1.cell? ⟨w.heap.size + 1, 1, none⟩ = some (.slice none 0 0) := by rw [hc _ _ (by simp)]; go_simp
  have q5 : w1.cell? ⟨w.heap.size + 1, 2, none⟩ = some (.int .i64 0) := by rw [hc _ _ (by simp)]; go_simp
  have f0 : ∀ o, w1.frozen? ⟨w.heap.size, o, none⟩ = false := fun o => by rw [hf _ _ (by simp; omega)]; go_simp
  have f1 : ∀ o, w1.frozen? ⟨w.heap.size + 1, o, none⟩ = false := fun o => by rw [hf _ _ (by simp)]; go_simp
  clear hc hf
  have hz : w.heap.size + 1 < w1.heap.size := by have := hb1.size; simp at this; omega
  have HB := Lib.hid ((((Below.refl _ _).alloc (Nat.le_refl _) _).alloc (by simp) _).trans (hb1.mono (by simp; omega)) : Below w.heap.size w w1)
  clear hb1
  go_wp2_with fail
  refine (seal_calls data _ hd).mono ?_
  rintro e w2 ⟨rfl, hb_⟩
  obtain ⟨hc, hf⟩ := bcell hb_
  replace q0 := (hc w.heap.size 0 (by omega)).trans q0
  replace q1 := (hc w.heap.size 1 (by omega)).trans q1
  replace q2 := (hc w.heap.size 2 (by omega)).trans q2
  replace q3 := (hc (w.heap.size + 1) 0 (by omega)).trans q3
  replace q4 := (hc (w.heap.size + 1) 1 (by omega)).trans q4
  replace q5 := (hc (w.heap.size + 1) 2 (by omega)).trans q5
  replace f0 := fun o => (hf w.heap.size o (by omega)).trans (f0 o)
  replace f1 := fun o => (hf (w.heap.size + 1) o (by omega)).trans (f1 o)
  clear hc hf
  replace hz : w.heap.size + 1 < w2.heap.size := by have := hb_.size; omega
  replace HB := Lib.hid (HB.out.trans (Below.mono hb_ HB.out.size))
  clear hb_
  by_cases h1 : at_ < 0
  · go_wp2_with fail
    rw [HW.out, if_pos (Or.inl h1)]
    refine bodyPost_ret (v := .tuple #[.agg #[.slice none 0 0, .slice none 0 0, .int .i64 0], .int .i64 6]) (by simp [results, Try.results20, go_sem, q3, q4, q5]) rfl ⟨_, _, rfl, own_nils _ _, ?_⟩
    exact ((HB.out.setCell (by simp) _).setCell (by simp) _).setCell (by simp) _
  · by_cases h2 : (s.length : Int) ≤ at_
    · go_wp2_with fail
      rw [HW.out, if_pos (Or.inr h2)]
      refine bodyPost_ret (v := .tuple #[.agg #[.slice none 0 0, .slice none 0 0, .int .i64 0], .int .i64 6]) (by simp [results, Try.results20, go_sem, q3, q4, q5]) rfl ⟨_, _, rfl, own_nils _ _, ?_⟩
      exact ((HB.out.setCell (by simp) _).setCell (by simp) _).setCell (by simp) _
    · by_cases h3 : f = 0
      · subst h3
        go_wp2_with fail
        rw [HW.out, if_neg (by omega), if_pos (by trivial)]
        refine bodyPost_ret (v := .tuple #[.agg #[.slice none 0 0, .slice none 0 0, .int .i64 0], .int .i64 7]) (by simp [results, Try.results20, go_sem, q3, q4, q5]) rfl ⟨_, _, rfl, own_nils _ _, ?_⟩
        exact ((HB.out.setCell (by simp) _).setCell (by simp) _).setCell (by simp) _
      · have h3b : (f == 0) = false := beq_eq_false_iff_ne.2 h3
        have H3 := Lib.hid h3
        clear h3
        have HC0 := Lib.hid (Kd.C_below H0.out HB.out)
        have HC1 := Lib.hid (Kd.C_below H1.out HB.out)
        go_wp2_with fail
        refine (sector_own.calls A0 c0 s A1 c1 n f s n f _ HC0.out hc0 HC1.out hc1 ?_).mono ?_
        · unfold sector_own.f slices_Clone_string_string.f
          rw [if_pos (by omega), if_pos (by have := HN.out; omega)]; rfl
        rintro e w3 ⟨v0, v1, rfl, hR0, hR1, hb_⟩
        have hzo := hz
        obtain ⟨hc, hf⟩ := bcell hb_
        replace q0 := (hc w.heap.size 0 (by omega)).trans q0
        replace q1 := (hc w.heap.size 1 (by omega)).trans q1
        replace q2 := (hc w.heap.size 2 (by omega)).trans q2
        replace q3 := (hc (w.heap.size + 1) 0 (by omega)).trans q3
        replace q4 := (hc (w.heap.size + 1) 1 (by omega)).trans q4
        replace q5 := (hc (w.heap.size + 1) 2 (by omega)).trans q5
        replace f0 := fun o => (hf w.heap.size o (by omega)).trans (f0 o)
        replace f1 := fun o => (hf (w.heap.size + 1) o (by omega)).trans (f1 o)
        clear hc hf
        replace hz : w.heap.size + 1 < w3.heap.size := by have := hb_.size; omega
        replace HB := Lib.hid (HB.out.trans (Below.mono hb_ HB.out.size))
        clear hb_
        obtain ⟨g, cap, rfl, hg1, hg2, -⟩ := Kd.R_form hR1 (by have := HN.out; omega)
        obtain ⟨A, c, rfl⟩ := Kd.R_slice hR0
        obtain ⟨hcell, hfroz⟩ := Kd.R_celln ByteArray.empty hR1 at_ (by omega) (by have := HN.out; omega)
        have HR0 := Lib.hid hR0
        have HR1 := Lib.hid hR1
        clear hR0 hR1
        obtain ⟨i, rfl⟩ := Int.eq_ofNat_of_zero_le (show 0 ≤ at_ by omega)
        rw [Int.toNat_natCast] at hcell hfroz
        have gne : g ≠ w.heap.size := by omega
        have gne1 : g ≠ w.heap.size + 1 := by omega
        have hin : i < n.length := by have := HN.out; omega
        have hbf := Lib.hid (burn_f f (by omega) (by omega))
        go_wp2_with fail
        have gne2 : w.heap.size ≠ g := fun e => gne e.symm
        have gne3 : w.heap.size + 1 ≠ g := fun e => gne1 e.symm
        have hii : (i : Int) < (n.length : Int) := by omega
        obtain ⟨W, hW⟩ : ∃ W, W = ((w3.setCell ⟨w.heap.size, 0, none⟩ (.slice A s.length c)).setCell ⟨w.heap.size, 1, none⟩ (.slice (some ⟨g, 0, none⟩) n.length cap)).setCell ⟨w.heap.size, 2, none⟩ (.int .i64 f) := ⟨_, rfl⟩
        have k0 : W.cell? ⟨w.heap.size, 0, none⟩ = some (.slice A s.length c) := by rw [hW]; go_simp
        have k1 : W.cell? ⟨w.heap.size, 1, none⟩ = some (.slice (some ⟨g, 0, none⟩) n.length cap) := by rw [hW]; go_simp
        have k2 : W.cell? ⟨w.heap.size, 2, none⟩ = some (.int .i64 f) := by rw [hW]; go_simp
        have k3 : W.cell? ⟨w.heap.size + 1, 0, none⟩ = some (.slice none 0 0) := by rw [hW]; go_simp
        have k4 : W.cell? ⟨w.heap.size + 1, 1, none⟩ = some (.slice none 0 0) := by rw [hW]; go_simp
        have k5 : W.cell? ⟨w.heap.size + 1, 2, none⟩ = some (.int .i64 0) := by rw [hW]; go_simp
        have kg : W.cell? ⟨g, i, none⟩ = some (.string (rdOf ByteArray.empty n i)) := by rw [hW]; go_simp
        have j0 : ∀ o, W.frozen? ⟨w.heap.size, o, none⟩ = false := fun o => by rw [hW]; go_simp
        have j1 : ∀ o, W.frozen? ⟨w.heap.size + 1, o, none⟩ = false := fun o => by rw [hW]; go_simp
        have jg : W.frozen? ⟨g, i, none⟩ = false := by rw [hW]; go_simp
        have HWB : Hid (Below w.heap.size w W) := Lib.hid (by rw [hW]; exact ((HB.out.setCell (by simp) _).setCell (by simp) _).setCell (by simp) _)
        have HWh : Hid (∀ b, b ≠ w.heap.size → W.heap[b]? = w3.heap[b]?) := Lib.hid (fun b hb => by rw [hW, Below.heap_setCell _ _ _ _ hb, Below.heap_setCell _ _ _ _ hb, Below.heap_setCell _ _ _ _ hb])
        rw [← hW]
        clear q0 q1 q2 q3 q4 q5 f0 f1 hcell hfroz hW
        go_region_with ((refine (burn_same f _ (by omega) (by omega)).mono ?_; rintro e w4 ⟨rfl, rfl⟩))
        all_goals go_wp2_with fail
        all_goals
          rw [HW.out, if_neg (by omega), if_neg H3.out]
          refine bodyPost_ret (v := .tuple #[.agg #[.slice A s.length c, .slice (some ⟨g, 0, none⟩) n.length cap, .int .i64 (burnI f)], .int .i64 0]) (by simp [results, Try.results20, go_sem, k0, k1, k2, k3, k4, k5, kg]) rfl ?_
          have hfin := write_fin w w3 W _ w2.heap.size g i c cap A s n (sealB data) HR0.out HR1.out hzo HWh.out (fun k hk => heap4 (W.setCell ⟨g, i, none⟩ (.string (sealB data))) w.heap.size k (.int .i64 (burnI f)) (.slice A s.length c) (.slice (some ⟨g, 0, none⟩) n.length cap) (.int .i64 (burnI f)) (by omega) (by omega))
          refine ⟨_, _, rfl, ?_, below4 (HWB.out.setCell (p := ⟨g, i, none⟩) (by show w.heap.size ≤ g; omega) _) _ _ _ _⟩
          rw [Int.toNat_natCast]; exact hfin
end Go.Proofs.Ytmefdlajjbcljaa
