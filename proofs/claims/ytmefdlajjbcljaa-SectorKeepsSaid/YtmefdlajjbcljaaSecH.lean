import Derived.Test.YtmefdlajjbcljaaSecG
import Derived.Test.YtmefdlajjbcljaaSecC
import Derived.Test.YtmefdlajjbcljaaPS8x2
namespace Go.Proofs.Ytmefdlajjbcljaa
open Go.RowKit Go.Proofs.Ytmefdlajjbcljaa.PS8 Go.Proofs.YtmefdlajjbcljaaW.PrintWords
set_option linter.unusedVariables false
set_option linter.unusedSimpArgs false

/-- A store that can be read. -/
def Disk (w : World) (A0 : Option Addr) (c0 : Nat) (A1 : Option Addr) (c1 : Nat) (s n : List ByteArray) : Prop :=
  Kd.C Kd.string w A0 s.length s ∧ s.length ≤ c0 ∧ Kd.C Kd.string w A1 n.length n ∧ n.length ≤ c1
theorem Disk.below {w w1 : World} {A0 A1 : Option Addr} {c0 c1 : Nat} {s n : List ByteArray} (h : Disk w A0 c0 A1 c1 s n) (hb : Below w.heap.size w w1) : Disk w1 A0 c0 A1 c1 s n :=
  ⟨Kd.C_below h.1 hb, h.2.1, Kd.C_below h.2.2.1 hb, h.2.2.2⟩
theorem Disk.alloc {w : World} {A0 A1 : Option Addr} {c0 c1 : Nat} {s n : List ByteArray} (h : Disk w A0 c0 A1 c1 s n) (o : Obj) : Disk (w.alloc o) A0 c0 A1 c1 s n :=
  h.below ((Below.refl _ _).alloc (Nat.le_refl _) _)
theorem OwnDisk.other {W0 w : World} {v0 v1 : Value} {s n : List ByteArray} (h : OwnDisk W0 v0 v1 s n w) {p : Addr} (hp : p.block < W0.heap.size) (u : Value) : OwnDisk W0 v0 v1 s n (w.setCell p u) :=
  ⟨Kd.R_mono (Kd.R_far (Kd.R_bound h.1) (fun k hk => by have := hk.2.1; omega) u) (fun k hk => hk.1),
   Kd.R_mono (Kd.R_far (Kd.R_bound h.2) (fun k hk => by have := hk.2.1; omega) u) (fun k hk => hk.1)⟩
theorem OwnDisk.below {W0 w w1 : World} {v0 v1 : Value} {s n : List ByteArray} (h : OwnDisk W0 v0 v1 s n w) (hb : Below w.heap.size w w1) : OwnDisk W0 v0 v1 s n w1 := ⟨Kd.R_below h.1 hb, Kd.R_below h.2 hb⟩
theorem OwnDisk.form {W0 w : World} {v0 v1 : Value} {s n : List ByteArray} (h : OwnDisk W0 v0 v1 s n w) : ∃ A0 c0 A1 c1, v0 = .slice A0 s.length c0 ∧ v1 = .slice A1 n.length c1 := by
  obtain ⟨A0, c0, rfl⟩ := Kd.R_slice h.1
  obtain ⟨A1, c1, rfl⟩ := Kd.R_slice h.2
  exact ⟨A0, c0, A1, c1, rfl, rfl⟩
theorem OwnDisk.reads {W0 w : World} {A0 A1 : Option Addr} {m0 m1 c0 c1 : Nat} {s n : List ByteArray} (h : OwnDisk W0 (.slice A0 m0 c0) (.slice A1 m1 c1) s n w) : Disk w A0 c0 A1 c1 s n := by
  obtain ⟨h1, h2, h3⟩ := Kd.R_reads' h.1
  obtain ⟨g1, g2, g3⟩ := Kd.R_reads' h.2
  exact ⟨h3, by omega, g3, by omega⟩
/-- What a call leaves that makes a store. -/
def Made (W0 : World) (X : (List ByteArray × List ByteArray × Int) × Int) (e : Ending) (w : World) : Prop :=
  ∃ A0 c0 A1 c1, e = .returned (.tuple #[.agg #[.slice A0 X.1.1.length c0, .slice A1 X.1.2.1.length c1, .int .i64 X.1.2.2], .int .i64 X.2]) ∧ OwnDisk W0 (.slice A0 X.1.1.length c0) (.slice A1 X.1.2.1.length c1) X.1.1 X.1.2.1 w ∧ Below W0.heap.size W0 w
theorem made_of {w : World} {X : (List ByteArray × List ByteArray × Int) × Int} {e : Ending} {w' : World} (h : DiskPost w X e w') : Made w X e w' := by
  obtain ⟨v0, v1, he, ho, hb⟩ := h
  obtain ⟨A0, c0, A1, c1, rfl, rfl⟩ := ho.form
  exact ⟨A0, c0, A1, c1, he, ho, hb⟩
theorem new_m (n f : Int) (w : World) : Calls Try.prog 19 #[.int .i64 n, .int .i64 f] w (Made w (newR n f)) := (new_calls n f w).mono fun _ _ h => made_of h
theorem write_m {A0 : Option Addr} {c0 : Nat} {s : List ByteArray} {A1 : Option Addr} {c1 : Nat} {n : List ByteArray} {w : World} (h : Disk w A0 c0 A1 c1 s n) (f at_ : Int) (data : ByteArray) :
    Calls Try.prog 20 #[.agg #[.slice A0 s.length c0, .slice A1 n.length c1, .int .i64 f], .int .i64 at_, .string data] w (Made w (writeR s n f at_ data)) :=
  (write_calls A0 c0 s A1 c1 n f at_ data w h.1 h.2.1 h.2.2.1 h.2.2.2).mono fun _ _ h => made_of h
theorem sync_m {A0 : Option Addr} {c0 : Nat} {s : List ByteArray} {A1 : Option Addr} {c1 : Nat} {n : List ByteArray} {w : World} (h : Disk w A0 c0 A1 c1 s n) (f : Int) :
    Calls Try.prog 21 #[.agg #[.slice A0 s.length c0, .slice A1 n.length c1, .int .i64 f]] w (Made w (syncR s n f)) :=
  (sync_calls A0 c0 s A1 c1 n f w h.1 h.2.1 h.2.2.1 h.2.2.2).mono fun _ _ h => made_of h
theorem crash_m {A0 : Option Addr} {c0 : Nat} {s : List ByteArray} {A1 : Option Addr} {c1 : Nat} {n : List ByteArray} {w : World} (h : Disk w A0 c0 A1 c1 s n) (f : Int) {Ak : Option Addr} {ck : Nat} {keep : List Int} (hk : Kd.C (Kd.int .i64) w Ak keep.length keep) (hck : keep.length ≤ ck) :
    Calls Try.prog 22 #[.agg #[.slice A0 s.length c0, .slice A1 n.length c1, .int .i64 f], .slice Ak keep.length ck] w (Made w (crashR s n f keep)) :=
  (crash_calls A0 c0 s A1 c1 n f Ak ck keep w h.1 h.2.1 h.2.2.1 h.2.2.2 hk hck).mono fun _ _ h => made_of h
theorem rdOf_int (l : List ByteArray) (i : Int) : rdOf ByteArray.empty l i = rdOf ByteArray.empty l ((i.toNat : Nat) : Int) := by unfold rdOf; rw [Int.toNat_natCast]
theorem read_f (s n : List ByteArray) (f at_ : Int) : sector_Read.f 1 s n f at_ = some (readR s n f at_) := by
  unfold sector_Read.f readR
  simp only [sector_Right.f, sector_Open.f]
  cases hR : Sec.rightB s n f with
  | false => rfl
  | true =>
    have hsz := sizes_right hR
    have h2 := (Bool.and_eq_true_iff.1 (Bool.and_eq_true_iff.1 hsz).2).1
    have hnl : n.length = s.length := of_decide_eq_true h2
    rw [if_pos rfl]
    simp only [Option.bind_some, if_true]
    by_cases h1 : at_ < 0
    · rw [if_pos h1, if_pos (Or.inl h1)]; rfl
    · rw [if_neg h1]
      by_cases h3 : (s.length : Int) ≤ at_
      · rw [if_pos (Or.inr h3), decide_eq_true (by omega)]; rfl
      · rw [if_neg (by omega), decide_eq_false (by omega)]
        obtain ⟨i, rfl⟩ := Int.eq_ofNat_of_zero_le (show 0 ≤ at_ by omega)
        simp only [sector_Read.j0, now_f s n f i (by omega) (by omega), sector_Open.f]
        rfl
theorem read_m {A0 : Option Addr} {c0 : Nat} {s : List ByteArray} {A1 : Option Addr} {c1 : Nat} {n : List ByteArray} {w : World} (h : Disk w A0 c0 A1 c1 s n) (f at_ : Int) :
    Calls Try.prog 23 #[.agg #[.slice A0 s.length c0, .slice A1 n.length c1, .int .i64 f], .int .i64 at_] w fun e w' => e = .returned (.tuple #[.string (readR s n f at_).1, .int .i64 (readR s n f at_).2]) ∧ Below w.heap.size w w' :=
  sector_Read.calls 1 A0 c0 s A1 c1 n f at_ _ _ w h.1 h.2.1 h.2.2.1 h.2.2.2 (read_f s n f at_)
/-- A store of a law's own, in a variable. -/
structure DVar (w : World) (b : Nat) (A0 : Option Addr) (c0 : Nat) (A1 : Option Addr) (c1 : Nat) (S N : List ByteArray) (f : Int) (W : World) : Prop where
  box : BoxD b (.slice A0 S.length c0) (.slice A1 N.length c1) (.int .i64 f) W
  disk : Disk W A0 c0 A1 c1 S N
  below : Below w.heap.size w W
  le : w.heap.size ≤ b
theorem DVar.mk_new {w w1 : World} {A0 A1 : Option Addr} {c0 c1 : Nat} {S N : List ByteArray} (ho : OwnDisk w (.slice A0 S.length c0) (.slice A1 N.length c1) S N w1) (hb : Below w.heap.size w w1) (f : Int) :
    DVar w w1.heap.size A0 c0 A1 c1 S N f (w1.alloc (.cells #[.slice A0 S.length c0, .slice A1 N.length c1, .int .i64 f] 30)) :=
  ⟨heap_alloc_new w1 _, ho.reads.alloc _, hb.alloc hb.size _, hb.size⟩
theorem DVar.lt {w : World} {b : Nat} {A0 A1 : Option Addr} {c0 c1 : Nat} {S N : List ByteArray} {f : Int} {W : World} (h : DVar w b A0 c0 A1 c1 S N f W) : b < W.heap.size := blk_lt h.box
theorem DVar.step {w : World} {b : Nat} {A0 A1 : Option Addr} {c0 c1 : Nat} {S N : List ByteArray} {f : Int} {W W1 : World} (h : DVar w b A0 c0 A1 c1 S N f W) (hb : Below W.heap.size W W1) : DVar w b A0 c0 A1 c1 S N f W1 :=
  ⟨h.box.below hb, h.disk.below hb, h.below.trans (Below.mono hb h.below.size), h.le⟩
theorem DVar.put {w : World} {b : Nat} {A0 A1 : Option Addr} {c0 c1 : Nat} {S N : List ByteArray} {f : Int} {W W1 : World} (h : DVar w b A0 c0 A1 c1 S N f W) {A0' A1' : Option Addr} {c0' c1' : Nat} {S' N' : List ByteArray}
    (ho : OwnDisk W (.slice A0' S'.length c0') (.slice A1' N'.length c1') S' N' W1) (hb : Below W.heap.size W W1) (f' : Int) :
    DVar w b A0' c0' A1' c1' S' N' f' (((W1.setCell ⟨b, 0, none⟩ (.slice A0' S'.length c0')).setCell ⟨b, 1, none⟩ (.slice A1' N'.length c1')).setCell ⟨b, 2, none⟩ (.int .i64 f')) := by
  have hl := h.lt
  refine ⟨(((h.box.below hb).set0 _).set1 _).set2 _, ?_, ?_, h.le⟩
  · exact (((ho.other (p := ⟨b, 0, none⟩) hl _).other (p := ⟨b, 1, none⟩) hl _).other (p := ⟨b, 2, none⟩) hl _).reads
  · exact (((h.below.trans (Below.mono hb h.below.size)).setCell (p := ⟨b, 0, none⟩) h.le _).setCell (p := ⟨b, 1, none⟩) h.le _).setCell (p := ⟨b, 2, none⟩) h.le _
end Go.Proofs.Ytmefdlajjbcljaa
