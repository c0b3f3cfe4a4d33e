import Derived.Test.YtmefdlajjbcljaaKeepP
namespace Go.Proofs.Ytmefdlajjbcljaa
open Go.RowKit Go.Proofs.Ytmefdlajjbcljaa.PS8 Go.Proofs.YtmefdlajjbcljaaW.PrintWords
set_option linter.unusedVariables false
set_option linter.unusedSimpArgs false

/-- A block known whole. -/
def RowV (t : TypeId) (g : Nat) (vs : List Value) (w : World) : Prop := w.heap[g]? = some (.cells vs.toArray t (0, 0))
namespace RowV
variable {t : TypeId} {g : Nat} {vs : List Value} {w w1 : World}
theorem below (h : RowV t g vs w) (hb : Below w.heap.size w w1) : RowV t g vs w1 := blk_below h hb
theorem far (h : RowV t g vs w) {p : Addr} (hp : g ≠ p.block) (u : Value) : RowV t g vs (w.setCell p u) := by
  unfold RowV at *; rw [Below.heap_setCell _ _ _ _ hp]; exact h
theorem far3 (h : RowV t g vs w) {b : Nat} (hg : g ≠ b) (u0 u1 u2 : Value) : RowV t g vs (((w.setCell ⟨b, 0, none⟩ u0).setCell ⟨b, 1, none⟩ u1).setCell ⟨b, 2, none⟩ u2) :=
  ((h.far (p := ⟨b, 0, none⟩) hg _).far (p := ⟨b, 1, none⟩) hg _).far (p := ⟨b, 2, none⟩) hg _
theorem lt (h : RowV t g vs w) : g < w.heap.size := blk_lt h
theorem f (h : RowV t g vs w) (i : Nat) : w.frozen? ⟨g, i, none⟩ = false := frozen_of_row w g i _ _ h
theorem cell (h : RowV t g vs w) (j : Nat) {v : Value} (hj : vs[j]? = some v) : w.cell? ⟨g, j, none⟩ = some v := by
  rw [cell_of_row _ _ _ _ _ _ h, List.getElem?_toArray]; exact hj
theorem set (h : RowV t g vs w) (j : Nat) (v : Value) : RowV t g (vs.set j v) (w.setCell ⟨g, j, none⟩ v) := by
  unfold RowV at *
  rw [World.setCell]
  simp only [Array.getElem?_modify, if_true, h, Option.map_some]
  simp
end RowV
abbrev RowS (g : Nat) (L : List ByteArray) (w : World) : Prop := RowV 9 g (L.map Value.string) w
abbrev RowB (g : Nat) (L : List Bool) (w : World) : Prop := RowV 4 g (L.map Value.bool) w
theorem RowS.at (g : Nat) (L : List ByteArray) (w : World) (h : RowS g L w) (j : Nat) (hj : j < L.length) : w.cell? ⟨g, j, none⟩ = some (.string (rdOf ByteArray.empty L (j : Int))) :=
  h.cell j (by rw [List.getElem?_map, List.getElem?_eq_getElem hj, gd_get _ hj]; rfl)
theorem RowB.at (g : Nat) (L : List Bool) (w : World) (h : RowB g L w) (j : Nat) (hj : j < L.length) : w.cell? ⟨g, j, none⟩ = some (.bool (rdOf false L (j : Int))) :=
  h.cell j (by rw [List.getElem?_map, List.getElem?_eq_getElem hj, gd_get _ hj]; rfl)
theorem RowS.put (g : Nat) (L : List ByteArray) (w : World) (h : RowS g L w) (j : Nat) (x : ByteArray) : RowS g (L.set j x) (w.setCell ⟨g, j, none⟩ (.string x)) := by
  have := RowV.set h j (.string x)
  unfold RowS
  rw [List.map_set]; exact this
theorem RowB.put (g : Nat) (L : List Bool) (w : World) (h : RowB g L w) (j : Nat) (x : Bool) : RowB g (L.set j x) (w.setCell ⟨g, j, none⟩ (.bool x)) := by
  have := RowV.set h j (.bool x)
  unfold RowB
  rw [List.map_set]; exact this
theorem Sec.bool_info : ∃ i, Try.prog.info? 4 = some i ∧ i.zero = some (.bool false) ∧ i.size = 1 ∧ i.bytes = 1 := by
  have h : (Try.prog.info? 4).map (fun i => (i.size, i.bytes)) = some (1, 1) := by kernel_rfl
  have h2 : (Try.prog.info? 4).bind (fun i => i.zero) = some (.bool false) := by kernel_rfl
  cases hq : Try.prog.info? 4 with
  | none => rw [hq] at h; cases h
  | some i =>
    rw [hq] at h h2
    have h3 := Option.some.inj h
    exact ⟨i, rfl, h2, congrArg Prod.fst h3, congrArg Prod.snd h3⟩
theorem Sec.make_bools (w : World) (n : Nat) (hn : n ≤ 1000000) : (Instr.makeSlice 47 (.int .i64 n) (.int .i64 n)).run Try.prog w = .ok (.slice (some ⟨w.heap.size, 0, none⟩) n n) (w.alloc (.cells (List.replicate n (Value.bool false)).toArray 4)) := by
  obtain ⟨i, hi, hz, h1, h16⟩ := Sec.bool_info
  have := run_makeSlice (P := Try.prog) (w := w) 47 4 i _ (by kernel_rfl) hi hz .i64 .i64 (n : Int) (n : Int) (by omega) (Int.le_refl _) (by rw [h1]; omega) (by rw [h16]; omega) (by omega)
  rw [this, h1, Int.toNat_natCast, Nat.mul_one]
  show Result.ok _ (w.alloc (.cells (madeCells #[.bool false] n) _)) = _
  rw [Sec.made_one]
/-- An act. -/
structure SAct where
  f0 : Int
  f1 : Int
  f2 : ByteArray
  f3 : List Int
def zAct : SAct := ⟨0, 0, ⟨#[]⟩, []⟩
def kAct : Kd SAct := Kd.iso (Kd.pair (Kd.int .i64) (Kd.pair (Kd.int .i64) (Kd.pair Kd.string (Kd.slice 3 (Kd.int .i64))))) (fun x : SAct => (x.f0, x.f1, x.f2, x.f3))
theorem kAct_open {w : World} {x : SAct} {cs : List Value} (h : kAct.K w x cs) : ∃ A0 c0, cs = [.int .i64 x.f0, .int .i64 x.f1, .string x.f2, .slice A0 x.f3.length c0] ∧ x.f3.length ≤ c0 ∧ (Kd.int .i64).C w A0 x.f3.length x.f3 := by
  obtain ⟨_, _, rfl, rfl, ⟨_, _, rfl, rfl, ⟨_, _, rfl, rfl, ⟨A0, c0, rfl, l0, g0⟩⟩⟩⟩ := h
  exact ⟨A0, c0, rfl, l0, g0⟩
def rdAct (xs : List SAct) (i : Int) : SAct := xs.getD i.toNat zAct
theorem atAct {w : World} {A : Option Addr} {n : Nat} {xs : List SAct} (h : Kd.C kAct w A n xs) (i : Int) (h0 : 0 ≤ i) (h1 : i < n) : ∃ ad A0 c0, A = some ad ∧ w.cell? (ad.add (i.toNat * 4)) = some (.int .i64 (rdAct xs i).f0) ∧ w.cell? ⟨(ad.add (i.toNat * 4)).block, (ad.add (i.toNat * 4)).off + 1, none⟩ = some (.int .i64 (rdAct xs i).f1) ∧ w.cell? ⟨(ad.add (i.toNat * 4)).block, (ad.add (i.toNat * 4)).off + 2, none⟩ = some (.string (rdAct xs i).f2) ∧ w.cell? ⟨(ad.add (i.toNat * 4)).block, (ad.add (i.toNat * 4)).off + 3, none⟩ = some (.slice A0 (rdAct xs i).f3.length c0) ∧ (rdAct xs i).f3.length ≤ c0 ∧ (Kd.int .i64).C w A0 (rdAct xs i).f3.length (rdAct xs i).f3 := by
  obtain ⟨ad, c, e, _, hK, hc0⟩ := Kd.C_get h zAct i h0 h1
  have hc : ∀ j u, c[j]? = some u → w.cell? (ad.add (i.toNat * 4 + j)) = some u := hc0
  obtain ⟨A0, c0, rfl, l0, g0⟩ := kAct_open hK
  exact ⟨ad, A0, c0, e, hc 0 _ rfl, by rw [← add_field _ _ 1 (by omega)]; exact hc 1 _ rfl, by rw [← add_field _ _ 2 (by omega)]; exact hc 2 _ rfl, by rw [← add_field _ _ 3 (by omega)]; exact hc 3 _ rfl, l0, g0⟩
/-- None of the five. -/
def Far5 (b gs gn gw gd k : Nat) : Prop := k ≠ b ∧ k ≠ gs ∧ k ≠ gn ∧ k ≠ gw ∧ k ≠ gd
/-- A store's rows, apart from the five. -/
def DiskF (b gs gn gw gd : Nat) (v0 v1 : Value) (S N : List ByteArray) (W : World) : Prop :=
  Kd.R Kd.string 9 W 0 (Far5 b gs gn gw gd) v0 S ∧ Kd.R Kd.string 9 W 0 (Far5 b gs gn gw gd) v1 N
namespace DiskF
variable {b gs gn gw gd : Nat} {v0 v1 : Value} {S N : List ByteArray} {W W1 W0 : World}
theorem below (h : DiskF b gs gn gw gd v0 v1 S N W) (hb : Below W.heap.size W W1) : DiskF b gs gn gw gd v0 v1 S N W1 := ⟨Kd.R_below h.1 hb, Kd.R_below h.2 hb⟩
theorem far (h : DiskF b gs gn gw gd v0 v1 S N W) {p : Addr} (hp : ¬ Far5 b gs gn gw gd p.block) (u : Value) : DiskF b gs gn gw gd v0 v1 S N (W.setCell p u) :=
  ⟨Kd.R_far h.1 (fun k hk e => hp (by rw [← e]; exact hk)) u, Kd.R_far h.2 (fun k hk e => hp (by rw [← e]; exact hk)) u⟩
theorem of_own (h : OwnDisk W0 v0 v1 S N W) (hf : ∀ k, W0.heap.size ≤ k → k < W.heap.size → Far5 b gs gn gw gd k) : DiskF b gs gn gw gd v0 v1 S N W :=
  ⟨Kd.R_lower (Kd.R_mono (Kd.R_bound h.1) (fun k hk => hf k hk.2.1 hk.2.2.1)) (Nat.zero_le _), Kd.R_lower (Kd.R_mono (Kd.R_bound h.2) (fun k hk => hf k hk.2.1 hk.2.2.1)) (Nat.zero_le _)⟩
theorem reads {A0 A1 : Option Addr} {m0 m1 c0 c1 : Nat} (h : DiskF b gs gn gw gd (.slice A0 m0 c0) (.slice A1 m1 c1) S N W) : Disk W A0 c0 A1 c1 S N := by
  obtain ⟨h1, h2, h3⟩ := Kd.R_reads' h.1
  obtain ⟨g1, g2, g3⟩ := Kd.R_reads' h.2
  exact ⟨h3, by omega, g3, by omega⟩
end DiskF
/-- What lies in memory while acts are gone through. -/
structure KW (w : World) (b gs gn gw gd m : Nat) (A0 : Option Addr) (c0 : Nat) (A1 : Option Addr) (c1 : Nat) (S N sure now : List ByteArray) (wild dirty : List Bool) (W : World) : Prop where
  box : BoxD b (.slice A0 m c0) (.slice A1 m c1) (.int .i64 (-1)) W
  disk : DiskF b gs gn gw gd (.slice A0 m c0) (.slice A1 m c1) S N W
  below : Below w.heap.size w W
  rs : RowS gs sure W
  rn : RowS gn now W
  rw : RowB gw wild W
  rd : RowB gd dirty W
/-- Five blocks apart, of the call's own. -/
structure Apart5 (w : World) (b gs gn gw gd : Nat) : Prop where
  le : w.heap.size ≤ b ∧ w.heap.size ≤ gs ∧ w.heap.size ≤ gn ∧ w.heap.size ≤ gw ∧ w.heap.size ≤ gd
  n1 : b ≠ gs ∧ b ≠ gn ∧ b ≠ gw ∧ b ≠ gd
  n2 : gs ≠ gn ∧ gs ≠ gw ∧ gs ≠ gd ∧ gn ≠ gw ∧ gn ≠ gd ∧ gw ≠ gd
theorem not_far {b gs gn gw gd k : Nat} (h : k = b ∨ k = gs ∨ k = gn ∨ k = gw ∨ k = gd) : ¬ Far5 b gs gn gw gd k := by
  unfold Far5; omega
namespace KW
variable {w W W1 W0 : World} {b gs gn gw gd m : Nat} {A0 A1 A0' A1' : Option Addr} {c0 c1 c0' c1' : Nat} {S N sure now S' N' : List ByteArray} {wild dirty : List Bool}
theorem step (h : KW w b gs gn gw gd m A0 c0 A1 c1 S N sure now wild dirty W) (hb : Below W.heap.size W W1) : KW w b gs gn gw gd m A0 c0 A1 c1 S N sure now wild dirty W1 :=
  ⟨h.box.below hb, h.disk.below hb, h.below.trans (Below.mono hb h.below.size), h.rs.below hb, h.rn.below hb, h.rw.below hb, h.rd.below hb⟩
/-- The five lie in the heap. -/
theorem lts (h : KW w b gs gn gw gd m A0 c0 A1 c1 S N sure now wild dirty W) : b < W.heap.size ∧ gs < W.heap.size ∧ gn < W.heap.size ∧ gw < W.heap.size ∧ gd < W.heap.size :=
  ⟨blk_lt h.box, h.rs.lt, h.rn.lt, h.rw.lt, h.rd.lt⟩
/-- A new store in the variable. -/
theorem put (h : KW w b gs gn gw gd m A0 c0 A1 c1 S N sure now wild dirty W) (ap : Apart5 w b gs gn gw gd) (hb : Below W.heap.size W W1)
    (ho : OwnDisk W (.slice A0' m c0') (.slice A1' m c1') S' N' W1) :
    KW w b gs gn gw gd m A0' c0' A1' c1' S' N' sure now wild dirty (((W1.setCell ⟨b, 0, none⟩ (.slice A0' m c0')).setCell ⟨b, 1, none⟩ (.slice A1' m c1')).setCell ⟨b, 2, none⟩ (.int .i64 (-1))) := by
  obtain ⟨l1, l2, l3, l4, l5⟩ := h.lts
  have h1 := h.step hb
  obtain ⟨n1, n2, n3, n4⟩ := ap.n1
  have hd : DiskF b gs gn gw gd (.slice A0' m c0') (.slice A1' m c1') S' N' W1 := DiskF.of_own ho (fun k hk _ => ⟨by omega, by omega, by omega, by omega, by omega⟩)
  have nb : ¬ Far5 b gs gn gw gd b := not_far (Or.inl rfl)
  exact ⟨((h1.box.set0 _).set1 _).set2 _, ((hd.far (p := ⟨b, 0, none⟩) nb _).far (p := ⟨b, 1, none⟩) nb _).far (p := ⟨b, 2, none⟩) nb _, below_set3 h1.below ap.le.1 _ _ _, h1.rs.far3 (fun e => n1 e.symm) _ _ _, h1.rn.far3 (fun e => n2 e.symm) _ _ _, h1.rw.far3 (fun e => n3 e.symm) _ _ _, h1.rd.far3 (fun e => n4 e.symm) _ _ _⟩
theorem setS (h : KW w b gs gn gw gd m A0 c0 A1 c1 S N sure now wild dirty W) (ap : Apart5 w b gs gn gw gd) (j : Nat) (x : ByteArray) : KW w b gs gn gw gd m A0 c0 A1 c1 S N (sure.set j x) now wild dirty (W.setCell ⟨gs, j, none⟩ (.string x)) := by
  obtain ⟨n1, n2, n3, n4⟩ := ap.n1
  obtain ⟨m1, m2, m3, m4, m5, m6⟩ := ap.n2
  exact ⟨h.box.far (p := ⟨gs, j, none⟩) n1 _, h.disk.far (p := ⟨gs, j, none⟩) (not_far (Or.inr (Or.inl rfl))) _, h.below.setCell (p := ⟨gs, j, none⟩) ap.le.2.1 _, RowS.put _ _ _ h.rs j x, h.rn.far (p := ⟨gs, j, none⟩) (fun e => m1 e.symm) _, h.rw.far (p := ⟨gs, j, none⟩) (fun e => m2 e.symm) _, h.rd.far (p := ⟨gs, j, none⟩) (fun e => m3 e.symm) _⟩
theorem setN (h : KW w b gs gn gw gd m A0 c0 A1 c1 S N sure now wild dirty W) (ap : Apart5 w b gs gn gw gd) (j : Nat) (x : ByteArray) : KW w b gs gn gw gd m A0 c0 A1 c1 S N sure (now.set j x) wild dirty (W.setCell ⟨gn, j, none⟩ (.string x)) := by
  obtain ⟨n1, n2, n3, n4⟩ := ap.n1
  obtain ⟨m1, m2, m3, m4, m5, m6⟩ := ap.n2
  exact ⟨h.box.far (p := ⟨gn, j, none⟩) n2 _, h.disk.far (p := ⟨gn, j, none⟩) (not_far (Or.inr (Or.inr (Or.inl rfl)))) _, h.below.setCell (p := ⟨gn, j, none⟩) ap.le.2.2.1 _, h.rs.far (p := ⟨gn, j, none⟩) m1 _, RowS.put _ _ _ h.rn j x, h.rw.far (p := ⟨gn, j, none⟩) (fun e => m4 e.symm) _, h.rd.far (p := ⟨gn, j, none⟩) (fun e => m5 e.symm) _⟩
theorem setW (h : KW w b gs gn gw gd m A0 c0 A1 c1 S N sure now wild dirty W) (ap : Apart5 w b gs gn gw gd) (j : Nat) (x : Bool) : KW w b gs gn gw gd m A0 c0 A1 c1 S N sure now (wild.set j x) dirty (W.setCell ⟨gw, j, none⟩ (.bool x)) := by
  obtain ⟨n1, n2, n3, n4⟩ := ap.n1
  obtain ⟨m1, m2, m3, m4, m5, m6⟩ := ap.n2
  exact ⟨h.box.far (p := ⟨gw, j, none⟩) n3 _, h.disk.far (p := ⟨gw, j, none⟩) (not_far (Or.inr (Or.inr (Or.inr (Or.inl rfl))))) _, h.below.setCell (p := ⟨gw, j, none⟩) ap.le.2.2.2.1 _, h.rs.far (p := ⟨gw, j, none⟩) m2 _, h.rn.far (p := ⟨gw, j, none⟩) m4 _, RowB.put _ _ _ h.rw j x, h.rd.far (p := ⟨gw, j, none⟩) (fun e => m6 e.symm) _⟩
theorem setD (h : KW w b gs gn gw gd m A0 c0 A1 c1 S N sure now wild dirty W) (ap : Apart5 w b gs gn gw gd) (j : Nat) (x : Bool) : KW w b gs gn gw gd m A0 c0 A1 c1 S N sure now wild (dirty.set j x) (W.setCell ⟨gd, j, none⟩ (.bool x)) := by
  obtain ⟨n1, n2, n3, n4⟩ := ap.n1
  obtain ⟨m1, m2, m3, m4, m5, m6⟩ := ap.n2
  exact ⟨h.box.far (p := ⟨gd, j, none⟩) n4 _, h.disk.far (p := ⟨gd, j, none⟩) (not_far (Or.inr (Or.inr (Or.inr (Or.inr rfl))))) _, h.below.setCell (p := ⟨gd, j, none⟩) ap.le.2.2.2.2 _, h.rs.far (p := ⟨gd, j, none⟩) m3 _, h.rn.far (p := ⟨gd, j, none⟩) m5 _, h.rw.far (p := ⟨gd, j, none⟩) m6 _, RowB.put _ _ _ h.rd j x⟩
theorem write (h : KW w b gs gn gw gd m A0 c0 A1 c1 S N sure now wild dirty W) (hi : KInv m S N sure now wild dirty) (j : Nat) (hj : j < m) (s : ByteArray) (hs : s.size ≤ 58) :
    Calls Try.prog 20 #[.agg #[.slice A0 m c0, .slice A1 m c1, .int .i64 (-1)], .int .i64 j, .string s] W (MadeI W m S (N.set j (sealB s)) (-1) 0) := by
  have := write_m h.disk.reads (-1) (j : Int) s
  rw [hi.write_R j hj s hs, hi.hS, hi.hN] at this
  exact this.mono fun _ _ hm => made_i hm hi.hS (by rw [List.length_set]; exact hi.hN)
theorem sync (h : KW w b gs gn gw gd m A0 c0 A1 c1 S N sure now wild dirty W) (hi : KInv m S N sure now wild dirty) :
    Calls Try.prog 21 #[.agg #[.slice A0 m c0, .slice A1 m c1, .int .i64 (-1)]] W (MadeI W m (nowL S N) (List.replicate m ⟨#[]⟩) (-1) 0) := by
  have := sync_m h.disk.reads (-1)
  rw [hi.sync_R, hi.hS, hi.hN] at this
  exact this.mono fun _ _ hm => made_i hm (by rw [nowL_length _ _ (by rw [hi.hN, hi.hS])]; exact hi.hS) (by simp)
theorem crash (h : KW w b gs gn gw gd m A0 c0 A1 c1 S N sure now wild dirty W) (hi : KInv m S N sure now wild dirty) {Ak : Option Addr} {ck : Nat} {keep : List Int} (hk : Kd.C (Kd.int .i64) W Ak keep.length keep) (hck : keep.length ≤ ck) :
    Calls Try.prog 22 #[.agg #[.slice A0 m c0, .slice A1 m c1, .int .i64 (-1)], .slice Ak keep.length ck] W (MadeI W m (crL S N keep) (List.replicate m ⟨#[]⟩) (-1) 0) := by
  have := crash_m h.disk.reads (-1) hk hck
  rw [hi.crash_R, hi.hS, hi.hN] at this
  exact this.mono fun _ _ hm => made_i hm (by rw [crL_length]; exact hi.hS) (by simp)
theorem read (h : KW w b gs gn gw gd m A0 c0 A1 c1 S N sure now wild dirty W) (hS : S.length = m) (hr : Sec.rightB S N (-1) = true) (j : Nat) (hj : j < m) :
    Calls Try.prog 23 #[.agg #[.slice A0 m c0, .slice A1 m c1, .int .i64 (-1)], .int .i64 j] W fun e w' => e = .returned (.tuple #[.string (openB (nowB (rdOf ByteArray.empty S (j : Int)) (rdOf ByteArray.empty N (j : Int)))).1, .int .i64 (openB (nowB (rdOf ByteArray.empty S (j : Int)) (rdOf ByteArray.empty N (j : Int)))).2]) ∧ Below W.heap.size W w' := by
  have hN : N.length = m := by have := (right_iff.1 hr).2.1; rw [this]; exact hS
  have := read_m h.disk.reads (-1) (j : Int)
  rw [hS, hN] at this
  have e : readR S N (-1) (j : Int) = openB (nowB (rdOf ByteArray.empty S (j : Int)) (rdOf ByteArray.empty N (j : Int))) := by
    unfold readR
    rw [hr, if_pos rfl, if_neg (by omega)]
  rw [e] at this
  exact this
end KW
end Go.Proofs.Ytmefdlajjbcljaa
