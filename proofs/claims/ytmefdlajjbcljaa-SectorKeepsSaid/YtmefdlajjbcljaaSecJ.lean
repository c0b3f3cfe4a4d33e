import Derived.Test.YtmefdlajjbcljaaSecI
namespace Go.Proofs.Ytmefdlajjbcljaa
open Go.RowKit Go.Proofs.Ytmefdlajjbcljaa.PS8 Go.Proofs.YtmefdlajjbcljaaW.PrintWords
set_option linter.unusedVariables false
set_option linter.unusedSimpArgs false

theorem rd_get {l : List ByteArray} {k : Nat} (h : k < l.length) : rdOf ByteArray.empty l (k : Int) = l[k] := by
  unfold rdOf; rw [List.getD_eq_getElem?_getD, Int.toNat_natCast, List.getElem?_eq_getElem h]; rfl
theorem rd_set {l : List ByteArray} {k j : Nat} (x : ByteArray) (hk : k < l.length) (hj : j < l.length) : rdOf ByteArray.empty (l.set k x) (j : Int) = if j = k then x else rdOf ByteArray.empty l (j : Int) := by
  rw [rd_get (by rw [List.length_set]; exact hj), List.getElem_set, rd_get hj]
  by_cases h : k = j
  · rw [if_pos h, if_pos h.symm]
  · rw [if_neg h, if_neg (fun e => h e.symm)]
theorem rd_rep {m k : Nat} (x : ByteArray) (hk : k < m) : rdOf ByteArray.empty (List.replicate m x) (k : Int) = x := by
  rw [rd_get (by rw [List.length_replicate]; exact hk)]; simp
theorem size_toList (x : ByteArray) : x.toList = [] ↔ x.size = 0 := by
  rw [toList_nil_iff_emptyBytes]
  constructor
  · rintro rfl; rfl
  · intro h
    apply ByteArray.ext
    apply Array.ext'
    exact List.length_eq_zero_iff.1 (by rw [← Lib.size_eq]; exact h)
theorem sealB_size (s : ByteArray) (h : s.size ≤ 58) : (sealB s).size = 64 := Sec.sealL_length _ (by rw [← Lib.size_eq]; exact h)
/-- What a store may be, said of its sectors. -/
theorem right_iff {S N : List ByteArray} {fl : Int} : Sec.rightB S N fl = true ↔ S.length ≤ 512 ∧ N.length = S.length ∧ -1 ≤ fl ∧ fl ≤ 1000000 ∧ (∀ x ∈ S, x.size = 64) ∧ ∀ x ∈ N, x.size = 0 ∨ x.size = 64 := by
  constructor
  · intro h
    have h1 := sizes_right h
    unfold Sec.sizesB at h1
    simp at h1
    obtain ⟨a, b⟩ := right_all h
    exact ⟨h1.1, h1.2.1, h1.2.2.1, h1.2.2.2, a, fun x hx => (b x hx).imp (fun e => (size_toList x).1 e) id⟩
  · rintro ⟨h1, h2, h3, h4, h5, h6⟩
    unfold Sec.rightB Sec.sizesB
    simp only [Bool.and_eq_true, decide_eq_true_eq, Bool.not_eq_true', List.any_eq_false]
    refine ⟨⟨h1, h2, h3, h4⟩, fun x hx => ?_, fun x hx => ?_⟩
    · unfold Sec.oddB; simp; have := h5 x hx; omega
    · unfold Sec.tornB
      rcases h6 x hx with h | h
      · have : x.toList.isEmpty = true := by rw [(size_toList x).2 h]; rfl
        simp [this]
      · simp; intro _; omega
/-- A store that reads as 'L' says. -/
structure Inv (m : Nat) (S N : List ByteArray) (fl : Int) (L : List ByteArray) : Prop where
  hS : S.length = m
  hL : L.length = m
  right : Sec.rightB S N fl = true
  now : ∀ k, k < m → nowB (rdOf ByteArray.empty S (k : Int)) (rdOf ByteArray.empty N (k : Int)) = sealB (rdOf ByteArray.empty L (k : Int))
  small : ∀ k, k < m → (rdOf ByteArray.empty L (k : Int)).size ≤ 58
namespace Inv
variable {m : Nat} {S N L : List ByteArray} {fl : Int}
theorem hN (h : Inv m S N fl L) : N.length = m := by have := (right_iff.1 h.right).2.1; rw [this]; exact h.hS
theorem new (m : Nat) (fl : Int) (hm : m ≤ 512) (h1 : -1 ≤ fl) (h2 : fl ≤ 1000000) : Inv m (List.replicate m (sealB ⟨#[]⟩)) (List.replicate m ⟨#[]⟩) fl (List.replicate m ⟨#[]⟩) := by
  refine ⟨by simp, by simp, right_iff.2 ⟨by simpa using hm, by simp, h1, h2, fun x hx => ?_, fun x hx => ?_⟩, fun k hk => ?_, fun k hk => ?_⟩
  · rw [List.eq_of_mem_replicate hx]; exact sealB_size _ (by decide)
  · rw [List.eq_of_mem_replicate hx]; exact Or.inl rfl
  · rw [rd_rep _ hk, rd_rep _ hk]
    unfold nowB
    rw [if_pos ((size_toList _).2 rfl)]
  · rw [rd_rep _ hk]; decide
theorem write_R (h : Inv m S N fl L) (j : Nat) (hj : j < m) (s : ByteArray) (hs : s.size ≤ 58) (hf : fl ≠ 0) : writeR S N fl (j : Int) s = ((S, N.set j (sealB s), burnI fl), 0) := by
  unfold writeR
  rw [h.right, if_pos rfl, if_neg (by omega), if_neg (by have := h.hS; omega), if_neg hf, Int.toNat_natCast]
theorem write_down (h : Inv m S N 0 L) (j : Nat) (hj : j < m) (s : ByteArray) (hs : s.size ≤ 58) : writeR S N 0 (j : Int) s = (([], [], 0), 7) := by
  unfold writeR
  rw [h.right, if_pos rfl, if_neg (by omega), if_neg (by have := h.hS; omega), if_pos rfl]
theorem sync_R (h : Inv m S N fl L) (hf : fl ≠ 0) : syncR S N fl = ((nowL S N, List.replicate S.length ⟨#[]⟩, burnI fl), 0) := by
  unfold syncR
  rw [h.right, if_pos rfl, if_neg hf]
theorem sync_down (h : Inv m S N 0 L) : syncR S N 0 = (([], [], 0), 7) := by
  unfold syncR
  rw [h.right, if_pos rfl, if_pos rfl]
theorem read_R (h : Inv m S N fl L) (j : Nat) (hj : j < m) : readR S N fl (j : Int) = (rdOf ByteArray.empty L (j : Int), 0) := by
  unfold readR
  rw [h.right, if_pos rfl, if_neg (by have := h.hS; omega), h.now j hj, open_seal _ (h.small j hj)]
theorem fl_bd (h : Inv m S N fl L) : -1 ≤ fl ∧ fl ≤ 1000000 := ⟨(right_iff.1 h.right).2.2.1, (right_iff.1 h.right).2.2.2.1⟩
theorem burn_bd (h : Inv m S N fl L) : -1 ≤ burnI fl ∧ burnI fl ≤ 1000000 := by
  obtain ⟨h1, h2⟩ := h.fl_bd
  unfold burnI; split <;> omega
theorem write (h : Inv m S N fl L) (j : Nat) (hj : j < m) (s : ByteArray) (hs : s.size ≤ 58) : Inv m S (N.set j (sealB s)) (burnI fl) (L.set j s) := by
  obtain ⟨r1, r2, r3, r4, r5, r6⟩ := right_iff.1 h.right
  obtain ⟨b1, b2⟩ := h.burn_bd
  have hN := h.hN
  have hL := h.hL
  refine ⟨h.hS, by rw [List.length_set]; exact hL, right_iff.2 ⟨r1, by rw [List.length_set]; exact r2, b1, b2, r5, fun x hx => ?_⟩, fun k hk => ?_, fun k hk => ?_⟩
  · rcases List.mem_or_eq_of_mem_set hx with h1 | h1
    · exact r6 x h1
    · rw [h1]; exact Or.inr (sealB_size s hs)
  · rw [rd_set _ (by omega) (by omega), rd_set _ (by omega) (by omega)]
    by_cases e : k = j
    · rw [if_pos e, if_pos e]
      unfold nowB
      rw [if_neg (fun e2 => by have := (size_toList _).1 e2; rw [sealB_size s hs] at this; omega)]
    · rw [if_neg e, if_neg e]; exact h.now k hk
  · rw [rd_set _ (by omega) (by omega)]
    by_cases e : k = j
    · rw [if_pos e]; exact hs
    · rw [if_neg e]; exact h.small k hk
theorem nowL_rd {S N : List ByteArray} {k : Nat} (h1 : k < S.length) (h2 : k < N.length) : rdOf ByteArray.empty (nowL S N) (k : Int) = nowB (rdOf ByteArray.empty S (k : Int)) (rdOf ByteArray.empty N (k : Int)) := by
  have hl : k < (nowL S N).length := by unfold nowL; rw [List.length_zipWith]; omega
  rw [rd_get hl, rd_get h1, rd_get h2]
  exact List.getElem_zipWith (f := nowB) (h := hl)
theorem nowB_size {s n : ByteArray} (h1 : s.size = 64) (h2 : n.size = 0 ∨ n.size = 64) : (nowB s n).size = 64 := by
  unfold nowB
  split
  · exact h1
  · rename_i h
    exact h2.resolve_left (fun e => h ((size_toList n).2 e))
theorem mem_rd {l : List ByteArray} {x : ByteArray} (h : x ∈ l) : ∃ k, k < l.length ∧ rdOf ByteArray.empty l (k : Int) = x := by
  obtain ⟨k, hk, rfl⟩ := List.getElem_of_mem h
  exact ⟨k, hk, rd_get hk⟩
theorem nowL_size {S N : List ByteArray} {fl : Int} (h : Sec.rightB S N fl = true) : ∀ x ∈ nowL S N, x.size = 64 := by
  obtain ⟨r1, r2, r3, r4, r5, r6⟩ := right_iff.1 h
  intro x hx
  obtain ⟨k, hk, rfl⟩ := mem_rd hx
  have hl : k < S.length := by unfold nowL at hk; rw [List.length_zipWith] at hk; omega
  rw [nowL_rd hl (by omega)]
  exact nowB_size (r5 _ (rd_mem hl)) (r6 _ (rd_mem (by omega)))
theorem sync (h : Inv m S N fl L) : Inv m (nowL S N) (List.replicate S.length ⟨#[]⟩) (burnI fl) L := by
  obtain ⟨r1, r2, r3, r4, r5, r6⟩ := right_iff.1 h.right
  obtain ⟨b1, b2⟩ := h.burn_bd
  have hN := h.hN
  have hS := h.hS
  have hl : (nowL S N).length = m := by rw [nowL_length _ _ r2]; exact hS
  refine ⟨hl, h.hL, right_iff.2 ⟨by omega, by simp; omega, b1, b2, nowL_size h.right, fun x hx => ?_⟩, fun k hk => ?_, h.small⟩
  · rw [List.eq_of_mem_replicate hx]; exact Or.inl rfl
  · rw [rd_rep _ (by omega), nowL_rd (by omega) (by omega), h.now k hk]
    unfold nowB
    rw [if_pos ((size_toList _).2 rfl)]
end Inv
theorem BoxD.far3 {b g : Nat} {x0 x1 x2 : Value} {w : World} (h : BoxD b x0 x1 x2 w) (hg : b ≠ g) (u0 u1 u2 : Value) : BoxD b x0 x1 x2 (((w.setCell ⟨g, 0, none⟩ u0).setCell ⟨g, 1, none⟩ u1).setCell ⟨g, 2, none⟩ u2) :=
  ((h.far (p := ⟨g, 0, none⟩) hg _).far (p := ⟨g, 1, none⟩) hg _).far (p := ⟨g, 2, none⟩) hg _
theorem OwnDisk.other3 {W0 w : World} {v0 v1 : Value} {s n : List ByteArray} (h : OwnDisk W0 v0 v1 s n w) {g : Nat} (hg : g < W0.heap.size) (u0 u1 u2 : Value) : OwnDisk W0 v0 v1 s n (((w.setCell ⟨g, 0, none⟩ u0).setCell ⟨g, 1, none⟩ u1).setCell ⟨g, 2, none⟩ u2) :=
  ((h.other (p := ⟨g, 0, none⟩) hg _).other (p := ⟨g, 1, none⟩) hg _).other (p := ⟨g, 2, none⟩) hg _
theorem below_set3 {k : Nat} {w W : World} (h : Below k w W) {g : Nat} (hg : k ≤ g) (u0 u1 u2 : Value) : Below k w (((W.setCell ⟨g, 0, none⟩ u0).setCell ⟨g, 1, none⟩ u1).setCell ⟨g, 2, none⟩ u2) :=
  ((h.setCell (p := ⟨g, 0, none⟩) hg u0).setCell (p := ⟨g, 1, none⟩) hg u1).setCell (p := ⟨g, 2, none⟩) hg u2
/-- What a call leaves that makes a store of 'm' sectors. -/
def MadeI (W0 : World) (m : Nat) (S N : List ByteArray) (fl err : Int) (e : Ending) (w : World) : Prop :=
  ∃ A0 c0 A1 c1, e = .returned (.tuple #[.agg #[.slice A0 m c0, .slice A1 m c1, .int .i64 fl], .int .i64 err]) ∧ OwnDisk W0 (.slice A0 m c0) (.slice A1 m c1) S N w ∧ Below W0.heap.size W0 w
theorem made_i {W0 : World} {m : Nat} {S N : List ByteArray} {fl err : Int} {e : Ending} {w : World} (h : Made W0 ((S, N, fl), err) e w) (hS : S.length = m) (hN : N.length = m) : MadeI W0 m S N fl err e w := by
  obtain ⟨A0, c0, A1, c1, he, ho, hb⟩ := h
  subst hS
  refine ⟨A0, c0, A1, c1, ?_, ?_, hb⟩
  · rw [he]; show Ending.returned (.tuple #[.agg #[.slice A0 S.length c0, .slice A1 N.length c1, .int .i64 fl], .int .i64 err]) = _; rw [hN]
  · have : OwnDisk W0 (.slice A0 S.length c0) (.slice A1 N.length c1) S N w := ho
    rw [hN] at this; exact this
/-- A store of a law's own, in the variable at block 'b', that reads as 'L' says. -/
structure DV (w : World) (b m : Nat) (A0 : Option Addr) (c0 : Nat) (A1 : Option Addr) (c1 : Nat) (S N : List ByteArray) (fl : Int) (L : List ByteArray) (W : World) : Prop where
  box : BoxD b (.slice A0 m c0) (.slice A1 m c1) (.int .i64 fl) W
  disk : Disk W A0 c0 A1 c1 S N
  below : Below w.heap.size w W
  le : w.heap.size ≤ b
  inv : Inv m S N fl L
namespace DV
variable {w W W1 W0 : World} {b m : Nat} {A0 A1 A0' A1' : Option Addr} {c0 c1 c0' c1' : Nat} {S N L S' N' L' : List ByteArray} {fl fl' : Int}
theorem lt (h : DV w b m A0 c0 A1 c1 S N fl L W) : b < W.heap.size := blk_lt h.box
theorem step (h : DV w b m A0 c0 A1 c1 S N fl L W) (hb : Below W.heap.size W W1) : DV w b m A0 c0 A1 c1 S N fl L W1 :=
  ⟨h.box.below hb, h.disk.below hb, h.below.trans (Below.mono hb h.below.size), h.le, h.inv⟩
theorem mk_new (ho : OwnDisk w (.slice A0 m c0) (.slice A1 m c1) S N W1) (hb : Below w.heap.size w W1) (hi : Inv m S N fl L) :
    DV w W1.heap.size m A0 c0 A1 c1 S N fl L (W1.alloc (.cells #[.slice A0 m c0, .slice A1 m c1, .int .i64 fl] 30)) :=
  ⟨heap_alloc_new W1 _, ho.reads.alloc _, hb.alloc hb.size _, hb.size, hi⟩
theorem put (hx : BoxD b (.slice A0 m c0) (.slice A1 m c1) (.int .i64 fl) W1) (hw : Below w.heap.size w W1) (hle : w.heap.size ≤ b) (hlt : b < W0.heap.size)
    (ho : OwnDisk W0 (.slice A0' m c0') (.slice A1' m c1') S' N' W1) (hi : Inv m S' N' fl' L') :
    DV w b m A0' c0' A1' c1' S' N' fl' L' (((W1.setCell ⟨b, 0, none⟩ (.slice A0' m c0')).setCell ⟨b, 1, none⟩ (.slice A1' m c1')).setCell ⟨b, 2, none⟩ (.int .i64 fl')) := by
  refine ⟨((hx.set0 _).set1 _).set2 _, ?_, ?_, hle, hi⟩
  · exact (((ho.other (p := ⟨b, 0, none⟩) hlt _).other (p := ⟨b, 1, none⟩) hlt _).other (p := ⟨b, 2, none⟩) hlt _).reads
  · exact ((hw.setCell (p := ⟨b, 0, none⟩) hle _).setCell (p := ⟨b, 1, none⟩) hle _).setCell (p := ⟨b, 2, none⟩) hle _
theorem putL (hx : BoxD b (.slice A0 m c0) (.slice A1 m c1) (.int .i64 fl) W1) (hw : Below w.heap.size w W1) (hle : w.heap.size ≤ b) (hlt : b < W0.heap.size)
    (ho : OwnDisk W0 (.slice A0' m c0') (.slice A1' m c1') S' N' W1) (hi : Inv m S' N' fl' L') (g j : Nat) (hgb : b ≠ g) (hg : g < W0.heap.size) (hgw : w.heap.size ≤ g) (u : Value) :
    DV w b m A0' c0' A1' c1' S' N' fl' L' ((((W1.setCell ⟨b, 0, none⟩ (.slice A0' m c0')).setCell ⟨b, 1, none⟩ (.slice A1' m c1')).setCell ⟨b, 2, none⟩ (.int .i64 fl')).setCell ⟨g, j, none⟩ u) :=
  ⟨(((hx.set0 _).set1 _).set2 _).far (p := ⟨g, j, none⟩) hgb u, ((ho.other3 hlt _ _ _).other (p := ⟨g, j, none⟩) hg u).reads, (below_set3 hw hle _ _ _).setCell (p := ⟨g, j, none⟩) hgw u, hle, hi⟩
theorem put2 (h : DV w b m A0 c0 A1 c1 S N fl L W) (ho : OwnDisk W (.slice A0' m c0') (.slice A1' m c1') S' N' W1) (hb : Below W.heap.size W W1) (hi : Inv m S' N' fl' L') :
    DV w b m A0' c0' A1' c1' S' N' fl' L' (((W1.setCell ⟨b, 0, none⟩ (.slice A0' m c0')).setCell ⟨b, 1, none⟩ (.slice A1' m c1')).setCell ⟨b, 2, none⟩ (.int .i64 fl')) :=
  put (h.box.below hb) (h.below.trans (Below.mono hb h.below.size)) h.le h.lt ho hi
theorem write (h : DV w b m A0 c0 A1 c1 S N fl L W) (j : Nat) (hj : j < m) (s : ByteArray) (hs : s.size ≤ 58) (hf : fl ≠ 0) :
    Calls Try.prog 20 #[.agg #[.slice A0 m c0, .slice A1 m c1, .int .i64 fl], .int .i64 j, .string s] W (MadeI W m S (N.set j (sealB s)) (burnI fl) 0) := by
  have := write_m h.disk fl (j : Int) s
  rw [h.inv.write_R j hj s hs hf, h.inv.hS, h.inv.hN] at this
  exact this.mono fun _ _ hm => made_i hm h.inv.hS (by rw [List.length_set]; exact h.inv.hN)
theorem write_down (h : DV w b m A0 c0 A1 c1 S N 0 L W) (j : Nat) (hj : j < m) (s : ByteArray) (hs : s.size ≤ 58) :
    Calls Try.prog 20 #[.agg #[.slice A0 m c0, .slice A1 m c1, .int .i64 0], .int .i64 j, .string s] W (MadeI W 0 [] [] 0 7) := by
  have := write_m h.disk 0 (j : Int) s
  rw [h.inv.write_down j hj s hs, h.inv.hS, h.inv.hN] at this
  exact this.mono fun _ _ hm => made_i hm rfl rfl
theorem sync (h : DV w b m A0 c0 A1 c1 S N fl L W) (hf : fl ≠ 0) :
    Calls Try.prog 21 #[.agg #[.slice A0 m c0, .slice A1 m c1, .int .i64 fl]] W (MadeI W m (nowL S N) (List.replicate S.length ⟨#[]⟩) (burnI fl) 0) := by
  have := sync_m h.disk fl
  rw [h.inv.sync_R hf, h.inv.hS, h.inv.hN] at this
  rw [h.inv.hS]
  exact this.mono fun _ _ hm => made_i hm (by rw [nowL_length _ _ (by rw [h.inv.hN, h.inv.hS])]; exact h.inv.hS) (by simp)
theorem sync_down (h : DV w b m A0 c0 A1 c1 S N 0 L W) :
    Calls Try.prog 21 #[.agg #[.slice A0 m c0, .slice A1 m c1, .int .i64 0]] W (MadeI W 0 [] [] 0 7) := by
  have := sync_m h.disk 0
  rw [h.inv.sync_down, h.inv.hS, h.inv.hN] at this
  exact this.mono fun _ _ hm => made_i hm rfl rfl
theorem read (h : DV w b m A0 c0 A1 c1 S N fl L W) (j : Nat) (hj : j < m) :
    Calls Try.prog 23 #[.agg #[.slice A0 m c0, .slice A1 m c1, .int .i64 fl], .int .i64 j] W fun e w' => e = .returned (.tuple #[.string (rdOf ByteArray.empty L (j : Int)), .int .i64 0]) ∧ Below W.heap.size W w' := by
  have := read_m h.disk fl (j : Int)
  rw [h.inv.read_R j hj, h.inv.hS, h.inv.hN] at this
  exact this
end DV
theorem new_i (m : Nat) (fl : Int) (hm : m ≤ 512) (h1 : -1 ≤ fl) (h2 : fl ≤ 1000000) (w : World) :
    Calls Try.prog 19 #[.int .i64 m, .int .i64 fl] w (MadeI w m (List.replicate m (sealB ⟨#[]⟩)) (List.replicate m ⟨#[]⟩) fl 0) := by
  have := new_m (m : Int) fl w
  rw [show newR (m : Int) fl = ((List.replicate m (sealB ⟨#[]⟩), List.replicate m ⟨#[]⟩, fl), 0) by unfold newR; rw [if_neg (by omega), Int.toNat_natCast]] at this
  exact this.mono fun _ _ hm => made_i hm (by simp) (by simp)
end Go.Proofs.Ytmefdlajjbcljaa
