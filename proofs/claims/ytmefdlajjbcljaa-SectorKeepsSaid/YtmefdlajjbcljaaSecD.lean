import Derived.Test.YtmefdlajjbcljaaSecW
namespace Go.Proofs.Ytmefdlajjbcljaa
open Go.RowKit Go.Proofs.Ytmefdlajjbcljaa.PS8 Go.Proofs.YtmefdlajjbcljaaW.PrintWords
set_option linter.unusedVariables false
set_option linter.unusedSimpArgs false

/-- A block of three cells: a store in a variable. -/
def BoxD (b : Nat) (x0 x1 x2 : Value) (w : World) : Prop := w.heap[b]? = some (.cells #[x0, x1, x2] 30 (0, 0))
namespace BoxD
variable {b : Nat} {x0 x1 x2 : Value} {w w1 : World}
theorem below (h : BoxD b x0 x1 x2 w) (hb : Below w.heap.size w w1) : BoxD b x0 x1 x2 w1 := blk_below h hb
theorem same (h : BoxD b x0 x1 x2 w) (e : w1.heap = w.heap) : BoxD b x0 x1 x2 w1 := by unfold BoxD at *; rw [e]; exact h
theorem drew (h : BoxD b x0 x1 x2 w) : BoxD b x0 x1 x2 w.drew := h
theorem drewN (h : BoxD b x0 x1 x2 w) (n : Nat) : BoxD b x0 x1 x2 (w.drewN n) := h
theorem far (h : BoxD b x0 x1 x2 w) {p : Addr} (hp : b ≠ p.block) (u : Value) : BoxD b x0 x1 x2 (w.setCell p u) := by
  unfold BoxD at *; rw [Below.heap_setCell _ _ _ _ hp]; exact h
theorem set0 (h : BoxD b x0 x1 x2 w) (u : Value) : BoxD b u x1 x2 (w.setCell ⟨b, 0, none⟩ u) := by
  unfold BoxD at *; rw [World.setCell]; simp only [Array.getElem?_modify, if_true, h, Option.map_some]; rfl
theorem set1 (h : BoxD b x0 x1 x2 w) (u : Value) : BoxD b x0 u x2 (w.setCell ⟨b, 1, none⟩ u) := by
  unfold BoxD at *; rw [World.setCell]; simp only [Array.getElem?_modify, if_true, h, Option.map_some]; rfl
theorem set2 (h : BoxD b x0 x1 x2 w) (u : Value) : BoxD b x0 x1 u (w.setCell ⟨b, 2, none⟩ u) := by
  unfold BoxD at *; rw [World.setCell]; simp only [Array.getElem?_modify, if_true, h, Option.map_some]; rfl
theorem c0 (h : BoxD b x0 x1 x2 w) : w.cell? ⟨b, 0, none⟩ = some x0 := by rw [cell_of_row _ _ _ _ _ _ h]; rfl
theorem c1 (h : BoxD b x0 x1 x2 w) : w.cell? ⟨b, 1, none⟩ = some x1 := by rw [cell_of_row _ _ _ _ _ _ h]; rfl
theorem c2 (h : BoxD b x0 x1 x2 w) : w.cell? ⟨b, 2, none⟩ = some x2 := by rw [cell_of_row _ _ _ _ _ _ h]; rfl
theorem f (h : BoxD b x0 x1 x2 w) (i : Nat) : w.frozen? ⟨b, i, none⟩ = false := frozen_of_row w b i _ _ h
end BoxD
/-- The rows of a store of the call's own, in two blocks. -/
def OwnD (base m gs cs gn cn : Nat) (S N : List ByteArray) (w : World) : Prop :=
  Kd.R Kd.string 9 w base (fun k => k ≠ gn ∧ base ≤ k) (.slice (some ⟨gs, 0, none⟩) m cs) S ∧
  Kd.R Kd.string 9 w base (fun k => k ≠ gs ∧ base ≤ k) (.slice (some ⟨gn, 0, none⟩) m cn) N
namespace OwnD
variable {base m gs cs gn cn : Nat} {S N : List ByteArray} {w w1 : World}
theorem of_two {s n : List ByteArray} (hs : s.length = m) (hn : n.length = m)
    (h0 : Kd.R Kd.string 9 w base (fun k_ => some k_ ≠ (Value.slice (some ⟨gn, 0, none⟩) n.length cn).ownBlock) (.slice (some ⟨gs, 0, none⟩) s.length cs) s)
    (h1 : Kd.R Kd.string 9 w base (fun k_ => some k_ ≠ (Value.slice (some ⟨gs, 0, none⟩) s.length cs).ownBlock) (.slice (some ⟨gn, 0, none⟩) n.length cn) n) : OwnD base m gs cs gn cn s n w := by
  subst hs
  rw [hn] at h0 h1
  exact ⟨Kd.R_mono (Kd.R_bound h0) (fun k hk => ⟨fun e => hk.1 (by rw [e]; rfl), hk.2.1⟩), Kd.R_mono (Kd.R_bound h1) (fun k hk => ⟨fun e => hk.1 (by rw [e]; rfl), hk.2.1⟩)⟩
theorem ne (h : OwnD base m gs cs gn cn S N w) : gs ≠ gn ∧ base ≤ gs ∧ base ≤ gn := ⟨(h.1.1 gs rfl).1, (h.1.1 gs rfl).2, (h.2.1 gn rfl).2⟩
theorem below (h : OwnD base m gs cs gn cn S N w) (hb : Below w.heap.size w w1) : OwnD base m gs cs gn cn S N w1 := ⟨Kd.R_below h.1 hb, Kd.R_below h.2 hb⟩
theorem same (h : OwnD base m gs cs gn cn S N w) (e : w1.heap = w.heap) : OwnD base m gs cs gn cn S N w1 := ⟨Kd.R_step h.1 (fun k _ _ => by rw [e]), Kd.R_step h.2 (fun k _ _ => by rw [e])⟩
theorem other (h : OwnD base m gs cs gn cn S N w) {p : Addr} (hp : p.block < base) (u : Value) : OwnD base m gs cs gn cn S N (w.setCell p u) :=
  ⟨Kd.R_far h.1 (fun k hk => by have := hk.2; omega) u, Kd.R_far h.2 (fun k hk => by have := hk.2; omega) u⟩
theorem setS (h : OwnD base m gs cs gn cn S N w) (i : Nat) (x : ByteArray) : OwnD base m gs cs gn cn (S.set i x) N (w.setCell ⟨gs, i, none⟩ (.string x)) := by
  refine ⟨?_, Kd.R_far h.2 (fun k hk => hk.1) _⟩
  have := Kd.R_putn h.1 (i : Int) x
  rwa [Int.toNat_natCast] at this
theorem setN (h : OwnD base m gs cs gn cn S N w) (i : Nat) (x : ByteArray) : OwnD base m gs cs gn cn S (N.set i x) (w.setCell ⟨gn, i, none⟩ (.string x)) := by
  refine ⟨Kd.R_far h.1 (fun k hk => hk.1) _, ?_⟩
  have := Kd.R_putn h.2 (i : Int) x
  rwa [Int.toNat_natCast] at this
theorem cellS (h : OwnD base m gs cs gn cn S N w) (i : Nat) (hi : i < m) : w.cell? ⟨gs, i, none⟩ = some (.string (rdOf ByteArray.empty S i)) ∧ w.frozen? ⟨gs, i, none⟩ = false := by
  have := Kd.R_celln ByteArray.empty h.1 (i : Int) (by omega) (by omega)
  rwa [Int.toNat_natCast] at this
theorem cellN (h : OwnD base m gs cs gn cn S N w) (i : Nat) (hi : i < m) : w.cell? ⟨gn, i, none⟩ = some (.string (rdOf ByteArray.empty N i)) ∧ w.frozen? ⟨gn, i, none⟩ = false := by
  have := Kd.R_celln ByteArray.empty h.2 (i : Int) (by omega) (by omega)
  rwa [Int.toNat_natCast] at this
theorem lenS (h : OwnD base m gs cs gn cn S N w) : m = S.length ∧ m ≤ cs ∧ Kd.C Kd.string w (some ⟨gs, 0, none⟩) S.length S := Kd.R_reads' h.1
theorem lenN (h : OwnD base m gs cs gn cn S N w) : m = N.length ∧ m ≤ cn ∧ Kd.C Kd.string w (some ⟨gn, 0, none⟩) N.length N := Kd.R_reads' h.2
theorem out {w0 : World} (h : OwnD base m gs cs gn cn S N w) (hb : w0.heap.size ≤ base) : OwnDisk w0 (.slice (some ⟨gs, 0, none⟩) m cs) (.slice (some ⟨gn, 0, none⟩) m cn) S N w :=
  ⟨Kd.R_lower (Kd.R_mono h.1 (fun k hk e => hk.1 (Option.some.inj e))) hb, Kd.R_lower (Kd.R_mono h.2 (fun k hk e => hk.1 (Option.some.inj e))) hb⟩
end OwnD

/-- A sector as it is. -/
def nowB (s n : ByteArray) : ByteArray := if n.toList = [] then s else n
def nowL (s n : List ByteArray) : List ByteArray := List.zipWith nowB s n
/-- What a sync makes. -/
def syncR (s n : List ByteArray) (f : Int) : (List ByteArray × List ByteArray × Int) × Int :=
  if Sec.rightB s n f then (if f = 0 then (([], [], 0), 7) else ((nowL s n, List.replicate s.length ⟨#[]⟩, burnI f), 0)) else (([], [], 0), 1)
def syS (s n : List ByteArray) (k : Nat) : List ByteArray := (nowL s n).take k ++ s.drop k
def syN (n : List ByteArray) (k : Nat) : List ByteArray := List.replicate k ⟨#[]⟩ ++ n.drop k
theorem nowL_length (s n : List ByteArray) (h : n.length = s.length) : (nowL s n).length = s.length := by unfold nowL; rw [List.length_zipWith]; omega
theorem syS_set (s n : List ByteArray) (k : Nat) (hk : k < s.length) (h : n.length = s.length) : (syS s n k).set k (nowB (rdOf ByteArray.empty s k) (rdOf ByteArray.empty n k)) = syS s n (k + 1) := by
  have hl := nowL_length s n h
  unfold syS
  rw [List.set_append_right _ _ (by rw [List.length_take]; omega), List.length_take, show k - min k (nowL s n).length = 0 by omega, List.drop_eq_getElem_cons hk, List.set_cons_zero, List.take_succ_eq_append_getElem (by omega), List.append_assoc]
  congr 2
  unfold nowL rdOf
  rw [List.getElem_zipWith]
  simp [hk, show k < n.length by omega]
theorem syN_set (n : List ByteArray) (k : Nat) (hk : k < n.length) : (syN n k).set k ⟨#[]⟩ = syN n (k + 1) := by
  unfold syN
  rw [List.set_append_right _ _ (by rw [List.length_replicate]; omega), List.length_replicate, Nat.sub_self, List.drop_eq_getElem_cons hk, List.set_cons_zero, List.replicate_succ', List.append_assoc]
  rfl
theorem syS_rd (s n : List ByteArray) (k : Nat) (hk : k < s.length) (h : n.length = s.length) : rdOf ByteArray.empty (syS s n k) k = rdOf ByteArray.empty s k := by
  have hl := nowL_length s n h
  unfold syS rdOf
  rw [List.getD_eq_getElem?_getD, List.getElem?_append_right (by rw [List.length_take, Int.toNat_natCast]; omega), List.length_take, Int.toNat_natCast, show k - min k (nowL s n).length = 0 by omega, List.getElem?_drop, List.getD_eq_getElem?_getD]
  simp
theorem syN_rd (n : List ByteArray) (k : Nat) (hk : k < n.length) : rdOf ByteArray.empty (syN n k) k = rdOf ByteArray.empty n k := by
  unfold syN rdOf
  rw [List.getD_eq_getElem?_getD, List.getElem?_append_right (by simp), List.length_replicate, Int.toNat_natCast, Nat.sub_self, List.getElem?_drop, List.getD_eq_getElem?_getD]
  simp
theorem now_f (S N : List ByteArray) (f : Int) (k : Nat) (h1 : k < S.length) (h2 : k < N.length) : sector_now.f S N f k = some (nowB (rdOf ByteArray.empty S k) (rdOf ByteArray.empty N k)) := by
  unfold sector_now.f nowB
  rw [if_pos (by omega), if_pos (by omega)]
  by_cases h : (rdOf ByteArray.empty N k).toList = []
  · rw [if_pos h, if_pos h, if_pos (by omega)]
  · rw [if_neg h, if_neg h]
end Go.Proofs.Ytmefdlajjbcljaa
