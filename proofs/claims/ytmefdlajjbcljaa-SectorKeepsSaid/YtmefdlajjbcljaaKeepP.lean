import Derived.Test.YtmefdlajjbcljaaSecJ
namespace Go.Proofs.Ytmefdlajjbcljaa
open Go.RowKit Go.Proofs.Ytmefdlajjbcljaa.PS8 Go.Proofs.YtmefdlajjbcljaaW.PrintWords
set_option linter.unusedVariables false
set_option linter.unusedSimpArgs false

section
variable {α : Type} (d : α)
theorem gd_get {l : List α} {k : Nat} (h : k < l.length) : rdOf d l (k : Int) = l[k] := by
  unfold rdOf; rw [List.getD_eq_getElem?_getD, Int.toNat_natCast, List.getElem?_eq_getElem h]; rfl
theorem gd_set {l : List α} {k j : Nat} (x : α) (hk : k < l.length) (hj : j < l.length) : rdOf d (l.set k x) (j : Int) = if j = k then x else rdOf d l (j : Int) := by
  rw [gd_get d (by rw [List.length_set]; exact hj), List.getElem_set, gd_get d hj]
  by_cases h : k = j
  · rw [if_pos h, if_pos h.symm]
  · rw [if_neg h, if_neg (fun e => h e.symm)]
theorem gd_rep {m k : Nat} (x : α) (hk : k < m) : rdOf d (List.replicate m x) (k : Int) = x := by
  rw [gd_get d (by rw [List.length_replicate]; exact hk)]; simp
theorem gd_map {m k : Nat} (f : Nat → α) (hk : k < m) : rdOf d ((List.range m).map f) (k : Int) = f k := by
  rw [gd_get d (by simpa using hk)]; simp
end
/-- So far the new ones, then the old ones. -/
def goL {α : Type} (R l : List α) (k : Nat) : List α := R.take k ++ l.drop k
theorem goL_zero {α : Type} (R l : List α) : goL R l 0 = l := by simp [goL]
theorem goL_full {α : Type} (R l : List α) (h : R.length = l.length) : goL R l l.length = R := by
  unfold goL; rw [List.drop_length, List.append_nil, List.take_of_length_le (by omega)]
theorem goL_len {α : Type} (R l : List α) (k : Nat) (hk : k ≤ l.length) (h : R.length = l.length) : (goL R l k).length = l.length := by
  unfold goL; rw [List.length_append, List.length_take, List.length_drop]; omega
theorem goL_set {α : Type} (d : α) (R l : List α) (k : Nat) (hk : k < l.length) (h : R.length = l.length) (x : α) (hx : x = rdOf d R (k : Int)) : (goL R l k).set k x = goL R l (k + 1) := by
  unfold goL
  rw [List.set_append_right _ _ (by rw [List.length_take]; omega), List.length_take, show k - min k R.length = 0 by omega, List.drop_eq_getElem_cons hk, List.set_cons_zero, List.take_succ_eq_append_getElem (by omega), List.append_assoc, hx, gd_get d (by omega)]
  rfl
theorem goL_rd {α : Type} (d : α) (R l : List α) (k : Nat) (hk : k < l.length) (h : R.length = l.length) : rdOf d (goL R l k) (k : Int) = rdOf d l (k : Int) := by
  unfold goL rdOf
  rw [List.getD_eq_getElem?_getD, List.getElem?_append_right (by rw [List.length_take, Int.toNat_natCast]; omega), List.length_take, Int.toNat_natCast, show k - min k R.length = 0 by omega, List.getElem?_drop, List.getD_eq_getElem?_getD]
  simp
theorem goL_same {α : Type} (d : α) (R l : List α) (k : Nat) (hk : k < l.length) (h : R.length = l.length) (he : rdOf d R (k : Int) = rdOf d l (k : Int)) : goL R l k = goL R l (k + 1) := by
  rw [← goL_set d R l k hk h _ rfl, he, ← goL_rd d R l k hk h]
  have hl : k < (goL R l k).length := by rw [goL_len R l k (by omega) h]; exact hk
  rw [gd_get d hl]
  exact (List.set_getElem_self hl).symm
theorem openB_inv {s x : ByteArray} (h : openB s = (x, 0)) : s = sealB x ∧ x.size ≤ 58 := by
  unfold openB at h
  split at h
  · cases h
  · split at h
    · cases h
    · split at h
      · cases h
      · split at h
        · rename_i h1 h2 h3 h4
          have hx : s.extract 1 (1 + (s.data.toList.headD 0).toNat) = x := congrArg Prod.fst h
          rw [hx] at h4
          refine ⟨?_, ?_⟩
          · apply ByteArray.ext
            apply Array.ext'
            exact h4.symm
          · rw [← hx, ByteArray.size_extract]; omega
        · cases h
/-- How many of the first are told written. -/
def cntD (dirty : List Bool) (k : Nat) : Nat := ((dirty.take k).filter id).length
theorem cntD_succ (l : List Bool) (k : Nat) (hk : k < l.length) : cntD l (k + 1) = cntD l k + if rdOf false l (k : Int) = true then 1 else 0 := by
  unfold cntD
  rw [List.take_succ_eq_append_getElem hk, List.filter_append, List.length_append, gd_get false hk]
  congr 1
  cases l[k] <;> rfl
theorem cntD_le (l : List Bool) (k : Nat) : cntD l k ≤ k := by unfold cntD; exact Nat.le_trans (List.length_filter_le _ _) (List.length_take_le _ _)
/-- What is known of a store that anything happens to. -/
structure KInv (m : Nat) (S N sure now : List ByteArray) (wild dirty : List Bool) : Prop where
  hS : S.length = m
  hs : sure.length = m
  hn : now.length = m
  hw : wild.length = m
  hd : dirty.length = m
  right : Sec.rightB S N (-1) = true
  d1 : ∀ k, k < m → rdOf false dirty (k : Int) = true → rdOf ByteArray.empty N (k : Int) = sealB (rdOf ByteArray.empty now (k : Int)) ∧ (rdOf ByteArray.empty now (k : Int)).size ≤ 58
  d0 : ∀ k, k < m → rdOf false dirty (k : Int) = false → rdOf ByteArray.empty N (k : Int) = ⟨#[]⟩
  s0 : ∀ k, k < m → rdOf false wild (k : Int) = false → rdOf ByteArray.empty S (k : Int) = sealB (rdOf ByteArray.empty sure (k : Int)) ∧ (rdOf ByteArray.empty sure (k : Int)).size ≤ 58
  n0 : ∀ k, k < m → rdOf false dirty (k : Int) = false → rdOf false wild (k : Int) = false → rdOf ByteArray.empty now (k : Int) = rdOf ByteArray.empty sure (k : Int)
namespace KInv
variable {m : Nat} {S N sure now : List ByteArray} {wild dirty : List Bool}
theorem hN (h : KInv m S N sure now wild dirty) : N.length = m := by have := (right_iff.1 h.right).2.1; rw [this]; exact h.hS
theorem new (m : Nat) (hm : m ≤ 512) : KInv m (List.replicate m (sealB ⟨#[]⟩)) (List.replicate m ⟨#[]⟩) (List.replicate m ⟨#[]⟩) (List.replicate m ⟨#[]⟩) (List.replicate m false) (List.replicate m false) := by
  have hi := Inv.new m (-1) hm (by omega) (by omega)
  refine ⟨by simp, by simp, by simp, by simp, by simp, hi.right, fun k hk h => ?_, fun k hk h => ?_, fun k hk h => ?_, fun k hk h1 h2 => ?_⟩
  · rw [gd_rep _ _ hk] at h; cases h
  · rw [gd_rep _ _ hk]
  · rw [gd_rep _ _ hk, gd_rep _ _ hk]; exact ⟨rfl, by decide⟩
  · rfl
theorem write (h : KInv m S N sure now wild dirty) (j : Nat) (hj : j < m) (s : ByteArray) (hs : s.size ≤ 58) : KInv m S (N.set j (sealB s)) sure (now.set j s) wild (dirty.set j true) := by
  obtain ⟨r1, r2, r3, r4, r5, r6⟩ := right_iff.1 h.right
  have hN := h.hN
  have hn := h.hn
  have hd := h.hd
  refine ⟨h.hS, h.hs, by rw [List.length_set]; exact hn, h.hw, by rw [List.length_set]; exact hd, right_iff.2 ⟨r1, by rw [List.length_set]; exact r2, r3, r4, r5, fun x hx => ?_⟩, fun k hk e => ?_, fun k hk e => ?_, h.s0, fun k hk e1 e2 => ?_⟩
  · rcases List.mem_or_eq_of_mem_set hx with h1 | h1
    · exact r6 x h1
    · rw [h1]; exact Or.inr (sealB_size s hs)
  · rw [gd_set _ _ (by omega) (by omega)] at e ⊢
    rw [gd_set _ _ (by omega) (by omega)]
    by_cases hkj : k = j
    · rw [if_pos hkj, if_pos hkj]; exact ⟨rfl, hs⟩
    · rw [if_neg hkj] at e ⊢
      rw [if_neg hkj]
      exact h.d1 k hk e
  · rw [gd_set _ _ (by omega) (by omega)] at e ⊢
    by_cases hkj : k = j
    · rw [if_pos hkj] at e; cases e
    · rw [if_neg hkj] at e ⊢
      exact h.d0 k hk e
  · rw [gd_set _ _ (by omega) (by omega)] at e1 ⊢
    by_cases hkj : k = j
    · rw [if_pos hkj] at e1; cases e1
    · rw [if_neg hkj] at e1 ⊢
      exact h.n0 k hk e1 e2
theorem write_R (h : KInv m S N sure now wild dirty) (j : Nat) (hj : j < m) (s : ByteArray) (hs : s.size ≤ 58) : writeR S N (-1) (j : Int) s = ((S, N.set j (sealB s), -1), 0) := by
  unfold writeR
  rw [h.right, if_pos rfl, if_neg (by omega), if_neg (by have := h.hS; omega), if_neg (by omega), Int.toNat_natCast]
  rfl
theorem sync_R (h : KInv m S N sure now wild dirty) : syncR S N (-1) = ((nowL S N, List.replicate m ⟨#[]⟩, -1), 0) := by
  unfold syncR
  rw [h.right, if_pos rfl, if_neg (by omega), h.hS]
  rfl
theorem crash_R (h : KInv m S N sure now wild dirty) (keep : List Int) : crashR S N (-1) keep = ((crL S N keep, List.replicate m ⟨#[]⟩, -1), 0) := by
  unfold crashR
  rw [h.right, if_pos rfl, h.hS]
theorem read_R (h : KInv m S N sure now wild dirty) (j : Nat) (hj : j < m) : readR S N (-1) (j : Int) = openB (nowB (rdOf ByteArray.empty S (j : Int)) (rdOf ByteArray.empty N (j : Int))) := by
  unfold readR
  rw [h.right, if_pos rfl, if_neg (by have := h.hS; omega)]
/-- What is checked. -/
theorem check (h : KInv m S N sure now wild dirty) (k : Nat) (hk : k < m) (hc : rdOf false dirty (k : Int) = true ∨ rdOf false wild (k : Int) = false) :
    openB (nowB (rdOf ByteArray.empty S (k : Int)) (rdOf ByteArray.empty N (k : Int))) = (rdOf ByteArray.empty now (k : Int), 0) := by
  cases hd : rdOf false dirty (k : Int) with
  | true =>
    obtain ⟨h1, h2⟩ := h.d1 k hk hd
    rw [h1]
    unfold nowB
    rw [if_neg (fun e => by have := (size_toList _).1 e; rw [sealB_size _ h2] at this; omega), open_seal _ h2]
  | false =>
    have hw : rdOf false wild (k : Int) = false := by rcases hc with h1 | h1; · rw [hd] at h1; cases h1
                                                      · exact h1
    obtain ⟨h1, h2⟩ := h.s0 k hk hw
    rw [h.d0 k hk hd, h.n0 k hk hd hw, h1]
    unfold nowB
    rw [if_pos ((size_toList _).2 rfl), open_seal _ h2]
def sySure (m : Nat) (sure now : List ByteArray) (dirty : List Bool) : List ByteArray := (List.range m).map fun (k : Nat) => if rdOf false dirty (k : Int) = true then rdOf ByteArray.empty now (k : Int) else rdOf ByteArray.empty sure (k : Int)
def syWild (m : Nat) (wild dirty : List Bool) : List Bool := (List.range m).map fun (k : Nat) => if rdOf false dirty (k : Int) = true then false else rdOf false wild (k : Int)
theorem rep_sizes {m : Nat} : ∀ x ∈ List.replicate m (⟨#[]⟩ : ByteArray), x.size = 0 ∨ x.size = 64 := fun x hx => by rw [List.eq_of_mem_replicate hx]; exact Or.inl rfl
theorem sync (h : KInv m S N sure now wild dirty) : KInv m (nowL S N) (List.replicate m ⟨#[]⟩) (sySure m sure now dirty) now (syWild m wild dirty) (List.replicate m false) := by
  obtain ⟨r1, r2, r3, r4, r5, r6⟩ := right_iff.1 h.right
  have hN := h.hN
  have hS := h.hS
  have hl : (nowL S N).length = m := by rw [nowL_length _ _ r2]; exact hS
  refine ⟨hl, by simp [sySure], h.hn, by simp [syWild], by simp, right_iff.2 ⟨by omega, by simp; omega, r3, r4, Inv.nowL_size h.right, rep_sizes⟩, fun k hk e => ?_, fun k hk e => ?_, fun k hk e => ?_, fun k hk e1 e2 => ?_⟩
  · rw [gd_rep _ _ hk] at e; cases e
  · rw [gd_rep _ _ hk]
  · unfold syWild at e
    unfold sySure
    rw [gd_map _ _ hk] at e ⊢
    rw [Inv.nowL_rd (by omega) (by omega)]
    by_cases hd : rdOf false dirty (k : Int) = true
    · rw [if_pos hd]
      obtain ⟨h1, h2⟩ := h.d1 k hk hd
      rw [h1]
      unfold nowB
      rw [if_neg (fun e => by have := (size_toList _).1 e; rw [sealB_size _ h2] at this; omega)]
      exact ⟨rfl, h2⟩
    · rw [if_neg hd] at e ⊢
      rw [h.d0 k hk (by simpa using hd)]
      unfold nowB
      rw [if_pos ((size_toList _).2 rfl)]
      exact h.s0 k hk e
  · unfold syWild at e2
    unfold sySure
    rw [gd_map _ _ hk] at e2 ⊢
    by_cases hd : rdOf false dirty (k : Int) = true
    · rw [if_pos hd]
    · rw [if_neg hd] at e2 ⊢
      exact h.n0 k hk (by simpa using hd) e2
/-- What a crash tells of one: sure, now, wild. -/
def crK (S' sure now : ByteArray) (wild dirty : Bool) (of : Nat) : ByteArray × ByteArray × Bool :=
  if dirty = false then (sure, sure, wild) else
  if of = 0 then (sure, sure, wild) else
  if of = 64 then (now, now, false) else
  if (openB S').2 = 0 ∧ (openB S').1 = now then ((openB S').1, now, false) else
  if (openB S').2 = 0 ∧ (openB S').1 = sure ∧ wild = false then (sure, (openB S').1, wild) else
  if (openB S').2 = 0 then ((openB S').1, (openB S').1, true) else (sure, now, true)
def crF (S N sure now : List ByteArray) (wild dirty : List Bool) (keep : List Int) (k : Nat) : ByteArray × ByteArray × Bool :=
  crK (rdOf ByteArray.empty (crL S N keep) (k : Int)) (rdOf ByteArray.empty sure (k : Int)) (rdOf ByteArray.empty now (k : Int)) (rdOf false wild (k : Int)) (rdOf false dirty (k : Int)) (keepAt keep (cntD dirty k))
theorem cnt_eq (h : KInv m S N sure now wild dirty) : ∀ k, k ≤ m → cntN N k = cntD dirty k
  | 0, _ => rfl
  | k + 1, hk => by
    rw [cntN_succ N k (by have := h.hN; omega), cntD_succ dirty k (by have := h.hd; omega), cnt_eq h k (by omega)]
    congr 1
    cases hd : rdOf false dirty (k : Int) with
    | true =>
      obtain ⟨h1, h2⟩ := h.d1 k (by omega) hd
      rw [h1, if_neg (fun e => by have := (size_toList _).1 e; rw [sealB_size _ h2] at this; omega)]; rfl
    | false => rw [h.d0 k (by omega) hd, if_pos ((size_toList _).2 rfl)]; rfl
theorem tornS_size {s n : ByteArray} {k : Nat} (h1 : s.size = 64) (h2 : n.size = 64) (hk : k ≤ 64) : (tornS s n k).size = 64 := by
  unfold tornS
  show (n.data.toList.take k ++ s.data.toList.drop k).length = 64
  rw [List.length_append, List.length_take, List.length_drop, ← Lib.size_eq, ← Lib.size_eq]; omega
theorem tornS_zero (s n : ByteArray) : tornS s n 0 = s := by
  unfold tornS; simp
theorem tornS_all {s n : ByteArray} (h1 : s.size = 64) (h2 : n.size = 64) : tornS s n 64 = n := by
  unfold tornS
  rw [List.take_of_length_le (by rw [← Lib.size_eq]; omega), List.drop_eq_nil_of_le (by rw [← Lib.size_eq]; omega)]
  simp
theorem crash (h : KInv m S N sure now wild dirty) (keep : List Int) :
    KInv m (crL S N keep) (List.replicate m ⟨#[]⟩) ((List.range m).map fun k => (crF S N sure now wild dirty keep k).1) ((List.range m).map fun k => (crF S N sure now wild dirty keep k).2.1) ((List.range m).map fun k => (crF S N sure now wild dirty keep k).2.2) (List.replicate m false) := by
  obtain ⟨r1, r2, r3, r4, r5, r6⟩ := right_iff.1 h.right
  have hN := h.hN
  have hS := h.hS
  have hl : (crL S N keep).length = m := by rw [crL_length]; exact hS
  -- one sector
  have hcr : ∀ k, k < m → rdOf ByteArray.empty (crL S N keep) (k : Int) = if rdOf false dirty (k : Int) = true then tornS (rdOf ByteArray.empty S (k : Int)) (rdOf ByteArray.empty N (k : Int)) (keepAt keep (cntD dirty k)) else rdOf ByteArray.empty S (k : Int) := by
    intro k hk
    rw [crL_rd _ _ _ _ (by omega)]
    unfold crAt
    cases hd : rdOf false dirty (k : Int) with
    | true =>
      obtain ⟨h1, h2⟩ := h.d1 k hk hd
      rw [if_pos rfl, if_neg (by rw [h1]; exact fun e => by have := (size_toList _).1 e; rw [sealB_size _ h2] at this; omega), h.cnt_eq k (by omega)]
    | false => rw [if_pos (by rw [h.d0 k hk hd]; exact (size_toList _).2 rfl), if_neg (by simp)]
  have hsz : ∀ x ∈ crL S N keep, x.size = 64 := by
    intro x hx
    obtain ⟨k, hk, rfl⟩ := Inv.mem_rd hx
    rw [hl] at hk
    rw [hcr k hk]
    split
    · rename_i hd
      obtain ⟨h1, h2⟩ := h.d1 k hk hd
      exact tornS_size (r5 _ (rd_mem (by omega))) (by rw [h1]; exact sealB_size _ h2) (keepAt_le _ _)
    · exact r5 _ (rd_mem (by omega))
  refine ⟨hl, by simp, by simp, by simp, by simp, right_iff.2 ⟨by omega, by simp; omega, r3, r4, hsz, rep_sizes⟩, fun k hk e => ?_, fun k hk e => ?_, fun k hk e => ?_, fun k hk e1 e2 => ?_⟩
  · rw [gd_rep _ _ hk] at e; cases e
  · rw [gd_rep _ _ hk]
  · rw [gd_map _ _ hk] at e ⊢
    unfold crF crK at e ⊢
    cases hd : rdOf false dirty (k : Int) with
    | false =>
      rw [hd, if_pos rfl] at e
      rw [if_pos rfl, hcr k hk, hd, if_neg (by simp)]
      exact h.s0 k hk e
    | true =>
      obtain ⟨h1, h2⟩ := h.d1 k hk hd
      have hn64 : (rdOf ByteArray.empty N (k : Int)).size = 64 := by rw [h1]; exact sealB_size _ h2
      have hs64 := r5 _ (rd_mem (show k < S.length by omega))
      rw [hd, if_neg (by simp)] at e
      rw [if_neg (by simp)]
      have hc := hcr k hk
      rw [hd, if_pos rfl] at hc
      by_cases o0 : keepAt keep (cntD dirty k) = 0
      · rw [if_pos o0] at e ⊢
        rw [hc, o0, tornS_zero]
        exact h.s0 k hk e
      · rw [if_neg o0] at e ⊢
        by_cases o64 : keepAt keep (cntD dirty k) = 64
        · rw [if_pos o64] at e ⊢
          rw [hc, o64, tornS_all hs64 hn64, h1]
          exact ⟨rfl, h2⟩
        · rw [if_neg o64] at e ⊢
          by_cases c1 : (openB (rdOf ByteArray.empty (crL S N keep) (k : Int))).2 = 0 ∧ (openB (rdOf ByteArray.empty (crL S N keep) (k : Int))).1 = rdOf ByteArray.empty now (k : Int)
          · rw [if_pos c1] at e ⊢
            exact openB_inv (Prod.ext rfl c1.1)
          · rw [if_neg c1] at e ⊢
            by_cases c2 : (openB (rdOf ByteArray.empty (crL S N keep) (k : Int))).2 = 0 ∧ (openB (rdOf ByteArray.empty (crL S N keep) (k : Int))).1 = rdOf ByteArray.empty sure (k : Int) ∧ rdOf false wild (k : Int) = false
            · rw [if_pos c2] at e ⊢
              have h3 := c2.2.1
              have h4 : openB (rdOf ByteArray.empty (crL S N keep) (k : Int)) = (rdOf ByteArray.empty sure (k : Int), 0) := Prod.ext h3 c2.1
              exact openB_inv h4
            · rw [if_neg c2] at e ⊢
              by_cases c3 : (openB (rdOf ByteArray.empty (crL S N keep) (k : Int))).2 = 0
              · rw [if_pos c3] at e; cases e
              · rw [if_neg c3] at e; cases e
  · rw [gd_map _ _ hk] at e2
    rw [gd_map _ _ hk, gd_map _ _ hk]
    unfold crF crK at e2 ⊢
    split
    · rfl
    · rename_i a
      rw [if_neg a] at e2
      split
      · rfl
      · rename_i b
        rw [if_neg b] at e2
        split
        · rfl
        · rename_i c
          rw [if_neg c] at e2
          split
          · rename_i c1; exact c1.2.symm
          · rename_i c1
            rw [if_neg c1] at e2
            split
            · rename_i c2; exact c2.2.1
            · rename_i c2
              rw [if_neg c2] at e2
              split at e2
              · cases e2
              · cases e2
end KInv
end Go.Proofs.Ytmefdlajjbcljaa
