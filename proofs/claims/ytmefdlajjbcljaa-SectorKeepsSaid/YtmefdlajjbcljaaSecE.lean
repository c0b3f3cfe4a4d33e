import Derived.Test.YtmefdlajjbcljaaSecB
namespace Go.Proofs.Ytmefdlajjbcljaa
set_option linter.unusedVariables false
set_option linter.unusedSimpArgs false
namespace Sec

theorem fold_inj : ∀ (q : List UInt8) (a b : Nat), a < 4294967296 → b < 4294967296 → q.foldl (fun n x => (31 * n + x.toNat) % 4294967296) a = q.foldl (fun n x => (31 * n + x.toNat) % 4294967296) b → a = b
  | [], a, b, _, _, h => h
  | x :: q, a, b, ha, hb, h => by
    rw [List.foldl_cons, List.foldl_cons] at h
    have := fold_inj q _ _ (Nat.mod_lt _ (by omega)) (Nat.mod_lt _ (by omega)) h
    omega
theorem sumU_set (p q : List UInt8) (x b : UInt8) (h : sumU (p ++ x :: q) = sumU (p ++ b :: q)) : x = b := by
  unfold sumU at h
  rw [List.foldl_append, List.foldl_append, List.foldl_cons, List.foldl_cons] at h
  have := fold_inj q _ _ (Nat.mod_lt _ (by omega)) (Nat.mod_lt _ (by omega)) h
  have h1 := x.toNat_lt
  have h2 := b.toNat_lt
  apply UInt8.toNat_inj.1
  omega
def four (n : Nat) : List UInt8 := [bt n 0, bt n 1, bt n 2, bt n 3]
theorem four_inj {n m : Nat} (hn : n < 4294967296) (hm : m < 4294967296) (h : four n = four m) : n = m := by
  unfold four bt at h
  simp only [List.cons.injEq, and_true] at h
  obtain ⟨h0, h1, h2, h3⟩ := h
  have e := fun (a b : Nat) (h : UInt8.ofNat a = UInt8.ofNat b) => show a % 256 = b % 256 by have := congrArg UInt8.toNat h; simpa using this
  have g0 := e _ _ h0
  have g1 := e _ _ h1
  have g2 := e _ _ h2
  have g3 := e _ _ h3
  simp at g0 g1 g2 g3
  omega
theorem sealL_four (L : List UInt8) : sealL L = s60 L ++ four (sumU (s60 L)) := rfl
theorem seal_set (L L' : List UInt8) (h : L.length ≤ 58) (h' : L'.length ≤ 58) (i : Nat) (hi : i < 64) (b : UInt8) (e : (sealL L).set i b = sealL L') : (sealL L).set i b = sealL L := by
  have l1 := s60_length L h
  have l2 := s60_length L' h'
  rw [sealL_four, sealL_four] at e
  rw [sealL_four]
  by_cases h60 : i < 60
  · rw [List.set_append_left _ _ (by omega)] at e ⊢
    obtain ⟨e1, e2⟩ := List.append_inj e (by rw [List.length_set]; omega)
    have e3 := four_inj (sumU_lt _) (sumU_lt _) e2
    rw [← e1] at e3
    have hs := List.set_eq_take_append_cons_drop (l := s60 L) (i := i) (a := b)
    rw [if_pos (by omega)] at hs
    have ho : s60 L = (s60 L).take i ++ (s60 L)[i] :: (s60 L).drop (i + 1) := by rw [← List.drop_eq_getElem_cons (by omega), List.take_append_drop]
    have hx : (s60 L)[i] = b := by
      refine sumU_set ((s60 L).take i) ((s60 L).drop (i + 1)) _ _ ?_
      rw [← hs, ← ho]; exact e3
    have : (s60 L).set i b = s60 L := by rw [hs, ← hx, ← ho]
    rw [this]
  · rw [List.set_append_right _ _ (by omega)] at e ⊢
    obtain ⟨e1, e2⟩ := List.append_inj e (by omega)
    rw [e2, ← e1]
end Sec
theorem open_seal (s : ByteArray) (h : s.size ≤ 58) : openB (sealB s) = (s, 0) := by
  have hl : s.data.toList.length ≤ 58 := by rw [← Lib.size_eq]; exact h
  have h64 : (sealB s).size = 64 := by rw [Lib.size_eq]; exact Sec.sealL_length _ hl
  have hh : (sealB s).data.toList.headD 0 = UInt8.ofNat s.data.toList.length := rfl
  have hn : (UInt8.ofNat s.data.toList.length).toNat = s.data.toList.length := by simp; omega
  have hx : (sealB s).extract 1 (1 + s.data.toList.length) = s := by
    apply ByteArray.ext
    apply Array.ext'
    rw [Lib.extract_data]
    show ((Sec.sealL s.data.toList).drop 1).take _ = _
    unfold Sec.sealL Sec.s60
    simp [List.take_append]
  unfold openB
  rw [if_neg (by omega), if_neg (by omega), hh, hn, if_neg (by omega), hx, if_pos (by rfl)]
theorem open_turn (s : ByteArray) (h : s.size ≤ 58) (i : Nat) (hi : i < 64) (b : UInt8) (t : ByteArray) (ht : t.data.toList = (sealB s).data.toList.set i b) (hne : t ≠ sealB s) : openB t = (⟨#[]⟩, 5) := by
  have hl : s.data.toList.length ≤ 58 := by rw [← Lib.size_eq]; exact h
  have h64 : t.size = 64 := by rw [Lib.size_eq, ht, List.length_set]; exact Sec.sealL_length _ hl
  unfold openB
  rw [if_neg (by omega), if_neg (by omega)]
  by_cases hn : 58 < (t.data.toList.headD 0).toNat
  · rw [if_pos hn]
  · rw [if_neg hn, if_neg]
    intro e
    refine hne ?_
    have ht' : (Sec.sealL s.data.toList).set i b = Sec.sealL (t.extract 1 (1 + (t.data.toList.headD 0).toNat)).data.toList := by rw [e, ht]; rfl
    have := Sec.seal_set _ _ hl (by rw [← Lib.size_eq, ByteArray.size_extract]; omega) i hi b ht'
    apply ByteArray.ext
    apply Array.ext'
    rw [ht]
    exact this
end Go.Proofs.Ytmefdlajjbcljaa
