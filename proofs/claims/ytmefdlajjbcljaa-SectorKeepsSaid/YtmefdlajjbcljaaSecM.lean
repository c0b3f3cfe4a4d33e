import Derived.Test.YtmefdlajjbcljaaSecD
import Derived.Test.YtmefdlajjbcljaaSecE
namespace Go.Proofs.Ytmefdlajjbcljaa
open Go.RowKit Go.Proofs.Ytmefdlajjbcljaa.PS8 Go.Proofs.YtmefdlajjbcljaaW.PrintWords
set_option linter.unusedVariables false
set_option linter.unusedSimpArgs false

/-- What a new store is. -/
def newR (n f : Int) : (List ByteArray × List ByteArray × Int) × Int :=
  if n < 0 ∨ 512 < n ∨ f < -1 ∨ 1000000 < f then (([], [], 0), 1) else ((List.replicate n.toNat (sealB ⟨#[]⟩), List.replicate n.toNat ⟨#[]⟩, f), 0)
/-- How many of the first are written. -/
def cntN (n : List ByteArray) (k : Nat) : Nat := ((n.take k).filter (fun x => !x.toList.isEmpty)).length
/-- How much is kept. -/
def keepAt (keep : List Int) (c : Nat) : Nat := ((keep.getD c 0) % 65).toNat
/-- A torn sector. -/
def tornS (s n : ByteArray) (m : Nat) : ByteArray := ⟨(n.data.toList.take m ++ s.data.toList.drop m).toArray⟩
def crAt (s n : List ByteArray) (keep : List Int) (k : Nat) : ByteArray :=
  if (rdOf ByteArray.empty n (k : Int)).toList = [] then rdOf ByteArray.empty s (k : Int) else tornS (rdOf ByteArray.empty s (k : Int)) (rdOf ByteArray.empty n (k : Int)) (keepAt keep (cntN n k))
def crL (s n : List ByteArray) (keep : List Int) : List ByteArray := (List.range s.length).map (crAt s n keep)
/-- What a crash makes. -/
def crashR (s n : List ByteArray) (f : Int) (keep : List Int) : (List ByteArray × List ByteArray × Int) × Int :=
  if Sec.rightB s n f then ((crL s n keep, List.replicate s.length ⟨#[]⟩, -1), 0) else (([], [], 0), 1)
/-- What is read. -/
def readR (s n : List ByteArray) (f at_ : Int) : ByteArray × Int :=
  if Sec.rightB s n f then (if at_ < 0 ∨ (s.length : Int) ≤ at_ then (⟨#[]⟩, 6) else openB (nowB (rdOf ByteArray.empty s at_) (rdOf ByteArray.empty n at_))) else (⟨#[]⟩, 1)
/-- So far it is gone through. -/
def goS (R s : List ByteArray) (k : Nat) : List ByteArray := R.take k ++ s.drop k
theorem goS_set (R s : List ByteArray) (k : Nat) (hk : k < s.length) (h : R.length = s.length) : (goS R s k).set k (rdOf ByteArray.empty R k) = goS R s (k + 1) := by
  unfold goS
  rw [List.set_append_right _ _ (by rw [List.length_take]; omega), List.length_take, show k - min k R.length = 0 by omega, List.drop_eq_getElem_cons hk, List.set_cons_zero, List.take_succ_eq_append_getElem (by omega), List.append_assoc]
  congr 2
  unfold rdOf
  simp [show k < R.length by omega]
theorem goS_rd (R s : List ByteArray) (k : Nat) (hk : k < s.length) (h : R.length = s.length) : rdOf ByteArray.empty (goS R s k) k = rdOf ByteArray.empty s k := by
  unfold goS rdOf
  rw [List.getD_eq_getElem?_getD, List.getElem?_append_right (by rw [List.length_take, Int.toNat_natCast]; omega), List.length_take, Int.toNat_natCast, show k - min k R.length = 0 by omega, List.getElem?_drop, List.getD_eq_getElem?_getD]
  simp
theorem goS_same (R s : List ByteArray) (k : Nat) (hk : k < s.length) (h : R.length = s.length) (he : rdOf ByteArray.empty R k = rdOf ByteArray.empty s k) : goS R s k = goS R s (k + 1) := by
  rw [← goS_set R s k hk h, he, ← goS_rd R s k hk h]
  unfold rdOf
  apply List.ext_getElem?
  intro i
  rw [List.getElem?_set]
  split
  · rename_i e; subst e
    have hl : k < (goS R s k).length := by unfold goS; rw [List.length_append, List.length_take, List.length_drop]; omega
    rw [if_pos hl]; simp [hl]
  · rfl
theorem goS_full (R s : List ByteArray) (h : R.length = s.length) : goS R s s.length = R := by
  unfold goS; rw [List.drop_length, List.append_nil, List.take_of_length_le (by omega)]
theorem crL_length (s n : List ByteArray) (keep : List Int) : (crL s n keep).length = s.length := by unfold crL; simp
theorem crL_rd (s n : List ByteArray) (keep : List Int) (k : Nat) (hk : k < s.length) : rdOf ByteArray.empty (crL s n keep) (k : Int) = crAt s n keep k := by
  unfold crL rdOf
  simp [List.getD_eq_getElem?_getD, hk]
theorem cntN_succ (n : List ByteArray) (k : Nat) (hk : k < n.length) : cntN n (k + 1) = cntN n k + if (rdOf ByteArray.empty n (k : Int)).toList = [] then 0 else 1 := by
  unfold cntN rdOf
  rw [List.take_succ_eq_append_getElem hk, List.filter_append, List.length_append]
  congr 1
  rw [List.getD_eq_getElem?_getD, Int.toNat_natCast, List.getElem?_eq_getElem hk, Option.getD_some, List.filter_cons]
  by_cases h : n[k].toList = []
  · rw [if_pos h]; simp [h]
  · rw [if_neg h]
    have : (n[k].toList.isEmpty) = false := by cases hh : n[k].toList with
      | nil => exact absurd hh h
      | cons => rfl
    simp [this]
theorem keepAt_le (keep : List Int) (c : Nat) : keepAt keep c ≤ 64 := by unfold keepAt; omega
end Go.Proofs.Ytmefdlajjbcljaa
