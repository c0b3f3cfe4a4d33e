import Derived.Test.YtldpnmebjnkjeaaDoorShaW
namespace Go.Proofs.YtldpnmebjnkjeaaDoor.Sha
open Go.RowKit
set_option linter.unusedVariables false
set_option linter.unusedSimpArgs false

theorem words_len : ∀ (n : Nat) (l : List UInt8), l.length = 4 * n → (words l).length = n
  | 0, l, h => by
    have : l = [] := List.length_eq_zero_iff.1 (by omega)
    subst this; rfl
  | n + 1, a :: b :: c :: d :: r, h => by
    show (words r).length + 1 = n + 1
    rw [words_len n r (by simp at h; omega)]
  | n + 1, [], h => by simp at h
  | n + 1, [_], h => by simp at h; omega
  | n + 1, [_, _], h => by simp at h; omega
  | n + 1, [_, _, _], h => by simp at h; omega
theorem words_get : ∀ (n t : Nat) (l : List UInt8), l.length = 4 * n → t < n → (words l).getD t 0 = be (l.getD (4 * t) 0) (l.getD (4 * t + 1) 0) (l.getD (4 * t + 2) 0) (l.getD (4 * t + 3) 0)
  | 0, t, l, h, ht => by omega
  | n + 1, t, [], h, ht => by simp at h
  | n + 1, t, [_], h, ht => by simp at h; omega
  | n + 1, t, [_, _], h, ht => by simp at h; omega
  | n + 1, t, [_, _, _], h, ht => by simp at h; omega
  | n + 1, 0, a :: b :: c :: d :: r, h, ht => rfl
  | n + 1, t + 1, a :: b :: c :: d :: r, h, ht => by
    have := words_get n t r (by simp at h; omega) (by omega)
    show (words r).getD t 0 = _
    rw [this, show 4 * (t + 1) = 4 * t + 1 + 1 + 1 + 1 by omega, show 4 * t + 1 + 1 + 1 + 1 + 1 = (4 * t + 1) + 1 + 1 + 1 + 1 by omega, show 4 * t + 1 + 1 + 1 + 1 + 2 = (4 * t + 2) + 1 + 1 + 1 + 1 by omega, show 4 * t + 1 + 1 + 1 + 1 + 3 = (4 * t + 3) + 1 + 1 + 1 + 1 by omega]
    simp only [List.getD_cons_succ]
theorem sched_len (b : List UInt8) (h : b.length = 64) : ∀ n, (sched b n).length = 16 + n
  | 0 => words_len 16 b (by omega)
  | n + 1 => by
    show (sched b n ++ _).length = _
    rw [List.length_append, sched_len b h n]; rfl
theorem sched_keep (b : List UInt8) (h : b.length = 64) (t : Nat) : ∀ n k, t < 16 + n → (sched b (n + k)).getD t 0 = (sched b n).getD t 0
  | n, 0, ht => rfl
  | n, k + 1, ht => by
    show (sched b (n + k) ++ _).getD t 0 = _
    rw [List.getD_eq_getElem?_getD, List.getElem?_append_left (by rw [sched_len b h]; omega), ← List.getD_eq_getElem?_getD]
    exact sched_keep b h t n k ht
/-- The word at a place. -/
def wsAt (b : List UInt8) (t : Nat) : UInt32 := (sched b 48).getD t 0
theorem ws_lo (b : List UInt8) (h : b.length = 64) (t : Nat) (ht : t < 16) : wsAt b t = be (b.getD (4 * t) 0) (b.getD (4 * t + 1) 0) (b.getD (4 * t + 2) 0) (b.getD (4 * t + 3) 0) := by
  unfold wsAt
  rw [show (48 : Nat) = 0 + 48 from rfl, sched_keep b h t 0 48 (by omega)]
  exact words_get 16 t b (by omega) ht
theorem ws_hi (b : List UInt8) (h : b.length = 64) (t : Nat) (h1 : 16 ≤ t) (h2 : t < 64) : wsAt b t = wsAt b (t - 16) + wsAt b (t - 7) + ss0 (wsAt b (t - 15)) + ss1 (wsAt b (t - 2)) := by
  obtain ⟨n, rfl⟩ : ∃ n, t = 16 + n := ⟨t - 16, by omega⟩
  have e : ∀ s, s < 16 + n → wsAt b s = (sched b n).getD s 0 := by
    intro s hs
    unfold wsAt
    rw [show (48 : Nat) = n + (48 - n) by omega, sched_keep b h s n (48 - n) hs]
  have e1 : wsAt b (16 + n) = nextW (sched b n) (16 + n) := by
    unfold wsAt
    rw [show (48 : Nat) = (n + 1) + (47 - n) by omega, sched_keep b h _ (n + 1) (47 - n) (by omega)]
    show (sched b n ++ [nextW (sched b n) (16 + n)]).getD (16 + n) 0 = _
    rw [List.getD_eq_getElem?_getD, List.getElem?_append_right (by rw [sched_len b h]; omega), sched_len b h, Nat.sub_self]
    rfl
  rw [e1, e _ (by omega), e _ (by omega), e _ (by omega), e _ (by omega)]
  rfl
theorem u8_32 (a : UInt8) : ((a.toUInt32).toNat : Int) = (a.toNat : Int) := by rw [UInt8.toNat_toUInt32]
theorem be_bits (a b c d : UInt8) :
    bits .or .u32 (bits .or .u32 (bits .or .u32 ((a.toNat : Int) % 4294967296 * 16777216 % 4294967296) ((b.toNat : Int) % 4294967296 * 65536 % 4294967296)) ((c.toNat : Int) % 4294967296 * 256 % 4294967296)) ((d.toNat : Int) % 4294967296) = ((be a b c d).toNat : Int) := by
  have m : ∀ x : UInt8, ((x.toNat : Int) % 4294967296) = (x.toUInt32.toNat : Int) := fun x => by rw [u8_32]; have := x.toNat_lt; omega
  rw [m a, m b, m c, m d]
  have h24 := bshl a.toUInt32 24 (by omega)
  have h16 := bshl b.toUInt32 16 (by omega)
  have h8 := bshl c.toUInt32 8 (by omega)
  rw [show ((2 : Int) ^ 24) = 16777216 by decide] at h24
  rw [show ((2 : Int) ^ 16) = 65536 by decide] at h16
  rw [show ((2 : Int) ^ 8) = 256 by decide] at h8
  rw [h24, h16, h8, bor, bor, bor]
  rfl
end Go.Proofs.YtldpnmebjnkjeaaDoor.Sha
