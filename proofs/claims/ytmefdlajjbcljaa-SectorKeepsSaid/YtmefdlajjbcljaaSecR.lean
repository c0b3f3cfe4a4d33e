import Derived.Test.YtmefdlajjbcljaaSecB
import Derived.LoopTactic
import Derived.Laws.EntriesVeiled
namespace Go.Proofs.Ytmefdlajjbcljaa
open Go.RowKit Go.Proofs.Ytmefdlajjbcljaa.PS8 Go.Proofs.YtmefdlajjbcljaaW.PrintWords
set_option linter.unusedVariables false
set_option linter.unusedSimpArgs false

/-! slices.IndexFunc and ContainsFunc over strings, by a function whose answers are known. -/
def Sec.IdxSays (p : ByteArray → Bool) (l : List ByteArray) (i : Int) : Prop := (0 ≤ i) ↔ l.any p = true
set_option maxHeartbeats 400000 in
theorem Sec.indexOdd (A : Option Addr) (c : Nat) (l : List ByteArray) (p : ByteArray → Bool)  (w : World) (hr : Kd.C Kd.string w A l.length l) (hm : l.length ≤ 9223372036854775807)
    (hG : Hid (∀ (x : ByteArray) (W : World), Below w.heap.size w W → Calls Try.prog 58 #[.string x] W fun e w' => e = .returned (.bool (p x)) ∧ Below W.heap.size W w')) :
    Calls Try.prog 78 #[.slice A l.length c, .func (.func 58) #[] #[]] w fun e w' => ∃ i : Int, e = .returned (.int .i64 i) ∧ Sec.IdxSays p l i ∧ Below w.heap.size w w' := by
  have HR := Lib.hid hr; clear hr
  have HB := Lib.hid (Below.refl w.heap.size w)
  go_enter Try.func78, Try.ntmps78
  go_wp2
  go_loopw [8] (fun i wr => ∃ k : Nat, k ≤ l.length ∧ i = .int .i64 k ∧ Hid (l.any p = (l.drop k).any p) ∧ Hid (Below w.heap.size w wr)) (fun i _ => l.length - (intOf i).toNat)
  case atStart => exact ⟨0, Nat.zero_le _, rfl, rfl, HB⟩
  case round =>
    clear HB
    obtain ⟨k, hk, rfl, hs, HB⟩ := hrel
    have HR2 := Lib.hid (Kd.C_below HR.out HB.out)
    by_cases hlt : k < l.length
    · obtain ⟨ad, hA, hc⟩ := ReadsOf.at_ (Kd.reads_of_C (d := ByteArray.empty) HR2.out) k (by omega) (by omega)
      subst hA
      simp only [Int.toNat_natCast] at hc
      have hdrop : l.drop k = rdOf ByteArray.empty l k :: l.drop (k + 1) := by
        rw [List.drop_eq_getElem_cons hlt]; congr 1; unfold rdOf; simp [hlt]
      generalize rdOf ByteArray.empty l (k : Int) = x at hc hdrop
      have HD := Lib.hid hdrop
      clear hdrop
      cases hx : p x with
      | false =>
        have HS : Hid (l.any p = (l.drop (k + 1)).any p) := by
          refine hs.out.trans ?_; rw [HD.out]; simp [hx]
        replace hx := Lib.hid hx
        go_wp2_with fail
        refine (hG.out x _ HB.out).mono ?_
        rintro e w1 ⟨rfl, hb1⟩
        rw [hx.out]
        replace hb1 := Lib.hid hb1
        go_wp2_with fail
        go_roundw
        case rel => exact ⟨k + 1, by omega, by go_num, HS, HB.out.trans (Below.mono hb1.out HB.out.size)⟩
        case measure => simp [intOf]; omega
      | true =>
        have HS : Hid (l.any p = true) := by
          refine hs.out.trans ?_; rw [HD.out]; simp [hx]
        replace hx := Lib.hid hx
        go_wp2_with fail
        refine (hG.out x _ HB.out).mono ?_
        rintro e w1 ⟨rfl, hb1⟩
        rw [hx.out]
        replace hb1 := Lib.hid hb1
        go_wp2_with fail
        go_ret
        exact ⟨k, rfl, by unfold Sec.IdxSays; rw [HS.out]; simp, HB.out.trans (Below.mono hb1.out HB.out.size)⟩
    · have HS : Hid (l.any p = false) := by
        refine hs.out.trans ?_; rw [List.drop_eq_nil_of_le (by omega)]; rfl
      go_wp2
      go_ret
      exact ⟨-1, rfl, by unfold Sec.IdxSays; rw [HS.out]; simp, HB.out⟩
set_option maxHeartbeats 400000 in
theorem Sec.containsOdd (A : Option Addr) (c : Nat) (l : List ByteArray) (p : ByteArray → Bool)  (w : World) (hr : Kd.C Kd.string w A l.length l) (hm : l.length ≤ 9223372036854775807)
    (hG : Hid (∀ (x : ByteArray) (W : World), Below w.heap.size w W → Calls Try.prog 58 #[.string x] W fun e w' => e = .returned (.bool (p x)) ∧ Below W.heap.size W w')) :
    Calls Try.prog 60 #[.slice A l.length c, .func (.func 58) #[] #[]] w fun e w' => e = .returned (.bool (l.any p)) ∧ Below w.heap.size w w' := by
  have HR := Lib.hid hr; clear hr
  go_enter Try.func60, Try.ntmps60
  go_wp2_with fail
  refine (Sec.indexOdd _ _ _ p  _ HR.out hm hG).mono ?_
  rintro e w' ⟨i, rfl, hi, hb⟩
  replace hi := Lib.hid hi
  go_wp2_with fail
  go_ret
  refine ⟨?_, hb⟩
  have : decide (0 ≤ i) = l.any p := by
    rw [Bool.eq_iff_iff, decide_eq_true_eq]; exact hi.out
  rw [← this]; rfl
set_option maxHeartbeats 400000 in
theorem Sec.indexTorn (A : Option Addr) (c : Nat) (l : List ByteArray) (p : ByteArray → Bool) (v : Value) (w : World) (hr : Kd.C Kd.string w A l.length l) (hm : l.length ≤ 9223372036854775807)
    (hG : Hid (∀ (x : ByteArray) (W : World), Below w.heap.size w W → Calls Try.prog 59 #[.string x, v] W fun e w' => e = .returned (.bool (p x)) ∧ Below W.heap.size W w')) :
    Calls Try.prog 78 #[.slice A l.length c, .func (.func 59) #[] #[v]] w fun e w' => ∃ i : Int, e = .returned (.int .i64 i) ∧ Sec.IdxSays p l i ∧ Below w.heap.size w w' := by
  have HR := Lib.hid hr; clear hr
  have HB := Lib.hid (Below.refl w.heap.size w)
  go_enter Try.func78, Try.ntmps78
  go_wp2
  go_loopw [8] (fun i wr => ∃ k : Nat, k ≤ l.length ∧ i = .int .i64 k ∧ Hid (l.any p = (l.drop k).any p) ∧ Hid (Below w.heap.size w wr)) (fun i _ => l.length - (intOf i).toNat)
  case atStart => exact ⟨0, Nat.zero_le _, rfl, rfl, HB⟩
  case round =>
    clear HB
    obtain ⟨k, hk, rfl, hs, HB⟩ := hrel
    have HR2 := Lib.hid (Kd.C_below HR.out HB.out)
    by_cases hlt : k < l.length
    · obtain ⟨ad, hA, hc⟩ := ReadsOf.at_ (Kd.reads_of_C (d := ByteArray.empty) HR2.out) k (by omega) (by omega)
      subst hA
      simp only [Int.toNat_natCast] at hc
      have hdrop : l.drop k = rdOf ByteArray.empty l k :: l.drop (k + 1) := by
        rw [List.drop_eq_getElem_cons hlt]; congr 1; unfold rdOf; simp [hlt]
      generalize rdOf ByteArray.empty l (k : Int) = x at hc hdrop
      have HD := Lib.hid hdrop
      clear hdrop
      cases hx : p x with
      | false =>
        have HS : Hid (l.any p = (l.drop (k + 1)).any p) := by
          refine hs.out.trans ?_; rw [HD.out]; simp [hx]
        replace hx := Lib.hid hx
        go_wp2_with fail
        refine (hG.out x _ HB.out).mono ?_
        rintro e w1 ⟨rfl, hb1⟩
        rw [hx.out]
        replace hb1 := Lib.hid hb1
        go_wp2_with fail
        go_roundw
        case rel => exact ⟨k + 1, by omega, by go_num, HS, HB.out.trans (Below.mono hb1.out HB.out.size)⟩
        case measure => simp [intOf]; omega
      | true =>
        have HS : Hid (l.any p = true) := by
          refine hs.out.trans ?_; rw [HD.out]; simp [hx]
        replace hx := Lib.hid hx
        go_wp2_with fail
        refine (hG.out x _ HB.out).mono ?_
        rintro e w1 ⟨rfl, hb1⟩
        rw [hx.out]
        replace hb1 := Lib.hid hb1
        go_wp2_with fail
        go_ret
        exact ⟨k, rfl, by unfold Sec.IdxSays; rw [HS.out]; simp, HB.out.trans (Below.mono hb1.out HB.out.size)⟩
    · have HS : Hid (l.any p = false) := by
        refine hs.out.trans ?_; rw [List.drop_eq_nil_of_le (by omega)]; rfl
      go_wp2
      go_ret
      exact ⟨-1, rfl, by unfold Sec.IdxSays; rw [HS.out]; simp, HB.out⟩
set_option maxHeartbeats 400000 in
theorem Sec.containsTorn (A : Option Addr) (c : Nat) (l : List ByteArray) (p : ByteArray → Bool) (v : Value) (w : World) (hr : Kd.C Kd.string w A l.length l) (hm : l.length ≤ 9223372036854775807)
    (hG : Hid (∀ (x : ByteArray) (W : World), Below w.heap.size w W → Calls Try.prog 59 #[.string x, v] W fun e w' => e = .returned (.bool (p x)) ∧ Below W.heap.size W w')) :
    Calls Try.prog 60 #[.slice A l.length c, .func (.func 59) #[] #[v]] w fun e w' => e = .returned (.bool (l.any p)) ∧ Below w.heap.size w w' := by
  have HR := Lib.hid hr; clear hr
  go_enter Try.func60, Try.ntmps60
  go_wp2_with fail
  refine (Sec.indexTorn _ _ _ p v _ HR.out hm hG).mono ?_
  rintro e w' ⟨i, rfl, hi, hb⟩
  replace hi := Lib.hid hi
  go_wp2_with fail
  go_ret
  refine ⟨?_, hb⟩
  have : decide (0 ≤ i) = l.any p := by
    rw [Bool.eq_iff_iff, decide_eq_true_eq]; exact hi.out
  rw [← this]; rfl

theorem Sec.odd_calls (x : ByteArray) (w : World) : Calls Try.prog 58 #[.string x] w fun e w' => e = .returned (.bool ((x.size : Int) != 64)) ∧ Below w.heap.size w w' := by
  go_enter Try.func58, Try.ntmps58
  go_wp2_with fail
  go_ret
  exact ⟨rfl, Below.refl _ _⟩
theorem Sec.torn_calls (x : ByteArray) (b : Nat) (w : World) (hc : w.cell? ⟨b, 0, none⟩ = some (.func (.func 58) #[] #[])) :
    Calls Try.prog 59 #[.string x, .pointer (some ⟨b, 0, none⟩)] w fun e w' => e = .returned (.bool (!(x.toList.isEmpty) && ((x.size : Int) != 64))) ∧ Below w.heap.size w w' := by
  by_cases hx : x.toList = []
  · have h1 : (x.toList.isEmpty) = true := by rw [hx]; rfl
    go_enter Try.func59, Try.ntmps59
    go_wp2_with fail
    go_ret
    refine ⟨?_, Below.refl _ _⟩
    simp [hx]
  · have h1 : (x.toList.isEmpty) = false := by cases h : x.toList with | nil => exact absurd h hx | cons => rfl
    go_enter Try.func59, Try.ntmps59
    go_wp2_with fail
    refine (Sec.odd_calls x _).mono ?_
    rintro e w1 ⟨rfl, hb1⟩
    go_wp2_with fail
    go_ret
    exact ⟨by rw [h1]; rfl, hb1⟩

def Sec.oddB (x : ByteArray) : Bool := (x.size : Int) != 64
def Sec.tornB (x : ByteArray) : Bool := !(x.toList.isEmpty) && ((x.size : Int) != 64)
def Sec.sizesB (s n : List ByteArray) (f : Int) : Bool := decide (s.length ≤ 512) && (decide (n.length = s.length) && (decide (-1 ≤ f) && decide (f ≤ 1000000)))
def Sec.rightB (s n : List ByteArray) (f : Int) : Bool := Sec.sizesB s n f && (!(s.any Sec.oddB) && !(n.any Sec.tornB))

set_option maxHeartbeats 1000000 in
theorem sector_right_calls (A0_0 : Option Addr) (c0_0 : Nat) (l0_0 : List ByteArray) (A0_1 : Option Addr) (c0_1 : Nat) (l0_1 : List ByteArray) (a0_2 : Int) (w : World) (hr0_0 : Kd.C Kd.string w A0_0 l0_0.length l0_0) (hc0_0 : l0_0.length ≤ c0_0) (hr0_1 : Kd.C Kd.string w A0_1 l0_1.length l0_1) (hc0_1 : l0_1.length ≤ c0_1) :
    Calls Try.prog 24 #[.agg #[.slice A0_0 l0_0.length c0_0, .slice A0_1 l0_1.length c0_1, .int .i64 a0_2]] w fun e w' => e = .returned (.bool (Sec.rightB l0_0 l0_1 a0_2)) ∧ Below w.heap.size w w' := by
  have HR0 := Lib.hid hr0_0
  have HR1 := Lib.hid hr0_1
  have HP := Lib.hid (show Sec.rightB l0_0 l0_1 a0_2 = (Sec.sizesB l0_0 l0_1 a0_2 && (!(l0_0.any Sec.oddB) && !(l0_1.any Sec.tornB))) from rfl)
  have HQ := Lib.hid (show Sec.sizesB l0_0 l0_1 a0_2 = (decide (l0_0.length ≤ 512) && (decide (l0_1.length = l0_0.length) && (decide (-1 ≤ a0_2) && decide (a0_2 ≤ 1000000)))) from rfl)
  clear hr0_0 hr0_1
  have hmf : ∀ (fn : Fn) (first cap : Array Value) (w : World), (Instr.makeFunc fn first cap).run Try.prog w = .ok (.func fn first cap) w := fun _ _ _ _ => rfl
  go_enter Try.func24, Try.ntmps24
  by_cases h1 : l0_0.length ≤ 512
  · by_cases h2 : l0_1.length = l0_0.length
    · have h2b : ((l0_1.length : Int) == (l0_0.length : Int)) = true := by rw [beq_iff_eq]; omega
      by_cases h3 : -1 ≤ a0_2
      · by_cases h4 : a0_2 ≤ 1000000
        · have hS : Sec.sizesB l0_0 l0_1 a0_2 = true := by rw [HQ.out]; simp [h1, h2, h3, h4]
          rw [hS] at HP
          clear HQ
          replace h2 := Lib.hid h2
          replace hS := Lib.hid hS
          have HB := Lib.hid (Below.refl w.heap.size w)
          go_wp2_with fail
          refine (Sec.containsOdd _ _ l0_0 Sec.oddB _ (Kd.C_alloc (Kd.C_alloc HR0.out _) _) (by omega) (Lib.hid fun x W _ => Sec.odd_calls x W)).mono ?_
          rintro e w1 ⟨rfl, hb_⟩
          have hcl : w1.cell? ⟨w.heap.size + 1, 0, none⟩ = some (.func (.func 58) #[] #[]) := by
            rw [hb_.cell (p := ⟨w.heap.size + 1, 0, none⟩) (by simp)]
            go_simp
          have hb1 : Below w.heap.size w w1 := (((Below.refl _ _).alloc (Nat.le_refl _) _).alloc (by simp) _).trans (hb_.mono (by simp; omega))
          have hz : w.heap.size + 1 < w1.heap.size := by have := hb_.size; simp at this; omega
          have hd0 : w1.cell? ⟨w.heap.size, 0, none⟩ = some (.slice A0_0 l0_0.length c0_0) := by
            rw [hb_.cell (p := ⟨w.heap.size, 0, none⟩) (by simp; omega)]
            go_simp
          have hd1 : w1.cell? ⟨w.heap.size, 1, none⟩ = some (.slice A0_1 l0_1.length c0_1) := by
            rw [hb_.cell (p := ⟨w.heap.size, 1, none⟩) (by simp; omega)]
            go_simp
          have hb1' := Lib.hid hb1
          replace hz := Lib.hid hz
          have HR1' := Lib.hid (Kd.C_below HR1.out hb1)
          clear hb1 hb_
          cases hx : l0_0.any Sec.oddB with
          | true =>
            rw [hx] at HP
            clear hx
            go_wp2_with fail
            go_ret
            exact ⟨by rw [HP.out]; rfl, hb1'.out⟩
          | false =>
            rw [hx] at HP
            clear hx
            have hcl' := Lib.hid hcl
            go_wp2_with fail
            refine (Sec.containsTorn _ _ l0_1 Sec.tornB _ _ HR1'.out (by have := h2.out; omega) (Lib.hid fun x W hb => Sec.torn_calls x _ W (by rw [hb.cell (p := ⟨w.heap.size + 1, 0, none⟩) hz.out]; exact hcl'.out))).mono ?_
            rintro e w2 ⟨rfl, hb2⟩
            replace hb2 := Lib.hid hb2
            go_wp2_with fail
            go_ret
            exact ⟨by rw [HP.out]; rfl, hb1'.out.trans (Below.mono hb2.out hb1'.out.size)⟩
        · have hS : Sec.sizesB l0_0 l0_1 a0_2 = false := by rw [HQ.out]; simp [h4]
          rw [hS] at HP
          clear HQ
          try replace h2 := Lib.hid h2
          replace hS := Lib.hid hS
          go_wp2_with fail
          go_ret
          exact ⟨by rw [HP.out]; rfl, ((Below.refl _ _).alloc (Nat.le_refl _) _).alloc (by simp) _⟩
      · have hS : Sec.sizesB l0_0 l0_1 a0_2 = false := by rw [HQ.out]; simp [h3]
        rw [hS] at HP
        clear HQ
        try replace h2 := Lib.hid h2
        replace hS := Lib.hid hS
        go_wp2_with fail
        go_ret
        exact ⟨by rw [HP.out]; rfl, ((Below.refl _ _).alloc (Nat.le_refl _) _).alloc (by simp) _⟩
    · have hS : Sec.sizesB l0_0 l0_1 a0_2 = false := by rw [HQ.out]; simp [h2]
      have h2b : ((l0_1.length : Int) == (l0_0.length : Int)) = false := beq_eq_false_iff_ne.2 (by omega)
      rw [hS] at HP
      clear HQ
      try replace h2 := Lib.hid h2
      replace hS := Lib.hid hS
      go_wp2_with fail
      go_ret
      exact ⟨by rw [HP.out]; rfl, ((Below.refl _ _).alloc (Nat.le_refl _) _).alloc (by simp) _⟩
  · have hS : Sec.sizesB l0_0 l0_1 a0_2 = false := by rw [HQ.out]; simp [h1]
    rw [hS] at HP
    clear HQ
    try replace h2 := Lib.hid h2
    replace hS := Lib.hid hS
    go_wp2_with fail
    go_ret
    exact ⟨by rw [HP.out]; rfl, ((Below.refl _ _).alloc (Nat.le_refl _) _).alloc (by simp) _⟩
end Go.Proofs.Ytmefdlajjbcljaa
