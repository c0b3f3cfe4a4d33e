import Derived.Test.YtamfbfhkojnafaaDoorPD4x4
import Derived.Test.YtamfbfhkojnafaaDoorCalRf
import Derived.Test.YtamfbfhkojnafaaDoorDateV
import Derived.Test.YtamfbfhkojnafaaDoorGoesPure
import Derived.Test.YtamfbfhkojnafaaDoorWMore
import Derived.Test.YtamfbfhkojnafaaDoorLeapsPure
import Derived.Lib.Hide
import Derived.BigRegion
import Derived.RegionCalls
import Derived.Deep.QuietTactic
import Derived.BigQuiet
namespace Go.Proofs.YtamfbfhkojnafaaDoor
open Go.RowKit Go.Proofs.YtamfbfhkojnafaaDoorW.PrintWords Go.Proofs.YtamfbfhkojnafaaDoorW.PrintLast Go.Proofs.YtamfbfhkojnafaaDoorW.PrintMore
attribute [local go_sem] max2_int min2_int max_two min_two
set_option linter.unusedVariables false
set_option linter.unusedSimpArgs false

/-- months since the beginning: year and month of the day so many later. -/
def monK (x n : Int) : Int := 12 * (spRes x).1 + (spRes x).2.1 - 1 + n
def cashbookref04_Months.f (k : Nat) (x n : Int) : Option Int :=
  if (-50000 ≤ x ∧ x ≤ 50000) ∧ (-6000 ≤ n ∧ n ≤ 6000) then
    (if monK x n / 12 < 1800 ∨ 2200 < monK x n / 12 then some 100000
     else PD4.cashbookref04_Of.f k (monK x n / 12) (monK x n % 12 + 1) (min (spRes x).2.2 (ml (monK x n / 12) (monK x n % 12 + 1))))
  else none
theorem quiet_d {P : Program} {f : FuncId} {args : Array Value} {v : Value} (h : ∀ W, Calls P f args W fun e w' => e = .returned v ∧ Drawn0 W w') {w : World} {n : Nat} : Calls P f args (w.drewN n) fun e w'' => e = .returned v ∧ ∃ m, w'' = w.drewN m :=
  Calls.quiet_of ((h _).mono fun e w' ⟨he, hd⟩ => ⟨he, by obtain ⟨m, rfl⟩ := hd; exact ⟨m, rfl⟩⟩)
theorem days_drawn (y m : Int) (w : World) (h1 : 1 ≤ m) (h2 : m ≤ 12) : Calls Tryd.prog 48 #[.int .i64 y, .int .i64 m] w fun e w' => e = .returned (.int .i64 (ml y m)) ∧ Drawn0 w w' := by
  rw [← mlen_ml y m h1 h2]
  exact (PC6.cashbookref04_Days.calls y m _ w (days_f y m)).mono fun e w' ⟨he, hd⟩ => ⟨he, hd⟩
theorem cashbookref04_Months.mono : ∀ a0 a1 k, LeO (cashbookref04_Months.f k a0 a1) (cashbookref04_Months.f (k + 1) a0 a1) := by
  intro a0 a1 k r h
  unfold cashbookref04_Months.f at *
  by_cases c1 : (-50000 ≤ a0 ∧ a0 ≤ 50000) ∧ (-6000 ≤ a1 ∧ a1 ≤ 6000)
  · rw [if_pos c1] at h ⊢
    by_cases c2 : monK a0 a1 / 12 < 1800 ∨ 2200 < monK a0 a1 / 12
    · rw [if_pos c2] at h ⊢; exact h
    · rw [if_neg c2] at h ⊢; exact PD4.cashbookref04_Of.mono _ _ _ _ _ h
  · rw [if_neg c1] at h; cases h
attribute [irreducible] cashbookref04_Months.f
set_option maxHeartbeats 2000000 in
set_option maxRecDepth 100000 in
theorem cashbookref04_Months.calls (k : Nat) (a0 a1 r : Int) (w : World) (h : cashbookref04_Months.f k a0 a1 = some r) :
    Calls Tryd.prog 39 #[.int .i32 a0, .int .i64 a1] w fun e w' => e = .returned (.int .i64 r) ∧ Below w.heap.size w w' := by
  unfold cashbookref04_Months.f at h
  by_cases hr : (-50000 ≤ a0 ∧ a0 ≤ 50000) ∧ (-6000 ≤ a1 ∧ a1 ≤ 6000)
  · rw [if_pos hr] at h
    obtain ⟨⟨x1, x2⟩, n1, n2⟩ := hr
    have hc := sp_civ a0
    have hy := PD4.year_bd hc (by omega) (by omega)
    obtain ⟨y, hyy⟩ : ∃ y, y = (spRes a0).1 := ⟨_, rfl⟩
    obtain ⟨m, hmm⟩ : ∃ m, m = (spRes a0).2.1 := ⟨_, rfl⟩
    obtain ⟨d, hdd⟩ : ∃ d, d = (spRes a0).2.2 := ⟨_, rfl⟩
    unfold monK at h
    rw [← hyy, ← hmm, ← hdd] at h hc
    rw [← hyy] at hy
    obtain ⟨K, hK⟩ : ∃ K, K = 12 * y + m - 1 + a1 := ⟨_, rfl⟩
    rw [← hK] at h
    have HC := Lib.hid hc
    obtain ⟨c1, c2, c3, c4, c5⟩ := hc
    have hmb := PD4.ml_bd y m c1 c2
    obtain ⟨y1, y2⟩ := hy
    have d31 : d ≤ 31 := by omega
    clear hyy hmm hdd c4 c5 hmb
    have K1 : 0 ≤ K := by omega
    have K2 : K ≤ 1000000 := by omega
    have q1 : K.tdiv 12 = K / 12 := Int.tdiv_eq_ediv_of_nonneg K1
    have q2 : K.tmod 12 = K % 12 := Int.tmod_eq_emod_of_nonneg K1
    have HK := Lib.hid hK
    have s1 : IntKind.i64.wrap (12 * y) = 12 * y := by rw [IntKind.wrap_i64]; omega
    go_enter Tryd.func39, Tryd.ntmps39
    go_wp2_with fail
    refine (parts_calls a0 _ x1 x2).mono ?_
    rintro e w1 ⟨y', m', d', rfl, hc', hb1⟩
    obtain ⟨rfl, rfl, rfl⟩ := civ_unique hc'.out HC.out
    replace hb1 := Lib.hid hb1
    subst hK
    clear q1 q2
    by_cases hlo : (12 * y' + m' - 1 + a1) / 12 < 1800
    · rw [if_pos (Or.inl hlo)] at h
      obtain rfl := Option.some.inj h
      clear h
      go_wp2_with fail
      go_ret
      exact ⟨rfl, hb1.out.alloc hb1.out.size _⟩
    · by_cases hhi : 2200 < (12 * y' + m' - 1 + a1) / 12
      · rw [if_pos (Or.inr hhi)] at h
        obtain rfl := Option.some.inj h
        clear h
        go_wp2_with fail
        go_ret
        exact ⟨rfl, hb1.out.alloc hb1.out.size _⟩
      · rw [if_neg (by omega)] at h
        have hm1 : 1 ≤ (12 * y' + m' - 1 + a1) % 12 + 1 := by omega
        have hm2 : (12 * y' + m' - 1 + a1) % 12 + 1 ≤ 12 := by omega
        obtain ⟨M, hM⟩ : ∃ M, M = ml ((12 * y' + m' - 1 + a1) / 12) ((12 * y' + m' - 1 + a1) % 12 + 1) := ⟨_, rfl⟩
        have HD := Lib.hid (fun W' => days_drawn ((12 * y' + m' - 1 + a1) / 12) ((12 * y' + m' - 1 + a1) % 12 + 1) W' hm1 hm2)
        rw [← hM] at h HD
        clear hM
        by_cases hMd : M < d'
        · have hmn : min d' M = M := by omega
          rw [hmn] at h
          clear hmn
          have HO := Lib.hid (fun W' => PD4.cashbookref04_Of.calls k _ _ _ r W' h)
          clear h
          go_wp2_with fail
          have hcd : (w1.alloc (.cells #[.int .i64 y', .int .i64 m', .int .i64 d'] 64)).cell? ⟨w1.heap.size, 2, none⟩ = some (.int .i64 d') := by go_simp
          have hWB := Lib.hid (show Below w.heap.size w (w1.alloc (.cells #[.int .i64 y', .int .i64 m', .int .i64 d'] 64)) from hb1.out.alloc hb1.out.size _)
          generalize (w1.alloc (.cells #[.int .i64 y', .int .i64 m', .int .i64 d'] 64)) = W at hcd hWB ⊢
          go_quiet ((first | (go_at_call 48; exact quiet_d HD.out) | (go_at_call 60; exact quiet_d HO.out)))
          go_wp2_with fail
          go_ret
          exact ⟨rfl, pw_below_drewN hWB.out _⟩
        · have hmn : min d' M = d' := by omega
          rw [hmn] at h
          clear hmn
          have HO := Lib.hid (fun W' => PD4.cashbookref04_Of.calls k _ _ _ r W' h)
          clear h
          go_wp2_with fail
          have hcd : (w1.alloc (.cells #[.int .i64 y', .int .i64 m', .int .i64 d'] 64)).cell? ⟨w1.heap.size, 2, none⟩ = some (.int .i64 d') := by go_simp
          have hWB := Lib.hid (show Below w.heap.size w (w1.alloc (.cells #[.int .i64 y', .int .i64 m', .int .i64 d'] 64)) from hb1.out.alloc hb1.out.size _)
          generalize (w1.alloc (.cells #[.int .i64 y', .int .i64 m', .int .i64 d'] 64)) = W at hcd hWB ⊢
          go_quiet ((first | (go_at_call 48; exact quiet_d HD.out) | (go_at_call 60; exact quiet_d HO.out)))
          go_wp2_with fail
          go_ret
          exact ⟨rfl, pw_below_drewN hWB.out _⟩
  · rw [if_neg hr] at h; cases h
end Go.Proofs.YtamfbfhkojnafaaDoor
