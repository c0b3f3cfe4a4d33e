import Derived.Test.YtamfbfhkojnafaaDoorCalS
import Derived.Test.YtamfbfhkojnafaaDoorDateP
import Derived.Test.YtamfbfhkojnafaaDoorWMore
namespace Go.Proofs.YtamfbfhkojnafaaDoor
open Go.RowKit Go.Proofs.YtamfbfhkojnafaaDoor.PC6 Go.Proofs.YtamfbfhkojnafaaDoorW.PrintWords Go.Proofs.YtamfbfhkojnafaaDoorW.PrintLast Go.Proofs.YtamfbfhkojnafaaDoorW.PrintMore
attribute [local go_sem] max2_int min2_int max_two min_two max_three min_three max_four min_four
set_option linter.unusedVariables false
set_option linter.unusedSimpArgs false
set_option linter.unusedSectionVars false

/-- A row that is read, in the place of one of the call's own: for what is handed back and shares memory. -/
def Fw.R {α : Type} (d : Kd α) (_ : Nat) (w : World) (_ : Nat) (_ : Nat → Prop) (v : Value) (xs : List α) : Prop := ∃ A c, v = .slice A xs.length c ∧ xs.length ≤ c ∧ d.C w A xs.length xs
namespace Fw
variable {α : Type} {d : Kd α} {e base : Nat} {ok : Nat → Prop} {w w1 : World} {v : Value} {xs : List α}
theorem R_below (h : Fw.R d e w base ok v xs) (hb : Below w.heap.size w w1) : Fw.R d e w1 base ok v xs := by
  obtain ⟨A, c, h1, h2, h3⟩ := h
  exact ⟨A, c, h1, h2, Kd.C_below h3 hb⟩
theorem R_alloc (h : Fw.R d e w base ok v xs) (o : Obj) : Fw.R d e (w.alloc o) base ok v xs := R_below h (below_alloc (Below.refl _ _) o)
theorem R_drew (h : Fw.R d e w base ok v xs) : Fw.R d e w.drew base ok v xs := R_below h (below_drew (Below.refl _ _))
theorem R_drewN (h : Fw.R d e w base ok v xs) (m : Nat) : Fw.R d e (w.drewN m) base ok v xs := R_below h (pw_below_drewN (Below.refl _ _) m)
theorem R_mono {ok' : Nat → Prop} (h : Fw.R d e w base ok v xs) (_ : ∀ k, ok k → ok' k) : Fw.R d e w base ok' v xs := h
theorem R_slice (h : Fw.R d e w base ok v xs) : ∃ A c, v = .slice A xs.length c := by
  obtain ⟨A, c, h1, _⟩ := h
  exact ⟨A, c, h1⟩
theorem R_reads' {A : Option Addr} {n c : Nat} (h : Fw.R d e w base ok (.slice A n c) xs) : n = xs.length ∧ n ≤ c ∧ d.C w A xs.length xs := by
  obtain ⟨A', c', h1, h2, h3⟩ := h
  injection h1 with e1 e2 e3
  subst e1; subst e2; subst e3
  exact ⟨rfl, h2, h3⟩
theorem of_own {b' : Nat} {ok' : Nat → Prop} (h : Kd.R d e w b' ok' v xs) : Fw.R d e w base ok v xs := by
  obtain ⟨A, c, h1, h2, h3⟩ := Kd.R_reads h
  exact ⟨A, c, h1, h2, h3⟩
/-- what is read as a row of the call's own is read as a row. -/
class Rd (p : Prop) (β : outParam Type) (d : outParam (Kd β)) (e : outParam Nat) (w : outParam World) (base : outParam Nat) (ok : outParam (Nat → Prop)) (v : outParam Value) (xs : outParam (List β)) : Prop where
  conv : p → Fw.R d e w base ok v xs
instance : Rd (Kd.R d e w base ok v xs) α d e w base ok v xs := ⟨of_own⟩
instance : Rd (Fw.R d e w base ok v xs) α d e w base ok v xs := ⟨fun h => h⟩
theorem R_lower {p : Prop} [i : Rd p α d e w base ok v xs] {base' : Nat} (h : p) (_ : base' ≤ base) : Fw.R d e w base' ok v xs := i.conv h
theorem R_base {p : Prop} (_ : p) : True := trivial
theorem R_lt {p : Prop} (_ : p) : True := trivial
theorem R_elder' (hu : Fw.R d e w base ok v xs) (_ : True) (hb : Below w.heap.size w w1) : Fw.R d e w1 base ok v xs := R_below hu hb
example (h : Fw.R d e w base ok v xs) : True := by
  have n := Fw.R_lower h (Nat.le_refl _)
  trivial
theorem R_new' {p : Prop} [i : Rd p α d e w base ok v xs] (h : p) (_ : True) : Fw.R d e w base ok v xs := i.conv h
variable {P : Program} {ops : Array Oper} {rest : List Oper} {o : Oper} {a : Act} {Q : Exit → Act → World → Prop}
theorem R_lit (d : Kd α) {w0 W : World} (base e : Nat) (hgd : o.guard = none) {N : Tmp} (hd : o.dst = some N) {xs : List α} {inner : List Value} {ok okp : Nat → Prop}
    (hrun : (execOp a.eval o).run P W = .ok (.value (.slice (some ⟨W.heap.size, 0, none⟩) xs.length xs.length)) (W.alloc (.cells inner.toArray e)))
    (hrep : Reps (d.M W base okp) d.sz xs inner) (hok : ∀ k, okp k → ok k) (hfresh : ok W.heap.size) (HB : Below base w0 W) (hbase : base ≤ W.heap.size) (hm : xs.length ≤ 9223372036854775807)
    (h : ∀ v1 w1, Fw.R d e w1 base ok v1 xs → Below base w0 w1 → W.grownBy w1 none → (∃ b, v1.ownBlock = some b ∧ W.heap.size ≤ b) → wpList P ops Q rest (a.put o.dst v1) w1) : wpList P ops Q (o :: rest) a W :=
  Kd.R_lit d base e hgd hd hrun hrep hok hfresh HB hbase hm (fun v1 w1 h1 => h v1 w1 (of_own h1))
end Fw

def cashbooklaw06_few.f (l : List S44) : Option (List S44) := some (l.take 70)
set_option maxHeartbeats 400000 in
theorem cashbooklaw06_few.calls (A0 : Option Addr) (c0 : Nat) (l0 r : List S44) (w : World) (hr0 : Kd.C k44 w A0 l0.length l0) (hc0 : l0.length ≤ c0) (h : cashbooklaw06_few.f l0 = some r) :
    Calls Tryd.prog 14 #[.slice A0 l0.length c0] w fun e w' => ∃ v0_ : Value, e = .returned v0_ ∧ Fw.R k44 44 w' w.heap.size (fun _ => True) v0_ r ∧ Below w.heap.size w w' := by
  have h := Option.some.inj h
  subst h
  obtain ⟨i0, hi, _, _, _⟩ := info_parts PC6.info44
  obtain ⟨j, hj⟩ : ∃ j : Nat, j = min l0.length 70 := ⟨_, rfl⟩
  have hcut := cut_to (P := Tryd.prog) 22 44 .i64 Tryd.underlying22 hi A0 l0.length c0 j (by omega) (by omega) hc0
  have hC := Kd.C_take (m := j) hr0 (by omega)
  have ht : l0.take 70 = l0.take j := by
    rw [hj]
    by_cases h : l0.length ≤ 70
    · rw [List.take_of_length_le h, List.take_of_length_le (by omega)]
    · rw [show min l0.length 70 = 70 by omega]
  have hl : (l0.take j).length = j := by rw [List.length_take]; omega
  rw [ht]
  simp only [Int.toNat_natCast] at hcut
  have HC := Lib.hid hC
  have HL := Lib.hid hl
  clear hC hl ht hr0 hi
  by_cases h70 : 70 < (l0.length : Int)
  · have e : (j : Int) = 70 := by omega
    have eN : j = 70 := by omega
    clear e
    subst eN
    clear hj
    have h70b : decide (70 < (l0.length : Int)) = true := by simpa using h70
    go_enter Tryd.func14, Tryd.ntmps14
    go_wp2
    go_ret
    exact ⟨_, rfl, ⟨A0, c0, by rw [HL.out]; rfl, by rw [HL.out]; omega, HC.out⟩, Below.refl _ _⟩
  · have eN : j = l0.length := by omega
    subst eN
    clear hj
    have h70b : decide (70 < (l0.length : Int)) = false := by simpa using h70
    go_enter Tryd.func14, Tryd.ntmps14
    go_wp2
    go_ret
    exact ⟨_, rfl, ⟨A0, c0, rfl, hc0, by have h := HC.out; rwa [List.take_length] at h⟩, Below.refl _ _⟩

def calendar_Right.f (l : List S44) : Option Bool := if l.length ≤ 1000 then some (calB l) else none
theorem calendar_Right.calls (A0 : Option Addr) (c0 : Nat) (l0 : List S44) (r : Bool) (w : World) (hr0 : Kd.C k44 w A0 l0.length l0) (_hc0 : l0.length ≤ c0) (h : calendar_Right.f l0 = some r) :
    Calls Tryd.prog 17 #[.slice A0 l0.length c0] w fun e w' => e = .returned (.bool r) ∧ Below w.heap.size w w' := by
  unfold calendar_Right.f at h
  by_cases hm : l0.length ≤ 1000
  · rw [if_pos hm] at h; cases h; exact calRight_calls A0 c0 l0 w hr0 hm
  · rw [if_neg hm] at h; cases h
def calendar_Open.f (l : List S44) (known d : Int) : Option (Bool × Int) := if l.length ≤ 1000 then some (openRes l known d) else none
theorem calendar_Open.calls (A0 : Option Addr) (c0 : Nat) (l0 : List S44) (a1 a2 : Int) (r1 : Bool) (r2 : Int) (w : World) (hr0 : Kd.C k44 w A0 l0.length l0) (_hc0 : l0.length ≤ c0) (h : calendar_Open.f l0 a1 a2 = some (r1, r2)) :
    Calls Tryd.prog 15 #[.slice A0 l0.length c0, .int .i32 a1, .int .i32 a2] w fun e w' => e = .returned (.tuple #[.bool r1, .int .i64 r2]) ∧ Below w.heap.size w w' := by
  unfold calendar_Open.f at h
  by_cases hm : l0.length ≤ 1000
  · rw [if_pos hm] at h
    have h := Option.some.inj h
    have := openAt_calls A0 c0 l0 a1 a2 w hr0 hm
    rw [h] at this; exact this
  · rw [if_neg hm] at h; cases h
def calendar_Roll.f (l : List S44) (known d how : Int) : Option (Int × Int) := if l.length ≤ 1000 then some (rollRes l known d how) else none
theorem calendar_Roll.calls (A0 : Option Addr) (c0 : Nat) (l0 : List S44) (a1 a2 a3 : Int) (r1 r2 : Int) (w : World) (hr0 : Kd.C k44 w A0 l0.length l0) (_hc0 : l0.length ≤ c0) (hT : BefAt w) (h : calendar_Roll.f l0 a1 a2 a3 = some (r1, r2)) :
    Calls Tryd.prog 16 #[.slice A0 l0.length c0, .int .i32 a1, .int .i32 a2, .int .i64 a3] w fun e w' => e = .returned (.tuple #[.int .i32 r1, .int .i64 r2]) ∧ Below w.heap.size w w' := by
  unfold calendar_Roll.f at h
  by_cases hm : l0.length ≤ 1000
  · rw [if_pos hm] at h
    have h := Option.some.inj h
    have := roll_calls A0 c0 l0 a1 a2 a3 w hT hr0 hm
    rw [h] at this; exact this
  · rw [if_neg hm] at h; cases h
def calendar_Add.f (l : List S44) (known d n : Int) : Option (Int × Int) := if l.length ≤ 1000 then some (addRes l known d n) else none
theorem calendar_Add.calls (A0 : Option Addr) (c0 : Nat) (l0 : List S44) (a1 a2 a3 : Int) (r1 r2 : Int) (w : World) (hr0 : Kd.C k44 w A0 l0.length l0) (_hc0 : l0.length ≤ c0) (h : calendar_Add.f l0 a1 a2 a3 = some (r1, r2)) :
    Calls Tryd.prog 27 #[.slice A0 l0.length c0, .int .i32 a1, .int .i32 a2, .int .i64 a3] w fun e w' => e = .returned (.tuple #[.int .i32 r1, .int .i64 r2]) ∧ Below w.heap.size w w' := by
  unfold calendar_Add.f at h
  by_cases hm : l0.length ≤ 1000
  · rw [if_pos hm] at h
    have h := Option.some.inj h
    have := add_calls A0 c0 l0 a1 a2 a3 w hr0 hm
    rw [h] at this; exact this
  · rw [if_neg hm] at h; cases h
def calendar_Count.f (l : List S44) (known d n : Int) : Option (Int × Int) := if l.length ≤ 1000 then some (countRes l known d n) else none
theorem calendar_Count.calls (A0 : Option Addr) (c0 : Nat) (l0 : List S44) (a1 a2 a3 : Int) (r1 r2 : Int) (w : World) (hr0 : Kd.C k44 w A0 l0.length l0) (_hc0 : l0.length ≤ c0) (h : calendar_Count.f l0 a1 a2 a3 = some (r1, r2)) :
    Calls Tryd.prog 24 #[.slice A0 l0.length c0, .int .i32 a1, .int .i32 a2, .int .i32 a3] w fun e w' => e = .returned (.tuple #[.int .i64 r1, .int .i64 r2]) ∧ Below w.heap.size w w' := by
  unfold calendar_Count.f at h
  by_cases hm : l0.length ≤ 1000
  · rw [if_pos hm] at h
    have h := Option.some.inj h
    have := count_calls A0 c0 l0 a1 a2 a3 w hr0 hm
    rw [h] at this; exact this
  · rw [if_neg hm] at h; cases h
def calendar_Changed.f (l : List S44) (u v a b : Int) : Option (List Int × Int) := if l.length ≤ 1000 then some (chgRes l u v a b) else none
theorem calendar_Changed.calls (A0 : Option Addr) (c0 : Nat) (l0 : List S44) (a1 a2 a3 a4 : Int) (r1 : List Int) (r2 : Int) (w : World) (hr0 : Kd.C k44 w A0 l0.length l0) (_hc0 : l0.length ≤ c0) (h : calendar_Changed.f l0 a1 a2 a3 a4 = some (r1, r2)) :
    Calls Tryd.prog 26 #[.slice A0 l0.length c0, .int .i32 a1, .int .i32 a2, .int .i32 a3, .int .i32 a4] w fun e w' => ∃ v0_ : Value, e = .returned (.tuple #[v0_, .int .i64 r2]) ∧ Kd.R (Kd.int .i32) 23 w' w.heap.size (fun _ => True) v0_ r1 ∧ Below w.heap.size w w' := by
  unfold calendar_Changed.f at h
  by_cases hm : l0.length ≤ 1000
  · rw [if_pos hm] at h
    have h := Option.some.inj h
    have := changed_calls A0 c0 l0 a1 a2 a3 a4 w hr0 hm
    rw [h] at this; exact this
  · rw [if_neg hm] at h; cases h
end Go.Proofs.YtamfbfhkojnafaaDoor
