/-
  Lemmas for the last text of this claim, merged out of several texts.
-/
import Derived.Test.YtldpnmebjnkjeaaDoorTeA
import Derived.Test.YtldpnmebjnkjeaaDoorProg
import Derived.IntWalk
namespace Go.Proofs.YtldpnmebjnkjeaaDoor.Tr
set_option linter.unusedVariables false
set_option linter.unusedSimpArgs false

/-- So many are the first ones, of n. -/
def sp (n : Nat) : Nat := 2 ^ (n - 1).log2
theorem sp_lt {n : Nat} (h : 2 ≤ n) : sp n < n := by
  have := Nat.log2_self_le (n := n - 1) (by omega)
  unfold sp; omega
theorem sp_pos (n : Nat) : 1 ≤ sp n := Nat.one_le_two_pow
theorem sp_ge {n : Nat} (h : 2 ≤ n) : n ≤ 2 * sp n := by
  have := Nat.lt_log2_self (n := n - 1)
  unfold sp
  rw [Nat.pow_succ] at this
  omega
variable {α D : Type}
/-- What digests are made by. -/
structure Alg (α D : Type) where
  none : D
  leaf : α → D
  join : D → D → D
def root (A : Alg α D) (l : List α) : D :=
  match l with
  | [] => A.none
  | [x] => A.leaf x
  | x :: y :: r => A.join (root A ((x :: y :: r).take (sp (r.length + 2)))) (root A ((x :: y :: r).drop (sp (r.length + 2))))
termination_by l.length
decreasing_by
  · have := sp_lt (n := r.length + 2) (by omega)
    simp only [List.length_take, List.length_cons]; omega
  · have := sp_pos (r.length + 2)
    simp only [List.length_drop, List.length_cons]; omega
theorem root_nil (A : Alg α D) : root A [] = A.none := by rw [root]
theorem root_one (A : Alg α D) (x : α) : root A [x] = A.leaf x := by rw [root]
theorem root_join (A : Alg α D) (l : List α) (h : 2 ≤ l.length) : root A l = A.join (root A (l.take (sp l.length))) (root A (l.drop (sp l.length))) := by
  match l, h with
  | x :: y :: r, _ => rw [root]; rfl
/-- The path of a place, from the top on. -/
def path (A : Alg α D) (l : List α) (i : Nat) : List D :=
  if h : 2 ≤ l.length then
    if i < sp l.length then root A (l.drop (sp l.length)) :: path A (l.take (sp l.length)) i
    else root A (l.take (sp l.length)) :: path A (l.drop (sp l.length)) (i - sp l.length)
  else []
termination_by l.length
decreasing_by
  · have := sp_lt h
    rw [List.length_take]; omega
  · have := sp_pos l.length
    rw [List.length_drop]; omega
def sides (i n : Nat) : List Bool :=
  if h : 2 ≤ n then
    if i < sp n then true :: sides i (sp n) else false :: sides (i - sp n) (n - sp n)
  else []
termination_by n
decreasing_by
  · exact sp_lt h
  · have := sp_pos n; omega
theorem path_small (A : Alg α D) (l : List α) (i : Nat) (h : l.length < 2) : path A l i = [] := by rw [path, dif_neg (by omega)]
theorem path_left (A : Alg α D) (l : List α) (i : Nat) (h : 2 ≤ l.length) (h1 : i < sp l.length) : path A l i = root A (l.drop (sp l.length)) :: path A (l.take (sp l.length)) i := by rw [path, dif_pos h, if_pos h1]
theorem path_right (A : Alg α D) (l : List α) (i : Nat) (h : 2 ≤ l.length) (h1 : ¬ i < sp l.length) : path A l i = root A (l.take (sp l.length)) :: path A (l.drop (sp l.length)) (i - sp l.length) := by rw [path, dif_pos h, if_neg h1]
theorem sides_small (i n : Nat) (h : n < 2) : sides i n = [] := by rw [sides, dif_neg (by omega)]
theorem sides_left (i n : Nat) (h : 2 ≤ n) (h1 : i < sp n) : sides i n = true :: sides i (sp n) := by rw [sides, dif_pos h, if_pos h1]
theorem sides_right (i n : Nat) (h : 2 ≤ n) (h1 : ¬ i < sp n) : sides i n = false :: sides (i - sp n) (n - sp n) := by rw [sides, dif_pos h, if_neg h1]
theorem path_len (A : Alg α D) : ∀ (n : Nat) (l : List α) (i : Nat), l.length ≤ n → (path A l i).length = (sides i l.length).length := by
  intro n
  induction n with
  | zero => intro l i h; rw [path_small A l i (by omega), sides_small _ _ (by omega)]; rfl
  | succ n ih =>
    intro l i h
    by_cases h2 : 2 ≤ l.length
    · have h3 := sp_lt h2
      have h4 := sp_pos l.length
      by_cases h1 : i < sp l.length
      · rw [path_left A l i h2 h1, sides_left _ _ h2 h1, List.length_cons, List.length_cons, ih _ _ (by rw [List.length_take]; omega), List.length_take, Nat.min_eq_left (by omega)]
      · rw [path_right A l i h2 h1, sides_right _ _ h2 h1, List.length_cons, List.length_cons, ih _ _ (by rw [List.length_drop]; omega), List.length_drop]
    · rw [path_small A l i (by omega), sides_small _ _ (by omega)]; rfl
/-- The bridge from the first m leaves, from the top on; its last one, if they are not whole, is the root of the last ones of them. -/
def bridge (A : Alg α D) (l : List α) (m : Nat) (whole : Bool) : List D :=
  if h : 1 ≤ m ∧ m < l.length then
    if m ≤ sp l.length then root A (l.drop (sp l.length)) :: bridge A (l.take (sp l.length)) m whole
    else root A (l.take (sp l.length)) :: bridge A (l.drop (sp l.length)) (m - sp l.length) false
  else if whole then [] else [root A l]
termination_by l.length
decreasing_by
  · have := sp_lt (n := l.length) (by omega)
    rw [List.length_take]; omega
  · have := sp_pos l.length
    rw [List.length_drop]; omega
/-- The way, of m of n: from the top on, whether they are among the first ones. -/
def way (m n : Nat) : List Bool :=
  if h : 1 ≤ m ∧ m < n then
    if m ≤ sp n then true :: way m (sp n) else false :: way (m - sp n) (n - sp n)
  else []
termination_by n
decreasing_by
  · exact sp_lt (by omega)
  · have := sp_pos n; omega
theorem way_end (m n : Nat) (h : ¬ (1 ≤ m ∧ m < n)) : way m n = [] := by rw [way, dif_neg h]
theorem way_left (m n : Nat) (h : 1 ≤ m ∧ m < n) (h1 : m ≤ sp n) : way m n = true :: way m (sp n) := by rw [way, dif_pos h, if_pos h1]
theorem way_right (m n : Nat) (h : 1 ≤ m ∧ m < n) (h1 : ¬ m ≤ sp n) : way m n = false :: way (m - sp n) (n - sp n) := by rw [way, dif_pos h, if_neg h1]
theorem bridge_end (A : Alg α D) (l : List α) (m : Nat) (w : Bool) (h : ¬ (1 ≤ m ∧ m < l.length)) : bridge A l m w = if w then [] else [root A l] := by rw [bridge, dif_neg h]
theorem bridge_left (A : Alg α D) (l : List α) (m : Nat) (w : Bool) (h : 1 ≤ m ∧ m < l.length) (h1 : m ≤ sp l.length) : bridge A l m w = root A (l.drop (sp l.length)) :: bridge A (l.take (sp l.length)) m w := by rw [bridge, dif_pos h, if_pos h1]
theorem bridge_right (A : Alg α D) (l : List α) (m : Nat) (w : Bool) (h : 1 ≤ m ∧ m < l.length) (h1 : ¬ m ≤ sp l.length) : bridge A l m w = root A (l.take (sp l.length)) :: bridge A (l.drop (sp l.length)) (m - sp l.length) false := by rw [bridge, dif_pos h, if_neg h1]
/-- Are they whole at last? -/
def whole (m n : Nat) : Bool := (way m n).all (fun b => b)
theorem bridge_len (A : Alg α D) : ∀ (k : Nat) (l : List α) (m : Nat) (w : Bool), l.length ≤ k → (bridge A l m w).length = (way m l.length).length + (if w && whole m l.length then 0 else 1) := by
  intro k
  induction k with
  | zero =>
    intro l m w h
    rw [bridge_end A l m w (by omega), way_end m l.length (by omega)]
    unfold whole
    rw [way_end m l.length (by omega)]
    cases w <;> rfl
  | succ k ih =>
    intro l m w h
    by_cases h2 : 1 ≤ m ∧ m < l.length
    · have h3 := sp_lt (n := l.length) (by omega)
      have h4 := sp_pos l.length
      by_cases h1 : m ≤ sp l.length
      · have e := ih (l.take (sp l.length)) m w (by rw [List.length_take]; omega)
        rw [List.length_take, Nat.min_eq_left (by omega)] at e
        rw [bridge_left A l m w h2 h1, way_left m l.length h2 h1, List.length_cons, e, List.length_cons]
        unfold whole
        rw [way_left m l.length h2 h1, List.all_cons, Bool.true_and]
        omega
      · have e := ih (l.drop (sp l.length)) (m - sp l.length) false (by rw [List.length_drop]; omega)
        rw [List.length_drop] at e
        rw [bridge_right A l m w h2 h1, way_right m l.length h2 h1, List.length_cons, e, List.length_cons]
        unfold whole
        rw [way_right m l.length h2 h1, List.all_cons, Bool.false_and]
        simp

    · rw [bridge_end A l m w h2, way_end m l.length h2]
      unfold whole
      rw [way_end m l.length h2]
      cases w <;> rfl
def next (A : Alg α D) (s : Bool) (d p : D) : D := if s then A.join d p else A.join p d
def last (A : Alg α D) (d : D) : List Bool → List D → D
  | s :: rs, p :: ps => last A (next A s d p) rs ps
  | _, _ => d
def lastX (A : Alg α D) (x : D) : List Bool → List D → D
  | s :: rs, p :: ps => lastX A (if s then x else A.join p x) rs ps
  | _, _ => x
end Go.Proofs.YtldpnmebjnkjeaaDoor.Tr
namespace Go.Proofs.YtldpnmebjnkjeaaDoor.PH1
open Go.RowKit Go.Proofs.YtldpnmebjnkjeaaDoorW.PrintWords Go.Proofs.YtldpnmebjnkjeaaDoorW.PrintLast Go.Proofs.YtldpnmebjnkjeaaDoorW.PrintMore
set_option linter.unusedVariables false
set_option linter.unusedSimpArgs false



def errW : Option Int → Value
  | none => .nilIface
  | some c => .iface 0 (.int .i64 c)
theorem errW_none : errW none = .nilIface := rfl
theorem errW_some (c : Int) : errW (some c) = .iface 0 (.int .i64 c) := rfl

theorem info28 : (Tryd.prog.info? 28).map (fun i => (i.zero, i.size, i.bytes)) = some (some (.int .u32 0), 1, 4) := by kernel_rfl
theorem info44 : (Tryd.prog.info? 44).map (fun i => (i.zero, i.size, i.bytes)) = some (some (.int .u64 0), 1, 8) := by kernel_rfl
end Go.Proofs.YtldpnmebjnkjeaaDoor.PH1
namespace Go.Proofs.YtldpnmebjnkjeaaDoor.PH1
open Go.RowKit Go.Proofs.YtldpnmebjnkjeaaDoorW.PrintWords Go.Proofs.YtldpnmebjnkjeaaDoorW.PrintLast Go.Proofs.YtldpnmebjnkjeaaDoorW.PrintMore
set_option linter.unusedVariables false
set_option linter.unusedSimpArgs false

def cashbookref10_prime.l0 : Nat → Int → Int → Option (Bool)
  | 0, _, _ => none
  | k + 1, x0, x3 => if (wrap64 (x3 * x3)) ≤ x0 then (if x3 = 0 then (none) else (if (Int.tmod x0 x3) = 0 then (some false) else (cashbookref10_prime.l0 k x0 (wrap64 (x3 + 1))))) else (some (decide (x0 > 1)))
def cashbookref10_prime.f (k : Nat) (a0 : Int) : Option (Bool) := cashbookref10_prime.l0 k a0 2
theorem cashbookref10_prime.mono_l : ∀ k, (∀ y0 y1, LeO (cashbookref10_prime.l0 k y0 y1) (cashbookref10_prime.l0 (k + 1) y0 y1))
  | 0 => fun _ _ r h => by simp [cashbookref10_prime.l0] at h
  | k + 1 => by
    have ih0 := cashbookref10_prime.mono_l k
    · intro y0 y1
      unfold cashbookref10_prime.l0
      repeat' first
      | (with_reducible exact ih0 _ _)
      | (with_reducible exact LeO.refl _)
      | (with_reducible exact LeO.none _)
      | (with_reducible refine LeO.ite ?_ ?_)
      | (with_reducible refine LeO.bind ?_ (fun _ => ?_))
      | exact ih0 _ _
      | exact LeO.none _
      | refine LeO.ite ?_ ?_
      | refine LeO.bind ?_ (fun _ => ?_)
theorem cashbookref10_prime.mono : ∀ a0 k, LeO (cashbookref10_prime.f k a0) (cashbookref10_prime.f (k + 1) a0) := by
  intro a0 k
  have ih0 := cashbookref10_prime.mono_l k
  unfold cashbookref10_prime.f
  repeat' first
      | (with_reducible exact ih0 _ _)
      | (with_reducible exact LeO.refl _)
      | (with_reducible exact LeO.none _)
      | (with_reducible refine LeO.ite ?_ ?_)
      | (with_reducible refine LeO.bind ?_ (fun _ => ?_))
      | exact ih0 _ _
      | exact LeO.none _
      | refine LeO.ite ?_ ?_
      | refine LeO.bind ?_ (fun _ => ?_)
set_option maxHeartbeats 8000000 in
set_option maxRecDepth 100000 in
theorem cashbookref10_prime.calls (k : Nat) (a0 : Int) (r : Bool) (w : World) (h : cashbookref10_prime.f k a0 = some r) :
    Calls Tryd.prog 83 #[.int .i64 a0] w fun e w' => e = .returned (.bool r) ∧ Drawn0 w w' := by
  have H : (cashbookref10_prime.l0 k a0 2) = some r := h
  clear h
  have H' := Aside0.mk H
  clear H
  go_enter Tryd.func83, Tryd.ntmps83
  go_wp2
  go_loopg [3] k (fun kq v3 w' => ∃ (x3_1 : Int), v3 = .int .i64 x3_1 ∧ Aside0 (cashbookref10_prime.l0 kq a0 x3_1 = some r) ∧ Aside0 (kq ≤ k) ∧ Drawn0 w w')
  case atStart => exact ⟨(2), (by first | rfl | (simp; done) | (simp [*]; done)), H', ⟨Nat.le_refl _⟩, by repeat (first | exact Drawn0.refl _ | apply Drawn0.step)⟩
  case round =>
    clear H'
    obtain ⟨x3_1, rfl, HA, HK1, ⟨m1, rfl⟩⟩ := hrel
    cases gk with
    | zero => exact absurd HA.out (by simp [cashbookref10_prime.l0])
    | succ k1 =>
      have H := HA.out
      clear HA
      simp only [cashbookref10_prime.l0] at H
      by_cases c2 : (wrap64 (x3_1 * x3_1)) ≤ a0
      · rw [if_pos c2] at H
        have c2b0 : decide ((wrap64 (x3_1 * x3_1)) ≤ a0) = true := decide_eq_true c2
        clear c2
        by_cases c3 : x3_1 = 0
        · rw [if_pos c3] at H
          exact absurd H (by simp)
        · rw [if_neg c3] at H
          have c3b0 : (x3_1 == 0) = false := beq_eq_false_iff_ne.mpr c3
          have c3b1 : (x3_1 != 0) = true := bne_iff_ne.mpr c3
          by_cases c4 : (Int.tmod a0 x3_1) = 0
          · rw [if_pos c4] at H
            have c4b0 : ((Int.tmod a0 x3_1) == 0) = true := beq_iff_eq.mpr c4
            have c4b1 : ((Int.tmod a0 x3_1) != 0) = false := bne_eq_false_iff_eq.mpr c4
            clear c4
            obtain rfl := Option.some.inj H
            go_wp2
            go_ret
            exact ⟨by first | rfl | (simp; done) | (simp [*]; done), by repeat (first | exact Drawn0.refl _ | apply Drawn0.step)⟩
          · rw [if_neg c4] at H
            have c4b0 : ((Int.tmod a0 x3_1) == 0) = false := beq_eq_false_iff_ne.mpr c4
            have c4b1 : ((Int.tmod a0 x3_1) != 0) = true := bne_iff_ne.mpr c4
            have H' := Aside0.mk H
            clear H
            go_wp2
            go_roundg k1
            case measure => have := HK1.out; omega
            case rel => exact ⟨(wrap64 (x3_1 + 1)), (by first | rfl | (simp; done) | (simp [*]; done)), H', ⟨by have := HK1.out; omega⟩, by repeat (first | exact Drawn0.refl _ | apply Drawn0.step)⟩
      · rw [if_neg c2] at H
        have c2b0 : decide ((wrap64 (x3_1 * x3_1)) ≤ a0) = false := decide_eq_false c2
        clear c2
        obtain rfl := Option.some.inj H
        go_wp2
        go_ret
        exact ⟨by first | rfl | (simp; done) | (simp [*]; done), by repeat (first | exact Drawn0.refl _ | apply Drawn0.step)⟩

def cashbookref10_primes.l0 : Nat → Int → List Int → Int → Option (List Int)
  | 0, _, _, _ => none
  | k + 1, x0, x3, x4 => if (x3.length : Int) < x0 then ((cashbookref10_prime.f k x4).bind fun t118 => (if t118 = true then (if x3.length < 17592186044416 then (cashbookref10_primes.l0 k x0 (x3 ++ [IntKind.u64.wrap (x4)]) (wrap64 (x4 + 1))) else (none)) else (cashbookref10_primes.l0 k x0 x3 (wrap64 (x4 + 1))))) else (some x3)
def cashbookref10_primes.f (k : Nat) (a0 : Int) : Option (List Int) := cashbookref10_primes.l0 k a0 (([] : List Int)) 2
theorem cashbookref10_primes.mono_l : ∀ k, (∀ y0 y1 y2, LeO (cashbookref10_primes.l0 k y0 y1 y2) (cashbookref10_primes.l0 (k + 1) y0 y1 y2))
  | 0 => fun _ _ _ r h => by simp [cashbookref10_primes.l0] at h
  | k + 1 => by
    have ih0 := cashbookref10_primes.mono_l k
    · intro y0 y1 y2
      unfold cashbookref10_primes.l0
      repeat' first
      | (with_reducible exact ih0 _ _ _)
      | (with_reducible exact cashbookref10_prime.mono _ _)
      | (with_reducible exact LeO.refl _)
      | (with_reducible exact LeO.none _)
      | (with_reducible refine LeO.ite ?_ ?_)
      | (with_reducible refine LeO.bind ?_ (fun _ => ?_))
      | exact ih0 _ _ _
      | exact cashbookref10_prime.mono _ _
      | exact LeO.none _
      | refine LeO.ite ?_ ?_
      | refine LeO.bind ?_ (fun _ => ?_)
theorem cashbookref10_primes.mono : ∀ a0 k, LeO (cashbookref10_primes.f k a0) (cashbookref10_primes.f (k + 1) a0) := by
  intro a0 k
  have ih0 := cashbookref10_primes.mono_l k
  unfold cashbookref10_primes.f
  repeat' first
      | (with_reducible exact ih0 _ _ _)
      | (with_reducible exact cashbookref10_prime.mono _ _)
      | (with_reducible exact LeO.refl _)
      | (with_reducible exact LeO.none _)
      | (with_reducible refine LeO.ite ?_ ?_)
      | (with_reducible refine LeO.bind ?_ (fun _ => ?_))
      | exact ih0 _ _ _
      | exact cashbookref10_prime.mono _ _
      | exact LeO.none _
      | refine LeO.ite ?_ ?_
      | refine LeO.bind ?_ (fun _ => ?_)
set_option maxHeartbeats 8000000 in
set_option maxRecDepth 100000 in
theorem cashbookref10_primes.calls (k : Nat) (a0 : Int) (r : List Int) (w : World) (h : cashbookref10_primes.f k a0 = some r) :
    Calls Tryd.prog 55 #[.int .i64 a0] w fun e w' => ∃ v0_ : Value, e = .returned (v0_) ∧ Kd.R (Kd.int .u64) 44 w' w.heap.size (fun _ => True) v0_ r ∧ Below w.heap.size w w' := by
  have HB := Aside0.mk (Below.refl w.heap.size w)
  have H : (cashbookref10_primes.l0 k a0 (([] : List Int)) 2) = some r := h
  clear h
  obtain ⟨y115, hy115⟩ : ∃ y_ : List Int, y_ = (([] : List Int)) := ⟨_, rfl⟩
  replace H : (cashbookref10_primes.l0 k a0 y115 2) = some r := by first | (rw [hy115]; with_reducible exact H) | (have H2_ := (Option.bind_some _ _).symm.trans H; rw [hy115]; with_reducible exact H2_) | (have H2_ := (Option.bind_some _ _).symm.trans H; with_reducible exact H2_) | with_reducible exact H | (rw [hy115]; exact H) | exact H
  have Ny115 := Aside0.mk hy115
  clear hy115
  have H' := Aside0.mk H
  clear H
  go_enter Tryd.func55, Tryd.ntmps55
  go_wp2_with (first | ((with_reducible refine gate_dst (N := 5) rfl ?_); refine Kd.R_lit (Kd.int .u64) _ 44 ?hg (N := 5) ?hd (xs := ([] : List Int)) (inner := []) (ok := fun _ => True) (okp := fun _ => True) ?hr ?hp (fun _ hk => hk) trivial (Below.refl _ _) (Nat.le_refl _) (by simp) ?_; (case hd => rfl); (case hg => rfl); (case hr => first | (go_simp; done) | (go_simp; rfl)); (case hp => exact (Reps.none _ _)); intro v116 w2 ho3 hb hg_ hnew_; clear hg_ hnew_; (first | rw [← Ny115.out] at ho3 | (simp only [Int.reduceToNat] at ho3; rw [← Ny115.out] at ho3)); have n0_ := Aside0.mk (Kd.R_lower ho3 (below_size (by repeat (first | (with_reducible first | exact HB.out | apply below_alloc | apply pw_below_drewN | apply below_drew1) | exact HB.out)))); have n1_ := Aside0.mk (below_step (by repeat (first | (with_reducible first | exact HB.out | apply below_alloc | apply pw_below_drewN | apply below_drew1) | exact HB.out)) hb); clear HB; have HO117 := n0_; have HB := n1_; clear n0_ n1_; clear hb ho3))
  go_loopg [3, 4] k (fun kq v3 v4 w' => ∃ (x3_1 : List Int) (x4_1 : Int), v4 = .int .i64 x4_1 ∧ Aside0 (cashbookref10_primes.l0 kq a0 x3_1 x4_1 = some r) ∧ Aside0 (kq ≤ k) ∧ Aside0 (Kd.R (Kd.int .u64) 44 w' w.heap.size (fun _ => True) v3 x3_1) ∧ Aside0 (Below w.heap.size w w'))
  case atStart => exact ⟨(y115), (2), (by first | rfl | (simp; done) | (simp [*]; done)), H', ⟨Nat.le_refl _⟩, ⟨by (with_reducible repeat (first | apply Kd.R_alloc | apply Kd.R_drewN | apply Kd.R_drew)); exact HO117.out⟩, ⟨by repeat (first | (with_reducible first | exact HB.out | apply below_alloc | apply pw_below_drewN | apply below_drew1) | exact HB.out)⟩⟩
  case round =>
    clear H'
    try clear p2
    obtain ⟨x3_1, x4_1, rfl, HA, HK1, HO_3, HB⟩ := hrel
    cases gk with
    | zero => exact absurd HA.out (by simp [cashbookref10_primes.l0])
    | succ k1 =>
      have H := HA.out
      clear HA
      simp only [cashbookref10_primes.l0] at H
      by_cases c4 : (x3_1.length : Int) < a0
      · rw [if_pos c4] at H
        have c4b0 : decide ((x3_1.length : Int) < a0) = true := decide_eq_true c4
        clear c4
        replace H := Option.bind_eq_some_iff.mp H
        obtain ⟨t118, A50, H⟩ := H
        replace H : (if t118 = true then (if x3_1.length < 17592186044416 then (cashbookref10_primes.l0 k1 a0 (x3_1 ++ [IntKind.u64.wrap (x4_1)]) (wrap64 (x4_1 + 1))) else (none)) else (cashbookref10_primes.l0 k1 a0 x3_1 (wrap64 (x4_1 + 1)))) = some r := H
        have A5 := Aside0.mk A50
        clear A50
        by_cases c6 : t118 = true
        · subst c6
          have H1 : (if x3_1.length < 17592186044416 then (cashbookref10_primes.l0 k1 a0 (x3_1 ++ [IntKind.u64.wrap (x4_1)]) (wrap64 (x4_1 + 1))) else (none)) = some r := by rw [if_pos rfl] at H; exact H
          clear H
          have H := H1
          clear H1
          by_cases c7 : x3_1.length < 17592186044416
          · rw [if_pos c7] at H
            have LMc7 := Aside0.mk c7
            clear c7
            obtain ⟨y119, hy119⟩ : ∃ y_ : List Int, y_ = (x3_1 ++ [IntKind.u64.wrap (x4_1)]) := ⟨_, rfl⟩
            replace H : (cashbookref10_primes.l0 k1 a0 y119 (wrap64 (x4_1 + 1))) = some r := by first | (rw [hy119]; with_reducible exact H) | (have H2_ := (Option.bind_some _ _).symm.trans H; rw [hy119]; with_reducible exact H2_) | (have H2_ := (Option.bind_some _ _).symm.trans H; with_reducible exact H2_) | with_reducible exact H | (rw [hy119]; exact H) | exact H
            have Ny119 := Aside0.mk hy119
            clear hy119
            have H' := Aside0.mk H
            clear H
            obtain ⟨Ao8, co8, eo8⟩ := Kd.R_slice HO_3.out
            subst eo8
            go_wp2_with (first | ((with_reducible refine gate_callee (f := 83) rfl ?_); refine goesL_ (some 13) rfl rfl Tryd.func83 (by kernel_rfl) rfl #[.int .i64 x4_1] rfl (by (try simp only [List.map_toArray, List.map_cons, List.map_nil]); first | done | rfl | (simp only [List.length_drop, List.length_take]; rfl)) ?_; (with_reducible refine (cashbookref10_prime.calls k1 x4_1 true _ A5.out).mono ?_); rintro e w' ⟨rfl, ⟨nd, rfl⟩⟩; refine ⟨_, rfl, ?_⟩) | ((with_reducible refine gate_builtin (b := .append) (xs := #[.tmp 14, .tmp 17]) rfl ?_); at_builtin; refine Kd.R_append (Kd.int .u64) (w0 := w) w.heap.size rfl (.tmp 14) (.tmp 17) 87 44 (.int .u64 0) 8 rfl Tryd.underlying87 info44 rfl (by decide) (by omega) (.slice Ao8 x3_1.length co8) x3_1 (IntKind.u64.wrap (x4_1)) [.int .u64 (IntKind.u64.wrap (x4_1))] (fun _ => True) (fun _ => False) rfl rfl ?aP (fun _ hk => hk.elim) ?aF ?aO ?aB ?aS ?aL ?_; (case aP => exact rfl); (case aB => exact (by repeat (first | (with_reducible first | exact HB.out | apply below_alloc | apply pw_below_drewN | apply below_drew1) | exact HB.out))); (case aF => exact (fun _ _ => trivial)); (case aO => exact (by (with_reducible repeat (first | apply Kd.R_alloc | apply Kd.R_drewN | apply Kd.R_drew)); exact HO_3.out)); (case aS => exact (below_size (by repeat (first | (with_reducible first | exact HB.out | apply below_alloc | apply pw_below_drewN | apply below_drew1) | exact HB.out)))); (case aL => have := LMc7.out; omega); intro v120 w9 ho hb hg hat; rw [← Ny119.out] at ho; have n0_ := Aside0.mk (hb); have n1_ := Aside0.mk (ho); clear HB; clear HO_3; have HB := n0_; have HO121 := n1_; clear n0_ n1_; clear ho hb hg hat))
            go_roundg k1
            case measure => have := HK1.out; omega
            case rel => exact ⟨(y119), (wrap64 (x4_1 + 1)), (by first | rfl | (simp; done) | (simp [*]; done)), H', ⟨by have := HK1.out; omega⟩, ⟨by (with_reducible repeat (first | apply Kd.R_alloc | apply Kd.R_drewN | apply Kd.R_drew)); exact HO121.out⟩, ⟨by repeat (first | (with_reducible first | exact HB.out | apply below_alloc | apply pw_below_drewN | apply below_drew1) | exact HB.out)⟩⟩
          · rw [if_neg c7] at H
            exact absurd H (by simp)
        · replace c6 := Bool.eq_false_iff.mpr c6
          subst c6
          have H1 : (cashbookref10_primes.l0 k1 a0 x3_1 (wrap64 (x4_1 + 1))) = some r := by rw [if_neg (show ¬ (false = true) by decide)] at H; exact H
          clear H
          have H := H1
          clear H1
          have H' := Aside0.mk H
          clear H
          obtain ⟨Ao10, co10, eo10⟩ := Kd.R_slice HO_3.out
          subst eo10
          go_wp2_with (first | ((with_reducible refine gate_callee (f := 83) rfl ?_); refine goesL_ (some 13) rfl rfl Tryd.func83 (by kernel_rfl) rfl #[.int .i64 x4_1] rfl (by (try simp only [List.map_toArray, List.map_cons, List.map_nil]); first | done | rfl | (simp only [List.length_drop, List.length_take]; rfl)) ?_; (with_reducible refine (cashbookref10_prime.calls k1 x4_1 false _ A5.out).mono ?_); rintro e w' ⟨rfl, ⟨nd, rfl⟩⟩; refine ⟨_, rfl, ?_⟩))
          go_roundg k1
          case measure => have := HK1.out; omega
          case rel => exact ⟨(x3_1), (wrap64 (x4_1 + 1)), (by first | rfl | (simp; done) | (simp [*]; done)), H', ⟨by have := HK1.out; omega⟩, ⟨by (with_reducible repeat (first | apply Kd.R_alloc | apply Kd.R_drewN | apply Kd.R_drew)); exact HO_3.out⟩, ⟨by repeat (first | (with_reducible first | exact HB.out | apply below_alloc | apply pw_below_drewN | apply below_drew1) | exact HB.out)⟩⟩
      · rw [if_neg c4] at H
        have c4b0 : decide ((x3_1.length : Int) < a0) = false := decide_eq_false c4
        clear c4
        obtain rfl := Option.some.inj H
        obtain ⟨Ao11, co11, eo11⟩ := Kd.R_slice HO_3.out
        subst eo11
        go_wp2
        go_ret
        exact ⟨_, by first | rfl | (simp [errW_none, errW_some] <;> rfl) | (simp [*, errW_none, errW_some] <;> rfl), by (with_reducible repeat (first | apply Kd.R_alloc | apply Kd.R_drewN | apply Kd.R_drew)); exact HO_3.out, by repeat (first | (with_reducible first | exact HB.out | apply below_alloc | apply pw_below_drewN | apply below_drew1) | exact HB.out)⟩

def cashbookref10_limbs.f (a0 : Int) : Option (List Int) := some (([Int.tmod a0 65536, Int.tmod (IntKind.u64.wrap (Int.tdiv a0 65536)) 65536, Int.tmod (IntKind.u64.wrap (Int.tdiv a0 4294967296)) 65536, IntKind.u64.wrap (Int.tdiv a0 281474976710656)] : List Int))
set_option maxHeartbeats 8000000 in
set_option maxRecDepth 100000 in
theorem cashbookref10_limbs.calls (a0 : Int) (r : List Int) (w : World) (h : cashbookref10_limbs.f a0 = some r) :
    Calls Tryd.prog 84 #[.int .u64 a0] w fun e w' => ∃ v0_ : Value, e = .returned (v0_) ∧ Kd.R (Kd.int .u64) 44 w' w.heap.size (fun _ => True) v0_ r ∧ Below w.heap.size w w' := by
  have HB := Aside0.mk (Below.refl w.heap.size w)
  have H : (some (([Int.tmod a0 65536, Int.tmod (IntKind.u64.wrap (Int.tdiv a0 65536)) 65536, Int.tmod (IntKind.u64.wrap (Int.tdiv a0 4294967296)) 65536, IntKind.u64.wrap (Int.tdiv a0 281474976710656)] : List Int))) = some r := h
  clear h
  obtain ⟨y122, hy122⟩ : ∃ y_ : List Int, y_ = (([Int.tmod a0 65536, Int.tmod (IntKind.u64.wrap (Int.tdiv a0 65536)) 65536, Int.tmod (IntKind.u64.wrap (Int.tdiv a0 4294967296)) 65536, IntKind.u64.wrap (Int.tdiv a0 281474976710656)] : List Int)) := ⟨_, rfl⟩
  replace H : (some y122) = some r := by first | (rw [hy122]; with_reducible exact H) | (have H2_ := (Option.bind_some _ _).symm.trans H; rw [hy122]; with_reducible exact H2_) | (have H2_ := (Option.bind_some _ _).symm.trans H; with_reducible exact H2_) | with_reducible exact H | (rw [hy122]; exact H) | exact H
  have Ny122 := Aside0.mk hy122
  clear hy122
  obtain rfl := Option.some.inj H
  go_enter Tryd.func84, Tryd.ntmps84
  go_wp2_with (first | ((with_reducible refine gate_dst (N := 13) rfl ?_); refine Kd.R_lit (Kd.int .u64) _ 44 ?hg (N := 13) ?hd (xs := ([Int.tmod a0 65536, Int.tmod (IntKind.u64.wrap (Int.tdiv a0 65536)) 65536, Int.tmod (IntKind.u64.wrap (Int.tdiv a0 4294967296)) 65536, IntKind.u64.wrap (Int.tdiv a0 281474976710656)] : List Int)) (inner := [.int .u64 (Int.tmod a0 65536), .int .u64 (Int.tmod (IntKind.u64.wrap (Int.tdiv a0 65536)) 65536), .int .u64 (Int.tmod (IntKind.u64.wrap (Int.tdiv a0 4294967296)) 65536), .int .u64 (IntKind.u64.wrap (Int.tdiv a0 281474976710656))]) (ok := fun _ => True) (okp := fun _ => True) ?hr ?hp (fun _ hk => hk) trivial (Below.refl _ _) (Nat.le_refl _) (by simp) ?_; (case hd => rfl); (case hg => rfl); (case hr => first | (go_simp; done) | (go_simp; rfl)); (case hp => exact (Reps.one (show Kd.M (Kd.int .u64) _ _ _ (Int.tmod a0 65536) [.int .u64 (Int.tmod a0 65536)] from rfl) (Reps.one (show Kd.M (Kd.int .u64) _ _ _ (Int.tmod (IntKind.u64.wrap (Int.tdiv a0 65536)) 65536) [.int .u64 (Int.tmod (IntKind.u64.wrap (Int.tdiv a0 65536)) 65536)] from rfl) (Reps.one (show Kd.M (Kd.int .u64) _ _ _ (Int.tmod (IntKind.u64.wrap (Int.tdiv a0 4294967296)) 65536) [.int .u64 (Int.tmod (IntKind.u64.wrap (Int.tdiv a0 4294967296)) 65536)] from rfl) (Reps.one (show Kd.M (Kd.int .u64) _ _ _ (IntKind.u64.wrap (Int.tdiv a0 281474976710656)) [.int .u64 (IntKind.u64.wrap (Int.tdiv a0 281474976710656))] from rfl) (Reps.none _ _)))))); intro v123 w2 ho3 hb hg_ hnew_; clear hg_ hnew_; (first | rw [← Ny122.out] at ho3 | (simp only [Int.reduceToNat] at ho3; rw [← Ny122.out] at ho3)); have n0_ := Aside0.mk (Kd.R_lower ho3 (below_size (by repeat (first | (with_reducible first | exact HB.out | apply below_alloc | apply pw_below_drewN | apply below_drew1) | exact HB.out)))); have n1_ := Aside0.mk (below_step (by repeat (first | (with_reducible first | exact HB.out | apply below_alloc | apply pw_below_drewN | apply below_drew1) | exact HB.out)) hb); clear HB; have HO124 := n0_; have HB := n1_; clear n0_ n1_; clear hb ho3))
  go_ret
  exact ⟨_, by first | rfl | (simp [errW_none, errW_some] <;> rfl) | (simp [*, errW_none, errW_some] <;> rfl), by (with_reducible repeat (first | apply Kd.R_alloc | apply Kd.R_drewN | apply Kd.R_drew)); exact HO124.out, by repeat (first | (with_reducible first | exact HB.out | apply below_alloc | apply pw_below_drewN | apply below_drew1) | exact HB.out)⟩

end Go.Proofs.YtldpnmebjnkjeaaDoor.PH1
namespace Go.Proofs.YtldpnmebjnkjeaaDoor.PH1
open Go.RowKit Go.Proofs.YtldpnmebjnkjeaaDoorW.PrintWords Go.Proofs.YtldpnmebjnkjeaaDoorW.PrintLast Go.Proofs.YtldpnmebjnkjeaaDoorW.PrintMore
set_option linter.unusedVariables false
set_option linter.unusedSimpArgs false

mutual
def cashbookref10_mul.l0 : Nat → List Int → List Int → List Int → Int → Int → Option (List Int)
  | 0, _, _, _, _, _ => none
  | k + 1, x0, x1, x5, x14, x15 => if x15 < x14 then (if x5.length < 17592186044416 then (cashbookref10_mul.l0 k x0 x1 (x5 ++ [0]) x14 (wrap64 (x15 + 1))) else (none)) else (cashbookref10_mul.l1 k x0 x1 x5 (x0.length : Int) 0)
def cashbookref10_mul.l1 : Nat → List Int → List Int → List Int → Int → Int → Option (List Int)
  | 0, _, _, _, _, _ => none
  | k + 1, x0, x1, x5, x22, x23 => if x23 < x22 then (cashbookref10_mul.l2 k x0 x1 x5 x23 x22 x23 (x1.length : Int) 0) else (some x5)
def cashbookref10_mul.l2 : Nat → List Int → List Int → List Int → Int → Int → Int → Int → Int → Option (List Int)
  | 0, _, _, _, _, _, _, _, _ => none
  | k + 1, x0, x1, x5, x6, x22, x23, x27, x28 => if x28 < x27 then (if 0 ≤ (wrap64 (x6 + x28)) then (if (wrap64 (x6 + x28)) < (x5.length : Int) then (if 0 ≤ x6 then (if x6 < (x0.length : Int) then (if 0 ≤ x28 then (if x28 < (x1.length : Int) then (cashbookref10_mul.l2 k x0 x1 (x5.set ((wrap64 (x6 + x28)) : Int).toNat (IntKind.u64.wrap ((rd x5 (wrap64 (x6 + x28))) + (IntKind.u64.wrap ((rd x0 x6) * (rd x1 x28)))))) x6 x22 x23 x27 (wrap64 (x28 + 1))) else (none)) else (none)) else (none)) else (none)) else (none)) else (none)) else (cashbookref10_mul.l3 k x0 x1 x5 0 x22 x23)
def cashbookref10_mul.l3 : Nat → List Int → List Int → List Int → Int → Int → Int → Option (List Int)
  | 0, _, _, _, _, _, _ => none
  | k + 1, x0, x1, x5, x8, x22, x23 => if (wrap64 (x8 + 1)) < (x5.length : Int) then (if 0 ≤ (wrap64 (x8 + 1)) then (if 0 ≤ x8 then (if x8 < (x5.length : Int) then ((some (x5.set ((wrap64 (x8 + 1)) : Int).toNat (IntKind.u64.wrap ((rd x5 (wrap64 (x8 + 1))) + (IntKind.u64.wrap (Int.tdiv (rd x5 x8) 65536)))) : List Int)).bind fun y137 => (cashbookref10_mul.l3 k x0 x1 (y137.set (x8 : Int).toNat (Int.tmod (rd y137 x8) 65536)) (wrap64 (x8 + 1)) x22 x23)) else (none)) else (none)) else (none)) else (cashbookref10_mul.l1 k x0 x1 x5 x22 (wrap64 (x23 + 1)))
end
def cashbookref10_mul.f (k : Nat) (l0 : List Int) (l1 : List Int) : Option (List Int) := cashbookref10_mul.l0 k l0 l1 (([] : List Int)) (wrap64 ((l0.length : Int) + (l1.length : Int))) 0
theorem cashbookref10_mul.mono_l : ∀ k, (∀ y0 y1 y2 y3 y4, LeO (cashbookref10_mul.l0 k y0 y1 y2 y3 y4) (cashbookref10_mul.l0 (k + 1) y0 y1 y2 y3 y4)) ∧ (∀ y0 y1 y2 y3 y4, LeO (cashbookref10_mul.l1 k y0 y1 y2 y3 y4) (cashbookref10_mul.l1 (k + 1) y0 y1 y2 y3 y4)) ∧ (∀ y0 y1 y2 y3 y4 y5 y6 y7, LeO (cashbookref10_mul.l2 k y0 y1 y2 y3 y4 y5 y6 y7) (cashbookref10_mul.l2 (k + 1) y0 y1 y2 y3 y4 y5 y6 y7)) ∧ (∀ y0 y1 y2 y3 y4 y5, LeO (cashbookref10_mul.l3 k y0 y1 y2 y3 y4 y5) (cashbookref10_mul.l3 (k + 1) y0 y1 y2 y3 y4 y5))
  | 0 => ⟨fun _ _ _ _ _ r h => by simp [cashbookref10_mul.l0] at h, fun _ _ _ _ _ r h => by simp [cashbookref10_mul.l1] at h, fun _ _ _ _ _ _ _ _ r h => by simp [cashbookref10_mul.l2] at h, fun _ _ _ _ _ _ r h => by simp [cashbookref10_mul.l3] at h⟩
  | k + 1 => by
    obtain ⟨ih0, ih1, ih2, ih3⟩ := cashbookref10_mul.mono_l k
    refine ⟨?_, ?_, ?_, ?_⟩
    · intro y0 y1 y2 y3 y4
      unfold cashbookref10_mul.l0
      repeat' first
      | (with_reducible exact ih0 _ _ _ _ _)
      | (with_reducible exact ih1 _ _ _ _ _)
      | (with_reducible exact ih2 _ _ _ _ _ _ _ _)
      | (with_reducible exact ih3 _ _ _ _ _ _)
      | (with_reducible exact LeO.refl _)
      | (with_reducible exact LeO.none _)
      | (with_reducible refine LeO.ite ?_ ?_)
      | (with_reducible refine LeO.bind ?_ (fun _ => ?_))
      | exact ih0 _ _ _ _ _
      | exact ih1 _ _ _ _ _
      | exact ih2 _ _ _ _ _ _ _ _
      | exact ih3 _ _ _ _ _ _
      | exact LeO.none _
      | refine LeO.ite ?_ ?_
      | refine LeO.bind ?_ (fun _ => ?_)
    · intro y0 y1 y2 y3 y4
      unfold cashbookref10_mul.l1
      repeat' first
      | (with_reducible exact ih0 _ _ _ _ _)
      | (with_reducible exact ih1 _ _ _ _ _)
      | (with_reducible exact ih2 _ _ _ _ _ _ _ _)
      | (with_reducible exact ih3 _ _ _ _ _ _)
      | (with_reducible exact LeO.refl _)
      | (with_reducible exact LeO.none _)
      | (with_reducible refine LeO.ite ?_ ?_)
      | (with_reducible refine LeO.bind ?_ (fun _ => ?_))
      | exact ih0 _ _ _ _ _
      | exact ih1 _ _ _ _ _
      | exact ih2 _ _ _ _ _ _ _ _
      | exact ih3 _ _ _ _ _ _
      | exact LeO.none _
      | refine LeO.ite ?_ ?_
      | refine LeO.bind ?_ (fun _ => ?_)
    · intro y0 y1 y2 y3 y4 y5 y6 y7
      unfold cashbookref10_mul.l2
      repeat' first
      | (with_reducible exact ih0 _ _ _ _ _)
      | (with_reducible exact ih1 _ _ _ _ _)
      | (with_reducible exact ih2 _ _ _ _ _ _ _ _)
      | (with_reducible exact ih3 _ _ _ _ _ _)
      | (with_reducible exact LeO.refl _)
      | (with_reducible exact LeO.none _)
      | (with_reducible refine LeO.ite ?_ ?_)
      | (with_reducible refine LeO.bind ?_ (fun _ => ?_))
      | exact ih0 _ _ _ _ _
      | exact ih1 _ _ _ _ _
      | exact ih2 _ _ _ _ _ _ _ _
      | exact ih3 _ _ _ _ _ _
      | exact LeO.none _
      | refine LeO.ite ?_ ?_
      | refine LeO.bind ?_ (fun _ => ?_)
    · intro y0 y1 y2 y3 y4 y5
      unfold cashbookref10_mul.l3
      repeat' first
      | (with_reducible exact ih0 _ _ _ _ _)
      | (with_reducible exact ih1 _ _ _ _ _)
      | (with_reducible exact ih2 _ _ _ _ _ _ _ _)
      | (with_reducible exact ih3 _ _ _ _ _ _)
      | (with_reducible exact LeO.refl _)
      | (with_reducible exact LeO.none _)
      | (with_reducible refine LeO.ite ?_ ?_)
      | (with_reducible refine LeO.bind ?_ (fun _ => ?_))
      | exact ih0 _ _ _ _ _
      | exact ih1 _ _ _ _ _
      | exact ih2 _ _ _ _ _ _ _ _
      | exact ih3 _ _ _ _ _ _
      | exact LeO.none _
      | refine LeO.ite ?_ ?_
      | refine LeO.bind ?_ (fun _ => ?_)
theorem cashbookref10_mul.mono : ∀ a0 a1 k, LeO (cashbookref10_mul.f k a0 a1) (cashbookref10_mul.f (k + 1) a0 a1) := by
  intro a0 a1 k
  obtain ⟨ih0, ih1, ih2, ih3⟩ := cashbookref10_mul.mono_l k
  unfold cashbookref10_mul.f
  repeat' first
      | (with_reducible exact ih0 _ _ _ _ _)
      | (with_reducible exact ih1 _ _ _ _ _)
      | (with_reducible exact ih2 _ _ _ _ _ _ _ _)
      | (with_reducible exact ih3 _ _ _ _ _ _)
      | (with_reducible exact LeO.refl _)
      | (with_reducible exact LeO.none _)
      | (with_reducible refine LeO.ite ?_ ?_)
      | (with_reducible refine LeO.bind ?_ (fun _ => ?_))
      | exact ih0 _ _ _ _ _
      | exact ih1 _ _ _ _ _
      | exact ih2 _ _ _ _ _ _ _ _
      | exact ih3 _ _ _ _ _ _
      | exact LeO.none _
      | refine LeO.ite ?_ ?_
      | refine LeO.bind ?_ (fun _ => ?_)
def cashbookref10_mul.T12 : Bool × List (List Nat × List Nat) := (true, [([], []), ([], []), ([], []), ([1, 2], [1, 2]), ([], []), ([], []), ([], []), ([5, 6], [5, 6]), ([4, 7], [4, 7]), ([8], [8]), ([], []), ([], []), ([10, 11], [10, 11]), ([12], [12]), ([], []), ([], []), ([14, 15], [14, 15]), ([16], [16]), ([13, 17], [13, 17]), ([9, 18], [9, 18]), ([0, 3, 0, 1, 2, 3, 4, 5, 6, 7, 8, 9, 10, 11, 12, 13, 14, 15, 16, 17, 18, 19], [0, 3]), ([20, 19, 0, 1, 2, 3, 4, 5, 6, 7, 8, 9, 10, 11, 12, 13, 14, 15, 16, 17, 18, 19], [19, 20])])
def cashbookref10_mul.B12 : List Nat := [0, 0, 0, 6, 0, 0, 0, 96, 240, 496, 0, 0, 3072, 7168, 0, 0, 49152, 114688, 261120, 524272, 1048575, 2097151]
theorem cashbookref10_mul.tab12 : rtab .any (opsOf Tryd.f85 12) = cashbookref10_mul.T12 := by kernel_rfl
theorem cashbookref10_mul.bits12 : waitsOk cashbookref10_mul.T12.2 cashbookref10_mul.B12 = true := by kernel_rfl
def cashbookref10_mul.T17 : Bool × List (List Nat × List Nat) := (true, [([], []), ([], []), ([1], [1]), ([], []), ([], []), ([4], [4]), ([3, 5], [3, 5]), ([6], [6]), ([], []), ([], []), ([8, 9], [8, 9]), ([10], [10]), ([11], [11]), ([7, 12], [7, 12]), ([0, 2, 0, 1, 2, 3, 4, 5, 6, 7, 8, 9, 10, 11, 12, 13], [0, 2]), ([14, 13, 0, 1, 2, 3, 4, 5, 6, 7, 8, 9, 10, 11, 12, 13], [13, 14])])
def cashbookref10_mul.B17 : List Nat := [0, 0, 2, 0, 0, 16, 56, 120, 0, 0, 768, 1792, 3840, 8184, 16383, 32767]
theorem cashbookref10_mul.tab17 : rtab .any (opsOf Tryd.f85 17) = cashbookref10_mul.T17 := by kernel_rfl
theorem cashbookref10_mul.bits17 : waitsOk cashbookref10_mul.T17.2 cashbookref10_mul.B17 = true := by kernel_rfl
set_option maxHeartbeats 8000000 in
set_option maxRecDepth 100000 in
theorem cashbookref10_mul.calls (k : Nat) (A0 : Option Addr) (c0 : Nat) (l0 : List Int) (A1 : Option Addr) (c1 : Nat) (l1 : List Int) (r : List Int) (w : World) (hr0 : Kd.C (Kd.int .u64) w A0 l0.length l0) (hc0 : l0.length ≤ c0) (hr1 : Kd.C (Kd.int .u64) w A1 l1.length l1) (hc1 : l1.length ≤ c1) (h : cashbookref10_mul.f k l0 l1 = some r) :
    Calls Tryd.prog 85 #[.slice A0 l0.length c0, .slice A1 l1.length c1] w fun e w' => ∃ v0_ : Value, e = .returned (v0_) ∧ Kd.R (Kd.int .u64) 44 w' w.heap.size (fun _ => True) v0_ r ∧ Below w.heap.size w w' := by
  have HR0 := Aside0.mk hr0
  have HC0 := Aside0.mk hc0
  clear hr0 hc0
  have HR1 := Aside0.mk hr1
  have HC1 := Aside0.mk hc1
  clear hr1 hc1
  have HB := Aside0.mk (Below.refl w.heap.size w)
  have H : (cashbookref10_mul.l0 k l0 l1 (([] : List Int)) (wrap64 ((l0.length : Int) + (l1.length : Int))) 0) = some r := h
  clear h
  obtain ⟨y125, hy125⟩ : ∃ y_ : List Int, y_ = (([] : List Int)) := ⟨_, rfl⟩
  replace H : (cashbookref10_mul.l0 k l0 l1 y125 (wrap64 ((l0.length : Int) + (l1.length : Int))) 0) = some r := by first | (rw [hy125]; with_reducible exact H) | (have H2_ := (Option.bind_some _ _).symm.trans H; rw [hy125]; with_reducible exact H2_) | (have H2_ := (Option.bind_some _ _).symm.trans H; with_reducible exact H2_) | with_reducible exact H | (rw [hy125]; exact H) | exact H
  have Ny125 := Aside0.mk hy125
  clear hy125
  have H' := Aside0.mk H
  clear H
  go_enter Tryd.func85, Tryd.ntmps85
  go_wp2_with (first | ((with_reducible refine gate_dst (N := 9) rfl ?_); refine Kd.R_lit (Kd.int .u64) _ 44 ?hg (N := 9) ?hd (xs := ([] : List Int)) (inner := []) (ok := fun _ => True) (okp := fun _ => True) ?hr ?hp (fun _ hk => hk) trivial (Below.refl _ _) (Nat.le_refl _) (by simp) ?_; (case hd => rfl); (case hg => rfl); (case hr => first | (go_simp; done) | (go_simp; rfl)); (case hp => exact (Reps.none _ _)); intro v126 w3 ho4 hb hg_ hnew_; clear hg_ hnew_; (first | rw [← Ny125.out] at ho4 | (simp only [Int.reduceToNat] at ho4; rw [← Ny125.out] at ho4)); have n0_ := Aside0.mk (Kd.R_lower ho4 (below_size (by repeat (first | (with_reducible first | exact HB.out | apply below_alloc | apply pw_below_drewN | apply below_drew1) | exact HB.out)))); have n1_ := Aside0.mk (below_step (by repeat (first | (with_reducible first | exact HB.out | apply below_alloc | apply pw_below_drewN | apply below_drew1) | exact HB.out)) hb); clear HB; have HO127 := n0_; have HB := n1_; clear n0_ n1_; clear hb ho4))
  go_loopg [5, 15] k (fun kq v5 v15 w' => ∃ (x5_1 : List Int) (x15_1 : Int), v15 = .int .i64 x15_1 ∧ Aside0 (cashbookref10_mul.l0 kq l0 l1 x5_1 (wrap64 ((l0.length : Int) + (l1.length : Int))) x15_1 = some r) ∧ Aside0 (kq ≤ k) ∧ Aside0 (Kd.R (Kd.int .u64) 44 w' w.heap.size (fun _ => True) v5 x5_1) ∧ Aside0 (Below w.heap.size w w'))
  case atStart => exact ⟨(y125), (0), (by first | rfl | (simp; done) | (simp [*]; done)), H', ⟨Nat.le_refl _⟩, ⟨by (with_reducible repeat (first | apply Kd.R_alloc | apply Kd.R_drewN | apply Kd.R_drew)); exact HO127.out⟩, ⟨by repeat (first | (with_reducible first | exact HB.out | apply below_alloc | apply pw_below_drewN | apply below_drew1) | exact HB.out)⟩⟩
  case round =>
    clear H'
    try clear c1
    try clear p2
    obtain ⟨x5_1, x15_1, rfl, HA, HK1, HO_5, HB⟩ := hrel
    cases gk with
    | zero => exact absurd HA.out (by simp [cashbookref10_mul.l0])
    | succ k1 =>
      have H := HA.out
      clear HA
      simp only [cashbookref10_mul.l0] at H
      by_cases c5 : x15_1 < (wrap64 ((l0.length : Int) + (l1.length : Int)))
      · rw [if_pos c5] at H
        have c5b0 : decide (x15_1 < (wrap64 ((l0.length : Int) + (l1.length : Int)))) = true := decide_eq_true c5
        clear c5
        by_cases c6 : x5_1.length < 17592186044416
        · rw [if_pos c6] at H
          have LMc6 := Aside0.mk c6
          clear c6
          obtain ⟨y128, hy128⟩ : ∃ y_ : List Int, y_ = (x5_1 ++ [0]) := ⟨_, rfl⟩
          replace H : (cashbookref10_mul.l0 k1 l0 l1 y128 (wrap64 ((l0.length : Int) + (l1.length : Int))) (wrap64 (x15_1 + 1))) = some r := by first | (rw [hy128]; with_reducible exact H) | (have H2_ := (Option.bind_some _ _).symm.trans H; rw [hy128]; with_reducible exact H2_) | (have H2_ := (Option.bind_some _ _).symm.trans H; with_reducible exact H2_) | with_reducible exact H | (rw [hy128]; exact H) | exact H
          have Ny128 := Aside0.mk hy128
          clear hy128
          have H' := Aside0.mk H
          clear H
          go_wp2_with (first | ((with_reducible refine gate_builtin (b := .append) (xs := #[.tmp 17, .tmp 18]) rfl ?_); at_builtin; refine Kd.R_append (Kd.int .u64) (w0 := w) w.heap.size rfl (.tmp 17) (.tmp 18) 87 44 (.int .u64 0) 8 rfl Tryd.underlying87 info44 rfl (by decide) (by omega) u5 x5_1 0 [.int .u64 0] (fun _ => True) (fun _ => False) rfl rfl ?aP (fun _ hk => hk.elim) ?aF ?aO ?aB ?aS ?aL ?_; (case aP => exact rfl); (case aB => exact (by repeat (first | (with_reducible first | exact HB.out | apply below_alloc | apply pw_below_drewN | apply below_drew1) | exact HB.out))); (case aF => exact (fun _ _ => trivial)); (case aO => exact (by (with_reducible repeat (first | apply Kd.R_alloc | apply Kd.R_drewN | apply Kd.R_drew)); exact HO_5.out)); (case aS => exact (below_size (by repeat (first | (with_reducible first | exact HB.out | apply below_alloc | apply pw_below_drewN | apply below_drew1) | exact HB.out)))); (case aL => have := LMc6.out; omega); intro v129 w7 ho hb hg hat; rw [← Ny128.out] at ho; have n0_ := Aside0.mk (hb); have n1_ := Aside0.mk (ho); clear HB; clear HO_5; have HB := n0_; have HO130 := n1_; clear n0_ n1_; clear ho hb hg hat))
          go_roundg k1
          case measure => have := HK1.out; omega
          case rel => exact ⟨(y128), (wrap64 (x15_1 + 1)), (by first | rfl | (simp; done) | (simp [*]; done)), H', ⟨by have := HK1.out; omega⟩, ⟨by (with_reducible repeat (first | apply Kd.R_alloc | apply Kd.R_drewN | apply Kd.R_drew)); exact HO130.out⟩, ⟨by repeat (first | (with_reducible first | exact HB.out | apply below_alloc | apply pw_below_drewN | apply below_drew1) | exact HB.out)⟩⟩
        · rw [if_neg c6] at H
          exact absurd H (by simp)
      · rw [if_neg c5] at H
        have c5b0 : decide (x15_1 < (wrap64 ((l0.length : Int) + (l1.length : Int)))) = false := decide_eq_false c5
        clear c5
        have H' := Aside0.mk H
        clear H
        go_wp2
        go_loopg [23] k1 (fun kq v23 w' => ∃ (x5_2 : List Int) (x23_2 : Int), v23 = .int .i64 x23_2 ∧ Aside0 (cashbookref10_mul.l1 kq l0 l1 x5_2 (l0.length : Int) x23_2 = some r) ∧ Aside0 (kq ≤ k1) ∧ Aside0 (Kd.R (Kd.int .u64) 44 w' w.heap.size (fun _ => True) u5 x5_2) ∧ Aside0 (Below w.heap.size w w'))
        case atStart => exact ⟨(x5_1), (0), (by first | rfl | (simp; done) | (simp [*]; done)), H', ⟨Nat.le_refl _⟩, ⟨by (with_reducible repeat (first | apply Kd.R_alloc | apply Kd.R_drewN | apply Kd.R_drew)); exact HO_5.out⟩, ⟨by repeat (first | (with_reducible first | exact HB.out | apply below_alloc | apply pw_below_drewN | apply below_drew1) | exact HB.out)⟩⟩
        case round =>
          clear H'
          try clear c1
          try clear p2
          try clear c5
          try clear c5b0
          try clear c6
          try clear p6
          try clear p2
          obtain ⟨x5_2, x23_2, rfl, HA, HK2, HO_5, HB⟩ := hrel
          cases gk with
          | zero => exact absurd HA.out (by simp [cashbookref10_mul.l1])
          | succ k2 =>
            have H := HA.out
            clear HA
            simp only [cashbookref10_mul.l1] at H
            by_cases c8 : x23_2 < (l0.length : Int)
            · rw [if_pos c8] at H
              have c8b0 : decide (x23_2 < (l0.length : Int)) = true := decide_eq_true c8
              clear c8
              have H' := Aside0.mk H
              clear H
              go_wp2
              go_loopg [28] k2 (fun kq v28 w' => ∃ (x5_3 : List Int) (x28_3 : Int), v28 = .int .i64 x28_3 ∧ Aside0 (cashbookref10_mul.l2 kq l0 l1 x5_3 x23_2 (l0.length : Int) x23_2 (l1.length : Int) x28_3 = some r) ∧ Aside0 (kq ≤ k2) ∧ Aside0 (Kd.R (Kd.int .u64) 44 w' w.heap.size (fun _ => True) u5 x5_3) ∧ Aside0 (Below w.heap.size w w'))
              case atStart => exact ⟨(x5_2), (0), (by first | rfl | (simp; done) | (simp [*]; done)), H', ⟨Nat.le_refl _⟩, ⟨by (with_reducible repeat (first | apply Kd.R_alloc | apply Kd.R_drewN | apply Kd.R_drew)); exact HO_5.out⟩, ⟨by repeat (first | (with_reducible first | exact HB.out | apply below_alloc | apply pw_below_drewN | apply below_drew1) | exact HB.out)⟩⟩
              case round =>
                clear H'
                try clear c1
                try clear p2
                try clear c5
                try clear c5b0
                try clear c6
                try clear p6
                try clear c8
                try clear c8b0
                try clear p2
                try clear p6
                obtain ⟨x5_3, x28_3, rfl, HA, HK3, HO_5, HB⟩ := hrel
                cases gk with
                | zero => exact absurd HA.out (by simp [cashbookref10_mul.l2])
                | succ k3 =>
                  have H := HA.out
                  clear HA
                  simp only [cashbookref10_mul.l2] at H
                  by_cases c9 : x28_3 < (l1.length : Int)
                  · rw [if_pos c9] at H
                    have c9b0 : decide (x28_3 < (l1.length : Int)) = true := decide_eq_true c9
                    clear c9
                    obtain ⟨ji10, hji10⟩ : ∃ j_ : Int, (wrap64 (x23_2 + x28_3)) = j_ := ⟨_, rfl⟩
                    replace H : (if 0 ≤ (ji10) then (if (ji10) < (x5_3.length : Int) then (if 0 ≤ x23_2 then (if x23_2 < (l0.length : Int) then (if 0 ≤ x28_3 then (if x28_3 < (l1.length : Int) then (cashbookref10_mul.l2 k3 l0 l1 (x5_3.set ((ji10) : Int).toNat (IntKind.u64.wrap ((rd x5_3 (ji10)) + (IntKind.u64.wrap ((rd l0 x23_2) * (rd l1 x28_3)))))) x23_2 (l0.length : Int) x23_2 (l1.length : Int) (wrap64 (x28_3 + 1))) else (none)) else (none)) else (none)) else (none)) else (none)) else (none)) = some r := by first | (rw [hji10] at H; exact H) | (simp only [hji10] at H ⊢; exact H)
                    have hji10w : (IntKind.i64.wrap (x23_2 + x28_3)) = ji10 := (i64_w _).trans hji10
                    by_cases c11 : 0 ≤ (ji10)
                    · rw [if_pos c11] at H
                      have c11b0 : decide (0 ≤ (ji10)) = true := decide_eq_true c11
                      clear c11
                      by_cases c12 : (ji10) < (x5_3.length : Int)
                      · rw [if_pos c12] at H
                        have c12b0 : decide ((ji10) < (x5_3.length : Int)) = true := decide_eq_true c12
                        clear c12
                        by_cases c13 : 0 ≤ x23_2
                        · rw [if_pos c13] at H
                          have c13b0 : decide (0 ≤ x23_2) = true := decide_eq_true c13
                          clear c13
                          by_cases c14 : x23_2 < (l0.length : Int)
                          · rw [if_pos c14] at H
                            have c14b0 : decide (x23_2 < (l0.length : Int)) = true := decide_eq_true c14
                            clear c14
                            by_cases c15 : 0 ≤ x28_3
                            · rw [if_pos c15] at H
                              have c15b0 : decide (0 ≤ x28_3) = true := decide_eq_true c15
                              clear c15
                              by_cases c16 : x28_3 < (l1.length : Int)
                              · rw [if_pos c16] at H
                                have c16b0 : decide (x28_3 < (l1.length : Int)) = true := decide_eq_true c16
                                clear c16
                                obtain ⟨y134, hy134⟩ : ∃ y_ : List Int, y_ = (x5_3.set ((ji10) : Int).toNat (IntKind.u64.wrap ((rd x5_3 (ji10)) + (IntKind.u64.wrap ((rd l0 x23_2) * (rd l1 x28_3)))))) := ⟨_, rfl⟩
                                replace H : (cashbookref10_mul.l2 k3 l0 l1 y134 x23_2 (l0.length : Int) x23_2 (l1.length : Int) (wrap64 (x28_3 + 1))) = some r := by first | (rw [hy134]; with_reducible exact H) | (have H2_ := (Option.bind_some _ _).symm.trans H; rw [hy134]; with_reducible exact H2_) | (have H2_ := (Option.bind_some _ _).symm.trans H; with_reducible exact H2_) | with_reducible exact H | (rw [hy134]; exact H) | exact H
                                have Ny134 := Aside0.mk hy134
                                clear hy134
                                have H' := Aside0.mk H
                                clear H
                                try go_wp2
                                have n0_ := Aside0.mk (Kd.R_drew HO_5.out)
                                have n1_ := Aside0.mk (below_drew1 HB.out)
                                clear HO_5
                                clear HB
                                have HO_5 := n0_
                                have HB := n1_
                                clear n0_ n1_
                                obtain ⟨Ao19, co19, eo19⟩ := Kd.R_slice HO_5.out
                                (first | subst eo19 | (injection eo19 with f1_ f2_ f3_; have f4_ := f1_.symm; have f5_ := f3_.symm; clear f1_ f2_ f3_; subst f4_; subst f5_))
                                have p131 : 0 ≤ ((ji10) : Int) := of_decide_eq_true (by first | (with_reducible assumption) | assumption)
                                have q131 : (ji10) < (x5_3.length : Int) := of_decide_eq_true (by first | (with_reducible assumption) | assumption)
                                obtain ⟨ad131, e131, hx131_0⟩ := Kd.at_int (Kd.R_reads' HO_5.out).2.2 (ji10) p131 q131
                                cases e131
                                replace p131 := eq_true p131
                                replace q131 := eq_true q131
                                have p132 : 0 ≤ (x23_2 : Int) := of_decide_eq_true (by first | (with_reducible assumption) | assumption)
                                have q132 : x23_2 < (l0.length : Int) := of_decide_eq_true (by first | (with_reducible assumption) | assumption)
                                obtain ⟨ad132, e132, hx132_0⟩ := Kd.at_int HR0.out x23_2 p132 q132
                                have hw132_0 := hx132_0
                                cases e132
                                replace hx132_0 := (HB.out.cell (World.block_lt_of_cell? w _ hx132_0)).trans hx132_0
                                replace p132 := eq_true p132
                                replace q132 := eq_true q132
                                have p133 : 0 ≤ (x28_3 : Int) := of_decide_eq_true (by first | (with_reducible assumption) | assumption)
                                have q133 : x28_3 < (l1.length : Int) := of_decide_eq_true (by first | (with_reducible assumption) | assumption)
                                obtain ⟨ad133, e133, hx133_0⟩ := Kd.at_int HR1.out x28_3 p133 q133
                                have hw133_0 := hx133_0
                                cases e133
                                replace hx133_0 := (HB.out.cell (World.block_lt_of_cell? w _ hx133_0)).trans hx133_0
                                replace p133 := eq_true p133
                                replace q133 := eq_true q133
                                have p17 : 0 ≤ ((ji10) : Int) := of_decide_eq_true (by first | (with_reducible assumption) | assumption)
                                have q17 : ((ji10) : Int) < ((x5_3.length : Int) : Int) := of_decide_eq_true (by first | (with_reducible assumption) | assumption)
                                obtain ⟨go17, co17, eo17, gb17, gl17, cl17, HG17⟩ := Kd.R_form HO_5.out (by omega)
                                (first | cases eo17 | (injection eo17 with ea_ en_ ec_; (first | subst ea_ | (injection ea_ with ea_; subst ea_)); subst ec_; clear en_))
                                have GB17 := Aside0.mk gb17
                                have GG17 := Aside0.mk HG17
                                clear gb17 gl17 HG17
                                (first | simp only [add_plain] at hx131_0 | skip)
                                obtain ⟨hx17_0, hf17_0⟩ := Kd.R_celln 0 HO_5.out ((ji10) : Int) p17 q17
                                replace p17 := eq_true p17
                                replace q17 := eq_true q17
                                have HP20 := Kd.R_putn HO_5.out ((ji10) : Int) (IntKind.u64.wrap ((rd x5_3 (ji10)) + (IntKind.u64.wrap ((rd l0 x23_2) * (rd l1 x28_3)))))
                                rw [← Ny134.out] at HP20
                                have HQ20 := Aside0.mk HP20
                                clear HP20
                                refine start_ (n := 22) (S := fun w' => w'.cell? ⟨go17, ((ji10)).toNat, none⟩ = some (.int .u64 (rd x5_3 (ji10))) ∧ w'.cell? (ad132.add (x23_2).toNat) = some (.int .u64 (rd l0 x23_2)) ∧ w'.cell? (ad133.add (x28_3).toNat) = some (.int .u64 (rd l1 x28_3))) (ds := [21]) #[false, false, false, false, false, false, false, false, false, false, false, false, false, false, false, false, false, false, false, false, false, false] (by kernel_rfl) rfl rfl ⟨hx131_0, ((HB.out.cell (World.block_lt_of_cell? w _ hw132_0)).trans hw132_0), ((HB.out.cell (World.block_lt_of_cell? w _ hw133_0)).trans hw133_0)⟩ (fun hHeld => ?_); refine with_tabW cashbookref10_mul.tab12 cashbookref10_mul.bits12 (fun HT_ HW_ => ?_)
                                generalize wr.drew = w18 at HO_5 HB GG17 HQ20 hf17_0 hx131_0 hx132_0 hx133_0 hx17_0 hHeld ⊢
                                refine pure_ (i := 0) (N := some 31) (v := ?_) (a' := ?_) #[true, false, false, false, false, false, false, false, false, false, false, false, false, false, false, false, false, false, false, false, false, false] rfl rfl (any_of HT_.out (by kernel_rfl)) (fun _ _ _ h => h) (Or.inl ⟨by rfl, ?_⟩) ?_ ?_
                                rotate_left
                                · intro w'
                                  go_simp
                                  with_reducible rfl
                                rotate_left
                                · simp only [Act.put, List.setIfInBounds_toArray, List.set_cons_zero, List.set_cons_succ, i64_w, i32_w]
                                  rfl
                                refine pure_ (i := 1) (N := some 32) (v := ?_) (a' := ?_) #[true, true, false, false, false, false, false, false, false, false, false, false, false, false, false, false, false, false, false, false, false, false] rfl rfl (any_of HT_.out (by kernel_rfl)) (fun _ _ _ h => h) (Or.inl ⟨by rfl, ?_⟩) ?_ ?_
                                rotate_left
                                · intro w'
                                  go_simp
                                  with_reducible rfl
                                rotate_left
                                · simp only [Act.put, List.setIfInBounds_toArray, List.set_cons_zero, List.set_cons_succ, i64_w, i32_w]
                                  rfl
                                refine pure_ (i := 2) (N := some 33) (v := ?_) (a' := ?_) #[true, true, true, false, false, false, false, false, false, false, false, false, false, false, false, false, false, false, false, false, false, false] rfl rfl (any_of HT_.out (by kernel_rfl)) (fun _ _ _ h => h) (Or.inl ⟨by rfl, ?_⟩) ?_ ?_
                                rotate_left
                                · intro w'
                                  go_simp
                                  with_reducible rfl
                                rotate_left
                                · simp only [Act.put, List.setIfInBounds_toArray, List.set_cons_zero, List.set_cons_succ, i64_w, i32_w]
                                  rfl
                                refine pure_ (i := 3) (N := some 34) (v := ?_) (a' := ?_) #[true, true, true, true, false, false, false, false, false, false, false, false, false, false, false, false, false, false, false, false, false, false] rfl rfl (any_of HT_.out (by kernel_rfl)) (fun _ _ _ h => h) (Or.inl ⟨by rfl, ?_⟩) ?_ ?_
                                rotate_left
                                · intro w'
                                  go_simp
                                  with_reducible rfl
                                rotate_left
                                · simp only [Act.put, List.setIfInBounds_toArray, List.set_cons_zero, List.set_cons_succ, i64_w, i32_w]
                                  rfl
                                refine pure_ (i := 4) (N := some 35) (v := ?_) (a' := ?_) #[true, true, true, true, true, false, false, false, false, false, false, false, false, false, false, false, false, false, false, false, false, false] rfl rfl (any_of HT_.out (by kernel_rfl)) (fun _ _ _ h => h) (Or.inl ⟨by rfl, ?_⟩) ?_ ?_
                                rotate_left
                                · intro w'
                                  go_simp
                                  with_reducible rfl
                                rotate_left
                                · simp only [Act.put, List.setIfInBounds_toArray, List.set_cons_zero, List.set_cons_succ, i64_w, i32_w]
                                  rfl
                                refine pure_ (i := 5) (N := some 36) (v := ?_) (a' := ?_) #[true, true, true, true, true, true, false, false, false, false, false, false, false, false, false, false, false, false, false, false, false, false] rfl rfl (any_of HT_.out (by kernel_rfl)) (fun _ _ _ h => h) (Or.inl ⟨by rfl, ?_⟩) ?_ ?_
                                rotate_left
                                · intro w'
                                  go_simp
                                  with_reducible rfl
                                rotate_left
                                · simp only [Act.put, List.setIfInBounds_toArray, List.set_cons_zero, List.set_cons_succ, i64_w, i32_w]
                                  rfl
                                refine pure_ (i := 6) (N := some 37) (v := ?_) (a' := ?_) #[true, true, true, true, true, true, true, false, false, false, false, false, false, false, false, false, false, false, false, false, false, false] rfl rfl (any_of HT_.out (by kernel_rfl)) (fun _ _ _ h => h) (Or.inl ⟨by rfl, ?_⟩) ?_ ?_
                                rotate_left
                                · intro w'
                                  go_simp
                                  with_reducible rfl
                                rotate_left
                                · simp only [Act.put, List.setIfInBounds_toArray, List.set_cons_zero, List.set_cons_succ, i64_w, i32_w]
                                  rfl
                                refine pure_ (i := 7) (N := some 38) (v := ?_) (a' := ?_) #[true, true, true, true, true, true, true, true, false, false, false, false, false, false, false, false, false, false, false, false, false, false] rfl rfl (any_of HT_.out (by kernel_rfl)) (fun _ _ _ h => h) (Or.inl ⟨by rfl, ?_⟩) ?_ ?_
                                rotate_left
                                · intro w'
                                  go_simp
                                  with_reducible rfl
                                rotate_left
                                · simp only [Act.put, List.setIfInBounds_toArray, List.set_cons_zero, List.set_cons_succ, i64_w, i32_w]
                                  rfl
                                refine pure_ (i := 8) (N := some 39) (v := ?_) (a' := ?_) #[true, true, true, true, true, true, true, true, true, false, false, false, false, false, false, false, false, false, false, false, false, false] rfl rfl (any_of HT_.out (by kernel_rfl)) (fun _ _ _ h => h) (Or.inl ⟨by rfl, ?_⟩) ?_ ?_
                                rotate_left
                                · intro w'
                                  go_simp
                                  with_reducible rfl
                                rotate_left
                                · simp only [Act.put, List.setIfInBounds_toArray, List.set_cons_zero, List.set_cons_succ, i64_w, i32_w]
                                  rfl
                                refine pure_ (i := 10) (N := some 41) (v := ?_) (a' := ?_) #[true, true, true, true, true, true, true, true, true, false, true, false, false, false, false, false, false, false, false, false, false, false] rfl rfl (any_of HT_.out (by kernel_rfl)) (fun _ _ _ h => h) (Or.inl ⟨by rfl, ?_⟩) ?_ ?_
                                rotate_left
                                · intro w'
                                  go_simp
                                  with_reducible rfl
                                rotate_left
                                · simp only [Act.put, List.setIfInBounds_toArray, List.set_cons_zero, List.set_cons_succ, i64_w, i32_w]
                                  rfl
                                refine pure_ (i := 11) (N := some 42) (v := ?_) (a' := ?_) #[true, true, true, true, true, true, true, true, true, false, true, true, false, false, false, false, false, false, false, false, false, false] rfl rfl (any_of HT_.out (by kernel_rfl)) (fun _ _ _ h => h) (Or.inl ⟨by rfl, ?_⟩) ?_ ?_
                                rotate_left
                                · intro w'
                                  go_simp
                                  with_reducible rfl
                                rotate_left
                                · simp only [Act.put, List.setIfInBounds_toArray, List.set_cons_zero, List.set_cons_succ, i64_w, i32_w]
                                  rfl
                                refine pure_ (i := 12) (N := some 43) (v := ?_) (a' := ?_) #[true, true, true, true, true, true, true, true, true, false, true, true, true, false, false, false, false, false, false, false, false, false] rfl rfl (any_of HT_.out (by kernel_rfl)) (fun _ _ _ h => h) (Or.inl ⟨by rfl, ?_⟩) ?_ ?_
                                rotate_left
                                · intro w'
                                  go_simp
                                  with_reducible rfl
                                rotate_left
                                · simp only [Act.put, List.setIfInBounds_toArray, List.set_cons_zero, List.set_cons_succ, i64_w, i32_w]
                                  rfl
                                refine pure_ (i := 14) (N := some 45) (v := ?_) (a' := ?_) #[true, true, true, true, true, true, true, true, true, false, true, true, true, false, true, false, false, false, false, false, false, false] rfl rfl (any_of HT_.out (by kernel_rfl)) (fun _ _ _ h => h) (Or.inl ⟨by rfl, ?_⟩) ?_ ?_
                                rotate_left
                                · intro w'
                                  go_simp
                                  with_reducible rfl
                                rotate_left
                                · simp only [Act.put, List.setIfInBounds_toArray, List.set_cons_zero, List.set_cons_succ, i64_w, i32_w]
                                  rfl
                                refine pure_ (i := 15) (N := some 46) (v := ?_) (a' := ?_) #[true, true, true, true, true, true, true, true, true, false, true, true, true, false, true, true, false, false, false, false, false, false] rfl rfl (any_of HT_.out (by kernel_rfl)) (fun _ _ _ h => h) (Or.inl ⟨by rfl, ?_⟩) ?_ ?_
                                rotate_left
                                · intro w'
                                  go_simp
                                  with_reducible rfl
                                rotate_left
                                · simp only [Act.put, List.setIfInBounds_toArray, List.set_cons_zero, List.set_cons_succ, i64_w, i32_w]
                                  rfl
                                refine pure_ (i := 16) (N := some 47) (v := ?_) (a' := ?_) #[true, true, true, true, true, true, true, true, true, false, true, true, true, false, true, true, true, false, false, false, false, false] rfl rfl (any_of HT_.out (by kernel_rfl)) (fun _ _ _ h => h) (Or.inl ⟨by rfl, ?_⟩) ?_ ?_
                                rotate_left
                                · intro w'
                                  go_simp
                                  with_reducible rfl
                                rotate_left
                                · simp only [Act.put, List.setIfInBounds_toArray, List.set_cons_zero, List.set_cons_succ, i64_w, i32_w]
                                  rfl
                                refine take_ (i := 9) (N := some 40) (v := ?_) (a' := ?_) #[true, true, true, true, true, true, true, true, true, true, true, true, true, false, true, true, true, false, false, false, false, false] rfl rfl (take_ofW HT_.out HW_.out (by kernel_rfl)) (fun _ _ _ h => h) (Or.inl ⟨by rfl, ?_⟩) hHeld ?_ ?_
                                rotate_left
                                · rintro w' ⟨s0, s1, s2⟩
                                  go_simp
                                  with_reducible rfl
                                rotate_left
                                · simp only [Act.put, List.setIfInBounds_toArray, List.set_cons_zero, List.set_cons_succ, i64_w, i32_w]
                                  rfl
                                refine take_ (i := 13) (N := some 44) (v := ?_) (a' := ?_) #[true, true, true, true, true, true, true, true, true, true, true, true, true, true, true, true, true, false, false, false, false, false] rfl rfl (take_ofW HT_.out HW_.out (by kernel_rfl)) (fun _ _ _ h => h) (Or.inl ⟨by rfl, ?_⟩) hHeld ?_ ?_
                                rotate_left
                                · rintro w' ⟨s0, s1, s2⟩
                                  go_simp
                                  with_reducible rfl
                                rotate_left
                                · simp only [Act.put, List.setIfInBounds_toArray, List.set_cons_zero, List.set_cons_succ, i64_w, i32_w]
                                  rfl
                                refine take_ (i := 17) (N := some 48) (v := ?_) (a' := ?_) #[true, true, true, true, true, true, true, true, true, true, true, true, true, true, true, true, true, true, false, false, false, false] rfl rfl (take_ofW HT_.out HW_.out (by kernel_rfl)) (fun _ _ _ h => h) (Or.inl ⟨by rfl, ?_⟩) hHeld ?_ ?_
                                rotate_left
                                · rintro w' ⟨s0, s1, s2⟩
                                  go_simp
                                  with_reducible rfl
                                rotate_left
                                · simp only [Act.put, List.setIfInBounds_toArray, List.set_cons_zero, List.set_cons_succ, i64_w, i32_w]
                                  rfl
                                refine pure_ (i := 18) (N := some 49) (v := ?_) (a' := ?_) #[true, true, true, true, true, true, true, true, true, true, true, true, true, true, true, true, true, true, true, false, false, false] rfl rfl (any_of HT_.out (by kernel_rfl)) (fun _ _ _ h => h) (Or.inl ⟨by rfl, ?_⟩) ?_ ?_
                                rotate_left
                                · intro w'
                                  go_simp
                                  with_reducible rfl
                                rotate_left
                                · simp only [Act.put, List.setIfInBounds_toArray, List.set_cons_zero, List.set_cons_succ, i64_w, i32_w]
                                  rfl
                                refine pure_ (i := 19) (N := some 50) (v := ?_) (a' := ?_) #[true, true, true, true, true, true, true, true, true, true, true, true, true, true, true, true, true, true, true, true, false, false] rfl rfl (any_of HT_.out (by kernel_rfl)) (fun _ _ _ h => h) (Or.inl ⟨by rfl, ?_⟩) ?_ ?_
                                rotate_left
                                · intro w'
                                  go_simp
                                  with_reducible rfl
                                rotate_left
                                · simp only [Act.put, List.setIfInBounds_toArray, List.set_cons_zero, List.set_cons_succ, i64_w, i32_w]
                                  rfl
                                refine pure_ (i := 20) (N := some 51) (v := ?_) (a' := ?_) #[true, true, true, true, true, true, true, true, true, true, true, true, true, true, true, true, true, true, true, true, true, false] rfl rfl (any_of HT_.out (by kernel_rfl)) (fun _ _ _ h => h) (Or.inl ⟨by rfl, ?_⟩) ?_ ?_
                                rotate_left
                                · intro w'
                                  go_simp
                                  with_reducible rfl
                                rotate_left
                                · simp only [Act.put, List.setIfInBounds_toArray, List.set_cons_zero, List.set_cons_succ, i64_w, i32_w]
                                  rfl
                                refine last_ (i := 21) (N := none) #[true, true, true, true, true, true, true, true, true, true, true, true, true, true, true, true, true, true, true, true, true, true] rfl rfl (one_of HT_.out (by kernel_rfl)) (by decide) (fun K hK => ?_)
                                refine skip_ (w1 := ?_) (by rfl) rfl ?_ ?_
                                rotate_left
                                · go_simp
                                  rfl
                                refine hK.out _ _ ?_
                                clear hK K
                                refine done_ (done_of HT_.out (by kernel_rfl)) ?_
                                try go_wp2
                                go_roundg k3
                                case measure => have := HK1.out; have := HK2.out; have := HK3.out; omega
                                case rel => exact ⟨(y134), (wrap64 (x28_3 + 1)), (by first | rfl | (simp; done) | (simp [*]; done)), H', ⟨by have := HK1.out; have := HK2.out; have := HK3.out; omega⟩, ⟨by (with_reducible repeat (first | apply Kd.R_alloc | apply Kd.R_drewN | apply Kd.R_drew)); exact HQ20.out⟩, ⟨by repeat (first | (with_reducible first | exact HB.out | apply below_alloc | apply pw_below_drewN | apply below_drew1 | refine below_set ?_ GB17.out) | exact HB.out)⟩⟩
                              · rw [if_neg c16] at H
                                exact absurd H (by simp)
                            · rw [if_neg c15] at H
                              exact absurd H (by simp)
                          · rw [if_neg c14] at H
                            exact absurd H (by simp)
                        · rw [if_neg c13] at H
                          exact absurd H (by simp)
                      · rw [if_neg c12] at H
                        exact absurd H (by simp)
                    · rw [if_neg c11] at H
                      exact absurd H (by simp)
                  · rw [if_neg c9] at H
                    have c9b0 : decide (x28_3 < (l1.length : Int)) = false := decide_eq_false c9
                    clear c9
                    have H' := Aside0.mk H
                    clear H
                    go_wp2
                    go_loopg [8] k3 (fun kq v8 w' => ∃ (x5_4 : List Int) (x8_4 : Int), v8 = .int .i64 x8_4 ∧ Aside0 (cashbookref10_mul.l3 kq l0 l1 x5_4 x8_4 (l0.length : Int) x23_2 = some r) ∧ Aside0 (kq ≤ k3) ∧ Aside0 (Kd.R (Kd.int .u64) 44 w' w.heap.size (fun _ => True) u5 x5_4) ∧ Aside0 (Below w.heap.size w w'))
                    case atStart => exact ⟨(x5_3), (0), (by first | rfl | (simp; done) | (simp [*]; done)), H', ⟨Nat.le_refl _⟩, ⟨by (with_reducible repeat (first | apply Kd.R_alloc | apply Kd.R_drewN | apply Kd.R_drew)); exact HO_5.out⟩, ⟨by repeat (first | (with_reducible first | exact HB.out | apply below_alloc | apply pw_below_drewN | apply below_drew1) | exact HB.out)⟩⟩
                    case round =>
                      clear H'
                      try clear c1
                      try clear p1
                      try clear q1
                      try clear hx1
                      try clear p2
                      try clear c5
                      try clear c5b0
                      try clear c6
                      try clear p6
                      try clear c8
                      try clear c8b0
                      try clear c9
                      try clear c9b0
                      try clear c11
                      try clear c11b0
                      try clear c12
                      try clear c12b0
                      try clear c13
                      try clear c13b0
                      try clear p13
                      try clear q13
                      try clear hx13
                      try clear c14
                      try clear c14b0
                      try clear c15
                      try clear c15b0
                      try clear c16
                      try clear c16b0
                      try clear p17
                      try clear q17
                      try clear hx17
                      try clear hf17
                      try clear hx131_0
                      try clear hx132_0
                      try clear hx133_0
                      try clear hx17_0
                      try clear p131
                      try clear p132
                      try clear p133
                      try clear p17
                      try clear p2
                      try clear p6
                      try clear q131
                      try clear q132
                      try clear q133
                      try clear q17
                      obtain ⟨x5_4, x8_4, rfl, HA, HK4, HO_5, HB⟩ := hrel
                      cases gk with
                      | zero => exact absurd HA.out (by simp [cashbookref10_mul.l3])
                      | succ k4 =>
                        have H := HA.out
                        clear HA
                        simp only [cashbookref10_mul.l3] at H
                        by_cases c21 : (wrap64 (x8_4 + 1)) < (x5_4.length : Int)
                        · rw [if_pos c21] at H
                          have c21b0 : decide ((wrap64 (x8_4 + 1)) < (x5_4.length : Int)) = true := decide_eq_true c21
                          clear c21
                          obtain ⟨ji22, hji22⟩ : ∃ j_ : Int, (wrap64 (x8_4 + 1)) = j_ := ⟨_, rfl⟩
                          replace H : (if 0 ≤ (ji22) then (if 0 ≤ x8_4 then (if x8_4 < (x5_4.length : Int) then ((some (x5_4.set ((ji22) : Int).toNat (IntKind.u64.wrap ((rd x5_4 (ji22)) + (IntKind.u64.wrap (Int.tdiv (rd x5_4 x8_4) 65536)))) : List Int)).bind fun y137 => (cashbookref10_mul.l3 k4 l0 l1 (y137.set (x8_4 : Int).toNat (Int.tmod (rd y137 x8_4) 65536)) ji22 (l0.length : Int) x23_2)) else (none)) else (none)) else (none)) = some r := by first | (rw [hji22] at H; exact H) | (simp only [hji22] at H ⊢; exact H)
                          (try rw [hji22] at c21b0)
                          have hji22w : (IntKind.i64.wrap (x8_4 + 1)) = ji22 := (i64_w _).trans hji22
                          by_cases c23 : 0 ≤ (ji22)
                          · rw [if_pos c23] at H
                            have c23b0 : decide (0 ≤ (ji22)) = true := decide_eq_true c23
                            clear c23
                            by_cases c24 : 0 ≤ x8_4
                            · rw [if_pos c24] at H
                              have c24b0 : decide (0 ≤ x8_4) = true := decide_eq_true c24
                              clear c24
                              by_cases c25 : x8_4 < (x5_4.length : Int)
                              · rw [if_pos c25] at H
                                have c25b0 : decide (x8_4 < (x5_4.length : Int)) = true := decide_eq_true c25
                                clear c25
                                obtain ⟨y137, hy137⟩ : ∃ y_ : List Int, y_ = (x5_4.set ((ji22) : Int).toNat (IntKind.u64.wrap ((rd x5_4 (ji22)) + (IntKind.u64.wrap (Int.tdiv (rd x5_4 x8_4) 65536))))) := ⟨_, rfl⟩
                                replace H : (cashbookref10_mul.l3 k4 l0 l1 (y137.set (x8_4 : Int).toNat (Int.tmod (rd y137 x8_4) 65536)) ji22 (l0.length : Int) x23_2) = some r := by first | (rw [hy137]; with_reducible exact H) | (have H2_ := (Option.bind_some _ _).symm.trans H; rw [hy137]; with_reducible exact H2_) | (have H2_ := (Option.bind_some _ _).symm.trans H; with_reducible exact H2_) | with_reducible exact H | (rw [hy137]; exact H) | exact H
                                have Ny137 := Aside0.mk hy137
                                clear hy137
                                obtain ⟨y139, hy139⟩ : ∃ y_ : List Int, y_ = (y137.set (x8_4 : Int).toNat (Int.tmod (rd y137 x8_4) 65536)) := ⟨_, rfl⟩
                                replace H : (cashbookref10_mul.l3 k4 l0 l1 y139 ji22 (l0.length : Int) x23_2) = some r := by first | (rw [hy139]; with_reducible exact H) | (have H2_ := (Option.bind_some _ _).symm.trans H; rw [hy139]; with_reducible exact H2_) | (have H2_ := (Option.bind_some _ _).symm.trans H; with_reducible exact H2_) | with_reducible exact H | (rw [hy139]; exact H) | exact H
                                have Ny139 := Aside0.mk hy139
                                clear hy139
                                have H' := Aside0.mk H
                                clear H
                                obtain ⟨Ao28, co28, eo28⟩ := Kd.R_slice HO_5.out
                                subst eo28
                                try go_wp2
                                have n0_ := Aside0.mk (Kd.R_drew HO_5.out)
                                have n1_ := Aside0.mk (below_drew1 HB.out)
                                clear HO_5
                                clear HB
                                have HO_5 := n0_
                                have HB := n1_
                                clear n0_ n1_
                                have p135 : 0 ≤ ((ji22) : Int) := of_decide_eq_true (by first | (with_reducible assumption) | assumption)
                                have q135 : (ji22) < (x5_4.length : Int) := of_decide_eq_true (by first | (with_reducible assumption) | assumption)
                                obtain ⟨ad135, e135, hx135_0⟩ := Kd.at_int (Kd.R_reads' HO_5.out).2.2 (ji22) p135 q135
                                cases e135
                                replace p135 := eq_true p135
                                replace q135 := eq_true q135
                                have p136 : 0 ≤ (x8_4 : Int) := of_decide_eq_true (by first | (with_reducible assumption) | assumption)
                                have q136 : x8_4 < (x5_4.length : Int) := of_decide_eq_true (by first | (with_reducible assumption) | assumption)
                                obtain ⟨ad136, e136, hx136_0⟩ := Kd.at_int (Kd.R_reads' HO_5.out).2.2 x8_4 p136 q136
                                obtain rfl : ad135 = ad136 := (by injection e136)
                                replace p136 := eq_true p136
                                replace q136 := eq_true q136
                                have p26 : 0 ≤ ((ji22) : Int) := of_decide_eq_true (by first | (with_reducible assumption) | assumption)
                                have q26 : ((ji22) : Int) < ((x5_4.length : Int) : Int) := of_decide_eq_true (by first | (with_reducible assumption) | assumption)
                                obtain ⟨go26, co26, eo26, gb26, gl26, cl26, HG26⟩ := Kd.R_form HO_5.out (by omega)
                                (first | cases eo26 | (injection eo26 with ea_ en_ ec_; (first | subst ea_ | (injection ea_ with ea_; subst ea_)); subst ec_; clear en_))
                                have GB26 := Aside0.mk gb26
                                have GG26 := Aside0.mk HG26
                                clear gb26 gl26 HG26
                                (first | simp only [add_plain] at hx135_0 | skip)
                                (first | simp only [add_plain] at hx136_0 | skip)
                                obtain ⟨hx26_0, hf26_0⟩ := Kd.R_celln 0 HO_5.out ((ji22) : Int) p26 q26
                                replace p26 := eq_true p26
                                replace q26 := eq_true q26
                                have HP30 := Kd.R_putn HO_5.out ((ji22) : Int) (IntKind.u64.wrap ((rd x5_4 (ji22)) + (IntKind.u64.wrap (Int.tdiv (rd x5_4 x8_4) 65536))))
                                rw [← Ny137.out] at HP30
                                have HQ30 := Aside0.mk HP30
                                clear HP30
                                refine start_ (n := 16) (S := fun w' => w'.cell? ⟨go26, ((ji22)).toNat, none⟩ = some (.int .u64 (rd x5_4 (ji22))) ∧ w'.cell? ⟨go26, (x8_4).toNat, none⟩ = some (.int .u64 (rd x5_4 x8_4))) (ds := [15]) #[false, false, false, false, false, false, false, false, false, false, false, false, false, false, false, false] (by kernel_rfl) rfl rfl ⟨hx135_0, hx136_0⟩ (fun hHeld => ?_); refine with_tabW cashbookref10_mul.tab17 cashbookref10_mul.bits17 (fun HT_ HW_ => ?_)
                                generalize wr.drew = w29 at HO_5 HB GG26 HQ30 hf26_0 hx135_0 hx136_0 hx26_0 hHeld ⊢
                                refine pure_ (i := 0) (N := some 60) (v := ?_) (a' := ?_) #[true, false, false, false, false, false, false, false, false, false, false, false, false, false, false, false] rfl rfl (any_of HT_.out (by kernel_rfl)) (fun _ _ _ h => h) (Or.inl ⟨by rfl, ?_⟩) ?_ ?_
                                rotate_left
                                · intro w'
                                  go_simp
                                  with_reducible rfl
                                rotate_left
                                · simp only [Act.put, List.setIfInBounds_toArray, List.set_cons_zero, List.set_cons_succ, i64_w, i32_w]
                                  rfl
                                refine pure_ (i := 1) (N := some 61) (v := ?_) (a' := ?_) #[true, true, false, false, false, false, false, false, false, false, false, false, false, false, false, false] rfl rfl (any_of HT_.out (by kernel_rfl)) (fun _ _ _ h => h) (Or.inl ⟨by rfl, ?_⟩) ?_ ?_
                                rotate_left
                                · intro w'
                                  go_simp
                                  with_reducible rfl
                                rotate_left
                                · simp only [Act.put, List.setIfInBounds_toArray, List.set_cons_zero, List.set_cons_succ, i64_w, i32_w]
                                  rfl
                                refine pure_ (i := 2) (N := some 62) (v := ?_) (a' := ?_) #[true, true, true, false, false, false, false, false, false, false, false, false, false, false, false, false] rfl rfl (any_of HT_.out (by kernel_rfl)) (fun _ _ _ h => h) (Or.inl ⟨by rfl, ?_⟩) ?_ ?_
                                rotate_left
                                · intro w'
                                  go_simp
                                  with_reducible rfl
                                rotate_left
                                · simp only [Act.put, List.setIfInBounds_toArray, List.set_cons_zero, List.set_cons_succ, i64_w, i32_w]
                                  rfl
                                refine pure_ (i := 3) (N := some 63) (v := ?_) (a' := ?_) #[true, true, true, true, false, false, false, false, false, false, false, false, false, false, false, false] rfl rfl (any_of HT_.out (by kernel_rfl)) (fun _ _ _ h => h) (Or.inl ⟨by rfl, ?_⟩) ?_ ?_
                                rotate_left
                                · intro w'
                                  go_simp
                                  with_reducible rfl
                                rotate_left
                                · simp only [Act.put, List.setIfInBounds_toArray, List.set_cons_zero, List.set_cons_succ, i64_w, i32_w]
                                  rfl
                                refine pure_ (i := 4) (N := some 64) (v := ?_) (a' := ?_) #[true, true, true, true, true, false, false, false, false, false, false, false, false, false, false, false] rfl rfl (any_of HT_.out (by kernel_rfl)) (fun _ _ _ h => h) (Or.inl ⟨by rfl, ?_⟩) ?_ ?_
                                rotate_left
                                · intro w'
                                  go_simp
                                  with_reducible rfl
                                rotate_left
                                · simp only [Act.put, List.setIfInBounds_toArray, List.set_cons_zero, List.set_cons_succ, i64_w, i32_w]
                                  rfl
                                refine pure_ (i := 5) (N := some 65) (v := ?_) (a' := ?_) #[true, true, true, true, true, true, false, false, false, false, false, false, false, false, false, false] rfl rfl (any_of HT_.out (by kernel_rfl)) (fun _ _ _ h => h) (Or.inl ⟨by rfl, ?_⟩) ?_ ?_
                                rotate_left
                                · intro w'
                                  go_simp
                                  with_reducible rfl
                                rotate_left
                                · simp only [Act.put, List.setIfInBounds_toArray, List.set_cons_zero, List.set_cons_succ, i64_w, i32_w]
                                  rfl
                                refine pure_ (i := 6) (N := some 66) (v := ?_) (a' := ?_) #[true, true, true, true, true, true, true, false, false, false, false, false, false, false, false, false] rfl rfl (any_of HT_.out (by kernel_rfl)) (fun _ _ _ h => h) (Or.inl ⟨by rfl, ?_⟩) ?_ ?_
                                rotate_left
                                · intro w'
                                  go_simp
                                  with_reducible rfl
                                rotate_left
                                · simp only [Act.put, List.setIfInBounds_toArray, List.set_cons_zero, List.set_cons_succ, i64_w, i32_w]
                                  rfl
                                refine pure_ (i := 8) (N := some 68) (v := ?_) (a' := ?_) #[true, true, true, true, true, true, true, false, true, false, false, false, false, false, false, false] rfl rfl (any_of HT_.out (by kernel_rfl)) (fun _ _ _ h => h) (Or.inl ⟨by rfl, ?_⟩) ?_ ?_
                                rotate_left
                                · intro w'
                                  go_simp
                                  with_reducible rfl
                                rotate_left
                                · simp only [Act.put, List.setIfInBounds_toArray, List.set_cons_zero, List.set_cons_succ, i64_w, i32_w]
                                  rfl
                                refine pure_ (i := 9) (N := some 69) (v := ?_) (a' := ?_) #[true, true, true, true, true, true, true, false, true, true, false, false, false, false, false, false] rfl rfl (any_of HT_.out (by kernel_rfl)) (fun _ _ _ h => h) (Or.inl ⟨by rfl, ?_⟩) ?_ ?_
                                rotate_left
                                · intro w'
                                  go_simp
                                  with_reducible rfl
                                rotate_left
                                · simp only [Act.put, List.setIfInBounds_toArray, List.set_cons_zero, List.set_cons_succ, i64_w, i32_w]
                                  rfl
                                refine pure_ (i := 10) (N := some 70) (v := ?_) (a' := ?_) #[true, true, true, true, true, true, true, false, true, true, true, false, false, false, false, false] rfl rfl (any_of HT_.out (by kernel_rfl)) (fun _ _ _ h => h) (Or.inl ⟨by rfl, ?_⟩) ?_ ?_
                                rotate_left
                                · intro w'
                                  go_simp
                                  with_reducible rfl
                                rotate_left
                                · simp only [Act.put, List.setIfInBounds_toArray, List.set_cons_zero, List.set_cons_succ, i64_w, i32_w]
                                  rfl
                                refine take_ (i := 7) (N := some 67) (v := ?_) (a' := ?_) #[true, true, true, true, true, true, true, true, true, true, true, false, false, false, false, false] rfl rfl (take_ofW HT_.out HW_.out (by kernel_rfl)) (fun _ _ _ h => h) (Or.inl ⟨by rfl, ?_⟩) hHeld ?_ ?_
                                rotate_left
                                · rintro w' ⟨s0, s1⟩
                                  go_simp
                                  with_reducible rfl
                                rotate_left
                                · simp only [Act.put, List.setIfInBounds_toArray, List.set_cons_zero, List.set_cons_succ, i64_w, i32_w]
                                  rfl
                                refine take_ (i := 11) (N := some 71) (v := ?_) (a' := ?_) #[true, true, true, true, true, true, true, true, true, true, true, true, false, false, false, false] rfl rfl (take_ofW HT_.out HW_.out (by kernel_rfl)) (fun _ _ _ h => h) (Or.inl ⟨by rfl, ?_⟩) hHeld ?_ ?_
                                rotate_left
                                · rintro w' ⟨s0, s1⟩
                                  go_simp
                                  with_reducible rfl
                                rotate_left
                                · simp only [Act.put, List.setIfInBounds_toArray, List.set_cons_zero, List.set_cons_succ, i64_w, i32_w]
                                  rfl
                                refine pure_ (i := 12) (N := some 72) (v := ?_) (a' := ?_) #[true, true, true, true, true, true, true, true, true, true, true, true, true, false, false, false] rfl rfl (any_of HT_.out (by kernel_rfl)) (fun _ _ _ h => h) (Or.inl ⟨by rfl, ?_⟩) ?_ ?_
                                rotate_left
                                · intro w'
                                  go_simp
                                  with_reducible rfl
                                rotate_left
                                · simp only [Act.put, List.setIfInBounds_toArray, List.set_cons_zero, List.set_cons_succ, i64_w, i32_w]
                                  rfl
                                refine pure_ (i := 13) (N := some 73) (v := ?_) (a' := ?_) #[true, true, true, true, true, true, true, true, true, true, true, true, true, true, false, false] rfl rfl (any_of HT_.out (by kernel_rfl)) (fun _ _ _ h => h) (Or.inl ⟨by rfl, ?_⟩) ?_ ?_
                                rotate_left
                                · intro w'
                                  go_simp
                                  with_reducible rfl
                                rotate_left
                                · simp only [Act.put, List.setIfInBounds_toArray, List.set_cons_zero, List.set_cons_succ, i64_w, i32_w]
                                  rfl
                                refine pure_ (i := 14) (N := some 74) (v := ?_) (a' := ?_) #[true, true, true, true, true, true, true, true, true, true, true, true, true, true, true, false] rfl rfl (any_of HT_.out (by kernel_rfl)) (fun _ _ _ h => h) (Or.inl ⟨by rfl, ?_⟩) ?_ ?_
                                rotate_left
                                · intro w'
                                  go_simp
                                  with_reducible rfl
                                rotate_left
                                · simp only [Act.put, List.setIfInBounds_toArray, List.set_cons_zero, List.set_cons_succ, i64_w, i32_w]
                                  rfl
                                refine last_ (i := 15) (N := none) #[true, true, true, true, true, true, true, true, true, true, true, true, true, true, true, true] rfl rfl (one_of HT_.out (by kernel_rfl)) (by decide) (fun K hK => ?_)
                                refine skip_ (w1 := ?_) (by rfl) rfl ?_ ?_
                                rotate_left
                                · go_simp
                                  rfl
                                refine hK.out _ _ ?_
                                clear hK K
                                refine done_ (done_of HT_.out (by kernel_rfl)) ?_
                                have n0_ : Aside0 (Kd.R (Kd.int .u64) 44 (w29.setCell ⟨go26, ((ji22) : Int).toNat, none⟩ (.int .u64 (IntKind.u64.wrap ((rd x5_4 (ji22)) + (IntKind.u64.wrap (Int.tdiv (rd x5_4 x8_4) 65536)))))) w.heap.size (fun _ => True) (.slice (some ⟨go26, 0, none⟩) x5_4.length co28) y137) := ⟨by (with_reducible repeat (first | apply Kd.R_alloc | apply Kd.R_drewN | apply Kd.R_drew)); exact HQ30.out⟩
                                have n1_ : Aside0 (Below w.heap.size w (w29.setCell ⟨go26, ((ji22) : Int).toNat, none⟩ (.int .u64 (IntKind.u64.wrap ((rd x5_4 (ji22)) + (IntKind.u64.wrap (Int.tdiv (rd x5_4 x8_4) 65536))))))) := ⟨by repeat (first | (with_reducible first | exact HB.out | apply below_alloc | apply pw_below_drewN | apply below_drew1 | refine below_set ?_ GB26.out) | exact HB.out)⟩
                                (try clear HO_5)
                                (try clear HB)
                                generalize (w29.setCell ⟨go26, ((ji22) : Int).toNat, none⟩ (.int .u64 (IntKind.u64.wrap ((rd x5_4 (ji22)) + (IntKind.u64.wrap (Int.tdiv (rd x5_4 x8_4) 65536)))))) = w31 at n0_ n1_ ⊢
                                have HO_5 := n0_
                                have HB := n1_
                                clear n0_ n1_
                                have p138 : 0 ≤ (x8_4 : Int) := of_decide_eq_true (by first | (with_reducible assumption) | assumption)
                                have q138 : x8_4 < (y137.length : Int) := (by have h_ : (x8_4 : Int) < ((x5_4.length : Int) : Int) := of_decide_eq_true (by first | (with_reducible assumption) | assumption); first | (have e_ := (Kd.R_reads' HO_5.out).1; omega) | simpa only [Ny137.out, List.length_set] using h_)
                                have ql138 : ((x8_4 : Int) < ((x5_4.length : Int) : Int)) = True := eq_true (of_decide_eq_true (by first | (with_reducible assumption) | assumption))
                                obtain ⟨ad138, e138, hx138_0⟩ := Kd.at_int (Kd.R_reads' HO_5.out).2.2 x8_4 p138 q138
                                obtain rfl : (⟨go26, 0, none⟩ : Addr) = ad138 := (by injection e138)
                                (first | simp only [add_plain] at hx138_0 | simp only [add_at] at hx138_0 | simp only [Addr.add, Nat.zero_add] at hx138_0 | skip)
                                replace p138 := eq_true p138
                                replace q138 := eq_true q138
                                have p27 : 0 ≤ (x8_4 : Int) := of_decide_eq_true (by first | (with_reducible assumption) | assumption)
                                have q27 : (x8_4 : Int) < ((x5_4.length : Int) : Int) := of_decide_eq_true (by first | (with_reducible assumption) | assumption)
                                obtain ⟨hx27_0, hf27_0⟩ := Kd.R_celln 0 HO_5.out (x8_4 : Int) p27 q27
                                replace p27 := eq_true p27
                                replace q27 := eq_true q27
                                obtain ⟨hy32_, hz32_⟩ := Kd.R_celln 0 HO_5.out (x8_4 : Int) (of_decide_eq_true (by first | (with_reducible assumption) | assumption)) (of_decide_eq_true (by first | (with_reducible assumption) | assumption))
                                have HP32 := Kd.R_putg HO_5.out (x8_4 : Int) (Int.tmod (rd y137 x8_4) 65536)
                                try go_wp2_with (first | ((with_reducible refine gate_store (t := 44) (p := 82) rfl ?_); refine store_event (t := 44) (p := 82) (v := ?vo_w33) (w1 := (w31.setCell ⟨go26, (x8_4 : Int).toNat, none⟩ (.int .u64 (Int.tmod (rd y137 x8_4) 65536)))) ?hg ?ho ?hn ?hr ?_; (case ho => rfl); (case hg => rfl); (case hn => rfl); (case hr => first | (go_simp; done) | (go_simp; rfl)); intro w33 hw; have hg : w31.grownBy w33 (some go26) := (by rw [hw]; exact HP32.2); have hp_ : Kd.R (Kd.int .u64) 44 w33 w.heap.size (fun _ => True) (.slice (some ⟨go26, 0, none⟩) x5_4.length co28) y139 := (by rw [hw, Ny139.out]; exact HP32.1); clear HP32; have n0_ := Aside0.mk (hp_); have n1_ := Aside0.mk ((by rw [hw]; exact below_set (HB.out) GB26.out : Below w.heap.size w w33)); clear HO_5; clear HB; have HO_5 := n0_; have HB := n1_; clear n0_ n1_; clear hg hw hp_))
                                go_roundg k4
                                case measure => have := HK1.out; have := HK2.out; have := HK3.out; have := HK4.out; omega
                                case rel => exact ⟨(y139), (ji22), (by first | rfl | (simp; done) | (simp only [← hji22] <;> (first | rfl | simp)) | (simp [*]; done)), H', ⟨by have := HK1.out; have := HK2.out; have := HK3.out; have := HK4.out; omega⟩, ⟨by (with_reducible repeat (first | apply Kd.R_alloc | apply Kd.R_drewN | apply Kd.R_drew)); exact HO_5.out⟩, ⟨by repeat (first | (with_reducible first | exact HB.out | apply below_alloc | apply pw_below_drewN | apply below_drew1) | exact HB.out)⟩⟩
                              · rw [if_neg c25] at H
                                exact absurd H (by simp)
                            · rw [if_neg c24] at H
                              exact absurd H (by simp)
                          · rw [if_neg c23] at H
                            exact absurd H (by simp)
                        · rw [if_neg c21] at H
                          have c21b0 : decide ((wrap64 (x8_4 + 1)) < (x5_4.length : Int)) = false := decide_eq_false c21
                          clear c21
                          have H' := Aside0.mk H
                          clear H
                          obtain ⟨Ao34, co34, eo34⟩ := Kd.R_slice HO_5.out
                          subst eo34
                          go_wp2
                          go_roundg k4
                          case measure => have := HK1.out; have := HK2.out; have := HK3.out; have := HK4.out; omega
                          case rel => exact ⟨(x5_4), (wrap64 (x23_2 + 1)), (by first | rfl | (simp; done) | (simp [*]; done)), H', ⟨by have := HK1.out; have := HK2.out; have := HK3.out; have := HK4.out; omega⟩, ⟨by (with_reducible repeat (first | apply Kd.R_alloc | apply Kd.R_drewN | apply Kd.R_drew)); exact HO_5.out⟩, ⟨by repeat (first | (with_reducible first | exact HB.out | apply below_alloc | apply pw_below_drewN | apply below_drew1) | exact HB.out)⟩⟩
            · rw [if_neg c8] at H
              have c8b0 : decide (x23_2 < (l0.length : Int)) = false := decide_eq_false c8
              clear c8
              obtain rfl := Option.some.inj H
              go_wp2
              go_ret
              exact ⟨_, by first | rfl | (simp [errW_none, errW_some] <;> rfl) | (simp [*, errW_none, errW_some] <;> rfl), by (with_reducible repeat (first | apply Kd.R_alloc | apply Kd.R_drewN | apply Kd.R_drew)); exact HO_5.out, by repeat (first | (with_reducible first | exact HB.out | apply below_alloc | apply pw_below_drewN | apply below_drew1) | exact HB.out)⟩

def cashbookref10_at.f (l0 : List Int) (a1 : Int) : Option (Int) := if a1 < (l0.length : Int) then (if 0 ≤ a1 then (some (rd l0 a1)) else (none)) else (some 0)
set_option maxHeartbeats 8000000 in
set_option maxRecDepth 100000 in
theorem cashbookref10_at.calls (A0 : Option Addr) (c0 : Nat) (l0 : List Int) (a1 : Int) (r : Int) (w : World) (hr0 : Kd.C (Kd.int .u64) w A0 l0.length l0) (hc0 : l0.length ≤ c0) (h : cashbookref10_at.f l0 a1 = some r) :
    Calls Tryd.prog 101 #[.slice A0 l0.length c0, .int .i64 a1] w fun e w' => e = .returned (.int .u64 r) ∧ Drawn0 w w' := by
  have HR0 := Aside0.mk hr0
  have HC0 := Aside0.mk hc0
  clear hr0 hc0
  have H : (if a1 < (l0.length : Int) then (if 0 ≤ a1 then (some (rd l0 a1)) else (none)) else (some 0)) = some r := h
  clear h
  by_cases c3 : a1 < (l0.length : Int)
  · rw [if_pos c3] at H
    have c3b0 : decide (a1 < (l0.length : Int)) = true := decide_eq_true c3
    clear c3
    by_cases c4 : 0 ≤ a1
    · rw [if_pos c4] at H
      have c4b0 : decide (0 ≤ a1) = true := decide_eq_true c4
      clear c4
      obtain rfl := Option.some.inj H
      have p140 : 0 ≤ (a1 : Int) := of_decide_eq_true (by first | (with_reducible assumption) | assumption)
      have q140 : a1 < (l0.length : Int) := of_decide_eq_true (by first | (with_reducible assumption) | assumption)
      obtain ⟨ad140, e140, hx140_0⟩ := Kd.at_int HR0.out a1 p140 q140
      cases e140
      replace p140 := eq_true p140
      replace q140 := eq_true q140
      go_enter Tryd.func101, Tryd.ntmps101
      go_wp2
      go_ret
      exact ⟨by first | rfl | (simp; done) | (simp [*]; done), by repeat (first | exact Drawn0.refl _ | apply Drawn0.step)⟩
    · rw [if_neg c4] at H
      exact absurd H (by simp)
  · rw [if_neg c3] at H
    have c3b0 : decide (a1 < (l0.length : Int)) = false := decide_eq_false c3
    clear c3
    obtain rfl := Option.some.inj H
    go_enter Tryd.func101, Tryd.ntmps101
    go_wp2
    go_ret
    exact ⟨by first | rfl | (simp; done) | (simp [*]; done), by repeat (first | exact Drawn0.refl _ | apply Drawn0.step)⟩

end Go.Proofs.YtldpnmebjnkjeaaDoor.PH1
namespace Go.Proofs.YtldpnmebjnkjeaaDoor.Ref10
open Go.RowKit Go.Proofs.YtldpnmebjnkjeaaDoorW.PrintWords Go.Proofs.YtldpnmebjnkjeaaDoor.PH1
set_option linter.unusedVariables false
set_option linter.unusedSimpArgs false

def cz (l : List Nat) : List Int := l.map fun n : Nat => (n : Int)
def valN : List Nat → Nat
  | [] => 0
  | a :: l => a + 65536 * valN l
def digs : Nat → Nat → List Nat
  | 0, _ => []
  | n + 1, x => x % 65536 :: digs n (x / 65536)
def carryN : Nat → List Nat → List Nat
  | _, [] => []
  | c, [a] => [a + c]
  | c, a :: b :: l => ((a + c) % 65536) :: carryN ((a + c) / 65536) (b :: l)
def addB (x : Nat) : List Nat → List Nat → List Nat
  | [], R => R
  | _ :: _, [] => []
  | y :: B, r :: R => (r + x * y) :: addB x B R
theorem cz_len (l : List Nat) : (cz l).length = l.length := by simp [cz]
theorem cz_rd (l : List Nat) (i : Nat) : rd (cz l) (i : Int) = ((l.getD i 0 : Nat) : Int) := by
  unfold rd cz
  rw [Int.toNat_natCast, List.getD_eq_getElem?_getD, List.getD_eq_getElem?_getD, List.getElem?_map]
  cases l[i]? <;> rfl
theorem cz_set (l : List Nat) (i n : Nat) : (cz l).set i (n : Int) = cz (l.set i n) := by
  unfold cz; rw [List.map_set]
theorem u64_nat (n : Nat) (h : n < 18446744073709551616) : IntKind.u64.wrap (n : Int) = (n : Int) := by
  simp [IntKind.wrap, IntKind.bits, IntKind.signed]; omega
theorem w64_nat (n : Nat) (h : n < 9223372036854775807) : wrap64 (n : Int) = (n : Int) := Go.IntWalk.wrap64_in _ ⟨by omega, by omega⟩
theorem getD_mid (P : List Nat) (a : Nat) (Q : List Nat) : (P ++ a :: Q).getD P.length 0 = a := by
  rw [List.getD_eq_getElem?_getD, List.getElem?_append_right (Nat.le_refl _), Nat.sub_self]; rfl
theorem getD_mid1 (P : List Nat) (a b : Nat) (Q : List Nat) : (P ++ a :: b :: Q).getD (P.length + 1) 0 = b := by
  rw [List.getD_eq_getElem?_getD, List.getElem?_append_right (by omega), show P.length + 1 - P.length = 1 by omega]; rfl
theorem set_mid (P : List Nat) (a x : Nat) (Q : List Nat) : (P ++ a :: Q).set P.length x = P ++ x :: Q := by
  rw [List.set_append_right _ _ (Nat.le_refl _), Nat.sub_self]; rfl
theorem set_mid1 (P : List Nat) (a b x : Nat) (Q : List Nat) : (P ++ a :: b :: Q).set (P.length + 1) x = P ++ a :: x :: Q := by
  rw [List.set_append_right _ _ (by omega), show P.length + 1 - P.length = 1 by omega]; rfl
theorem digs_len : ∀ n x, (digs n x).length = n
  | 0, _ => rfl
  | n + 1, x => by rw [digs, List.length_cons, digs_len n]
theorem addB_len (x : Nat) : ∀ B R : List Nat, B.length ≤ R.length → (addB x B R).length = R.length
  | [], _, _ => rfl
  | _ :: _, [], h => by simp at h
  | y :: B, r :: R, h => by rw [addB, List.length_cons, addB_len x B R (by simpa using h)]; rfl
theorem addB_val (x : Nat) : ∀ B R : List Nat, B.length ≤ R.length → valN (addB x B R) = valN R + x * valN B
  | [], R, _ => by simp [addB, valN]
  | _ :: _, [], h => by simp at h
  | y :: B, r :: R, h => by
    rw [addB, valN, addB_val x B R (by simpa using h), valN, valN, Nat.mul_add, Nat.mul_add]
    rw [Nat.mul_left_comm x 65536]
    omega
theorem valN_app : ∀ P R : List Nat, valN (P ++ R) = valN P + 65536 ^ P.length * valN R
  | [], R => by simp [valN]
  | a :: P, R => by
    show a + 65536 * valN (P ++ R) = a + 65536 * valN P + 65536 ^ (P.length + 1) * valN R
    rw [valN_app P R, Nat.mul_add, Nat.pow_succ, Nat.mul_comm (65536 ^ P.length) 65536, Nat.mul_assoc]
    omega
theorem digs_val : ∀ n x, x < 65536 ^ n → valN (digs n x) = x
  | 0, x, h => by simp at h; subst h; rfl
  | n + 1, x, h => by
    rw [Nat.pow_succ] at h
    rw [digs, valN, digs_val n (x / 65536) (by omega)]
    omega
theorem carryN_digs : ∀ (l : List Nat) (c : Nat), l ≠ [] → c + valN l < 65536 ^ l.length → carryN c l = digs l.length (c + valN l)
  | [], _, h, _ => absurd rfl h
  | [a], c, _, h => by
    simp [valN] at h
    show [a + c] = digs 1 (c + (a + 65536 * 0))
    show [a + c] = [(c + (a + 65536 * 0)) % 65536]
    congr 1; omega
  | a :: b :: l, c, _, h => by
    have e : (c + valN (a :: b :: l)) / 65536 = (a + c) / 65536 + valN (b :: l) := by
      show (c + (a + 65536 * valN (b :: l))) / 65536 = _
      omega
    have e2 : (c + valN (a :: b :: l)) % 65536 = (a + c) % 65536 := by
      show (c + (a + 65536 * valN (b :: l))) % 65536 = _
      omega
    have hb : (a + c) / 65536 + valN (b :: l) < 65536 ^ (b :: l).length := by
      rw [← e]
      have : 65536 ^ (a :: b :: l).length = 65536 ^ (b :: l).length * 65536 := Nat.pow_succ ..
      rw [this] at h
      omega
    rw [carryN, carryN_digs (b :: l) _ (by simp) hb]
    show _ = (c + valN (a :: b :: l)) % 65536 :: digs (b :: l).length ((c + valN (a :: b :: l)) / 65536)
    rw [e, e2]
/-- The carries. -/
theorem l3_run (x0 x1 : List Int) (x22 x23 : Int) (k : Nat) : ∀ (Q P : List Nat) (a c : Nat), a + c < 1099511627776 → (∀ q ∈ Q, q < 549755813888) → P.length + Q.length ≤ 1000 →
    cashbookref10_mul.l3 (Q.length + 1 + k) x0 x1 (cz (P ++ (a + c) :: Q)) (P.length : Int) x22 x23 = cashbookref10_mul.l1 k x0 x1 (cz (P ++ carryN c (a :: Q))) x22 (wrap64 (x23 + 1))
  | [], P, a, c, ha, hq, hl => by
    rw [show ([] : List Nat).length + 1 + k = k + 1 by simp; omega, cashbookref10_mul.l3]
    rw [show (P.length : Int) + 1 = ((P.length + 1 : Nat) : Int) by omega, w64_nat _ (by omega), cz_len, if_neg (by simp)]
    rfl
  | b :: Q, P, a, c, ha, hq, hl => by
    have hb := hq b (by simp)
    have ih := l3_run x0 x1 x22 x23 k Q (P ++ [(a + c) % 65536]) b ((a + c) / 65536) (by omega) (fun q h => hq q (by simp [h])) (by simp at hl ⊢; omega)
    simp only [List.length_cons] at hl
    rw [show (b :: Q).length + 1 + k = (Q.length + 1 + k) + 1 by simp; omega, cashbookref10_mul.l3]
    rw [show (P.length : Int) + 1 = ((P.length + 1 : Nat) : Int) by omega, w64_nat _ (by omega), cz_len]
    rw [if_pos (by simp; omega), if_pos (by omega), if_pos (by omega), if_pos (by simp; omega)]
    rw [cz_rd, cz_rd, getD_mid, getD_mid1, Int.toNat_natCast, Int.toNat_natCast]
    rw [show Int.tdiv ((a + c : Nat) : Int) 65536 = (((a + c) / 65536 : Nat) : Int) by rw [Int.tdiv_eq_ediv_of_nonneg (by omega)]; omega]
    rw [u64_nat _ (by omega), show (b : Int) + (((a + c) / 65536 : Nat) : Int) = ((b + (a + c) / 65536 : Nat) : Int) by omega, u64_nat _ (by omega)]
    rw [cz_set, set_mid1, Option.bind_some, cz_rd, getD_mid]
    rw [show Int.tmod ((a + c : Nat) : Int) 65536 = (((a + c) % 65536 : Nat) : Int) by rw [Int.tmod_eq_emod_of_nonneg (by omega)]; omega]
    rw [cz_set, set_mid]
    have e : P ++ (a + c) % 65536 :: (b + (a + c) / 65536) :: Q = (P ++ [(a + c) % 65536]) ++ (b + (a + c) / 65536) :: Q := by simp
    rw [e, show ((P.length + 1 : Nat) : Int) = ((P ++ [(a + c) % 65536]).length : Int) by simp]
    rw [ih]
    simp [carryN]
/-- The products of one limb. -/
theorem l2_run (A : List Nat) (i ai : Nat) (hi : i < A.length) (hai : A.getD i 0 = ai) (ha : ai < 65536) (hA : A.length ≤ 100) (x22 x23 : Int) (k : Nat) : ∀ (B2 B1 P R : List Nat), P.length = i + B1.length → B2.length ≤ R.length → (∀ y ∈ B2, y < 65536) → (∀ r ∈ R, r < 65536) → B1.length + B2.length ≤ 100 → P.length + R.length ≤ 1000 →
    cashbookref10_mul.l2 (B2.length + 1 + k) (cz A) (cz (B1 ++ B2)) (cz (P ++ R)) (i : Int) x22 x23 ((B1 ++ B2).length : Int) (B1.length : Int) = cashbookref10_mul.l3 k (cz A) (cz (B1 ++ B2)) (cz (P ++ addB ai B2 R)) 0 x22 x23
  | [], B1, P, R, hP, hR, hy, hr, hl, hn => by
    rw [show ([] : List Nat).length + 1 + k = k + 1 by simp; omega, cashbookref10_mul.l2, if_neg (by simp)]
    rfl
  | y :: B2, B1, P, [], hP, hR, hy, hr, hl, hn => by simp at hR
  | y :: B2, B1, P, r :: R, hP, hR, hy, hr, hl, hn => by
    have h1 := hy y (by simp)
    have h2 := hr r (by simp)
    have hm : ai * y ≤ 65535 * 65535 := Nat.mul_le_mul (by omega) (by omega)
    simp only [List.length_cons] at hR hl hn
    have ih := l2_run A i ai hi hai ha hA x22 x23 k B2 (B1 ++ [y]) (P ++ [r + ai * y]) R (by simp; omega) (by omega) (fun z h => hy z (by simp [h])) (fun z h => hr z (by simp [h])) (by simp; omega) (by simp; omega)
    rw [show (y :: B2).length + 1 + k = (B2.length + 1 + k) + 1 by simp; omega, cashbookref10_mul.l2]
    rw [if_pos (by simp; omega), show (i : Int) + (B1.length : Int) = ((i + B1.length : Nat) : Int) by omega, w64_nat _ (by omega), cz_len, cz_len, cz_len]
    rw [if_pos (by omega), if_pos (by simp; omega), if_pos (by omega), if_pos (by omega), if_pos (by omega), if_pos (by simp; omega)]
    rw [cz_rd, cz_rd, cz_rd, hai, getD_mid, ← hP, getD_mid, Int.toNat_natCast]
    rw [show (ai : Int) * (y : Int) = ((ai * y : Nat) : Int) by push_cast; rfl, u64_nat _ (by omega), show (r : Int) + ((ai * y : Nat) : Int) = ((r + ai * y : Nat) : Int) by omega, u64_nat _ (by omega)]
    rw [cz_set, set_mid, show (B1.length : Int) + 1 = ((B1.length + 1 : Nat) : Int) by omega, w64_nat _ (by omega)]
    have e1 : P ++ (r + ai * y) :: R = (P ++ [r + ai * y]) ++ R := by simp
    have e2 : B1 ++ y :: B2 = (B1 ++ [y]) ++ B2 := by simp
    rw [e1, e2, show ((B1.length + 1 : Nat) : Int) = ((B1 ++ [y]).length : Int) by simp, ih]
    simp [addB]
theorem valN_lt : ∀ l : List Nat, (∀ a ∈ l, a < 65536) → valN l < 65536 ^ l.length
  | [], _ => by simp [valN]
  | a :: l, h => by
    have h1 := h a (by simp)
    have h2 := valN_lt l (fun z hz => h z (by simp [hz]))
    rw [valN, List.length_cons, Nat.pow_succ]
    omega
theorem digs_lt : ∀ n x, ∀ a ∈ digs n x, a < 65536
  | 0, _, a, h => by simp [digs] at h
  | n + 1, x, a, h => by
    rw [digs] at h
    rcases List.mem_cons.1 h with h | h
    · omega
    · exact digs_lt n _ a h
theorem addB_bd (x : Nat) (hx : x < 65536) : ∀ B R : List Nat, (∀ y ∈ B, y < 65536) → (∀ r ∈ R, r < 65536) → ∀ z ∈ addB x B R, z < 8589934592
  | [], R, _, hr, z, h => by have := hr z h; omega
  | _ :: _, [], _, _, z, h => by simp [addB] at h
  | y :: B, r :: R, hy, hr, z, h => by
    rw [addB] at h
    rcases List.mem_cons.1 h with h | h
    · have h1 := hy y (by simp)
      have h2 := hr r (by simp)
      have hm : x * y ≤ 65535 * 65535 := Nat.mul_le_mul (by omega) (by omega)
      omega
    · exact addB_bd x hx B R (fun z h => hy z (by simp [h])) (fun z h => hr z (by simp [h])) z h
/-- All limbs. -/
theorem l1_run (B : List Nat) (hB : ∀ y ∈ B, y < 65536) (hBl : B.length ≤ 100) (k : Nat) : ∀ (A2 A1 : List Nat), (∀ y ∈ A1 ++ A2, y < 65536) → (A1 ++ A2).length ≤ 100 →
    cashbookref10_mul.l1 (A2.length * (B.length + 2 + ((A1 ++ A2).length + B.length)) + 1 + k) (cz (A1 ++ A2)) (cz B) (cz (digs ((A1 ++ A2).length + B.length) (valN A1 * valN B))) ((A1 ++ A2).length : Int) (A1.length : Int) = some (cz (digs ((A1 ++ A2).length + B.length) (valN (A1 ++ A2) * valN B)))
  | [], A1, hA, hAl => by
    simp only [List.append_nil, List.length_nil, Nat.zero_mul, Nat.zero_add]
    rw [Nat.add_comm 1 k, cashbookref10_mul.l1, if_neg (by omega)]
  | a :: A2, A1, hA, hAl => by
    have ih := l1_run B hB hBl k A2 (A1 ++ [a]) (by simpa using hA) (by simpa using hAl)
    have e2 : A1 ++ a :: A2 = (A1 ++ [a]) ++ A2 := by simp
    rw [← e2] at ih
    generalize hN : (A1 ++ a :: A2).length + B.length = N at ih ⊢
    have hNl : (A1 ++ a :: A2).length = A1.length + A2.length + 1 := by simp; omega
    have hai : (A1 ++ a :: A2).getD A1.length 0 = a := getD_mid A1 a A2
    have ha : a < 65536 := hA a (by simp)
    have hvA1 : valN (A1 ++ [a]) * valN B < 65536 ^ N := by
      have h1 : valN (A1 ++ [a]) < 65536 ^ (A1 ++ [a]).length := valN_lt _ (fun z hz => hA z (by rw [e2]; exact List.mem_append_left _ hz))
      have h2 := valN_lt B hB
      have h3 : valN (A1 ++ [a]) * valN B < 65536 ^ (A1 ++ [a]).length * 65536 ^ B.length := Nat.mul_lt_mul'' h1 h2
      rw [← Nat.pow_add] at h3
      refine Nat.lt_of_lt_of_le h3 (Nat.pow_le_pow_right (by omega) ?_)
      simp; omega
    have hx : valN A1 * valN B ≤ valN (A1 ++ [a]) * valN B := Nat.mul_le_mul_right _ (by rw [valN_app]; omega)
    have hdl := digs_len N (valN A1 * valN B)
    have hdd := digs_lt N (valN A1 * valN B)
    have hdv := digs_val N (valN A1 * valN B) (by omega)
    generalize digs N (valN A1 * valN B) = out at hdl hdd hdv ⊢
    obtain ⟨P, R, rfl, hP⟩ : ∃ P R, out = P ++ R ∧ P.length = A1.length := ⟨out.take A1.length, out.drop A1.length, (List.take_append_drop _ _).symm, by rw [List.length_take]; omega⟩
    have hRl : B.length ≤ R.length := by simp at hdl; omega
    have h2 := l2_run (A1 ++ a :: A2) A1.length a (by omega) hai ha hAl ((A1 ++ a :: A2).length : Int) (A1.length : Int) (N + (A2.length * (B.length + 2 + N) + 1 + k)) B [] P R (by simp [hP]) hRl hB (fun r h => hdd r (by simp [h])) (by simpa using hBl) (by simp at hdl; omega)
    rw [show (a :: A2).length * (B.length + 2 + N) + 1 + k = (B.length + 1 + (N + (A2.length * (B.length + 2 + N) + 1 + k))) + 1 by rw [List.length_cons, Nat.add_mul]; omega, cashbookref10_mul.l1, if_pos (by simp; omega), cz_len]
    simp only [List.nil_append, List.length_nil] at h2
    rw [show ((0 : Nat) : Int) = 0 from rfl] at h2
    rw [h2]
    have hal := addB_len a B R hRl
    have hav : valN (P ++ addB a B R) = valN (A1 ++ [a]) * valN B := by
      rw [valN_app, addB_val a B R hRl, Nat.mul_add, ← Nat.add_assoc, ← valN_app, hdv, valN_app, hP]
      show valN A1 * valN B + 65536 ^ A1.length * (a * valN B) = (valN A1 + 65536 ^ A1.length * (a + 65536 * 0)) * valN B
      rw [Nat.add_mul, Nat.mul_zero, Nat.add_zero, Nat.mul_assoc]
    have hlen : (P ++ addB a B R).length = N := by rw [List.length_append, hal, ← hdl, List.length_append]
    have hbd : ∀ z ∈ P ++ addB a B R, z < 549755813888 := by
      intro z hz
      rcases List.mem_append.1 hz with h | h
      · have := hdd z (by simp [h]); omega
      · have := addB_bd a ha B R hB (fun r h => hdd r (by simp [h])) z h; omega
    generalize P ++ addB a B R = L at hav hlen hbd
    match L, hlen, hbd, hav with
    | [], hlen, _, _ => simp at hlen; omega
    | x :: Q, hlen, hbd, hav =>
      have h3 := l3_run (cz (A1 ++ a :: A2)) (cz B) ((A1 ++ a :: A2).length : Int) (A1.length : Int) (A2.length * (B.length + 2 + N) + 1 + k) Q [] x 0 (by have := hbd x (by simp); omega) (fun q h => hbd q (by simp [h])) (by simp at hlen ⊢; omega)
      simp only [List.nil_append, List.length_nil, Nat.add_zero] at h3
      rw [show ((0 : Nat) : Int) = 0 from rfl, show Q.length + 1 = N by simpa using hlen] at h3
      rw [h3, carryN_digs (x :: Q) 0 (by simp) (by rw [Nat.zero_add, hav, hlen]; exact hvA1), hlen, Nat.zero_add, hav]
      rw [show (A1.length : Int) + 1 = ((A1.length + 1 : Nat) : Int) by omega, w64_nat _ (by omega), show ((A1.length + 1 : Nat) : Int) = ((A1 ++ [a]).length : Int) by simp]
      rw [← hN] at ih ⊢
      exact ih
theorem digs_zero : ∀ n, digs n 0 = List.replicate n 0
  | 0 => rfl
  | n + 1 => by rw [digs, List.replicate_succ, ← digs_zero n]
theorem l0_run (A B : List Nat) (N : Nat) (hN : N ≤ 200) (k : Nat) : ∀ j, j ≤ N →
    cashbookref10_mul.l0 ((N - j) + 1 + k) (cz A) (cz B) (cz (List.replicate j 0)) (N : Int) (j : Int) = cashbookref10_mul.l1 k (cz A) (cz B) (cz (List.replicate N 0)) (A.length : Int) 0 := by
  intro j hj
  obtain ⟨d, hd⟩ : ∃ d, N - j = d := ⟨_, rfl⟩
  induction d generalizing j with
  | zero =>
    obtain rfl : j = N := by omega
    rw [show (j - j) + 1 + k = k + 1 by omega, cashbookref10_mul.l0, if_neg (by omega), cz_len]
  | succ d ih =>
    have h := ih (j + 1) (by omega) (by omega)
    rw [show (N - j) + 1 + k = (N - (j + 1) + 1 + k) + 1 by omega, cashbookref10_mul.l0, if_pos (by omega), if_pos (by rw [cz_len, List.length_replicate]; omega)]
    rw [show (j : Int) + 1 = ((j + 1 : Nat) : Int) by omega, w64_nat _ (by omega)]
    have e : cz (List.replicate j 0) ++ [(0 : Int)] = cz (List.replicate (j + 1) 0) := by
      rw [List.replicate_succ']
      simp [cz]
    rw [e, h]
/-- THE PRODUCT of two numbers as limbs. -/
theorem mul_run (n m x y k : Nat) (hn : n ≤ 100) (hm : m ≤ 100) (hx : x < 65536 ^ n) (hy : y < 65536 ^ m) (hk : n + m + 1 + (n * (m + 2 + (n + m)) + 1) ≤ k) :
    cashbookref10_mul.f k (cz (digs n x)) (cz (digs m y)) = some (cz (digs (n + m) (x * y))) := by
  obtain ⟨q, rfl⟩ : ∃ q, k = n + m + 1 + (n * (m + 2 + (n + m)) + 1 + q) := ⟨k - (n + m + 1 + (n * (m + 2 + (n + m)) + 1)), by omega⟩
  unfold cashbookref10_mul.f
  have h0 := l0_run (digs n x) (digs m y) (n + m) (by omega) (n * (m + 2 + (n + m)) + 1 + q) 0 (by omega)
  have h1 := l1_run (digs m y) (digs_lt m y) (by rw [digs_len]; exact hm) q (digs n x) [] (by simpa using digs_lt n x) (by simpa [digs_len] using hn)
  simp only [List.nil_append, List.length_nil, digs_len] at h1
  rw [show valN [] * valN (digs m y) = 0 by simp [valN], digs_zero, digs_val n x hx, digs_val m y hy] at h1
  rw [cz_len, cz_len, digs_len, digs_len, show (n : Int) + (m : Int) = ((n + m : Nat) : Int) by omega, w64_nat _ (by omega)]
  rw [show (0 : Int) = ((0 : Nat) : Int) from rfl, show ([] : List Int) = cz (List.replicate 0 0) from rfl]
  rw [show n + m + 1 + (n * (m + 2 + (n + m)) + 1 + q) = (n + m - 0) + 1 + (n * (m + 2 + (n + m)) + 1 + q) by omega, h0, digs_len]
  exact h1
end Go.Proofs.YtldpnmebjnkjeaaDoor.Ref10
namespace Go.Proofs.YtldpnmebjnkjeaaDoor.PH1
open Go.RowKit Go.Proofs.YtldpnmebjnkjeaaDoorW.PrintWords Go.Proofs.YtldpnmebjnkjeaaDoorW.PrintLast Go.Proofs.YtldpnmebjnkjeaaDoorW.PrintMore
set_option linter.unusedVariables false
set_option linter.unusedSimpArgs false
def cashbookref10_most.l0 : Nat → List Int → List Int → Int → Option (Bool)
  | 0, _, _, _ => none
  | k + 1, x0, x1, x5 => if x5 ≥ 0 then ((cashbookref10_at.f x0 x5).bind fun t141 => ((cashbookref10_at.f x1 x5).bind fun t142 => (if t141 = t142 then (cashbookref10_most.l0 k x0 x1 (wrap64 (x5 - 1))) else ((cashbookref10_at.f x0 x5).bind fun t143 => ((cashbookref10_at.f x1 x5).bind fun t144 => (some (decide (t143 < t144)))))))) else (some true)
def cashbookref10_most.f (k : Nat) (l0 : List Int) (l1 : List Int) : Option (Bool) := cashbookref10_most.l0 k l0 l1 (wrap64 ((mx (l0.length : Int) (l1.length : Int)) - 1))
theorem cashbookref10_most.mono_l : ∀ k, (∀ y0 y1 y2, LeO (cashbookref10_most.l0 k y0 y1 y2) (cashbookref10_most.l0 (k + 1) y0 y1 y2))
  | 0 => fun _ _ _ r h => by simp [cashbookref10_most.l0] at h
  | k + 1 => by
    have ih0 := cashbookref10_most.mono_l k
    · intro y0 y1 y2
      unfold cashbookref10_most.l0
      repeat' first
      | (with_reducible exact ih0 _ _ _)
      | (with_reducible exact LeO.refl _)
      | (with_reducible exact LeO.none _)
      | (with_reducible refine LeO.ite ?_ ?_)
      | (with_reducible refine LeO.bind ?_ (fun _ => ?_))
      | exact ih0 _ _ _
      | exact LeO.none _
      | refine LeO.ite ?_ ?_
      | refine LeO.bind ?_ (fun _ => ?_)
theorem cashbookref10_most.mono : ∀ a0 a1 k, LeO (cashbookref10_most.f k a0 a1) (cashbookref10_most.f (k + 1) a0 a1) := by
  intro a0 a1 k
  have ih0 := cashbookref10_most.mono_l k
  unfold cashbookref10_most.f
  repeat' first
      | (with_reducible exact ih0 _ _ _)
      | (with_reducible exact LeO.refl _)
      | (with_reducible exact LeO.none _)
      | (with_reducible refine LeO.ite ?_ ?_)
      | (with_reducible refine LeO.bind ?_ (fun _ => ?_))
      | exact ih0 _ _ _
      | exact LeO.none _
      | refine LeO.ite ?_ ?_
      | refine LeO.bind ?_ (fun _ => ?_)
set_option maxHeartbeats 8000000 in
set_option maxRecDepth 100000 in
theorem most_lt (k : Nat) (A0 : Option Addr) (c0 : Nat) (l0 : List Int) (A1 : Option Addr) (c1 : Nat) (l1 : List Int) (r : Bool) (w : World) (hm : (l0.length : Int) < (l1.length : Int)) (hr0 : Kd.C (Kd.int .u64) w A0 l0.length l0) (hc0 : l0.length ≤ c0) (hr1 : Kd.C (Kd.int .u64) w A1 l1.length l1) (hc1 : l1.length ≤ c1) (h : cashbookref10_most.f k l0 l1 = some r) :
    Calls Tryd.prog 86 #[.slice A0 l0.length c0, .slice A1 l1.length c1] w fun e w' => e = .returned (.bool r) ∧ Below w.heap.size w w' := by
  have HR0 := Aside0.mk hr0
  have HC0 := Aside0.mk hc0
  clear hr0 hc0
  have HR1 := Aside0.mk hr1
  have HC1 := Aside0.mk hc1
  clear hr1 hc1
  have HB := Aside0.mk (Below.refl w.heap.size w)
  have H : (cashbookref10_most.l0 k l0 l1 (wrap64 ((mx (l0.length : Int) (l1.length : Int)) - 1))) = some r := h
  clear h
  have hmx : mx (l0.length : Int) (l1.length : Int) = (l1.length : Int) := by unfold mx; (repeat' split) <;> omega
  rw [hmx] at H
  clear hmx
  have H' := Aside0.mk H
  clear H
  go_enter Tryd.func86, Tryd.ntmps86
  go_wp2
  go_loopg [5] k (fun kq v5 w' => ∃ (x5_1 : Int), v5 = .int .i64 x5_1 ∧ Aside0 (cashbookref10_most.l0 kq l0 l1 x5_1 = some r) ∧ Aside0 (kq ≤ k) ∧ Aside0 (Below w.heap.size w w'))
  case atStart => exact ⟨(wrap64 ((l1.length : Int) - 1)), (by first | rfl | (simp; done) | (simp [*]; done)), H', ⟨Nat.le_refl _⟩, ⟨by repeat (first | (with_reducible first | exact HB.out | apply below_alloc | apply pw_below_drewN | apply below_drew1) | exact HB.out)⟩⟩
  case round =>
    clear H'
    try clear c1
    try clear p2
    obtain ⟨x5_1, rfl, HA, HK1, HB⟩ := hrel
    cases gk with
    | zero => exact absurd HA.out (by simp [cashbookref10_most.l0])
    | succ k1 =>
      have H := HA.out
      clear HA
      simp only [cashbookref10_most.l0] at H
      by_cases c4 : x5_1 ≥ 0
      · rw [if_pos c4] at H
        have c4b0 : decide (0 ≤ x5_1) = true := decide_eq_true c4
        clear c4
        replace H := Option.bind_eq_some_iff.mp H
        obtain ⟨t141, A50, H⟩ := H
        replace H : ((cashbookref10_at.f l1 x5_1).bind fun t142 => (if t141 = t142 then (cashbookref10_most.l0 k1 l0 l1 (wrap64 (x5_1 - 1))) else ((cashbookref10_at.f l0 x5_1).bind fun t143 => ((cashbookref10_at.f l1 x5_1).bind fun t144 => (some (decide (t143 < t144))))))) = some r := H
        have A5 := Aside0.mk A50
        clear A50
        replace H := Option.bind_eq_some_iff.mp H
        obtain ⟨t142, A60, H⟩ := H
        replace H : (if t141 = t142 then (cashbookref10_most.l0 k1 l0 l1 (wrap64 (x5_1 - 1))) else ((cashbookref10_at.f l0 x5_1).bind fun t143 => ((cashbookref10_at.f l1 x5_1).bind fun t144 => (some (decide (t143 < t144)))))) = some r := H
        have A6 := Aside0.mk A60
        clear A60
        by_cases c7 : t141 = t142
        · rw [if_pos c7] at H
          have c7b0 : (t141 == t142) = true := beq_iff_eq.mpr c7
          have c7b1 : (t141 != t142) = false := bne_eq_false_iff_eq.mpr c7
          clear c7
          have H' := Aside0.mk H
          clear H
          go_wp2_with (first | ((with_reducible refine gate_callee (f := 101) rfl ?_); refine goesL_ (some 18) rfl rfl Tryd.func101 (by kernel_rfl) rfl #[.slice A0 l0.length c0, .int .i64 x5_1] rfl (by (try simp only [List.map_toArray, List.map_cons, List.map_nil]); first | done | rfl | (simp only [List.length_drop, List.length_take]; rfl)) ?_; (with_reducible refine (cashbookref10_at.calls _ _ l0 x5_1 t141 _ ?side1 ?side2 A5.out).mono ?_); (case side1 => repeat (first | exact (Kd.C_below HR0.out HB.out) | (with_reducible refine Kd.C_alloc ?_ _) | (with_reducible refine Kd.C_drewN ?_ _) | (with_reducible refine Kd.C_drew ?_))); (case side2 => exact HC0.out); rintro e w' ⟨rfl, ⟨nd, rfl⟩⟩; refine ⟨_, rfl, ?_⟩) | ((with_reducible refine gate_callee (f := 101) rfl ?_); refine goesL_ (some 21) rfl rfl Tryd.func101 (by kernel_rfl) rfl #[.slice A1 l1.length c1, .int .i64 x5_1] rfl (by (try simp only [List.map_toArray, List.map_cons, List.map_nil]); first | done | rfl | (simp only [List.length_drop, List.length_take]; rfl)) ?_; (with_reducible refine (cashbookref10_at.calls _ _ l1 x5_1 t142 _ ?side1 ?side2 A6.out).mono ?_); (case side1 => repeat (first | exact (Kd.C_below HR1.out (by repeat (first | (with_reducible first | exact HB.out | apply below_alloc | apply pw_below_drewN | apply below_drew1) | exact HB.out))) | (with_reducible refine Kd.C_alloc ?_ _) | (with_reducible refine Kd.C_drewN ?_ _) | (with_reducible refine Kd.C_drew ?_))); (case side2 => exact HC1.out); rintro e w' ⟨rfl, ⟨nd, rfl⟩⟩; refine ⟨_, rfl, ?_⟩))
          go_roundg k1
          case measure => have := HK1.out; omega
          case rel => exact ⟨(wrap64 (x5_1 - 1)), (by first | rfl | (simp; done) | (simp [*]; done)), H', ⟨by have := HK1.out; omega⟩, ⟨by repeat (first | (with_reducible first | exact HB.out | apply below_alloc | apply pw_below_drewN | apply below_drew1) | exact HB.out)⟩⟩
        · rw [if_neg c7] at H
          have c7b0 : (t141 == t142) = false := beq_eq_false_iff_ne.mpr c7
          have c7b1 : (t141 != t142) = true := bne_iff_ne.mpr c7
          replace H := Option.bind_eq_some_iff.mp H
          obtain ⟨t143, A80, H⟩ := H
          replace H : ((cashbookref10_at.f l1 x5_1).bind fun t144 => (some (decide (t143 < t144)))) = some r := H
          have A8 := Aside0.mk A80
          clear A80
          replace H := Option.bind_eq_some_iff.mp H
          obtain ⟨t144, A90, H⟩ := H
          replace H : (some (decide (t143 < t144))) = some r := H
          have A9 := Aside0.mk A90
          clear A90
          obtain rfl := Option.some.inj H
          go_wp2_with (first | ((with_reducible refine gate_callee (f := 101) rfl ?_); refine goesL_ (some 18) rfl rfl Tryd.func101 (by kernel_rfl) rfl #[.slice A0 l0.length c0, .int .i64 x5_1] rfl (by (try simp only [List.map_toArray, List.map_cons, List.map_nil]); first | done | rfl | (simp only [List.length_drop, List.length_take]; rfl)) ?_; (with_reducible refine (cashbookref10_at.calls _ _ l0 x5_1 t141 _ ?side1 ?side2 A5.out).mono ?_); (case side1 => repeat (first | exact (Kd.C_below HR0.out HB.out) | (with_reducible refine Kd.C_alloc ?_ _) | (with_reducible refine Kd.C_drewN ?_ _) | (with_reducible refine Kd.C_drew ?_))); (case side2 => exact HC0.out); rintro e w' ⟨rfl, ⟨nd, rfl⟩⟩; refine ⟨_, rfl, ?_⟩) | ((with_reducible refine gate_callee (f := 101) rfl ?_); refine goesL_ (some 21) rfl rfl Tryd.func101 (by kernel_rfl) rfl #[.slice A1 l1.length c1, .int .i64 x5_1] rfl (by (try simp only [List.map_toArray, List.map_cons, List.map_nil]); first | done | rfl | (simp only [List.length_drop, List.length_take]; rfl)) ?_; (with_reducible refine (cashbookref10_at.calls _ _ l1 x5_1 t142 _ ?side1 ?side2 A6.out).mono ?_); (case side1 => repeat (first | exact (Kd.C_below HR1.out (by repeat (first | (with_reducible first | exact HB.out | apply below_alloc | apply pw_below_drewN | apply below_drew1) | exact HB.out))) | (with_reducible refine Kd.C_alloc ?_ _) | (with_reducible refine Kd.C_drewN ?_ _) | (with_reducible refine Kd.C_drew ?_))); (case side2 => exact HC1.out); rintro e w' ⟨rfl, ⟨nd, rfl⟩⟩; refine ⟨_, rfl, ?_⟩) | ((with_reducible refine gate_callee (f := 101) rfl ?_); refine goesL_ (some 25) rfl rfl Tryd.func101 (by kernel_rfl) rfl #[.slice A0 l0.length c0, .int .i64 x5_1] rfl (by (try simp only [List.map_toArray, List.map_cons, List.map_nil]); first | done | rfl | (simp only [List.length_drop, List.length_take]; rfl)) ?_; (with_reducible refine (cashbookref10_at.calls _ _ l0 x5_1 t143 _ ?side1 ?side2 A8.out).mono ?_); (case side1 => repeat (first | exact (Kd.C_below HR0.out (by repeat (first | (with_reducible first | exact HB.out | apply below_alloc | apply pw_below_drewN | apply below_drew1) | exact HB.out))) | (with_reducible refine Kd.C_alloc ?_ _) | (with_reducible refine Kd.C_drewN ?_ _) | (with_reducible refine Kd.C_drew ?_))); (case side2 => exact HC0.out); rintro e w' ⟨rfl, ⟨nd, rfl⟩⟩; refine ⟨_, rfl, ?_⟩) | ((with_reducible refine gate_callee (f := 101) rfl ?_); refine goesL_ (some 28) rfl rfl Tryd.func101 (by kernel_rfl) rfl #[.slice A1 l1.length c1, .int .i64 x5_1] rfl (by (try simp only [List.map_toArray, List.map_cons, List.map_nil]); first | done | rfl | (simp only [List.length_drop, List.length_take]; rfl)) ?_; (with_reducible refine (cashbookref10_at.calls _ _ l1 x5_1 t144 _ ?side1 ?side2 A9.out).mono ?_); (case side1 => repeat (first | exact (Kd.C_below HR1.out (by repeat (first | (with_reducible first | exact HB.out | apply below_alloc | apply pw_below_drewN | apply below_drew1) | exact HB.out))) | (with_reducible refine Kd.C_alloc ?_ _) | (with_reducible refine Kd.C_drewN ?_ _) | (with_reducible refine Kd.C_drew ?_))); (case side2 => exact HC1.out); rintro e w' ⟨rfl, ⟨nd, rfl⟩⟩; refine ⟨_, rfl, ?_⟩))
          go_ret
          exact ⟨by first | rfl | (simp [errW_none, errW_some] <;> rfl) | (simp [*, errW_none, errW_some] <;> rfl), by repeat (first | (with_reducible first | exact HB.out | apply below_alloc | apply pw_below_drewN | apply below_drew1) | exact HB.out)⟩
      · rw [if_neg c4] at H
        have c4b0 : decide (0 ≤ x5_1) = false := decide_eq_false c4
        clear c4
        obtain rfl := Option.some.inj H
        go_wp2
        go_ret
        exact ⟨by first | rfl | (simp [errW_none, errW_some] <;> rfl) | (simp [*, errW_none, errW_some] <;> rfl), by repeat (first | (with_reducible first | exact HB.out | apply below_alloc | apply pw_below_drewN | apply below_drew1) | exact HB.out)⟩

set_option maxHeartbeats 8000000 in
set_option maxRecDepth 100000 in
theorem most_ge (k : Nat) (A0 : Option Addr) (c0 : Nat) (l0 : List Int) (A1 : Option Addr) (c1 : Nat) (l1 : List Int) (r : Bool) (w : World) (hm : ¬ ((l0.length : Int) < (l1.length : Int))) (hr0 : Kd.C (Kd.int .u64) w A0 l0.length l0) (hc0 : l0.length ≤ c0) (hr1 : Kd.C (Kd.int .u64) w A1 l1.length l1) (hc1 : l1.length ≤ c1) (h : cashbookref10_most.f k l0 l1 = some r) :
    Calls Tryd.prog 86 #[.slice A0 l0.length c0, .slice A1 l1.length c1] w fun e w' => e = .returned (.bool r) ∧ Below w.heap.size w w' := by
  have HR0 := Aside0.mk hr0
  have HC0 := Aside0.mk hc0
  clear hr0 hc0
  have HR1 := Aside0.mk hr1
  have HC1 := Aside0.mk hc1
  clear hr1 hc1
  have HB := Aside0.mk (Below.refl w.heap.size w)
  have H : (cashbookref10_most.l0 k l0 l1 (wrap64 ((mx (l0.length : Int) (l1.length : Int)) - 1))) = some r := h
  clear h
  have hmx : mx (l0.length : Int) (l1.length : Int) = (l0.length : Int) := by unfold mx; (repeat' split) <;> omega
  rw [hmx] at H
  clear hmx
  have H' := Aside0.mk H
  clear H
  go_enter Tryd.func86, Tryd.ntmps86
  go_wp2
  go_loopg [5] k (fun kq v5 w' => ∃ (x5_1 : Int), v5 = .int .i64 x5_1 ∧ Aside0 (cashbookref10_most.l0 kq l0 l1 x5_1 = some r) ∧ Aside0 (kq ≤ k) ∧ Aside0 (Below w.heap.size w w'))
  case atStart => exact ⟨(wrap64 ((l0.length : Int) - 1)), (by first | rfl | (simp; done) | (simp [*]; done)), H', ⟨Nat.le_refl _⟩, ⟨by repeat (first | (with_reducible first | exact HB.out | apply below_alloc | apply pw_below_drewN | apply below_drew1) | exact HB.out)⟩⟩
  case round =>
    clear H'
    try clear c1
    try clear p2
    obtain ⟨x5_1, rfl, HA, HK1, HB⟩ := hrel
    cases gk with
    | zero => exact absurd HA.out (by simp [cashbookref10_most.l0])
    | succ k1 =>
      have H := HA.out
      clear HA
      simp only [cashbookref10_most.l0] at H
      by_cases c4 : x5_1 ≥ 0
      · rw [if_pos c4] at H
        have c4b0 : decide (0 ≤ x5_1) = true := decide_eq_true c4
        clear c4
        replace H := Option.bind_eq_some_iff.mp H
        obtain ⟨t141, A50, H⟩ := H
        replace H : ((cashbookref10_at.f l1 x5_1).bind fun t142 => (if t141 = t142 then (cashbookref10_most.l0 k1 l0 l1 (wrap64 (x5_1 - 1))) else ((cashbookref10_at.f l0 x5_1).bind fun t143 => ((cashbookref10_at.f l1 x5_1).bind fun t144 => (some (decide (t143 < t144))))))) = some r := H
        have A5 := Aside0.mk A50
        clear A50
        replace H := Option.bind_eq_some_iff.mp H
        obtain ⟨t142, A60, H⟩ := H
        replace H : (if t141 = t142 then (cashbookref10_most.l0 k1 l0 l1 (wrap64 (x5_1 - 1))) else ((cashbookref10_at.f l0 x5_1).bind fun t143 => ((cashbookref10_at.f l1 x5_1).bind fun t144 => (some (decide (t143 < t144)))))) = some r := H
        have A6 := Aside0.mk A60
        clear A60
        by_cases c7 : t141 = t142
        · rw [if_pos c7] at H
          have c7b0 : (t141 == t142) = true := beq_iff_eq.mpr c7
          have c7b1 : (t141 != t142) = false := bne_eq_false_iff_eq.mpr c7
          clear c7
          have H' := Aside0.mk H
          clear H
          go_wp2_with (first | ((with_reducible refine gate_callee (f := 101) rfl ?_); refine goesL_ (some 18) rfl rfl Tryd.func101 (by kernel_rfl) rfl #[.slice A0 l0.length c0, .int .i64 x5_1] rfl (by (try simp only [List.map_toArray, List.map_cons, List.map_nil]); first | done | rfl | (simp only [List.length_drop, List.length_take]; rfl)) ?_; (with_reducible refine (cashbookref10_at.calls _ _ l0 x5_1 t141 _ ?side1 ?side2 A5.out).mono ?_); (case side1 => repeat (first | exact (Kd.C_below HR0.out HB.out) | (with_reducible refine Kd.C_alloc ?_ _) | (with_reducible refine Kd.C_drewN ?_ _) | (with_reducible refine Kd.C_drew ?_))); (case side2 => exact HC0.out); rintro e w' ⟨rfl, ⟨nd, rfl⟩⟩; refine ⟨_, rfl, ?_⟩) | ((with_reducible refine gate_callee (f := 101) rfl ?_); refine goesL_ (some 21) rfl rfl Tryd.func101 (by kernel_rfl) rfl #[.slice A1 l1.length c1, .int .i64 x5_1] rfl (by (try simp only [List.map_toArray, List.map_cons, List.map_nil]); first | done | rfl | (simp only [List.length_drop, List.length_take]; rfl)) ?_; (with_reducible refine (cashbookref10_at.calls _ _ l1 x5_1 t142 _ ?side1 ?side2 A6.out).mono ?_); (case side1 => repeat (first | exact (Kd.C_below HR1.out (by repeat (first | (with_reducible first | exact HB.out | apply below_alloc | apply pw_below_drewN | apply below_drew1) | exact HB.out))) | (with_reducible refine Kd.C_alloc ?_ _) | (with_reducible refine Kd.C_drewN ?_ _) | (with_reducible refine Kd.C_drew ?_))); (case side2 => exact HC1.out); rintro e w' ⟨rfl, ⟨nd, rfl⟩⟩; refine ⟨_, rfl, ?_⟩))
          go_roundg k1
          case measure => have := HK1.out; omega
          case rel => exact ⟨(wrap64 (x5_1 - 1)), (by first | rfl | (simp; done) | (simp [*]; done)), H', ⟨by have := HK1.out; omega⟩, ⟨by repeat (first | (with_reducible first | exact HB.out | apply below_alloc | apply pw_below_drewN | apply below_drew1) | exact HB.out)⟩⟩
        · rw [if_neg c7] at H
          have c7b0 : (t141 == t142) = false := beq_eq_false_iff_ne.mpr c7
          have c7b1 : (t141 != t142) = true := bne_iff_ne.mpr c7
          replace H := Option.bind_eq_some_iff.mp H
          obtain ⟨t143, A80, H⟩ := H
          replace H : ((cashbookref10_at.f l1 x5_1).bind fun t144 => (some (decide (t143 < t144)))) = some r := H
          have A8 := Aside0.mk A80
          clear A80
          replace H := Option.bind_eq_some_iff.mp H
          obtain ⟨t144, A90, H⟩ := H
          replace H : (some (decide (t143 < t144))) = some r := H
          have A9 := Aside0.mk A90
          clear A90
          obtain rfl := Option.some.inj H
          go_wp2_with (first | ((with_reducible refine gate_callee (f := 101) rfl ?_); refine goesL_ (some 18) rfl rfl Tryd.func101 (by kernel_rfl) rfl #[.slice A0 l0.length c0, .int .i64 x5_1] rfl (by (try simp only [List.map_toArray, List.map_cons, List.map_nil]); first | done | rfl | (simp only [List.length_drop, List.length_take]; rfl)) ?_; (with_reducible refine (cashbookref10_at.calls _ _ l0 x5_1 t141 _ ?side1 ?side2 A5.out).mono ?_); (case side1 => repeat (first | exact (Kd.C_below HR0.out HB.out) | (with_reducible refine Kd.C_alloc ?_ _) | (with_reducible refine Kd.C_drewN ?_ _) | (with_reducible refine Kd.C_drew ?_))); (case side2 => exact HC0.out); rintro e w' ⟨rfl, ⟨nd, rfl⟩⟩; refine ⟨_, rfl, ?_⟩) | ((with_reducible refine gate_callee (f := 101) rfl ?_); refine goesL_ (some 21) rfl rfl Tryd.func101 (by kernel_rfl) rfl #[.slice A1 l1.length c1, .int .i64 x5_1] rfl (by (try simp only [List.map_toArray, List.map_cons, List.map_nil]); first | done | rfl | (simp only [List.length_drop, List.length_take]; rfl)) ?_; (with_reducible refine (cashbookref10_at.calls _ _ l1 x5_1 t142 _ ?side1 ?side2 A6.out).mono ?_); (case side1 => repeat (first | exact (Kd.C_below HR1.out (by repeat (first | (with_reducible first | exact HB.out | apply below_alloc | apply pw_below_drewN | apply below_drew1) | exact HB.out))) | (with_reducible refine Kd.C_alloc ?_ _) | (with_reducible refine Kd.C_drewN ?_ _) | (with_reducible refine Kd.C_drew ?_))); (case side2 => exact HC1.out); rintro e w' ⟨rfl, ⟨nd, rfl⟩⟩; refine ⟨_, rfl, ?_⟩) | ((with_reducible refine gate_callee (f := 101) rfl ?_); refine goesL_ (some 25) rfl rfl Tryd.func101 (by kernel_rfl) rfl #[.slice A0 l0.length c0, .int .i64 x5_1] rfl (by (try simp only [List.map_toArray, List.map_cons, List.map_nil]); first | done | rfl | (simp only [List.length_drop, List.length_take]; rfl)) ?_; (with_reducible refine (cashbookref10_at.calls _ _ l0 x5_1 t143 _ ?side1 ?side2 A8.out).mono ?_); (case side1 => repeat (first | exact (Kd.C_below HR0.out (by repeat (first | (with_reducible first | exact HB.out | apply below_alloc | apply pw_below_drewN | apply below_drew1) | exact HB.out))) | (with_reducible refine Kd.C_alloc ?_ _) | (with_reducible refine Kd.C_drewN ?_ _) | (with_reducible refine Kd.C_drew ?_))); (case side2 => exact HC0.out); rintro e w' ⟨rfl, ⟨nd, rfl⟩⟩; refine ⟨_, rfl, ?_⟩) | ((with_reducible refine gate_callee (f := 101) rfl ?_); refine goesL_ (some 28) rfl rfl Tryd.func101 (by kernel_rfl) rfl #[.slice A1 l1.length c1, .int .i64 x5_1] rfl (by (try simp only [List.map_toArray, List.map_cons, List.map_nil]); first | done | rfl | (simp only [List.length_drop, List.length_take]; rfl)) ?_; (with_reducible refine (cashbookref10_at.calls _ _ l1 x5_1 t144 _ ?side1 ?side2 A9.out).mono ?_); (case side1 => repeat (first | exact (Kd.C_below HR1.out (by repeat (first | (with_reducible first | exact HB.out | apply below_alloc | apply pw_below_drewN | apply below_drew1) | exact HB.out))) | (with_reducible refine Kd.C_alloc ?_ _) | (with_reducible refine Kd.C_drewN ?_ _) | (with_reducible refine Kd.C_drew ?_))); (case side2 => exact HC1.out); rintro e w' ⟨rfl, ⟨nd, rfl⟩⟩; refine ⟨_, rfl, ?_⟩))
          go_ret
          exact ⟨by first | rfl | (simp [errW_none, errW_some] <;> rfl) | (simp [*, errW_none, errW_some] <;> rfl), by repeat (first | (with_reducible first | exact HB.out | apply below_alloc | apply pw_below_drewN | apply below_drew1) | exact HB.out)⟩
      · rw [if_neg c4] at H
        have c4b0 : decide (0 ≤ x5_1) = false := decide_eq_false c4
        clear c4
        obtain rfl := Option.some.inj H
        go_wp2
        go_ret
        exact ⟨by first | rfl | (simp [errW_none, errW_some] <;> rfl) | (simp [*, errW_none, errW_some] <;> rfl), by repeat (first | (with_reducible first | exact HB.out | apply below_alloc | apply pw_below_drewN | apply below_drew1) | exact HB.out)⟩

set_option maxHeartbeats 8000000 in
theorem cashbookref10_most.calls (k : Nat) (A0 : Option Addr) (c0 : Nat) (l0 : List Int) (A1 : Option Addr) (c1 : Nat) (l1 : List Int) (r : Bool) (w : World) (hr0 : Kd.C (Kd.int .u64) w A0 l0.length l0) (hc0 : l0.length ≤ c0) (hr1 : Kd.C (Kd.int .u64) w A1 l1.length l1) (hc1 : l1.length ≤ c1) (h : cashbookref10_most.f k l0 l1 = some r) :
    Calls Tryd.prog 86 #[.slice A0 l0.length c0, .slice A1 l1.length c1] w fun e w' => e = .returned (.bool r) ∧ Below w.heap.size w w' := by
  by_cases hm : (l0.length : Int) < (l1.length : Int)
  · exact most_lt k A0 c0 l0 A1 c1 l1 r w hm hr0 hc0 hr1 hc1 h
  · exact most_ge k A0 c0 l0 A1 c1 l1 r w hm hr0 hc0 hr1 hc1 h
attribute [irreducible] cashbookref10_most.f
end Go.Proofs.YtldpnmebjnkjeaaDoor.PH1
namespace Go.Proofs.YtldpnmebjnkjeaaDoor.PH1
open Go.RowKit Go.Proofs.YtldpnmebjnkjeaaDoorW.PrintWords Go.Proofs.YtldpnmebjnkjeaaDoorW.PrintLast Go.Proofs.YtldpnmebjnkjeaaDoorW.PrintMore
set_option linter.unusedVariables false
set_option linter.unusedSimpArgs false

def cashbookref10_power.l0 : Nat → Int → Int → List Int → Int → Option (List Int)
  | 0, _, _, _, _ => none
  | k + 1, x0, x1, x5, x6 => if x6 < x1 then ((cashbookref10_limbs.f x0).bind fun t144 => ((cashbookref10_mul.f k x5 t144).bind fun t147 => (cashbookref10_power.l0 k x0 x1 t147 (wrap64 (x6 + 1))))) else (some x5)
def cashbookref10_power.f (k : Nat) (a0 : Int) (a1 : Int) : Option (List Int) := (cashbookref10_limbs.f a0).bind fun t141 => (cashbookref10_power.l0 k a0 a1 t141 1)
theorem cashbookref10_power.mono_l : ∀ k, (∀ y0 y1 y2 y3, LeO (cashbookref10_power.l0 k y0 y1 y2 y3) (cashbookref10_power.l0 (k + 1) y0 y1 y2 y3))
  | 0 => fun _ _ _ _ r h => by simp [cashbookref10_power.l0] at h
  | k + 1 => by
    have ih0 := cashbookref10_power.mono_l k
    · intro y0 y1 y2 y3
      unfold cashbookref10_power.l0
      repeat' first
      | (with_reducible exact ih0 _ _ _ _)
      | (with_reducible exact cashbookref10_mul.mono _ _ _)
      | (with_reducible exact LeO.refl _)
      | (with_reducible exact LeO.none _)
      | (with_reducible refine LeO.ite ?_ ?_)
      | (with_reducible refine LeO.bind ?_ (fun _ => ?_))
      | exact ih0 _ _ _ _
      | exact cashbookref10_mul.mono _ _ _
      | exact LeO.none _
      | refine LeO.ite ?_ ?_
      | refine LeO.bind ?_ (fun _ => ?_)
theorem cashbookref10_power.mono : ∀ a0 a1 k, LeO (cashbookref10_power.f k a0 a1) (cashbookref10_power.f (k + 1) a0 a1) := by
  intro a0 a1 k
  have ih0 := cashbookref10_power.mono_l k
  unfold cashbookref10_power.f
  repeat' first
      | (with_reducible exact ih0 _ _ _ _)
      | (with_reducible exact cashbookref10_mul.mono _ _ _)
      | (with_reducible exact LeO.refl _)
      | (with_reducible exact LeO.none _)
      | (with_reducible refine LeO.ite ?_ ?_)
      | (with_reducible refine LeO.bind ?_ (fun _ => ?_))
      | exact ih0 _ _ _ _
      | exact cashbookref10_mul.mono _ _ _
      | exact LeO.none _
      | refine LeO.ite ?_ ?_
      | refine LeO.bind ?_ (fun _ => ?_)
set_option maxHeartbeats 8000000 in
set_option maxRecDepth 100000 in
theorem cashbookref10_power.calls (k : Nat) (a0 : Int) (a1 : Int) (r : List Int) (w : World) (h : cashbookref10_power.f k a0 a1 = some r) :
    Calls Tryd.prog 87 #[.int .u64 a0, .int .i64 a1] w fun e w' => ∃ v0_ : Value, e = .returned (v0_) ∧ Kd.R (Kd.int .u64) 44 w' w.heap.size (fun _ => True) v0_ r ∧ Below w.heap.size w w' := by
  have HB := Aside0.mk (Below.refl w.heap.size w)
  have H : ((cashbookref10_limbs.f a0).bind fun t141 => (cashbookref10_power.l0 k a0 a1 t141 1)) = some r := h
  clear h
  replace H := Option.bind_eq_some_iff.mp H
  obtain ⟨t141, A30, H⟩ := H
  replace H : (cashbookref10_power.l0 k a0 a1 t141 1) = some r := H
  have A3 := Aside0.mk A30
  clear A30
  have H' := Aside0.mk H
  clear H
  go_enter Tryd.func87, Tryd.ntmps87
  go_wp2_with (first | ((with_reducible refine gate_callee (f := 84) rfl ?_); refine goesL_ (some 8) rfl rfl Tryd.func84 (by kernel_rfl) rfl #[.int .u64 a0] rfl (by (try simp only [List.map_toArray, List.map_cons, List.map_nil]); first | done | rfl | (simp only [List.length_drop, List.length_take]; rfl)) ?_; (with_reducible refine (cashbookref10_limbs.calls a0 t141 _ A3.out).mono ?_); rintro e w4 ⟨v142, rfl, ho0, hb⟩; refine ⟨_, rfl, ?_⟩; have n0_ := Aside0.mk (Kd.R_lower ho0 (below_size (by repeat (first | (with_reducible first | exact HB.out | apply below_alloc | apply pw_below_drewN | apply below_drew1) | exact HB.out)))); have n1_ := Aside0.mk (below_step (by repeat (first | (with_reducible first | exact HB.out | apply below_alloc | apply pw_below_drewN | apply below_drew1) | exact HB.out)) hb); clear HB; have HO143 := n0_; have HB := n1_; clear n0_ n1_; (try clear hb); (try clear hb2); (try clear hk); (try clear hi); (try clear ho0)))
  go_loopg [5, 6] k (fun kq v5 v6 w' => ∃ (x5_1 : List Int) (x6_1 : Int), v6 = .int .i64 x6_1 ∧ Aside0 (cashbookref10_power.l0 kq a0 a1 x5_1 x6_1 = some r) ∧ Aside0 (kq ≤ k) ∧ Aside0 (Kd.R (Kd.int .u64) 44 w' w.heap.size (fun _ => True) v5 x5_1) ∧ Aside0 (Below w.heap.size w w'))
  case atStart => exact ⟨(t141), (1), (by first | rfl | (simp; done) | (simp [*]; done)), H', ⟨Nat.le_refl _⟩, ⟨by (with_reducible repeat (first | apply Kd.R_alloc | apply Kd.R_drewN | apply Kd.R_drew)); exact HO143.out⟩, ⟨by repeat (first | (with_reducible first | exact HB.out | apply below_alloc | apply pw_below_drewN | apply below_drew1) | exact HB.out)⟩⟩
  case round =>
    clear H'
    try clear p2
    obtain ⟨x5_1, x6_1, rfl, HA, HK1, HO_5, HB⟩ := hrel
    cases gk with
    | zero => exact absurd HA.out (by simp [cashbookref10_power.l0])
    | succ k1 =>
      have H := HA.out
      clear HA
      simp only [cashbookref10_power.l0] at H
      by_cases c5 : x6_1 < a1
      · rw [if_pos c5] at H
        have c5b0 : decide (x6_1 < a1) = true := decide_eq_true c5
        clear c5
        replace H := Option.bind_eq_some_iff.mp H
        obtain ⟨t144, A60, H⟩ := H
        replace H : ((cashbookref10_mul.f k1 x5_1 t144).bind fun t147 => (cashbookref10_power.l0 k1 a0 a1 t147 (wrap64 (x6_1 + 1)))) = some r := H
        have A6 := Aside0.mk A60
        clear A60
        replace H := Option.bind_eq_some_iff.mp H
        obtain ⟨t147, A70, H⟩ := H
        replace H : (cashbookref10_power.l0 k1 a0 a1 t147 (wrap64 (x6_1 + 1))) = some r := H
        have A7 := Aside0.mk A70
        clear A70
        have H' := Aside0.mk H
        clear H
        go_wp2_with (first | ((with_reducible refine gate_callee (f := 84) rfl ?_); refine goesL_ (some 16) rfl rfl Tryd.func84 (by kernel_rfl) rfl #[.int .u64 a0] rfl (by (try simp only [List.map_toArray, List.map_cons, List.map_nil]); first | done | rfl | (simp only [List.length_drop, List.length_take]; rfl)) ?_; (with_reducible refine (cashbookref10_limbs.calls a0 t144 _ A6.out).mono ?_); rintro e w8 ⟨v145, rfl, ho0, hb⟩; refine ⟨_, rfl, ?_⟩; have n0_ := Aside0.mk (Kd.R_elder' (by (with_reducible repeat (first | apply Kd.R_alloc | apply Kd.R_drewN | apply Kd.R_drew)); exact HO_5.out) (Kd.R_base ho0) hb); have n1_ := Aside0.mk (Kd.R_lower (Kd.R_new' ho0 (Kd.R_lt (by (with_reducible repeat (first | apply Kd.R_alloc | apply Kd.R_drewN | apply Kd.R_drew)); exact HO_5.out))) (below_size (by repeat (first | (with_reducible first | exact HB.out | apply below_alloc | apply pw_below_drewN | apply below_drew1) | exact HB.out)))); have n2_ := Aside0.mk (below_step (by repeat (first | (with_reducible first | exact HB.out | apply below_alloc | apply pw_below_drewN | apply below_drew1) | exact HB.out)) hb); clear HO_5; clear HB; have HO_5 := n0_; have HO146 := n1_; have HB := n2_; clear n0_ n1_ n2_; (try clear hb); (try clear hb2); (try clear hk); (try clear hi); (try clear ho0); obtain ⟨Ao9, co9, eo9⟩ := Kd.R_slice HO_5.out; subst eo9; obtain ⟨Ao10, co10, eo10⟩ := Kd.R_slice HO146.out; subst eo10) | ((with_reducible refine gate_callee (f := 85) rfl ?_); refine goesL_ (some 17) rfl rfl Tryd.func85 (by kernel_rfl) rfl #[.slice Ao9 x5_1.length co9, .slice Ao10 t144.length co10] rfl (by (try simp only [List.map_toArray, List.map_cons, List.map_nil]); first | done | rfl | (simp only [List.length_drop, List.length_take]; rfl)) ?_; (with_reducible refine (cashbookref10_mul.calls k1 _ _ x5_1 _ _ t144 t147 _ ?side1 ?side2 ?side3 ?side4 A7.out).mono ?_); (case side1 => repeat (first | exact (Kd.R_reads' HO_5.out).2.2 | (with_reducible refine Kd.C_alloc ?_ _) | (with_reducible refine Kd.C_drewN ?_ _) | (with_reducible refine Kd.C_drew ?_))); (case side2 => exact (Kd.R_reads' HO_5.out).2.1); (case side3 => repeat (first | exact (Kd.R_reads' HO146.out).2.2 | (with_reducible refine Kd.C_alloc ?_ _) | (with_reducible refine Kd.C_drewN ?_ _) | (with_reducible refine Kd.C_drew ?_))); (case side4 => exact (Kd.R_reads' HO146.out).2.1); rintro e w11 ⟨v148, rfl, ho0, hb⟩; refine ⟨_, rfl, ?_⟩; have n0_ := Aside0.mk (Kd.R_elder' (by (with_reducible repeat (first | apply Kd.R_alloc | apply Kd.R_drewN | apply Kd.R_drew)); exact HO_5.out) (Kd.R_base ho0) hb); have n1_ := Aside0.mk (Kd.R_elder' (by (with_reducible repeat (first | apply Kd.R_alloc | apply Kd.R_drewN | apply Kd.R_drew)); exact HO146.out) (Kd.R_base ho0) hb); have n2_ := Aside0.mk (Kd.R_lower (Kd.R_new' (Kd.R_new' ho0 (Kd.R_lt (by (with_reducible repeat (first | apply Kd.R_alloc | apply Kd.R_drewN | apply Kd.R_drew)); exact HO_5.out))) (Kd.R_lt (by (with_reducible repeat (first | apply Kd.R_alloc | apply Kd.R_drewN | apply Kd.R_drew)); exact HO146.out))) (below_size (by repeat (first | (with_reducible first | exact HB.out | apply below_alloc | apply pw_below_drewN | apply below_drew1) | exact HB.out)))); have n3_ := Aside0.mk (below_step (by repeat (first | (with_reducible first | exact HB.out | apply below_alloc | apply pw_below_drewN | apply below_drew1) | exact HB.out)) hb); clear HO_5; clear HO146; clear HB; have HO_5 := n0_; have HO146 := n1_; have HO149 := n2_; have HB := n3_; clear n0_ n1_ n2_ n3_; (try clear hb); (try clear hb2); (try clear hk); (try clear hi); (try clear ho0)))
        go_roundg k1
        case measure => have := HK1.out; omega
        case rel => exact ⟨(t147), (wrap64 (x6_1 + 1)), (by first | rfl | (simp; done) | (simp [*]; done)), H', ⟨by have := HK1.out; omega⟩, ⟨by (with_reducible repeat (first | apply Kd.R_alloc | apply Kd.R_drewN | apply Kd.R_drew)); exact Kd.R_mono HO149.out (fun _ hk => trivial)⟩, ⟨by repeat (first | (with_reducible first | exact HB.out | apply below_alloc | apply pw_below_drewN | apply below_drew1) | exact HB.out)⟩⟩
      · rw [if_neg c5] at H
        have c5b0 : decide (x6_1 < a1) = false := decide_eq_false c5
        clear c5
        obtain rfl := Option.some.inj H
        go_wp2
        go_ret
        exact ⟨_, by first | rfl | (simp [errW_none, errW_some] <;> rfl) | (simp [*, errW_none, errW_some] <;> rfl), by (with_reducible repeat (first | apply Kd.R_alloc | apply Kd.R_drewN | apply Kd.R_drew)); exact HO_5.out, by repeat (first | (with_reducible first | exact HB.out | apply below_alloc | apply pw_below_drewN | apply below_drew1) | exact HB.out)⟩

mutual
def cashbookref10_root.l0 : Nat → Int → Int → List Int → Int → Option (Int)
  | 0, _, _, _, _ => none
  | k + 1, x1, x5, x6, x7 => if x7 < x1 then ((cashbookref10_limbs.f 4294967296).bind fun t153 => ((cashbookref10_mul.f k x6 t153).bind fun t156 => (cashbookref10_root.l0 k x1 x5 t156 (wrap64 (x7 + 1))))) else (cashbookref10_root.l1 k x1 x5 x6 68719476736)
def cashbookref10_root.l1 : Nat → Int → Int → List Int → Int → Option (Int)
  | 0, _, _, _, _ => none
  | k + 1, x1, x5, x6, x8 => if x8 > 0 then ((cashbookref10_power.f k (IntKind.u64.wrap (x5 + x8)) x1).bind fun t159 => ((cashbookref10_most.f k t159 x6).bind fun t162 => (if t162 = true then (cashbookref10_root.l1 k x1 (IntKind.u64.wrap (x5 + x8)) x6 (IntKind.u64.wrap (Int.tdiv x8 2))) else (cashbookref10_root.l1 k x1 x5 x6 (IntKind.u64.wrap (Int.tdiv x8 2)))))) else (some ((Int.tmod x5 4294967296) % 4294967296))
end
def cashbookref10_root.f (k : Nat) (a0 : Int) (a1 : Int) : Option (Int) := (cashbookref10_limbs.f a0).bind fun t150 => (cashbookref10_root.l0 k a1 0 t150 0)
theorem cashbookref10_root.mono_l : ∀ k, (∀ y0 y1 y2 y3, LeO (cashbookref10_root.l0 k y0 y1 y2 y3) (cashbookref10_root.l0 (k + 1) y0 y1 y2 y3)) ∧ (∀ y0 y1 y2 y3, LeO (cashbookref10_root.l1 k y0 y1 y2 y3) (cashbookref10_root.l1 (k + 1) y0 y1 y2 y3))
  | 0 => ⟨fun _ _ _ _ r h => by simp [cashbookref10_root.l0] at h, fun _ _ _ _ r h => by simp [cashbookref10_root.l1] at h⟩
  | k + 1 => by
    obtain ⟨ih0, ih1⟩ := cashbookref10_root.mono_l k
    refine ⟨?_, ?_⟩
    · intro y0 y1 y2 y3
      unfold cashbookref10_root.l0
      repeat' first
      | (with_reducible exact ih0 _ _ _ _)
      | (with_reducible exact ih1 _ _ _ _)
      | (with_reducible exact cashbookref10_most.mono _ _ _)
      | (with_reducible exact cashbookref10_mul.mono _ _ _)
      | (with_reducible exact cashbookref10_power.mono _ _ _)
      | (with_reducible exact LeO.refl _)
      | (with_reducible exact LeO.none _)
      | (with_reducible refine LeO.ite ?_ ?_)
      | (with_reducible refine LeO.bind ?_ (fun _ => ?_))
      | exact ih0 _ _ _ _
      | exact ih1 _ _ _ _
      | exact cashbookref10_most.mono _ _ _
      | exact cashbookref10_mul.mono _ _ _
      | exact cashbookref10_power.mono _ _ _
      | exact LeO.none _
      | refine LeO.ite ?_ ?_
      | refine LeO.bind ?_ (fun _ => ?_)
    · intro y0 y1 y2 y3
      unfold cashbookref10_root.l1
      repeat' first
      | (with_reducible exact ih0 _ _ _ _)
      | (with_reducible exact ih1 _ _ _ _)
      | (with_reducible exact cashbookref10_most.mono _ _ _)
      | (with_reducible exact cashbookref10_mul.mono _ _ _)
      | (with_reducible exact cashbookref10_power.mono _ _ _)
      | (with_reducible exact LeO.refl _)
      | (with_reducible exact LeO.none _)
      | (with_reducible refine LeO.ite ?_ ?_)
      | (with_reducible refine LeO.bind ?_ (fun _ => ?_))
      | exact ih0 _ _ _ _
      | exact ih1 _ _ _ _
      | exact cashbookref10_most.mono _ _ _
      | exact cashbookref10_mul.mono _ _ _
      | exact cashbookref10_power.mono _ _ _
      | exact LeO.none _
      | refine LeO.ite ?_ ?_
      | refine LeO.bind ?_ (fun _ => ?_)
theorem cashbookref10_root.mono : ∀ a0 a1 k, LeO (cashbookref10_root.f k a0 a1) (cashbookref10_root.f (k + 1) a0 a1) := by
  intro a0 a1 k
  obtain ⟨ih0, ih1⟩ := cashbookref10_root.mono_l k
  unfold cashbookref10_root.f
  repeat' first
      | (with_reducible exact ih0 _ _ _ _)
      | (with_reducible exact ih1 _ _ _ _)
      | (with_reducible exact cashbookref10_most.mono _ _ _)
      | (with_reducible exact cashbookref10_mul.mono _ _ _)
      | (with_reducible exact cashbookref10_power.mono _ _ _)
      | (with_reducible exact LeO.refl _)
      | (with_reducible exact LeO.none _)
      | (with_reducible refine LeO.ite ?_ ?_)
      | (with_reducible refine LeO.bind ?_ (fun _ => ?_))
      | exact ih0 _ _ _ _
      | exact ih1 _ _ _ _
      | exact cashbookref10_most.mono _ _ _
      | exact cashbookref10_mul.mono _ _ _
      | exact cashbookref10_power.mono _ _ _
      | exact LeO.none _
      | refine LeO.ite ?_ ?_
      | refine LeO.bind ?_ (fun _ => ?_)
set_option maxHeartbeats 8000000 in
set_option maxRecDepth 100000 in
theorem cashbookref10_root.calls (k : Nat) (a0 : Int) (a1 : Int) (r : Int) (w : World) (h : cashbookref10_root.f k a0 a1 = some r) :
    Calls Tryd.prog 56 #[.int .u64 a0, .int .i64 a1] w fun e w' => e = .returned (.int .u32 r) ∧ Below w.heap.size w w' := by
  have HB := Aside0.mk (Below.refl w.heap.size w)
  have H : ((cashbookref10_limbs.f a0).bind fun t150 => (cashbookref10_root.l0 k a1 0 t150 0)) = some r := h
  clear h
  replace H := Option.bind_eq_some_iff.mp H
  obtain ⟨t150, A30, H⟩ := H
  replace H : (cashbookref10_root.l0 k a1 0 t150 0) = some r := H
  have A3 := Aside0.mk A30
  clear A30
  have H' := Aside0.mk H
  clear H
  go_enter Tryd.func56, Tryd.ntmps56
  go_wp2_with (first | ((with_reducible refine gate_callee (f := 84) rfl ?_); refine goesL_ (some 10) rfl rfl Tryd.func84 (by kernel_rfl) rfl #[.int .u64 a0] rfl (by (try simp only [List.map_toArray, List.map_cons, List.map_nil]); first | done | rfl | (simp only [List.length_drop, List.length_take]; rfl)) ?_; (with_reducible refine (cashbookref10_limbs.calls a0 t150 _ A3.out).mono ?_); rintro e w4 ⟨v151, rfl, ho0, hb⟩; refine ⟨_, rfl, ?_⟩; have n0_ := Aside0.mk (Kd.R_lower ho0 (below_size (by repeat (first | (with_reducible first | exact HB.out | apply below_alloc | apply pw_below_drewN | apply below_drew1) | exact HB.out)))); have n1_ := Aside0.mk (below_step (by repeat (first | (with_reducible first | exact HB.out | apply below_alloc | apply pw_below_drewN | apply below_drew1) | exact HB.out)) hb); clear HB; have HO152 := n0_; have HB := n1_; clear n0_ n1_; (try clear hb); (try clear hb2); (try clear hk); (try clear hi); (try clear ho0)))
  go_loopg [6, 7] k (fun kq v6 v7 w' => ∃ (x6_1 : List Int) (x7_1 : Int), v7 = .int .i64 x7_1 ∧ Aside0 (cashbookref10_root.l0 kq a1 0 x6_1 x7_1 = some r) ∧ Aside0 (kq ≤ k) ∧ Aside0 (Kd.R (Kd.int .u64) 44 w' w.heap.size (fun _ => True) v6 x6_1) ∧ Aside0 (Below w.heap.size w w'))
  case atStart => exact ⟨(t150), (0), (by first | rfl | (simp; done) | (simp [*]; done)), H', ⟨Nat.le_refl _⟩, ⟨by (with_reducible repeat (first | apply Kd.R_alloc | apply Kd.R_drewN | apply Kd.R_drew)); exact HO152.out⟩, ⟨by repeat (first | (with_reducible first | exact HB.out | apply below_alloc | apply pw_below_drewN | apply below_drew1) | exact HB.out)⟩⟩
  case round =>
    clear H'
    try clear p2
    obtain ⟨x6_1, x7_1, rfl, HA, HK1, HO_6, HB⟩ := hrel
    cases gk with
    | zero => exact absurd HA.out (by simp [cashbookref10_root.l0])
    | succ k1 =>
      have H := HA.out
      clear HA
      simp only [cashbookref10_root.l0] at H
      by_cases c5 : x7_1 < a1
      · rw [if_pos c5] at H
        have c5b0 : decide (x7_1 < a1) = true := decide_eq_true c5
        clear c5
        replace H := Option.bind_eq_some_iff.mp H
        obtain ⟨t153, A60, H⟩ := H
        replace H : ((cashbookref10_mul.f k1 x6_1 t153).bind fun t156 => (cashbookref10_root.l0 k1 a1 0 t156 (wrap64 (x7_1 + 1)))) = some r := H
        have A6 := Aside0.mk A60
        clear A60
        replace H := Option.bind_eq_some_iff.mp H
        obtain ⟨t156, A70, H⟩ := H
        replace H : (cashbookref10_root.l0 k1 a1 0 t156 (wrap64 (x7_1 + 1))) = some r := H
        have A7 := Aside0.mk A70
        clear A70
        have H' := Aside0.mk H
        clear H
        go_wp2_with (first | ((with_reducible refine gate_callee (f := 84) rfl ?_); refine goesL_ (some 17) rfl rfl Tryd.func84 (by kernel_rfl) rfl #[.int .u64 4294967296] rfl (by (try simp only [List.map_toArray, List.map_cons, List.map_nil]); first | done | rfl | (simp only [List.length_drop, List.length_take]; rfl)) ?_; (with_reducible refine (cashbookref10_limbs.calls 4294967296 t153 _ A6.out).mono ?_); rintro e w8 ⟨v154, rfl, ho0, hb⟩; refine ⟨_, rfl, ?_⟩; have n0_ := Aside0.mk (Kd.R_elder' (by (with_reducible repeat (first | apply Kd.R_alloc | apply Kd.R_drewN | apply Kd.R_drew)); exact HO_6.out) (Kd.R_base ho0) hb); have n1_ := Aside0.mk (Kd.R_lower (Kd.R_new' ho0 (Kd.R_lt (by (with_reducible repeat (first | apply Kd.R_alloc | apply Kd.R_drewN | apply Kd.R_drew)); exact HO_6.out))) (below_size (by repeat (first | (with_reducible first | exact HB.out | apply below_alloc | apply pw_below_drewN | apply below_drew1) | exact HB.out)))); have n2_ := Aside0.mk (below_step (by repeat (first | (with_reducible first | exact HB.out | apply below_alloc | apply pw_below_drewN | apply below_drew1) | exact HB.out)) hb); clear HO_6; clear HB; have HO_6 := n0_; have HO155 := n1_; have HB := n2_; clear n0_ n1_ n2_; (try clear hb); (try clear hb2); (try clear hk); (try clear hi); (try clear ho0); obtain ⟨Ao9, co9, eo9⟩ := Kd.R_slice HO_6.out; subst eo9; obtain ⟨Ao10, co10, eo10⟩ := Kd.R_slice HO155.out; subst eo10) | ((with_reducible refine gate_callee (f := 85) rfl ?_); refine goesL_ (some 18) rfl rfl Tryd.func85 (by kernel_rfl) rfl #[.slice Ao9 x6_1.length co9, .slice Ao10 t153.length co10] rfl (by (try simp only [List.map_toArray, List.map_cons, List.map_nil]); first | done | rfl | (simp only [List.length_drop, List.length_take]; rfl)) ?_; (with_reducible refine (cashbookref10_mul.calls k1 _ _ x6_1 _ _ t153 t156 _ ?side1 ?side2 ?side3 ?side4 A7.out).mono ?_); (case side1 => repeat (first | exact (Kd.R_reads' HO_6.out).2.2 | (with_reducible refine Kd.C_alloc ?_ _) | (with_reducible refine Kd.C_drewN ?_ _) | (with_reducible refine Kd.C_drew ?_))); (case side2 => exact (Kd.R_reads' HO_6.out).2.1); (case side3 => repeat (first | exact (Kd.R_reads' HO155.out).2.2 | (with_reducible refine Kd.C_alloc ?_ _) | (with_reducible refine Kd.C_drewN ?_ _) | (with_reducible refine Kd.C_drew ?_))); (case side4 => exact (Kd.R_reads' HO155.out).2.1); rintro e w11 ⟨v157, rfl, ho0, hb⟩; refine ⟨_, rfl, ?_⟩; have n0_ := Aside0.mk (Kd.R_elder' (by (with_reducible repeat (first | apply Kd.R_alloc | apply Kd.R_drewN | apply Kd.R_drew)); exact HO_6.out) (Kd.R_base ho0) hb); have n1_ := Aside0.mk (Kd.R_elder' (by (with_reducible repeat (first | apply Kd.R_alloc | apply Kd.R_drewN | apply Kd.R_drew)); exact HO155.out) (Kd.R_base ho0) hb); have n2_ := Aside0.mk (Kd.R_lower (Kd.R_new' (Kd.R_new' ho0 (Kd.R_lt (by (with_reducible repeat (first | apply Kd.R_alloc | apply Kd.R_drewN | apply Kd.R_drew)); exact HO_6.out))) (Kd.R_lt (by (with_reducible repeat (first | apply Kd.R_alloc | apply Kd.R_drewN | apply Kd.R_drew)); exact HO155.out))) (below_size (by repeat (first | (with_reducible first | exact HB.out | apply below_alloc | apply pw_below_drewN | apply below_drew1) | exact HB.out)))); have n3_ := Aside0.mk (below_step (by repeat (first | (with_reducible first | exact HB.out | apply below_alloc | apply pw_below_drewN | apply below_drew1) | exact HB.out)) hb); clear HO_6; clear HO155; clear HB; have HO_6 := n0_; have HO155 := n1_; have HO158 := n2_; have HB := n3_; clear n0_ n1_ n2_ n3_; (try clear hb); (try clear hb2); (try clear hk); (try clear hi); (try clear ho0)))
        go_roundg k1
        case measure => have := HK1.out; omega
        case rel => exact ⟨(t156), (wrap64 (x7_1 + 1)), (by first | rfl | (simp; done) | (simp [*]; done)), H', ⟨by have := HK1.out; omega⟩, ⟨by (with_reducible repeat (first | apply Kd.R_alloc | apply Kd.R_drewN | apply Kd.R_drew)); exact Kd.R_mono HO158.out (fun _ hk => trivial)⟩, ⟨by repeat (first | (with_reducible first | exact HB.out | apply below_alloc | apply pw_below_drewN | apply below_drew1) | exact HB.out)⟩⟩
      · rw [if_neg c5] at H
        have c5b0 : decide (x7_1 < a1) = false := decide_eq_false c5
        clear c5
        have H' := Aside0.mk H
        clear H
        go_wp2
        go_loopg [5, 8] k1 (fun kq v5 v8 w' => ∃ (x5_2 : Int) (x8_2 : Int), v5 = .int .u64 x5_2 ∧ v8 = .int .u64 x8_2 ∧ Aside0 (cashbookref10_root.l1 kq a1 x5_2 x6_1 x8_2 = some r) ∧ Aside0 (kq ≤ k1) ∧ Aside0 (Kd.R (Kd.int .u64) 44 w' w.heap.size (fun _ => True) u6 x6_1) ∧ Aside0 (Below w.heap.size w w'))
        case atStart => exact ⟨(0), (68719476736), (by first | rfl | (simp; done) | (simp [*]; done)), (by first | rfl | (simp; done) | (simp [*]; done)), H', ⟨Nat.le_refl _⟩, ⟨by (with_reducible repeat (first | apply Kd.R_alloc | apply Kd.R_drewN | apply Kd.R_drew)); exact HO_6.out⟩, ⟨by repeat (first | (with_reducible first | exact HB.out | apply below_alloc | apply pw_below_drewN | apply below_drew1) | exact HB.out)⟩⟩
        case round =>
          clear H'
          try clear p2
          try clear c5
          try clear c5b0
          try clear p6
          try clear c8
          try clear p2
          obtain ⟨x5_2, x8_2, rfl, rfl, HA, HK2, HO_6, HB⟩ := hrel
          cases gk with
          | zero => exact absurd HA.out (by simp [cashbookref10_root.l1])
          | succ k2 =>
            have H := HA.out
            clear HA
            simp only [cashbookref10_root.l1] at H
            by_cases c12 : x8_2 > 0
            · rw [if_pos c12] at H
              have c12b0 : decide (0 < x8_2) = true := decide_eq_true c12
              clear c12
              replace H := Option.bind_eq_some_iff.mp H
              obtain ⟨t159, A130, H⟩ := H
              replace H : ((cashbookref10_most.f k2 t159 x6_1).bind fun t162 => (if t162 = true then (cashbookref10_root.l1 k2 a1 (IntKind.u64.wrap (x5_2 + x8_2)) x6_1 (IntKind.u64.wrap (Int.tdiv x8_2 2))) else (cashbookref10_root.l1 k2 a1 x5_2 x6_1 (IntKind.u64.wrap (Int.tdiv x8_2 2))))) = some r := H
              have A13 := Aside0.mk A130
              clear A130
              replace H := Option.bind_eq_some_iff.mp H
              obtain ⟨t162, A140, H⟩ := H
              replace H : (if t162 = true then (cashbookref10_root.l1 k2 a1 (IntKind.u64.wrap (x5_2 + x8_2)) x6_1 (IntKind.u64.wrap (Int.tdiv x8_2 2))) else (cashbookref10_root.l1 k2 a1 x5_2 x6_1 (IntKind.u64.wrap (Int.tdiv x8_2 2)))) = some r := H
              have A14 := Aside0.mk A140
              clear A140
              by_cases c15 : t162 = true
              · subst c15
                have H1 : (cashbookref10_root.l1 k2 a1 (IntKind.u64.wrap (x5_2 + x8_2)) x6_1 (IntKind.u64.wrap (Int.tdiv x8_2 2))) = some r := by rw [if_pos rfl] at H; exact H
                clear H
                have H := H1
                clear H1
                have H' := Aside0.mk H
                clear H
                go_wp2_with (first | ((with_reducible refine gate_callee (f := 87) rfl ?_); refine goesL_ (some 27) rfl rfl Tryd.func87 (by kernel_rfl) rfl #[.int .u64 (IntKind.u64.wrap (x5_2 + x8_2)), .int .i64 a1] rfl (by (try simp only [List.map_toArray, List.map_cons, List.map_nil]); first | done | rfl | (simp only [List.length_drop, List.length_take]; rfl)) ?_; (with_reducible refine (cashbookref10_power.calls k2 (IntKind.u64.wrap (x5_2 + x8_2)) a1 t159 _ A13.out).mono ?_); rintro e w16 ⟨v160, rfl, ho0, hb⟩; refine ⟨_, rfl, ?_⟩; have n0_ := Aside0.mk (Kd.R_elder' (by (with_reducible repeat (first | apply Kd.R_alloc | apply Kd.R_drewN | apply Kd.R_drew)); exact HO_6.out) (Kd.R_base ho0) hb); have n1_ := Aside0.mk (Kd.R_lower (Kd.R_new' ho0 (Kd.R_lt (by (with_reducible repeat (first | apply Kd.R_alloc | apply Kd.R_drewN | apply Kd.R_drew)); exact HO_6.out))) (below_size (by repeat (first | (with_reducible first | exact HB.out | apply below_alloc | apply pw_below_drewN | apply below_drew1) | exact HB.out)))); have n2_ := Aside0.mk (below_step (by repeat (first | (with_reducible first | exact HB.out | apply below_alloc | apply pw_below_drewN | apply below_drew1) | exact HB.out)) hb); clear HO_6; clear HB; have HO_6 := n0_; have HO161 := n1_; have HB := n2_; clear n0_ n1_ n2_; (try clear hb); (try clear hb2); (try clear hk); (try clear hi); (try clear ho0); obtain ⟨Ao17, co17, eo17⟩ := Kd.R_slice HO161.out; subst eo17; obtain ⟨Ao18, co18, eo18⟩ := Kd.R_slice HO_6.out; subst eo18) | ((with_reducible refine gate_callee (f := 86) rfl ?_); refine goesL_ (some 29) rfl rfl Tryd.func86 (by kernel_rfl) rfl #[.slice Ao17 t159.length co17, .slice Ao18 x6_1.length co18] rfl (by (try simp only [List.map_toArray, List.map_cons, List.map_nil]); first | done | rfl | (simp only [List.length_drop, List.length_take]; rfl)) ?_; (with_reducible refine (cashbookref10_most.calls k2 _ _ t159 _ _ x6_1 true _ ?side1 ?side2 ?side3 ?side4 A14.out).mono ?_); (case side1 => repeat (first | exact (Kd.R_reads' HO161.out).2.2 | (with_reducible refine Kd.C_alloc ?_ _) | (with_reducible refine Kd.C_drewN ?_ _) | (with_reducible refine Kd.C_drew ?_))); (case side2 => exact (Kd.R_reads' HO161.out).2.1); (case side3 => repeat (first | exact (Kd.R_reads' HO_6.out).2.2 | (with_reducible refine Kd.C_alloc ?_ _) | (with_reducible refine Kd.C_drewN ?_ _) | (with_reducible refine Kd.C_drew ?_))); (case side4 => exact (Kd.R_reads' HO_6.out).2.1); rintro e w19 ⟨rfl, hb⟩; refine ⟨_, rfl, ?_⟩; have n0_ := Aside0.mk (Kd.R_below (by (with_reducible repeat (first | apply Kd.R_alloc | apply Kd.R_drewN | apply Kd.R_drew)); exact HO_6.out) hb); have n1_ := Aside0.mk (Kd.R_below (by (with_reducible repeat (first | apply Kd.R_alloc | apply Kd.R_drewN | apply Kd.R_drew)); exact HO161.out) hb); have n2_ := Aside0.mk (below_step (by repeat (first | (with_reducible first | exact HB.out | apply below_alloc | apply pw_below_drewN | apply below_drew1) | exact HB.out)) hb); clear HO_6; clear HO161; clear HB; have HO_6 := n0_; have HO161 := n1_; have HB := n2_; clear n0_ n1_ n2_; (try clear hb); (try clear hb2); (try clear hk); (try clear hi)))
                go_roundg k2
                case measure => have := HK1.out; have := HK2.out; omega
                case rel => exact ⟨(IntKind.u64.wrap (x5_2 + x8_2)), (IntKind.u64.wrap (Int.tdiv x8_2 2)), (by first | rfl | (simp; done) | (simp [*]; done)), (by first | rfl | (simp; done) | (simp [*]; done)), H', ⟨by have := HK1.out; have := HK2.out; omega⟩, ⟨by (with_reducible repeat (first | apply Kd.R_alloc | apply Kd.R_drewN | apply Kd.R_drew)); exact Kd.R_mono HO_6.out (fun _ hk => trivial)⟩, ⟨by repeat (first | (with_reducible first | exact HB.out | apply below_alloc | apply pw_below_drewN | apply below_drew1) | exact HB.out)⟩⟩
              · replace c15 := Bool.eq_false_iff.mpr c15
                subst c15
                have H1 : (cashbookref10_root.l1 k2 a1 x5_2 x6_1 (IntKind.u64.wrap (Int.tdiv x8_2 2))) = some r := by rw [if_neg (show ¬ (false = true) by decide)] at H; exact H
                clear H
                have H := H1
                clear H1
                have H' := Aside0.mk H
                clear H
                go_wp2_with (first | ((with_reducible refine gate_callee (f := 87) rfl ?_); refine goesL_ (some 27) rfl rfl Tryd.func87 (by kernel_rfl) rfl #[.int .u64 (IntKind.u64.wrap (x5_2 + x8_2)), .int .i64 a1] rfl (by (try simp only [List.map_toArray, List.map_cons, List.map_nil]); first | done | rfl | (simp only [List.length_drop, List.length_take]; rfl)) ?_; (with_reducible refine (cashbookref10_power.calls k2 (IntKind.u64.wrap (x5_2 + x8_2)) a1 t159 _ A13.out).mono ?_); rintro e w20 ⟨v160, rfl, ho0, hb⟩; refine ⟨_, rfl, ?_⟩; have n0_ := Aside0.mk (Kd.R_elder' (by (with_reducible repeat (first | apply Kd.R_alloc | apply Kd.R_drewN | apply Kd.R_drew)); exact HO_6.out) (Kd.R_base ho0) hb); have n1_ := Aside0.mk (Kd.R_lower (Kd.R_new' ho0 (Kd.R_lt (by (with_reducible repeat (first | apply Kd.R_alloc | apply Kd.R_drewN | apply Kd.R_drew)); exact HO_6.out))) (below_size (by repeat (first | (with_reducible first | exact HB.out | apply below_alloc | apply pw_below_drewN | apply below_drew1) | exact HB.out)))); have n2_ := Aside0.mk (below_step (by repeat (first | (with_reducible first | exact HB.out | apply below_alloc | apply pw_below_drewN | apply below_drew1) | exact HB.out)) hb); clear HO_6; clear HB; have HO_6 := n0_; have HO161 := n1_; have HB := n2_; clear n0_ n1_ n2_; (try clear hb); (try clear hb2); (try clear hk); (try clear hi); (try clear ho0); obtain ⟨Ao21, co21, eo21⟩ := Kd.R_slice HO161.out; subst eo21; obtain ⟨Ao22, co22, eo22⟩ := Kd.R_slice HO_6.out; subst eo22) | ((with_reducible refine gate_callee (f := 86) rfl ?_); refine goesL_ (some 29) rfl rfl Tryd.func86 (by kernel_rfl) rfl #[.slice Ao21 t159.length co21, .slice Ao22 x6_1.length co22] rfl (by (try simp only [List.map_toArray, List.map_cons, List.map_nil]); first | done | rfl | (simp only [List.length_drop, List.length_take]; rfl)) ?_; (with_reducible refine (cashbookref10_most.calls k2 _ _ t159 _ _ x6_1 false _ ?side1 ?side2 ?side3 ?side4 A14.out).mono ?_); (case side1 => repeat (first | exact (Kd.R_reads' HO161.out).2.2 | (with_reducible refine Kd.C_alloc ?_ _) | (with_reducible refine Kd.C_drewN ?_ _) | (with_reducible refine Kd.C_drew ?_))); (case side2 => exact (Kd.R_reads' HO161.out).2.1); (case side3 => repeat (first | exact (Kd.R_reads' HO_6.out).2.2 | (with_reducible refine Kd.C_alloc ?_ _) | (with_reducible refine Kd.C_drewN ?_ _) | (with_reducible refine Kd.C_drew ?_))); (case side4 => exact (Kd.R_reads' HO_6.out).2.1); rintro e w23 ⟨rfl, hb⟩; refine ⟨_, rfl, ?_⟩; have n0_ := Aside0.mk (Kd.R_below (by (with_reducible repeat (first | apply Kd.R_alloc | apply Kd.R_drewN | apply Kd.R_drew)); exact HO_6.out) hb); have n1_ := Aside0.mk (Kd.R_below (by (with_reducible repeat (first | apply Kd.R_alloc | apply Kd.R_drewN | apply Kd.R_drew)); exact HO161.out) hb); have n2_ := Aside0.mk (below_step (by repeat (first | (with_reducible first | exact HB.out | apply below_alloc | apply pw_below_drewN | apply below_drew1) | exact HB.out)) hb); clear HO_6; clear HO161; clear HB; have HO_6 := n0_; have HO161 := n1_; have HB := n2_; clear n0_ n1_ n2_; (try clear hb); (try clear hb2); (try clear hk); (try clear hi)))
                go_roundg k2
                case measure => have := HK1.out; have := HK2.out; omega
                case rel => exact ⟨(x5_2), (IntKind.u64.wrap (Int.tdiv x8_2 2)), (by first | rfl | (simp; done) | (simp [*]; done)), (by first | rfl | (simp; done) | (simp [*]; done)), H', ⟨by have := HK1.out; have := HK2.out; omega⟩, ⟨by (with_reducible repeat (first | apply Kd.R_alloc | apply Kd.R_drewN | apply Kd.R_drew)); exact Kd.R_mono HO_6.out (fun _ hk => trivial)⟩, ⟨by repeat (first | (with_reducible first | exact HB.out | apply below_alloc | apply pw_below_drewN | apply below_drew1) | exact HB.out)⟩⟩
            · rw [if_neg c12] at H
              have c12b0 : decide (0 < x8_2) = false := decide_eq_false c12
              clear c12
              obtain rfl := Option.some.inj H
              go_wp2
              go_ret
              exact ⟨by first | rfl | (simp [errW_none, errW_some] <;> rfl) | (simp [*, errW_none, errW_some] <;> rfl), by repeat (first | (with_reducible first | exact HB.out | apply below_alloc | apply pw_below_drewN | apply below_drew1) | exact HB.out)⟩

def cashbookref10_turn.f (a0 : Int) (a1 : Int) : Option (Int) := if 0 ≤ (IntKind.u64.wrap (a1)) then (if 0 ≤ (IntKind.u64.wrap (wrap64 (32 - a1))) then (some (Go.bits .or .u32 (shr .u32 a0 (IntKind.u64.wrap (a1))) (shl .u32 a0 (IntKind.u64.wrap (wrap64 (32 - a1)))))) else (none)) else (none)
set_option maxHeartbeats 8000000 in
set_option maxRecDepth 100000 in
theorem cashbookref10_turn.calls (a0 : Int) (a1 : Int) (r : Int) (w : World) (h : cashbookref10_turn.f a0 a1 = some r) :
    Calls Tryd.prog 103 #[.int .u32 a0, .int .i64 a1] w fun e w' => e = .returned (.int .u32 r) ∧ Drawn0 w w' := by
  have H : (if 0 ≤ (IntKind.u64.wrap (a1)) then (if 0 ≤ (IntKind.u64.wrap (wrap64 (32 - a1))) then (some (Go.bits .or .u32 (shr .u32 a0 (IntKind.u64.wrap (a1))) (shl .u32 a0 (IntKind.u64.wrap (wrap64 (32 - a1)))))) else (none)) else (none)) = some r := h
  clear h
  obtain ⟨ji3, hji3⟩ : ∃ j_ : Int, (IntKind.u64.wrap (a1)) = j_ := ⟨_, rfl⟩
  replace H : (if 0 ≤ (ji3) then (if 0 ≤ (IntKind.u64.wrap (wrap64 (32 - a1))) then (some (Go.bits .or .u32 (shr .u32 a0 (ji3)) (shl .u32 a0 (IntKind.u64.wrap (wrap64 (32 - a1)))))) else (none)) else (none)) = some r := by first | (rw [hji3] at H; exact H) | (simp only [hji3] at H ⊢; exact H)
  by_cases c4 : 0 ≤ (ji3)
  · rw [if_pos c4] at H
    have c4b0 := eq_true c4
    have c4b1 : decide (0 ≤ (ji3)) = true := decide_eq_true c4
    clear c4
    obtain ⟨ji5, hji5⟩ : ∃ j_ : Int, (shr .u32 a0 (ji3)) = j_ := ⟨_, rfl⟩
    replace H : (if 0 ≤ (IntKind.u64.wrap (wrap64 (32 - a1))) then (some (Go.bits .or .u32 (ji5) (shl .u32 a0 (IntKind.u64.wrap (wrap64 (32 - a1)))))) else (none)) = some r := by first | (rw [hji5] at H; exact H) | (simp only [hji5] at H ⊢; exact H)
    have hji5_ : (a0 / 2 ^ min (ji3).toNat 32) = ji5 := hji5
    have hji5z : (ji3) ≤ 32 → (a0 / 2 ^ (ji3).toNat) = ji5 := shr_small hji5
    obtain ⟨ji6, hji6⟩ : ∃ j_ : Int, (IntKind.u64.wrap (wrap64 (32 - a1))) = j_ := ⟨_, rfl⟩
    replace H : (if 0 ≤ (ji6) then (some (Go.bits .or .u32 (ji5) (shl .u32 a0 (ji6)))) else (none)) = some r := by first | (rw [hji6] at H; exact H) | (simp only [hji6] at H ⊢; exact H)
    by_cases c7 : 0 ≤ (ji6)
    · rw [if_pos c7] at H
      have c7b0 := eq_true c7
      have c7b1 : decide (0 ≤ (ji6)) = true := decide_eq_true c7
      clear c7
      obtain ⟨ji8, hji8⟩ : ∃ j_ : Int, (shl .u32 a0 (ji6)) = j_ := ⟨_, rfl⟩
      replace H : (some (Go.bits .or .u32 (ji5) (ji8))) = some r := by first | (rw [hji8] at H; exact H) | (simp only [hji8] at H ⊢; exact H)
      have hji8_ : (IntKind.u32.wrap (a0 * 2 ^ min (ji6).toNat 32)) = ji8 := hji8
      have hji8z : (ji6) ≤ 32 → (IntKind.u32.wrap (a0 * 2 ^ (ji6).toNat)) = ji8 := shl_small hji8
      obtain rfl := Option.some.inj H
      go_enter Tryd.func103, Tryd.ntmps103
      go_wp2
      go_ret
      exact ⟨by first | rfl | (simp; done) | (simp only [← hji3, ← hji5, ← hji6, ← hji8] <;> (first | rfl | simp)) | (simp [*]; done), by repeat (first | exact Drawn0.refl _ | apply Drawn0.step)⟩
    · rw [if_neg c7] at H
      exact absurd H (by simp)
  · rw [if_neg c4] at H
    exact absurd H (by simp)

end Go.Proofs.YtldpnmebjnkjeaaDoor.PH1
namespace Go.Proofs.YtldpnmebjnkjeaaDoor.Ref10
open Go.RowKit Go.Proofs.YtldpnmebjnkjeaaDoorW.PrintWords Go.Proofs.YtldpnmebjnkjeaaDoor.PH1
set_option linter.unusedVariables false
set_option linter.unusedSimpArgs false

theorem limbs_run (x : Nat) (hx : x < 18446744073709551616) : cashbookref10_limbs.f (x : Int) = some (cz (digs 4 x)) := by
  unfold cashbookref10_limbs.f
  rw [Int.tmod_eq_emod_of_nonneg (by omega), Int.tdiv_eq_ediv_of_nonneg (by omega), Int.tdiv_eq_ediv_of_nonneg (by omega), Int.tdiv_eq_ediv_of_nonneg (by omega)]
  rw [show (x : Int) / 65536 = ((x / 65536 : Nat) : Int) by omega, show (x : Int) / 4294967296 = ((x / 4294967296 : Nat) : Int) by omega, show (x : Int) / 281474976710656 = ((x / 281474976710656 : Nat) : Int) by omega]
  rw [u64_nat _ (by omega), u64_nat _ (by omega), u64_nat _ (by omega)]
  rw [Int.tmod_eq_emod_of_nonneg (by omega), Int.tmod_eq_emod_of_nonneg (by omega)]
  show _ = some [((x % 65536 : Nat) : Int), ((x / 65536 % 65536 : Nat) : Int), ((x / 65536 / 65536 % 65536 : Nat) : Int), ((x / 65536 / 65536 / 65536 % 65536 : Nat) : Int)]
  have e1 : x / 65536 / 65536 = x / 4294967296 := by rw [Nat.div_div_eq_div_mul]
  have e2 : x / 4294967296 / 65536 = x / 281474976710656 := by rw [Nat.div_div_eq_div_mul]
  rw [e1, e2]
  congr 2
  congr 2
  congr 2
  congr 1
  omega
/-- One limb more of the cube or the square. -/
theorem power_run (x : Nat) (hx : x < 68719476736 * 4) (t : Nat) (ht : t = 2 ∨ t = 3) (k : Nat) (hk : 400 ≤ k) :
    cashbookref10_power.f k (x : Int) (t : Int) = some (cz (digs (4 * t) (x ^ t))) := by
  obtain ⟨q, rfl⟩ : ∃ q, k = q + 3 := ⟨k - 3, by omega⟩
  have hx4 : x < 65536 ^ 4 := by omega
  have h1 := mul_run 4 4 x x (q + 2) (by omega) (by omega) hx4 hx4 (by omega)
  have hxx : x * x < 65536 ^ 8 := by
    have := Nat.mul_lt_mul'' hx4 hx4
    rwa [← Nat.pow_add] at this
  have h2 := mul_run 8 4 (x * x) x (q + 1) (by omega) (by omega) hxx hx4 (by omega)
  unfold cashbookref10_power.f
  rw [limbs_run x (by omega), Option.bind_some, cashbookref10_power.l0]
  rw [if_pos (by omega), limbs_run x (by omega), Option.bind_some, h1, Option.bind_some, show (1 : Int) + 1 = ((2 : Nat) : Int) by rfl, w64_nat _ (by omega), cashbookref10_power.l0]
  rcases ht with rfl | rfl
  · rw [if_neg (by omega), Nat.pow_two]
  · rw [if_pos (by omega), limbs_run x (by omega), Option.bind_some, h2, Option.bind_some, show ((2 : Nat) : Int) + 1 = ((3 : Nat) : Int) by rfl, w64_nat _ (by omega), cashbookref10_power.l0, if_neg (by omega)]
    rw [show x ^ 3 = x * x * x by rw [Nat.pow_succ, Nat.pow_two]]
theorem digs_get : ∀ (n x i : Nat), i < n → (digs n x).getD i 0 = x / 65536 ^ i % 65536
  | 0, _, _, h => by omega
  | n + 1, x, 0, _ => by simp [digs]
  | n + 1, x, i + 1, h => by
    rw [digs, List.getD_cons_succ, digs_get n _ i (by omega), Nat.div_div_eq_div_mul, Nat.pow_succ, Nat.mul_comm 65536]
theorem at_run (n x i : Nat) (hx : x < 65536 ^ n) : cashbookref10_at.f (cz (digs n x)) (i : Int) = some ((x / 65536 ^ i % 65536 : Nat) : Int) := by
  unfold cashbookref10_at.f
  rw [cz_len, digs_len]
  by_cases h : i < n
  · rw [if_pos (by omega), if_pos (by omega), cz_rd, digs_get n x i h]
  · rw [if_neg (by omega)]
    have h2 : x / 65536 ^ i = 0 := Nat.div_eq_of_lt (Nat.lt_of_lt_of_le hx (Nat.pow_le_pow_right (by omega) (by omega)))
    rw [h2]; rfl
theorem mod_step (x j : Nat) : x % 65536 ^ (j + 1) = 65536 ^ j * (x / 65536 ^ j % 65536) + x % 65536 ^ j := by
  rw [Nat.pow_succ, Nat.mod_mul, Nat.add_comm]
theorem most_l0 (n m x y : Nat) (hx : x < 65536 ^ n) (hy : y < 65536 ^ m) (k : Nat) : ∀ j, j ≤ 1000 →
    cashbookref10_most.l0 (j + 1 + k) (cz (digs n x)) (cz (digs m y)) ((j : Int) - 1) = some (decide (x % 65536 ^ j ≤ y % 65536 ^ j))
  | 0, _ => by
    rw [show 0 + 1 + k = k + 1 by omega, cashbookref10_most.l0, if_neg (by omega)]
    simp [Nat.mod_one]
  | j + 1, h => by
    have ih := most_l0 n m x y hx hy k j (by omega)
    rw [show j + 1 + 1 + k = (j + 1 + k) + 1 by omega, cashbookref10_most.l0, if_pos (by omega), show ((j + 1 : Nat) : Int) - 1 = (j : Int) by omega, at_run n x j hx, at_run m y j hy, Option.bind_some, Option.bind_some]
    have hp : 0 < 65536 ^ j := Nat.pow_pos (by omega)
    have h1 := Nat.mod_lt x hp
    have h2 := Nat.mod_lt y hp
    rw [mod_step x j, mod_step y j]
    generalize x / 65536 ^ j % 65536 = dx
    generalize y / 65536 ^ j % 65536 = dy
    generalize x % 65536 ^ j = rx at ih h1 ⊢
    generalize y % 65536 ^ j = ry at ih h2 ⊢
    generalize 65536 ^ j = B at h1 h2 hp ⊢
    by_cases he : dx = dy
    · subst he
      rw [if_pos rfl, Go.IntWalk.wrap64_in _ ⟨by omega, by omega⟩, ih]
      congr 1
      rw [decide_eq_decide]
      omega
    · rw [if_neg (by omega), Option.bind_some, Option.bind_some]
      congr 1
      rw [decide_eq_decide]
      constructor
      · intro hlt
        have h3 : dx + 1 ≤ dy := by omega
        have h4 : B * (dx + 1) ≤ B * dy := Nat.mul_le_mul_left _ h3
        rw [Nat.mul_add] at h4
        omega
      · intro hle
        rcases Nat.lt_or_ge dx dy with h5 | h5
        · omega
        · exfalso
          have h3 : dy + 1 ≤ dx := by omega
          have h4 : B * (dy + 1) ≤ B * dx := Nat.mul_le_mul_left _ h3
          rw [Nat.mul_add] at h4
          omega
theorem most_run (n m x y : Nat) (hn : n ≤ m) (hm : m ≤ 900) (hx : x < 65536 ^ n) (hy : y < 65536 ^ m) (k : Nat) (hk : m + 1 ≤ k) :
    cashbookref10_most.f k (cz (digs n x)) (cz (digs m y)) = some (decide (x ≤ y)) := by
  obtain ⟨q, rfl⟩ : ∃ q, k = m + 1 + q := ⟨k - (m + 1), by omega⟩
  unfold cashbookref10_most.f
  have hmx : mx ((cz (digs n x)).length : Int) ((cz (digs m y)).length : Int) = (m : Int) := by
    rw [cz_len, cz_len, digs_len, digs_len]; unfold mx; split <;> omega
  rw [hmx, Go.IntWalk.wrap64_in _ ⟨by omega, by omega⟩, most_l0 n m x y hx hy q m (by omega)]
  have h1 : x % 65536 ^ m = x := Nat.mod_eq_of_lt (Nat.lt_of_lt_of_le hx (Nat.pow_le_pow_right (by omega) hn))
  rw [h1, Nat.mod_eq_of_lt hy]
/-- The greatest number whose power is at most the aim, bit by bit. -/
def rootS (t aim : Nat) : Nat → Nat → Nat
  | 0, n => n
  | b + 1, n => if (n + 2 ^ b) ^ t ≤ aim then rootS t aim b (n + 2 ^ b) else rootS t aim b n
theorem root_l1 (t : Nat) (ht : t = 2 ∨ t = 3) (aim : Nat) (ha : aim < 65536 ^ (4 + 4 * t)) (k : Nat) : ∀ (b n : Nat), b ≤ 37 → n + 2 ^ b ≤ 137438953472 →
    cashbookref10_root.l1 (b + 500 + k) (t : Int) (n : Int) (cz (digs (4 + 4 * t) aim)) (if b = 0 then 0 else ((2 ^ (b - 1) : Nat) : Int)) = some ((rootS t aim b n % 4294967296 : Nat) : Int)
  | 0, n, hb, hn => by
    rw [show 0 + 500 + k = (499 + k) + 1 by omega, cashbookref10_root.l1, if_pos rfl, if_neg (by omega), rootS, Int.tmod_eq_emod_of_nonneg (by omega)]
    congr 1
    omega
  | b + 1, n, hb, hn => by
    have hp : 0 < 2 ^ b := Nat.pow_pos (by omega)
    rw [Nat.pow_succ] at hn
    have ihy := root_l1 t ht aim ha k b (n + 2 ^ b) (by omega) (by omega)
    have ihn := root_l1 t ht aim ha k b n (by omega) (by omega)
    have hnx : n + 2 ^ b < 274877906944 := by omega
    have hxp : (n + 2 ^ b) ^ t < 65536 ^ (4 * t) := by
      have h4 : n + 2 ^ b < 65536 ^ 4 := by omega
      have := Nat.pow_lt_pow_left h4 (show t ≠ 0 by omega)
      rwa [← Nat.pow_mul] at this
    have hhalf : IntKind.u64.wrap (Int.tdiv (((2 ^ b : Nat)) : Int) 2) = (if b = 0 then 0 else ((2 ^ (b - 1) : Nat) : Int)) := by
      rw [Int.tdiv_eq_ediv_of_nonneg (by omega)]
      by_cases h0 : b = 0
      · subst h0; rw [if_pos rfl]; rfl
      · rw [if_neg h0]
        have e : 2 ^ b = 2 ^ (b - 1) * 2 := by rw [← Nat.pow_succ]; congr 1; omega
        rw [show (((2 ^ b : Nat)) : Int) / 2 = ((2 ^ (b - 1) : Nat) : Int) by omega, u64_nat _ (by omega)]
    have hif : (if b + 1 = 0 then (0 : Int) else ((2 ^ (b + 1 - 1) : Nat) : Int)) = ((2 ^ b : Nat) : Int) := by rw [if_neg (by omega)]; rfl
    rw [hif, show b + 1 + 500 + k = (b + 500 + k) + 1 by omega, cashbookref10_root.l1, if_pos (by omega)]
    rw [show (n : Int) + ((2 ^ b : Nat) : Int) = ((n + 2 ^ b : Nat) : Int) by omega, u64_nat _ (by omega), hhalf]
    rw [power_run (n + 2 ^ b) (by omega) t ht _ (by omega), Option.bind_some, most_run (4 * t) (4 + 4 * t) _ aim (by omega) (by omega) hxp ha _ (by omega), Option.bind_some, rootS]
    by_cases hc : (n + 2 ^ b) ^ t ≤ aim
    · rw [if_pos (by simpa using hc), if_pos hc]
      exact ihy
    · rw [if_neg (by simpa using hc), if_neg hc]
      exact ihn
theorem root_run (p : Nat) (hp : p < 65536) (t : Nat) (ht : t = 2 ∨ t = 3) (k : Nat) (hk : 1000 ≤ k) :
    cashbookref10_root.f k (p : Int) (t : Int) = some ((rootS t (p * 4294967296 ^ t) 37 0 % 4294967296 : Nat) : Int) := by
  obtain ⟨q, rfl⟩ : ∃ q, k = 37 + 500 + q + 1 + t := ⟨k - (37 + 500 + 1 + t), by rcases ht with rfl | rfl <;> omega⟩
  have h4 : (4294967296 : Nat) < 65536 ^ 4 := by omega
  have hw1 : wrap64 ((0 : Int) + 1) = 1 := by rw [Go.IntWalk.wrap64_in _ ⟨by omega, by omega⟩]; rfl
  have hw2 : wrap64 ((1 : Int) + 1) = 2 := by rw [Go.IntWalk.wrap64_in _ ⟨by omega, by omega⟩]; rfl
  have hw3 : wrap64 ((2 : Int) + 1) = 3 := by rw [Go.IntWalk.wrap64_in _ ⟨by omega, by omega⟩]; rfl
  have hm1 := fun kk hk => mul_run 4 4 p 4294967296 kk (by omega) (by omega) (show p < 65536 ^ 4 by omega) h4 hk
  have hm2 := fun kk hk => mul_run 8 4 (p * 4294967296) 4294967296 kk (by omega) (by omega) (by omega) h4 hk
  have hm3 := fun kk hk => mul_run 12 4 (p * 4294967296 * 4294967296) 4294967296 kk (by omega) (by omega) (by omega) h4 hk
  unfold cashbookref10_root.f
  rw [limbs_run p (by omega), Option.bind_some]
  have hl := limbs_run 4294967296 (by omega)
  rw [show ((4294967296 : Nat) : Int) = 4294967296 from rfl] at hl
  rcases ht with rfl | rfl
  · have hr := root_l1 2 (.inl rfl) (p * 4294967296 ^ 2) (by rw [show p * 4294967296 ^ 2 = p * 4294967296 * 4294967296 by rw [Nat.pow_two, Nat.mul_assoc]]; omega) q 37 0 (by omega) (by omega)
    rw [show 37 + 500 + q + 1 + 2 = (37 + 500 + q + 2) + 1 by omega, cashbookref10_root.l0, if_pos (by omega), hl, Option.bind_some, hm1 _ (by omega), Option.bind_some, hw1]
    rw [cashbookref10_root.l0, if_pos (by omega), hl, Option.bind_some, hm2 _ (by omega), Option.bind_some, hw2]
    rw [cashbookref10_root.l0, if_neg (by omega)]
    rw [show p * 4294967296 ^ 2 = p * 4294967296 * 4294967296 by rw [Nat.pow_two, Nat.mul_assoc]] at hr ⊢
    exact hr
  · have hr := root_l1 3 (.inr rfl) (p * 4294967296 ^ 3) (by rw [show p * 4294967296 ^ 3 = p * 4294967296 * 4294967296 * 4294967296 by rw [Nat.pow_succ, Nat.pow_two, Nat.mul_assoc, Nat.mul_assoc, Nat.mul_assoc]]; omega) q 37 0 (by omega) (by omega)
    rw [show 37 + 500 + q + 1 + 3 = (37 + 500 + q + 3) + 1 by omega, cashbookref10_root.l0, if_pos (by omega), hl, Option.bind_some, hm1 _ (by omega), Option.bind_some, hw1]
    rw [cashbookref10_root.l0, if_pos (by omega), hl, Option.bind_some, hm2 _ (by omega), Option.bind_some, hw2]
    rw [cashbookref10_root.l0, if_pos (by omega), hl, Option.bind_some, hm3 _ (by omega), Option.bind_some, hw3]
    rw [cashbookref10_root.l0, if_neg (by omega)]
    rw [show p * 4294967296 ^ 3 = p * 4294967296 * 4294967296 * 4294967296 by rw [Nat.pow_succ, Nat.pow_two, Nat.mul_assoc, Nat.mul_assoc, Nat.mul_assoc]] at hr ⊢
    exact hr
end Go.Proofs.YtldpnmebjnkjeaaDoor.Ref10
