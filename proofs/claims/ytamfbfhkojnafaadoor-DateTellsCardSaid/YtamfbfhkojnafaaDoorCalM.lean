import Derived.Test.YtamfbfhkojnafaaDoorCalR
namespace Go.Proofs.YtamfbfhkojnafaaDoor
open Go.RowKit Go.Proofs.YtamfbfhkojnafaaDoor.PC6 Go.Proofs.YtamfbfhkojnafaaDoorW.PrintWords

def wd (a : Int) : Int := (a + 50000 + 6) % 7
set_option maxHeartbeats 400000 in
theorem weekday_any (a : Int) (w : World) (h1 : -50000 ≤ a) (h2 : a ≤ 50000) : Calls Tryd.prog 40 #[.int .i32 a] w fun e w' => e = .returned (.tuple #[.int .i64 (wd a), .int .i64 0]) ∧ w = w' := by
  have hr : decide (-50000 ≤ a ∧ a ≤ 50000) = true := by simp [h1, h2]
  have hw : Hid ((a + 50000 + 6) % 7 = wd a) := by unfold wd; rfl
  go_enter Tryd.func40, Tryd.ntmps40
  go_wp2_with (go_at_call 43; refine (dateRight_any a _).mono ?_; rintro e w' ⟨rfl, rfl⟩)
  go_ret2
  exact ⟨by rw [← hw.out]; rfl, rfl⟩

def holV (h : S44) : Value := .agg #[.int .i32 h.f0, .int .i32 h.f1, .bool h.f2]
def dayV (x : Int) : Value := .int .i32 x
theorem dayV_key {ν : Type} : Mp.KeyOk (ν := ν) Tryd.prog 23 dayV := day_key
/-- what is known of a day: the row told last. -/
def better (known : Int) (old : Option S44) (h : S44) : Bool :=
  decide (h.f0 ≤ known) && (match old with | none => true | some o => decide (o.f0 < h.f0))
def bestGo (known : Int) : List S44 → Int → Option S44 → Option S44
  | [], _, o => o
  | h :: r, d, o => bestGo known r d (if h.f1 = d ∧ better known o h = true then some h else o)
def bestF (known : Int) (l : List S44) (d : Int) : Option S44 := bestGo known l d none
def openB (l : List S44) (known d : Int) : Bool := match bestF known l d with | some h => h.f2 | none => decide (wd d < 5)

theorem best_snoc (known : Int) (l : List S44) (h : S44) (d : Int) (o : Option S44) :
    bestGo known (l ++ [h]) d o = if h.f1 = d ∧ better known (bestGo known l d o) h = true then some h else bestGo known l d o := by
  induction l generalizing o with
  | nil => rfl
  | cons x l ih => simp only [List.cons_append, bestGo]; rw [ih]; rfl

set_option maxHeartbeats 1000000 in
theorem bookOf_calls (A : Option Addr) (c : Nat) (l : List S44) (known : Int) (w : World) (hr : Kd.C k44 w A l.length l) (hm : l.length ≤ 1000) :
    Calls Tryd.prog 53 #[.slice A l.length c, .int .i32 known] w fun e w' => ∃ b m, e = .returned (.map (some b)) ∧ Mp.Is w' b dayV holV m ∧ Hid (∀ d, Mp.get m d = bestF known l d) ∧ Below w.heap.size w w' := by
  have hmm := @run_makeMap Tryd.prog
  have HR := Lib.hid hr; clear hr
  go_enter Tryd.func53, Tryd.ntmps53
  go_wp2
  go_loopw [13] (fun i wr => ∃ k : Nat, k ≤ l.length ∧ i = .int .i64 k ∧ Below w.heap.size w wr ∧ ∃ m, Mp.Is wr w.heap.size dayV holV m ∧ Hid (∀ d, Mp.get m d = bestF known (l.take k) d)) (fun i _ => l.length - (intOf i).toNat)
  case atStart => exact ⟨0, Nat.zero_le _, rfl, (Below.refl _ _).alloc (Nat.le_refl _) _, [], Mp.Is.made _ _ _, by intro q; simp [Mp.get]; rfl⟩
  case round =>
    obtain ⟨k, hk, rfl, hb, m, hmap, hget⟩ := hrel
    by_cases hlt : k < l.length
    · have C' := Kd.C_below HR.out hb
      obtain ⟨ad, hA, c0, c1, c2⟩ := at_T44 C' k (by omega) (by omega)
      subst hA
      simp only [Int.toNat_natCast] at c0 c1 c2
      have htake := take_rd l k hlt
      generalize hh : rd_T44 l k = h at c0 c1 c2 htake
      have HTK := Lib.hid htake
      clear htake C'
      have hz : ∀ W, (zeroValue 44).run Tryd.prog W = .ok (.agg #[.int .i32 0, .int .i32 0, .bool false]) W := fun _ => by kernel_rfl
      have hW : Mp.Is (wr.alloc (Obj.cells #[Value.int IntKind.i32 h.f0, Value.int IntKind.i32 h.f1, Value.bool h.f2] 44)) w.heap.size dayV holV m := hmap.alloc _
      have l1 := Mp.run_lookup hW dayV_key Tryd.underlying77 (hz _) h.f1 true
      have hbA : Below w.heap.size w (wr.alloc (Obj.cells #[Value.int IntKind.i32 h.f0, Value.int IntKind.i32 h.f1, Value.bool h.f2] 44)) := hb.alloc hb.size _
      have hbk : ∀ d, bestF known (l.take (k + 1)) d = if h.f1 = d ∧ better known (bestF known (l.take k) d) h = true then some h else bestF known (l.take k) d := by
        intro d; unfold bestF; rw [HTK.out, best_snoc]
      have HBK := Lib.hid hbk
      clear hbk hz
      obtain ⟨o, hoo⟩ : ∃ o, Mp.get m h.f1 = o := ⟨_, rfl⟩
      have hget1 : bestF known (l.take k) h.f1 = o := by rw [← hget.out h.f1]; exact hoo
      have HG1 := Lib.hid hget1
      rw [hoo] at l1
      clear hoo hget1
      cases o with
      | none =>
        simp only [if_true] at l1
        unfold dayV at l1
        have hW2 : Mp.Is ((wr.alloc (Obj.cells #[Value.int IntKind.i32 h.f0, Value.int IntKind.i32 h.f1, Value.bool h.f2] 44)).alloc (Obj.cells #[.int .i32 0, .int .i32 0, .bool false] 44)) w.heap.size dayV holV m := hW.alloc _
        obtain ⟨es, u1, u2⟩ := Mp.run_update hW2 dayV_key Tryd.underlying77 h.f1 h
        have hb2 := Mp.put_below (hbA.alloc hbA.size (Obj.cells #[.int .i32 0, .int .i32 0, .bool false] 44)) (Nat.le_refl _) es
        have hb3 := hbA.alloc hbA.size (Obj.cells #[.int .i32 0, .int .i32 0, .bool false] 44)
        unfold dayV holV at u1
        by_cases hkn : h.f0 ≤ known
        · have hkb : decide (h.f0 ≤ known) = true := by simpa using hkn
          have hnew : ∀ d, Mp.get (Mp.set m h.f1 h) d = bestF known (l.take (k + 1)) d := by
            intro d
            rw [HBK.out, Mp.get_set, hget.out]
            by_cases e : h.f1 = d
            · subst e; rw [HG1.out]; simp [better, hkn]
            · rw [if_neg (Ne.symm e), if_neg (fun h => e h.1)]
          have HNEW := Lib.hid hnew
          have HU2 := Lib.hid u2
          have HB2 := Lib.hid hb2
          clear hnew hget u2 hb2 hb3 hbA hW hW2
          go_wp2
          go_roundw
          case rel => exact ⟨k + 1, by omega, by go_num, HB2.out, _, HU2.out, HNEW.out⟩
          case measure => simp [intOf]; omega
        · have hkb : decide (h.f0 ≤ known) = false := by simpa using hkn
          have hnew : ∀ d, Mp.get m d = bestF known (l.take (k + 1)) d := by
            intro d
            rw [HBK.out, hget.out]
            by_cases e : h.f1 = d
            · subst e; rw [HG1.out]; simp [better, hkn]
            · rw [if_neg (fun h => e h.1)]
          have HNEW := Lib.hid hnew
          have HU2 := Lib.hid hW2
          have HB2 := Lib.hid hb3
          clear hnew hget u1 u2 hb2 hb3 hbA hW hW2
          go_wp2
          go_roundw
          case rel => exact ⟨k + 1, by omega, by go_num, HB2.out, _, HU2.out, HNEW.out⟩
          case measure => simp [intOf]; omega
      | some q =>
        simp only [if_true] at l1
        unfold dayV at l1
        have e1 : holV q = .agg #[.int .i32 q.f0, .int .i32 q.f1, .bool q.f2] := rfl
        rw [e1] at l1
        have hW2 : Mp.Is ((wr.alloc (Obj.cells #[Value.int IntKind.i32 h.f0, Value.int IntKind.i32 h.f1, Value.bool h.f2] 44)).alloc (Obj.cells #[.int .i32 q.f0, .int .i32 q.f1, .bool q.f2] 44)) w.heap.size dayV holV m := hW.alloc _
        obtain ⟨es, u1, u2⟩ := Mp.run_update hW2 dayV_key Tryd.underlying77 h.f1 h
        have hb2 := Mp.put_below (hbA.alloc hbA.size (Obj.cells #[.int .i32 q.f0, .int .i32 q.f1, .bool q.f2] 44)) (Nat.le_refl _) es
        have hb3 := hbA.alloc hbA.size (Obj.cells #[.int .i32 q.f0, .int .i32 q.f1, .bool q.f2] 44)
        unfold dayV holV at u1
        clear e1
        by_cases hkn : h.f0 ≤ known
        · have hkb : decide (h.f0 ≤ known) = true := by simpa using hkn
          by_cases hq : q.f0 < h.f0
          · have hqb : decide (q.f0 < h.f0) = true := by simpa using hq
            have hnew : ∀ d, Mp.get (Mp.set m h.f1 h) d = bestF known (l.take (k + 1)) d := by
              intro d
              rw [HBK.out, Mp.get_set, hget.out]
              by_cases e : h.f1 = d
              · subst e; rw [HG1.out]; simp [better, hkn, hq]
              · rw [if_neg (Ne.symm e), if_neg (fun h => e h.1)]
            have HNEW := Lib.hid hnew
            have HU2 := Lib.hid u2
            have HB2 := Lib.hid hb2
            clear hnew hget u2 hb2 hb3 hbA hW hW2
            go_wp2
            go_roundw
            case rel => exact ⟨k + 1, by omega, by go_num, HB2.out, _, HU2.out, HNEW.out⟩
            case measure => simp [intOf]; omega
          · have hqb : decide (q.f0 < h.f0) = false := by simpa using hq
            have hnew : ∀ d, Mp.get m d = bestF known (l.take (k + 1)) d := by
              intro d
              rw [HBK.out, hget.out]
              by_cases e : h.f1 = d
              · subst e; rw [HG1.out]; simp [better, hkn, hq]
              · rw [if_neg (fun h => e h.1)]
            have HNEW := Lib.hid hnew
            have HU2 := Lib.hid hW2
            have HB2 := Lib.hid hb3
            clear hnew hget u1 u2 hb2 hb3 hbA hW hW2
            go_wp2
            go_roundw
            case rel => exact ⟨k + 1, by omega, by go_num, HB2.out, _, HU2.out, HNEW.out⟩
            case measure => simp [intOf]; omega
        · have hkb : decide (h.f0 ≤ known) = false := by simpa using hkn
          have hnew : ∀ d, Mp.get m d = bestF known (l.take (k + 1)) d := by
            intro d
            rw [HBK.out, hget.out]
            by_cases e : h.f1 = d
            · subst e; rw [HG1.out]; simp [better, hkn]
            · rw [if_neg (fun h => e h.1)]
          have HNEW := Lib.hid hnew
          have HU2 := Lib.hid hW2
          have HB2 := Lib.hid hb3
          clear hnew hget u1 u2 hb2 hb3 hbA hW hW2
          go_wp2
          go_roundw
          case rel => exact ⟨k + 1, by omega, by go_num, HB2.out, _, HU2.out, HNEW.out⟩
          case measure => simp [intOf]; omega
    · have hkl : k = l.length := by omega
      have hget2 : ∀ d, Mp.get m d = bestF known l d := by
        intro d; rw [hget.out, hkl, List.take_length]
      have HG := Lib.hid hget2
      have HB := Lib.hid hb
      have HM := Lib.hid hmap
      clear hget hget2 hb hmap hkl
      go_wp2
      go_ret
      exact ⟨_, _, rfl, HM.out, HG.out, HB.out⟩

set_option maxHeartbeats 400000 in
theorem open_calls (b : Nat) (m : List (Int × S44)) (d : Int) (w : World) (hm : Mp.Is w b dayV holV m) (h1 : -50000 ≤ d) (h2 : d ≤ 50000) :
    Calls Tryd.prog 54 #[.map (some b), .int .i32 d] w fun e w' => e = .returned (.bool (match Mp.get m d with | some h => h.f2 | none => decide (wd d < 5))) ∧ Below w.heap.size w w' := by
  have hz : ∀ W, (zeroValue 44).run Tryd.prog W = .ok (.agg #[.int .i32 0, .int .i32 0, .bool false]) W := fun _ => by kernel_rfl
  have l1 := Mp.run_lookup hm dayV_key Tryd.underlying77 (hz _) d true
  obtain ⟨o, hoo⟩ : ∃ o, Mp.get m d = o := ⟨_, rfl⟩
  rw [hoo] at l1 ⊢
  clear hoo hz
  cases o with
  | none =>
    simp only [if_true] at l1
    unfold dayV at l1
    go_enter Tryd.func54, Tryd.ntmps54
    go_wp2_with (go_at_call 40; refine (weekday_any _ _ (by omega) (by omega)).mono ?_; rintro e w' ⟨rfl, rfl⟩)
    go_ret
    exact ⟨rfl, (Below.refl _ _).alloc (Nat.le_refl _) _⟩
  | some q =>
    simp only [if_true] at l1
    have e1 : holV q = .agg #[.int .i32 q.f0, .int .i32 q.f1, .bool q.f2] := rfl
    rw [e1] at l1
    unfold dayV at l1
    clear e1
    go_enter Tryd.func54, Tryd.ntmps54
    go_wp2
    all_goals
      go_ret
      exact ⟨rfl, (Below.refl _ _).alloc (Nat.le_refl _) _⟩

theorem open_is (b : Nat) (m : List (Int × S44)) (l : List S44) (known d : Int) (w : World) (hm : Mp.Is w b dayV holV m) (hg : Hid (∀ d, Mp.get m d = bestF known l d)) (h1 : -50000 ≤ d) (h2 : d ≤ 50000) :
    Calls Tryd.prog 54 #[.map (some b), .int .i32 d] w fun e w' => e = .returned (.bool (openB l known d)) ∧ Below w.heap.size w w' := by
  have h := open_calls b m d w hm h1 h2
  unfold openB
  rw [hg.out d] at h
  exact h
theorem opens_of {m : List (Int × S44)} {l : List S44} {known : Int} (hg : Hid (∀ d, Mp.get m d = bestF known l d)) : ∀ d, (match Mp.get m d with | some h => h.f2 | none => decide (wd d < 5)) = openB l known d := by
  intro d
  unfold openB
  rw [hg.out d]

/-- the first day with business, by a rule o, from one on. -/
def nextF (o : Int → Bool) (by_ : Int) : Nat → Int → Option Int
  | 0, _ => none
  | k + 1, d => if dayB d then (if o d then some d else nextF o by_ k (d + by_)) else none
def nextD (o : Int → Bool) (by_ d : Int) : Option Int := nextF o by_ 100010 d
def optV (x : Option Int) : Value := match x with | some d => .tuple #[.int .i32 d, .int .i64 0] | none => .tuple #[.int .i32 0, .int .i64 11]

theorem nextF_spec (o : Int → Bool) (by_ : Int) (k : Nat) (d : Int) : nextF o by_ (k + 1) d = if dayB d then (if o d then some d else nextF o by_ k (d + by_)) else none := rfl

set_option maxHeartbeats 1000000 in
theorem next_calls (b : Nat) (m : List (Int × S44)) (o : Int → Bool) (d by_ : Int) (w : World) (hm : Mp.Is w b dayV holV m)
    (ho : ∀ d, (match Mp.get m d with | some h => h.f2 | none => decide (wd d < 5)) = o d) (hby : by_ = 1 ∨ by_ = -1) (h1 : -50001 ≤ d) (h2 : d ≤ 50001) :
    Calls Tryd.prog 55 #[.map (some b), .int .i32 d, .int .i32 by_] w fun e w' => e = .returned (optV (nextD o by_ d)) ∧ Below w.heap.size w w' := by
  have hby0 : -1 ≤ by_ ∧ by_ ≤ 1 := by omega
  have HBY := Lib.hid hby
  have HO := Lib.hid ho
  have HM := Lib.hid hm
  clear hby ho hm
  go_enter Tryd.func55, Tryd.ntmps55
  go_wp2
  go_loopw [1] (fun i wr => ∃ (x : Int) (k : Nat), -50001 ≤ x ∧ x ≤ 50001 ∧ i = .int .i32 x ∧ Hid (nextD o by_ d = nextF o by_ (k + 1) x) ∧ (by_ = 1 → 50001 - x ≤ k) ∧ (by_ = -1 → x + 50001 ≤ k) ∧ Below w.heap.size w wr) (fun i _ => if by_ = 1 then (50002 - intOf i).toNat else (50002 + intOf i).toNat)
  case atStart => exact ⟨d, 100009, by omega, by omega, rfl, rfl, fun _ => by omega, fun _ => by omega, Below.refl _ _⟩
  case round =>
    obtain ⟨x, k, x1, x2, rfl, hnx, hk1, hk2, hb⟩ := hrel
    by_cases hd : -50000 ≤ x ∧ x ≤ 50000
    · have hdb : decide (-50000 ≤ x ∧ x ≤ 50000) = true := by simpa using hd
      have hmr := Mp.Is.below HM.out hb
      have hor := HO.out x
      cases hox : o x with
      | true =>
        rw [hox] at hor
        have hres : optV (nextD o by_ d) = .tuple #[.int .i32 x, .int .i64 0] := by
          rw [hnx.out, nextF_spec]; unfold dayB; rw [hdb, hox]; rfl
        have HRES := Lib.hid hres
        have HOR := Lib.hid hor
        clear hres hor hox
        go_wp2_with (first | (go_at_call 43; refine (dateRight_any _ _).mono ?_; rintro e w' ⟨rfl, rfl⟩) | (go_at_call 54; refine (open_calls _ _ _ _ hmr (by omega) (by omega)).mono ?_; rintro e w' ⟨rfl, hb'⟩; rw [HOR.out]))
        go_ret2
        exact ⟨by rw [HRES.out]; rfl, hb.trans (hb'.mono hb.size)⟩
      | false =>
        rw [hox] at hor
        have hres : nextD o by_ d = nextF o by_ k (x + by_) := by
          rw [hnx.out, nextF_spec]; unfold dayB; rw [hdb, hox]; rfl
        have hkp : 1 ≤ k := by rcases HBY.out with h | h <;> omega
        have HRES := Lib.hid hres
        have HOR := Lib.hid hor
        clear hres hor hox
        go_wp2_with (first | (go_at_call 43; refine (dateRight_any _ _).mono ?_; rintro e w' ⟨rfl, rfl⟩) | (go_at_call 54; refine (open_calls _ _ _ _ hmr (by omega) (by omega)).mono ?_; rintro e w' ⟨rfl, hb'⟩; rw [HOR.out]))
        go_roundw
        case rel => exact ⟨x + by_, k - 1, by omega, by omega, rfl, by rw [show k - 1 + 1 = k by omega]; exact HRES.out, fun _ => by omega, fun _ => by omega, hb.trans (hb'.mono hb.size)⟩
        case measure =>
          simp only [intOf]
          rcases HBY.out with h | h
          · rw [if_pos h, if_pos h]; omega
          · have : ¬ by_ = 1 := by omega
            rw [if_neg this, if_neg this]; omega
    · have hdb : decide (-50000 ≤ x ∧ x ≤ 50000) = false := by simpa using hd
      have hres : optV (nextD o by_ d) = .tuple #[.int .i32 0, .int .i64 11] := by
        rw [hnx.out, nextF_spec]; unfold dayB; rw [hdb]; rfl
      have HRES := Lib.hid hres
      clear hres
      go_wp2_with (go_at_call 43; refine (dateRight_any _ _).mono ?_; rintro e w' ⟨rfl, rfl⟩)
      go_ret2
      exact ⟨by rw [HRES.out]; rfl, hb⟩

/-! may -/
theorem dateRight_day (a : Int) (w : World) : Calls Tryd.prog 43 #[.int .i32 a] w fun e w' => e = .returned (.bool (dayB a)) ∧ w = w' := dateRight_any a w
theorem may1_any (a : Int) (w : World) : Calls Tryd.prog 66 #[.int .i32 a] w fun e w' => e = .returned (.bool !(dayB a)) ∧ w = w' := by
  go_enter Tryd.func66, Tryd.ntmps66
  go_wp2_with (go_at_call 43; refine (dateRight_day _ _).mono ?_; rintro e w' ⟨rfl, rfl⟩)
  go_ret
  exact ⟨rfl, rfl⟩

/-! slices.IndexFunc and ContainsFunc over days, by may's own test. -/
def IdxSays (l : List Int) (i : Int) : Prop := (0 ≤ i) ↔ l.any (fun d => !dayB d) = true
set_option maxHeartbeats 400000 in
theorem indexDays_calls (A : Option Addr) (c : Nat) (l : List Int) (w : World) (hr : Kd.C (Kd.int .i32) w A l.length l) (hm : l.length ≤ 1000) :
    Calls Tryd.prog 69 #[.slice A l.length c, .func (.func 66) #[] #[]] w fun e w' => ∃ i : Int, e = .returned (.int .i64 i) ∧ IdxSays l i ∧ w = w' := by
  have HR := Lib.hid hr; clear hr
  go_enter Tryd.func69, Tryd.ntmps69
  go_wp2
  go_loop [8] (fun i => ∃ k : Nat, k ≤ l.length ∧ i = .int .i64 k ∧ Hid (l.any (fun d => !dayB d) = (l.drop k).any (fun d => !dayB d))) (fun i => l.length - (intOf i).toNat)
  case atStart => exact ⟨0, Nat.zero_le _, rfl, rfl⟩
  case round =>
    obtain ⟨k, hk, rfl, hs⟩ := hrel
    by_cases hlt : k < l.length
    · obtain ⟨ad, hA, hc⟩ := ReadsOf.at_ (Kd.reads_of_C (d := (0 : Int)) HR.out) k (by omega) (by omega)
      subst hA
      simp only [Int.toNat_natCast] at hc
      have hdrop : l.drop k = rdOf 0 l k :: l.drop (k + 1) := by
        rw [List.drop_eq_getElem_cons hlt]; congr 1; unfold rdOf; simp [hlt]
      generalize rdOf 0 l (k : Int) = x at hc hdrop
      have HD := Lib.hid hdrop
      clear hdrop
      cases hx : dayB x with
      | true =>
        have HS : Hid (l.any (fun d => !dayB d) = (l.drop (k + 1)).any (fun d => !dayB d)) := by
          refine hs.out.trans ?_; rw [HD.out]; simp [hx]
        go_wp2_with (go_at_call 66; refine (may1_any _ _).mono ?_; rintro e w' ⟨rfl, rfl⟩; rw [hx])
        go_round
        case rel => exact ⟨k + 1, by omega, by go_num, HS⟩
        case measure => simp [intOf]; omega
      | false =>
        have HS : Hid (l.any (fun d => !dayB d) = true) := by
          refine hs.out.trans ?_; rw [HD.out]; simp [hx]
        go_wp2_with (go_at_call 66; refine (may1_any _ _).mono ?_; rintro e w' ⟨rfl, rfl⟩; rw [hx])
        go_ret
        exact ⟨k, rfl, by unfold IdxSays; rw [HS.out]; simp, rfl⟩
    · have HS : Hid (l.any (fun d => !dayB d) = false) := by
        refine hs.out.trans ?_; rw [List.drop_eq_nil_of_le (by omega)]; rfl
      go_wp2
      go_ret
      exact ⟨-1, rfl, by unfold IdxSays; rw [HS.out]; simp, rfl⟩

set_option maxHeartbeats 400000 in
theorem containsDays_calls (A : Option Addr) (c : Nat) (l : List Int) (w : World) (hr : Kd.C (Kd.int .i32) w A l.length l) (hm : l.length ≤ 1000) :
    Calls Tryd.prog 65 #[.slice A l.length c, .func (.func 66) #[] #[]] w fun e w' => e = .returned (.bool (l.any (fun d => !dayB d))) ∧ w = w' := by
  have HR := Lib.hid hr; clear hr
  go_enter Tryd.func65, Tryd.ntmps65
  go_wp2_with (go_at_call 69; refine (indexDays_calls _ _ _ _ HR.out hm).mono ?_; rintro e w' ⟨i, rfl, hi, rfl⟩)
  go_ret
  refine ⟨?_, rfl⟩
  have : decide (0 ≤ i) = l.any (fun d => !dayB d) := by
    rw [Bool.eq_iff_iff, decide_eq_true_eq]; exact hi
  rw [← this]; rfl

/-- may: 1, where c is no calendar; 11, where a day may not be; else 0. -/
def mayE (l : List S44) (ds : List Int) : Int := if calB l then (if ds.any (fun d => !dayB d) then 11 else 0) else 1

set_option maxHeartbeats 400000 in
theorem may_calls (A : Option Addr) (c : Nat) (l : List S44) (A2 : Option Addr) (c2 : Nat) (ds : List Int) (w : World) (hr : Kd.C k44 w A l.length l) (hm : l.length ≤ 1000)
    (hr2 : Kd.C (Kd.int .i32) w A2 ds.length ds) (hm2 : ds.length ≤ 1000) :
    Calls Tryd.prog 52 #[.slice A l.length c, .slice A2 ds.length c2] w fun e w' => e = .returned (.int .i64 (mayE l ds)) ∧ Below w.heap.size w w' := by
  have HR := Lib.hid hr; clear hr
  have HR2 := Lib.hid hr2; clear hr2
  cases hc : calB l with
  | false =>
    have hres : mayE l ds = 1 := by unfold mayE; rw [hc]; rfl
    have HRES := Lib.hid hres
    clear hres
    go_enter Tryd.func52, Tryd.ntmps52
    go_wp2_with (go_at_call 17; refine (calRight_calls _ _ _ _ HR.out hm).mono ?_; rintro e w' ⟨rfl, hb⟩; rw [hc])
    go_ret
    exact ⟨by rw [HRES.out]; rfl, hb⟩
  | true =>
    cases hd : ds.any (fun d => !dayB d) with
    | true =>
      have hres : mayE l ds = 11 := by unfold mayE; rw [hc, hd]; rfl
      have HRES := Lib.hid hres
      have HDD := Lib.hid hd
      clear hres hd
      go_enter Tryd.func52, Tryd.ntmps52
      go_wp2_with (first | (go_at_call 17; refine (calRight_calls _ _ _ _ HR.out hm).mono ?_; rintro e w' ⟨rfl, hb⟩; rw [hc]) | (go_at_call 65; refine (containsDays_calls _ _ _ _ (Kd.C_below HR2.out hb) hm2).mono ?_; rintro e w' ⟨rfl, rfl⟩; rw [HDD.out]))
      go_ret
      exact ⟨by rw [HRES.out]; rfl, hb⟩
    | false =>
      have hres : mayE l ds = 0 := by unfold mayE; rw [hc, hd]; rfl
      have HRES := Lib.hid hres
      have HDD := Lib.hid hd
      clear hres hd
      go_enter Tryd.func52, Tryd.ntmps52
      go_wp2_with (first | (go_at_call 17; refine (calRight_calls _ _ _ _ HR.out hm).mono ?_; rintro e w' ⟨rfl, hb⟩; rw [hc]) | (go_at_call 65; refine (containsDays_calls _ _ _ _ (Kd.C_below HR2.out hb) hm2).mono ?_; rintro e w' ⟨rfl, rfl⟩; rw [HDD.out]))
      go_ret
      exact ⟨by rw [HRES.out]; rfl, hb⟩

end Go.Proofs.YtamfbfhkojnafaaDoor
