import Derived.Test.YtamfbfhkojnafaaDoorCalM
namespace Go.Proofs.YtamfbfhkojnafaaDoor
open Go.RowKit Go.Proofs.YtamfbfhkojnafaaDoor.PC6 Go.Proofs.YtamfbfhkojnafaaDoorW.PrintWords

theorem days2_C (w : World) (a b : Int) (T : Nat) : Kd.C (Kd.int .i32) (w.alloc (.cells #[.int .i32 a, .int .i32 b] T)) (some ⟨w.heap.size, 0, none⟩) 2 [a, b] := by
  refine Kd.C_of_reads (d := (0 : Int)) (h1 := fun _ => rfl) ⟨rfl, by decide, fun _ => ⟨_, rfl, fun i hi => ?_⟩⟩
  rcases (show i = 0 ∨ i = 1 by omega) with rfl | rfl
  · go_simp
  · go_simp
theorem days3_C (w : World) (a b c : Int) (T : Nat) : Kd.C (Kd.int .i32) (w.alloc (.cells #[.int .i32 a, .int .i32 b, .int .i32 c] T)) (some ⟨w.heap.size, 0, none⟩) 3 [a, b, c] := by
  refine Kd.C_of_reads (d := (0 : Int)) (h1 := fun _ => rfl) ⟨rfl, by decide, fun _ => ⟨_, rfl, fun i hi => ?_⟩⟩
  rcases (show i = 0 ∨ i = 1 ∨ i = 2 by omega) with rfl | rfl | rfl
  · go_simp
  · go_simp
  · go_simp
theorem days4_C (w : World) (a b c d : Int) (T : Nat) : Kd.C (Kd.int .i32) (w.alloc (.cells #[.int .i32 a, .int .i32 b, .int .i32 c, .int .i32 d] T)) (some ⟨w.heap.size, 0, none⟩) 4 [a, b, c, d] := by
  refine Kd.C_of_reads (d := (0 : Int)) (h1 := fun _ => rfl) ⟨rfl, by decide, fun _ => ⟨_, rfl, fun i hi => ?_⟩⟩
  rcases (show i = 0 ∨ i = 1 ∨ i = 2 ∨ i = 3 by omega) with rfl | rfl | rfl | rfl
  · go_simp
  · go_simp
  · go_simp
  · go_simp

theorem mayE_cases (l : List S44) (ds : List Int) : (mayE l ds = 0 ∧ calB l = true ∧ ds.all dayB = true) ∨ mayE l ds = 1 ∨ mayE l ds = 11 := by
  unfold mayE
  cases calB l with
  | false => simp
  | true =>
    cases h : ds.any (fun d => !dayB d) with
    | true => simp
    | false =>
      left
      refine ⟨by simp, rfl, ?_⟩
      rw [List.all_eq_not_any_not, h]; rfl
theorem dayB_iff (a : Int) : dayB a = true ↔ -50000 ≤ a ∧ a ≤ 50000 := by unfold dayB; simp

theorem below_alloc_then {w w' : World} (o : Obj) (h : Below (w.alloc o).heap.size (w.alloc o) w') : Below w.heap.size w w' :=
  ((Below.refl _ _).alloc (Nat.le_refl _) o).trans (h.mono (by simp))

def openRes (l : List S44) (known d : Int) : Bool × Int := if mayE l [known, d] = 0 then (openB l known d, 0) else (false, mayE l [known, d])
set_option maxHeartbeats 1000000 in
theorem openAt_calls (A : Option Addr) (c : Nat) (l : List S44) (known d : Int) (w : World) (hr : Kd.C k44 w A l.length l) (hm : l.length ≤ 1000) :
    Calls Tryd.prog 15 #[.slice A l.length c, .int .i32 known, .int .i32 d] w fun e w' => e = .returned (.tuple #[.bool (openRes l known d).1, .int .i64 (openRes l known d).2]) ∧ Below w.heap.size w w' := by
  have HR := Lib.hid hr; clear hr
  rcases mayE_cases l [known, d] with ⟨he, hc, hd⟩ | he | he
  · have hres : openRes l known d = (openB l known d, 0) := by unfold openRes; rw [if_pos he]
    have HRES := Lib.hid hres
    simp only [List.all_cons, List.all_nil, Bool.and_true, Bool.and_eq_true, dayB_iff] at hd
    obtain ⟨⟨k1, k2⟩, d1, d2⟩ := hd
    clear hres hc
    have HE := Lib.hid he
    clear he
    go_enter Tryd.func15, Tryd.ntmps15
    go_wp2_with (first | (go_at_call 52; refine (may_calls _ _ _ _ _ [known, d] _ (Kd.C_alloc HR.out _) hm (days2_C _ _ _ _) (by simp)).mono ?_; rintro e w' ⟨rfl, hb⟩; rw [HE.out]) | (go_at_call 53; refine (bookOf_calls _ _ _ known _ (Kd.C_below (Kd.C_alloc HR.out _) hb) hm).mono ?_; rintro e w2 ⟨b, m, rfl, hmap, hget, hb2⟩) | (go_at_call 54; refine (open_is _ _ l known _ _ hmap hget (by omega) (by omega)).mono ?_; rintro e w3 ⟨rfl, hb3⟩))
    go_ret2
    refine ⟨?_, (below_alloc_then _ hb).trans ((hb2.mono (Nat.le_trans (by simp) hb.size)).trans (hb3.mono (Nat.le_trans (Nat.le_trans (by simp) hb.size) hb2.size)))⟩
    rw [HRES.out]
    rfl
  all_goals
    have hres : openRes l known d = (false, mayE l [known, d]) := by unfold openRes; rw [if_neg (by rw [he]; decide)]
    rw [he] at hres
    have HRES := Lib.hid hres
    have HE := Lib.hid he
    clear he hres
    go_enter Tryd.func15, Tryd.ntmps15
    go_wp2_with (go_at_call 52; refine (may_calls _ _ _ _ _ [known, d] _ (Kd.C_alloc HR.out _) hm (days2_C _ _ _ _) (by simp)).mono ?_; rintro e w' ⟨rfl, hb⟩; rw [HE.out])
    go_ret2
    exact ⟨by rw [HRES.out]; rfl, below_alloc_then _ hb⟩

/-! Roll -/
def monthOf (a : Int) : Int := (spRes a).2.1
def rollF (o : Int → Bool) (day how : Int) : Option Int :=
  if how = 2 then nextD o (-1) day else if how = 0 then nextD o 1 day
  else match nextD o 1 day with | none => nextD o (-1) day | some y => if monthOf day = monthOf y then some y else nextD o (-1) day
def optP (x : Option Int) : Int × Int := match x with | some d => (d, 0) | none => (0, 11)
def rollRes (l : List S44) (known day how : Int) : Int × Int :=
  if 0 ≤ how ∧ how ≤ 2 then (if mayE l [known, day] = 0 then optP (rollF (openB l known) day how) else (0, mayE l [known, day])) else (0, 1)

theorem BefAt.below {w w' : World} (h : BefAt w) (hb : Below w.heap.size w w') : BefAt w' := fun i hi => pw_cell_below hb (h i hi)
theorem BefAt.drewN {w : World} (h : BefAt w) (n : Nat) : BefAt (w.drewN n) := h
theorem BefAt.alloc {w : World} (h : BefAt w) (o : Obj) : BefAt (w.alloc o) := h.below ((Below.refl _ _).alloc (Nat.le_refl _) o)

theorem nextF_in (o : Int → Bool) (b : Int) (k : Nat) : ∀ (d x : Int), nextF o b k d = some x → -50000 ≤ x ∧ x ≤ 50000 := by
  induction k with
  | zero => intro d x h; simp [nextF] at h
  | succ k ih =>
    intro d x h
    rw [nextF_spec] at h
    by_cases hd : dayB d = true
    · rw [if_pos hd] at h
      split at h
      · cases h; exact (dayB_iff d).1 hd
      · exact ih _ _ h
    · rw [if_neg hd] at h; cases h
theorem nextD_in {o : Int → Bool} {b d x : Int} (h : nextD o b d = some x) : -50000 ≤ x ∧ x ≤ 50000 := nextF_in o b _ d x h

theorem split_calls (a : Int) (w : World) (h1 : -50000 ≤ a) (h2 : a ≤ 50000) (ht : BefAt w) :
   Calls Tryd.prog 25 #[.int .i32 a] w fun e w' => e = .returned (.tuple #[.int .i64 (spRes a).1, .int .i64 (monthOf a), .int .i64 (spRes a).2.2, .int .i64 0]) ∧ Below w.heap.size w w' :=
  (split_yes a w h1 h2 ht).mono fun e w' ⟨he, n, hn⟩ => ⟨he, by subst hn; exact pw_below_drewN (Below.refl _ _) n⟩
theorem below3 {w w1 w2 w3 : World} (h1 : Below w.heap.size w w1) (h2 : Below w1.heap.size w1 w2) (h3 : Below w2.heap.size w2 w3) : Below w.heap.size w w3 :=
  h1.trans ((h2.mono h1.size).trans (h3.mono (Nat.le_trans h1.size h2.size)))
theorem below2 {w w1 w2 : World} (h1 : Below w.heap.size w w1) (h2 : Below w1.heap.size w1 w2) : Below w.heap.size w w2 :=
  h1.trans (h2.mono h1.size)

set_option maxHeartbeats 2000000 in
theorem roll_calls (A : Option Addr) (c : Nat) (l : List S44) (known d how : Int) (w : World) (hT : BefAt w) (hr : Kd.C k44 w A l.length l) (hm : l.length ≤ 1000) :
    Calls Tryd.prog 16 #[.slice A l.length c, .int .i32 known, .int .i32 d, .int .i64 how] w fun e w' => e = .returned (.tuple #[.int .i32 (rollRes l known d how).1, .int .i64 (rollRes l known d how).2]) ∧ Below w.heap.size w w' := by
  have HR := Lib.hid hr; clear hr
  have HT := Lib.hid hT; clear hT
  by_cases hw : 0 ≤ how ∧ how ≤ 2
  · obtain ⟨hw0, hw2⟩ := hw
    rcases mayE_cases l [known, d] with ⟨he, hc, hd⟩ | he | he
    · have hres : rollRes l known d how = optP (rollF (openB l known) d how) := by unfold rollRes; rw [if_pos ⟨hw0, hw2⟩, if_pos he]
      simp only [List.all_cons, List.all_nil, Bool.and_true, Bool.and_eq_true, dayB_iff] at hd
      obtain ⟨⟨k1, k2⟩, d1, d2⟩ := hd
      clear hc
      have HE := Lib.hid he
      clear he
      have e2 : optV (nextD (openB l known) (-1) d) = .tuple #[.int .i32 (optP (nextD (openB l known) (-1) d)).1, .int .i64 (optP (nextD (openB l known) (-1) d)).2] := by
        cases nextD (openB l known) (-1) d <;> rfl
      have E2 := Lib.hid e2
      clear e2
      by_cases h2 : how = 2
      · subst h2
        have hres2 : rollRes l known d 2 = optP (nextD (openB l known) (-1) d) := by rw [hres]; rfl
        have HRES := Lib.hid hres2
        clear hres hres2
        generalize optP (nextD (openB l known) (-1) d) = r at E2 HRES
        go_enter Tryd.func16, Tryd.ntmps16
        go_wp2_with (first | (go_at_call 52; refine (may_calls _ _ _ _ _ [known, d] _ (Kd.C_alloc HR.out _) hm (days2_C _ _ _ _) (by simp)).mono ?_; rintro e w' ⟨rfl, hb⟩; rw [HE.out]) | (go_at_call 53; refine (bookOf_calls _ _ _ known _ (Kd.C_below (Kd.C_alloc HR.out _) hb) hm).mono ?_; rintro e w2 ⟨b, m, rfl, hmap, hget, hb2⟩) | (go_at_call 55; refine (next_calls _ m (openB l known) _ _ _ hmap (opens_of hget) (by omega) (by omega) (by omega)).mono ?_; rintro e w3 ⟨rfl, hb3⟩; rw [E2.out]))
        go_ret2
        refine ⟨?_, below3 (below_alloc_then _ hb) hb2 hb3⟩
        rw [HRES.out]
        rfl
      · have h2b : (how == 2) = false := by simpa using h2
        have hresr : rollF (openB l known) d how = if how = 0 then nextD (openB l known) 1 d else match nextD (openB l known) 1 d with | none => nextD (openB l known) (-1) d | some y => if monthOf d = monthOf y then some y else nextD (openB l known) (-1) d := by
          unfold rollF; rw [if_neg h2]
        by_cases h0 : how = 0
        · subst h0
          have hres2 : rollRes l known d 0 = optP (nextD (openB l known) 1 d) := by rw [hres, hresr]; rfl
          have e1 : optV (nextD (openB l known) 1 d) = .tuple #[.int .i32 (optP (nextD (openB l known) 1 d)).1, .int .i64 (optP (nextD (openB l known) 1 d)).2] := by
            cases nextD (openB l known) 1 d <;> rfl
          have HRES := Lib.hid hres2
          have E1 := Lib.hid e1
          clear hres hres2 e1 hresr
          generalize optP (nextD (openB l known) 1 d) = r at E1 HRES
          go_enter Tryd.func16, Tryd.ntmps16
          go_wp2_with (first | (go_at_call 52; refine (may_calls _ _ _ _ _ [known, d] _ (Kd.C_alloc HR.out _) hm (days2_C _ _ _ _) (by simp)).mono ?_; rintro e w' ⟨rfl, hb⟩; rw [HE.out]) | (go_at_call 53; refine (bookOf_calls _ _ _ known _ (Kd.C_below (Kd.C_alloc HR.out _) hb) hm).mono ?_; rintro e w2 ⟨b, m, rfl, hmap, hget, hb2⟩) | (go_at_call 55; refine (next_calls _ m (openB l known) _ _ _ hmap (opens_of hget) (by omega) (by omega) (by omega)).mono ?_; rintro e w3 ⟨rfl, hb3⟩; rw [E1.out]))
          go_ret2
          refine ⟨?_, below3 (below_alloc_then _ hb) hb2 hb3⟩
          rw [HRES.out]
          rfl
        · have h0b : (how == 0) = false := by simpa using h0
          rw [if_neg h0] at hresr
          cases hx : nextD (openB l known) 1 d with
          | none =>
            have hres2 : rollRes l known d how = optP (nextD (openB l known) (-1) d) := by rw [hres, hresr, hx]
            have e1 : optV (nextD (openB l known) 1 d) = .tuple #[.int .i32 0, .int .i64 11] := by rw [hx]; rfl
            have HRES := Lib.hid hres2
            have E1 := Lib.hid e1
            clear hres hres2 e1 hresr hx
            generalize optP (nextD (openB l known) (-1) d) = r at E2 HRES
            go_enter Tryd.func16, Tryd.ntmps16
            go_wp2_with fail
            refine (may_calls _ _ _ _ _ [known, d] _ (Kd.C_alloc HR.out _) hm (days2_C _ _ _ _) (by simp)).mono ?_; rintro e w' ⟨rfl, hb⟩; rw [HE.out]
            go_wp2_with fail
            refine (bookOf_calls _ _ _ known _ (Kd.C_below (Kd.C_alloc HR.out _) hb) hm).mono ?_; rintro e w2 ⟨b, m, rfl, hmap, hget, hb2⟩
            go_wp2_with fail
            refine (next_calls _ m (openB l known) _ _ _ hmap (opens_of hget) (by omega) (by omega) (by omega)).mono ?_; rintro e w3 ⟨rfl, hb3⟩; rw [E1.out]
            go_wp2_with fail
            refine (split_calls d _ (by omega) (by omega) ((((HT.out.alloc _).below hb).below hb2).below hb3)).mono ?_; rintro e w4 ⟨rfl, hb4⟩
            go_wp2_with fail
            refine (split_calls 0 _ (by omega) (by omega) (((((HT.out.alloc _).below hb).below hb2).below hb3).below hb4)).mono ?_; rintro e w5 ⟨rfl, hb5⟩
            go_wp2_with fail
            refine (next_calls _ m (openB l known) _ _ _ (((hmap.below hb3).below hb4).below hb5) (opens_of hget) (by omega) (by omega) (by omega)).mono ?_; rintro e w6 ⟨rfl, hb6⟩; rw [E2.out]
            go_wp2_with fail
            go_ret2
            refine ⟨?_, below2 (below3 (below3 (below_alloc_then _ hb) hb2 hb3) hb4 hb5) hb6⟩
            rw [HRES.out]
            rfl
          | some y =>
            have hy := nextD_in hx
            have e1 : optV (nextD (openB l known) 1 d) = .tuple #[.int .i32 y, .int .i64 0] := by rw [hx]; rfl
            rw [hx] at hresr
            have E1 := Lib.hid e1
            clear e1 hx
            obtain ⟨y1, y2⟩ := hy
            simp only at hresr
            by_cases hmo : monthOf d = monthOf y
            · have hres2 : rollRes l known d how = (y, 0) := by rw [hres, hresr, if_pos hmo]; rfl
              have hmb : (monthOf d == monthOf y) = true := by simpa using hmo
              have hmb2 : (monthOf d != monthOf y) = false := by simpa using hmo
              have HRES := Lib.hid hres2
              clear hres hres2 hresr hmo
              go_enter Tryd.func16, Tryd.ntmps16
              go_wp2_with fail
              refine (may_calls _ _ _ _ _ [known, d] _ (Kd.C_alloc HR.out _) hm (days2_C _ _ _ _) (by simp)).mono ?_; rintro e w' ⟨rfl, hb⟩; rw [HE.out]
              go_wp2_with fail
              refine (bookOf_calls _ _ _ known _ (Kd.C_below (Kd.C_alloc HR.out _) hb) hm).mono ?_; rintro e w2 ⟨b, m, rfl, hmap, hget, hb2⟩
              go_wp2_with fail
              refine (next_calls _ m (openB l known) _ _ _ hmap (opens_of hget) (by omega) (by omega) (by omega)).mono ?_; rintro e w3 ⟨rfl, hb3⟩; rw [E1.out]
              go_wp2_with fail
              refine (split_calls d _ (by omega) (by omega) ((((HT.out.alloc _).below hb).below hb2).below hb3)).mono ?_; rintro e w4 ⟨rfl, hb4⟩
              go_wp2_with fail
              refine (split_calls y _ (by omega) (by omega) (((((HT.out.alloc _).below hb).below hb2).below hb3).below hb4)).mono ?_; rintro e w5 ⟨rfl, hb5⟩
              go_wp2_with fail
              go_ret2
              refine ⟨?_, below3 (below3 (below_alloc_then _ hb) hb2 hb3) hb4 hb5⟩
              rw [HRES.out]
              rfl
            · have hres2 : rollRes l known d how = optP (nextD (openB l known) (-1) d) := by rw [hres, hresr, if_neg hmo]
              have hmb : (monthOf d == monthOf y) = false := by simpa using hmo
              have hmb2 : (monthOf d != monthOf y) = true := by simpa using hmo
              have HRES := Lib.hid hres2
              clear hres hres2 hresr hmo
              generalize optP (nextD (openB l known) (-1) d) = r at E2 HRES
              go_enter Tryd.func16, Tryd.ntmps16
              go_wp2_with fail
              refine (may_calls _ _ _ _ _ [known, d] _ (Kd.C_alloc HR.out _) hm (days2_C _ _ _ _) (by simp)).mono ?_; rintro e w' ⟨rfl, hb⟩; rw [HE.out]
              go_wp2_with fail
              refine (bookOf_calls _ _ _ known _ (Kd.C_below (Kd.C_alloc HR.out _) hb) hm).mono ?_; rintro e w2 ⟨b, m, rfl, hmap, hget, hb2⟩
              go_wp2_with fail
              refine (next_calls _ m (openB l known) _ _ _ hmap (opens_of hget) (by omega) (by omega) (by omega)).mono ?_; rintro e w3 ⟨rfl, hb3⟩; rw [E1.out]
              go_wp2_with fail
              refine (split_calls d _ (by omega) (by omega) ((((HT.out.alloc _).below hb).below hb2).below hb3)).mono ?_; rintro e w4 ⟨rfl, hb4⟩
              go_wp2_with fail
              refine (split_calls y _ (by omega) (by omega) (((((HT.out.alloc _).below hb).below hb2).below hb3).below hb4)).mono ?_; rintro e w5 ⟨rfl, hb5⟩
              go_wp2_with fail
              refine (next_calls _ m (openB l known) _ _ _ (((hmap.below hb3).below hb4).below hb5) (opens_of hget) (by omega) (by omega) (by omega)).mono ?_; rintro e w6 ⟨rfl, hb6⟩; rw [E2.out]
              go_wp2_with fail
              go_ret2
              refine ⟨?_, below2 (below3 (below3 (below_alloc_then _ hb) hb2 hb3) hb4 hb5) hb6⟩
              rw [HRES.out]
              rfl
    all_goals
      have hres : rollRes l known d how = (0, mayE l [known, d]) := by unfold rollRes; rw [if_pos ⟨hw0, hw2⟩, if_neg (by rw [he]; decide)]
      rw [he] at hres
      have HRES := Lib.hid hres
      have HE := Lib.hid he
      clear he hres
      go_enter Tryd.func16, Tryd.ntmps16
      go_wp2_with (go_at_call 52; refine (may_calls _ _ _ _ _ [known, d] _ (Kd.C_alloc HR.out _) hm (days2_C _ _ _ _) (by simp)).mono ?_; rintro e w' ⟨rfl, hb⟩; rw [HE.out])
      go_ret2
      exact ⟨by rw [HRES.out]; rfl, below_alloc_then _ hb⟩
  · have hres : rollRes l known d how = (0, 1) := by unfold rollRes; rw [if_neg hw]
    have HRES := Lib.hid hres
    clear hres
    by_cases h0 : how < 0
    · have h0b : decide (how < 0) = true := by simpa using h0
      go_enter Tryd.func16, Tryd.ntmps16
      go_wp2
      go_ret2
      exact ⟨by rw [HRES.out]; rfl, Below.refl _ _⟩
    · have h0b : decide (how < 0) = false := by simpa using h0
      have h2b : decide (2 < how) = true := by simp; omega
      go_enter Tryd.func16, Tryd.ntmps16
      go_wp2
      go_ret2
      exact ⟨by rw [HRES.out]; rfl, Below.refl _ _⟩

end Go.Proofs.YtamfbfhkojnafaaDoor
