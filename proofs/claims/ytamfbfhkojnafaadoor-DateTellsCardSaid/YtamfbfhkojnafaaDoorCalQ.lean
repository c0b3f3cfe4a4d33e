import Derived.Test.YtamfbfhkojnafaaDoorCalO
namespace Go.Proofs.YtamfbfhkojnafaaDoor
open Go.RowKit Go.Proofs.YtamfbfhkojnafaaDoor.PC6 Go.Proofs.YtamfbfhkojnafaaDoorW.PrintWords
set_option linter.unusedVariables false
set_option linter.unusedSimpArgs false
set_option linter.unusedSectionVars false

/-! Add -/
def addF (o : Int → Bool) (b : Int) : Nat → Int → Option Int
  | 0, d => some d
  | k + 1, d => match nextD o b (d + b) with | none => none | some x => addF o b k x
def addRes (l : List S44) (known d n : Int) : Int × Int :=
  if mayE l [known, d] = 0 then (if n < -2000 ∨ 2000 < n then (0, 9) else optP (if n < 0 then addF (openB l known) (-1) (-n).toNat d else addF (openB l known) 1 n.toNat d)) else (0, mayE l [known, d])

set_option maxHeartbeats 2000000 in
theorem add_calls (A : Option Addr) (c : Nat) (l : List S44) (known d n : Int) (w : World) (hr : Kd.C k44 w A l.length l) (hm : l.length ≤ 1000) :
    Calls Tryd.prog 27 #[.slice A l.length c, .int .i32 known, .int .i32 d, .int .i64 n] w fun e w' => e = .returned (.tuple #[.int .i32 (addRes l known d n).1, .int .i64 (addRes l known d n).2]) ∧ Below w.heap.size w w' := by
  have HR := Lib.hid hr; clear hr
  rcases mayE_cases l [known, d] with ⟨he, hc, hd⟩ | he | he
  · simp only [List.all_cons, List.all_nil, Bool.and_true, Bool.and_eq_true, dayB_iff] at hd
    obtain ⟨⟨k1, k2⟩, d1, d2⟩ := hd
    clear hc
    have HE := Lib.hid he
    by_cases hn : n < -2000 ∨ 2000 < n
    · have hres : addRes l known d n = (0, 9) := by unfold addRes; rw [if_pos he, if_pos hn]
      have HRES := Lib.hid hres
      clear hres he
      by_cases hn1 : n < -2000
      · have hnb : decide (n < -2000) = true := by simpa using hn1
        go_enter Tryd.func27, Tryd.ntmps27
        go_wp2_with fail
        refine (may_calls _ _ _ _ _ [known, d] _ (Kd.C_alloc HR.out _) hm (days2_C _ _ _ _) (by simp)).mono ?_; rintro e w' ⟨rfl, hb⟩; rw [HE.out]
        go_wp2_with fail
        go_ret2
        exact ⟨by rw [HRES.out]; rfl, below_alloc_then _ hb⟩
      · have hnb : decide (n < -2000) = false := by simpa using hn1
        have hnb2 : decide (2000 < n) = true := by simp; omega
        clear hn
        go_enter Tryd.func27, Tryd.ntmps27
        go_wp2_with fail
        refine (may_calls _ _ _ _ _ [known, d] _ (Kd.C_alloc HR.out _) hm (days2_C _ _ _ _) (by simp)).mono ?_; rintro e w' ⟨rfl, hb⟩; rw [HE.out]
        go_wp2_with fail
        go_ret2
        exact ⟨by rw [HRES.out]; rfl, below_alloc_then _ hb⟩
    · have hnr : -2000 ≤ n ∧ n ≤ 2000 := by omega
      obtain ⟨n1, n2⟩ := hnr
      obtain ⟨q, b, hq, hb', hqb⟩ : ∃ (q : Nat) (b : Int), (if n < 0 then addF (openB l known) (-1) (-n).toNat d else addF (openB l known) 1 n.toNat d) = addF (openB l known) b q d ∧ (b = 1 ∨ b = -1) ∧ ((n < 0 ∧ (q : Int) = -n ∧ b = -1) ∨ (0 ≤ n ∧ (q : Int) = n ∧ b = 1)) := by
        by_cases h0 : n < 0
        · exact ⟨(-n).toNat, -1, by rw [if_pos h0], .inr rfl, .inl ⟨h0, by omega, rfl⟩⟩
        · exact ⟨n.toNat, 1, by rw [if_neg h0], .inl rfl, .inr ⟨by omega, by omega, rfl⟩⟩
      have hres : addRes l known d n = optP (addF (openB l known) b q d) := by unfold addRes; rw [if_pos he, if_neg hn, hq]
      have HRES := Lib.hid hres
      have HB' := Lib.hid hb'
      have hbr : -1 ≤ b ∧ b ≤ 1 := by omega
      obtain ⟨br1, br2⟩ := hbr
      have hqr : q ≤ 2000 := by omega
      clear hres he hn hq hb'
      rcases hqb with ⟨h0, hqn, hbn⟩ | ⟨h0, hqn, hbn⟩
      · obtain rfl := hbn
        have HQN := Lib.hid hqn
        have h0b : decide (n < 0) = true := by simp; omega
        have hz1 : decide (n < -2000) = false := by simp; omega
        have hz2 : decide (2000 < n) = false := by simp; omega
        clear hqn
        go_enter Tryd.func27, Tryd.ntmps27
        go_wp2_with fail
        refine (may_calls _ _ _ _ _ [known, d] _ (Kd.C_alloc HR.out _) hm (days2_C _ _ _ _) (by simp)).mono ?_; rintro e w' ⟨rfl, hb⟩; rw [HE.out]
        go_wp2_with fail
        refine (bookOf_calls _ _ _ known _ (Kd.C_below (Kd.C_alloc HR.out _) hb) hm).mono ?_; rintro e w2 ⟨b, m, rfl, hmap, hget, hb2⟩
        go_wp2_with fail
        have HG := Lib.hid hget
        have hb12 : Below w.heap.size w w2 := below2 (below_alloc_then _ hb) hb2
        clear hget hb hb2
        go_loopw [2, 37] (fun u v wr => ∃ (x : Int) (i : Nat), i ≤ q ∧ -50000 ≤ x ∧ x ≤ 50000 ∧ u = .int .i32 x ∧ v = .int .i64 i ∧ Hid (addF (openB l known) (-1) q d = addF (openB l known) (-1) (q - i) x) ∧ Below w.heap.size w wr ∧ Mp.Is wr b dayV holV m) (fun _ v _ => q - (intOf v).toNat)
        case atStart => exact ⟨d, 0, by omega, by omega, by omega, rfl, rfl, rfl, hb12, hmap⟩
        case round =>
          obtain ⟨x, i, hi, x1, x2, rfl, rfl, hadd, hbr, hmr⟩ := hrel
          have HBR := Lib.hid hbr
          have HMR := Lib.hid hmr
          clear hbr hmr hmap hb12
          by_cases hlt : i < q
          · have hlb : decide ((i : Int) < -n) = true := by have := HQN.out; simp; omega
            have hstep : addF (openB l known) (-1) (q - i) x = match nextD (openB l known) (-1) (x + -1) with | none => none | some y => addF (openB l known) (-1) (q - (i + 1)) y := by
              obtain ⟨j, hj⟩ : ∃ j, q - i = j + 1 := ⟨q - i - 1, by omega⟩
              rw [hj, show q - (i + 1) = j by omega]; rfl
            cases hx : nextD (openB l known) (-1) (x + -1) with
            | none =>
              have e1 : optV (nextD (openB l known) (-1) (x + -1)) = .tuple #[.int .i32 0, .int .i64 11] := by rw [hx]; rfl
              have E1 := Lib.hid e1
              have hr2 : addRes l known d n = (0, 11) := by rw [HRES.out, hadd.out, hstep, hx]; rfl
              have HR2 := Lib.hid hr2
              clear e1 hx hstep hr2
              go_wp2_with fail
              refine (next_calls _ m (openB l known) _ _ _ HMR.out (opens_of HG.out) (by omega) (by omega) (by omega)).mono ?_; rintro e w3 ⟨rfl, hb3⟩; rw [E1.out]
              go_wp2_with fail
              go_ret2
              exact ⟨by rw [HR2.out]; rfl, below2 HBR.out hb3⟩
            | some y =>
              have hy := nextD_in hx
              obtain ⟨y1, y2⟩ := hy
              have e1 : optV (nextD (openB l known) (-1) (x + -1)) = .tuple #[.int .i32 y, .int .i64 0] := by rw [hx]; rfl
              have E1 := Lib.hid e1
              have hr2 : addF (openB l known) (-1) q d = addF (openB l known) (-1) (q - (i + 1)) y := by rw [hadd.out, hstep, hx]
              have HR2 := Lib.hid hr2
              clear e1 hx hstep hr2
              go_wp2_with fail
              refine (next_calls _ m (openB l known) _ _ _ HMR.out (opens_of HG.out) (by omega) (by omega) (by omega)).mono ?_; rintro e w3 ⟨rfl, hb3⟩; rw [E1.out]
              go_wp2_with fail
              go_roundw
              case rel => exact ⟨y, i + 1, by omega, by omega, by omega, rfl, by go_num, HR2, below2 HBR.out hb3, HMR.out.below hb3⟩
              case measure => simp [intOf]; omega
          · have hlb : decide ((i : Int) < -n) = false := by have := HQN.out; simp; omega
            have hr2 : addRes l known d n = (x, 0) := by rw [HRES.out, hadd.out, show q - i = 0 by omega]; rfl
            have HR2 := Lib.hid hr2
            clear hr2
            go_wp2_with fail
            go_ret2
            exact ⟨by rw [HR2.out]; rfl, HBR.out⟩
      · obtain rfl := hbn
        have HQN := Lib.hid hqn
        have h0b : decide (n < 0) = false := by simp; omega
        have hz1 : decide (n < -2000) = false := by simp; omega
        have hz2 : decide (2000 < n) = false := by simp; omega
        clear hqn
        go_enter Tryd.func27, Tryd.ntmps27
        go_wp2_with fail
        refine (may_calls _ _ _ _ _ [known, d] _ (Kd.C_alloc HR.out _) hm (days2_C _ _ _ _) (by simp)).mono ?_; rintro e w' ⟨rfl, hb⟩; rw [HE.out]
        go_wp2_with fail
        refine (bookOf_calls _ _ _ known _ (Kd.C_below (Kd.C_alloc HR.out _) hb) hm).mono ?_; rintro e w2 ⟨b, m, rfl, hmap, hget, hb2⟩
        go_wp2_with fail
        have HG := Lib.hid hget
        have hb12 : Below w.heap.size w w2 := below2 (below_alloc_then _ hb) hb2
        clear hget hb hb2
        go_loopw [2, 37] (fun u v wr => ∃ (x : Int) (i : Nat), i ≤ q ∧ -50000 ≤ x ∧ x ≤ 50000 ∧ u = .int .i32 x ∧ v = .int .i64 i ∧ Hid (addF (openB l known) (1) q d = addF (openB l known) (1) (q - i) x) ∧ Below w.heap.size w wr ∧ Mp.Is wr b dayV holV m) (fun _ v _ => q - (intOf v).toNat)
        case atStart => exact ⟨d, 0, by omega, by omega, by omega, rfl, rfl, rfl, hb12, hmap⟩
        case round =>
          obtain ⟨x, i, hi, x1, x2, rfl, rfl, hadd, hbr, hmr⟩ := hrel
          have HBR := Lib.hid hbr
          have HMR := Lib.hid hmr
          clear hbr hmr hmap hb12
          by_cases hlt : i < q
          · have hlb : decide ((i : Int) < n) = true := by have := HQN.out; simp; omega
            have hstep : addF (openB l known) (1) (q - i) x = match nextD (openB l known) (1) (x + 1) with | none => none | some y => addF (openB l known) (1) (q - (i + 1)) y := by
              obtain ⟨j, hj⟩ : ∃ j, q - i = j + 1 := ⟨q - i - 1, by omega⟩
              rw [hj, show q - (i + 1) = j by omega]; rfl
            cases hx : nextD (openB l known) (1) (x + 1) with
            | none =>
              have e1 : optV (nextD (openB l known) (1) (x + 1)) = .tuple #[.int .i32 0, .int .i64 11] := by rw [hx]; rfl
              have E1 := Lib.hid e1
              have hr2 : addRes l known d n = (0, 11) := by rw [HRES.out, hadd.out, hstep, hx]; rfl
              have HR2 := Lib.hid hr2
              clear e1 hx hstep hr2
              go_wp2_with fail
              refine (next_calls _ m (openB l known) _ _ _ HMR.out (opens_of HG.out) (by omega) (by omega) (by omega)).mono ?_; rintro e w3 ⟨rfl, hb3⟩; rw [E1.out]
              go_wp2_with fail
              go_ret2
              exact ⟨by rw [HR2.out]; rfl, below2 HBR.out hb3⟩
            | some y =>
              have hy := nextD_in hx
              obtain ⟨y1, y2⟩ := hy
              have e1 : optV (nextD (openB l known) (1) (x + 1)) = .tuple #[.int .i32 y, .int .i64 0] := by rw [hx]; rfl
              have E1 := Lib.hid e1
              have hr2 : addF (openB l known) (1) q d = addF (openB l known) (1) (q - (i + 1)) y := by rw [hadd.out, hstep, hx]
              have HR2 := Lib.hid hr2
              clear e1 hx hstep hr2
              go_wp2_with fail
              refine (next_calls _ m (openB l known) _ _ _ HMR.out (opens_of HG.out) (by omega) (by omega) (by omega)).mono ?_; rintro e w3 ⟨rfl, hb3⟩; rw [E1.out]
              go_wp2_with fail
              go_roundw
              case rel => exact ⟨y, i + 1, by omega, by omega, by omega, rfl, by go_num, HR2, below2 HBR.out hb3, HMR.out.below hb3⟩
              case measure => simp [intOf]; omega
          · have hlb : decide ((i : Int) < n) = false := by have := HQN.out; simp; omega
            have hr2 : addRes l known d n = (x, 0) := by rw [HRES.out, hadd.out, show q - i = 0 by omega]; rfl
            have HR2 := Lib.hid hr2
            clear hr2
            go_wp2_with fail
            go_ret2
            exact ⟨by rw [HR2.out]; rfl, HBR.out⟩
  all_goals
    have hres : addRes l known d n = (0, mayE l [known, d]) := by unfold addRes; rw [if_neg (by rw [he]; decide)]
    rw [he] at hres
    have HRES := Lib.hid hres
    have HE := Lib.hid he
    clear he hres
    go_enter Tryd.func27, Tryd.ntmps27
    go_wp2_with (go_at_call 52; refine (may_calls _ _ _ _ _ [known, d] _ (Kd.C_alloc HR.out _) hm (days2_C _ _ _ _) (by simp)).mono ?_; rintro e w' ⟨rfl, hb⟩; rw [HE.out])
    go_ret2
    exact ⟨by rw [HRES.out]; rfl, below_alloc_then _ hb⟩

end Go.Proofs.YtamfbfhkojnafaaDoor
