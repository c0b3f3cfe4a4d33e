import Derived.Test.YtamfbfhkojnafaaDoorCalQ
namespace Go.Proofs.YtamfbfhkojnafaaDoor
open Go.RowKit Go.Proofs.YtamfbfhkojnafaaDoor.PC6 Go.Proofs.YtamfbfhkojnafaaDoorW.PrintWords
set_option linter.unusedVariables false
set_option linter.unusedSimpArgs false
set_option linter.unusedSectionVars false

def farB (a b : Int) : Bool := decide (4000 < b - a) || decide (4000 < a - b)
theorem between_calls (a b : Int) (w : World) (a1 : -50000 ≤ a) (a2 : a ≤ 50000) (b1 : -50000 ≤ b) (b2 : b ≤ 50000) :
    Calls Tryd.prog 57 #[.int .i32 a, .int .i32 b] w fun e w' => e = .returned (.int .i64 (if farB a b then 9 else 0)) ∧ w = w' := by
  by_cases h1 : 4000 < b - a
  · have h1b : decide (4000 < b - a) = true := by simpa using h1
    have hf : Hid (farB a b = true) := by show farB a b = true; unfold farB; rw [h1b]; rfl
    go_enter Tryd.func57, Tryd.ntmps57
    go_wp2
    go_ret
    exact ⟨by first | rfl | (rw [hf.out]; rfl), rfl⟩
  · have h1b : decide (4000 < b - a) = false := by simpa using h1
    by_cases h2 : 4000 < a - b
    · have h2b : decide (4000 < a - b) = true := by simpa using h2
      have hf : Hid (farB a b = true) := by show farB a b = true; unfold farB; rw [h2b]; simp
      go_enter Tryd.func57, Tryd.ntmps57
      go_wp2
      go_ret
      exact ⟨by first | rfl | (rw [hf.out]; rfl), rfl⟩
    · have h2b : decide (4000 < a - b) = false := by simpa using h2
      have hf : farB a b = false := by unfold farB; rw [h1b, h2b]; rfl
      have HF := Lib.hid hf
      clear hf
      rw [HF.out, if_neg (by decide)]
      go_enter Tryd.func57, Tryd.ntmps57
      go_wp2
      all_goals
        go_ret
        exact ⟨rfl, rfl⟩

def countF (o : Int → Bool) : Nat → Int → Int
  | 0, _ => 0
  | k + 1, d => (if o d then 1 else 0) + countF o k (d + 1)
theorem countF_bd (o : Int → Bool) (k : Nat) : ∀ d, 0 ≤ countF o k d ∧ countF o k d ≤ k := by
  induction k with
  | zero => intro d; simp [countF]
  | succ k ih => intro d; have := ih (d + 1); unfold countF; split <;> omega
def countRes (l : List S44) (known a b : Int) : Int × Int :=
  if mayE l [known, a, b] = 0 then (if farB a b then (0, 9) else (countF (openB l known) (b - a).toNat a, 0)) else (0, mayE l [known, a, b])

set_option maxHeartbeats 2000000 in
theorem count_calls (A : Option Addr) (c : Nat) (l : List S44) (known a b : Int) (w : World) (hr : Kd.C k44 w A l.length l) (hm : l.length ≤ 1000) :
    Calls Tryd.prog 24 #[.slice A l.length c, .int .i32 known, .int .i32 a, .int .i32 b] w fun e w' => e = .returned (.tuple #[.int .i64 (countRes l known a b).1, .int .i64 (countRes l known a b).2]) ∧ Below w.heap.size w w' := by
  have HR := Lib.hid hr; clear hr
  rcases mayE_cases l [known, a, b] with ⟨he, hc, hd⟩ | he | he
  · simp only [List.all_cons, List.all_nil, Bool.and_true, Bool.and_eq_true, dayB_iff] at hd
    obtain ⟨⟨k1, k2⟩, ⟨a1, a2⟩, b1, b2⟩ := hd
    clear hc
    have HE := Lib.hid he
    cases hf : farB a b with
    | true =>
      have hres : countRes l known a b = (0, 9) := by unfold countRes; rw [if_pos he, hf]; rfl
      have HRES := Lib.hid hres
      have HF := Lib.hid hf
      clear hres he hf
      go_enter Tryd.func24, Tryd.ntmps24
      go_wp2_with fail
      refine (may_calls _ _ _ _ _ [known, a, b] _ (Kd.C_alloc HR.out _) hm (days3_C _ _ _ _ _) (by simp)).mono ?_; rintro e w' ⟨rfl, hb⟩; rw [HE.out]
      go_wp2_with fail
      refine (between_calls _ _ _ a1 a2 b1 b2).mono ?_; rintro e w' ⟨rfl, rfl⟩; rw [HF.out, if_pos rfl]
      go_wp2_with fail
      go_ret2
      exact ⟨by rw [HRES.out]; rfl, below_alloc_then _ hb⟩
    | false =>
      have hres : countRes l known a b = (countF (openB l known) (b - a).toNat a, 0) := by unfold countRes; rw [if_pos he, hf]; rfl
      have HRES := Lib.hid hres
      have HF := Lib.hid hf
      clear hres he hf
      go_enter Tryd.func24, Tryd.ntmps24
      go_wp2_with fail
      refine (may_calls _ _ _ _ _ [known, a, b] _ (Kd.C_alloc HR.out _) hm (days3_C _ _ _ _ _) (by simp)).mono ?_; rintro e w' ⟨rfl, hb⟩; rw [HE.out]
      go_wp2_with fail
      refine (between_calls _ _ _ a1 a2 b1 b2).mono ?_; rintro e w' ⟨rfl, rfl⟩; rw [HF.out, if_neg (by decide)]
      go_wp2_with fail
      refine (bookOf_calls _ _ _ known _ (Kd.C_below (Kd.C_alloc HR.out _) hb) hm).mono ?_; rintro e w2 ⟨bk, m, rfl, hmap, hget, hb2⟩
      go_wp2_with fail
      have HG := Lib.hid hget
      have hb12 : Below w.heap.size w w2 := below2 (below_alloc_then _ hb) hb2
      clear hget hb hb2
      go_loopw [12, 14] (fun u v wr => ∃ (x i : Int), a ≤ x ∧ 0 ≤ i ∧ i + (b - x).toNat ≤ 200000 ∧ x ≤ 50000 ∧ u = .int .i64 i ∧ v = .int .i32 x ∧ Hid (countF (openB l known) (b - a).toNat a = i + countF (openB l known) (b - x).toNat x) ∧ Below w.heap.size w wr ∧ Mp.Is wr bk dayV holV m) (fun _ v _ => (b - intOf v).toNat)
      case atStart => exact ⟨a, 0, by omega, by omega, by omega, by omega, rfl, rfl, by show _ = _; omega, hb12, hmap⟩
      case round =>
        obtain ⟨x, i, x1, i1, i2, x2, rfl, rfl, hcnt, hbr, hmr⟩ := hrel
        have HBR := Lib.hid hbr
        have HMR := Lib.hid hmr
        clear hbr hmr hmap hb12
        by_cases hlt : x < b
        · have hlb : decide (x < b) = true := by simpa using hlt
          have hstep : countF (openB l known) (b - x).toNat x = (if openB l known x then 1 else 0) + countF (openB l known) (b - (x + 1)).toNat (x + 1) := by
            obtain ⟨j, hj⟩ : ∃ j, (b - x).toNat = j + 1 := ⟨(b - x).toNat - 1, by omega⟩
            rw [hj, show (b - (x + 1)).toNat = j by omega]; rfl
          cases hx : openB l known x with
          | true =>
            rw [hx, if_pos rfl] at hstep
            have HS := Lib.hid hstep
            have HX := Lib.hid hx
            clear hstep hx
            go_wp2_with fail
            refine (open_is _ m l known _ _ HMR.out HG.out (by omega) (by omega)).mono ?_; rintro e w3 ⟨rfl, hb3⟩; rw [HX.out]
            go_wp2_with fail
            go_roundw
            case rel => exact ⟨x + 1, i + 1, by omega, by omega, by omega, by omega, rfl, rfl, by show _ = _; rw [hcnt.out, HS.out]; omega, below2 HBR.out hb3, HMR.out.below hb3⟩
            case measure => simp [intOf]; omega
          | false =>
            rw [hx, if_neg (by decide)] at hstep
            have HS := Lib.hid hstep
            have HX := Lib.hid hx
            clear hstep hx
            go_wp2_with fail
            refine (open_is _ m l known _ _ HMR.out HG.out (by omega) (by omega)).mono ?_; rintro e w3 ⟨rfl, hb3⟩; rw [HX.out]
            go_wp2_with fail
            go_roundw
            case rel => exact ⟨x + 1, i, by omega, by omega, by omega, by omega, rfl, rfl, by show _ = _; rw [hcnt.out, HS.out]; omega, below2 HBR.out hb3, HMR.out.below hb3⟩
            case measure => simp [intOf]; omega
        · have hlb : decide (x < b) = false := by simpa using hlt
          have hr2 : countRes l known a b = (i, 0) := by rw [HRES.out, hcnt.out, show (b - x).toNat = 0 by omega]; simp [countF]
          have HR2 := Lib.hid hr2
          clear hr2
          go_wp2_with fail
          go_ret2
          exact ⟨by rw [HR2.out]; rfl, HBR.out⟩
  all_goals
    have hres : countRes l known a b = (0, mayE l [known, a, b]) := by unfold countRes; rw [if_neg (by rw [he]; decide)]
    rw [he] at hres
    have HRES := Lib.hid hres
    have HE := Lib.hid he
    clear he hres
    go_enter Tryd.func24, Tryd.ntmps24
    go_wp2_with fail
    refine (may_calls _ _ _ _ _ [known, a, b] _ (Kd.C_alloc HR.out _) hm (days3_C _ _ _ _ _) (by simp)).mono ?_; rintro e w' ⟨rfl, hb⟩; rw [HE.out]
    go_wp2_with fail
    go_ret2
    exact ⟨by rw [HRES.out]; rfl, below_alloc_then _ hb⟩

/-! Changed -/
def chgF (o p : Int → Bool) : Nat → Int → List Int
  | 0, _ => []
  | k + 1, d => if o d != p d then d :: chgF o p k (d + 1) else chgF o p k (d + 1)
def chgRes (l : List S44) (u v a b : Int) : List Int × Int :=
  if mayE l [u, v, a, b] = 0 then (if farB a b then ([], 9) else (chgF (openB l u) (openB l v) (b - a).toNat a, 0)) else ([], mayE l [u, v, a, b])

set_option maxHeartbeats 4000000 in
theorem changed_calls (A : Option Addr) (c : Nat) (l : List S44) (u v a b : Int) (w : World) (hr : Kd.C k44 w A l.length l) (hm : l.length ≤ 1000) :
    Calls Tryd.prog 26 #[.slice A l.length c, .int .i32 u, .int .i32 v, .int .i32 a, .int .i32 b] w fun e w' => ∃ s : Value, e = .returned (.tuple #[s, .int .i64 (chgRes l u v a b).2]) ∧ Kd.R (Kd.int .i32) 23 w' w.heap.size (fun _ => True) s (chgRes l u v a b).1 ∧ Below w.heap.size w w' := by
  have HR := Lib.hid hr; clear hr
  have hinfo : (Tryd.prog.info? 23).map (fun i => (i.zero, i.size, i.bytes)) = some (some (.int .i32 0), 1, 4) := by kernel_rfl
  rcases mayE_cases l [u, v, a, b] with ⟨he, hc, hd⟩ | he | he
  · simp only [List.all_cons, List.all_nil, Bool.and_true, Bool.and_eq_true, dayB_iff] at hd
    obtain ⟨⟨u1, u2⟩, ⟨v1, v2⟩, ⟨a1, a2⟩, b1, b2⟩ := hd
    clear hc
    have HE := Lib.hid he
    cases hf : farB a b with
    | true =>
      have hres : chgRes l u v a b = ([], 9) := by unfold chgRes; rw [if_pos he, hf]; rfl
      have HRES := Lib.hid hres
      have HF := Lib.hid hf
      clear hres he hf
      go_enter Tryd.func26, Tryd.ntmps26
      go_wp2_with fail
      refine (may_calls _ _ _ _ _ [u, v, a, b] _ (Kd.C_alloc HR.out _) hm (days4_C _ _ _ _ _ _) (by simp)).mono ?_; rintro e w' ⟨rfl, hb⟩; rw [HE.out]
      go_wp2_with fail
      refine (between_calls _ _ _ a1 a2 b1 b2).mono ?_; rintro e w' ⟨rfl, rfl⟩; rw [HF.out, if_pos rfl]
      go_wp2_with fail
      go_ret2
      exact ⟨_, by rw [HRES.out]; rfl, by rw [HRES.out]; exact Kd.R_nil _ _ _ _ _, below_alloc_then _ hb⟩
    | false =>
      have hres : chgRes l u v a b = (chgF (openB l u) (openB l v) (b - a).toNat a, 0) := by unfold chgRes; rw [if_pos he, hf]; rfl
      have HRES := Lib.hid hres
      have HF := Lib.hid hf
      clear hres he
      have hab : b - a ≤ 4000 := by
        unfold farB at hf; simp at hf; omega
      clear hf
      go_enter Tryd.func26, Tryd.ntmps26
      go_wp2_with fail
      refine (may_calls _ _ _ _ _ [u, v, a, b] _ (Kd.C_alloc HR.out _) hm (days4_C _ _ _ _ _ _) (by simp)).mono ?_; rintro e w' ⟨rfl, hb⟩; rw [HE.out]
      go_wp2_with fail
      refine (between_calls _ _ _ a1 a2 b1 b2).mono ?_; rintro e w' ⟨rfl, rfl⟩; rw [HF.out, if_neg (by decide)]
      go_wp2_with fail
      refine (bookOf_calls _ _ _ u _ (Kd.C_below (Kd.C_alloc HR.out _) hb) hm).mono ?_; rintro e w2 ⟨bk, m, rfl, hmap, hget, hb2⟩
      go_wp2_with fail
      refine (bookOf_calls _ _ _ v _ (Kd.C_below (Kd.C_below (Kd.C_alloc HR.out _) hb) hb2) hm).mono ?_; rintro e w3 ⟨bk2, m2, rfl, hmap2, hget2, hb3⟩
      go_wp2_with fail
      have HG := Lib.hid hget
      have HG2 := Lib.hid hget2
      have hb12 : Below w.heap.size w w3 := below3 (below_alloc_then _ hb) hb2 hb3
      have hmap1 := hmap.below hb3
      have HW3 := Lib.hid hb12.size
      have HM1 := Lib.hid hmap1.lt
      have HM2 := Lib.hid hmap2.lt
      clear hget hget2 hb hb2 hmap hb3
      go_loopw [16, 17] (fun s d wr => ∃ (x : Int) (xs : List Int), a ≤ x ∧ (xs.length : Int) ≤ x - a ∧ (x ≤ b ∨ x = a) ∧ d = .int .i32 x ∧ Hid (chgF (openB l u) (openB l v) (b - a).toNat a = xs ++ chgF (openB l u) (openB l v) (b - x).toNat x) ∧ Hid (Below w.heap.size w wr) ∧ Hid (Mp.Is wr bk dayV holV m) ∧ Hid (Mp.Is wr bk2 dayV holV m2) ∧ Hid (Kd.R (Kd.int .i32) 23 wr w3.heap.size (fun _ => True) s xs) ∧ Hid (Below w3.heap.size w3 wr)) (fun _ d _ => (b - intOf d).toNat)
      case atStart => exact ⟨a, [], by omega, by simp, .inr rfl, rfl, by show _ = _; simp, hb12, hmap1, hmap2, Kd.R_nil _ _ _ _ _, Below.refl _ _⟩
      case round =>
        obtain ⟨x, xs, x1, x2, x3, rfl, hchg, hbr, hm1, hm2, hown, hsz⟩ := hrel
        clear hb12 hmap1 hmap2
        by_cases hlt : x < b
        · have hlb : decide (x < b) = true := by simpa using hlt
          have hstep : chgF (openB l u) (openB l v) (b - x).toNat x = if openB l u x != openB l v x then x :: chgF (openB l u) (openB l v) (b - (x + 1)).toNat (x + 1) else chgF (openB l u) (openB l v) (b - (x + 1)).toNat (x + 1) := by
            obtain ⟨j, hj⟩ : ∃ j, (b - x).toNat = j + 1 := ⟨(b - x).toNat - 1, by omega⟩
            rw [hj, show (b - (x + 1)).toNat = j by omega]; rfl
          have HSTEP := Lib.hid hstep
          clear hstep
          generalize hp : openB l u x = p at HSTEP
          generalize hq : openB l v x = q at HSTEP
          have HP := Lib.hid hp
          have HQ := Lib.hid hq
          clear hp hq
          cases hpq : p != q with
          | false =>
            have hpq2 : (p == q) = true := by cases p <;> cases q <;> simp_all
            have hstep2 : chgF (openB l u) (openB l v) (b - x).toNat x = chgF (openB l u) (openB l v) (b - (x + 1)).toNat (x + 1) := by rw [HSTEP.out, hpq]; rfl
            have HS2 := Lib.hid hstep2
            clear hstep2 HSTEP
            go_wp2_with fail
            refine (open_is _ m l u _ _ hm1.out HG.out (by omega) (by omega)).mono ?_; rintro e w4 ⟨rfl, hb4⟩; rw [HP.out]
            have HB4 := Lib.hid hb4
            clear hb4
            go_wp2_with fail
            refine (open_is _ m2 l v _ _ (hm2.out.below HB4.out) HG2.out (by omega) (by omega)).mono ?_; rintro e w5 ⟨rfl, hb5⟩; rw [HQ.out]
            have HB5 := Lib.hid hb5
            clear hb5
            go_wp2_with fail
            go_roundw
            case rel =>
              exact ⟨x + 1, xs, by omega, by omega, .inl (by omega), rfl, by show _ = _; rw [hchg.out, HS2.out], below3 hbr.out HB4.out HB5.out, (hm1.out.below HB4.out).below HB5.out, (hm2.out.below HB4.out).below HB5.out, Kd.R_below (Kd.R_below hown.out HB4.out) HB5.out, below3 hsz.out HB4.out HB5.out⟩
            case measure => simp [intOf]; omega
          | true =>
            have hpq2 : (p == q) = false := by cases p <;> cases q <;> simp_all
            have hstep2 : chgF (openB l u) (openB l v) (b - x).toNat x = x :: chgF (openB l u) (openB l v) (b - (x + 1)).toNat (x + 1) := by rw [HSTEP.out, hpq]; rfl
            have HS2 := Lib.hid hstep2
            clear hstep2 HSTEP
            go_wp2_with fail
            refine (open_is _ m l u _ _ hm1.out HG.out (by omega) (by omega)).mono ?_; rintro e w4 ⟨rfl, hb4⟩; rw [HP.out]
            have HB4 := Lib.hid hb4
            clear hb4
            go_wp2_with fail
            refine (open_is _ m2 l v _ _ (hm2.out.below HB4.out) HG2.out (by omega) (by omega)).mono ?_; rintro e w5 ⟨rfl, hb5⟩; rw [HQ.out]
            have hb45 : Below w4.heap.size w4 w5 := hb5
            have hown5 := Kd.R_below (Kd.R_below hown.out HB4.out) hb5
            have HSZ5 := Lib.hid (below3 hsz.out HB4.out hb5)
            have HB5 := Lib.hid hb5
            have HOWN := Lib.hid hown5
            clear hb5 hb45 hown5
            go_wp2_with (at_builtin; refine Kd.R_append (Kd.int .i32) (w0 := w3) w3.heap.size rfl _ _ 38 23 (.int .i32 0) 4 rfl Tryd.underlying38 hinfo rfl (by decide) (by omega) _ xs x [.int .i32 x] (fun _ => True) (fun _ => False) rfl rfl ?aP (fun _ hk => hk.elim) ?aF ?aO ?aB ?aS ?aL ?_; (case aP => exact rfl); (case aF => exact (fun _ _ => trivial)); (case aO => exact HOWN.out); (case aB => exact HSZ5.out); (case aS => exact HSZ5.out.size); (case aL => omega); intro s1 w6 ho6 hb6 hg6 hat6)
            go_roundw
            case rel =>
              have hb56 : Below w3.heap.size w5 w6 := Below.grown (Below.refl _ _) hg6 HSZ5.out.size (fun k hk => by obtain ⟨inner, ho⟩ := Kd.R_own HOWN.out; exact own_base ho k hk)
              have b1' : Below w.heap.size w w5 := below3 hbr.out HB4.out HB5.out
              refine ⟨x + 1, xs ++ [x], by omega, by simp; omega, .inl (by omega), rfl, ?_, ?_, ?_, ?_, ho6, hb6⟩
              · show _ = _; rw [hchg.out, HS2.out]; simp
              · exact b1'.trans (hb56.mono HW3.out)
              · exact ((hm1.out.below HB4.out).below HB5.out).of_block (hb56.block _ HM1.out)
              · exact ((hm2.out.below HB4.out).below HB5.out).of_block (hb56.block _ HM2.out)
            case measure => simp [intOf]; omega
        · have hlb : decide (x < b) = false := by simpa using hlt
          have hr2 : chgRes l u v a b = (xs, 0) := by rw [HRES.out, hchg.out, show (b - x).toNat = 0 by omega]; simp [chgF]
          have HR2 := Lib.hid hr2
          clear hr2
          go_wp2_with fail
          go_ret2
          exact ⟨_, by rw [HR2.out]; rfl, by rw [HR2.out]; exact Kd.R_lower hown.out HW3.out, hbr.out⟩
  all_goals
    have hres : chgRes l u v a b = ([], mayE l [u, v, a, b]) := by unfold chgRes; rw [if_neg (by rw [he]; decide)]
    rw [he] at hres
    have HRES := Lib.hid hres
    have HE := Lib.hid he
    clear he hres
    go_enter Tryd.func26, Tryd.ntmps26
    go_wp2_with fail
    refine (may_calls _ _ _ _ _ [u, v, a, b] _ (Kd.C_alloc HR.out _) hm (days4_C _ _ _ _ _ _) (by simp)).mono ?_; rintro e w' ⟨rfl, hb⟩; rw [HE.out]
    go_wp2_with fail
    go_ret2
    exact ⟨_, by rw [HRES.out]; rfl, by rw [HRES.out]; exact Kd.R_nil _ _ _ _ _, below_alloc_then _ hb⟩

end Go.Proofs.YtamfbfhkojnafaaDoor
