import Derived.Test.YtamfbfhkojnafaaDoorMp
import Derived.Test.YtamfbfhkojnafaaDoorDateA
import Derived.Test.YtamfbfhkojnafaaDoorPC6x0
namespace Go.Proofs.YtamfbfhkojnafaaDoor
open Go.RowKit Go.Proofs.YtamfbfhkojnafaaDoor.PC6 Go.Proofs.YtamfbfhkojnafaaDoorW.PrintWords

/-! the key 'told' -/
def toldV (p : Int × Int) : Value := .agg #[.int .i32 p.1, .int .i32 p.2]
theorem told_eq (a b : Int × Int) (w : World) : (Op.equal 82 (toldV a) (toldV b)).run Tryd.prog w = .ok (decide (a = b)) w := by
  obtain ⟨a1, a2⟩ := a
  obtain ⟨b1, b2⟩ := b
  have hu := Tryd.underlying82
  have hd := Tryd.underlying23
  have hp : ∀ (cs : Array Value) (i : Nat) (v : Value) (w : World), cs[i]? = some v → (part 23 cs i).run Tryd.prog w = .ok v w := by
    intro cs i v w h
    simp [part, isAgg, underlying, program, Sem.run, hd, pure, h]
  have hp0 : ∀ (x y : Value) (w : World), (part 23 #[x, y] 0).run Tryd.prog w = .ok x w := fun x y w => hp _ _ _ _ rfl
  have hp1 : ∀ (x y : Value) (w : World), (part 23 #[x, y] 1).run Tryd.prog w = .ok y w := fun x y w => hp _ _ _ _ rfl
  have he : ∀ (x y : Int) (w : World), (Op.equalIn 9999 23 (.int .i32 x) (.int .i32 y)).run Tryd.prog w = .ok (x == y) w := by
    intro x y w
    rw [show 9999 = 9998 + 1 from rfl]
    unfold Op.equalIn
    simp [underlying, program, Sem.run, hd, pure]
  have hs : Tryd.prog.stoodInHeld 82 = false := by kernel_rfl
  unfold Op.equal
  rw [show Op.maxDepth = 9999 + 1 from rfl]
  unfold Op.equalIn toldV
  simp [underlying, program, Sem.run, hu, pure, hs, hp0, hp1, he]
  by_cases h1 : a1 = b1 <;> by_cases h2 : a2 = b2 <;> simp [h1, h2, Sem.run]
theorem told_check (e : Bool) (a : Int × Int) (w : World) : (Instr.checkKey e 10000 82 (toldV a)).run Tryd.prog w = .ok () w := by
  obtain ⟨a1, a2⟩ := a
  have hu := Tryd.underlying82
  have hd := Tryd.underlying23
  have hp : ∀ (cs : Array Value) (i : Nat) (v : Value) (w : World), cs[i]? = some v → (part 23 cs i).run Tryd.prog w = .ok v w := by
    intro cs i v w h
    simp [part, isAgg, underlying, program, Sem.run, hd, pure, h]
  have hp0 : ∀ (x y : Value) (w : World), (part 23 #[x, y] 0).run Tryd.prog w = .ok x w := fun x y w => hp _ _ _ _ rfl
  have hp1 : ∀ (x y : Value) (w : World), (part 23 #[x, y] 1).run Tryd.prog w = .ok y w := fun x y w => hp _ _ _ _ rfl
  have he : ∀ (x : Int) (w : World), (Instr.checkKey e 9999 23 (.int .i32 x)).run Tryd.prog w = .ok () w := by
    intro x w
    rw [show 9999 = 9998 + 1 from rfl]
    unfold Instr.checkKey
    simp [underlying, program, Sem.run, hd, pure]
  rw [show 10000 = 9999 + 1 from rfl]
  unfold Instr.checkKey toldV
  simp [underlying, program, Sem.run, hu, pure, hp0, hp1, he]
theorem told_key {ν : Type} : Mp.KeyOk (ν := ν) Tryd.prog 82 toldV where
  find := Mp.find_ask Tryd.underlying82 (fun a e es b h => by unfold Instr.findNow; rw [h]; rfl) told_eq
  check := told_check
  same := fun a => by obtain ⟨a1, a2⟩ := a; simp [toldV, Instr.sameBits]
theorem day_key {ν : Type} : Mp.KeyOk (ν := ν) Tryd.prog 23 (fun x : Int => .int .i32 x) where
  find := Mp.find_now Tryd.underlying23 (fun a b => by unfold Instr.sameNow; by_cases h : a = b <;> simp [h])
  check := fun e a w => by
    rw [show 10000 = 9999 + 1 from rfl]
    unfold Instr.checkKey
    simp [underlying, program, Sem.run, Tryd.underlying23, pure]
  same := fun a => by simp [Instr.sameBits]




/-- what calendar.Right says of rows. -/
def keyOf (h : S44) : Int × Int := (h.f0, h.f1)
def dayB (a : Int) : Bool := decide (-50000 ≤ a ∧ a ≤ 50000)
def holB (h : S44) : Bool := dayB h.f0 && dayB h.f1
def calSome : List S44 → List S44 → Bool
  | _, [] => true
  | ahead, h :: r => !(ahead.map keyOf).contains (keyOf h) && holB h && calSome (ahead ++ [h]) r
def calB (l : List S44) : Bool := calSome [] l && decide (l.length ≤ 64)

theorem drop_rd (l : List S44) (k : Nat) (h : k < l.length) : l.drop k = rd_T44 l k :: l.drop (k + 1) := by
  rw [List.drop_eq_getElem_cons h]
  congr 1
  unfold rd_T44
  simp [h]
theorem take_rd (l : List S44) (k : Nat) (h : k < l.length) : l.take (k + 1) = l.take k ++ [rd_T44 l k] := by
  rw [List.take_succ_eq_append_getElem h]
  congr 2
  unfold rd_T44
  simp [h]
set_option maxHeartbeats 1000000 in
theorem calRight_calls (A : Option Addr) (c : Nat) (l : List S44) (w : World) (hr : Kd.C k44 w A l.length l) (hm : l.length ≤ 1000) :
    Calls Tryd.prog 17 #[.slice A l.length c] w fun e w' => e = .returned (.bool (calB l)) ∧ Below w.heap.size w w' := by
  have hmm := @run_makeMap Tryd.prog
  have HR := Lib.hid hr; clear hr
  go_enter Tryd.func17, Tryd.ntmps17
  go_wp2
  go_loopw [9] (fun i wr => ∃ k : Nat, k ≤ l.length ∧ i = .int .i64 k ∧ Hid (calSome [] l = calSome (l.take k) (l.drop k)) ∧ Below w.heap.size w wr ∧ ∃ m : List ((Int × Int) × Int), Mp.Is wr w.heap.size toldV (Value.int .i64) m ∧ ∀ q, Mp.get m q = if q ∈ (l.take k).map keyOf then some 1 else none) (fun i _ => l.length - (intOf i).toNat)
  case atStart => exact ⟨0, Nat.zero_le _, rfl, rfl, (Below.refl _ _).alloc (Nat.le_refl _) _, [], Mp.Is.made _ _ _, by intro q; simp [Mp.get]⟩
  case round =>
    obtain ⟨k, hk, rfl, hsome, hb, m, hmap, hget⟩ := hrel
    by_cases hlt : k < l.length
    · have C' := Kd.C_below HR.out hb
      obtain ⟨ad, hA, c0, c1, c2⟩ := at_T44 C' k (by omega) (by omega)
      subst hA
      simp only [Int.toNat_natCast] at c0 c1 c2
      generalize hh : rd_T44 l k = h at c0 c1 c2
      go_wp2
      have hW : Mp.Is (wr.alloc (Obj.cells #[Value.int IntKind.i32 h.f0, Value.int IntKind.i32 h.f1, Value.bool h.f2] 44)).drew w.heap.size toldV (Value.int .i64) m := hmap.alloc _
      have hz : ∀ W, (zeroValue 3).run Tryd.prog W = .ok (.int .i64 0) W := fun _ => by kernel_rfl
      have hbW : Below w.heap.size w (wr.alloc (Obj.cells #[Value.int IntKind.i32 h.f0, Value.int IntKind.i32 h.f1, Value.bool h.f2] 44)).drew := (hb.alloc hb.size _).drew
      obtain ⟨x, hx⟩ : ∃ x : Int, Mp.get m (keyOf h) = if keyOf h ∈ (l.take k).map keyOf then some 1 else none := ⟨0, hget _⟩
      obtain ⟨g, hg, hgd⟩ : ∃ g : Int, (Mp.get m (keyOf h)).getD 0 = g ∧ g = if keyOf h ∈ (l.take k).map keyOf then 1 else 0 := ⟨_, rfl, by rw [hx]; split <;> rfl⟩
      obtain ⟨es1, es2, n, h1, h2, h3, h4⟩ := Mp.run_entry hW told_key Tryd.underlying80 0 (hz _) (keyOf h) (g + 1)
      have l1 := Mp.run_lookup hW told_key Tryd.underlying80 (hz _) (keyOf h) false
      have l2 := Mp.run_lookup h2 told_key Tryd.underlying80 (hz _) (keyOf h) false
      have l3 := Mp.run_lookup h4 told_key Tryd.underlying80 (hz _) (keyOf h) false
      have b2 := Mp.put_below hbW (Nat.le_refl _) es2
      have e0 : (Mp.put (wr.alloc (Obj.cells #[Value.int IntKind.i32 h.f0, Value.int IntKind.i32 h.f1, Value.bool h.f2] 44)).drew w.heap.size es2).heap[wr.heap.size]? = some (Obj.cells #[Value.int IntKind.i32 h.f0, Value.int IntKind.i32 h.f1, Value.bool h.f2] 44) := by
        rw [Mp.put_block _ _ _ _ (Nat.ne_of_gt hmap.lt)]; exact heap_alloc_new wr _
      have l1' : (Instr.lookup 80 (.map (some w.heap.size)) (.agg #[.int .i32 h.f0, .int .i32 h.f1]) false).run Tryd.prog (wr.alloc (Obj.cells #[Value.int IntKind.i32 h.f0, Value.int IntKind.i32 h.f1, Value.bool h.f2] 44)).drew = .ok (.int .i64 g) (wr.alloc (Obj.cells #[Value.int IntKind.i32 h.f0, Value.int IntKind.i32 h.f1, Value.bool h.f2] 44)).drew := by
        refine l1.trans ?_
        rw [← hg]
        cases Mp.get m (keyOf h) <;> rfl
      have l2' : (Instr.lookup 80 (.map (some w.heap.size)) (.agg #[.int .i32 h.f0, .int .i32 h.f1]) false).run Tryd.prog (Mp.put (wr.alloc (Obj.cells #[Value.int IntKind.i32 h.f0, Value.int IntKind.i32 h.f1, Value.bool h.f2] 44)).drew w.heap.size es1) = .ok (.int .i64 g) (Mp.put (wr.alloc (Obj.cells #[Value.int IntKind.i32 h.f0, Value.int IntKind.i32 h.f1, Value.bool h.f2] 44)).drew w.heap.size es1) := by
        refine l2.trans ?_
        rw [Mp.get_set, if_pos rfl, hg]
        rfl
      rw [Mp.get_set, if_pos rfl] at l3
      have hwr : IntKind.i64.wrap (g + 1) = g + 1 := IntWalk.i64_in _ (by rw [hgd]; split <;> omega)
      have hg1 : 0 ≤ g ∧ g ≤ 1 := by rw [hgd]; split <;> omega
      rw [hg] at h1
      obtain ⟨w2, hw2⟩ : ∃ w2, w2 = Mp.put (wr.alloc (Obj.cells #[Value.int IntKind.i32 h.f0, Value.int IntKind.i32 h.f1, Value.bool h.f2] 44)).drew w.heap.size es2 := ⟨_, rfl⟩
      rw [← hw2] at h3 h4 l3 b2 e0
      have d0 : w2.cell? ⟨wr.heap.size, 0, none⟩ = some (.int .i32 h.f0) := cell_of_row w2 _ 0 _ _ _ e0
      have d1 : w2.cell? ⟨wr.heap.size, 1, none⟩ = some (.int .i32 h.f1) := cell_of_row w2 _ 1 _ _ _ e0
      have hb2 := Lib.hid b2
      have H4 := Lib.hid h4
      have HGD := Lib.hid hgd
      unfold toldV keyOf at h1 l3
      simp only [Bool.false_eq_true, if_false] at l3
      have HGET := Lib.hid hget
      clear hget hg h2 l1 l2 hw2 hx hgd b2 h4 e0
      have hdrop : l.drop k = h :: l.drop (k + 1) := by rw [← hh]; exact drop_rd l k hlt
      have htake : l.take (k + 1) = l.take k ++ [h] := by rw [← hh]; exact take_rd l k hlt
      have HDR := Lib.hid hdrop
      have HTK := Lib.hid htake
      clear hdrop htake
      go_region
      all_goals clear h1 h3 l1' l2' hwr
      by_cases hin : keyOf h ∈ (l.take k).map keyOf
      · have g1 : g = 1 := by rw [HGD.out, if_pos hin]
        subst g1
        go_wp2
        go_ret
        refine ⟨?_, hb2.out⟩
        unfold calB
        rw [hsome.out, HDR.out, calSome, List.contains_iff_mem.2 hin]
        rfl
      · have g0 : g = 0 := by rw [HGD.out, if_neg hin]
        subst g0
        have hcont : ((l.take k).map keyOf).contains (keyOf h) = false := by
          rw [← Bool.not_eq_true, List.contains_iff_mem]; exact hin
        by_cases r0 : -50000 ≤ h.f0 ∧ h.f0 ≤ 50000
        · have r0b : decide (-50000 ≤ h.f0 ∧ h.f0 ≤ 50000) = true := by simpa using r0
          by_cases r1 : -50000 ≤ h.f1 ∧ h.f1 ≤ 50000
          · have r1b : decide (-50000 ≤ h.f1 ∧ h.f1 ≤ 50000) = true := by simpa using r1
            have hol : holB h = true := by unfold holB dayB; rw [r0b, r1b]; rfl
            have HOL := Lib.hid hol
            have HCO := Lib.hid hcont
            clear hol hcont r0 r1
            go_wp2_with (go_at_call 43; refine (dateRight_any _ _).mono ?_; rintro e w' ⟨rfl, rfl⟩)
            go_roundw
            case rel =>
              refine ⟨k + 1, by omega, by go_num, ?_, hb2.out, _, H4.out, ?_⟩
              · refine hsome.out.trans ?_
                rw [HDR.out, calSome, HCO.out, HOL.out, HTK.out]; rfl
              · intro q
                rw [Mp.get_set, HTK.out]
                by_cases hq : q = keyOf h
                · simp [hq]
                · simp [hq, HGET.out]
            case measure => simp [intOf]; omega
          · have r1b : decide (-50000 ≤ h.f1 ∧ h.f1 ≤ 50000) = false := by simpa using r1
            have hol : holB h = false := by unfold holB dayB; rw [r0b, r1b]; rfl
            have HOL := Lib.hid hol
            clear hol hcont r0 r1
            go_wp2_with (go_at_call 43; refine (dateRight_any _ _).mono ?_; rintro e w' ⟨rfl, rfl⟩)
            go_ret
            refine ⟨?_, hb2.out⟩
            unfold calB
            rw [hsome.out, HDR.out, calSome, HOL.out]
            simp
        · have r0b : decide (-50000 ≤ h.f0 ∧ h.f0 ≤ 50000) = false := by simpa using r0
          have hol : holB h = false := by unfold holB dayB; rw [r0b]; rfl
          have HOL := Lib.hid hol
          clear hol hcont r0
          go_wp2_with (go_at_call 43; refine (dateRight_any _ _).mono ?_; rintro e w' ⟨rfl, rfl⟩)
          go_ret
          refine ⟨?_, hb2.out⟩
          unfold calB
          rw [hsome.out, HDR.out, calSome, HOL.out]
          simp
    · have hkl : k = l.length := by omega
      have hB : calB l = decide ((l.length : Int) ≤ 64) := by
        unfold calB
        rw [hsome.out, hkl, List.drop_length, calSome]
        simp only [Bool.true_and]
        rw [decide_eq_decide]
        omega
      have HB := Lib.hid hB
      clear hB hkl
      go_wp2
      go_ret
      exact ⟨by rw [HB.out]; rfl, hb⟩
end Go.Proofs.YtamfbfhkojnafaaDoor
