/-
  Lemmas for the last text of this claim, merged out of several texts.
-/
import Derived.Test.YtldpnmebjnkjeaaDoorFoD
import Derived.Test.YtldpnmebjnkjeaaDoorRows
import Derived.ProofKit
import Derived.OpenShut
import Derived.Deep.DeepHandedRow
import Derived.Lib.LaidTab
import Derived.Lib.LaidU8
namespace Go.Proofs.YtldpnmebjnkjeaaDoor.TrW
open Go.RowKit Go.Proofs.YtldpnmebjnkjeaaDoorW.PrintWords Go.Proofs.YtldpnmebjnkjeaaDoor.PH1 Go.Proofs.YtldpnmebjnkjeaaDoor Go.Proofs.YtldpnmebjnkjeaaDoorW.PrintLast Go.Proofs.YtldpnmebjnkjeaaDoorW.PrintMore
open Go.Proofs.YtldpnmebjnkjeaaDoor.Sha
set_option linter.unusedVariables false
set_option linter.unusedSimpArgs false

theorem eq32d (w : World) (d : Nat) (l m : List UInt8) (hl : l.length = 32) (hm : m.length = 32) :
    (Op.equalIn (d + 3) 24 (.agg (Lib.byteCells l).toArray) (.agg (Lib.byteCells m).toArray)).run Tryd.prog w = .ok (decide (l = m)) w := by
  have hc : Tryd.prog.cellsOf 5 = 1 := by kernel_rfl
  obtain ⟨i, hi⟩ : ∃ i, Tryd.prog.info? 5 = some i := by
    have h : (Tryd.prog.info? 5).isSome = true := by kernel_rfl
    exact Option.isSome_iff_exists.1 h
  have hitems : ∀ is : List Nat, (∀ i ∈ is, i < l.length ∧ i < m.length) → (Op.eqItems (d + 2) 5 1 (Lib.byteCells l).toArray (Lib.byteCells m).toArray is).run Tryd.prog w = .ok (is.all fun i => l[i]? == m[i]?) w := by
    intro is
    induction is with
    | nil => intro _; simp [Op.eqItems]
    | cons i is ih =>
      intro h
      have h1 := h i (by simp)
      have hp : Tryd.prog.plainKey 5 = true := by kernel_rfl
      have hu : Tryd.prog.underlying 5 = some (.int .u8) := by kernel_rfl
      have e1 : (Lib.byteCells l).toArray[i]? = some (.int .u8 (l[i].toNat : Int)) := by
        rw [List.getElem?_toArray, Lib.byteCells, List.getElem?_map, List.getElem?_eq_getElem h1.1]; rfl
      have e2 : (Lib.byteCells m).toArray[i]? = some (.int .u8 (m[i].toNat : Int)) := by
        rw [List.getElem?_toArray, Lib.byteCells, List.getElem?_map, List.getElem?_eq_getElem h1.2]; rfl
      have hb : ((l[i].toNat : Int) == (m[i].toNat : Int)) = (l[i]? == m[i]?) := by
        rw [List.getElem?_eq_getElem h1.1, List.getElem?_eq_getElem h1.2, Bool.eq_iff_iff, beq_iff_eq, beq_iff_eq, Option.some.injEq]
        constructor
        · intro h; exact UInt8.toNat_inj.1 (by omega)
        · intro h; rw [h]
      simp only [Op.eqItems, Sem.run_bind, Nat.mul_one, run_part_plain w hp e1, run_part_plain w hp e2, Result.andThen_ok, run_equalIn_int w (d + 1) 5 .u8 .u8 _ _ hu, hb, List.all_cons]
      cases l[i]? == m[i]?
      · simp
      · simpa using ih (fun j hj => h j (by simp [hj]))
  rw [run_equalIn_array w (d + 2) _ _ (show Tryd.prog.underlying 24 = some (.array 32 5) by kernel_rfl) hi, hc, hitems _ (fun i hi => by have := List.mem_range.1 hi; omega)]
  refine congrArg (fun b => Result.ok b w) ?_
  rw [Bool.eq_iff_iff, List.all_eq_true, decide_eq_true_eq]
  constructor
  · intro h
    apply List.ext_getElem?
    intro i
    by_cases hi : i < 32
    · simpa using h i (List.mem_range.2 hi)
    · rw [List.getElem?_eq_none (by omega), List.getElem?_eq_none (by omega)]
  · rintro rfl i _
    simp
theorem part_dig (w : World) (L : List Value) (off : Nat) (l : List UInt8) (hl : l.length = 32) (h : (L.drop off).take 32 = Lib.byteCells l) : (part 24 L.toArray off).run Tryd.prog w = .ok (.agg (Lib.byteCells l).toArray) w := by
  obtain ⟨i, hi, hz⟩ := Option.map_eq_some_iff.1 info_digest
  simp only [Prod.mk.injEq] at hz
  have e : L.toArray.extract off (off + 32) = (Lib.byteCells l).toArray := by
    simp [List.extract_eq_take_drop, h]
  simp [part, isAgg, run_underlying (show Tryd.prog.underlying 24 = some (.array 32 5) by kernel_rfl), run_sizeOf w hi, hz.2.1, e]
  exact h
set_option maxRecDepth 100000 in
theorem eqFieldsPr (w : World) (d : Nat) (p q : Pr) (hp : p.ok) (hq : q.ok) : (Op.equalIn (d + 4) 116 (.agg (pcs p).toArray) (.agg (pcs q).toArray)).run Tryd.prog w = .ok (decide (p = q)) w := by
  have hst : Tryd.prog.stoodInHeld 116 = false := by kernel_rfl
  rw [run_equalIn_struct w (d + 3) _ _ _ fields_pr hst]
  have hfs : ∃ f0 f1 f2 : Field, (Tryd.prog.fieldsOf 116).toList = [f0, f1, f2] ∧ f0.type = 9 ∧ f1.type = 24 ∧ f2.type = 24 ∧ f0.offset = 0 ∧ f1.offset = 1 ∧ f2.offset = 33 ∧ f0.name ≠ "_" ∧ f1.name ≠ "_" ∧ f2.name ≠ "_" := by
    have h1 := Tryd.underlying116
    rw [fields_pr] at h1
    have h2 := TypeDesc.struct.inj (Option.some.inj h1)
    rw [h2]
    exact ⟨_, _, _, rfl, rfl, rfl, rfl, rfl, rfl, rfl, by decide, by decide, by decide⟩
  obtain ⟨f0, f1, f2, hl, t0, t1, t2, o0, o1, o2, n0, n1, n2⟩ := hfs
  rw [hl]
  have s0 : ∀ p : Pr, (part 9 (pcs p).toArray 0).run Tryd.prog w = .ok (.string p.s) w := fun p => run_part_plain w (by kernel_rfl) rfl
  have s1 : ∀ p : Pr, p.ok → (part 24 (pcs p).toArray 1).run Tryd.prog w = .ok (.agg (Lib.byteCells p.a).toArray) w := fun p hp => by
    refine part_dig w _ 1 p.a hp.1 ?_
    unfold pcs
    rw [List.drop_succ_cons, List.drop_zero, List.take_append_of_le_length (by rw [bc_len hp.1]; omega), List.take_of_length_le (by rw [bc_len hp.1]; omega)]
  have s2 : ∀ p : Pr, p.ok → (part 24 (pcs p).toArray 33).run Tryd.prog w = .ok (.agg (Lib.byteCells p.b).toArray) w := fun p hp => by
    refine part_dig w _ 33 p.b hp.2 ?_
    unfold pcs
    rw [List.drop_succ_cons, List.drop_append_of_le_length (by rw [bc_len hp.1]; omega), List.drop_of_length_le (by rw [bc_len hp.1]; omega), List.nil_append, List.take_of_length_le (by rw [bc_len hp.2]; omega)]
  have a0 := s0 p
  have a1 := s1 p hp
  have a2 := s2 p hp
  have b0 := s0 q
  have b1 := s1 q hq
  have b2 := s2 q hq
  have e1 := eq32d w d p.a q.a hp.1 hq.1
  have e2 := eq32d w d p.b q.b hp.2 hq.2
  have e0 : (Op.equalIn (d + 3) 9 (.string p.s) (.string q.s)).run Tryd.prog w = .ok (decide (p.s = q.s)) w := by
    rw [show d + 3 = (d + 2) + 1 from rfl, run_equalIn_string (P := Tryd.prog) w (d + 2) 9 p.s q.s (by kernel_rfl)]
    refine congrArg (fun b => Result.ok b w) ?_
    rw [ByteArray.toList_eq, ByteArray.toList_eq, Bool.eq_iff_iff, beq_iff_eq, decide_eq_true_eq]
    constructor
    · intro h
      have h2 := Array.toList_inj.1 h
      cases hp' : p.s; cases hq' : q.s
      rw [hp', hq'] at h2
      exact congrArg _ h2
    · intro h; rw [h]
  have hpq : decide (p = q) = (decide (p.s = q.s) && (decide (p.a = q.a) && decide (p.b = q.b))) := by
    rw [← Bool.decide_and, ← Bool.decide_and, decide_eq_decide]
    cases p; cases q; simp
  rw [hpq]
  clear s0 s1 s2 hpq hl hst
  generalize (pcs p).toArray = X at *
  generalize (pcs q).toArray = Y at *
  generalize (Lib.byteCells p.a).toArray = PA at *
  generalize (Lib.byteCells q.a).toArray = QA at *
  generalize (Lib.byteCells p.b).toArray = PB at *
  generalize (Lib.byteCells q.b).toArray = QB at *
  generalize decide (p.s = q.s) = c0 at *
  generalize decide (p.a = q.a) = c1 at *
  generalize decide (p.b = q.b) = c2 at *
  rw [Op.eqFields, if_pos n0, t0, o0, Sem.run_bind, a0]
  simp only [Result.andThen_ok, Sem.run_bind, b0, e0]
  cases c0
  · rfl
  rw [if_neg (by decide), Bool.true_and]
  rw [Op.eqFields, if_pos n1, t1, o1, Sem.run_bind]
  refine (congrArg (fun r => Result.andThen r _) a1).trans ?_
  show Sem.run _ _ w = _
  rw [Sem.run_bind]
  refine (congrArg (fun r => Result.andThen r _) b1).trans ?_
  show Sem.run _ _ w = _
  rw [Sem.run_bind]
  refine (congrArg (fun r => Result.andThen r _) e1).trans ?_
  cases c1
  · rfl
  show Sem.run _ (Op.eqFields (d + 3) X Y [f2]) w = _
  rw [Op.eqFields, if_pos n2, t2, o2, Sem.run_bind]
  refine (congrArg (fun r => Result.andThen r _) a2).trans ?_
  show Sem.run _ _ w = _
  rw [Sem.run_bind]
  refine (congrArg (fun r => Result.andThen r _) b2).trans ?_
  show Sem.run _ _ w = _
  rw [Sem.run_bind]
  refine (congrArg (fun r => Result.andThen r _) e2).trans ?_
  cases c2
  · rfl
  · rfl
theorem eqPr (w : World) (p q : Pr) (hp : p.ok) (hq : q.ok) : (Op.equalIn 10000 116 (.agg (pcs p).toArray) (.agg (pcs q).toArray)).run Tryd.prog w = .ok (decide (p = q)) w := eqFieldsPr w 9996 p q hp hq
end Go.Proofs.YtldpnmebjnkjeaaDoor.TrW
namespace Go.Proofs.YtldpnmebjnkjeaaDoor.TrW
open Go.RowKit Go.Proofs.YtldpnmebjnkjeaaDoorW.PrintWords Go.Proofs.YtldpnmebjnkjeaaDoor.PH1 Go.Proofs.YtldpnmebjnkjeaaDoor Go.Proofs.YtldpnmebjnkjeaaDoorW.PrintLast Go.Proofs.YtldpnmebjnkjeaaDoorW.PrintMore
open Go.Proofs.YtldpnmebjnkjeaaDoor.Sha
set_option linter.unusedVariables false
set_option linter.unusedSimpArgs false

theorem chainD_app : ∀ (rs : List Bool) (ps : List (List UInt8)) (d : List UInt8) (s : Bool) (p : List UInt8), ps.length = rs.length → Tr.chainD alg d (rs ++ [s]) (ps ++ [p]) = Tr.chainD alg d rs ps ++ [Tr.next alg s (Tr.last alg d rs ps) p]
  | [], [], d, s, p, _ => rfl
  | [], _ :: _, _, _, _, h => by simp at h
  | _ :: _, [], _, _, _, h => by simp at h
  | t :: rs, q :: ps, d, s, p, h => by
    show d :: Tr.chainD alg _ (rs ++ [s]) (ps ++ [p]) = d :: (Tr.chainD alg _ rs ps ++ _)
    rw [chainD_app rs ps _ s p (by simpa using h)]
    rfl
theorem chainM_app : ∀ (rs : List Bool) (ps : List (List UInt8)) (d : List UInt8) (s : Bool) (p : List UInt8), ps.length = rs.length → Tr.chainM alg d (rs ++ [s]) (ps ++ [p]) = Tr.chainM alg d rs ps ++ [Tr.nextP s (Tr.last alg d rs ps) p]
  | [], [], d, s, p, _ => rfl
  | [], _ :: _, _, _, _, h => by simp at h
  | _ :: _, [], _, _, _, h => by simp at h
  | t :: rs, q :: ps, d, s, p, h => by
    show _ :: Tr.chainM alg _ (rs ++ [s]) (ps ++ [p]) = _ :: (Tr.chainM alg _ rs ps ++ _)
    rw [chainM_app rs ps _ s p (by simpa using h)]
    rfl
theorem chainD_len : ∀ (rs : List Bool) (ps : List (List UInt8)) (d : List UInt8), (Tr.chainD alg d rs ps).length = min rs.length ps.length + 1
  | [], ps, d => by simp [Tr.chainD]
  | _ :: _, [], d => by simp [Tr.chainD]
  | s :: rs, p :: ps, d => by
    show (d :: Tr.chainD alg _ rs ps).length = _
    rw [List.length_cons, chainD_len]; simp
theorem chainM_len : ∀ (rs : List Bool) (ps : List (List UInt8)) (d : List UInt8), (Tr.chainM alg d rs ps).length = min rs.length ps.length
  | [], ps, d => by simp [Tr.chainM]
  | _ :: _, [], d => by simp [Tr.chainM]
  | s :: rs, p :: ps, d => by
    show (_ :: Tr.chainM alg _ rs ps).length = _
    rw [List.length_cons, chainM_len]; simp
theorem chainD_last : ∀ (rs : List Bool) (ps : List (List UInt8)) (d : List UInt8), ps.length = rs.length → (Tr.chainD alg d rs ps)[rs.length]? = some (Tr.last alg d rs ps)
  | [], [], d, _ => rfl
  | [], _ :: _, _, h => by simp at h
  | _ :: _, [], _, h => by simp at h
  | s :: rs, p :: ps, d, h => by
    show (d :: Tr.chainD alg _ rs ps)[rs.length + 1]? = _
    rw [List.getElem?_cons_succ]
    exact chainD_last rs ps _ (by simpa using h)
theorem chainD_take : ∀ (rs : List Bool) (ps : List (List UInt8)) (d : List UInt8) (k : Nat), min rs.length ps.length ≤ k → Tr.chainD alg d (rs.take k) (ps.take k) = Tr.chainD alg d rs ps
  | [], ps, d, k, h => by rw [List.take_nil]; simp [Tr.chainD]
  | s :: rs, [], d, k, h => by rw [List.take_nil]; simp [Tr.chainD]
  | s :: rs, p :: ps, d, k, h => by
    cases k with
    | zero => simp at h
    | succ k =>
      rw [List.take_succ_cons, List.take_succ_cons]
      show d :: Tr.chainD alg _ (rs.take k) (ps.take k) = d :: Tr.chainD alg _ rs ps
      rw [chainD_take rs ps _ k (by simp at h; omega)]
theorem chainM_take : ∀ (rs : List Bool) (ps : List (List UInt8)) (d : List UInt8) (k : Nat), min rs.length ps.length ≤ k → Tr.chainM alg d (rs.take k) (ps.take k) = Tr.chainM alg d rs ps
  | [], ps, d, k, h => by rw [List.take_nil]; simp [Tr.chainM]
  | s :: rs, [], d, k, h => by rw [List.take_nil]; simp [Tr.chainM]
  | s :: rs, p :: ps, d, k, h => by
    cases k with
    | zero => simp at h
    | succ k =>
      rw [List.take_succ_cons, List.take_succ_cons]
      show _ :: Tr.chainM alg _ (rs.take k) (ps.take k) = _ :: Tr.chainM alg _ rs ps
      rw [chainM_take rs ps _ k (by simp at h; omega)]
theorem chainD_step (rs : List Bool) (ps : List (List UInt8)) (d : List UInt8) (k : Nat) (s : Bool) (p : List UInt8) (h1 : rs[k]? = some s) (h2 : ps[k]? = some p) :
    Tr.chainD alg d (rs.take (k + 1)) (ps.take (k + 1)) = Tr.chainD alg d (rs.take k) (ps.take k) ++ [Tr.next alg s (Tr.last alg d (rs.take k) (ps.take k)) p] := by
  have a := (List.getElem?_eq_some_iff.1 h1).1
  have b := (List.getElem?_eq_some_iff.1 h2).1
  rw [List.take_add_one, List.take_add_one, h1, h2]
  exact chainD_app _ _ _ _ _ (by rw [List.length_take, List.length_take]; omega)
theorem chainM_step (rs : List Bool) (ps : List (List UInt8)) (d : List UInt8) (k : Nat) (s : Bool) (p : List UInt8) (h1 : rs[k]? = some s) (h2 : ps[k]? = some p) :
    Tr.chainM alg d (rs.take (k + 1)) (ps.take (k + 1)) = Tr.chainM alg d (rs.take k) (ps.take k) ++ [Tr.nextP s (Tr.last alg d (rs.take k) (ps.take k)) p] := by
  have a := (List.getElem?_eq_some_iff.1 h1).1
  have b := (List.getElem?_eq_some_iff.1 h2).1
  rw [List.take_add_one, List.take_add_one, h1, h2]
  exact chainM_app _ _ _ _ _ (by rw [List.length_take, List.length_take]; omega)
theorem chainD_at (rs : List Bool) (ps : List (List UInt8)) (d : List UInt8) (k : Nat) (h1 : k ≤ rs.length) (h2 : k ≤ ps.length) : (Tr.chainD alg d (rs.take k) (ps.take k))[k]? = some (Tr.last alg d (rs.take k) (ps.take k)) := by
  have h := chainD_last (rs.take k) (ps.take k) d (by rw [List.length_take, List.length_take]; omega)
  rw [List.length_take, Nat.min_eq_left h1] at h
  exact h
def pairP (x : List UInt8 × List UInt8) : Pr := ⟨⟨#[]⟩, x.1, x.2⟩
/-- What the digests are made of, the first one's maker f. -/
def madeP (f : Pr) (d : List UInt8) (rs : List Bool) (ps : List (List UInt8)) : List Pr := f :: (Tr.chainM alg d rs ps).map pairP
theorem madeP_len (f : Pr) (d : List UInt8) (rs : List Bool) (ps : List (List UInt8)) : (madeP f d rs ps).length = min rs.length ps.length + 1 := by
  unfold madeP
  rw [List.length_cons, List.length_map, chainM_len]
theorem madeP_step (f : Pr) (rs : List Bool) (ps : List (List UInt8)) (d : List UInt8) (k : Nat) (s : Bool) (p : List UInt8) (h1 : rs[k]? = some s) (h2 : ps[k]? = some p) :
    madeP f d (rs.take (k + 1)) (ps.take (k + 1)) = madeP f d (rs.take k) (ps.take k) ++ [pairP (Tr.nextP s (Tr.last alg d (rs.take k) (ps.take k)) p)] := by
  unfold madeP
  rw [chainM_step rs ps d k s p h1 h2, List.map_append]
  rfl
theorem madeP_take (f : Pr) (rs : List Bool) (ps : List (List UInt8)) (d : List UInt8) (k : Nat) (h : min rs.length ps.length ≤ k) : madeP f d (rs.take k) (ps.take k) = madeP f d rs ps := by
  unfold madeP
  rw [chainM_take rs ps d k h]
theorem last_len : ∀ (rs : List Bool) (ps : List (List UInt8)) (d : List UInt8), d.length = 32 → (Tr.last alg d rs ps).length = 32
  | [], ps, d, h => by simpa [Tr.last] using h
  | _ :: _, [], d, h => by simpa [Tr.last] using h
  | s :: rs, p :: ps, d, h => by
    show (Tr.last alg (Tr.next alg s d p) rs ps).length = 32
    refine last_len rs ps _ ?_
    cases s
    · exact sumL_len _
    · exact sumL_len _
theorem RP.lt {b : Nat} {v : Value} {xs : List Pr} {w : World} (h : RP b v xs w) (k : Nat) (hk : v.ownBlock = some k) : k < w.heap.size := ((Kd.R_bound h).1 k hk).2.2.1
theorem RD.lt {b : Nat} {v : Value} {xs : List (List UInt8)} {w : World} (h : RD b v xs w) (k : Nat) (hk : v.ownBlock = some k) : k < w.heap.size := ((Kd.R_bound h).1 k hk).2.2.1
theorem RP.lower {b b' : Nat} {v : Value} {xs : List Pr} {w : World} (h : RP b v xs w) (hb : b' ≤ b) : RP b' v xs w := Kd.R_lower h hb
theorem RD.lower {b b' : Nat} {v : Value} {xs : List (List UInt8)} {w : World} (h : RD b v xs w) (hb : b' ≤ b) : RD b' v xs w := Kd.R_lower h hb
theorem RB.lower {b b' : Nat} {v : Value} {xs : List Bool} {w : World} (h : RB b v xs w) (hb : b' ≤ b) : RB b' v xs w := Kd.R_lower h hb
theorem RD.overP {b b' : Nat} {u v : Value} {xs : List (List UInt8)} {ys : List Pr} {W w1 : World} (h : RD b u xs W) (hv : RP b' v ys W) (hg : W.grownBy w1 v.ownBlock) : RD b u xs w1 := Kd.R_over h hv (by decide) hg
theorem RB.overP {b b' : Nat} {u v : Value} {xs : List Bool} {ys : List Pr} {W w1 : World} (h : RB b u xs W) (hv : RP b' v ys W) (hg : W.grownBy w1 v.ownBlock) : RB b u xs w1 := Kd.R_over h hv (by decide) hg
theorem RP.overD {b b' : Nat} {u v : Value} {xs : List Pr} {ys : List (List UInt8)} {W w1 : World} (h : RP b u xs W) (hv : RD b' v ys W) (hg : W.grownBy w1 v.ownBlock) : RP b u xs w1 := Kd.R_over h hv (by decide) hg
theorem RB.overD {b b' : Nat} {u v : Value} {xs : List Bool} {ys : List (List UInt8)} {W w1 : World} (h : RB b u xs W) (hv : RD b' v ys W) (hg : W.grownBy w1 v.ownBlock) : RB b u xs w1 := Kd.R_over h hv (by decide) hg
theorem wpList_append_pr2 {ops : Array Oper} {rest : List Oper} {o : Oper} {a : Act} {Q : Exit → Act → World → Prop} {W : World} (hgd : o.guard = none) (s x : Operand) (ho : o.op = .call { callee := .builtin .append, args := #[s, x], argTypes := #[79, 79] })
    {b : Nat} {w0 : World} (v : Value) (xs : List Pr) (p : Pr) (hp : p.ok) (hs : a.eval s = v) (hx : a.eval x = .slice (some ⟨W.heap.size, 0, none⟩) 1 1) (HO : RP b v xs W) (HB : Below b w0 W) (hbase : b ≤ W.heap.size) (hl : xs.length ≤ 1073741824)
    (h : ∀ v1 w1, Hid (RP b v1 (xs ++ [p]) w1) → Below b w0 w1 → Hid (W.grownBy w1 v.ownBlock) → wpList Tryd.prog ops Q rest (a.put o.dst v1) w1) : wpList Tryd.prog ops Q (o :: rest) a (W.alloc (.cells (pcs p).toArray 116)) :=
  Kd.R_append kPr b hgd s x 79 116 (.agg (pcs ⟨⟨#[]⟩, zDig, zDig⟩).toArray) 80 ho Tryd.underlying79 info_pr80 rfl (by decide) (by decide) v xs p (pcs p) (fun _ => True) (fun _ => False) hs hx (kPr_M W b _ hp) (fun _ hk => hk.elim) (fun _ _ => trivial) HO HB hbase (by omega) (fun v1 w1 h1 h2 h3 _ => h v1 w1 (Lib.hid h1) h2 (Lib.hid h3))
theorem wpList_append_dig2 {ops : Array Oper} {rest : List Oper} {o : Oper} {a : Act} {Q : Exit → Act → World → Prop} {W : World} (hgd : o.guard = none) (s x : Operand) (ho : o.op = .call { callee := .builtin .append, args := #[s, x], argTypes := #[61, 61] })
    {b : Nat} {w0 : World} (v : Value) (xs : List (List UInt8)) (p : List UInt8) (hp : p.length = 32) (hs : a.eval s = v) (hx : a.eval x = .slice (some ⟨W.heap.size, 0, none⟩) 1 1) (HO : RD b v xs W) (HB : Below b w0 W) (hbase : b ≤ W.heap.size) (hl : xs.length ≤ 1073741824)
    (h : ∀ v1 w1, Hid (RD b v1 (xs ++ [p]) w1) → Below b w0 w1 → Hid (W.grownBy w1 v.ownBlock) → wpList Tryd.prog ops Q rest (a.put o.dst v1) w1) : wpList Tryd.prog ops Q (o :: rest) a (W.alloc (.cells (Lib.byteCells p).toArray 24)) :=
  Kd.R_append kDig b hgd s x 61 24 (.agg (Lib.byteCells (List.replicate 32 0)).toArray) 32 ho Tryd.underlying61 info_digest rfl (by decide) (by decide) v xs p (Lib.byteCells p) (fun _ => True) (fun _ => False) hs hx (kDig_M W b _ hp) (fun _ hk => hk.elim) (fun _ _ => trivial) HO HB hbase (by omega) (fun v1 w1 h1 h2 h3 _ => h v1 w1 (Lib.hid h1) h2 (Lib.hid h3))
theorem RP.step {b : Nat} {v : Value} {xs : List Pr} {w w1 : World} (h : RP b v xs w) (hm : ∀ k, v.ownBlock = some k → w1.heap[k]? = w.heap[k]?) : RP b v xs w1 := by
  obtain ⟨h0, inner, ho, hr⟩ := h
  have h2 : kPr.R 116 w b (fun k => v.ownBlock = some k) v xs := ⟨fun k hk => hk, inner, ho, hr.imp_ (fun _ _ hp => hp)⟩
  exact Kd.R_mono (Kd.R_move h2 hm) (fun _ _ => trivial)
theorem RD.far {b bx : Nat} {v : Value} {xs : List (List UInt8)} {q : Pr} {w w1 : World} (h : RD b v xs w) (hx : PrAt bx q w) (hk : ∀ k, k ≠ bx → w1.heap[k]? = w.heap[k]?) : RD b v xs w1 :=
  Kd.R_mono (Kd.R_step (Kd.R_types h hx (by decide)) (fun k hk' _ => hk k hk'.2)) (fun _ h => h.1)
theorem RB.far {b bx : Nat} {v : Value} {xs : List Bool} {q : Pr} {w w1 : World} (h : RB b v xs w) (hx : PrAt bx q w) (hk : ∀ k, k ≠ bx → w1.heap[k]? = w.heap[k]?) : RB b v xs w1 :=
  Kd.R_mono (Kd.R_step (Kd.R_types h hx (by decide)) (fun k hk' _ => hk k hk'.2)) (fun _ h => h.1)
theorem PrAt.grown {b : Nat} {p : Pr} {w w1 : World} {row : Option Nat} (h : PrAt b p w) (hg : w.grownBy w1 row) (hne : some b ≠ row) : PrAt b p w1 := blk_grown h hg hne
end Go.Proofs.YtldpnmebjnkjeaaDoor.TrW
namespace Go.Proofs.YtldpnmebjnkjeaaDoor.TrW
open Go.RowKit Go.Proofs.YtldpnmebjnkjeaaDoorW.PrintWords Go.Proofs.YtldpnmebjnkjeaaDoor.PH1 Go.Proofs.YtldpnmebjnkjeaaDoor Go.Proofs.YtldpnmebjnkjeaaDoorW.PrintLast Go.Proofs.YtldpnmebjnkjeaaDoorW.PrintMore
open Go.Proofs.YtldpnmebjnkjeaaDoor.Sha
open Go.Proofs.YtldpnmebjnkjeaaDoor.Ref10 (wp_store_dig wp_load_dig wpOp_wp range_row)
set_option linter.unusedVariables false
set_option linter.unusedSimpArgs false

theorem built_prA (a : List UInt8) (ha : a.length = 32) : Tryd.prog.built 116 [(1, .agg (Lib.byteCells a).toArray)] = some (pcs ⟨⟨#[]⟩, a, zDig⟩).toArray := by
  obtain ⟨i, hi, hz, _⟩ := pr_info
  unfold Program.built
  rw [hi, fields_pr]
  simp only [hz, places_pr]
  show Instr.fill _ (([Value.string ⟨#[]⟩] : List Value) ++ Lib.byteCells zDig ++ Lib.byteCells zDig).toArray [(1, .agg (Lib.byteCells a).toArray)] = _
  rw [fill_seg _ 1 1 32 (.agg (Lib.byteCells a).toArray) (Lib.byteCells a) [Value.string ⟨#[]⟩] (Lib.byteCells zDig) _ _ rfl rfl (bc_len ha) (bc_len zDig_len) rfl, Instr.fill]
  rfl
theorem wpList_build_prA {ops : Array Oper} {rest : List Oper} {o : Oper} {a : Act} {Q : Exit → Act → World → Prop} {w : World} (hgd : o.guard = none) (x0 : Operand) (ho : o.op = .build 116 #[(1, x0)])
    (p : List UInt8) (hp : p.length = 32) (h0 : a.eval x0 = .agg (Lib.byteCells p).toArray) (h : wpList Tryd.prog ops Q rest (a.put o.dst (.agg (pcs ⟨⟨#[]⟩, p, zDig⟩).toArray)) w) : wpList Tryd.prog ops Q (o :: rest) a w := by
  refine wpList_plain hgd fun _ hK => ?_
  unfold Oper.wp execOp
  simp only [ho, List.map_toArray, List.map_cons, List.map_nil, h0]
  rw [Sem.run_bind, run_build w 116 #[(1, .agg (Lib.byteCells p).toArray)] _ (built_prA p hp)]
  exact hK _ _ h
set_option maxHeartbeats 16000000 in
set_option maxRecDepth 100000 in
/-- What a bridge's digests are made of. -/
theorem bridged_calls (m0 n0 : Nat) (hm0 : 1 ≤ m0) (hmn : m0 ≤ n0) (hn : n0 ≤ 1024) (D : List UInt8) (hlf : D.length = 32) (ps : List (List UInt8)) (A : Option Addr) (c : Nat) (w : World) (hC : CD A ps w) (hc : ps.length ≤ c) (hK : KAt w) :
    Calls Tryd.prog 51 #[.int .i64 (m0 : Int), .int .i64 (n0 : Int), .agg (Lib.byteCells D).toArray, .slice A ps.length c] w fun e w' => ∃ v1 v2, e = .returned (.tuple #[v1, v2]) ∧ RP w.heap.size v1 (madeP ⟨⟨#[]⟩, D, zDig⟩ D (Tr.way m0 n0).reverse ps) w' ∧ RD w.heap.size v2 (Tr.chainD alg D (Tr.way m0 n0).reverse ps) w' ∧ Below w.heap.size w w' := by
  have hm := Kd.C_max hC
  have hle := way_le n0 m0 n0 (Nat.le_refl _)
  have HE : [] ++ Tr.way m0 n0 = Tr.way m0 n0 := rfl
  obtain ⟨L, hL⟩ : ∃ L, L = Tr.way m0 n0 := ⟨_, rfl⟩
  rw [← hL] at hle ⊢
  replace HE : Hid ([] ++ Tr.way m0 n0 = L) := Lib.hid (by rw [hL]; rfl)
  replace hL := Lib.hid hL
  replace hle := Lib.hid hle
  obtain ⟨P0, hP0⟩ : ∃ P0 : Pr, P0 = ⟨⟨#[]⟩, D, zDig⟩ := ⟨_, rfl⟩
  have hP0k : P0.ok := by rw [hP0]; exact ⟨hlf, zDig_len⟩
  rw [← hP0]
  replace hP0k := Lib.hid hP0k
  replace hP0 := Lib.hid hP0
  replace hC := Lib.hid hC
  replace hK := Lib.hid hK
  replace hlf := Lib.hid hlf
  go_enter Tryd.func51, Tryd.ntmps51
  go_upto_region 2 with (first | (guard_target = wpList _ _ _ (⟨some 19, _, _, _, _, _⟩ :: _) _ _; refine wpList_load_dig rfl (.tmp 6) rfl w.heap.size rfl D hlf.out _ _ (heap_alloc_last _ _) ?_) | (guard_target = wpList _ _ _ (⟨some 20, _, _, _, _, _⟩ :: _) _ _; refine wpList_build_prA rfl (.tmp 19) rfl D hlf.out rfl ?_; rw [← hP0.out]) | (guard_target = wpList _ _ _ (⟨some 21, _, _, _, _, _⟩ :: _) _ _; refine wpList_buildSlice_pr rfl (.tmp 20) rfl P0 hP0k.out rfl ?_))
  generalize hw0 : w.alloc _ = w0
  have HD : Hid (DigAt w.heap.size D w0) := by rw [← hw0]; exact Lib.hid (heap_alloc_last _ _)
  have HB : Hid (Below w.heap.size w w0) := by rw [← hw0]; exact Lib.hid ((Below.refl _ _).alloc (Nat.le_refl _) _)
  have hs0 : w0.heap.size = w.heap.size + 1 := by rw [← hw0]; simp
  clear hw0
  generalize hw1 : w0.alloc _ = w1
  have hb1 : Below w0.heap.size w0 w1 := by rw [← hw1]; exact (Below.refl _ _).alloc (Nat.le_refl _) _
  have HM : Hid (RP w.heap.size (.slice (some ⟨w0.heap.size, 0, none⟩) 1 1) [P0] w1) := by
    rw [← hw1]; exact Lib.hid (RP.one P0 hP0k.out _ HB.out.size)
  clear hw1
  replace HD := Lib.hid (HD.out.below hb1)
  replace HB := Lib.hid (HB.out.trans (hb1.mono HB.out.size))
  clear hb1
  rw [hs0] at HM
  replace hs0 := Lib.hid hs0
  generalize (Value.slice (some ⟨w.heap.size + 1, 0, none⟩) 1 1) = v10 at HM ⊢
  go_upto_region 3 with (first | (guard_target = wpList _ _ _ (⟨some 22, _, _, _, _, _⟩ :: _) _ _; refine wpList_load_dig rfl (.tmp 6) rfl w.heap.size rfl D hlf.out _ _ HD.out ?_) | (guard_target = wpList _ _ _ (⟨some 23, _, _, _, _, _⟩ :: _) _ _; refine wpList_buildSlice_dig rfl (.tmp 22) rfl D hlf.out rfl ?_))
  generalize hw3 : w1.alloc _ = w3
  have HA : Hid (RD w.heap.size (.slice (some ⟨w1.heap.size, 0, none⟩) 1 1) [D] w3) := by
    rw [← hw3]; exact Lib.hid (RD.one D hlf.out _ HB.out.size)
  have hb3 : Below w1.heap.size w1 w3 := by
    rw [← hw3]; exact (Below.refl _ _).alloc (Nat.le_refl _) _
  replace HM := Lib.hid (HM.out.below hb3)
  replace HB := Lib.hid (HB.out.trans (hb3.mono HB.out.size))
  clear hw3 hb3 HD
  generalize (Value.slice (some ⟨w1.heap.size, 0, none⟩) 1 1) = v11 at HA ⊢
  have HO : Hid (RB w3.heap.size (.slice none 0 0) [] w3) := Lib.hid (Kd.R_nil _ _ _ _ _)
  have H3 := Lib.hid (Below.refl w3.heap.size w3)
  go_wp2_with fail
  go_loopw [12, 13, 14] (fun v a b wx => ∃ (i n : Nat) (xs : List Bool) (u : Value), a = .int .i64 i ∧ b = .int .i64 n ∧ u = v ∧ 1 ≤ i ∧ i ≤ n ∧ n ≤ 1024 ∧ Hid (xs ++ Tr.way i n = L) ∧ Hid (RB w3.heap.size u xs wx) ∧ Hid (Below w3.heap.size w3 wx)) (fun _ _ b _ => (intOf b).toNat)
  case atStart => exact ⟨m0, n0, [], _, rfl, rfl, rfl, hm0, hmn, hn, HE, HO, H3⟩
  case round =>
    clear HE HO H3
    obtain ⟨i, n, xs, v5, rfl, rfl, rfl, hi1, hi, hn1, HE, HO, H3⟩ := hrel
    by_cases h2 : i < n
    · have hn2 : (i : Int) < (n : Int) := by omega
      have h3 := Tr.sp_lt (n := n) (by omega)
      have h4 := Tr.sp_pos n
      have h9 := Tr.sp_ge (n := n) (by omega)
      have hsp := fun W => rsplit_calls n hn1 W
      have hxl : Hid (xs.length ≤ 1073741824) := by
        have h5 := congrArg List.length HE.out
        rw [List.length_append] at h5
        have := hle.out
        exact Lib.hid (by omega)
      by_cases h1 : i ≤ Tr.sp n
      · skip
        have HE2 : Hid ((xs ++ [true]) ++ Tr.way i (Tr.sp n) = L) := by
          refine Lib.hid ?_
          rw [← HE.out, Tr.way_left _ _ ⟨hi1, h2⟩ h1, List.append_assoc]; rfl
        obtain ⟨k, hk⟩ : ∃ k, k = Tr.sp n := ⟨_, rfl⟩
        rw [← hk] at h3 h4 h1 hsp HE2 h9
        replace hk := Lib.hid hk
        have h1' : (i : Int) ≤ (k : Int) := by omega
        replace hsp := Lib.hid hsp
        go_wp2_with fail
        refine (hsp.out wr).mono ?_
        rintro e w4 ⟨rfl, hb⟩
        replace hb := hb.below
        replace HO := Lib.hid (HO.out.below hb)
        replace H3 := Lib.hid (H3.out.trans (Below.mono hb H3.out.size))
        clear hb hsp
        go_wp2_with (guard_target = wpList _ _ _ (⟨some 36, _, _, _, _, _⟩ :: _) _ _; refine wpList_append_bool rfl (.tmp 31) (.tmp 35) rfl v5 xs true rfl rfl HO.out H3.out H3.out.size hxl.out ?_; intro v1 w5 HO1 HB1)
        refine ⟨⟨i, k, xs ++ [true], v1, rfl, rfl, rfl, hi1, h1, by omega, HE2, HO1, Lib.hid HB1⟩, by simp [intOf]; omega⟩
      · skip
        have HE2 : Hid ((xs ++ [false]) ++ Tr.way (i - Tr.sp n) (n - Tr.sp n) = L) := by
          refine Lib.hid ?_
          rw [← HE.out, Tr.way_right _ _ ⟨hi1, h2⟩ h1, List.append_assoc]; rfl
        obtain ⟨k, hk⟩ : ∃ k, k = Tr.sp n := ⟨_, rfl⟩
        rw [← hk] at h3 h4 h1 hsp HE2 h9
        replace hk := Lib.hid hk
        have h1' : ¬ (i : Int) ≤ (k : Int) := by omega
        have h1b : decide ((i : Int) ≤ (k : Int)) = false := by rw [decide_eq_false_iff_not]; exact h1'
        have e1 : (i : Int) - (k : Int) = ((i - k : Nat) : Int) := by omega
        have e2 : (n : Int) - (k : Int) = ((n - k : Nat) : Int) := by omega
        replace e1 := Lib.hid e1
        replace e2 := Lib.hid e2
        replace hsp := Lib.hid hsp
        go_wp2_with fail
        refine (hsp.out wr).mono ?_
        rintro e w4 ⟨rfl, hb⟩
        replace hb := hb.below
        replace HO := Lib.hid (HO.out.below hb)
        replace H3 := Lib.hid (H3.out.trans (Below.mono hb H3.out.size))
        clear hb hsp
        go_wp2_with (guard_target = wpList _ _ _ (⟨some 36, _, _, _, _, _⟩ :: _) _ _; refine wpList_append_bool rfl (.tmp 31) (.tmp 35) rfl v5 xs false rfl rfl HO.out H3.out H3.out.size hxl.out ?_; intro v1 w5 HO1 HB1)
        refine ⟨⟨i - k, n - k, xs ++ [false], v1, by rw [e1.out], by rw [e2.out], rfl, by omega, by omega, by omega, HE2, HO1, Lib.hid HB1⟩, by simp [intOf]; omega⟩
    · have hn2 : ¬ (i : Int) < (n : Int) := by omega
      rw [Tr.way_end _ _ (by omega), List.append_nil] at HE
      have hll : Hid (L.length ≤ 1024) := Lib.hid (by have := hle.out; omega)
      have HL0 : Hid (RB w.heap.size v5 L wr) := Lib.hid (by rw [← HE.out]; exact HO.out.lower HB.out.size)
      have HM0 := Lib.hid (HM.out.below H3.out)
      have HA0 := Lib.hid (HA.out.below H3.out)
      have HB0 := Lib.hid (HB.out.trans (Below.mono H3.out HB.out.size))
      clear HM HA HB HO H3 HE hle
      obtain ⟨A1, c1, rfl, hc1, _⟩ := HL0.out.reads
      replace hc1 := Lib.hid hc1
      generalize wr = wq at HL0 HM0 HA0 HB0 ⊢
      go_wp2_with fail
      go_loopw [10, 11, 16] (fun a b c wx => ∃ (k : Nat) (u v : Value), u = a ∧ v = b ∧ c = .int .i64 k ∧ k ≤ ps.length ∧ k ≤ L.length ∧ Hid (RP w.heap.size u (madeP P0 D (L.reverse.take k) (ps.take k)) wx) ∧ Hid (RD w.heap.size v (Tr.chainD alg D (L.reverse.take k) (ps.take k)) wx) ∧ Hid (RB w.heap.size (.slice A1 L.length c1) L wx) ∧ Hid (Below w.heap.size w wx)) (fun _ _ a _ => ps.length - (intOf a).toNat)
      case atStart => exact ⟨0, _, _, rfl, rfl, rfl, Nat.zero_le _, Nat.zero_le _, HM0, HA0, HL0, HB0⟩
      case round =>
        clear HM0 HA0 HL0 HB0
        obtain ⟨k, v10, v11, rfl, rfl, rfl, hk, hkl, HM, HA, HL, HB⟩ := hrel
        by_cases hkn : k < ps.length ∧ k < L.length
        · obtain ⟨hkn, hkm⟩ := hkn
          have hkn' : (k : Int) < (ps.length : Int) := by omega
          have hkm' : (k : Int) < (L.length : Int) := by omega
          obtain ⟨q, hq⟩ : ∃ q : Nat, q = L.length - 1 - k := ⟨_, rfl⟩
          have hq' : (L.length : Int) - 1 - (k : Int) = (q : Int) := by omega
          have hqn : q < L.length := by omega
          have hqn' : (q : Int) < (L.length : Int) := by omega
          obtain ⟨p, hp⟩ : ∃ p, ps[k]? = some p := ⟨_, List.getElem?_eq_getElem hkn⟩
          obtain ⟨t, ht⟩ : ∃ t, L[q]? = some t := ⟨_, List.getElem?_eq_getElem hqn⟩
          have htr : L.reverse[k]? = some t := by rw [List.getElem?_reverse hkm, ← hq]; exact ht
          have hMs := madeP_step P0 L.reverse ps D k t p htr hp
          have hDs := chainD_step L.reverse ps D k t p htr hp
          have hDat := chainD_at L.reverse ps D k (by rw [List.length_reverse]; exact hkl) hk
          have hDl : (Tr.chainD alg D (L.reverse.take k) (ps.take k)).length = k + 1 := by
            rw [chainD_len, List.length_take, List.length_take, List.length_reverse]; omega
          have hMl : (madeP P0 D (L.reverse.take k) (ps.take k)).length = k + 1 := by
            rw [madeP_len, List.length_take, List.length_take, List.length_reverse]; omega
          have hdl : (Tr.last alg D (L.reverse.take k) (ps.take k)).length = 32 := last_len _ _ _ hlf.out
          generalize Tr.last alg D (L.reverse.take k) (ps.take k) = d at hMs hDs hDat hdl
          obtain ⟨M, hM⟩ : ∃ M, M = madeP P0 D (L.reverse.take k) (ps.take k) := ⟨_, rfl⟩
          obtain ⟨X, hX⟩ : ∃ X, X = Tr.chainD alg D (L.reverse.take k) (ps.take k) := ⟨_, rfl⟩
          rw [← hM] at HM hMs hMl
          rw [← hX] at HA hDs hDat hDl
          replace hM := Lib.hid hM
          replace hX := Lib.hid hX
          obtain ⟨A2, c2, hv11, hc2, HX⟩ := HA.out.reads
          rw [hDl] at hv11 hc2
          obtain ⟨_, ad2, rfl, hda⟩ := HX.get hDat
          obtain ⟨hpl, ad, hAd, hpa⟩ := (hC.out.below HB.out).get hp
          subst hAd
          subst hv11
          obtain ⟨A1', c1', hv12, hc12, HLb⟩ := HL.out.reads
          obtain ⟨ad1, hA1, hlb⟩ := HLb.get ht
          cases hv12
          subst hA1
          have hLn := hll.out
          have hwb := HB.out.size
          have ex1 : ((k + 1 : Nat) : Int) - 1 = (k : Int) := by omega
          have ex2 : (k : Int) + 1 - 1 = (k : Int) := by omega
          have ex3 : (k : Int) < ((k + 1 : Nat) : Int) := by omega
          have ex4 : (k : Int) < (k : Int) + 1 := by omega
          replace HX := Lib.hid HX
          replace hda := Lib.hid hda
          replace hpa := Lib.hid hpa
          replace hlb := Lib.hid hlb
          replace hdl := Lib.hid hdl
          replace hpl := Lib.hid hpl
          replace hp := Lib.hid hp
          replace ht := Lib.hid ht
          replace htr := Lib.hid htr
          replace hq := Lib.hid hq
          replace hMs := Lib.hid hMs
          replace hDs := Lib.hid hDs
          replace hDat := Lib.hid hDat
          replace hDl := Lib.hid hDl
          replace hMl := Lib.hid hMl
          replace hc2 := Lib.hid hc2
          replace hc12 := Lib.hid hc12
          clear HLb
          go_upto_region 17 with (first | (guard_target = wpList _ _ _ (⟨some 64, _, _, _, _, _⟩ :: _) _ _; refine wpList_load_digA rfl (.tmp 63) rfl (ad2.add (k * 32)) rfl d hdl.out hda.out ?_) | (guard_target = wpList _ _ _ (⟨none, _, _, _, _, _⟩ :: _) _ _; refine wpList_store_dig rfl (.tmp 17) (.tmp 64) rfl wr.heap.size rfl d hdl.out rfl _ _ (heap_alloc_last _ _) zrow ?_; intro w5 h5 _ hB5))
          have hb5 := hB5 ((Below.refl wr.heap.size wr).alloc (Nat.le_refl _) _) (Nat.le_refl _)
          have HD : Hid (DigAt wr.heap.size d w5) := h5
          have hne10 : Hid (v10.ownBlock ≠ some wr.heap.size) := Lib.hid (fun e => absurd (HM.out.lt _ e) (Nat.lt_irrefl _))
          replace HM := Lib.hid (HM.out.below hb5)
          replace HA := Lib.hid (HA.out.below hb5)
          replace HL := Lib.hid (HL.out.below hb5)
          replace HB := Lib.hid (HB.out.trans (hb5.mono HB.out.size))
          obtain ⟨bd, hbd⟩ : ∃ b, b = wr.heap.size := ⟨_, rfl⟩
          have hbw : Hid (w.heap.size ≤ bd) := Lib.hid (by omega)
          rw [← hbd] at HD ⊢
          clear h5 hB5 hda HX hne10 hlb hpa hwb hb5
          replace hbd := Lib.hid hbd
          -- region 8
          replace HB := Lib.hid HB.out.drew
          replace HD : Hid (DigAt bd d w5.drew) := HD
          replace HM : Hid (RP w.heap.size v10 M w5.drew) := HM
          replace HA : Hid (RD w.heap.size (.slice (some ad2) (k + 1) c2) X w5.drew) := HA
          replace HL : Hid (RB w.heap.size (.slice (some ad1) L.length c1) L w5.drew) := HL
          obtain ⟨_, ad', hAd', hpa⟩ := (hC.out.below HB.out).get hp.out
          cases hAd'
          have hS : SS (ad.add (k * 32)) p ⟨bd, 0, none⟩ d w5.drew := ⟨hpa, DigAt.ad HD.out⟩
          clear hpa
          refine wp_region_held (S := SS (ad.add (k * 32)) p ⟨bd, 0, none⟩ d) (by kernel_rfl) ?_
          change wpAnyH _ _ _ _ _ _ _ _ w5.drew
          generalize w5.drew = w6 at hS HB HD HM HA HL ⊢
          refine wpAnyH_take (i := 0) (v := ?_) rfl (by kernel_rfl) (by kernel_rfl) (by kernel_rfl) (fun _ _ _ h => h) (Or.inl ⟨by rfl, ?_⟩) hS ?_
          rotate_left
          · intro v _; go_simp; first | done | with_reducible rfl
          rotate_left
          simp only [List.getElem_toArray, List.getElem_cons_succ, List.getElem_cons_zero, Act.put, List.setIfInBounds_toArray, List.set_cons_zero, List.set_cons_succ]
          refine wpAnyH_take (i := 1) (v := ?_) rfl (by kernel_rfl) (by kernel_rfl) (by kernel_rfl) (fun _ _ _ h => h) (Or.inl ⟨by rfl, ?_⟩) hS ?_
          rotate_left
          · intro v _; go_simp; first | done | with_reducible rfl
          rotate_left
          simp only [List.getElem_toArray, List.getElem_cons_succ, List.getElem_cons_zero, Act.put, List.setIfInBounds_toArray, List.set_cons_zero, List.set_cons_succ]
          refine wpAnyH_take (i := 2) (v := ?_) rfl (by kernel_rfl) (by kernel_rfl) (by kernel_rfl) (fun _ _ _ h => h) (Or.inl ⟨by rfl, ?_⟩) hS ?_
          rotate_left
          · intro v _; go_simp; first | done | with_reducible rfl
          rotate_left
          simp only [List.getElem_toArray, List.getElem_cons_succ, List.getElem_cons_zero, Act.put, List.setIfInBounds_toArray, List.set_cons_zero, List.set_cons_succ]
          refine wpAnyH_take (i := 3) (v := _) rfl (by kernel_rfl) (by kernel_rfl) (by kernel_rfl) (fun _ _ _ h => h) (yieldsIf_digA (by rfl) (.tmp 67) rfl (ad.add (k * 32)) rfl p hpl.out (fun _ h => h.1)) hS ?_
          try simp only [List.getElem_toArray, List.getElem_cons_succ, List.getElem_cons_zero, Act.put, List.setIfInBounds_toArray, List.set_cons_zero, List.set_cons_succ]
          refine wpAnyH_take (i := 4) (v := _) rfl (by kernel_rfl) (by kernel_rfl) (by kernel_rfl) (fun _ _ _ h => h) (yieldsIf_digA (by rfl) (.tmp 17) rfl ⟨bd,0,none⟩ rfl d hdl.out (fun _ h => h.2)) hS ?_
          try simp only [List.getElem_toArray, List.getElem_cons_succ, List.getElem_cons_zero, Act.put, List.setIfInBounds_toArray, List.set_cons_zero, List.set_cons_succ]
          refine wpAnyH_take (i := 5) (v := _) rfl (by kernel_rfl) (by kernel_rfl) (by kernel_rfl) (fun _ _ _ h => h) (yieldsIf_build_pr2 (by rfl) (.tmp 68) (.tmp 69) rfl p d hpl.out hdl.out rfl rfl) hS ?_
          try simp only [List.getElem_toArray, List.getElem_cons_succ, List.getElem_cons_zero, Act.put, List.setIfInBounds_toArray, List.set_cons_zero, List.set_cons_succ]
          refine wpAnyH_all (rs := [6]) (by kernel_rfl) (by simp) ?_
          intro i hi
          simp only [List.mem_cons, List.not_mem_nil, or_false] at hi
          subst hi
          refine wpOp_wp rfl (by rfl) ?_
          refine wp_alloc_pr rfl ?_
          intro w7 HX hb7
          have hnxd : Hid (w6.heap.size ≠ bd) := Lib.hid (fun e => absurd (dig_lt HD.out) (by omega))
          have hne10 : Hid (v10.ownBlock ≠ some w6.heap.size) := Lib.hid (fun e => absurd (HM.out.lt _ e) (Nat.lt_irrefl _))
          have hxw : Hid (w.heap.size ≤ w6.heap.size) := Lib.hid HB.out.size
          clear hS
          have hS : SS (ad.add (k * 32)) p ⟨bd, 0, none⟩ d w7 := by
            obtain ⟨_, ad', hAd', hpa⟩ := (hC.out.below (HB.out.trans (hb7.mono HB.out.size))).get hp.out
            cases hAd'
            exact ⟨hpa, DigAt.ad (HD.out.below hb7)⟩
          refine ⟨hS, ?_⟩
          try simp only [List.getElem_toArray, List.getElem_cons_succ, List.getElem_cons_zero, Act.put, List.setIfInBounds_toArray, List.set_cons_zero, List.set_cons_succ]
          clear hS
          refine wpAnyH_all (rs := [7]) (by kernel_rfl) (by simp) ?_
          intro i hi
          simp only [List.mem_cons, List.not_mem_nil, or_false] at hi
          subst hi
          refine wpOp_wp rfl (by rfl) ?_
          refine wp_store_pr (.tmp 18) (.tmp 70) rfl w6.heap.size rfl ⟨⟨#[]⟩, p, d⟩ ⟨hpl.out, hdl.out⟩ rfl _ ⟨zDig_len, zDig_len⟩ HX.out ?_
          intro w8 h8 hk8 hB8 hs8
          have hb8 : Below w6.heap.size w6 w8 := hB8 hb7 (Nat.le_refl _)
          clear HX hb7 hk8 hB8 hs8
          replace HM := Lib.hid (HM.out.below hb8)
          replace HA := Lib.hid (HA.out.below hb8)
          replace HL := Lib.hid (HL.out.below hb8)
          replace HD := Lib.hid (HD.out.below hb8)
          replace HB := Lib.hid (HB.out.trans (hb8.mono HB.out.size))
          clear hb8
          have HX : Hid (PrAt w6.heap.size ⟨⟨#[]⟩, p, d⟩ w8) := h8
          clear h8
          generalize w6.heap.size = bx at HX hne10 hxw hnxd ⊢
          have hS : SS (ad.add (k * 32)) p ⟨bd, 0, none⟩ d w8 := by
            obtain ⟨_, ad', hAd', hpa⟩ := (hC.out.below HB.out).get hp.out
            cases hAd'
            exact ⟨hpa, DigAt.ad HD.out⟩
          refine ⟨hS, ?_⟩
          try simp only [List.getElem_toArray, List.getElem_cons_succ, List.getElem_cons_zero, Act.put, List.setIfInBounds_toArray, List.set_cons_zero, List.set_cons_succ]
          refine wpAnyH_done (by kernel_rfl) ?_ _
          clear hS
          obtain ⟨A1', c1', hv12, hc12, HLb⟩ := HL.out.reads
          obtain ⟨ad1', hA1, hlb⟩ := HLb.get ht.out
          cases hv12
          cases hA1
          clear HLb hc12
          cases t with
          | true =>
            go_upto_region 19 with fail
            clear hlb
            replace HB := Lib.hid HB.out.drew
            replace HD : Hid (DigAt bd d w8.drew) := HD
            replace HX : Hid (PrAt bx ⟨⟨#[]⟩, p, d⟩ w8.drew) := HX
            replace HM : Hid (RP w.heap.size v10 M w8.drew) := HM
            replace HA : Hid (RD w.heap.size (.slice (some ad2) (k + 1) c2) X w8.drew) := HA
            replace HL : Hid (RB w.heap.size (.slice (some ad1) L.length c1) L w8.drew) := HL
            have hS : SS (ad.add (k * 32)) p ⟨bd, 0, none⟩ d w8.drew := by
              obtain ⟨_, ad', hAd', hpa⟩ := (hC.out.below HB.out).get hp.out
              cases hAd'
              exact ⟨hpa, DigAt.ad HD.out⟩
            refine wp_region_held (S := SS (ad.add (k * 32)) p ⟨bd, 0, none⟩ d) (by kernel_rfl) ?_
            change wpAnyH _ _ _ _ _ _ _ _ w8.drew
            generalize w8.drew = w9 at hS HB HD HX HM HA HL ⊢
            refine wpAnyH_take (i := 0) (v := _) rfl (by kernel_rfl) (by kernel_rfl) (by kernel_rfl) (fun _ _ _ h => h) (yieldsIf_digA (by rfl) (.tmp 17) rfl ⟨bd,0,none⟩ rfl d hdl.out (fun _ h => h.2)) hS ?_
            try simp only [List.getElem_toArray, List.getElem_cons_succ, List.getElem_cons_zero, Act.put, List.setIfInBounds_toArray, List.set_cons_zero, List.set_cons_succ]
            refine wpAnyH_take (i := 1) (v := ?_) rfl (by kernel_rfl) (by kernel_rfl) (by kernel_rfl) (fun _ _ _ h => h) (Or.inl ⟨by rfl, ?_⟩) hS ?_
            rotate_left
            · intro v _; go_simp; first | done | with_reducible rfl
            rotate_left
            simp only [List.getElem_toArray, List.getElem_cons_succ, List.getElem_cons_zero, Act.put, List.setIfInBounds_toArray, List.set_cons_zero, List.set_cons_succ]
            refine wpAnyH_take (i := 2) (v := ?_) rfl (by kernel_rfl) (by kernel_rfl) (by kernel_rfl) (fun _ _ _ h => h) (Or.inl ⟨by rfl, ?_⟩) hS ?_
            rotate_left
            · intro v _; go_simp; first | done | with_reducible rfl
            rotate_left
            simp only [List.getElem_toArray, List.getElem_cons_succ, List.getElem_cons_zero, Act.put, List.setIfInBounds_toArray, List.set_cons_zero, List.set_cons_succ]
            refine wpAnyH_take (i := 3) (v := ?_) rfl (by kernel_rfl) (by kernel_rfl) (by kernel_rfl) (fun _ _ _ h => h) (Or.inl ⟨by rfl, ?_⟩) hS ?_
            rotate_left
            · intro v _; go_simp; first | done | with_reducible rfl
            rotate_left
            simp only [List.getElem_toArray, List.getElem_cons_succ, List.getElem_cons_zero, Act.put, List.setIfInBounds_toArray, List.set_cons_zero, List.set_cons_succ]
            refine wpAnyH_take (i := 4) (v := _) rfl (by kernel_rfl) (by kernel_rfl) (by kernel_rfl) (fun _ _ _ h => h) (yieldsIf_digA (by rfl) (.tmp 82) rfl (ad.add (k * 32)) rfl p hpl.out (fun _ h => h.1)) hS ?_
            try simp only [List.getElem_toArray, List.getElem_cons_succ, List.getElem_cons_zero, Act.put, List.setIfInBounds_toArray, List.set_cons_zero, List.set_cons_succ]
            refine wpAnyH_take (i := 5) (v := _) rfl (by kernel_rfl) (by kernel_rfl) (by kernel_rfl) (fun _ _ _ h => h) (yieldsIf_build_pr2 (by rfl) (.tmp 79) (.tmp 83) rfl d p hdl.out hpl.out rfl rfl) hS ?_
            try simp only [List.getElem_toArray, List.getElem_cons_succ, List.getElem_cons_zero, Act.put, List.setIfInBounds_toArray, List.set_cons_zero, List.set_cons_succ]
            refine wpAnyH_all (rs := [6]) (by kernel_rfl) (by simp) ?_
            intro i hi
            simp only [List.mem_cons, List.not_mem_nil, or_false] at hi
            subst hi
            refine wpOp_wp rfl (by rfl) ?_
            refine wp_store_pr (.tmp 18) (.tmp 84) rfl bx rfl ⟨⟨#[]⟩, d, p⟩ ⟨hdl.out, hpl.out⟩ rfl _ ⟨hpl.out, hdl.out⟩ HX.out ?_
            intro w10 h10 hk10 hB10 hs10
            replace HM := Lib.hid (RP.step HM.out (w1 := w10) (fun k hk => hk10 k (fun e => hne10.out (e ▸ hk))))
            replace HA := Lib.hid (RD.far HA.out HX.out hk10)
            replace HL := Lib.hid (RB.far HL.out HX.out hk10)
            replace HB := Lib.hid (hB10 HB.out hxw.out)
            have HX10 : Hid (PrAt bx ⟨⟨#[]⟩, d, p⟩ w10) := h10
            replace HD : Hid (DigAt bd d w10) := by refine Lib.hid ?_; unfold DigAt; rw [hk10 _ (Ne.symm hnxd.out)]; exact HD.out
            clear hS HX h10 hk10 hB10 hs10
            have hS : SS (ad.add (k * 32)) p ⟨bd, 0, none⟩ d w10 := by
              obtain ⟨_, ad', hAd', hpa⟩ := (hC.out.below HB.out).get hp.out
              cases hAd'
              exact ⟨hpa, DigAt.ad HD.out⟩
            refine ⟨hS, ?_⟩
            try simp only [List.getElem_toArray, List.getElem_cons_succ, List.getElem_cons_zero, Act.put, List.setIfInBounds_toArray, List.set_cons_zero, List.set_cons_succ]
            refine wpAnyH_done (by kernel_rfl) ?_ _
            clear hS HD
            obtain ⟨Y, hY⟩ : ∃ Y : Pr, Y = ⟨⟨#[]⟩, d, p⟩ := ⟨_, rfl⟩
            rw [← hY] at HX10
            have hYok : Hid (Y.ok) := Lib.hid (by rw [hY]; exact ⟨hdl.out, hpl.out⟩)
            have hYn : Hid (Y = pairP (Tr.nextP true d p)) := Lib.hid hY
            have hYj : Hid (joinP Y.a Y.b = Tr.next alg true d p) := Lib.hid (by rw [hY]; rfl)
            clear hY
            generalize w10 = wy at HM HA HL HB HX10 ⊢
            have hMl9 : M.length ≤ 1073741824 := by rw [hMl.out]; have := hll.out; omega
            have hDl9 : X.length ≤ 1073741824 := by rw [hDl.out]; have := hll.out; omega
            replace hMl9 := Lib.hid hMl9
            replace hDl9 := Lib.hid hDl9
            go_upto_region 21 with (first | (guard_target = wpList _ _ _ (⟨some 86, _, _, _, _, _⟩ :: _) _ _; refine wpList_load_prA rfl (.tmp 18) rfl ⟨bx, 0, none⟩ rfl Y hYok.out HX10.out.ad ?_) | (guard_target = wpList _ _ _ (⟨some 87, _, _, _, _, _⟩ :: _) _ _; refine wpList_buildSlice_pr rfl (.tmp 86) rfl Y hYok.out rfl ?_) | (guard_target = wpList _ _ _ (⟨some 88, _, _, _, _, _⟩ :: _) _ _; refine wpList_append_pr2 rfl (.tmp 85) (.tmp 87) rfl v10 M Y hYok.out rfl rfl HM.out HB.out HB.out.size hMl9.out ?_; intro vm w11 HM11 HB11 hg11))
            replace HX10 := Lib.hid (HX10.out.grown hg11.out (Ne.symm hne10.out))
            replace HA := Lib.hid (HA.out.overP HM.out hg11.out)
            replace HL := Lib.hid (HL.out.overP HM.out hg11.out)
            clear HM hg11 HB
            have HM := HM11
            have HB := Lib.hid HB11
            clear HM11 HB11
            have hya : DigAd ⟨bx, 1, none⟩ Y.a w11 := PrAd.a HX10.out.ad hYok.out
            have hyb : DigAd ⟨bx, 33, none⟩ Y.b w11 := PrAd.b HX10.out.ad hYok.out
            go_wp2_with (first | (guard_target = wpList _ _ _ (⟨some 91, _, _, _, _, _⟩ :: _) _ _; refine wpList_load_digA rfl (.tmp 90) rfl ⟨bx, 1, none⟩ rfl Y.a hYok.out.1 hya ?_) | (guard_target = wpList _ _ _ (⟨some 93, _, _, _, _, _⟩ :: _) _ _; refine wpList_load_digA rfl (.tmp 92) rfl ⟨bx, 33, none⟩ rfl Y.b hYok.out.2 hyb ?_))
            refine (tjoin_calls Y.a Y.b hYok.out.1 hYok.out.2 w11 (hK.out.below HB.out)).mono ?_
            rintro e w12 ⟨rfl, hb⟩
            clear hya hyb HX10
            have HJ : Hid ((joinP Y.a Y.b).length = 32) := Lib.hid (sumL_len _)
            generalize joinP Y.a Y.b = J at HJ hYj ⊢
            replace HM := Lib.hid (HM.out.below hb)
            replace HA := Lib.hid (HA.out.below hb)
            replace HL := Lib.hid (HL.out.below hb)
            replace HB := Lib.hid (HB.out.trans (hb.mono HB.out.size))
            clear hb
            go_wp2_with (first | (guard_target = wpList _ _ _ (⟨some 95, _, _, _, _, _⟩ :: _) _ _; refine wpList_buildSlice_dig rfl (.tmp 94) rfl J HJ.out rfl ?_) | (guard_target = wpList _ _ _ (⟨some 96, _, _, _, _, _⟩ :: _) _ _; refine wpList_append_dig2 rfl (.tmp 89) (.tmp 95) rfl _ X J HJ.out rfl rfl HA.out HB.out HB.out.size hDl9.out ?_; intro va w13 HA13 HB13 hg13))
            replace HM := Lib.hid (HM.out.overD HA.out hg13.out)
            replace HL := Lib.hid (HL.out.overD HA.out hg13.out)
            clear HA HB
            rw [hYn.out, ← hMs.out] at HM
            rw [hYj.out, ← hDs.out] at HA13
            refine ⟨⟨k + 1, vm, va, rfl, rfl, by go_num, by omega, by omega, HM, HA13, HL, Lib.hid HB13⟩, ?_⟩
            simp [intOf]
            omega
          | false =>
            have HX10 := HX
            clear HX HD
            go_upto_region 20 with fail
            clear hlb
            obtain ⟨Y, hY⟩ : ∃ Y : Pr, Y = ⟨⟨#[]⟩, p, d⟩ := ⟨_, rfl⟩
            rw [← hY] at HX10
            have hYok : Hid (Y.ok) := Lib.hid (by rw [hY]; exact ⟨hpl.out, hdl.out⟩)
            have hYn : Hid (Y = pairP (Tr.nextP false d p)) := Lib.hid hY
            have hYj : Hid (joinP Y.a Y.b = Tr.next alg false d p) := Lib.hid (by rw [hY]; rfl)
            clear hY
            generalize w8 = wy at HM HA HL HB HX10 ⊢
            have hMl9 : M.length ≤ 1073741824 := by rw [hMl.out]; have := hll.out; omega
            have hDl9 : X.length ≤ 1073741824 := by rw [hDl.out]; have := hll.out; omega
            replace hMl9 := Lib.hid hMl9
            replace hDl9 := Lib.hid hDl9
            go_upto_region 21 with (first | (guard_target = wpList _ _ _ (⟨some 86, _, _, _, _, _⟩ :: _) _ _; refine wpList_load_prA rfl (.tmp 18) rfl ⟨bx, 0, none⟩ rfl Y hYok.out HX10.out.ad ?_) | (guard_target = wpList _ _ _ (⟨some 87, _, _, _, _, _⟩ :: _) _ _; refine wpList_buildSlice_pr rfl (.tmp 86) rfl Y hYok.out rfl ?_) | (guard_target = wpList _ _ _ (⟨some 88, _, _, _, _, _⟩ :: _) _ _; refine wpList_append_pr2 rfl (.tmp 85) (.tmp 87) rfl v10 M Y hYok.out rfl rfl HM.out HB.out HB.out.size hMl9.out ?_; intro vm w11 HM11 HB11 hg11))
            replace HX10 := Lib.hid (HX10.out.grown hg11.out (Ne.symm hne10.out))
            replace HA := Lib.hid (HA.out.overP HM.out hg11.out)
            replace HL := Lib.hid (HL.out.overP HM.out hg11.out)
            clear HM hg11 HB
            have HM := HM11
            have HB := Lib.hid HB11
            clear HM11 HB11
            have hya : DigAd ⟨bx, 1, none⟩ Y.a w11 := PrAd.a HX10.out.ad hYok.out
            have hyb : DigAd ⟨bx, 33, none⟩ Y.b w11 := PrAd.b HX10.out.ad hYok.out
            go_wp2_with (first | (guard_target = wpList _ _ _ (⟨some 91, _, _, _, _, _⟩ :: _) _ _; refine wpList_load_digA rfl (.tmp 90) rfl ⟨bx, 1, none⟩ rfl Y.a hYok.out.1 hya ?_) | (guard_target = wpList _ _ _ (⟨some 93, _, _, _, _, _⟩ :: _) _ _; refine wpList_load_digA rfl (.tmp 92) rfl ⟨bx, 33, none⟩ rfl Y.b hYok.out.2 hyb ?_))
            refine (tjoin_calls Y.a Y.b hYok.out.1 hYok.out.2 w11 (hK.out.below HB.out)).mono ?_
            rintro e w12 ⟨rfl, hb⟩
            clear hya hyb HX10
            have HJ : Hid ((joinP Y.a Y.b).length = 32) := Lib.hid (sumL_len _)
            generalize joinP Y.a Y.b = J at HJ hYj ⊢
            replace HM := Lib.hid (HM.out.below hb)
            replace HA := Lib.hid (HA.out.below hb)
            replace HL := Lib.hid (HL.out.below hb)
            replace HB := Lib.hid (HB.out.trans (hb.mono HB.out.size))
            clear hb
            go_wp2_with (first | (guard_target = wpList _ _ _ (⟨some 95, _, _, _, _, _⟩ :: _) _ _; refine wpList_buildSlice_dig rfl (.tmp 94) rfl J HJ.out rfl ?_) | (guard_target = wpList _ _ _ (⟨some 96, _, _, _, _, _⟩ :: _) _ _; refine wpList_append_dig2 rfl (.tmp 89) (.tmp 95) rfl _ X J HJ.out rfl rfl HA.out HB.out HB.out.size hDl9.out ?_; intro va w13 HA13 HB13 hg13))
            replace HM := Lib.hid (HM.out.overD HA.out hg13.out)
            replace HL := Lib.hid (HL.out.overD HA.out hg13.out)
            clear HA HB
            rw [hYn.out, ← hMs.out] at HM
            rw [hYj.out, ← hDs.out] at HA13
            refine ⟨⟨k + 1, vm, va, rfl, rfl, by go_num, by omega, by omega, HM, HA13, HL, Lib.hid HB13⟩, ?_⟩
            simp [intOf]
            omega
        · have hcond : ps.length ≤ k ∨ L.length ≤ k := by omega
          have hmin : min L.reverse.length ps.length ≤ k := by rw [List.length_reverse]; omega
          have eM := madeP_take P0 L.reverse ps D k hmin
          have eD := chainD_take L.reverse ps D k hmin
          rw [eM] at HM
          rw [eD] at HA
          clear eM eD hmin
          by_cases h1 : ps.length ≤ k
          · have hkn' : ¬ (k : Int) < (ps.length : Int) := by omega
            replace hcond := Lib.hid hcond
            replace hkn := Lib.hid hkn
            go_wp2_with fail
            go_ret2
            exact ⟨v10, v11, rfl, HM.out, HA.out, HB.out⟩
          · have hkn' : (k : Int) < (ps.length : Int) := by omega
            have hkm' : ¬ (k : Int) < (L.length : Int) := by omega
            replace hcond := Lib.hid hcond
            replace hkn := Lib.hid hkn
            go_wp2_with fail
            go_ret2
            exact ⟨v10, v11, rfl, HM.out, HA.out, HB.out⟩
end Go.Proofs.YtldpnmebjnkjeaaDoor.TrW
namespace Go.Proofs.YtldpnmebjnkjeaaDoor.TrW
open Go.RowKit Go.Proofs.YtldpnmebjnkjeaaDoorW.PrintWords Go.Proofs.YtldpnmebjnkjeaaDoor.PH1 Go.Proofs.YtldpnmebjnkjeaaDoor Go.Proofs.YtldpnmebjnkjeaaDoorW.PrintLast Go.Proofs.YtldpnmebjnkjeaaDoorW.PrintMore
open Go.Proofs.YtldpnmebjnkjeaaDoor.Sha
open Go.Proofs.YtldpnmebjnkjeaaDoor.Ref10 (wp_store_dig wp_load_dig wpOp_wp range_row)
set_option linter.unusedVariables false
set_option linter.unusedSimpArgs false

/-- Is any digest of two chains made of two things? -/
def twB : List Pr → List (List UInt8) → List Pr → List (List UInt8) → Bool
  | a :: al, x :: xs, b :: bs, y :: ys => (decide (x = y) && !decide (a = b)) || twB al xs bs ys
  | _, _, _, _ => false
theorem twB_drop (a : List Pr) (x : List (List UInt8)) (b : List Pr) (y : List (List UInt8)) (k : Nat) (p : Pr) (d : List UInt8) (q : Pr) (e : List UInt8) (h1 : a[k]? = some p) (h2 : x[k]? = some d) (h3 : b[k]? = some q) (h4 : y[k]? = some e) :
    twB (a.drop k) (x.drop k) (b.drop k) (y.drop k) = ((decide (d = e) && !decide (p = q)) || twB (a.drop (k + 1)) (x.drop (k + 1)) (b.drop (k + 1)) (y.drop (k + 1))) := by
  obtain ⟨a1, a2⟩ := List.getElem?_eq_some_iff.1 h1
  obtain ⟨b1, b2⟩ := List.getElem?_eq_some_iff.1 h2
  obtain ⟨c1, c2⟩ := List.getElem?_eq_some_iff.1 h3
  obtain ⟨d1, d2⟩ := List.getElem?_eq_some_iff.1 h4
  rw [List.drop_eq_getElem_cons a1, List.drop_eq_getElem_cons b1, List.drop_eq_getElem_cons c1, List.drop_eq_getElem_cons d1, a2, b2, c2, d2]
  rfl
theorem twB_end (a : List Pr) (x : List (List UInt8)) (b : List Pr) (y : List (List UInt8)) (k : Nat) (h : a.length ≤ k ∨ x.length ≤ k ∨ b.length ≤ k ∨ y.length ≤ k) : twB (a.drop k) (x.drop k) (b.drop k) (y.drop k) = false := by
  rcases h with h | h | h | h <;> rw [List.drop_eq_nil_of_le h]
  · rfl
  · cases a.drop k <;> rfl
  · cases a.drop k <;> cases x.drop k <;> rfl
  · cases a.drop k <;> cases x.drop k <;> cases b.drop k <;> rfl
/-- Somewhere it is so. -/
theorem twB_true : ∀ (i : Nat) (a : List Pr) (x : List (List UInt8)) (b : List Pr) (y : List (List UInt8)), i < a.length → i < x.length → i < b.length → i < y.length → x[i]? = y[i]? → a[i]? ≠ b[i]? → twB a x b y = true
  | 0, p :: a, d :: x, q :: b, e :: y, _, _, _, _, h, hn => by
    simp only [List.getElem?_cons_zero, Option.some.injEq, ne_eq] at h hn
    simp [twB, h, hn]
  | i + 1, p :: a, d :: x, q :: b, e :: y, h1, h2, h3, h4, h, hn => by
    simp only [List.getElem?_cons_succ] at h hn
    have := twB_true i a x b y (by simpa using h1) (by simpa using h2) (by simpa using h3) (by simpa using h4) h hn
    simp [twB, this]
  | _, [], _, _, _, h1, _, _, _, _, _ => by simp at h1
  | _, _ :: _, [], _, _, _, h2, _, _, _, _ => by simp at h2
  | _, _ :: _, _ :: _, [], _, _, _, h3, _, _, _ => by simp at h3
  | _, _ :: _, _ :: _, _ :: _, [], _, _, _, h4, _, _ => by simp at h4
/-- What the loads of a round read. -/
def S4 (a1 : Addr) (x : List UInt8) (a2 : Addr) (y : List UInt8) (a3 : Addr) (p : Pr) (a4 : Addr) (q : Pr) (W : World) : Prop := DigAd a1 x W ∧ DigAd a2 y W ∧ PrAd a3 p W ∧ PrAd a4 q W
theorem eqguardP : Tryd.prog.eqGuardType Tryd.prog.depth 116 = false := by kernel_rfl
set_option maxHeartbeats 8000000 in
set_option maxRecDepth 100000 in
theorem twice_calls (A1 A2 A3 A4 : Option Addr) (c1 c2 c3 c4 : Nat) (a : List Pr) (x : List (List UInt8)) (b : List Pr) (y : List (List UInt8)) (w : World) (h1 : CP A1 a w) (h2 : CD A2 x w) (h3 : CP A3 b w) (h4 : CD A4 y w) (ha : ∀ p ∈ a, p.ok) (hb : ∀ p ∈ b, p.ok) :
    Calls Tryd.prog 49 #[.slice A1 a.length c1, .slice A2 x.length c2, .slice A3 b.length c3, .slice A4 y.length c4] w fun e w' => e = .returned (.bool (twB a x b y)) ∧ Below w.heap.size w w' := by
  have m1 := Kd.C_max h1
  have m2 := Kd.C_max h2
  have m3 := Kd.C_max h3
  have m4 := Kd.C_max h4
  obtain ⟨V, hV⟩ : ∃ V, V = twB a x b y := ⟨_, rfl⟩
  rw [← hV]
  have HB := Lib.hid (Below.refl w.heap.size w)
  have HE : Hid (twB (a.drop 0) (x.drop 0) (b.drop 0) (y.drop 0) = V) := Lib.hid hV.symm
  clear hV
  replace h1 := Lib.hid h1
  replace h2 := Lib.hid h2
  replace h3 := Lib.hid h3
  replace h4 := Lib.hid h4
  replace ha := Lib.hid ha
  replace hb := Lib.hid hb
  have heg := eqguardP
  go_enter Tryd.func49, Tryd.ntmps49
  go_wp2_with fail
  go_loopw [9] (fun z wx => ∃ k : Nat, z = .int .i64 k ∧ k ≤ a.length ∧ Hid (twB (a.drop k) (x.drop k) (b.drop k) (y.drop k) = V) ∧ Hid (Below w.heap.size w wx)) (fun z _ => a.length - (intOf z).toNat)
  case atStart => exact ⟨0, rfl, Nat.zero_le _, HE, HB⟩
  case round =>
    clear HE HB
    obtain ⟨k, rfl, hk, HE, HB⟩ := hrel
    by_cases k1 : k < a.length
    · have k1' : (k : Int) < (a.length : Int) := by omega
      by_cases k3 : k < b.length
      · have k3' : (k : Int) < (b.length : Int) := by omega
        by_cases k2 : k < x.length
        · have k2' : (k : Int) < (x.length : Int) := by omega
          by_cases k4 : k < y.length
          · have k4' : (k : Int) < (y.length : Int) := by omega
            obtain ⟨p, hp⟩ : ∃ p, a[k]? = some p := ⟨_, List.getElem?_eq_getElem k1⟩
            obtain ⟨d, hd⟩ : ∃ p, x[k]? = some p := ⟨_, List.getElem?_eq_getElem k2⟩
            obtain ⟨q, hq⟩ : ∃ p, b[k]? = some p := ⟨_, List.getElem?_eq_getElem k3⟩
            obtain ⟨e, he⟩ : ∃ p, y[k]? = some p := ⟨_, List.getElem?_eq_getElem k4⟩
            have HB2 := Lib.hid HB.out.drew
            obtain ⟨ad1, hA1, hc1⟩ := (h1.out.below HB2.out).get hp
            obtain ⟨hdl, ad2, hA2, hc2⟩ := (h2.out.below HB2.out).get hd
            obtain ⟨ad3, hA3, hc3⟩ := (h3.out.below HB2.out).get hq
            obtain ⟨hel, ad4, hA4, hc4⟩ := (h4.out.below HB2.out).get he
            subst hA1 hA2 hA3 hA4
            have hpk := ha.out p (List.mem_of_getElem? hp)
            have hqk := hb.out q (List.mem_of_getElem? hq)
            have hE2 := HE.out
            rw [twB_drop a x b y k p d q e hp hd hq he] at hE2
            have hS : S4 (ad2.add (k * 32)) d (ad4.add (k * 32)) e (ad1.add (k * 65)) p (ad3.add (k * 65)) q wr.drew := ⟨hc2, hc4, hc1, hc3⟩
            have heqd : ∀ v : World, (Op.equalIn 10000 24 (.agg (Lib.byteCells d).toArray) (.agg (Lib.byteCells e).toArray)).run Tryd.prog v = .ok (decide (d = e)) v := fun v => eq32 v d e hdl hel
            have heqp : ∀ v : World, (Op.equalIn 10000 116 (.agg (pcs p).toArray) (.agg (pcs q).toArray)).run Tryd.prog v = .ok (decide (p = q)) v := fun v => eqPr v p q hpk hqk
            replace hdl := Lib.hid hdl
            replace hel := Lib.hid hel
            replace hpk := Lib.hid hpk
            replace hqk := Lib.hid hqk
            replace hp := Lib.hid hp
            replace hd := Lib.hid hd
            replace hq := Lib.hid hq
            replace he := Lib.hid he
            clear hc1 hc2 hc3 hc4 HE
            generalize decide (d = e) = c1 at heqd hE2
            generalize decide (p = q) = c2 at heqp hE2
            replace hE2 := Lib.hid hE2
            go_upto_region 4 with fail
            refine wp_region_held (S := S4 (ad2.add (k * 32)) d (ad4.add (k * 32)) e (ad1.add (k * 65)) p (ad3.add (k * 65)) q) (by kernel_rfl) ?_
            change wpAnyH _ _ _ _ _ _ _ _ wr.drew
            generalize wr.drew = v0 at hS HB2 ⊢
            refine wpAnyH_take (i := 0) (v := ?_) rfl (by kernel_rfl) (by kernel_rfl) (by kernel_rfl) (fun _ _ _ h => h) (Or.inl ⟨by rfl, ?_⟩) hS ?_
            rotate_left
            · intro v _; go_simp; first | done | with_reducible rfl
            rotate_left
            simp only [List.getElem_toArray, List.getElem_cons_succ, List.getElem_cons_zero, Act.put, List.setIfInBounds_toArray, List.set_cons_zero, List.set_cons_succ]
            refine wpAnyH_take (i := 1) (v := ?_) rfl (by kernel_rfl) (by kernel_rfl) (by kernel_rfl) (fun _ _ _ h => h) (Or.inl ⟨by rfl, ?_⟩) hS ?_
            rotate_left
            · intro v _; go_simp; first | done | with_reducible rfl
            rotate_left
            simp only [List.getElem_toArray, List.getElem_cons_succ, List.getElem_cons_zero, Act.put, List.setIfInBounds_toArray, List.set_cons_zero, List.set_cons_succ]
            refine wpAnyH_take (i := 2) (v := ?_) rfl (by kernel_rfl) (by kernel_rfl) (by kernel_rfl) (fun _ _ _ h => h) (Or.inl ⟨by rfl, ?_⟩) hS ?_
            rotate_left
            · intro v _; go_simp; first | done | with_reducible rfl
            rotate_left
            simp only [List.getElem_toArray, List.getElem_cons_succ, List.getElem_cons_zero, Act.put, List.setIfInBounds_toArray, List.set_cons_zero, List.set_cons_succ]
            refine wpAnyH_take (i := 3) (v := _) rfl (by kernel_rfl) (by kernel_rfl) (by kernel_rfl) (fun _ _ _ h => h) (yieldsIf_digA (by rfl) (.tmp 36) rfl (ad2.add (k * 32)) rfl d hdl.out (fun _ h => h.1)) hS ?_
            try simp only [List.getElem_toArray, List.getElem_cons_succ, List.getElem_cons_zero, Act.put, List.setIfInBounds_toArray, List.set_cons_zero, List.set_cons_succ]
            refine wpAnyH_take (i := 4) (v := ?_) rfl (by kernel_rfl) (by kernel_rfl) (by kernel_rfl) (fun _ _ _ h => h) (Or.inl ⟨by rfl, ?_⟩) hS ?_
            rotate_left
            · intro v _; go_simp; first | done | with_reducible rfl
            rotate_left
            simp only [List.getElem_toArray, List.getElem_cons_succ, List.getElem_cons_zero, Act.put, List.setIfInBounds_toArray, List.set_cons_zero, List.set_cons_succ]
            refine wpAnyH_take (i := 5) (v := ?_) rfl (by kernel_rfl) (by kernel_rfl) (by kernel_rfl) (fun _ _ _ h => h) (Or.inl ⟨by rfl, ?_⟩) hS ?_
            rotate_left
            · intro v _; go_simp; first | done | with_reducible rfl
            rotate_left
            simp only [List.getElem_toArray, List.getElem_cons_succ, List.getElem_cons_zero, Act.put, List.setIfInBounds_toArray, List.set_cons_zero, List.set_cons_succ]
            refine wpAnyH_take (i := 6) (v := ?_) rfl (by kernel_rfl) (by kernel_rfl) (by kernel_rfl) (fun _ _ _ h => h) (Or.inl ⟨by rfl, ?_⟩) hS ?_
            rotate_left
            · intro v _; go_simp; first | done | with_reducible rfl
            rotate_left
            simp only [List.getElem_toArray, List.getElem_cons_succ, List.getElem_cons_zero, Act.put, List.setIfInBounds_toArray, List.set_cons_zero, List.set_cons_succ]
            refine wpAnyH_take (i := 7) (v := _) rfl (by kernel_rfl) (by kernel_rfl) (by kernel_rfl) (fun _ _ _ h => h) (yieldsIf_digA (by rfl) (.tmp 40) rfl (ad4.add (k * 32)) rfl e hel.out (fun _ h => h.2.1)) hS ?_
            try simp only [List.getElem_toArray, List.getElem_cons_succ, List.getElem_cons_zero, Act.put, List.setIfInBounds_toArray, List.set_cons_zero, List.set_cons_succ]
            refine wpAnyH_take (i := 8) (v := ?_) rfl (by kernel_rfl) (by kernel_rfl) (by kernel_rfl) (fun _ _ _ h => h) (Or.inl ⟨by rfl, ?_⟩) hS ?_
            rotate_left
            · intro v _; go_simp; first | done | with_reducible rfl
            rotate_left
            simp only [List.getElem_toArray, List.getElem_cons_succ, List.getElem_cons_zero, Act.put, List.setIfInBounds_toArray, List.set_cons_zero, List.set_cons_succ]
            refine wpAnyH_take (i := 9) (v := ?_) rfl (by kernel_rfl) (by kernel_rfl) (by kernel_rfl) (fun _ _ _ h => h) (Or.inl ⟨by rfl, ?_⟩) hS ?_
            rotate_left
            · intro v _; go_simp; first | done | with_reducible rfl
            rotate_left
            simp only [List.getElem_toArray, List.getElem_cons_succ, List.getElem_cons_zero, Act.put, List.setIfInBounds_toArray, List.set_cons_zero, List.set_cons_succ]
            cases c1 with
            | true =>
              refine wpAnyH_take (i := 10) (v := ?_) rfl (by kernel_rfl) (by kernel_rfl) (by kernel_rfl) (fun _ _ _ h => h) (Or.inl ⟨by rfl, ?_⟩) hS ?_
              rotate_left
              · intro v _; go_simp; first | done | with_reducible rfl
              rotate_left
              simp only [List.getElem_toArray, List.getElem_cons_succ, List.getElem_cons_zero, Act.put, List.setIfInBounds_toArray, List.set_cons_zero, List.set_cons_succ]
              refine wpAnyH_take (i := 11) (v := ?_) rfl (by kernel_rfl) (by kernel_rfl) (by kernel_rfl) (fun _ _ _ h => h) (Or.inl ⟨by rfl, ?_⟩) hS ?_
              rotate_left
              · intro v _; go_simp; first | done | with_reducible rfl
              rotate_left
              simp only [List.getElem_toArray, List.getElem_cons_succ, List.getElem_cons_zero, Act.put, List.setIfInBounds_toArray, List.set_cons_zero, List.set_cons_succ]
              refine wpAnyH_take (i := 12) (v := ?_) rfl (by kernel_rfl) (by kernel_rfl) (by kernel_rfl) (fun _ _ _ h => h) (Or.inl ⟨by rfl, ?_⟩) hS ?_
              rotate_left
              · intro v _; go_simp; first | done | with_reducible rfl
              rotate_left
              simp only [List.getElem_toArray, List.getElem_cons_succ, List.getElem_cons_zero, Act.put, List.setIfInBounds_toArray, List.set_cons_zero, List.set_cons_succ]
              refine wpAnyH_take (i := 13) (v := _) rfl (by kernel_rfl) (by kernel_rfl) (by kernel_rfl) (fun _ _ _ h => h) (yieldsIf_prA (by rfl) (.tmp 46) rfl (ad1.add (k * 65)) rfl p hpk.out (fun _ h => h.2.2.1)) hS ?_
              try simp only [List.getElem_toArray, List.getElem_cons_succ, List.getElem_cons_zero, Act.put, List.setIfInBounds_toArray, List.set_cons_zero, List.set_cons_succ]
              refine wpAnyH_take (i := 14) (v := ?_) rfl (by kernel_rfl) (by kernel_rfl) (by kernel_rfl) (fun _ _ _ h => h) (Or.inl ⟨by rfl, ?_⟩) hS ?_
              rotate_left
              · intro v _; go_simp; first | done | with_reducible rfl
              rotate_left
              simp only [List.getElem_toArray, List.getElem_cons_succ, List.getElem_cons_zero, Act.put, List.setIfInBounds_toArray, List.set_cons_zero, List.set_cons_succ]
              refine wpAnyH_take (i := 15) (v := ?_) rfl (by kernel_rfl) (by kernel_rfl) (by kernel_rfl) (fun _ _ _ h => h) (Or.inl ⟨by rfl, ?_⟩) hS ?_
              rotate_left
              · intro v _; go_simp; first | done | with_reducible rfl
              rotate_left
              simp only [List.getElem_toArray, List.getElem_cons_succ, List.getElem_cons_zero, Act.put, List.setIfInBounds_toArray, List.set_cons_zero, List.set_cons_succ]
              refine wpAnyH_take (i := 16) (v := ?_) rfl (by kernel_rfl) (by kernel_rfl) (by kernel_rfl) (fun _ _ _ h => h) (Or.inl ⟨by rfl, ?_⟩) hS ?_
              rotate_left
              · intro v _; go_simp; first | done | with_reducible rfl
              rotate_left
              simp only [List.getElem_toArray, List.getElem_cons_succ, List.getElem_cons_zero, Act.put, List.setIfInBounds_toArray, List.set_cons_zero, List.set_cons_succ]
              refine wpAnyH_take (i := 17) (v := _) rfl (by kernel_rfl) (by kernel_rfl) (by kernel_rfl) (fun _ _ _ h => h) (yieldsIf_prA (by rfl) (.tmp 50) rfl (ad3.add (k * 65)) rfl q hqk.out (fun _ h => h.2.2.2)) hS ?_
              try simp only [List.getElem_toArray, List.getElem_cons_succ, List.getElem_cons_zero, Act.put, List.setIfInBounds_toArray, List.set_cons_zero, List.set_cons_succ]
              refine wpAnyH_take (i := 18) (v := ?_) rfl (by kernel_rfl) (by kernel_rfl) (by kernel_rfl) (fun _ _ _ h => h) (Or.inl ⟨by rfl, ?_⟩) hS ?_
              rotate_left
              · intro v _; go_simp; first | done | with_reducible rfl
              rotate_left
              simp only [List.getElem_toArray, List.getElem_cons_succ, List.getElem_cons_zero, Act.put, List.setIfInBounds_toArray, List.set_cons_zero, List.set_cons_succ]
              refine wpAnyH_take (i := 19) (v := ?_) rfl (by kernel_rfl) (by kernel_rfl) (by kernel_rfl) (fun _ _ _ h => h) (Or.inl ⟨by rfl, ?_⟩) hS ?_
              rotate_left
              · intro v _; go_simp; first | done | with_reducible rfl
              rotate_left
              simp only [List.getElem_toArray, List.getElem_cons_succ, List.getElem_cons_zero, Act.put, List.setIfInBounds_toArray, List.set_cons_zero, List.set_cons_succ]
              refine wpAnyH_done (by kernel_rfl) ?_ _
              clear hS
              cases c2 with
              | true =>
                have HE : Hid (twB (a.drop (k + 1)) (x.drop (k + 1)) (b.drop (k + 1)) (y.drop (k + 1)) = V) := Lib.hid (by simpa using hE2.out)
                clear hE2
                go_wp2_with fail
                refine ⟨⟨k + 1, by go_num, by omega, HE, HB2⟩, by simp [intOf]; omega⟩
              | false =>
                have hVt : true = V := by simpa using hE2.out
                subst hVt
                clear hE2
                go_wp2_with fail
                go_ret
                exact ⟨rfl, HB2.out⟩
            | false =>
              refine wpAnyH_take (i := 10) (v := undef) rfl (by kernel_rfl) (by kernel_rfl) (by kernel_rfl) (fun _ _ _ h => h) (Or.inr ⟨by rfl, rfl⟩) hS ?_
              try simp only [List.getElem_toArray, List.getElem_cons_succ, List.getElem_cons_zero, Act.put, List.setIfInBounds_toArray, List.set_cons_zero, List.set_cons_succ]
              refine wpAnyH_take (i := 11) (v := undef) rfl (by kernel_rfl) (by kernel_rfl) (by kernel_rfl) (fun _ _ _ h => h) (Or.inr ⟨by rfl, rfl⟩) hS ?_
              try simp only [List.getElem_toArray, List.getElem_cons_succ, List.getElem_cons_zero, Act.put, List.setIfInBounds_toArray, List.set_cons_zero, List.set_cons_succ]
              refine wpAnyH_take (i := 12) (v := undef) rfl (by kernel_rfl) (by kernel_rfl) (by kernel_rfl) (fun _ _ _ h => h) (Or.inr ⟨by rfl, rfl⟩) hS ?_
              try simp only [List.getElem_toArray, List.getElem_cons_succ, List.getElem_cons_zero, Act.put, List.setIfInBounds_toArray, List.set_cons_zero, List.set_cons_succ]
              refine wpAnyH_take (i := 13) (v := undef) rfl (by kernel_rfl) (by kernel_rfl) (by kernel_rfl) (fun _ _ _ h => h) (Or.inr ⟨by rfl, rfl⟩) hS ?_
              try simp only [List.getElem_toArray, List.getElem_cons_succ, List.getElem_cons_zero, Act.put, List.setIfInBounds_toArray, List.set_cons_zero, List.set_cons_succ]
              refine wpAnyH_take (i := 14) (v := undef) rfl (by kernel_rfl) (by kernel_rfl) (by kernel_rfl) (fun _ _ _ h => h) (Or.inr ⟨by rfl, rfl⟩) hS ?_
              try simp only [List.getElem_toArray, List.getElem_cons_succ, List.getElem_cons_zero, Act.put, List.setIfInBounds_toArray, List.set_cons_zero, List.set_cons_succ]
              refine wpAnyH_take (i := 15) (v := undef) rfl (by kernel_rfl) (by kernel_rfl) (by kernel_rfl) (fun _ _ _ h => h) (Or.inr ⟨by rfl, rfl⟩) hS ?_
              try simp only [List.getElem_toArray, List.getElem_cons_succ, List.getElem_cons_zero, Act.put, List.setIfInBounds_toArray, List.set_cons_zero, List.set_cons_succ]
              refine wpAnyH_take (i := 16) (v := undef) rfl (by kernel_rfl) (by kernel_rfl) (by kernel_rfl) (fun _ _ _ h => h) (Or.inr ⟨by rfl, rfl⟩) hS ?_
              try simp only [List.getElem_toArray, List.getElem_cons_succ, List.getElem_cons_zero, Act.put, List.setIfInBounds_toArray, List.set_cons_zero, List.set_cons_succ]
              refine wpAnyH_take (i := 17) (v := undef) rfl (by kernel_rfl) (by kernel_rfl) (by kernel_rfl) (fun _ _ _ h => h) (Or.inr ⟨by rfl, rfl⟩) hS ?_
              try simp only [List.getElem_toArray, List.getElem_cons_succ, List.getElem_cons_zero, Act.put, List.setIfInBounds_toArray, List.set_cons_zero, List.set_cons_succ]
              refine wpAnyH_take (i := 18) (v := undef) rfl (by kernel_rfl) (by kernel_rfl) (by kernel_rfl) (fun _ _ _ h => h) (Or.inr ⟨by rfl, rfl⟩) hS ?_
              try simp only [List.getElem_toArray, List.getElem_cons_succ, List.getElem_cons_zero, Act.put, List.setIfInBounds_toArray, List.set_cons_zero, List.set_cons_succ]
              refine wpAnyH_take (i := 19) (v := ?_) rfl (by kernel_rfl) (by kernel_rfl) (by kernel_rfl) (fun _ _ _ h => h) (Or.inl ⟨by rfl, ?_⟩) hS ?_
              rotate_left
              · intro v _; go_simp; first | done | with_reducible rfl
              rotate_left
              simp only [List.getElem_toArray, List.getElem_cons_succ, List.getElem_cons_zero, Act.put, List.setIfInBounds_toArray, List.set_cons_zero, List.set_cons_succ]
              refine wpAnyH_done (by kernel_rfl) ?_ _
              clear hS
              have HE : Hid (twB (a.drop (k + 1)) (x.drop (k + 1)) (b.drop (k + 1)) (y.drop (k + 1)) = V) := Lib.hid (by simpa using hE2.out)
              clear hE2
              go_wp2_with fail
              refine ⟨⟨k + 1, by go_num, by omega, HE, HB2⟩, by simp [intOf]; omega⟩
          · have k4' : ¬ (k : Int) < (y.length : Int) := by omega
            replace HE := HE.out.symm.trans (twB_end a x b y k (by omega))
            subst HE
            go_wp2_with fail
            go_ret
            exact ⟨rfl, HB.out⟩
        · have k2' : ¬ (k : Int) < (x.length : Int) := by omega
          replace HE := HE.out.symm.trans (twB_end a x b y k (by omega))
          subst HE
          go_wp2_with fail
          go_ret
          exact ⟨rfl, HB.out⟩
      · have k3' : ¬ (k : Int) < (b.length : Int) := by omega
        replace HE := HE.out.symm.trans (twB_end a x b y k (by omega))
        subst HE
        go_wp2_with fail
        go_ret
        exact ⟨rfl, HB.out⟩
    · have k1' : ¬ (k : Int) < (a.length : Int) := by omega
      replace HE := HE.out.symm.trans (twB_end a x b y k (by omega))
      subst HE
      go_wp2_with fail
      go_ret
      exact ⟨rfl, HB.out⟩
end Go.Proofs.YtldpnmebjnkjeaaDoor.TrW
namespace Go.Proofs.YtldpnmebjnkjeaaDoor.TrW
open Go.RowKit Go.Proofs.YtldpnmebjnkjeaaDoorW.PrintWords Go.Proofs.YtldpnmebjnkjeaaDoor.PH1 Go.Proofs.YtldpnmebjnkjeaaDoor Go.Proofs.YtldpnmebjnkjeaaDoorW.PrintLast Go.Proofs.YtldpnmebjnkjeaaDoorW.PrintMore
open Go.Proofs.YtldpnmebjnkjeaaDoor.Sha
open Go.Proofs.YtldpnmebjnkjeaaDoor.Ref10 (wp_store_dig wp_load_dig wpOp_wp range_row)
set_option linter.unusedVariables false
set_option linter.unusedSimpArgs false

def L3 : List ByteArray := [⟨#[97]⟩, ⟨#[98]⟩, ⟨#[99]⟩]
def la : List UInt8 := leafP [97]
def lb : List UInt8 := leafP [98]
def lc : List UInt8 := leafP [99]
theorem sp3 : Tr.sp 3 = 2 := by decide
theorem sp2 : Tr.sp 2 = 1 := by decide
theorem root2 : Tr.root alg [[97], [98]] = joinP la lb := by
  rw [Tr.root_join alg _ (by decide)]
  show joinP (Tr.root alg (List.take (Tr.sp 2) _)) (Tr.root alg (List.drop (Tr.sp 2) _)) = _
  rw [sp2]
  show joinP (Tr.root alg [[97]]) (Tr.root alg [[98]]) = _
  rw [Tr.root_one, Tr.root_one]
  rfl
theorem root3 : Tr.root alg (bl L3) = joinP (joinP la lb) lc := by
  show Tr.root alg [[97], [98], [99]] = _
  rw [Tr.root_join alg _ (by decide)]
  show joinP (Tr.root alg (List.take (Tr.sp 3) _)) (Tr.root alg (List.drop (Tr.sp 3) _)) = _
  rw [sp3]
  show joinP (Tr.root alg [[97], [98]]) (Tr.root alg [[99]]) = _
  rw [Tr.root_one, root2]
  rfl
theorem path3 : (Tr.path alg (bl L3) 1).reverse = [la, lc] := by
  show (Tr.path alg [[97], [98], [99]] 1).reverse = _
  rw [Tr.path_left alg _ _ (by decide) (by decide)]
  show (Tr.root alg (List.drop (Tr.sp 3) _) :: Tr.path alg (List.take (Tr.sp 3) _) 1).reverse = _
  rw [sp3]
  show (Tr.root alg [[99]] :: Tr.path alg [[97], [98]] 1).reverse = _
  rw [Tr.path_right alg [[97], [98]] _ (by decide) (by decide), Tr.root_one]
  show (_ :: Tr.root alg (List.take (Tr.sp 2) _) :: Tr.path alg (List.drop (Tr.sp 2) _) (1 - Tr.sp 2)).reverse = _
  rw [sp2]
  show (_ :: Tr.root alg [[97]] :: Tr.path alg [[98]] 0).reverse = _
  rw [Tr.path_small alg _ _ (by decide), Tr.root_one]
  rfl
theorem bridge3 : (Tr.bridge alg (bl L3) 2 true).reverse = [lc] := by
  show (Tr.bridge alg [[97], [98], [99]] 2 true).reverse = _
  rw [Tr.bridge_left alg _ _ _ (by decide) (by decide)]
  show (Tr.root alg (List.drop (Tr.sp 3) _) :: Tr.bridge alg (List.take (Tr.sp 3) _) 2 true).reverse = _
  rw [sp3]
  show (Tr.root alg [[99]] :: Tr.bridge alg [[97], [98]] 2 true).reverse = _
  rw [Tr.bridge_end alg _ _ _ (by decide), Tr.root_one]
  rfl
theorem sides13 : Tr.sides 1 3 = [true, false] := by rw [Tr.sides_left 1 3 (by decide) (by decide), sp3, Tr.sides_right 1 2 (by decide) (by decide), sp2, Tr.sides_small _ _ (by decide)]
theorem sides03 : Tr.sides 0 3 = [true, true] := by rw [Tr.sides_left 0 3 (by decide) (by decide), sp3, Tr.sides_left 0 2 (by decide) (by decide), sp2, Tr.sides_small _ _ (by decide)]
theorem way23 : Tr.way 2 3 = [true] := by rw [Tr.way_left 2 3 (by decide) (by decide), sp3, Tr.way_end _ _ (by decide)]
theorem way13 : Tr.way 1 3 = [true, true] := by rw [Tr.way_left 1 3 (by decide) (by decide), sp3, Tr.way_left 1 2 (by decide) (by decide), sp2, Tr.way_end _ _ (by decide)]
theorem path_t : pathV [98] 1 3 (joinP (joinP la lb) lc) [la, lc] = true := by
  unfold pathV
  refine decT ⟨by decide, by decide, by decide, ?_, ?_⟩
  · show (Tr.sides 1 3).length = _; rw [sides13]; rfl
  · show Tr.last alg _ (Tr.sides 1 3).reverse _ = _; rw [sides13]; rfl
set_option maxRecDepth 100000 in
theorem swap_ne : joinP (joinP lb la) lc ≠ joinP (joinP la lb) lc := by decide +kernel
set_option maxRecDepth 100000 in
theorem ab_ne : la ≠ lb := by decide +kernel
theorem path_f : pathV [98] 0 3 (joinP (joinP la lb) lc) [la, lc] = false := by
  unfold pathV
  refine decF fun h => swap_ne ?_
  have h2 : Tr.last alg (leafP [98]) (Tr.sides 0 3).reverse [la, lc] = joinP (joinP la lb) lc := h.2.2.2.2
  rw [sides03] at h2
  exact h2
theorem bridge_t : bridgeV 2 3 (joinP la lb) (joinP (joinP la lb) lc) [lc] = true := by
  have hw : Tr.whole 2 3 = true := by unfold Tr.whole; rw [way23]; rfl
  unfold bridgeV
  show (decide _ && if Tr.whole 2 3 = true then bridgeE 2 3 _ _ _ _ else _) = true
  rw [hw, if_pos rfl]
  unfold bridgeE
  rw [way23]
  simp [Tr.lastX, Tr.last, Tr.next]
  rfl
theorem bridge_f : bridgeV 1 3 (joinP la lb) (joinP (joinP la lb) lc) [lc] = false := by
  have hw : Tr.whole 1 3 = true := by unfold Tr.whole; rw [way13]; rfl
  unfold bridgeV
  show (decide _ && if Tr.whole 1 3 = true then bridgeE 1 3 _ _ _ _ else _) = false
  rw [hw, if_pos rfl]
  unfold bridgeE
  rw [way13]
  simp
theorem wrong3 : wrongN L3 = 0 := by decide
theorem wrong1025 : wrongN (List.replicate 1025 (⟨#[]⟩ : ByteArray)) = 4 := by
  unfold wrongN
  rw [if_pos (Or.inl (by rw [List.length_replicate]; decide))]
theorem run_buildSlice_dig2 (W : World) (p q : List UInt8) (hp : p.length = 32) (hq : q.length = 32) :
    (Instr.buildSlice 61 2 #[(0, .agg (Lib.byteCells p).toArray), (1, .agg (Lib.byteCells q).toArray)]).run Tryd.prog W = .ok (.slice (some ⟨W.heap.size, 0, none⟩) 2 2) (W.alloc (.cells (Lib.byteCells p ++ Lib.byteCells q).toArray 24)) := by
  obtain ⟨i, hi, hz⟩ := Option.map_eq_some_iff.1 info_digest
  simp only [Prod.mk.injEq] at hz
  obtain ⟨hz0, hz1, hz2⟩ := hz
  unfold Instr.buildSlice
  simp [run_underlying Tryd.underlying61, run_sizeOf W hi, hz1, zeroValue, typeInfo, hi, hz0]
  have hc : Tryd.prog.cellsOf 24 = 32 := by kernel_rfl
  rw [hc, if_neg (by omega), if_neg (by omega)]
  generalize hcs : Array.map _ _ = cells
  have hcl : cells.toList.length = 64 := by rw [← hcs]; simp
  have e1 := fill_seg (fun i => some (i * 32, 32)) 0 0 32 (.agg (Lib.byteCells p).toArray) (Lib.byteCells p) [] (cells.toList.take 32) (cells.toList.drop 32) [(1, .agg (Lib.byteCells q).toArray)] rfl rfl (bc_len hp) (by rw [List.length_take, hcl]; rfl) rfl
  have e2 := fill_seg (fun i => some (i * 32, 32)) 1 32 32 (.agg (Lib.byteCells q).toArray) (Lib.byteCells q) (Lib.byteCells p) (cells.toList.drop 32) [] [] rfl rfl (bc_len hq) (by rw [List.length_drop, hcl]) (bc_len hp)
  simp only [List.nil_append, List.append_nil, List.take_append_drop] at e1 e2
  rw [show cells = cells.toList.toArray by simp, e1, e2, Instr.fill]
  rfl
theorem wpList_buildSlice_dig2 {ops : Array Oper} {rest : List Oper} {o : Oper} {a : Act} {Q : Exit → Act → World → Prop} {W : World} (hgd : o.guard = none) (x y : Operand) (ho : o.op = .buildSlice 61 2 #[(0, x), (1, y)])
    (p q : List UInt8) (hp : p.length = 32) (hq : q.length = 32) (hx : a.eval x = .agg (Lib.byteCells p).toArray) (hy : a.eval y = .agg (Lib.byteCells q).toArray)
    (h : wpList Tryd.prog ops Q rest (a.put o.dst (.slice (some ⟨W.heap.size, 0, none⟩) 2 2)) (W.alloc (.cells (Lib.byteCells p ++ Lib.byteCells q).toArray 24))) : wpList Tryd.prog ops Q (o :: rest) a W := by
  refine wpList_plain hgd fun _ hK => ?_
  unfold Oper.wp execOp
  simp only [ho, List.map_toArray, List.map_cons, List.map_nil, hx, hy]
  rw [Sem.run_bind, run_buildSlice_dig2 W p q hp hq]
  exact hK _ _ h
theorem RD.two {w : World} (p q : List UInt8) (hp : p.length = 32) (hq : q.length = 32) (b : Nat) (hb : b ≤ w.heap.size) : RD b (.slice (some ⟨w.heap.size, 0, none⟩) 2 2) [p, q] (w.alloc (.cells (Lib.byteCells p ++ Lib.byteCells q).toArray 24)) := by
  refine ⟨fun _ _ => trivial, Lib.byteCells p ++ Lib.byteCells q, ?_, ⟨by rw [List.length_append, bc_len hp, bc_len hq]; rfl, fun j z hz => ?_⟩⟩
  · have h2 := World.ownsRow_lit (base := b) (e := 24) (size := 32) w (Lib.byteCells p ++ Lib.byteCells q).toArray 2 hb (by decide) (by simp [bc_len hp, bc_len hq])
    have h3 : (w.alloc (.cells (Lib.byteCells p ++ Lib.byteCells q).toArray 24)).ownsRow b 24 32 (.slice (some ⟨w.heap.size, 0, none⟩) 2 2) 2 (Lib.byteCells p ++ Lib.byteCells q) := by simpa using h2
    exact h3
  · match j with
    | 0 =>
      simp at hz
      subst hz
      rw [Nat.zero_mul, List.drop_zero, List.take_append_of_le_length (by rw [kDig_sz, bc_len hp]; exact Nat.le_refl _), List.take_of_length_le (by rw [kDig_sz, bc_len hp]; exact Nat.le_refl _)]
      exact kDig_M _ _ _ hp
    | 1 =>
      simp at hz
      subst hz
      rw [Nat.one_mul, kDig_sz, List.drop_append_of_le_length (by rw [bc_len hp]; exact Nat.le_refl _), List.drop_of_length_le (by rw [bc_len hp]; exact Nat.le_refl _), List.nil_append, List.take_of_length_le (by rw [bc_len hq]; exact Nat.le_refl _)]
      exact kDig_M _ _ _ hq
    | j + 2 => simp at hz
/-- A row of strings, made. -/
theorem RS.lit {w : World} (L : List ByteArray) (b : Nat) (hb : b ≤ w.heap.size) (hm : L.length ≤ 1000000) (cells : Array Value) (hc : cells.toList = L.map Value.string) : Kd.C Kd.string (w.alloc (.cells cells 9)) (some ⟨w.heap.size, 0, none⟩) L.length L := by
  have h2 := World.ownsRow_lit (base := b) (e := 9) (size := 1) w cells L.length hb (by unfold maxLen; omega) (by rw [← Array.length_toList, hc, List.length_map, Nat.mul_one])
  have h3 := Kd.R_of_own (enc := Value.string) (h1 := fun _ => rfl) (e := 9) (base := b) (ok := fun _ => True) (w := w.alloc (.cells cells 9)) (v := .slice (some ⟨w.heap.size, 0, none⟩) L.length L.length) (xs := L) (by rw [hc] at h2; exact h2) (fun _ _ => trivial)
  obtain ⟨A, c, hv, hcc, hC⟩ := Kd.R_reads h3
  cases hv
  exact hC
end Go.Proofs.YtldpnmebjnkjeaaDoor.TrW
namespace Go.Proofs.YtldpnmebjnkjeaaDoor.TrW
open Go.RowKit Go.Proofs.YtldpnmebjnkjeaaDoorW.PrintWords Go.Proofs.YtldpnmebjnkjeaaDoor.PH1 Go.Proofs.YtldpnmebjnkjeaaDoor Go.Proofs.YtldpnmebjnkjeaaDoorW.PrintLast Go.Proofs.YtldpnmebjnkjeaaDoorW.PrintMore
open Go.Proofs.YtldpnmebjnkjeaaDoor.Sha
open Go.Proofs.YtldpnmebjnkjeaaDoor.Ref10 (wp_store_dig wp_load_dig wpOp_wp range_row)
set_option linter.unusedVariables false
set_option linter.unusedSimpArgs false
def S2d (b : Nat) (x : List UInt8) (c : Nat) (y : List UInt8) (W : World) : Prop := DigAt b x W ∧ DigAt c y W
set_option maxHeartbeats 16000000 in
set_option maxRecDepth 100000 in
theorem alive_calls (w : World) (hK : KAt w) : Calls Tryd.prog 30 #[] w fun e w' => e = .returned (.bool true) ∧ Below w.heap.size w w' := by
  have kla := fun W hk => tleaf_calls ⟨#[97]⟩ (by decide) W hk
  have klb := fun W hk => tleaf_calls ⟨#[98]⟩ (by decide) W hk
  have klc := fun W hk => tleaf_calls ⟨#[99]⟩ (by decide) W hk
  have hla : la.length = 32 := sumL_len _
  have hlb : lb.length = 32 := sumL_len _
  have hlc : lc.length = 32 := sumL_len _
  have htw : (joinP la lb).length = 32 := sumL_len _
  have hrt : (joinP (joinP la lb) lc).length = 32 := sumL_len _
  have kjab := fun W hk => tjoin_calls la lb hla hlb W hk
  have kjr := fun W hk => tjoin_calls (joinP la lb) lc htw hlc W hk
  have kroot := fun (A : Option Addr) (c : Nat) (W : World) (h : Kd.C Kd.string W A 3 L3) hk => tRoot_ok A 3 L3 W h (Nat.le_refl _) wrong3 hk
  have kpath := fun (A : Option Addr) (c : Nat) (W : World) (h : Kd.C Kd.string W A 3 L3) hk => tPath_ok A 3 L3 1 W h (Nat.le_refl _) wrong3 (by decide) hk
  have kbrid := fun (A : Option Addr) (c : Nat) (W : World) (h : Kd.C Kd.string W A 3 L3) hk => tBridge_ok A 3 L3 2 W h (Nat.le_refl _) wrong3 (by decide) (by decide) hk
  have kpath3 := fun (A : Option Addr) (c : Nat) (W : World) (h : Kd.C Kd.string W A 3 L3) => tPath_arg A 3 L3 3 W h wrong3 (by decide)
  have kbrid0 := fun (A : Option Addr) (c : Nat) (W : World) (h : Kd.C Kd.string W A 3 L3) => tBridge_arg A 3 L3 0 W h wrong3 (by decide)
  have hpt := path_t
  have hpf := path_f
  have hbt := bridge_t
  have hbf := bridge_f
  rw [root3] at kroot
  rw [path3] at kpath
  rw [bridge3] at kbrid
  have hcp1 := fun (r : List UInt8) (hr : r.length = 32) (A : Option Addr) (c : Nat) (W : World) (hC : CD A [la, lc] W) (hc : 2 ≤ c) hk => tCheckPath_calls ⟨#[98]⟩ (by decide) 1 3 r hr [la, lc] A c W hC hc hk
  have hcp0 := fun (r : List UInt8) (hr : r.length = 32) (A : Option Addr) (c : Nat) (W : World) (hC : CD A [la, lc] W) (hc : 2 ≤ c) hk => tCheckPath_calls ⟨#[98]⟩ (by decide) 0 3 r hr [la, lc] A c W hC hc hk
  have hcb2 := fun (A : Option Addr) (c : Nat) (W : World) (hC : CD A [lc] W) (hc : 1 ≤ c) hk => tCheckBridge_calls 2 3 _ _ htw hrt [lc] A c W hC hc hk
  have hcb1 := fun (A : Option Addr) (c : Nat) (W : World) (hC : CD A [lc] W) (hc : 1 ≤ c) hk => tCheckBridge_calls 1 3 _ _ htw hrt [lc] A c W hC hc hk
  rw [hbt] at hcb2
  rw [hbf] at hcb1
  replace hcp1 := hcp1 _ hrt
  replace hcp0 := hcp0 _ hrt
  have e98 : (⟨#[98]⟩ : ByteArray).data.toList = [98] := rfl
  rw [e98, hpt] at hcp1
  rw [e98, hpf] at hcp0
  have hne := ab_ne
  rw [show leafP (⟨#[97]⟩ : ByteArray).data.toList = la from rfl] at kla
  rw [show leafP (⟨#[98]⟩ : ByteArray).data.toList = lb from rfl] at klb
  rw [show leafP (⟨#[99]⟩ : ByteArray).data.toList = lc from rfl] at klc
  clear hpt hpf hbt hbf e98
  generalize joinP (joinP la lb) lc = R at *
  generalize joinP la lb = T at *
  generalize la = ya at *
  generalize lb = yb at *
  generalize lc = yc at *
  have heq : ∀ W : World, (Op.equalIn 10000 24 (.agg (Lib.byteCells ya).toArray) (.agg (Lib.byteCells yb).toArray)).run Tryd.prog W = .ok false W := fun W => by
    rw [eq32 W ya yb hla hlb, decF hne]
  have heqr : ∀ W : World, (Op.equalIn 10000 24 (.agg (Lib.byteCells R).toArray) (.agg (Lib.byteCells R).toArray)).run Tryd.prog W = .ok true W := fun W => by
    rw [eq32 W R R hrt hrt, decT rfl]
  replace hla := Lib.hid hla
  replace hlb := Lib.hid hlb
  replace hlc := Lib.hid hlc
  replace htw := Lib.hid htw
  replace hrt := Lib.hid hrt
  replace hne := Lib.hid hne
  replace heq := Lib.hid heq
  replace heqr := Lib.hid heqr
  replace kla := Lib.hid kla
  replace klb := Lib.hid klb
  replace klc := Lib.hid klc
  replace kjab := Lib.hid kjab
  replace kjr := Lib.hid kjr
  replace kroot := Lib.hid kroot
  replace kpath := Lib.hid kpath
  replace kbrid := Lib.hid kbrid
  replace kpath3 := Lib.hid kpath3
  replace kbrid0 := Lib.hid kbrid0
  replace hcp1 := Lib.hid hcp1
  replace hcp0 := Lib.hid hcp0
  replace hcb2 := Lib.hid hcb2
  replace hcb1 := Lib.hid hcb1
  go_enter Tryd.func30, Tryd.ntmps30
  go_upto_region 2 with fail
  generalize hw1 : w.alloc _ = w1
  have HC : Hid (Kd.C Kd.string w1 (some ⟨w.heap.size, 0, none⟩) 3 L3) := by
    rw [← hw1]; exact Lib.hid (RS.lit L3 _ (Nat.le_refl _) (by decide) _ rfl)
  have HB : Hid (Below w.heap.size w w1) := by
    rw [← hw1]; exact Lib.hid ((Below.refl _ _).alloc (Nat.le_refl _) _)
  have HK : Hid (KAt w1) := Lib.hid (hK.below HB.out)
  clear hw1 hK
  obtain ⟨A1, hA1⟩ : ∃ A, A = some (⟨w.heap.size, 0, none⟩ : Addr) := ⟨_, rfl⟩
  rw [← hA1] at HC ⊢
  replace hA1 := Lib.hid hA1
  go_wp2_with fail
  refine (kroot.out A1 0 w1 HC.out HK.out).mono ?_
  rintro e w2 ⟨rfl, hb_⟩
  replace HC := Lib.hid (Kd.C_below HC.out hb_)
  replace HK := Lib.hid (HK.out.below hb_)
  replace HB := Lib.hid (HB.out.trans (Below.mono hb_ HB.out.size))
  clear hb_
  go_upto_region 3 with (guard_target = wpList _ _ _ (⟨none, _, _, _, _, _⟩ :: _) _ _; refine wpList_store_dig rfl (.tmp 2) (.tmp 21) rfl w2.heap.size rfl R hrt.out rfl _ _ (heap_alloc_last _ _) zrow ?_; intro w3 h3 _ hB3)
  have hb3 : Below w2.heap.size w2 w3 := hB3 ((Below.refl _ _).alloc (Nat.le_refl _) _) (Nat.le_refl _)
  have H2 : Hid (DigAt w2.heap.size R w3) := h3
  replace HC := Lib.hid (Kd.C_below HC.out hb3)
  replace HK := Lib.hid (HK.out.below hb3)
  replace HB := Lib.hid (HB.out.trans (Below.mono hb3 HB.out.size))
  clear hb3 hB3 h3
  generalize w2.heap.size = b2 at H2 ⊢
  go_wp2_with fail
  refine (kpath.out A1 0 w3 HC.out HK.out).mono ?_
  rintro e w4 ⟨v, rfl, hv, hb_⟩
  obtain ⟨A4, c4, rfl, hc4, H4⟩ := hv.reads
  replace H4 := Lib.hid H4
  replace hc4 := Lib.hid hc4
  replace HC := Lib.hid (Kd.C_below HC.out hb_)
  replace HK := Lib.hid (HK.out.below hb_)
  replace HB := Lib.hid (HB.out.trans (Below.mono hb_ HB.out.size))
  replace H2 := Lib.hid (DigAt.below H2.out hb_)
  clear hb_ hv
  go_wp2_with fail
  refine (kbrid.out A1 0 w4 HC.out HK.out).mono ?_
  rintro e w5 ⟨v, rfl, hv, hb_⟩
  obtain ⟨A6, c6, rfl, hc6, H6⟩ := hv.reads
  replace H6 := Lib.hid H6
  replace hc6 := Lib.hid hc6
  replace HC := Lib.hid (Kd.C_below HC.out hb_)
  replace HK := Lib.hid (HK.out.below hb_)
  replace HB := Lib.hid (HB.out.trans (Below.mono hb_ HB.out.size))
  replace H2 := Lib.hid (DigAt.below H2.out hb_)
  replace H4 := Lib.hid (CD.below H4.out hb_)
  clear hb_ hv
  go_wp2_with fail
  refine (kla.out w5 HK.out).mono ?_
  rintro e w6 ⟨rfl, hb_⟩
  replace HC := Lib.hid (Kd.C_below HC.out hb_)
  replace HK := Lib.hid (HK.out.below hb_)
  replace HB := Lib.hid (HB.out.trans (Below.mono hb_ HB.out.size))
  replace H2 := Lib.hid (DigAt.below H2.out hb_)
  replace H4 := Lib.hid (CD.below H4.out hb_)
  replace H6 := Lib.hid (CD.below H6.out hb_)
  clear hb_
  go_wp2_with fail
  refine (klb.out w6 HK.out).mono ?_
  rintro e w7 ⟨rfl, hb_⟩
  replace HC := Lib.hid (Kd.C_below HC.out hb_)
  replace HK := Lib.hid (HK.out.below hb_)
  replace HB := Lib.hid (HB.out.trans (Below.mono hb_ HB.out.size))
  replace H2 := Lib.hid (DigAt.below H2.out hb_)
  replace H4 := Lib.hid (CD.below H4.out hb_)
  replace H6 := Lib.hid (CD.below H6.out hb_)
  clear hb_
  go_wp2_with fail
  refine (kjab.out w7 HK.out).mono ?_
  rintro e w8 ⟨rfl, hb_⟩
  replace HC := Lib.hid (Kd.C_below HC.out hb_)
  replace HK := Lib.hid (HK.out.below hb_)
  replace HB := Lib.hid (HB.out.trans (Below.mono hb_ HB.out.size))
  replace H2 := Lib.hid (DigAt.below H2.out hb_)
  replace H4 := Lib.hid (CD.below H4.out hb_)
  replace H6 := Lib.hid (CD.below H6.out hb_)
  clear hb_
  go_upto_region 6 with (guard_target = wpList _ _ _ (⟨none, _, _, _, _, _⟩ :: _) _ _; refine wpList_store_dig rfl (.tmp 8) (.tmp 35) rfl w8.heap.size rfl T htw.out rfl _ _ (heap_alloc_last _ _) zrow ?_; intro w9 h9 _ hB9)
  have hb9 : Below w8.heap.size w8 w9 := hB9 ((Below.refl _ _).alloc (Nat.le_refl _) _) (Nat.le_refl _)
  have H8 : Hid (DigAt w8.heap.size T w9) := h9
  replace HC := Lib.hid (Kd.C_below HC.out hb9)
  replace HK := Lib.hid (HK.out.below hb9)
  replace HB := Lib.hid (HB.out.trans (Below.mono hb9 HB.out.size))
  replace H2 := Lib.hid (DigAt.below H2.out hb9)
  replace H4 := Lib.hid (CD.below H4.out hb9)
  replace H6 := Lib.hid (CD.below H6.out hb9)
  clear hb9 hB9 h9
  generalize w8.heap.size = b8 at H8 ⊢
  go_wp2_with fail
  refine (kpath3.out A1 0 w9 HC.out).mono ?_
  rintro e w10 ⟨rfl, hb_⟩
  replace HC := Lib.hid (Kd.C_below HC.out hb_)
  replace HK := Lib.hid (HK.out.below hb_)
  replace HB := Lib.hid (HB.out.trans (Below.mono hb_ HB.out.size))
  replace H2 := Lib.hid (DigAt.below H2.out hb_)
  replace H4 := Lib.hid (CD.below H4.out hb_)
  replace H6 := Lib.hid (CD.below H6.out hb_)
  replace H8 := Lib.hid (DigAt.below H8.out hb_)
  clear hb_
  go_wp2_with fail
  refine (kbrid0.out A1 0 w10 HC.out).mono ?_
  rintro e w11 ⟨rfl, hb_⟩
  replace HC := Lib.hid (Kd.C_below HC.out hb_)
  replace HK := Lib.hid (HK.out.below hb_)
  replace HB := Lib.hid (HB.out.trans (Below.mono hb_ HB.out.size))
  replace H2 := Lib.hid (DigAt.below H2.out hb_)
  replace H4 := Lib.hid (CD.below H4.out hb_)
  replace H6 := Lib.hid (CD.below H6.out hb_)
  replace H8 := Lib.hid (DigAt.below H8.out hb_)
  clear hb_
  go_wp2_with (guard_target = wpList _ _ _ (⟨some 47, _, _, _, _, _⟩ :: _) _ _; refine Kd.R_make Kd.string w.heap.size 9 rfl rfl 53 _ _ rfl 1025 rfl rfl und_strs (.string ⟨#[]⟩) 16 (by kernel_rfl) rfl (by decide) (by decide) ⟨#[]⟩ (ok := fun _ => True) (okp := fun _ => False) rfl (fun _ h => h.elim) trivial (by decide) (by decide) HB.out HB.out.size ?_; intro v12 w12 HR HB12 hg12 _)
  have hb12 : Below w11.heap.size w11 w12 := pw_below_grown (Below.refl _ _) none (Nat.le_refl _) hg12 (fun _ h => by cases h)
  replace HC := Lib.hid (Kd.C_below HC.out hb12)
  replace HK := Lib.hid (HK.out.below hb12)
  replace HB := Lib.hid (HB.out.trans (Below.mono hb12 HB.out.size))
  replace H2 := Lib.hid (DigAt.below H2.out hb12)
  replace H4 := Lib.hid (CD.below H4.out hb12)
  replace H6 := Lib.hid (CD.below H6.out hb12)
  replace H8 := Lib.hid (DigAt.below H8.out hb12)
  clear hb12 hg12 HB12
  obtain ⟨A12, c12, rfl, hc12, HC12⟩ := Kd.R_reads HR
  rw [show (1025 : Int).toNat = 1025 from rfl] at HC12 hc12 ⊢
  rw [List.length_replicate] at hc12 ⊢
  have kbad := tRoot_bad A12 c12 (List.replicate 1025 ⟨#[]⟩) w12 HC12 wrong1025
  rw [List.length_replicate] at kbad
  replace kbad := Lib.hid kbad
  clear HR HC12 hc12
  go_wp2_with fail
  refine (kbad.out).mono ?_
  rintro e w13 ⟨rfl, hb_⟩
  replace HC := Lib.hid (Kd.C_below HC.out hb_)
  replace HK := Lib.hid (HK.out.below hb_)
  replace HB := Lib.hid (HB.out.trans (Below.mono hb_ HB.out.size))
  replace H2 := Lib.hid (DigAt.below H2.out hb_)
  replace H4 := Lib.hid (CD.below H4.out hb_)
  replace H6 := Lib.hid (CD.below H6.out hb_)
  replace H8 := Lib.hid (DigAt.below H8.out hb_)
  clear hb_
  clear kbad
  go_upto_region 9 with (guard_target = wpList _ _ _ (⟨none, _, _, _, _, _⟩ :: _) _ _; refine wpList_store_dig rfl (.tmp 13) (.tmp 49) rfl w13.heap.size rfl (List.replicate 32 0) rfl rfl _ _ (heap_alloc_last _ _) zrow ?_; intro w14 h14 _ hB14)
  have hb14 : Below w13.heap.size w13 w14 := hB14 ((Below.refl _ _).alloc (Nat.le_refl _) _) (Nat.le_refl _)
  replace HC := Lib.hid (Kd.C_below HC.out hb14)
  replace HK := Lib.hid (HK.out.below hb14)
  replace HB := Lib.hid (HB.out.trans (Below.mono hb14 HB.out.size))
  replace H2 := Lib.hid (DigAt.below H2.out hb14)
  replace H4 := Lib.hid (CD.below H4.out hb14)
  replace H6 := Lib.hid (CD.below H6.out hb14)
  replace H8 := Lib.hid (DigAt.below H8.out hb14)
  clear hb14 hB14 h14
  generalize w13.heap.size = b13
  go_wp2_with fail
  refine (kla.out w14 HK.out).mono ?_
  rintro e w15 ⟨rfl, hb_⟩
  replace HC := Lib.hid (Kd.C_below HC.out hb_)
  replace HK := Lib.hid (HK.out.below hb_)
  replace HB := Lib.hid (HB.out.trans (Below.mono hb_ HB.out.size))
  replace H2 := Lib.hid (DigAt.below H2.out hb_)
  replace H4 := Lib.hid (CD.below H4.out hb_)
  replace H6 := Lib.hid (CD.below H6.out hb_)
  replace H8 := Lib.hid (DigAt.below H8.out hb_)
  clear hb_
  go_wp2_with fail
  refine (klc.out w15 HK.out).mono ?_
  rintro e w16 ⟨rfl, hb_⟩
  replace HC := Lib.hid (Kd.C_below HC.out hb_)
  replace HK := Lib.hid (HK.out.below hb_)
  replace HB := Lib.hid (HB.out.trans (Below.mono hb_ HB.out.size))
  replace H2 := Lib.hid (DigAt.below H2.out hb_)
  replace H4 := Lib.hid (CD.below H4.out hb_)
  replace H6 := Lib.hid (CD.below H6.out hb_)
  replace H8 := Lib.hid (DigAt.below H8.out hb_)
  clear hb_
  go_wp2_with (guard_target = wpList _ _ _ (⟨some 54, _, _, _, _, _⟩ :: _) _ _; refine wpList_buildSlice_dig2 rfl (.tmp 52) (.tmp 53) rfl ya yc hla.out hlc.out rfl rfl ?_)
  generalize hw17 : w16.alloc _ = w17
  have HR : RD w16.heap.size (.slice (some ⟨w16.heap.size, 0, none⟩) 2 2) [ya, yc] w17 := by
    rw [← hw17]; exact RD.two ya yc hla.out hlc.out _ (Nat.le_refl _)
  have hb17 : Below w16.heap.size w16 w17 := by rw [← hw17]; exact (Below.refl _ _).alloc (Nat.le_refl _) _
  replace HC := Lib.hid (Kd.C_below HC.out hb17)
  replace HK := Lib.hid (HK.out.below hb17)
  replace HB := Lib.hid (HB.out.trans (Below.mono hb17 HB.out.size))
  replace H2 := Lib.hid (DigAt.below H2.out hb17)
  replace H4 := Lib.hid (CD.below H4.out hb17)
  replace H6 := Lib.hid (CD.below H6.out hb17)
  replace H8 := Lib.hid (DigAt.below H8.out hb17)
  clear hw17 hb17
  obtain ⟨A17, c17, hv17, hc17, H17⟩ := HR.reads
  rw [hv17]
  clear hv17 HR
  have ksame := same_calls A4 A17 c4 c17 [ya, yc] [ya, yc] w17 H4.out H17
  rw [decT rfl] at ksame
  replace ksame := Lib.hid ksame
  clear H17 hc17
  refine (ksame.out).mono ?_
  rintro e w18 ⟨rfl, hb_⟩
  replace HC := Lib.hid (Kd.C_below HC.out hb_)
  replace HK := Lib.hid (HK.out.below hb_)
  replace HB := Lib.hid (HB.out.trans (Below.mono hb_ HB.out.size))
  replace H2 := Lib.hid (DigAt.below H2.out hb_)
  replace H4 := Lib.hid (CD.below H4.out hb_)
  replace H6 := Lib.hid (CD.below H6.out hb_)
  replace H8 := Lib.hid (DigAt.below H8.out hb_)
  clear hb_
  clear ksame
  go_wp2_with fail
  refine (klc.out w18 HK.out).mono ?_
  rintro e w19 ⟨rfl, hb_⟩
  replace HC := Lib.hid (Kd.C_below HC.out hb_)
  replace HK := Lib.hid (HK.out.below hb_)
  replace HB := Lib.hid (HB.out.trans (Below.mono hb_ HB.out.size))
  replace H2 := Lib.hid (DigAt.below H2.out hb_)
  replace H4 := Lib.hid (CD.below H4.out hb_)
  replace H6 := Lib.hid (CD.below H6.out hb_)
  replace H8 := Lib.hid (DigAt.below H8.out hb_)
  clear hb_
  go_wp2_with (guard_target = wpList _ _ _ (⟨some 58, _, _, _, _, _⟩ :: _) _ _; refine wpList_buildSlice_dig rfl (.tmp 57) rfl yc hlc.out rfl ?_)
  generalize hw20 : w19.alloc _ = w20
  have HR : RD w19.heap.size (.slice (some ⟨w19.heap.size, 0, none⟩) 1 1) [yc] w20 := by
    rw [← hw20]; exact RD.one yc hlc.out _ (Nat.le_refl _)
  have hb20 : Below w19.heap.size w19 w20 := by rw [← hw20]; exact (Below.refl _ _).alloc (Nat.le_refl _) _
  replace HC := Lib.hid (Kd.C_below HC.out hb20)
  replace HK := Lib.hid (HK.out.below hb20)
  replace HB := Lib.hid (HB.out.trans (Below.mono hb20 HB.out.size))
  replace H2 := Lib.hid (DigAt.below H2.out hb20)
  replace H4 := Lib.hid (CD.below H4.out hb20)
  replace H6 := Lib.hid (CD.below H6.out hb20)
  replace H8 := Lib.hid (DigAt.below H8.out hb20)
  clear hw20 hb20
  obtain ⟨A20, c20, hv20, hc20, H20⟩ := HR.reads
  rw [hv20]
  clear hv20 HR
  have ksame := same_calls A6 A20 c6 c20 [yc] [yc] w20 H6.out H20
  rw [decT rfl] at ksame
  replace ksame := Lib.hid ksame
  clear H20 hc20
  refine (ksame.out).mono ?_
  rintro e w21 ⟨rfl, hb_⟩
  replace HC := Lib.hid (Kd.C_below HC.out hb_)
  replace HK := Lib.hid (HK.out.below hb_)
  replace HB := Lib.hid (HB.out.trans (Below.mono hb_ HB.out.size))
  replace H2 := Lib.hid (DigAt.below H2.out hb_)
  replace H4 := Lib.hid (CD.below H4.out hb_)
  replace H6 := Lib.hid (CD.below H6.out hb_)
  replace H8 := Lib.hid (DigAt.below H8.out hb_)
  clear hb_
  clear ksame
  go_wp2_with fail
  refine wp_region_held (S := S2d b2 R b8 T) (by kernel_rfl) ?_
  change wpAnyH _ _ _ _ _ _ _ _ w21.drew
  replace HC : Hid (Kd.C Kd.string w21.drew A1 3 L3) := HC
  replace HK : Hid (KAt w21.drew) := HK
  replace HB := Lib.hid HB.out.drew
  replace H2 : Hid (DigAt b2 R w21.drew) := H2
  replace H8 : Hid (DigAt b8 T w21.drew) := H8
  replace H4 : Hid (CD A4 [ya, yc] w21.drew) := H4
  replace H6 : Hid (CD A6 [yc] w21.drew) := H6
  generalize w21.drew = x21 at HC HK HB H2 H8 H4 H6 ⊢
  have hS : S2d b2 R b8 T x21 := ⟨H2.out, H8.out⟩
  refine wpAnyH_take (i := 0) (v := ?_) rfl (by kernel_rfl) (by kernel_rfl) (by kernel_rfl) (fun _ _ _ h => h) (Or.inl ⟨by rfl, ?_⟩) hS ?_
  rotate_left
  · intro v _; go_simp; first | done | with_reducible rfl
  rotate_left
  simp only [List.getElem_toArray, List.getElem_cons_succ, List.getElem_cons_zero, Act.put, List.setIfInBounds_toArray, List.set_cons_zero, List.set_cons_succ]
  refine wpAnyH_take (i := 1) (v := ?_) rfl (by kernel_rfl) (by kernel_rfl) (by kernel_rfl) (fun _ _ _ h => h) (Or.inl ⟨by rfl, ?_⟩) hS ?_
  rotate_left
  · intro v _; go_simp; first | done | with_reducible rfl
  rotate_left
  simp only [List.getElem_toArray, List.getElem_cons_succ, List.getElem_cons_zero, Act.put, List.setIfInBounds_toArray, List.set_cons_zero, List.set_cons_succ]
  refine wpAnyH_take (i := 2) (v := ?_) rfl (by kernel_rfl) (by kernel_rfl) (by kernel_rfl) (fun _ _ _ h => h) (Or.inl ⟨by rfl, ?_⟩) hS ?_
  rotate_left
  · intro v _; go_simp; first | done | with_reducible rfl
  rotate_left
  simp only [List.getElem_toArray, List.getElem_cons_succ, List.getElem_cons_zero, Act.put, List.setIfInBounds_toArray, List.set_cons_zero, List.set_cons_succ]
  refine wpAnyH_take (i := 3) (v := _) rfl (by kernel_rfl) (by kernel_rfl) (by kernel_rfl) (fun _ _ _ h => h) (yieldsIf_digA (by rfl) (.tmp 2) rfl ⟨b2,0,none⟩ rfl R hrt.out (fun _ h => (DigAt.ad h.1))) hS ?_
  try simp only [List.getElem_toArray, List.getElem_cons_succ, List.getElem_cons_zero, Act.put, List.setIfInBounds_toArray, List.set_cons_zero, List.set_cons_succ]
  refine wpAnyH_take (i := 4) (v := _) rfl (by kernel_rfl) (by kernel_rfl) (by kernel_rfl) (fun _ _ _ h => h) (yieldsIf_digA (by rfl) (.tmp 8) rfl ⟨b8,0,none⟩ rfl T htw.out (fun _ h => (DigAt.ad h.2))) hS ?_
  try simp only [List.getElem_toArray, List.getElem_cons_succ, List.getElem_cons_zero, Act.put, List.setIfInBounds_toArray, List.set_cons_zero, List.set_cons_succ]
  refine wpAnyH_all (rs := [5]) (by kernel_rfl) (by simp) ?_
  intro i hi
  simp only [List.mem_cons, List.not_mem_nil, or_false] at hi
  subst hi
  refine wpOp_wp rfl (by rfl) ?_
  go_simp
  refine (klc.out x21 HK.out).mono ?_
  rintro e x22 ⟨rfl, hb_⟩
  replace HC := Lib.hid (Kd.C_below HC.out hb_)
  replace HK := Lib.hid (HK.out.below hb_)
  replace HB := Lib.hid (HB.out.trans (Below.mono hb_ HB.out.size))
  replace H2 := Lib.hid (DigAt.below H2.out hb_)
  replace H4 := Lib.hid (CD.below H4.out hb_)
  replace H6 := Lib.hid (CD.below H6.out hb_)
  replace H8 := Lib.hid (DigAt.below H8.out hb_)
  clear hb_ hS
  have hS : S2d b2 R b8 T x22 := ⟨H2.out, H8.out⟩
  refine ⟨hS, ?_⟩
  try simp only [List.getElem_toArray, List.getElem_cons_succ, List.getElem_cons_zero, Act.put, List.setIfInBounds_toArray, List.set_cons_zero, List.set_cons_succ]
  refine wpAnyH_all (rs := [6]) (by kernel_rfl) (by simp) ?_
  intro i hi
  simp only [List.mem_cons, List.not_mem_nil, or_false] at hi
  subst hi
  refine wpOp_wp rfl (by rfl) ?_
  go_simp
  refine (kjr.out x22 HK.out).mono ?_
  rintro e x23 ⟨rfl, hb_⟩
  replace HC := Lib.hid (Kd.C_below HC.out hb_)
  replace HK := Lib.hid (HK.out.below hb_)
  replace HB := Lib.hid (HB.out.trans (Below.mono hb_ HB.out.size))
  replace H2 := Lib.hid (DigAt.below H2.out hb_)
  replace H4 := Lib.hid (CD.below H4.out hb_)
  replace H6 := Lib.hid (CD.below H6.out hb_)
  replace H8 := Lib.hid (DigAt.below H8.out hb_)
  clear hb_ hS
  have hS : S2d b2 R b8 T x23 := ⟨H2.out, H8.out⟩
  refine ⟨hS, ?_⟩
  try simp only [List.getElem_toArray, List.getElem_cons_succ, List.getElem_cons_zero, Act.put, List.setIfInBounds_toArray, List.set_cons_zero, List.set_cons_succ]
  have heqR := heqr.out
  refine wpAnyH_take (i := 7) (v := ?_) rfl (by kernel_rfl) (by kernel_rfl) (by kernel_rfl) (fun _ _ _ h => h) (Or.inl ⟨by rfl, ?_⟩) hS ?_
  rotate_left
  · intro v _; go_simp; first | done | with_reducible rfl
  rotate_left
  simp only [List.getElem_toArray, List.getElem_cons_succ, List.getElem_cons_zero, Act.put, List.setIfInBounds_toArray, List.set_cons_zero, List.set_cons_succ]
  clear heqR
  refine wpAnyH_take (i := 8) (v := ?_) rfl (by kernel_rfl) (by kernel_rfl) (by kernel_rfl) (fun _ _ _ h => h) (Or.inl ⟨by rfl, ?_⟩) hS ?_
  rotate_left
  · intro v _; go_simp; first | done | with_reducible rfl
  rotate_left
  simp only [List.getElem_toArray, List.getElem_cons_succ, List.getElem_cons_zero, Act.put, List.setIfInBounds_toArray, List.set_cons_zero, List.set_cons_succ]
  refine wpAnyH_take (i := 9) (v := ?_) rfl (by kernel_rfl) (by kernel_rfl) (by kernel_rfl) (fun _ _ _ h => h) (Or.inl ⟨by rfl, ?_⟩) hS ?_
  rotate_left
  · intro v _; go_simp; first | done | with_reducible rfl
  rotate_left
  simp only [List.getElem_toArray, List.getElem_cons_succ, List.getElem_cons_zero, Act.put, List.setIfInBounds_toArray, List.set_cons_zero, List.set_cons_succ]
  refine wpAnyH_take (i := 10) (v := ?_) rfl (by kernel_rfl) (by kernel_rfl) (by kernel_rfl) (fun _ _ _ h => h) (Or.inl ⟨by rfl, ?_⟩) hS ?_
  rotate_left
  · intro v _; go_simp; first | done | with_reducible rfl
  rotate_left
  simp only [List.getElem_toArray, List.getElem_cons_succ, List.getElem_cons_zero, Act.put, List.setIfInBounds_toArray, List.set_cons_zero, List.set_cons_succ]
  refine wpAnyH_take (i := 11) (v := ?_) rfl (by kernel_rfl) (by kernel_rfl) (by kernel_rfl) (fun _ _ _ h => h) (Or.inl ⟨by rfl, ?_⟩) hS ?_
  rotate_left
  · intro v _; go_simp; first | done | with_reducible rfl
  rotate_left
  simp only [List.getElem_toArray, List.getElem_cons_succ, List.getElem_cons_zero, Act.put, List.setIfInBounds_toArray, List.set_cons_zero, List.set_cons_succ]
  refine wpAnyH_take (i := 12) (v := ?_) rfl (by kernel_rfl) (by kernel_rfl) (by kernel_rfl) (fun _ _ _ h => h) (Or.inl ⟨by rfl, ?_⟩) hS ?_
  rotate_left
  · intro v _; go_simp; first | done | with_reducible rfl
  rotate_left
  simp only [List.getElem_toArray, List.getElem_cons_succ, List.getElem_cons_zero, Act.put, List.setIfInBounds_toArray, List.set_cons_zero, List.set_cons_succ]
  refine wpAnyH_take (i := 13) (v := ?_) rfl (by kernel_rfl) (by kernel_rfl) (by kernel_rfl) (fun _ _ _ h => h) (Or.inl ⟨by rfl, ?_⟩) hS ?_
  rotate_left
  · intro v _; go_simp; first | done | with_reducible rfl
  rotate_left
  simp only [List.getElem_toArray, List.getElem_cons_succ, List.getElem_cons_zero, Act.put, List.setIfInBounds_toArray, List.set_cons_zero, List.set_cons_succ]
  refine wpAnyH_take (i := 14) (v := ?_) rfl (by kernel_rfl) (by kernel_rfl) (by kernel_rfl) (fun _ _ _ h => h) (Or.inl ⟨by rfl, ?_⟩) hS ?_
  rotate_left
  · intro v _; go_simp; first | done | with_reducible rfl
  rotate_left
  simp only [List.getElem_toArray, List.getElem_cons_succ, List.getElem_cons_zero, Act.put, List.setIfInBounds_toArray, List.set_cons_zero, List.set_cons_succ]
  refine wpAnyH_take (i := 15) (v := ?_) rfl (by kernel_rfl) (by kernel_rfl) (by kernel_rfl) (fun _ _ _ h => h) (Or.inl ⟨by rfl, ?_⟩) hS ?_
  rotate_left
  · intro v _; go_simp; first | done | with_reducible rfl
  rotate_left
  simp only [List.getElem_toArray, List.getElem_cons_succ, List.getElem_cons_zero, Act.put, List.setIfInBounds_toArray, List.set_cons_zero, List.set_cons_succ]
  refine wpAnyH_take (i := 16) (v := ?_) rfl (by kernel_rfl) (by kernel_rfl) (by kernel_rfl) (fun _ _ _ h => h) (Or.inl ⟨by rfl, ?_⟩) hS ?_
  rotate_left
  · intro v _; go_simp; first | done | with_reducible rfl
  rotate_left
  simp only [List.getElem_toArray, List.getElem_cons_succ, List.getElem_cons_zero, Act.put, List.setIfInBounds_toArray, List.set_cons_zero, List.set_cons_succ]
  refine wpAnyH_take (i := 17) (v := ?_) rfl (by kernel_rfl) (by kernel_rfl) (by kernel_rfl) (fun _ _ _ h => h) (Or.inl ⟨by rfl, ?_⟩) hS ?_
  rotate_left
  · intro v _; go_simp; first | done | with_reducible rfl
  rotate_left
  simp only [List.getElem_toArray, List.getElem_cons_succ, List.getElem_cons_zero, Act.put, List.setIfInBounds_toArray, List.set_cons_zero, List.set_cons_succ]
  refine wpAnyH_take (i := 18) (v := ?_) rfl (by kernel_rfl) (by kernel_rfl) (by kernel_rfl) (fun _ _ _ h => h) (Or.inl ⟨by rfl, ?_⟩) hS ?_
  rotate_left
  · intro v _; go_simp; first | done | with_reducible rfl
  rotate_left
  simp only [List.getElem_toArray, List.getElem_cons_succ, List.getElem_cons_zero, Act.put, List.setIfInBounds_toArray, List.set_cons_zero, List.set_cons_succ]
  refine wpAnyH_take (i := 19) (v := ?_) rfl (by kernel_rfl) (by kernel_rfl) (by kernel_rfl) (fun _ _ _ h => h) (Or.inl ⟨by rfl, ?_⟩) hS ?_
  rotate_left
  · intro v _; go_simp; first | done | with_reducible rfl
  rotate_left
  simp only [List.getElem_toArray, List.getElem_cons_succ, List.getElem_cons_zero, Act.put, List.setIfInBounds_toArray, List.set_cons_zero, List.set_cons_succ]
  refine wpAnyH_take (i := 20) (v := ?_) rfl (by kernel_rfl) (by kernel_rfl) (by kernel_rfl) (fun _ _ _ h => h) (Or.inl ⟨by rfl, ?_⟩) hS ?_
  rotate_left
  · intro v _; go_simp; first | done | with_reducible rfl
  rotate_left
  simp only [List.getElem_toArray, List.getElem_cons_succ, List.getElem_cons_zero, Act.put, List.setIfInBounds_toArray, List.set_cons_zero, List.set_cons_succ]
  refine wpAnyH_take (i := 21) (v := ?_) rfl (by kernel_rfl) (by kernel_rfl) (by kernel_rfl) (fun _ _ _ h => h) (Or.inl ⟨by rfl, ?_⟩) hS ?_
  rotate_left
  · intro v _; go_simp; first | done | with_reducible rfl
  rotate_left
  simp only [List.getElem_toArray, List.getElem_cons_succ, List.getElem_cons_zero, Act.put, List.setIfInBounds_toArray, List.set_cons_zero, List.set_cons_succ]
  refine wpAnyH_take (i := 22) (v := ?_) rfl (by kernel_rfl) (by kernel_rfl) (by kernel_rfl) (fun _ _ _ h => h) (Or.inl ⟨by rfl, ?_⟩) hS ?_
  rotate_left
  · intro v _; go_simp; first | done | with_reducible rfl
  rotate_left
  simp only [List.getElem_toArray, List.getElem_cons_succ, List.getElem_cons_zero, Act.put, List.setIfInBounds_toArray, List.set_cons_zero, List.set_cons_succ]
  refine wpAnyH_take (i := 23) (v := ?_) rfl (by kernel_rfl) (by kernel_rfl) (by kernel_rfl) (fun _ _ _ h => h) (Or.inl ⟨by rfl, ?_⟩) hS ?_
  rotate_left
  · intro v _; go_simp; first | done | with_reducible rfl
  rotate_left
  simp only [List.getElem_toArray, List.getElem_cons_succ, List.getElem_cons_zero, Act.put, List.setIfInBounds_toArray, List.set_cons_zero, List.set_cons_succ]
  refine wpAnyH_take (i := 24) (v := ?_) rfl (by kernel_rfl) (by kernel_rfl) (by kernel_rfl) (fun _ _ _ h => h) (Or.inl ⟨by rfl, ?_⟩) hS ?_
  rotate_left
  · intro v _; go_simp; first | done | with_reducible rfl
  rotate_left
  simp only [List.getElem_toArray, List.getElem_cons_succ, List.getElem_cons_zero, Act.put, List.setIfInBounds_toArray, List.set_cons_zero, List.set_cons_succ]
  refine wpAnyH_take (i := 25) (v := ?_) rfl (by kernel_rfl) (by kernel_rfl) (by kernel_rfl) (fun _ _ _ h => h) (Or.inl ⟨by rfl, ?_⟩) hS ?_
  rotate_left
  · intro v _; go_simp; first | done | with_reducible rfl
  rotate_left
  simp only [List.getElem_toArray, List.getElem_cons_succ, List.getElem_cons_zero, Act.put, List.setIfInBounds_toArray, List.set_cons_zero, List.set_cons_succ]
  refine wpAnyH_take (i := 26) (v := ?_) rfl (by kernel_rfl) (by kernel_rfl) (by kernel_rfl) (fun _ _ _ h => h) (Or.inl ⟨by rfl, ?_⟩) hS ?_
  rotate_left
  · intro v _; go_simp; first | done | with_reducible rfl
  rotate_left
  simp only [List.getElem_toArray, List.getElem_cons_succ, List.getElem_cons_zero, Act.put, List.setIfInBounds_toArray, List.set_cons_zero, List.set_cons_succ]
  refine wpAnyH_take (i := 27) (v := ?_) rfl (by kernel_rfl) (by kernel_rfl) (by kernel_rfl) (fun _ _ _ h => h) (Or.inl ⟨by rfl, ?_⟩) hS ?_
  rotate_left
  · intro v _; go_simp; first | done | with_reducible rfl
  rotate_left
  simp only [List.getElem_toArray, List.getElem_cons_succ, List.getElem_cons_zero, Act.put, List.setIfInBounds_toArray, List.set_cons_zero, List.set_cons_succ]
  refine wpAnyH_take (i := 28) (v := ?_) rfl (by kernel_rfl) (by kernel_rfl) (by kernel_rfl) (fun _ _ _ h => h) (Or.inl ⟨by rfl, ?_⟩) hS ?_
  rotate_left
  · intro v _; go_simp; first | done | with_reducible rfl
  rotate_left
  simp only [List.getElem_toArray, List.getElem_cons_succ, List.getElem_cons_zero, Act.put, List.setIfInBounds_toArray, List.set_cons_zero, List.set_cons_succ]
  refine wpAnyH_take (i := 29) (v := ?_) rfl (by kernel_rfl) (by kernel_rfl) (by kernel_rfl) (fun _ _ _ h => h) (Or.inl ⟨by rfl, ?_⟩) hS ?_
  rotate_left
  · intro v _; go_simp; first | done | with_reducible rfl
  rotate_left
  simp only [List.getElem_toArray, List.getElem_cons_succ, List.getElem_cons_zero, Act.put, List.setIfInBounds_toArray, List.set_cons_zero, List.set_cons_succ]
  refine wpAnyH_take (i := 30) (v := ?_) rfl (by kernel_rfl) (by kernel_rfl) (by kernel_rfl) (fun _ _ _ h => h) (Or.inl ⟨by rfl, ?_⟩) hS ?_
  rotate_left
  · intro v _; go_simp; first | done | with_reducible rfl
  rotate_left
  simp only [List.getElem_toArray, List.getElem_cons_succ, List.getElem_cons_zero, Act.put, List.setIfInBounds_toArray, List.set_cons_zero, List.set_cons_succ]
  refine wpAnyH_take (i := 31) (v := ?_) rfl (by kernel_rfl) (by kernel_rfl) (by kernel_rfl) (fun _ _ _ h => h) (Or.inl ⟨by rfl, ?_⟩) hS ?_
  rotate_left
  · intro v _; go_simp; first | done | with_reducible rfl
  rotate_left
  simp only [List.getElem_toArray, List.getElem_cons_succ, List.getElem_cons_zero, Act.put, List.setIfInBounds_toArray, List.set_cons_zero, List.set_cons_succ]
  refine wpAnyH_take (i := 32) (v := ?_) rfl (by kernel_rfl) (by kernel_rfl) (by kernel_rfl) (fun _ _ _ h => h) (Or.inl ⟨by rfl, ?_⟩) hS ?_
  rotate_left
  · intro v _; go_simp; first | done | with_reducible rfl
  rotate_left
  simp only [List.getElem_toArray, List.getElem_cons_succ, List.getElem_cons_zero, Act.put, List.setIfInBounds_toArray, List.set_cons_zero, List.set_cons_succ]
  refine wpAnyH_take (i := 33) (v := ?_) rfl (by kernel_rfl) (by kernel_rfl) (by kernel_rfl) (fun _ _ _ h => h) (Or.inl ⟨by rfl, ?_⟩) hS ?_
  rotate_left
  · intro v _; go_simp; first | done | with_reducible rfl
  rotate_left
  simp only [List.getElem_toArray, List.getElem_cons_succ, List.getElem_cons_zero, Act.put, List.setIfInBounds_toArray, List.set_cons_zero, List.set_cons_succ]
  refine wpAnyH_take (i := 34) (v := ?_) rfl (by kernel_rfl) (by kernel_rfl) (by kernel_rfl) (fun _ _ _ h => h) (Or.inl ⟨by rfl, ?_⟩) hS ?_
  rotate_left
  · intro v _; go_simp; first | done | with_reducible rfl
  rotate_left
  simp only [List.getElem_toArray, List.getElem_cons_succ, List.getElem_cons_zero, Act.put, List.setIfInBounds_toArray, List.set_cons_zero, List.set_cons_succ]
  refine wpAnyH_take (i := 35) (v := ?_) rfl (by kernel_rfl) (by kernel_rfl) (by kernel_rfl) (fun _ _ _ h => h) (Or.inl ⟨by rfl, ?_⟩) hS ?_
  rotate_left
  · intro v _; go_simp; first | done | with_reducible rfl
  rotate_left
  simp only [List.getElem_toArray, List.getElem_cons_succ, List.getElem_cons_zero, Act.put, List.setIfInBounds_toArray, List.set_cons_zero, List.set_cons_succ]
  refine wpAnyH_take (i := 36) (v := _) rfl (by kernel_rfl) (by kernel_rfl) (by kernel_rfl) (fun _ _ _ h => h) (yieldsIf_digA (by rfl) (.tmp 2) rfl ⟨b2,0,none⟩ rfl R hrt.out (fun _ h => (DigAt.ad h.1))) hS ?_
  try simp only [List.getElem_toArray, List.getElem_cons_succ, List.getElem_cons_zero, Act.put, List.setIfInBounds_toArray, List.set_cons_zero, List.set_cons_succ]
  refine wpAnyH_take (i := 37) (v := ?_) rfl (by kernel_rfl) (by kernel_rfl) (by kernel_rfl) (fun _ _ _ h => h) (Or.inl ⟨by rfl, ?_⟩) hS ?_
  rotate_left
  · intro v _; go_simp; first | done | with_reducible rfl
  rotate_left
  simp only [List.getElem_toArray, List.getElem_cons_succ, List.getElem_cons_zero, Act.put, List.setIfInBounds_toArray, List.set_cons_zero, List.set_cons_succ]
  refine wpAnyH_all (rs := [38]) (by kernel_rfl) (by simp) ?_
  intro i hi
  simp only [List.mem_cons, List.not_mem_nil, or_false] at hi
  subst hi
  refine wpOp_wp rfl (by rfl) ?_
  go_simp
  refine (hcp1.out A4 c4 x23 H4.out hc4.out HK.out).mono ?_
  rintro e x24 ⟨rfl, hb_⟩
  replace HC := Lib.hid (Kd.C_below HC.out hb_)
  replace HK := Lib.hid (HK.out.below hb_)
  replace HB := Lib.hid (HB.out.trans (Below.mono hb_ HB.out.size))
  replace H2 := Lib.hid (DigAt.below H2.out hb_)
  replace H4 := Lib.hid (CD.below H4.out hb_)
  replace H6 := Lib.hid (CD.below H6.out hb_)
  replace H8 := Lib.hid (DigAt.below H8.out hb_)
  clear hb_ hS
  have hS : S2d b2 R b8 T x24 := ⟨H2.out, H8.out⟩
  refine ⟨hS, ?_⟩
  try simp only [List.getElem_toArray, List.getElem_cons_succ, List.getElem_cons_zero, Act.put, List.setIfInBounds_toArray, List.set_cons_zero, List.set_cons_succ]
  refine wpAnyH_take (i := 39) (v := ?_) rfl (by kernel_rfl) (by kernel_rfl) (by kernel_rfl) (fun _ _ _ h => h) (Or.inl ⟨by rfl, ?_⟩) hS ?_
  rotate_left
  · intro v _; go_simp; first | done | with_reducible rfl
  rotate_left
  simp only [List.getElem_toArray, List.getElem_cons_succ, List.getElem_cons_zero, Act.put, List.setIfInBounds_toArray, List.set_cons_zero, List.set_cons_succ]
  refine wpAnyH_take (i := 40) (v := ?_) rfl (by kernel_rfl) (by kernel_rfl) (by kernel_rfl) (fun _ _ _ h => h) (Or.inl ⟨by rfl, ?_⟩) hS ?_
  rotate_left
  · intro v _; go_simp; first | done | with_reducible rfl
  rotate_left
  simp only [List.getElem_toArray, List.getElem_cons_succ, List.getElem_cons_zero, Act.put, List.setIfInBounds_toArray, List.set_cons_zero, List.set_cons_succ]
  refine wpAnyH_take (i := 41) (v := _) rfl (by kernel_rfl) (by kernel_rfl) (by kernel_rfl) (fun _ _ _ h => h) (yieldsIf_digA (by rfl) (.tmp 2) rfl ⟨b2,0,none⟩ rfl R hrt.out (fun _ h => (DigAt.ad h.1))) hS ?_
  try simp only [List.getElem_toArray, List.getElem_cons_succ, List.getElem_cons_zero, Act.put, List.setIfInBounds_toArray, List.set_cons_zero, List.set_cons_succ]
  refine wpAnyH_take (i := 42) (v := ?_) rfl (by kernel_rfl) (by kernel_rfl) (by kernel_rfl) (fun _ _ _ h => h) (Or.inl ⟨by rfl, ?_⟩) hS ?_
  rotate_left
  · intro v _; go_simp; first | done | with_reducible rfl
  rotate_left
  simp only [List.getElem_toArray, List.getElem_cons_succ, List.getElem_cons_zero, Act.put, List.setIfInBounds_toArray, List.set_cons_zero, List.set_cons_succ]
  refine wpAnyH_all (rs := [43]) (by kernel_rfl) (by simp) ?_
  intro i hi
  simp only [List.mem_cons, List.not_mem_nil, or_false] at hi
  subst hi
  refine wpOp_wp rfl (by rfl) ?_
  go_simp
  refine (hcp0.out A4 c4 x24 H4.out hc4.out HK.out).mono ?_
  rintro e x25 ⟨rfl, hb_⟩
  replace HC := Lib.hid (Kd.C_below HC.out hb_)
  replace HK := Lib.hid (HK.out.below hb_)
  replace HB := Lib.hid (HB.out.trans (Below.mono hb_ HB.out.size))
  replace H2 := Lib.hid (DigAt.below H2.out hb_)
  replace H4 := Lib.hid (CD.below H4.out hb_)
  replace H6 := Lib.hid (CD.below H6.out hb_)
  replace H8 := Lib.hid (DigAt.below H8.out hb_)
  clear hb_ hS
  have hS : S2d b2 R b8 T x25 := ⟨H2.out, H8.out⟩
  refine ⟨hS, ?_⟩
  try simp only [List.getElem_toArray, List.getElem_cons_succ, List.getElem_cons_zero, Act.put, List.setIfInBounds_toArray, List.set_cons_zero, List.set_cons_succ]
  refine wpAnyH_take (i := 44) (v := ?_) rfl (by kernel_rfl) (by kernel_rfl) (by kernel_rfl) (fun _ _ _ h => h) (Or.inl ⟨by rfl, ?_⟩) hS ?_
  rotate_left
  · intro v _; go_simp; first | done | with_reducible rfl
  rotate_left
  simp only [List.getElem_toArray, List.getElem_cons_succ, List.getElem_cons_zero, Act.put, List.setIfInBounds_toArray, List.set_cons_zero, List.set_cons_succ]
  refine wpAnyH_take (i := 45) (v := ?_) rfl (by kernel_rfl) (by kernel_rfl) (by kernel_rfl) (fun _ _ _ h => h) (Or.inl ⟨by rfl, ?_⟩) hS ?_
  rotate_left
  · intro v _; go_simp; first | done | with_reducible rfl
  rotate_left
  simp only [List.getElem_toArray, List.getElem_cons_succ, List.getElem_cons_zero, Act.put, List.setIfInBounds_toArray, List.set_cons_zero, List.set_cons_succ]
  refine wpAnyH_take (i := 46) (v := ?_) rfl (by kernel_rfl) (by kernel_rfl) (by kernel_rfl) (fun _ _ _ h => h) (Or.inl ⟨by rfl, ?_⟩) hS ?_
  rotate_left
  · intro v _; go_simp; first | done | with_reducible rfl
  rotate_left
  simp only [List.getElem_toArray, List.getElem_cons_succ, List.getElem_cons_zero, Act.put, List.setIfInBounds_toArray, List.set_cons_zero, List.set_cons_succ]
  refine wpAnyH_take (i := 47) (v := _) rfl (by kernel_rfl) (by kernel_rfl) (by kernel_rfl) (fun _ _ _ h => h) (yieldsIf_digA (by rfl) (.tmp 8) rfl ⟨b8,0,none⟩ rfl T htw.out (fun _ h => (DigAt.ad h.2))) hS ?_
  try simp only [List.getElem_toArray, List.getElem_cons_succ, List.getElem_cons_zero, Act.put, List.setIfInBounds_toArray, List.set_cons_zero, List.set_cons_succ]
  refine wpAnyH_take (i := 48) (v := _) rfl (by kernel_rfl) (by kernel_rfl) (by kernel_rfl) (fun _ _ _ h => h) (yieldsIf_digA (by rfl) (.tmp 2) rfl ⟨b2,0,none⟩ rfl R hrt.out (fun _ h => (DigAt.ad h.1))) hS ?_
  try simp only [List.getElem_toArray, List.getElem_cons_succ, List.getElem_cons_zero, Act.put, List.setIfInBounds_toArray, List.set_cons_zero, List.set_cons_succ]
  refine wpAnyH_take (i := 49) (v := ?_) rfl (by kernel_rfl) (by kernel_rfl) (by kernel_rfl) (fun _ _ _ h => h) (Or.inl ⟨by rfl, ?_⟩) hS ?_
  rotate_left
  · intro v _; go_simp; first | done | with_reducible rfl
  rotate_left
  simp only [List.getElem_toArray, List.getElem_cons_succ, List.getElem_cons_zero, Act.put, List.setIfInBounds_toArray, List.set_cons_zero, List.set_cons_succ]
  refine wpAnyH_all (rs := [50]) (by kernel_rfl) (by simp) ?_
  intro i hi
  simp only [List.mem_cons, List.not_mem_nil, or_false] at hi
  subst hi
  refine wpOp_wp rfl (by rfl) ?_
  go_simp
  refine (hcb2.out A6 c6 x25 H6.out hc6.out HK.out).mono ?_
  rintro e x26 ⟨rfl, hb_⟩
  replace HC := Lib.hid (Kd.C_below HC.out hb_)
  replace HK := Lib.hid (HK.out.below hb_)
  replace HB := Lib.hid (HB.out.trans (Below.mono hb_ HB.out.size))
  replace H2 := Lib.hid (DigAt.below H2.out hb_)
  replace H4 := Lib.hid (CD.below H4.out hb_)
  replace H6 := Lib.hid (CD.below H6.out hb_)
  replace H8 := Lib.hid (DigAt.below H8.out hb_)
  clear hb_ hS
  have hS : S2d b2 R b8 T x26 := ⟨H2.out, H8.out⟩
  refine ⟨hS, ?_⟩
  try simp only [List.getElem_toArray, List.getElem_cons_succ, List.getElem_cons_zero, Act.put, List.setIfInBounds_toArray, List.set_cons_zero, List.set_cons_succ]
  refine wpAnyH_take (i := 51) (v := ?_) rfl (by kernel_rfl) (by kernel_rfl) (by kernel_rfl) (fun _ _ _ h => h) (Or.inl ⟨by rfl, ?_⟩) hS ?_
  rotate_left
  · intro v _; go_simp; first | done | with_reducible rfl
  rotate_left
  simp only [List.getElem_toArray, List.getElem_cons_succ, List.getElem_cons_zero, Act.put, List.setIfInBounds_toArray, List.set_cons_zero, List.set_cons_succ]
  refine wpAnyH_take (i := 52) (v := ?_) rfl (by kernel_rfl) (by kernel_rfl) (by kernel_rfl) (fun _ _ _ h => h) (Or.inl ⟨by rfl, ?_⟩) hS ?_
  rotate_left
  · intro v _; go_simp; first | done | with_reducible rfl
  rotate_left
  simp only [List.getElem_toArray, List.getElem_cons_succ, List.getElem_cons_zero, Act.put, List.setIfInBounds_toArray, List.set_cons_zero, List.set_cons_succ]
  refine wpAnyH_take (i := 53) (v := _) rfl (by kernel_rfl) (by kernel_rfl) (by kernel_rfl) (fun _ _ _ h => h) (yieldsIf_digA (by rfl) (.tmp 8) rfl ⟨b8,0,none⟩ rfl T htw.out (fun _ h => (DigAt.ad h.2))) hS ?_
  try simp only [List.getElem_toArray, List.getElem_cons_succ, List.getElem_cons_zero, Act.put, List.setIfInBounds_toArray, List.set_cons_zero, List.set_cons_succ]
  refine wpAnyH_take (i := 54) (v := _) rfl (by kernel_rfl) (by kernel_rfl) (by kernel_rfl) (fun _ _ _ h => h) (yieldsIf_digA (by rfl) (.tmp 2) rfl ⟨b2,0,none⟩ rfl R hrt.out (fun _ h => (DigAt.ad h.1))) hS ?_
  try simp only [List.getElem_toArray, List.getElem_cons_succ, List.getElem_cons_zero, Act.put, List.setIfInBounds_toArray, List.set_cons_zero, List.set_cons_succ]
  refine wpAnyH_take (i := 55) (v := ?_) rfl (by kernel_rfl) (by kernel_rfl) (by kernel_rfl) (fun _ _ _ h => h) (Or.inl ⟨by rfl, ?_⟩) hS ?_
  rotate_left
  · intro v _; go_simp; first | done | with_reducible rfl
  rotate_left
  simp only [List.getElem_toArray, List.getElem_cons_succ, List.getElem_cons_zero, Act.put, List.setIfInBounds_toArray, List.set_cons_zero, List.set_cons_succ]
  refine wpAnyH_all (rs := [56]) (by kernel_rfl) (by simp) ?_
  intro i hi
  simp only [List.mem_cons, List.not_mem_nil, or_false] at hi
  subst hi
  refine wpOp_wp rfl (by rfl) ?_
  go_simp
  refine (hcb1.out A6 c6 x26 H6.out hc6.out HK.out).mono ?_
  rintro e x27 ⟨rfl, hb_⟩
  replace HC := Lib.hid (Kd.C_below HC.out hb_)
  replace HK := Lib.hid (HK.out.below hb_)
  replace HB := Lib.hid (HB.out.trans (Below.mono hb_ HB.out.size))
  replace H2 := Lib.hid (DigAt.below H2.out hb_)
  replace H4 := Lib.hid (CD.below H4.out hb_)
  replace H6 := Lib.hid (CD.below H6.out hb_)
  replace H8 := Lib.hid (DigAt.below H8.out hb_)
  clear hb_ hS
  have hS : S2d b2 R b8 T x27 := ⟨H2.out, H8.out⟩
  refine ⟨hS, ?_⟩
  try simp only [List.getElem_toArray, List.getElem_cons_succ, List.getElem_cons_zero, Act.put, List.setIfInBounds_toArray, List.set_cons_zero, List.set_cons_succ]
  refine wpAnyH_take (i := 57) (v := ?_) rfl (by kernel_rfl) (by kernel_rfl) (by kernel_rfl) (fun _ _ _ h => h) (Or.inl ⟨by rfl, ?_⟩) hS ?_
  rotate_left
  · intro v _; go_simp; first | done | with_reducible rfl
  rotate_left
  simp only [List.getElem_toArray, List.getElem_cons_succ, List.getElem_cons_zero, Act.put, List.setIfInBounds_toArray, List.set_cons_zero, List.set_cons_succ]
  refine wpAnyH_take (i := 58) (v := ?_) rfl (by kernel_rfl) (by kernel_rfl) (by kernel_rfl) (fun _ _ _ h => h) (Or.inl ⟨by rfl, ?_⟩) hS ?_
  rotate_left
  · intro v _; go_simp; first | done | with_reducible rfl
  rotate_left
  simp only [List.getElem_toArray, List.getElem_cons_succ, List.getElem_cons_zero, Act.put, List.setIfInBounds_toArray, List.set_cons_zero, List.set_cons_succ]
  refine wpAnyH_take (i := 59) (v := ?_) rfl (by kernel_rfl) (by kernel_rfl) (by kernel_rfl) (fun _ _ _ h => h) (Or.inl ⟨by rfl, ?_⟩) hS ?_
  rotate_left
  · intro v _; go_simp; first | done | with_reducible rfl
  rotate_left
  simp only [List.getElem_toArray, List.getElem_cons_succ, List.getElem_cons_zero, Act.put, List.setIfInBounds_toArray, List.set_cons_zero, List.set_cons_succ]
  refine wpAnyH_all (rs := [60]) (by kernel_rfl) (by simp) ?_
  intro i hi
  simp only [List.mem_cons, List.not_mem_nil, or_false] at hi
  subst hi
  refine wpOp_wp rfl (by rfl) ?_
  go_simp
  refine (kla.out x27 HK.out).mono ?_
  rintro e x28 ⟨rfl, hb_⟩
  replace HC := Lib.hid (Kd.C_below HC.out hb_)
  replace HK := Lib.hid (HK.out.below hb_)
  replace HB := Lib.hid (HB.out.trans (Below.mono hb_ HB.out.size))
  replace H2 := Lib.hid (DigAt.below H2.out hb_)
  replace H4 := Lib.hid (CD.below H4.out hb_)
  replace H6 := Lib.hid (CD.below H6.out hb_)
  replace H8 := Lib.hid (DigAt.below H8.out hb_)
  clear hb_ hS
  have hS : S2d b2 R b8 T x28 := ⟨H2.out, H8.out⟩
  refine ⟨hS, ?_⟩
  try simp only [List.getElem_toArray, List.getElem_cons_succ, List.getElem_cons_zero, Act.put, List.setIfInBounds_toArray, List.set_cons_zero, List.set_cons_succ]
  refine wpAnyH_all (rs := [61]) (by kernel_rfl) (by simp) ?_
  intro i hi
  simp only [List.mem_cons, List.not_mem_nil, or_false] at hi
  subst hi
  refine wpOp_wp rfl (by rfl) ?_
  go_simp
  refine (klb.out x28 HK.out).mono ?_
  rintro e x29 ⟨rfl, hb_⟩
  replace HC := Lib.hid (Kd.C_below HC.out hb_)
  replace HK := Lib.hid (HK.out.below hb_)
  replace HB := Lib.hid (HB.out.trans (Below.mono hb_ HB.out.size))
  replace H2 := Lib.hid (DigAt.below H2.out hb_)
  replace H4 := Lib.hid (CD.below H4.out hb_)
  replace H6 := Lib.hid (CD.below H6.out hb_)
  replace H8 := Lib.hid (DigAt.below H8.out hb_)
  clear hb_ hS
  have hS : S2d b2 R b8 T x29 := ⟨H2.out, H8.out⟩
  refine ⟨hS, ?_⟩
  try simp only [List.getElem_toArray, List.getElem_cons_succ, List.getElem_cons_zero, Act.put, List.setIfInBounds_toArray, List.set_cons_zero, List.set_cons_succ]
  have heqN := heq.out
  refine wpAnyH_take (i := 62) (v := ?_) rfl (by kernel_rfl) (by kernel_rfl) (by kernel_rfl) (fun _ _ _ h => h) (Or.inl ⟨by rfl, ?_⟩) hS ?_
  rotate_left
  · intro v _; go_simp; first | done | with_reducible rfl
  rotate_left
  simp only [List.getElem_toArray, List.getElem_cons_succ, List.getElem_cons_zero, Act.put, List.setIfInBounds_toArray, List.set_cons_zero, List.set_cons_succ]
  refine wpAnyH_take (i := 63) (v := ?_) rfl (by kernel_rfl) (by kernel_rfl) (by kernel_rfl) (fun _ _ _ h => h) (Or.inl ⟨by rfl, ?_⟩) hS ?_
  rotate_left
  · intro v _; go_simp; first | done | with_reducible rfl
  rotate_left
  simp only [List.getElem_toArray, List.getElem_cons_succ, List.getElem_cons_zero, Act.put, List.setIfInBounds_toArray, List.set_cons_zero, List.set_cons_succ]
  refine wpAnyH_take (i := 64) (v := ?_) rfl (by kernel_rfl) (by kernel_rfl) (by kernel_rfl) (fun _ _ _ h => h) (Or.inl ⟨by rfl, ?_⟩) hS ?_
  rotate_left
  · intro v _; go_simp; first | done | with_reducible rfl
  rotate_left
  simp only [List.getElem_toArray, List.getElem_cons_succ, List.getElem_cons_zero, Act.put, List.setIfInBounds_toArray, List.set_cons_zero, List.set_cons_succ]
  refine wpAnyH_done (by kernel_rfl) ?_ _
  go_wp2_with fail
  go_ret
  exact ⟨rfl, HB.out⟩
end Go.Proofs.YtldpnmebjnkjeaaDoor.TrW
namespace Go.Proofs.YtldpnmebjnkjeaaDoor.PH1
open Go.RowKit Go.Proofs.YtldpnmebjnkjeaaDoorW.PrintWords Go.Proofs.YtldpnmebjnkjeaaDoorW.PrintLast Go.Proofs.YtldpnmebjnkjeaaDoorW.PrintMore
set_option linter.unusedVariables false
set_option linter.unusedSimpArgs false

def cashbooklaw11_whole.l0 : Nat → Int → Int → Option (Bool)
  | 0, _, _ => none
  | k + 1, x5, x6 => if x5 < x6 then ((cashbookref11_Split.f k x6).bind fun t205 => (if x5 > t205 then (some false) else (cashbooklaw11_whole.l0 k x5 t205))) else (some true)
def cashbooklaw11_whole.f (k : Nat) (a0 : Int) (a1 : Int) : Option (Bool) := cashbooklaw11_whole.l0 k a0 a1
theorem cashbooklaw11_whole.mono_l : ∀ k, (∀ y0 y1, LeO (cashbooklaw11_whole.l0 k y0 y1) (cashbooklaw11_whole.l0 (k + 1) y0 y1))
  | 0 => fun _ _ r h => by simp [cashbooklaw11_whole.l0] at h
  | k + 1 => by
    have ih0 := cashbooklaw11_whole.mono_l k
    · intro y0 y1
      unfold cashbooklaw11_whole.l0
      repeat' first
      | (with_reducible exact ih0 _ _)
      | (with_reducible exact cashbookref11_Split.mono _ _)
      | (with_reducible exact LeO.refl _)
      | (with_reducible exact LeO.none _)
      | (with_reducible refine LeO.ite ?_ ?_)
      | (with_reducible refine LeO.bind ?_ (fun _ => ?_))
      | exact ih0 _ _
      | exact cashbookref11_Split.mono _ _
      | exact LeO.none _
      | refine LeO.ite ?_ ?_
      | refine LeO.bind ?_ (fun _ => ?_)
theorem cashbooklaw11_whole.mono : ∀ a0 a1 k, LeO (cashbooklaw11_whole.f k a0 a1) (cashbooklaw11_whole.f (k + 1) a0 a1) := by
  intro a0 a1 k
  have ih0 := cashbooklaw11_whole.mono_l k
  unfold cashbooklaw11_whole.f
  repeat' first
      | (with_reducible exact ih0 _ _)
      | (with_reducible exact cashbookref11_Split.mono _ _)
      | (with_reducible exact LeO.refl _)
      | (with_reducible exact LeO.none _)
      | (with_reducible refine LeO.ite ?_ ?_)
      | (with_reducible refine LeO.bind ?_ (fun _ => ?_))
      | exact ih0 _ _
      | exact cashbookref11_Split.mono _ _
      | exact LeO.none _
      | refine LeO.ite ?_ ?_
      | refine LeO.bind ?_ (fun _ => ?_)
set_option maxHeartbeats 8000000 in
set_option maxRecDepth 100000 in
theorem cashbooklaw11_whole.calls (k : Nat) (a0 : Int) (a1 : Int) (r : Bool) (w : World) (h : cashbooklaw11_whole.f k a0 a1 = some r) :
    Calls Tryd.prog 50 #[.int .i64 a0, .int .i64 a1] w fun e w' => e = .returned (.bool r) ∧ Drawn0 w w' := by
  have H : (cashbooklaw11_whole.l0 k a0 a1) = some r := h
  clear h
  have H' := Aside0.mk H
  clear H
  go_enter Tryd.func50, Tryd.ntmps50
  go_wp2
  go_loopg [6] k (fun kq v6 w' => ∃ (x6_1 : Int), v6 = .int .i64 x6_1 ∧ Aside0 (cashbooklaw11_whole.l0 kq a0 x6_1 = some r) ∧ Aside0 (kq ≤ k) ∧ Drawn0 w w')
  case atStart => exact ⟨(a1), (by first | rfl | (simp; done) | (simp [*]; done)), H', ⟨Nat.le_refl _⟩, by repeat (first | exact Drawn0.refl _ | apply Drawn0.step)⟩
  case round =>
    clear H'
    try clear p2
    obtain ⟨x6_1, rfl, HA, HK1, ⟨m1, rfl⟩⟩ := hrel
    cases gk with
    | zero => exact absurd HA.out (by simp [cashbooklaw11_whole.l0])
    | succ k1 =>
      have H := HA.out
      clear HA
      simp only [cashbooklaw11_whole.l0] at H
      by_cases c3 : a0 < x6_1
      · rw [if_pos c3] at H
        have c3b0 : decide (a0 < x6_1) = true := decide_eq_true c3
        clear c3
        replace H := Option.bind_eq_some_iff.mp H
        obtain ⟨t205, A40, H⟩ := H
        replace H : (if a0 > t205 then (some false) else (cashbooklaw11_whole.l0 k1 a0 t205)) = some r := H
        have A4 := Aside0.mk A40
        clear A40
        by_cases c5 : a0 > t205
        · rw [if_pos c5] at H
          have c5b0 : decide (t205 < a0) = true := decide_eq_true c5
          clear c5
          obtain rfl := Option.some.inj H
          go_wp2_with (first | ((with_reducible refine gate_callee (f := 74) rfl ?_); refine goesL_ (some 14) rfl rfl Tryd.func74 (by kernel_rfl) rfl #[.int .i64 x6_1] rfl (by (try simp only [List.map_toArray, List.map_cons, List.map_nil]); first | done | rfl | (simp only [List.length_drop, List.length_take]; rfl)) ?_; (with_reducible refine (cashbookref11_Split.calls k1 x6_1 t205 _ A4.out).mono ?_); rintro e w' ⟨rfl, ⟨nd, rfl⟩⟩; refine ⟨_, rfl, ?_⟩))
          go_ret
          exact ⟨by first | rfl | (simp; done) | (simp [*]; done), by repeat (first | exact Drawn0.refl _ | apply Drawn0.step)⟩
        · rw [if_neg c5] at H
          have c5b0 : decide (t205 < a0) = false := decide_eq_false c5
          clear c5
          have H' := Aside0.mk H
          clear H
          go_wp2_with (first | ((with_reducible refine gate_callee (f := 74) rfl ?_); refine goesL_ (some 14) rfl rfl Tryd.func74 (by kernel_rfl) rfl #[.int .i64 x6_1] rfl (by (try simp only [List.map_toArray, List.map_cons, List.map_nil]); first | done | rfl | (simp only [List.length_drop, List.length_take]; rfl)) ?_; (with_reducible refine (cashbookref11_Split.calls k1 x6_1 t205 _ A4.out).mono ?_); rintro e w' ⟨rfl, ⟨nd, rfl⟩⟩; refine ⟨_, rfl, ?_⟩))
          go_roundg k1
          case measure => have := HK1.out; omega
          case rel => exact ⟨(t205), (by first | rfl | (simp; done) | (simp [*]; done)), H', ⟨by have := HK1.out; omega⟩, by repeat (first | exact Drawn0.refl _ | apply Drawn0.step)⟩
      · rw [if_neg c3] at H
        have c3b0 : decide (a0 < x6_1) = false := decide_eq_false c3
        clear c3
        obtain rfl := Option.some.inj H
        go_wp2
        go_ret
        exact ⟨by first | rfl | (simp; done) | (simp [*]; done), by repeat (first | exact Drawn0.refl _ | apply Drawn0.step)⟩

end Go.Proofs.YtldpnmebjnkjeaaDoor.PH1
namespace Go.Proofs.YtldpnmebjnkjeaaDoor.TrW
open Go.RowKit Go.Proofs.YtldpnmebjnkjeaaDoorW.PrintWords Go.Proofs.YtldpnmebjnkjeaaDoor.PH1 Go.Proofs.YtldpnmebjnkjeaaDoor Go.Proofs.YtldpnmebjnkjeaaDoorW.PrintLast Go.Proofs.YtldpnmebjnkjeaaDoorW.PrintMore
open Go.Proofs.YtldpnmebjnkjeaaDoor.Sha
set_option linter.unusedVariables false
set_option linter.unusedSimpArgs false

theorem wr64 {i : Int} (h0 : -9223372036854775808 ≤ i) (h : i ≤ 9223372036854775807) : wrap64 i = i := by unfold wrap64; omega
theorem rd_at (L : List ByteArray) (i : Nat) (h : i < L.length) : rdOf ByteArray.empty L (i : Int) = L[i] := by
  unfold rdOf
  rw [Int.toNat_natCast, List.getD_eq_getElem?_getD, List.getElem?_eq_getElem h]
  rfl
def fitB (s : ByteArray) : Bool := decide ((s.size : Int) > 1200)
theorem fits_l0 (L : List ByteArray) (hL : L.length ≤ 1000000) : ∀ (m i : Nat), i + m = L.length → cashbooklaw11_Fits.l0 (m + 1) L (i : Int) = some (!(L.drop i).any fitB)
  | 0, i, h => by
    rw [cashbooklaw11_Fits.l0, if_neg (by omega), List.drop_eq_nil_of_le (by omega)]; rfl
  | m + 1, i, h => by
    have hi : i < L.length := by omega
    rw [cashbooklaw11_Fits.l0, if_pos (by omega), if_pos (by omega), rd_at L i hi, List.drop_eq_getElem_cons hi, List.any_cons]
    by_cases h1 : ((L[i]).size : Int) > 1200
    · rw [if_pos h1, show fitB L[i] = true from decide_eq_true h1, Bool.true_or]; rfl
    · rw [if_neg h1, show fitB L[i] = false from decide_eq_false h1, Bool.false_or, wr64 (by omega) (by omega)]
      exact fits_l0 L hL m (i + 1) (by omega)
def fitsB (L : List ByteArray) : Bool := decide (L.length ≤ 24) && !L.any fitB
theorem fits_calls (A : Option Addr) (c : Nat) (L : List ByteArray) (w : World) (hC : Kd.C Kd.string w A L.length L) (hc : L.length ≤ c) :
    Calls Tryd.prog 29 #[.slice A L.length c] w fun e w' => e = .returned (.bool (fitsB L)) ∧ Drawn0 w w' := by
  refine cashbooklaw11_Fits.calls (L.length + 1) A c L _ w hC hc ?_
  unfold cashbooklaw11_Fits.f fitsB
  by_cases h : L.length ≤ 24
  · rw [if_neg (by omega), decT h, Bool.true_and]
    exact fits_l0 L (by omega) L.length 0 (by omega)
  · rw [if_pos (by omega), decF h, Bool.false_and]
theorem wrong_l0 (L : List ByteArray) (hL : L.length ≤ 1000000) : ∀ (m i : Nat), i + m = L.length → cashbookref11_Wrong.l0 (m + 1) L (i : Int) = some (if (L.drop i).any longB = true then 4 else 0)
  | 0, i, h => by
    rw [cashbookref11_Wrong.l0, if_neg (by omega), List.drop_eq_nil_of_le (by omega)]; rfl
  | m + 1, i, h => by
    have hi : i < L.length := by omega
    rw [cashbookref11_Wrong.l0, if_pos (by omega), if_pos (by omega), rd_at L i hi, List.drop_eq_getElem_cons hi, List.any_cons]
    by_cases h1 : ((L[i]).size : Int) > 1000
    · rw [if_pos h1, show longB L[i] = true from decide_eq_true h1, Bool.true_or]; rfl
    · rw [if_neg h1, show longB L[i] = false from decide_eq_false h1, Bool.false_or, wr64 (by omega) (by omega)]
      exact wrong_l0 L hL m (i + 1) (by omega)
theorem rwrong_calls (A : Option Addr) (c : Nat) (L : List ByteArray) (w : World) (hC : Kd.C Kd.string w A L.length L) (hc : L.length ≤ c) :
    Calls Tryd.prog 37 #[.slice A L.length c] w fun e w' => e = .returned (.int .i64 (wrongN L)) ∧ Drawn0 w w' := by
  refine cashbookref11_Wrong.calls (L.length + 1) A c L _ w hC hc ?_
  unfold cashbookref11_Wrong.f wrongN
  by_cases h : 1024 < L.length
  · rw [if_pos (by omega), if_pos (Or.inl h)]
  · have e : cashbookref11_Wrong.l0 (L.length + 1) L 0 = _ := wrong_l0 L (by omega) L.length 0 (by omega)
    rw [if_neg (by omega), e, List.drop_zero]
    by_cases h2 : L.any longB = true
    · rw [if_pos h2, if_pos (Or.inr h2)]
    · rw [if_neg h2, if_neg (fun h3 => h3.elim h h2)]
theorem rsplit_up (n : Nat) (h : n ≤ 1024) : ∀ j : Nat, cashbookref11_Split.f (20 + j) (n : Int) = some ((Tr.sp n : Nat) : Int)
  | 0 => rsplit_run n h
  | j + 1 => cashbookref11_Split.mono _ (20 + j) _ (rsplit_up n h j)
theorem whole_l0 : ∀ (j m n : Nat), n ≤ j → n ≤ 1024 → 1 ≤ m → m ≤ n → cashbooklaw11_whole.l0 (21 + j) (m : Int) (n : Int) = some (Tr.whole m n)
  | 0, m, n, h, _, h1, h2 => by omega
  | j + 1, m, n, h, hn, h1, h2 => by
    rw [show 21 + (j + 1) = (20 + (j + 1)) + 1 by omega, cashbooklaw11_whole.l0]
    by_cases h3 : m < n
    · have h4 := Tr.sp_lt (n := n) (by omega)
      rw [if_pos (by omega), rsplit_up n hn, Option.bind_some]
      unfold Tr.whole
      by_cases h5 : m ≤ Tr.sp n
      · rw [if_neg (by omega), Tr.way_left m n ⟨h1, h3⟩ h5, List.all_cons, Bool.true_and, show 20 + (j + 1) = 21 + j by omega]
        exact whole_l0 j m (Tr.sp n) (by omega) (by omega) h1 h5
      · rw [if_pos (by omega), Tr.way_right m n ⟨h1, h3⟩ h5, List.all_cons, Bool.false_and]
    · rw [if_neg (by omega)]
      unfold Tr.whole
      rw [Tr.way_end m n (by omega)]
      rfl
theorem whole_calls (m n : Nat) (h1 : 1 ≤ m) (h2 : m ≤ n) (hn : n ≤ 1024) (w : World) : Calls Tryd.prog 50 #[.int .i64 (m : Int), .int .i64 (n : Int)] w fun e w' => e = .returned (.bool (Tr.whole m n)) ∧ Drawn0 w w' :=
  cashbooklaw11_whole.calls (21 + n) _ _ _ w (whole_l0 n m n (Nat.le_refl _) hn h1 h2)
theorem pairP_inj {x y : List UInt8 × List UInt8} (h : pairP x = pairP y) : x = y := by
  cases x; cases y; unfold pairP at h; injection h with _ h1 h2; simp at h1 h2; simp [h1, h2]
/-- Two chains of one way that end in one digest and begin with two things. -/
theorem found_ways (f g : Pr) (rs : List Bool) (ps qs : List (List UInt8)) (d e : List UInt8) (hp : ps.length = rs.length) (hq : qs.length = rs.length) (hl : Tr.last alg d rs ps = Tr.last alg e rs qs) (hne : d ≠ e) :
    twB (madeP f d rs ps) (Tr.chainD alg d rs ps) (madeP g e rs qs) (Tr.chainD alg e rs qs) = true := by
  obtain ⟨i, hi, h1, h2⟩ := Tr.two_ways alg rs ps qs d e hp hq hl hne
  refine twB_true (i + 1) _ _ _ _ (by rw [madeP_len]; omega) (by rw [chainD_len]; omega) (by rw [madeP_len]; omega) (by rw [chainD_len]; omega) h1 ?_
  unfold madeP
  rw [List.getElem?_cons_succ, List.getElem?_cons_succ, List.getElem?_map, List.getElem?_map]
  intro h3
  apply h2
  have a := List.getElem?_eq_getElem (l := Tr.chainM alg d rs ps) (i := i) (by rw [chainM_len]; omega)
  have b := List.getElem?_eq_getElem (l := Tr.chainM alg e rs qs) (i := i) (by rw [chainM_len]; omega)
  rw [a, b] at h3 ⊢
  exact congrArg some (pairP_inj (Option.some.inj h3))
end Go.Proofs.YtldpnmebjnkjeaaDoor.TrW
namespace Go.Proofs.YtldpnmebjnkjeaaDoor.Ref10
open Go.RowKit Go.Proofs.YtldpnmebjnkjeaaDoorW.PrintWords Go.Proofs.YtldpnmebjnkjeaaDoor.PH1 Go.Proofs.YtldpnmebjnkjeaaDoor Go.Proofs.YtldpnmebjnkjeaaDoorW.PrintLast Go.Proofs.YtldpnmebjnkjeaaDoorW.PrintMore
open Go.Proofs.YtldpnmebjnkjeaaDoor.Sha (V8 wv RowU rotr kT sched rnds rnd takeP vadd mixL mixL_len mixL_get mixL_set mixL_all xo an ad rx ra rs rw32 Nr ch maj bs0 bs1)
set_option linter.unusedVariables false
set_option linter.unusedSimpArgs false

/-- chosen, shut. -/
def cc (a b c : UInt32) : UInt32 := ch a b c
/-- A fact, shut: whnf does not open it. -/
structure Shut (p : Prop) : Prop where
  out : p
end Go.Proofs.YtldpnmebjnkjeaaDoor.Ref10
namespace Go.Proofs.YtldpnmebjnkjeaaDoor.Ref10
open Go.RowKit Go.Proofs.YtldpnmebjnkjeaaDoorW.PrintWords Go.Proofs.YtldpnmebjnkjeaaDoor.PH1 Go.Proofs.YtldpnmebjnkjeaaDoor Go.Proofs.YtldpnmebjnkjeaaDoorW.PrintLast Go.Proofs.YtldpnmebjnkjeaaDoorW.PrintMore
open Go.Proofs.YtldpnmebjnkjeaaDoor.Sha (V8 wv RowU)
set_option linter.unusedVariables false
set_option linter.unusedSimpArgs false

theorem first_at (j : Nat) (hj : j < 8) : r2 ((ps.take 8).getD j 0) = (Sha.v0.list.getD j 0).toNat := by
  have h := congrArg (fun l => l[j]?) r2_all
  have h1 : j < (ps.take 8).length := hj
  have h2 : j < Sha.v0.list.length := hj
  simp only [List.getElem?_map, List.getElem?_eq_getElem h1, List.getElem?_eq_getElem h2, Option.map_some, Option.some.injEq] at h
  rw [List.getD_eq_getElem?_getD, List.getElem?_eq_getElem h1, List.getD_eq_getElem?_getD, List.getElem?_eq_getElem h2]
  exact h
theorem root2 (j : Nat) (hj : j < 8) : cashbookref10_root.f 2000 (((ps.take 8).getD j 0 : Nat) : Int) 2 = some ((Sha.v0.list.getD j 0).toNat : Int) := by
  have hb : ∀ k : Fin 8, (ps.take 8).getD k.val 0 < 65536 := by decide
  have h := root_run ((ps.take 8).getD j 0) (hb ⟨j, hj⟩) 2 (.inl rfl) 2000 (by omega)
  rw [← first_at j hj]
  exact h
end Go.Proofs.YtldpnmebjnkjeaaDoor.Ref10
namespace Go.Proofs.YtldpnmebjnkjeaaDoor.Ref10
open Go.RowKit Go.Proofs.YtldpnmebjnkjeaaDoorW.PrintWords Go.Proofs.YtldpnmebjnkjeaaDoor.PH1 Go.Proofs.YtldpnmebjnkjeaaDoor Go.Proofs.YtldpnmebjnkjeaaDoorW.PrintLast Go.Proofs.YtldpnmebjnkjeaaDoorW.PrintMore
open Go.Proofs.YtldpnmebjnkjeaaDoor.Sha (V8 wv RowU takeP feedP tailL tailL_len digL digL_len sumL endP z32_len hashV)
set_option linter.unusedVariables false
set_option linter.unusedSimpArgs false

def CV (s : Value) (v : V8) : Array Value := (s :: v.list.map wv).toArray
def CAt (b : Nat) (s : Value) (v : V8) (w : World) : Prop := w.heap[b]? = some (.cells (CV s v) 58 (0, 0))
namespace CAt
variable {b : Nat} {s : Value} {v : V8} {w w1 : World}
theorem below (h : CAt b s v w) (hb : Below w.heap.size w w1) : CAt b s v w1 := blk_below h hb
theorem range (h : CAt b s v w) : w.rangeAt b 1 (v.list.map wv) := by
  intro j x hx
  rw [cell_of_row _ _ _ _ _ _ h]
  unfold CV
  rw [List.getElem?_toArray, Nat.add_comm 1 j, List.getElem?_cons_succ]
  exact hx
end CAt
end Go.Proofs.YtldpnmebjnkjeaaDoor.Ref10
namespace Go.Proofs.YtldpnmebjnkjeaaDoor.TrW
open Go.RowKit Go.Proofs.YtldpnmebjnkjeaaDoorW.PrintWords Go.Proofs.YtldpnmebjnkjeaaDoor.PH1 Go.Proofs.YtldpnmebjnkjeaaDoor Go.Proofs.YtldpnmebjnkjeaaDoorW.PrintLast Go.Proofs.YtldpnmebjnkjeaaDoorW.PrintMore
open Go.Proofs.YtldpnmebjnkjeaaDoor.Sha
open Go.Proofs.YtldpnmebjnkjeaaDoor.Ref10 (wp_store_dig wp_load_dig wpOp_wp range_row)
set_option linter.unusedVariables false
set_option linter.unusedSimpArgs false

def askC (i n : Int) (a b : List UInt8) (v : Value) : List Value := .int .i64 i :: .int .i64 n :: (Lib.byteCells a ++ (Lib.byteCells b ++ [v]))
def AskAt (p : Nat) (i n : Int) (a b : List UInt8) (v : Value) (w : World) : Prop := w.heap[p]? = some (.cells (askC i n a b v).toArray 73 (0, 0)) ∧ a.length = 32 ∧ b.length = 32
theorem AskAt.below {p : Nat} {i n : Int} {a b : List UInt8} {v : Value} {w w1 : World} (h : AskAt p i n a b v w) (hb : Below w.heap.size w w1) : AskAt p i n a b v w1 := ⟨blk_below h.1 hb, h.2⟩
theorem AskAt.c0 {p : Nat} {i n : Int} {a b : List UInt8} {v : Value} {w : World} (h : AskAt p i n a b v w) : w.cell? ⟨p, 0, none⟩ = some (.int .i64 i) := by rw [cell_of_row _ _ _ _ _ _ h.1]; rfl
theorem AskAt.c1 {p : Nat} {i n : Int} {a b : List UInt8} {v : Value} {w : World} (h : AskAt p i n a b v w) : w.cell? ⟨p, 1, none⟩ = some (.int .i64 n) := by rw [cell_of_row _ _ _ _ _ _ h.1]; rfl
theorem AskAt.c66 {p : Nat} {i n : Int} {a b : List UInt8} {v : Value} {w : World} (h : AskAt p i n a b v w) : w.cell? ⟨p, 66, none⟩ = some v := by
  rw [cell_of_row _ _ _ _ _ _ h.1, List.getElem?_toArray]
  unfold askC
  rw [show 66 = 64 + 1 + 1 from rfl, List.getElem?_cons_succ, List.getElem?_cons_succ, List.getElem?_append_right (by rw [bc_len h.2.1]; omega), List.getElem?_append_right (by rw [bc_len h.2.1, bc_len h.2.2]; omega), bc_len h.2.1, bc_len h.2.2]
  rfl
theorem AskAt.a {p : Nat} {i n : Int} {a b : List UInt8} {v : Value} {w : World} (h : AskAt p i n a b v w) : DigAd ⟨p, 2, none⟩ a w := by
  intro j u hu
  have hj := (List.getElem?_eq_some_iff.1 hu).1
  rw [Addr.add_mid, show 2 + j = j + 1 + 1 by omega, cell_of_row _ _ _ _ _ _ h.1, List.getElem?_toArray]
  unfold askC
  rw [List.getElem?_cons_succ, List.getElem?_cons_succ, List.getElem?_append_left hj]
  exact hu
theorem AskAt.b {p : Nat} {i n : Int} {a b : List UInt8} {v : Value} {w : World} (h : AskAt p i n a b v w) : DigAd ⟨p, 34, none⟩ b w := by
  intro j u hu
  have hj := (List.getElem?_eq_some_iff.1 hu).1
  rw [Addr.add_mid, show 34 + j = (32 + j) + 1 + 1 by omega, cell_of_row _ _ _ _ _ _ h.1, List.getElem?_toArray]
  unfold askC
  rw [List.getElem?_cons_succ, List.getElem?_cons_succ, List.getElem?_append_right (by rw [bc_len h.2.1]; omega), bc_len h.2.1, Nat.add_sub_cancel_left, List.getElem?_append_left hj]
  exact hu
theorem fits_of {L : List ByteArray} (h : fitsB L = true) : L.length ≤ 24 ∧ ∀ s ∈ L, s.size ≤ 1200 := by
  unfold fitsB at h
  rw [Bool.and_eq_true, decide_eq_true_eq] at h
  refine ⟨h.1, fun s hs => ?_⟩
  have h2 : L.any fitB = false := by simpa using h.2
  rw [List.any_eq_false] at h2
  have := h2 s hs
  unfold fitB at this
  simp at this
  omega
theorem madeP_ok (f : Pr) (hf : f.ok) (d : List UInt8) : ∀ (rs : List Bool) (ps : List (List UInt8)), d.length = 32 → (∀ p ∈ ps, p.length = 32) → ∀ q ∈ madeP f d rs ps, q.ok := by
  intro rs ps hd hp q hq
  unfold madeP at hq
  rcases List.mem_cons.1 hq with rfl | hq
  · exact hf
  · obtain ⟨x, hx, rfl⟩ := List.mem_map.1 hq
    induction rs generalizing ps d with
    | nil => simp [Tr.chainM] at hx
    | cons s rs ih =>
      match ps, hp, hx with
      | [], _, hx => simp [Tr.chainM] at hx
      | p :: ps, hp, hx =>
        rcases List.mem_cons.1 hx with rfl | hx
        · have h1 := hp p (by simp)
          cases s
          · exact ⟨h1, hd⟩
          · exact ⟨hd, h1⟩
        · refine ih _ ps ?_ (fun q hq => hp q (List.mem_cons_of_mem _ hq)) hx (List.mem_cons_of_mem _ (List.mem_map_of_mem hx)) (List.mem_map_of_mem hx)
          cases s
          · exact sumL_len _
          · exact sumL_len _
end Go.Proofs.YtldpnmebjnkjeaaDoor.TrW
namespace Go.Proofs.YtldpnmebjnkjeaaDoor.TrW
open Go.RowKit Go.Proofs.YtldpnmebjnkjeaaDoorW.PrintWords Go.Proofs.YtldpnmebjnkjeaaDoor.PH1 Go.Proofs.YtldpnmebjnkjeaaDoor Go.Proofs.YtldpnmebjnkjeaaDoorW.PrintLast Go.Proofs.YtldpnmebjnkjeaaDoorW.PrintMore
open Go.Proofs.YtldpnmebjnkjeaaDoor.Sha
set_option linter.unusedVariables false
set_option linter.unusedSimpArgs false

/-- Two bridges from one digest that end in one and tell two beginnings. -/
theorem found_bridges (f g : Pr) (rs : List Bool) (ps qs : List (List UInt8)) (d x : List UInt8) (hp : ps.length = rs.length) (hq : qs.length = rs.length) (hl : Tr.last alg d rs ps = Tr.last alg d rs qs) (hne : Tr.lastX alg x rs ps ≠ Tr.lastX alg x rs qs) :
    twB (madeP f d rs ps) (Tr.chainD alg d rs ps) (madeP g d rs qs) (Tr.chainD alg d rs qs) = true := by
  obtain ⟨i, hi, h1, h2⟩ := Tr.two_bridges alg rs ps qs d x hp hq hl hne
  refine twB_true (i + 1) _ _ _ _ (by rw [madeP_len]; omega) (by rw [chainD_len]; omega) (by rw [madeP_len]; omega) (by rw [chainD_len]; omega) h1 ?_
  unfold madeP
  rw [List.getElem?_cons_succ, List.getElem?_cons_succ, List.getElem?_map, List.getElem?_map]
  intro h3
  apply h2
  have a := List.getElem?_eq_getElem (l := Tr.chainM alg d rs ps) (i := i) (by rw [chainM_len]; omega)
  have b := List.getElem?_eq_getElem (l := Tr.chainM alg d rs qs) (i := i) (by rw [chainM_len]; omega)
  rw [a, b] at h3 ⊢
  exact congrArg some (pairP_inj (Option.some.inj h3))
def zeroP (a : List UInt8) : Pr := ⟨⟨#[]⟩, a, zDig⟩
theorem fork_whole (L : List ByteArray) (m : Nat) (ra : List UInt8) (ps : List (List UInt8)) (hm : 1 ≤ m) (hmn : m ≤ L.length) (hw : Tr.whole m L.length = true) (hne : ra ≠ Tr.root alg (bl (L.take m))) (hV : bridgeV (m : Int) (L.length : Int) ra (Tr.root alg (bl L)) ps = true) :
    ps.length = (Tr.bridge alg (bl L) m true).reverse.length ∧ twB (madeP (zeroP ra) ra (Tr.way m L.length).reverse ps) (Tr.chainD alg ra (Tr.way m L.length).reverse ps) (madeP (zeroP (Tr.root alg (bl (L.take m)))) (Tr.root alg (bl (L.take m))) (Tr.way m L.length).reverse (Tr.bridge alg (bl L) m true).reverse) (Tr.chainD alg (Tr.root alg (bl (L.take m))) (Tr.way m L.length).reverse (Tr.bridge alg (bl L) m true).reverse) = true := by
  unfold bridgeV at hV
  simp only [Int.toNat_natCast] at hV
  rw [Bool.and_eq_true, hw, if_pos rfl] at hV
  obtain ⟨hl, _, hr⟩ := of_decide_eq_true hV.2
  have hlen := Tr.bridge_len alg (bl L).length (bl L) m true (Nat.le_refl _)
  rw [bl_len, hw] at hlen
  have hup := (Tr.up_bridge_true alg (bl L).length (bl L) m hm (by rw [bl_len]; exact hmn) (Nat.le_refl _) (by rw [bl_len]; exact hw)).1
  rw [bl_len, ← bl_take, ← Tr.last_up alg _ _ _ (by simpa using hlen)] at hup
  refine ⟨by rw [List.length_reverse, hlen, hl]; rfl, ?_⟩
  exact found_ways _ _ _ _ _ _ _ (by rw [List.length_reverse]; exact hl.symm) (by rw [List.length_reverse, List.length_reverse]; simpa using hlen) (hr.trans hup.symm) hne
theorem fork_not (L : List ByteArray) (m : Nat) (ra : List UInt8) (ps : List (List UInt8)) (hm : 1 ≤ m) (hmn : m ≤ L.length) (hw : Tr.whole m L.length = false) (hne : ra ≠ Tr.root alg (bl (L.take m))) (hV : bridgeV (m : Int) (L.length : Int) ra (Tr.root alg (bl L)) ps = true) :
    ∃ (f g : List UInt8) (ps' qs : List (List UInt8)), ps = f :: ps' ∧ (Tr.bridge alg (bl L) m true).reverse = g :: qs ∧ ps'.length = qs.length ∧ twB (madeP (zeroP f) f (Tr.way m L.length).reverse ps') (Tr.chainD alg f (Tr.way m L.length).reverse ps') (madeP (zeroP g) g (Tr.way m L.length).reverse qs) (Tr.chainD alg g (Tr.way m L.length).reverse qs) = true := by
  unfold bridgeV at hV
  simp only [Int.toNat_natCast] at hV
  rw [Bool.and_eq_true, hw, if_neg (by simp)] at hV
  obtain ⟨d, bs, e1, e2, e3, e4⟩ := Tr.up_bridge_false alg (bl L).length (bl L) m hm (by rw [bl_len]; exact hmn) (Nat.le_refl _)
  have e0 := Tr.bridge_not alg (bl L).length (bl L) m (Nat.le_refl _) (by rw [bl_len]; exact hw)
  rw [bl_len] at e2 e3 e4
  rw [← Tr.last_up alg _ _ _ e2] at e3
  rw [← Tr.lastX_upx alg _ _ _ e2, ← bl_take] at e4
  match ps, hV with
  | [], hV => exact absurd hV.2 (by simp)
  | f :: ps', hV =>
    obtain ⟨hl, hx, hr⟩ := of_decide_eq_true hV.2
    refine ⟨f, d, ps', bs.reverse, rfl, by rw [e0, e1, List.reverse_append]; rfl, by rw [List.length_reverse, e2, hl], ?_⟩
    have h1 : ps'.length = (Tr.way m L.length).reverse.length := by rw [List.length_reverse]; exact hl.symm
    have h2 : bs.reverse.length = (Tr.way m L.length).reverse.length := by rw [List.length_reverse, List.length_reverse]; exact e2
    by_cases hd : f = d
    · subst hd
      exact found_bridges _ _ _ _ _ f f h1 h2 (hr.trans e3.symm) (by rw [hx, e4]; exact hne)
    · exact found_ways _ _ _ _ _ _ _ h1 h2 (hr.trans e3.symm) hd
theorem wrong_take {L : List ByteArray} (h : wrongN L = 0) (m : Nat) : wrongN (L.take m) = 0 := by
  obtain ⟨h1, h2⟩ := wrong_ok h
  unfold wrongN
  rw [if_neg]
  rintro (h3 | h3)
  · rw [List.length_take] at h3; omega
  · rw [List.any_eq_true] at h3
    obtain ⟨s, hs, h4⟩ := h3
    have := h2 s (List.mem_of_mem_take hs)
    unfold longB at h4
    simp at h4
    omega
theorem wpList_load_digAG {ops : Array Oper} {rest : List Oper} {o : Oper} {a : Act} {Q : Exit → Act → World → Prop} {w : World} (hw : Region.wanted o (yielded ops a.tmps) = true) (x : Operand) (ho : o.op = .load 24 x) (ad : Addr) (hx : a.eval x = .pointer (some ad))
    (l : List UInt8) (hl : l.length = 32) (hr : DigAd ad l w) (h : wpList Tryd.prog ops Q rest (a.put o.dst (.agg (Lib.byteCells l).toArray)) w) : wpList Tryd.prog ops Q (o :: rest) a w := by
  refine wpList_step fun K hK => ?_
  rw [if_pos hw]
  unfold Oper.wp execOp
  simp only [ho, hx, Instr.loadAt, Instr.sureAddr, Sem.run_bind, Sem.run_pure, Result.andThen_ok, run_load_digA hr hl]
  exact hK _ _ h
end Go.Proofs.YtldpnmebjnkjeaaDoor.TrW
namespace Go.Proofs.YtldpnmebjnkjeaaDoor.TrW
open Go.RowKit Go.Proofs.YtldpnmebjnkjeaaDoorW.PrintWords Go.Proofs.YtldpnmebjnkjeaaDoor.PH1 Go.Proofs.YtldpnmebjnkjeaaDoor Go.Proofs.YtldpnmebjnkjeaaDoorW.PrintLast Go.Proofs.YtldpnmebjnkjeaaDoorW.PrintMore
open Go.Proofs.YtldpnmebjnkjeaaDoor.Sha
open Go.Proofs.YtldpnmebjnkjeaaDoor.Ref10 (wp_store_dig wp_load_dig wpOp_wp range_row)
set_option linter.unusedVariables false
set_option linter.unusedSimpArgs false

set_option maxHeartbeats 16000000 in
set_option maxRecDepth 100000 in
theorem forks_law (A : Option Addr) (c : Nat) (L : List ByteArray) (I N : Int) (ra rb : List UInt8) (hra : ra.length = 32) (hrb : rb.length = 32) (A1 : Option Addr) (c1 : Nat) (ps : List (List UInt8)) (w : World) (hC : Kd.C Kd.string w A L.length L) (hc : L.length ≤ c) (hD : CD A1 ps w) (hd : ps.length ≤ c1) (hK : KAt w) :
    Calls Tryd.prog 12 #[.slice A L.length c, .agg (askC I N ra rb (.slice A1 ps.length c1)).toArray] w fun e w' => e = .returned (.bool true) ∧ Below w.heap.size w w' := by
  have hmax := Kd.C_max hC
  have hmax2 := Kd.C_max hD
  go_enter Tryd.func12, Tryd.ntmps12
  go_upto_region 1 with fail
  generalize hw1 : w.alloc _ = w1
  have HQ : Hid (AskAt w.heap.size I N ra rb (.slice A1 ps.length c1) w1) := by
    rw [← hw1]; exact Lib.hid ⟨heap_alloc_last _ _, hra, hrb⟩
  have HB : Hid (Below w.heap.size w w1) := by
    rw [← hw1]; exact Lib.hid ((Below.refl _ _).alloc (Nat.le_refl _) _)
  have HK : Hid (KAt w1) := Lib.hid (hK.below HB.out)
  have HC : Hid (Kd.C Kd.string w1 A L.length L) := Lib.hid (Kd.C_below hC HB.out)
  have HD : Hid (CD A1 ps w1) := Lib.hid (hD.below HB.out)
  clear hw1 hK hC hD
  replace hc := Lib.hid hc
  replace hd := Lib.hid hd
  replace hra := Lib.hid hra
  go_wp2_with fail
  refine (fits_calls A c L w1 HC.out hc.out).mono ?_
  rintro e w2 ⟨rfl, hb_⟩
  try replace hb_ := Drawn0.below hb_
  replace HC := Lib.hid (Kd.C_below HC.out hb_)
  replace HK := Lib.hid (HK.out.below hb_)
  replace HD := Lib.hid (CD.below HD.out hb_)
  replace HQ := Lib.hid (AskAt.below HQ.out hb_)
  replace HB := Lib.hid (HB.out.trans (Below.mono hb_ HB.out.size))
  clear hb_
  cases hfit : fitsB L with
  | false =>
    replace hfit := Lib.hid hfit
    go_wp2_with fail
    refine (alive_calls w2 HK.out).mono ?_
    rintro e wz ⟨rfl, hb_⟩
    have HBz := Lib.hid (HB.out.trans (Below.mono hb_ HB.out.size))
    clear hb_
    go_wp2_with fail
    go_ret
    exact ⟨rfl, HBz.out⟩
  | true =>
    obtain ⟨hL24, hLs⟩ := fits_of hfit
    replace hfit := Lib.hid hfit
    by_cases hp : (ps.length : Int) > 24
    · skip
      have f0 := HQ.out.c0
      have f66 := HQ.out.c66
      go_wp2_with fail
      refine (alive_calls w2 HK.out).mono ?_
      rintro e wz ⟨rfl, hb_⟩
      have HBz := Lib.hid (HB.out.trans (Below.mono hb_ HB.out.size))
      clear hb_
      go_wp2_with fail
      go_ret
      exact ⟨rfl, HBz.out⟩
    · have hp' : decide ((ps.length : Int) > 24) = false := decF hp
      have f0 := HQ.out.c0
      have f66 := HQ.out.c66
      go_wp2_with fail
      clear f0 f66
      refine (rwrong_calls A c L w2 HC.out hc.out).mono ?_
      rintro e w3 ⟨rfl, hb_⟩
      try replace hb_ := Drawn0.below hb_
      replace HC := Lib.hid (Kd.C_below HC.out hb_)
      replace HK := Lib.hid (HK.out.below hb_)
      replace HD := Lib.hid (CD.below HD.out hb_)
      replace HQ := Lib.hid (AskAt.below HQ.out hb_)
      replace HB := Lib.hid (HB.out.trans (Below.mono hb_ HB.out.size))
      clear hb_
      rcases wrong_01 L with hw | hw
      · rw [hw]
        have f0 := HQ.out.c0
        have f66 := HQ.out.c66
        by_cases hI0 : I < 1
        · skip
          go_wp2_with fail
          refine (alive_calls w3 HK.out).mono ?_
          rintro e wz ⟨rfl, hb_⟩
          have HBz := Lib.hid (HB.out.trans (Below.mono hb_ HB.out.size))
          clear hb_
          go_wp2_with fail
          go_ret
          exact ⟨rfl, HBz.out⟩
        · have hI0' : decide (I < 1) = false := decF hI0
          by_cases hI1 : (L.length : Int) < I
          · skip
            go_wp2_with fail
            refine (alive_calls w3 HK.out).mono ?_
            rintro e wz ⟨rfl, hb_⟩
            have HBz := Lib.hid (HB.out.trans (Below.mono hb_ HB.out.size))
            clear hb_
            go_wp2_with fail
            go_ret
            exact ⟨rfl, HBz.out⟩
          · have hI1' : decide ((L.length : Int) < I) = false := decF hI1
            obtain ⟨m, rfl⟩ : ∃ m : Nat, I = m := ⟨I.toNat, by omega⟩
            have hm1 : 1 ≤ m := by omega
            have hm2 : m ≤ L.length := by omega
            have hm2' : (m : Int) ≤ (L.length : Int) := by omega
            have kroot := fun W hk hW => tRoot_ok A c L W hW hc.out hw hk
            have kroot2 := fun W hk hW => tRoot_ok A c (L.take m) W hW (by rw [List.length_take]; have := hc.out; omega) (wrong_take hw m) hk
            have kbr := fun W hk hW => tBridge_ok A c L m W hW hc.out hw hm1 hm2 hk
            have tk1 := fun W => cut_take (A := A) (c := c) (L := L) m hm2 hc.out W
            have hRl := rlen (bl L)
            have hRa := rlen (bl (L.take m))
            have kw := fun hW hne hV => fork_whole L m ra ps hm1 hm2 hW hne hV
            have kn := fun hW hne hV => fork_not L m ra ps hm1 hm2 hW hne hV
            have hbl := bridge_le (bl L) m true (by rw [bl_len]; exact hm2) hm1
            rw [bl_len] at hbl
            generalize Tr.root alg (bl L) = R at kroot hRl kw kn
            generalize Tr.root alg (bl (L.take m)) = Ra at kroot2 hRa kw kn
            generalize hbs : (Tr.bridge alg (bl L) m true).reverse = bs at kbr kw kn
            have hbl2 : bs.length ≤ 25 := by rw [← hbs, List.length_reverse]; omega
            clear hbs hbl
            obtain ⟨L1, hL1⟩ : ∃ L1, L1 = L.take m := ⟨_, rfl⟩
            rw [← hL1] at tk1 kroot2
            replace hL1 := Lib.hid hL1
            replace kroot := Lib.hid kroot
            replace kroot2 := Lib.hid kroot2
            replace kbr := Lib.hid kbr
            replace tk1 := Lib.hid tk1
            replace hRl := Lib.hid hRl
            replace hRa := Lib.hid hRa
            replace kw := Lib.hid kw
            replace kn := Lib.hid kn
            replace hw := Lib.hid hw
            replace hLs := Lib.hid hLs
            go_wp2_with fail
            clear f0 f66
            refine (kroot.out w3 HK.out HC.out).mono ?_
            rintro e w4 ⟨rfl, hb_⟩
            try replace hb_ := Drawn0.below hb_
            replace HC := Lib.hid (Kd.C_below HC.out hb_)
            replace HK := Lib.hid (HK.out.below hb_)
            replace HD := Lib.hid (CD.below HD.out hb_)
            replace HQ := Lib.hid (AskAt.below HQ.out hb_)
            replace HB := Lib.hid (HB.out.trans (Below.mono hb_ HB.out.size))
            clear hb_
            go_upto_region 5 with (guard_target = wpList _ _ _ (⟨none, _, _, _, _, _⟩ :: _) _ _; refine wpList_store_dig rfl (.tmp 6) (.tmp 53) rfl w4.heap.size rfl R hRl.out rfl _ _ (heap_alloc_last _ _) zrow ?_; intro w5 h5 _ hB5)
            have hb5 : Below w4.heap.size w4 w5 := hB5 ((Below.refl _ _).alloc (Nat.le_refl _) _) (Nat.le_refl _)
            have H6 : Hid (DigAt w4.heap.size R w5) := h5
            replace HC := Lib.hid (Kd.C_below HC.out hb5)
            replace HK := Lib.hid (HK.out.below hb5)
            replace HD := Lib.hid (CD.below HD.out hb5)
            replace HQ := Lib.hid (AskAt.below HQ.out hb5)
            replace HB := Lib.hid (HB.out.trans (Below.mono hb5 HB.out.size))
            clear hb5 hB5 h5
            generalize w4.heap.size = b6 at H6 ⊢
            have f0 := HQ.out.c0
            have f66 := HQ.out.c66
            go_wp2_with (guard_target = wpList _ _ _ (⟨some 59, _, _, _, _, _⟩ :: _) _ _; refine wpList_slice rfl und_strs' rfl _ rfl _ _ rfl rfl _ tk1.out ?_)
            clear f0 f66
            have HC1 : Kd.C Kd.string w5 A L1.length L1 := by rw [hL1.out]; exact Kd.C_take HC.out hm2
            refine (kroot2.out w5 HK.out HC1).mono ?_
            rintro e w6 ⟨rfl, hb_⟩
            try replace hb_ := Drawn0.below hb_
            replace HC := Lib.hid (Kd.C_below HC.out hb_)
            replace HK := Lib.hid (HK.out.below hb_)
            replace HD := Lib.hid (CD.below HD.out hb_)
            replace HQ := Lib.hid (AskAt.below HQ.out hb_)
            replace HB := Lib.hid (HB.out.trans (Below.mono hb_ HB.out.size))
            replace H6 := Lib.hid (DigAt.below H6.out hb_)
            clear hb_
            clear HC1
            go_upto_region 6 with (guard_target = wpList _ _ _ (⟨none, _, _, _, _, _⟩ :: _) _ _; refine wpList_store_dig rfl (.tmp 8) (.tmp 61) rfl w6.heap.size rfl Ra hRa.out rfl _ _ (heap_alloc_last _ _) zrow ?_; intro w7 h7 _ hB7)
            have hb7 : Below w6.heap.size w6 w7 := hB7 ((Below.refl _ _).alloc (Nat.le_refl _) _) (Nat.le_refl _)
            have H8 : Hid (DigAt w6.heap.size Ra w7) := h7
            replace HC := Lib.hid (Kd.C_below HC.out hb7)
            replace HK := Lib.hid (HK.out.below hb7)
            replace HD := Lib.hid (CD.below HD.out hb7)
            replace HQ := Lib.hid (AskAt.below HQ.out hb7)
            replace HB := Lib.hid (HB.out.trans (Below.mono hb7 HB.out.size))
            replace H6 := Lib.hid (DigAt.below H6.out hb7)
            clear hb7 hB7 h7
            generalize w6.heap.size = b8 at H8 ⊢
            have f0 := HQ.out.c0
            have f66 := HQ.out.c66
            go_wp2_with fail
            clear f0 f66
            refine (kbr.out w7 HK.out HC.out).mono ?_
            rintro e w8 ⟨v, rfl, hv, hb_⟩
            obtain ⟨A10, c10, rfl, hc10, H10⟩ := hv.reads
            replace H10 := Lib.hid H10
            replace hc10 := Lib.hid hc10
            replace HC := Lib.hid (Kd.C_below HC.out hb_)
            replace HK := Lib.hid (HK.out.below hb_)
            replace HD := Lib.hid (CD.below HD.out hb_)
            replace HQ := Lib.hid (AskAt.below HQ.out hb_)
            replace HB := Lib.hid (HB.out.trans (Below.mono hb_ HB.out.size))
            replace H6 := Lib.hid (DigAt.below H6.out hb_)
            replace H8 := Lib.hid (DigAt.below H8.out hb_)
            clear hb_ hv
            have hqa := HQ.out.a
            have f0 := HQ.out.c0
            have f66 := HQ.out.c66
            go_wp2_with (first | (guard_target = wpList _ _ _ (⟨some 85, _, _, _, _, _⟩ :: _) _ _; refine wpList_load_digA rfl (.tmp 84) rfl ⟨w.heap.size, 2, none⟩ rfl ra hra.out hqa ?_) | (guard_target = wpList _ _ _ (⟨some 86, _, _, _, _, _⟩ :: _) _ _; refine wpList_load_dig rfl (.tmp 6) rfl b6 rfl R hRl.out _ _ H6.out ?_))
            clear f0 f66
            clear hqa
            refine (tCheckBridge_calls (m : Int) (L.length : Int) ra R hra.out hRl.out ps A1 c1 w8 HD.out hd.out HK.out).mono ?_
            rintro e w9 ⟨rfl, hb_⟩
            replace HC := Lib.hid (Kd.C_below HC.out hb_)
            replace HK := Lib.hid (HK.out.below hb_)
            replace HD := Lib.hid (CD.below HD.out hb_)
            replace HQ := Lib.hid (AskAt.below HQ.out hb_)
            replace HB := Lib.hid (HB.out.trans (Below.mono hb_ HB.out.size))
            replace H6 := Lib.hid (DigAt.below H6.out hb_)
            replace H8 := Lib.hid (DigAt.below H8.out hb_)
            replace H10 := Lib.hid (CD.below H10.out hb_)
            clear hb_
            have heq := fun v : World => eq32 v ra Ra hra.out hRa.out
            cases hV : bridgeV (m : Int) (L.length : Int) ra R ps with
            | false =>
              replace hV := Lib.hid hV
              clear heq
              go_wp2_with fail
              refine (alive_calls w9 HK.out).mono ?_
              rintro e wz ⟨rfl, hb_⟩
              have HBz := Lib.hid (HB.out.trans (Below.mono hb_ HB.out.size))
              clear hb_
              go_wp2_with fail
              go_ret
              exact ⟨rfl, HBz.out⟩
            | true =>
              have hqa := HQ.out.a
              by_cases hst : ra = Ra
              · rw [decT hst] at heq
                replace hV := Lib.hid hV
                replace hst := Lib.hid hst
                go_wp2_with (first | (guard_target = wpList _ _ _ (⟨some 93, _, _, _, _, _⟩ :: _) _ _; refine wpList_load_digAG rfl (.tmp 92) rfl ⟨w.heap.size, 2, none⟩ rfl ra hra.out hqa ?_) | (guard_target = wpList _ _ _ (⟨some 94, _, _, _, _, _⟩ :: _) _ _; refine wpList_load_digG rfl (.tmp 8) rfl b8 rfl Ra hRa.out _ _ H8.out ?_))
                clear heq hqa
                go_wp2_with fail
                refine (alive_calls w9 HK.out).mono ?_
                rintro e wz ⟨rfl, hb_⟩
                have HBz := Lib.hid (HB.out.trans (Below.mono hb_ HB.out.size))
                clear hb_
                go_wp2_with fail
                go_ret
                exact ⟨rfl, HBz.out⟩
              · rw [decF hst] at heq
                replace kw := Lib.hid (fun hW => kw.out hW hst hV)
                replace kn := Lib.hid (fun hW => kn.out hW hst hV)
                replace hV := Lib.hid hV
                replace hst := Lib.hid hst
                have f0 := HQ.out.c0
                have f66 := HQ.out.c66
                go_wp2_with (first | (guard_target = wpList _ _ _ (⟨some 93, _, _, _, _, _⟩ :: _) _ _; refine wpList_load_digAG rfl (.tmp 92) rfl ⟨w.heap.size, 2, none⟩ rfl ra hra.out hqa ?_) | (guard_target = wpList _ _ _ (⟨some 94, _, _, _, _, _⟩ :: _) _ _; refine wpList_load_digG rfl (.tmp 8) rfl b8 rfl Ra hRa.out _ _ H8.out ?_))
                clear f0 f66
                clear heq hqa
                refine (whole_calls m L.length hm1 hm2 (by omega) w9).mono ?_
                rintro e wa ⟨rfl, hb_⟩
                try replace hb_ := Drawn0.below hb_
                replace HC := Lib.hid (Kd.C_below HC.out hb_)
                replace HK := Lib.hid (HK.out.below hb_)
                replace HD := Lib.hid (CD.below HD.out hb_)
                replace HQ := Lib.hid (AskAt.below HQ.out hb_)
                replace HB := Lib.hid (HB.out.trans (Below.mono hb_ HB.out.size))
                replace H6 := Lib.hid (DigAt.below H6.out hb_)
                replace H8 := Lib.hid (DigAt.below H8.out hb_)
                replace H10 := Lib.hid (CD.below H10.out hb_)
                clear hb_
                have hzra := zr hra.out
                have hzRa := zr hRa.out
                have HBa := Lib.hid (Below.refl wa.heap.size wa)
                have hqa := HQ.out.a
                have hwa : Hid (w.heap.size ≤ wa.heap.size) := Lib.hid HB.out.size
                cases hwh : Tr.whole m L.length with
                | true =>
                  obtain ⟨hlen, hfound⟩ := kw.out hwh
                  have hle1 : (ps.length : Int) = (bs.length : Int) := by rw [hlen]
                  replace hlen := Lib.hid hlen
                  replace hfound := Lib.hid hfound
                  replace hwh := Lib.hid hwh
                  have f66 := HQ.out.c66
                  go_upto_region 14 with fail
                  clear f66
                  go_upto_region 15 with (first | (guard_target = wpList _ _ _ (⟨some 119, _, _, _, _, _⟩ :: _) _ _; refine wpList_load_digA rfl (.tmp 118) rfl ⟨w.heap.size, 2, none⟩ rfl ra hra.out hqa ?_) | (guard_target = wpList _ _ _ (⟨none, _, _, _, _, _⟩ :: _) _ _; refine wpList_store_dig rfl (.tmp 13) (.tmp 119) rfl wa.heap.size rfl ra hra.out rfl _ _ (heap_alloc_last _ _) zrow ?_; intro wb hb13 _ hBb))
                  clear hqa
                  have H13 : Hid (DigAt wa.heap.size ra wb) := hb13
                  have hbb : Below wa.heap.size wa wb := hBb ((Below.refl _ _).alloc (Nat.le_refl _) _) (Nat.le_refl _)
                  replace HBa := Lib.hid hbb
                  have hlt13 := dig_lt H13.out
                  have H8b := DigAt.below H8.out hbb
                  clear hBb hb13 hbb
                  go_upto_region 16 with (first | (guard_target = wpList _ _ _ (⟨some 120, _, _, _, _, _⟩ :: _) _ _; refine wpList_load_dig rfl (.tmp 8) rfl b8 rfl Ra hRa.out _ _ H8b ?_) | (guard_target = wpList _ _ _ (⟨none, _, _, _, _, _⟩ :: _) _ _; refine wpList_store_dig rfl (.tmp 14) (.tmp 120) rfl wb.heap.size rfl Ra hRa.out rfl _ _ (heap_alloc_last _ _) zrow ?_; intro wc hc14 _ hBc))
                  have H14 : Hid (DigAt wb.heap.size Ra wc) := hc14
                  have hbc : Below wb.heap.size wb wc := hBc ((Below.refl _ _).alloc (Nat.le_refl _) _) (Nat.le_refl _)
                  replace H13 := Lib.hid (DigAt.below H13.out hbc)
                  have h14 : Hid (wa.heap.size ≤ wb.heap.size) := Lib.hid HBa.out.size
                  replace HBa := Lib.hid (HBa.out.trans (hbc.mono HBa.out.size))
                  have h13 : Hid (wa.heap.size ≤ wa.heap.size) := Lib.hid (Nat.le_refl _)
                  have hne : Hid (wa.heap.size ≠ wb.heap.size) := Lib.hid (by omega)
                  clear hBc hc14 hbc hlt13 H8b
                  obtain ⟨b13, hb13⟩ : ∃ b, b = wa.heap.size := ⟨_, rfl⟩
                  rw [← hb13] at H13
                  generalize wb.heap.size = b14 at H14 h14 hne ⊢
                  have h13b : Hid (wa.heap.size ≤ b13) := Lib.hid (by omega)
                  have hneb : Hid (b13 ≠ b14) := Lib.hid (by rw [hb13]; exact hne.out)
                  rw [← hb13]
                  clear h13 hne
                  have h13 := h13b
                  have hne := hneb
                  clear h13b hneb
                  replace hb13 := Lib.hid hb13
                  replace HC := Lib.hid (Kd.C_below HC.out HBa.out)
                  replace HK := Lib.hid (HK.out.below HBa.out)
                  replace HD := Lib.hid (CD.below HD.out HBa.out)
                  replace HQ := Lib.hid (AskAt.below HQ.out HBa.out)
                  replace HB := Lib.hid (HB.out.trans (Below.mono HBa.out HB.out.size))
                  replace H6 := Lib.hid (DigAt.below H6.out HBa.out)
                  replace H8 := Lib.hid (DigAt.below H8.out HBa.out)
                  replace H10 := Lib.hid (CD.below H10.out HBa.out)
                  have f0 := HQ.out.c0
                  have f66 := HQ.out.c66
                  go_upto_region 23 with fail
                  clear f0 f66
                  have kch1 := fun W hW hk => bridged_calls m L.length hm1 hm2 (by omega) ra hra.out ps A1 c1 W hW hd.out hk
                  have kch2 := fun W hW hk => bridged_calls m L.length hm1 hm2 (by omega) Ra hRa.out bs A10 c10 W hW hc10.out hk
                  have hP1 := madeP_ok ⟨⟨#[]⟩, ra, zDig⟩ ⟨hra.out, zDig_len⟩ ra (Tr.way m L.length).reverse ps hra.out HD.out.all
                  have hP2 := madeP_ok ⟨⟨#[]⟩, Ra, zDig⟩ ⟨hRa.out, zDig_len⟩ Ra (Tr.way m L.length).reverse bs hRa.out H10.out.all
                  have hfnd : twB (madeP ⟨⟨#[]⟩, ra, zDig⟩ ra (Tr.way m L.length).reverse ps) (Tr.chainD alg ra (Tr.way m L.length).reverse ps) (madeP ⟨⟨#[]⟩, Ra, zDig⟩ Ra (Tr.way m L.length).reverse bs) (Tr.chainD alg Ra (Tr.way m L.length).reverse bs) = true := hfound.out
                  generalize madeP ⟨⟨#[]⟩, ra, zDig⟩ ra (Tr.way m L.length).reverse ps = M1 at kch1 hfnd hP1
                  generalize madeP ⟨⟨#[]⟩, Ra, zDig⟩ Ra (Tr.way m L.length).reverse bs = M2 at kch2 hfnd hP2
                  generalize Tr.chainD alg ra (Tr.way m L.length).reverse ps = X1 at kch1 hfnd
                  generalize Tr.chainD alg Ra (Tr.way m L.length).reverse bs = X2 at kch2 hfnd
                  clear hfound
                  replace hfnd := Lib.hid hfnd
                  replace kch1 := Lib.hid kch1
                  replace kch2 := Lib.hid kch2
                  replace hP1 := Lib.hid hP1
                  replace hP2 := Lib.hid hP2
                  have f0 := HQ.out.c0
                  have f66 := HQ.out.c66
                  go_wp2_with (guard_target = wpList _ _ _ (⟨some 143, _, _, _, _, _⟩ :: _) _ _; refine wpList_load_dig rfl (.tmp 13) rfl b13 rfl ra hra.out _ _ H13.out ?_)
                  clear f0 f66
                  refine (kch1.out wc HD.out HK.out).mono ?_
                  rintro e w21 ⟨u1, u2, rfl, hu1, hu2, hb_⟩
                  obtain ⟨B1, d1, rfl, hd1, G1⟩ := hu1.reads
                  obtain ⟨B2, d2, rfl, hd2, G2⟩ := hu2.reads
                  replace G1 := Lib.hid G1
                  replace G2 := Lib.hid G2
                  skip
                  replace HC := Lib.hid (Kd.C_below HC.out hb_)
                  replace HK := Lib.hid (HK.out.below hb_)
                  replace HD := Lib.hid (CD.below HD.out hb_)
                  replace HQ := Lib.hid (AskAt.below HQ.out hb_)
                  replace HB := Lib.hid (HB.out.trans (Below.mono hb_ HB.out.size))
                  replace H6 := Lib.hid (DigAt.below H6.out hb_)
                  replace H8 := Lib.hid (DigAt.below H8.out hb_)
                  replace H10 := Lib.hid (CD.below H10.out hb_)
                  replace H13 := Lib.hid (DigAt.below H13.out hb_)
                  replace H14 := Lib.hid (DigAt.below H14.out hb_)
                  clear hb_ hu1 hu2 hd1 hd2
                  have f0 := HQ.out.c0
                  have f66 := HQ.out.c66
                  go_wp2_with (guard_target = wpList _ _ _ (⟨some 153, _, _, _, _, _⟩ :: _) _ _; refine wpList_load_dig rfl (.tmp 14) rfl b14 rfl Ra hRa.out _ _ H14.out ?_)
                  clear f0 f66
                  refine (kch2.out w21 H10.out HK.out).mono ?_
                  rintro e w22 ⟨u1, u2, rfl, hu1, hu2, hb_⟩
                  obtain ⟨B3, d3, rfl, hd3, G3⟩ := hu1.reads
                  obtain ⟨B4, d4, rfl, hd4, G4⟩ := hu2.reads
                  replace G3 := Lib.hid G3
                  replace G4 := Lib.hid G4
                  replace G1 := Lib.hid (G1.out.below hb_)
                  replace G2 := Lib.hid (G2.out.below hb_)
                  replace HC := Lib.hid (Kd.C_below HC.out hb_)
                  replace HK := Lib.hid (HK.out.below hb_)
                  replace HD := Lib.hid (CD.below HD.out hb_)
                  replace HQ := Lib.hid (AskAt.below HQ.out hb_)
                  replace HB := Lib.hid (HB.out.trans (Below.mono hb_ HB.out.size))
                  clear hb_ hu1 hu2 hd3 hd4
                  go_wp2_with fail
                  refine (twice_calls B1 B2 B3 B4 d1 d2 d3 d4 M1 X1 M2 X2 w22 G1.out G2.out G3.out G4.out hP1.out hP2.out).mono ?_
                  rintro e w23 ⟨rfl, hb_⟩
                  rw [hfnd.out]
                  replace HC := Lib.hid (Kd.C_below HC.out hb_)
                  replace HK := Lib.hid (HK.out.below hb_)
                  replace HD := Lib.hid (CD.below HD.out hb_)
                  replace HQ := Lib.hid (AskAt.below HQ.out hb_)
                  replace HB := Lib.hid (HB.out.trans (Below.mono hb_ HB.out.size))
                  clear hb_
                  go_wp2_with fail
                  refine (alive_calls w23 HK.out).mono ?_
                  rintro e w24 ⟨rfl, hb_⟩
                  try replace hb_ := Drawn0.below hb_
                  replace HC := Lib.hid (Kd.C_below HC.out hb_)
                  replace HK := Lib.hid (HK.out.below hb_)
                  replace HD := Lib.hid (CD.below HD.out hb_)
                  replace HQ := Lib.hid (AskAt.below HQ.out hb_)
                  replace HB := Lib.hid (HB.out.trans (Below.mono hb_ HB.out.size))
                  clear hb_
                  go_wp2_with fail
                  go_ret
                  exact ⟨rfl, HB.out⟩
                | false =>
                  obtain ⟨f, g, ps', qs, hps, hqs, hlen, hfound⟩ := kn.out hwh
                  have hplen : ps.length = ps'.length + 1 := by rw [hps]; rfl
                  have hblen : bs.length = qs.length + 1 := by rw [hqs]; rfl
                  have hle1 : (ps.length : Int) = (bs.length : Int) := by omega
                  have hp0 : 0 < ps.length := by omega
                  have hb0 : 0 < bs.length := by omega
                  have hp0' : (0 : Int) < (ps.length : Int) := by omega
                  have hb0' : (0 : Int) < (bs.length : Int) := by omega
                  have hbe : ((bs.length : Int) == 0) = false := by rw [beq_eq_false_iff_ne]; omega
                  have hbe2 : (bs.length == 0) = false := by rw [beq_eq_false_iff_ne]; omega
                  obtain ⟨A11, hcut1, hCt1, hcl1⟩ := cutd_drop (A := A1) (c := c1) (ps := ps) 1 hp0 hd.out
                  obtain ⟨A12, hcut2, hCt2, hcl2⟩ := cutd_drop (A := A10) (c := c10) (ps := bs) 1 hb0 hc10.out
                  have dp : ps.drop 1 = ps' := by rw [hps]; rfl
                  have db : bs.drop 1 = qs := by rw [hqs]; rfl
                  rw [dp] at hcut1 hCt1 hcl1
                  rw [db] at hcut2 hCt2 hcl2
                  have hpf : ps[0]? = some f := by rw [hps]; rfl
                  have hqg : bs[0]? = some g := by rw [hqs]; rfl
                  obtain ⟨hfl, ad, hA, _⟩ := HD.out.get hpf
                  obtain ⟨hgl, adb, hAb, _⟩ := H10.out.get hqg
                  subst hA hAb
                  have hdf : ∀ W, CD (some ad) ps W → DigAd ad f W := fun W h => by
                    obtain ⟨_, ad2, h1, h2⟩ := h.get hpf
                    rw [Nat.zero_mul, add_zero'] at h2
                    cases h1
                    exact h2
                  have hdg : ∀ W, CD (some adb) bs W → DigAd adb g W := fun W h => by
                    obtain ⟨_, ad2, h1, h2⟩ := h.get hqg
                    rw [Nat.zero_mul, add_zero'] at h2
                    cases h1
                    exact h2
                  replace hps := Lib.hid hps
                  replace hqs := Lib.hid hqs
                  replace hlen := Lib.hid hlen
                  replace hplen := Lib.hid hplen
                  replace hblen := Lib.hid hblen
                  replace hfound := Lib.hid hfound
                  replace hcut1 := Lib.hid hcut1
                  replace hcut2 := Lib.hid hcut2
                  replace hCt1 := Lib.hid hCt1
                  replace hCt2 := Lib.hid hCt2
                  replace hcl1 := Lib.hid hcl1
                  replace hcl2 := Lib.hid hcl2
                  replace hfl := Lib.hid hfl
                  replace hgl := Lib.hid hgl
                  replace hdf := Lib.hid hdf
                  replace hdg := Lib.hid hdg
                  replace dp := Lib.hid dp
                  replace db := Lib.hid db
                  replace hpf := Lib.hid hpf
                  replace hqg := Lib.hid hqg
                  replace hwh := Lib.hid hwh
                  have f66 := HQ.out.c66
                  go_upto_region 14 with fail
                  clear f66
                  go_upto_region 15 with (first | (guard_target = wpList _ _ _ (⟨some 119, _, _, _, _, _⟩ :: _) _ _; refine wpList_load_digA rfl (.tmp 118) rfl ⟨w.heap.size, 2, none⟩ rfl ra hra.out hqa ?_) | (guard_target = wpList _ _ _ (⟨none, _, _, _, _, _⟩ :: _) _ _; refine wpList_store_dig rfl (.tmp 13) (.tmp 119) rfl wa.heap.size rfl ra hra.out rfl _ _ (heap_alloc_last _ _) zrow ?_; intro wb hb13 _ hBb))
                  clear hqa
                  have H13 : Hid (DigAt wa.heap.size ra wb) := hb13
                  have hbb : Below wa.heap.size wa wb := hBb ((Below.refl _ _).alloc (Nat.le_refl _) _) (Nat.le_refl _)
                  replace HBa := Lib.hid hbb
                  have hlt13 := dig_lt H13.out
                  have H8b := DigAt.below H8.out hbb
                  clear hBb hb13 hbb
                  go_upto_region 16 with (first | (guard_target = wpList _ _ _ (⟨some 120, _, _, _, _, _⟩ :: _) _ _; refine wpList_load_dig rfl (.tmp 8) rfl b8 rfl Ra hRa.out _ _ H8b ?_) | (guard_target = wpList _ _ _ (⟨none, _, _, _, _, _⟩ :: _) _ _; refine wpList_store_dig rfl (.tmp 14) (.tmp 120) rfl wb.heap.size rfl Ra hRa.out rfl _ _ (heap_alloc_last _ _) zrow ?_; intro wc hc14 _ hBc))
                  have H14 : Hid (DigAt wb.heap.size Ra wc) := hc14
                  have hbc : Below wb.heap.size wb wc := hBc ((Below.refl _ _).alloc (Nat.le_refl _) _) (Nat.le_refl _)
                  replace H13 := Lib.hid (DigAt.below H13.out hbc)
                  have h14 : Hid (wa.heap.size ≤ wb.heap.size) := Lib.hid HBa.out.size
                  replace HBa := Lib.hid (HBa.out.trans (hbc.mono HBa.out.size))
                  have h13 : Hid (wa.heap.size ≤ wa.heap.size) := Lib.hid (Nat.le_refl _)
                  have hne : Hid (wa.heap.size ≠ wb.heap.size) := Lib.hid (by omega)
                  clear hBc hc14 hbc hlt13 H8b
                  obtain ⟨b13, hb13⟩ : ∃ b, b = wa.heap.size := ⟨_, rfl⟩
                  rw [← hb13] at H13
                  generalize wb.heap.size = b14 at H14 h14 hne ⊢
                  have h13b : Hid (wa.heap.size ≤ b13) := Lib.hid (by omega)
                  have hneb : Hid (b13 ≠ b14) := Lib.hid (by rw [hb13]; exact hne.out)
                  rw [← hb13]
                  clear h13 hne
                  have h13 := h13b
                  have hne := hneb
                  clear h13b hneb
                  replace hb13 := Lib.hid hb13
                  have f66 := (AskAt.below HQ.out HBa.out).c66
                  have hdf1 := hdf.out wc (HD.out.below HBa.out)
                  go_upto_region 20 with (first | (guard_target = wpList _ _ _ (⟨some 129, _, _, _, _, _⟩ :: _) _ _; refine wpList_load_digA rfl (.tmp 128) rfl ad rfl f hfl.out hdf1 ?_) | (guard_target = wpList _ _ _ (⟨none, _, _, _, _, _⟩ :: _) _ _; refine wpList_store_dig rfl (.tmp 13) (.tmp 129) rfl b13 rfl f hfl.out rfl _ _ H13.out hzra ?_; intro wd hd13 hkd hBd))
                  clear f66 hdf1
                  replace HBa := Lib.hid (hBd HBa.out h13.out)
                  have H13' : Hid (DigAt b13 f wd) := hd13
                  replace H14 : Hid (DigAt b14 Ra wd) := by refine Lib.hid ?_; unfold DigAt; rw [hkd _ (Ne.symm hne.out)]; exact H14.out
                  clear H13 hd13 hkd hBd
                  have hdg1 := hdg.out wd (H10.out.below HBa.out)
                  go_upto_region 21 with (first | (guard_target = wpList _ _ _ (⟨some 132, _, _, _, _, _⟩ :: _) _ _; refine wpList_load_digA rfl (.tmp 131) rfl adb rfl g hgl.out hdg1 ?_) | (guard_target = wpList _ _ _ (⟨none, _, _, _, _, _⟩ :: _) _ _; refine wpList_store_dig rfl (.tmp 14) (.tmp 132) rfl b14 rfl g hgl.out rfl _ _ H14.out hzRa ?_; intro we he14 hke hBe))
                  clear hdg1
                  replace HBa := Lib.hid (hBe HBa.out h14.out)
                  have H14' : Hid (DigAt b14 g we) := he14
                  have H13 : Hid (DigAt b13 f we) := by refine Lib.hid ?_; unfold DigAt; rw [hke _ hne.out]; exact H13'.out
                  clear H14 H13' he14 hke hBe
                  have H14 := H14'
                  clear H14'
                  replace HC := Lib.hid (Kd.C_below HC.out HBa.out)
                  replace HK := Lib.hid (HK.out.below HBa.out)
                  replace HD := Lib.hid (CD.below HD.out HBa.out)
                  replace HQ := Lib.hid (AskAt.below HQ.out HBa.out)
                  replace HB := Lib.hid (HB.out.trans (Below.mono HBa.out HB.out.size))
                  replace H6 := Lib.hid (DigAt.below H6.out HBa.out)
                  replace H8 := Lib.hid (DigAt.below H8.out HBa.out)
                  replace H10 := Lib.hid (CD.below H10.out HBa.out)
                  have HD1 := Lib.hid (hCt1.out we HD.out)
                  have H11 := Lib.hid (hCt2.out we H10.out)
                  have f0 := HQ.out.c0
                  have f66 := HQ.out.c66
                  go_upto_region 23 with (first | (guard_target = wpList _ _ _ (⟨some 135, _, _, _, _, _⟩ :: _) _ _; refine wpList_slice rfl und_digs' rfl _ rfl _ _ rfl rfl _ hcut1.out ?_) | (guard_target = wpList _ _ _ (⟨some 137, _, _, _, _, _⟩ :: _) _ _; refine wpList_slice rfl und_digs' rfl _ rfl _ _ rfl rfl _ hcut2.out ?_))
                  clear f0 f66
                  have kch1 := fun W hW hk => bridged_calls m L.length hm1 hm2 (by omega) f hfl.out ps' A11 (c1 - 1) W hW hcl1.out hk
                  have kch2 := fun W hW hk => bridged_calls m L.length hm1 hm2 (by omega) g hgl.out qs A12 (c10 - 1) W hW hcl2.out hk
                  have hP1 := madeP_ok ⟨⟨#[]⟩, f, zDig⟩ ⟨hfl.out, zDig_len⟩ f (Tr.way m L.length).reverse ps' hfl.out HD1.out.all
                  have hP2 := madeP_ok ⟨⟨#[]⟩, g, zDig⟩ ⟨hgl.out, zDig_len⟩ g (Tr.way m L.length).reverse qs hgl.out H11.out.all
                  have hfnd : twB (madeP ⟨⟨#[]⟩, f, zDig⟩ f (Tr.way m L.length).reverse ps') (Tr.chainD alg f (Tr.way m L.length).reverse ps') (madeP ⟨⟨#[]⟩, g, zDig⟩ g (Tr.way m L.length).reverse qs) (Tr.chainD alg g (Tr.way m L.length).reverse qs) = true := hfound.out
                  generalize madeP ⟨⟨#[]⟩, f, zDig⟩ f (Tr.way m L.length).reverse ps' = M1 at kch1 hfnd hP1
                  generalize madeP ⟨⟨#[]⟩, g, zDig⟩ g (Tr.way m L.length).reverse qs = M2 at kch2 hfnd hP2
                  generalize Tr.chainD alg f (Tr.way m L.length).reverse ps' = X1 at kch1 hfnd
                  generalize Tr.chainD alg g (Tr.way m L.length).reverse qs = X2 at kch2 hfnd
                  clear hfound
                  replace hfnd := Lib.hid hfnd
                  replace kch1 := Lib.hid kch1
                  replace kch2 := Lib.hid kch2
                  replace hP1 := Lib.hid hP1
                  replace hP2 := Lib.hid hP2
                  have f0 := HQ.out.c0
                  have f66 := HQ.out.c66
                  go_wp2_with (guard_target = wpList _ _ _ (⟨some 143, _, _, _, _, _⟩ :: _) _ _; refine wpList_load_dig rfl (.tmp 13) rfl b13 rfl f hfl.out _ _ H13.out ?_)
                  clear f0 f66
                  refine (kch1.out we HD1.out HK.out).mono ?_
                  rintro e w21 ⟨u1, u2, rfl, hu1, hu2, hb_⟩
                  obtain ⟨B1, d1, rfl, hd1, G1⟩ := hu1.reads
                  obtain ⟨B2, d2, rfl, hd2, G2⟩ := hu2.reads
                  replace G1 := Lib.hid G1
                  replace G2 := Lib.hid G2
                  replace H11 := Lib.hid (CD.below H11.out hb_)
                  replace HC := Lib.hid (Kd.C_below HC.out hb_)
                  replace HK := Lib.hid (HK.out.below hb_)
                  replace HD := Lib.hid (CD.below HD.out hb_)
                  replace HQ := Lib.hid (AskAt.below HQ.out hb_)
                  replace HB := Lib.hid (HB.out.trans (Below.mono hb_ HB.out.size))
                  replace H6 := Lib.hid (DigAt.below H6.out hb_)
                  replace H8 := Lib.hid (DigAt.below H8.out hb_)
                  replace H10 := Lib.hid (CD.below H10.out hb_)
                  replace H13 := Lib.hid (DigAt.below H13.out hb_)
                  replace H14 := Lib.hid (DigAt.below H14.out hb_)
                  clear hb_ hu1 hu2 hd1 hd2
                  have f0 := HQ.out.c0
                  have f66 := HQ.out.c66
                  go_wp2_with (guard_target = wpList _ _ _ (⟨some 153, _, _, _, _, _⟩ :: _) _ _; refine wpList_load_dig rfl (.tmp 14) rfl b14 rfl g hgl.out _ _ H14.out ?_)
                  clear f0 f66
                  refine (kch2.out w21 H11.out HK.out).mono ?_
                  rintro e w22 ⟨u1, u2, rfl, hu1, hu2, hb_⟩
                  obtain ⟨B3, d3, rfl, hd3, G3⟩ := hu1.reads
                  obtain ⟨B4, d4, rfl, hd4, G4⟩ := hu2.reads
                  replace G3 := Lib.hid G3
                  replace G4 := Lib.hid G4
                  replace G1 := Lib.hid (G1.out.below hb_)
                  replace G2 := Lib.hid (G2.out.below hb_)
                  replace HC := Lib.hid (Kd.C_below HC.out hb_)
                  replace HK := Lib.hid (HK.out.below hb_)
                  replace HD := Lib.hid (CD.below HD.out hb_)
                  replace HQ := Lib.hid (AskAt.below HQ.out hb_)
                  replace HB := Lib.hid (HB.out.trans (Below.mono hb_ HB.out.size))
                  clear hb_ hu1 hu2 hd3 hd4
                  go_wp2_with fail
                  refine (twice_calls B1 B2 B3 B4 d1 d2 d3 d4 M1 X1 M2 X2 w22 G1.out G2.out G3.out G4.out hP1.out hP2.out).mono ?_
                  rintro e w23 ⟨rfl, hb_⟩
                  rw [hfnd.out]
                  replace HC := Lib.hid (Kd.C_below HC.out hb_)
                  replace HK := Lib.hid (HK.out.below hb_)
                  replace HD := Lib.hid (CD.below HD.out hb_)
                  replace HQ := Lib.hid (AskAt.below HQ.out hb_)
                  replace HB := Lib.hid (HB.out.trans (Below.mono hb_ HB.out.size))
                  clear hb_
                  go_wp2_with fail
                  refine (alive_calls w23 HK.out).mono ?_
                  rintro e w24 ⟨rfl, hb_⟩
                  try replace hb_ := Drawn0.below hb_
                  replace HC := Lib.hid (Kd.C_below HC.out hb_)
                  replace HK := Lib.hid (HK.out.below hb_)
                  replace HD := Lib.hid (CD.below HD.out hb_)
                  replace HQ := Lib.hid (AskAt.below HQ.out hb_)
                  replace HB := Lib.hid (HB.out.trans (Below.mono hb_ HB.out.size))
                  clear hb_
                  go_wp2_with fail
                  go_ret
                  exact ⟨rfl, HB.out⟩
      · rw [hw]
        go_wp2_with fail
        refine (alive_calls w3 HK.out).mono ?_
        rintro e wz ⟨rfl, hb_⟩
        have HBz := Lib.hid (HB.out.trans (Below.mono hb_ HB.out.size))
        clear hb_
        go_wp2_with fail
        go_ret
        exact ⟨rfl, HBz.out⟩
end Go.Proofs.YtldpnmebjnkjeaaDoor.TrW
namespace Go.Proofs.YtldpnmebjnkjeaaDoor.ShaCard
open Go.ChangeShapes Go.WideShapes Go.ChangeAt Go.RowKit Go.Proofs.YtldpnmebjnkjeaaDoorW.PrintWords Go.Proofs.YtldpnmebjnkjeaaDoor.Sha
set_option linter.unusedVariables false
theorem gTab : Tryd.prog.globalNamed "cashbook/hash.k" = some 0 := by kernel_rfl
theorem gTabType : (Tryd.prog.globals[0]?).map (·.type) = some 136 := by kernel_rfl
theorem undT : Tryd.prog.underlying 136 = some (.array 64 28) := by kernel_rfl
theorem undU : Tryd.prog.underlying 28 = some (.int .u32) := by kernel_rfl
theorem cellsT : Tryd.prog.cellsOf 136 = 64 := by kernel_rfl
theorem cellsU : Tryd.prog.cellsOf 28 = 1 := by kernel_rfl
theorem tab_of {P : Program} {W : World} {name : String} {k : IntKind} {zs : List Int} {g : Nat} {t e : TypeId} {n : Nat}
    (hg : P.globalNamed name = some g) (hty : (P.globals[g]?).map (·.type) = some t) (ht : P.underlying t = some (.array n e)) (he : P.underlying e = some (.int k)) (hce : P.cellsOf e = 1) (hct : P.cellsOf t = n)
    (h : Lib.VarReads P W name (Lib.tabData k zs)) : Lib.TabIs P W name k zs := by
  obtain ⟨g', t', cs, fuel, p, hg', ht', hvar, hd⟩ := h
  obtain rfl := Option.some.inj (hg.symm.trans hg')
  obtain rfl := Option.some.inj (hty.symm.trans ht')
  unfold Lib.TabIs
  rw [hvar, ← Lib.cells_of_tab ht he hce hct hd]
def ks : List Int := [1116352408, 1899447441, 3049323471, 3921009573, 961987163, 1508970993, 2453635748, 2870763221, 3624381080, 310598401, 607225278, 1426881987, 1925078388, 2162078206, 2614888103, 3248222580, 3835390401, 4022224774, 264347078, 604807628, 770255983, 1249150122, 1555081692, 1996064986, 2554220882, 2821834349, 2952996808, 3210313671, 3336571891, 3584528711, 113926993, 338241895, 666307205, 773529912, 1294757372, 1396182291, 1695183700, 1986661051, 2177026350, 2456956037, 2730485921, 2820302411, 3259730800, 3345764771, 3516065817, 3600352804, 4094571909, 275423344, 430227734, 506948616, 659060556, 883997877, 958139571, 1322822218, 1537002063, 1747873779, 1955562222, 2024104815, 2227730452, 2361852424, 2428436474, 2756734187, 3204031479, 3329325298]
theorem ks_eq : (ks.map fun z => Value.int .u32 z) = kT.map wv := by rfl
theorem kAt {W : World} (h0 : laidMetH Tryd.prog [("cashbook/hash.k", Rows.laid_cashbook_hash_k)] W) : KAt W := by
  have h : laidMet Tryd.prog [("cashbook/hash.k", Rows.laid_cashbook_hash_k)] W := h0
  have hb : Lib.TabIs Tryd.prog W "cashbook/hash.k" .u32 ks := tab_of gTab gTabType undT undU cellsU cellsT (Lib.laidMet.reads h (.head _))
  unfold Lib.TabIs World.var? at hb
  simp only [gTab, Option.bind_some] at hb
  rw [ks_eq] at hb
  unfold KAt
  cases hq : W.heap[0]? with
  | none => rw [hq] at hb; cases hb
  | some o =>
    rw [hq] at hb
    cases o with
    | cells cs t fr =>
      obtain rfl := Option.some.inj hb
      exact ⟨t, fr, rfl⟩
    | _ => cases hb
/-- A world for the witnesses: the settled one, the table holding what its initialiser lays. -/
noncomputable def laidWorld (os : Os) : World :=
  { World.holding Tryd.prog os ⟨#[], #[], []⟩ with heap := (World.holding Tryd.prog os ⟨#[], #[], []⟩).heap.modify 0 fun
      | .cells _ t frozen => .cells #[.int .u32 1116352408, .int .u32 1899447441, .int .u32 3049323471, .int .u32 3921009573, .int .u32 961987163, .int .u32 1508970993, .int .u32 2453635748, .int .u32 2870763221, .int .u32 3624381080, .int .u32 310598401, .int .u32 607225278, .int .u32 1426881987, .int .u32 1925078388, .int .u32 2162078206, .int .u32 2614888103, .int .u32 3248222580, .int .u32 3835390401, .int .u32 4022224774, .int .u32 264347078, .int .u32 604807628, .int .u32 770255983, .int .u32 1249150122, .int .u32 1555081692, .int .u32 1996064986, .int .u32 2554220882, .int .u32 2821834349, .int .u32 2952996808, .int .u32 3210313671, .int .u32 3336571891, .int .u32 3584528711, .int .u32 113926993, .int .u32 338241895, .int .u32 666307205, .int .u32 773529912, .int .u32 1294757372, .int .u32 1396182291, .int .u32 1695183700, .int .u32 1986661051, .int .u32 2177026350, .int .u32 2456956037, .int .u32 2730485921, .int .u32 2820302411, .int .u32 3259730800, .int .u32 3345764771, .int .u32 3516065817, .int .u32 3600352804, .int .u32 4094571909, .int .u32 275423344, .int .u32 430227734, .int .u32 506948616, .int .u32 659060556, .int .u32 883997877, .int .u32 958139571, .int .u32 1322822218, .int .u32 1537002063, .int .u32 1747873779, .int .u32 1955562222, .int .u32 2024104815, .int .u32 2227730452, .int .u32 2361852424, .int .u32 2428436474, .int .u32 2756734187, .int .u32 3204031479, .int .u32 3329325298] t frozen
      | o => o }
end Go.Proofs.YtldpnmebjnkjeaaDoor.ShaCard
