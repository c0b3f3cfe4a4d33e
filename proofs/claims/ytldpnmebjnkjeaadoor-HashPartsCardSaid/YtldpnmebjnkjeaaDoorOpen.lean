/- Arguments of a row, whatever their type, opened to what their cells say (the words' kinds). Plain lemmas over any program. -/
import Derived.Test.YtldpnmebjnkjeaaDoorWWords
import Derived.Test.YtldpnmebjnkjeaaDoorWArr
import Derived.OpenShut
import Derived.ChangeArms
import Derived.ChangeSame
import Derived.ChangeSlices
namespace Go.Proofs.YtldpnmebjnkjeaaDoor.Op
open Go.RowKit Go.Proofs.YtldpnmebjnkjeaaDoorW.PrintWords Go.ChangeShapes
set_option linter.unusedVariables false
set_option linter.unusedSimpArgs false
set_option linter.unusedSectionVars false

def Opens {α : Type} (P : Program) (t : TypeId) (d : Kd α) (I : α → Prop) : Prop :=
  ∀ {H : Type} (enc : TypeId × Value → H) (w : World) (base : Nat) (spare : Nat → Bool) (held : Bool) (fuel : Nat) (cs : List Value) (x : DataW H × List MemPlace), DataW.trod enc P w base spare held fuel t cs = some x → ∃ a, d.K w a cs ∧ I a

variable {α β : Type} {P : Program} {t : TypeId}

theorem opens_int {k : IntKind} (ht : P.underlying t = some (.int k)) : Opens P t (Kd.int k) (fun x => (Lit.int k x).wf = true) := by
  intro H enc w base spare held fuel cs x h
  cases fuel with
  | zero => simp [DataW.trod] at h
  | succ n =>
    unfold DataW.trod at h
    rw [ht] at h
    split at h <;> simp_all
    rename_i k' n _
    obtain ⟨⟨rfl, hw⟩, _⟩ := h
    exact ⟨n, rfl, hw⟩
theorem opens_bool (ht : P.underlying t = some .bool) : Opens P t Kd.bool (fun _ => True) := by
  intro H enc w base spare held fuel cs x h
  cases fuel with
  | zero => simp [DataW.trod] at h
  | succ n =>
    unfold DataW.trod at h
    rw [ht] at h
    split at h <;> simp only [reduceCtorEq, Option.some.injEq] at *
    rename_i b _
    exact ⟨b, rfl, trivial⟩
theorem opens_string (ht : P.underlying t = some .string) : Opens P t Kd.string (fun s => s.size ≤ maxLen) := by
  intro H enc w base spare held fuel cs x h
  cases fuel with
  | zero => simp [DataW.trod] at h
  | succ n =>
    unfold DataW.trod at h
    rw [ht] at h
    split at h <;> simp_all
    exact ⟨_, rfl, h.1⟩
theorem cells_of {w : World} {base : Nat} {a : Addr} {n : Nat} {cs : List Value} (h : w.cells? base a n = some cs) : cs.length = n ∧ ∀ i u, cs[i]? = some u → w.cell? (a.add i) = some u := by
  obtain ⟨_, hl, hat⟩ := World.cells?_some h
  refine ⟨hl, fun i u hu => ?_⟩
  have hi : i < n := by
    have := (List.getElem?_eq_some_iff.1 hu).1; omega
  rw [hat i hi]; exact hu
theorem opens_slice {e : TypeId} {d : Kd α} {I : α → Prop} (ht : P.underlying t = some (.slice e)) (o : Opens P e d I) (hc : P.cellsOf e = d.sz) :
    Opens P t (Kd.slice e d) (fun l => l.length ≤ maxLen ∧ ∀ x ∈ l, I x) := by
  intro H enc w base spare held fuel cs x h
  rcases DataW.trod_slice ht h with ⟨rfl, _⟩ | ⟨a, len, cap, elems, rest, n, _, rfl, _, _, hl, hm, hlen, hel, hsp⟩
  · exact ⟨[], ⟨none, 0, rfl, Nat.le_refl _, rfl, Nat.zero_le _, fun h => absurd h (by simp)⟩, Nat.zero_le _, fun _ h => by cases h⟩
  · have hall : ∀ i, i < len → ∃ (y : α) (c : List Value), c.length = d.sz ∧ d.K w y c ∧ I y ∧ ∀ j u, c[j]? = some u → w.cell? (a.add (i * d.sz + j)) = some u := by
      intro i hi
      have h1 := hel i hi
      have h2 : elems[i]? = some (elems[i]'(by omega)) := List.getElem?_eq_getElem (by omega)
      rw [h2] at h1
      obtain ⟨c, hcs, htr⟩ := Option.bind_eq_some_iff.1 h1
      obtain ⟨y, hK, hI⟩ := o enc w base spare held n c _ htr
      rw [hc] at hcs
      obtain ⟨hcl, hat⟩ := cells_of hcs
      refine ⟨y, c, hcl, hK, hI, fun j u hu => ?_⟩
      have := hat j u hu
      rw [← this]
      congr 1
      unfold Addr.add
      by_cases h0 : i * d.sz = 0 <;> by_cases h1 : j = 0 <;> simp [h0, h1]
      all_goals try omega
      all_goals (intro h2; omega)
    have hex : ∃ l : List α, l.length = len ∧ ∀ i y, l[i]? = some y → ∃ c : List Value, c.length = d.sz ∧ d.K w y c ∧ I y ∧ ∀ j u, c[j]? = some u → w.cell? (a.add (i * d.sz + j)) = some u := by
      clear hel hlen h hl hm hsp
      induction len with
      | zero => exact ⟨[], rfl, fun i y h => by simp at h⟩
      | succ m ih =>
        obtain ⟨l, hl, hy⟩ := ih (fun i hi => hall i (by omega))
        obtain ⟨y, c, h1, h2, h3, h4⟩ := hall m (by omega)
        refine ⟨l ++ [y], by simp [hl], fun i z hz => ?_⟩
        by_cases hi : i < l.length
        · rw [List.getElem?_append_left hi] at hz; exact hy i z hz
        · have : i = m := by
            have := (List.getElem?_eq_some_iff.1 hz).1; simp at this; omega
          subst this
          rw [List.getElem?_append_right (by omega)] at hz
          simp [hl] at hz
          subst hz
          exact ⟨c, h1, h2, h3, h4⟩
    obtain ⟨l, hl', hy⟩ := hex
    subst hl'
    refine ⟨l, ⟨some a, cap, rfl, hl, rfl, ?_, fun _ => ⟨a, rfl, fun j p hp => ?_⟩⟩, ?_, fun x hx => ?_⟩
    · unfold maxLen at hm; omega
    · obtain ⟨c, h1, h2, _, h4⟩ := hy j p hp
      exact ⟨c, h1, h2, h4⟩
    · omega
    · obtain ⟨i, hi⟩ := List.mem_iff_getElem?.1 hx
      obtain ⟨c, _, _, h3, _⟩ := hy i x hi
      exact h3

/-- Fields one behind the other. -/
def OpensAt {α : Type} (P : Program) (fs : List Field) (off : Nat) (d : Kd α) (I : α → Prop) : Prop :=
  ∀ {H : Type} (enc : TypeId × Value → H) (w : World) (base : Nat) (spare : Nat → Bool) (held : Bool) (fuel : Nat) (cs : List Value), (∀ f ∈ fs, ∃ y, DataW.trod enc P w base spare held fuel f.type ((cs.drop f.offset).take (P.cellsOf f.type)) = some y) → ∃ a, d.K w a ((cs.drop off).take d.sz) ∧ I a
theorem opensAt_one {f : Field} {d : Kd α} {I : α → Prop} (o : Opens P f.type d I) (hc : P.cellsOf f.type = d.sz) : OpensAt P [f] f.offset d I := by
  intro H enc w base spare held fuel cs h
  obtain ⟨y, hy⟩ := h f (by simp)
  rw [hc] at hy
  exact o enc w base spare held fuel _ y hy
theorem opensAt_cons {f : Field} {fs : List Field} {d : Kd α} {d' : Kd β} {I : α → Prop} {I' : β → Prop} {off' : Nat} (o : Opens P f.type d I) (hc : P.cellsOf f.type = d.sz) (ho : off' = f.offset + d.sz) (o' : OpensAt P fs off' d' I') :
    OpensAt P (f :: fs) f.offset (Kd.pair d d') (fun x => I x.1 ∧ I' x.2) := by
  intro H enc w base spare held fuel cs h
  obtain ⟨a, ha, hI⟩ := opensAt_one o hc enc w base spare held fuel cs (fun g hg => h g (by simp at hg; simp [hg]))
  obtain ⟨b, hb, hI'⟩ := o' enc w base spare held fuel cs (fun g hg => h g (by simp [hg]))
  refine ⟨(a, b), ⟨_, _, ?_, ha, hb⟩, hI, hI'⟩
  show (cs.drop f.offset).take (d.sz + d'.sz) = _
  rw [ho, ← List.drop_drop, ← List.take_append_drop d.sz (List.take (d.sz + d'.sz) (List.drop f.offset cs)), List.take_take, List.drop_take]
  simp
theorem opens_struct {fs : Array Field} {d : Kd α} {I : α → Prop} (ht : P.underlying t = some (.struct fs)) (o : OpensAt P fs.toList 0 d I) (hc : P.cellsOf t = d.sz) (f : β → α) (g : α → β) (hfg : ∀ x, f (g x) = x) :
    Opens P t (Kd.iso d f) (fun x => I (f x)) := by
  intro H enc w base spare held fuel cs x h
  obtain ⟨xs, n, _, _, hlen, hxl, hf⟩ := DataW.trod_struct ht h
  obtain ⟨a, ha, hI⟩ := o enc w base spare held n cs (fun fl hfl => by
    obtain ⟨i, hi⟩ := List.mem_iff_getElem?.1 hfl
    have hi' : fs[i]? = some fl := by rw [← Array.getElem?_toList]; exact hi
    have h1 := hf i fl hi'
    have hlt : i < xs.length := by
      have := (Array.getElem?_eq_some_iff.1 hi').1; omega
    rw [List.getElem?_eq_getElem hlt] at h1
    exact ⟨_, h1⟩)
  rw [List.drop_zero, List.take_of_length_le (by omega)] at ha
  exact ⟨g a, by show d.K w (f (g a)) cs; rw [hfg]; exact ha, by show I (f (g a)); rw [hfg]; exact hI⟩
theorem opens_arr {e n : Nat} {d : Kd α} {I : α → Prop} (ht : P.underlying t = some (.array n e)) (o : Opens P e d I) (hc : P.cellsOf e = d.sz) (hct : P.cellsOf t = n * d.sz) (hs : 0 < d.sz) :
    Opens P t (Kd.arr n d hs) (fun l => ∀ x ∈ l, I x) := by
  intro H enc w base spare held fuel cs x h
  obtain ⟨xs, m, _, _, hlen, hxl, hf⟩ := DataW.trod_array ht h
  have hall : ∀ i, i < n → ∃ y, d.K w y ((cs.drop (i * d.sz)).take d.sz) ∧ I y := by
    intro i hi
    have h1 := hf i hi
    rw [List.getElem?_eq_getElem (by omega), hc] at h1
    exact o enc w base spare held m _ _ h1
  have hex : ∀ k, k ≤ n → ∃ l : List α, l.length = k ∧ ∀ (i : Nat) (y : α), l[i]? = some y → d.K w y ((cs.drop (i * d.sz)).take d.sz) ∧ I y := by
    intro k
    induction k with
    | zero => intro _; exact ⟨[], rfl, fun i y h => by simp at h⟩
    | succ k ih =>
      intro hk
      obtain ⟨l, hl, hy⟩ := ih (by omega)
      obtain ⟨y, h1, h2⟩ := hall k (by omega)
      refine ⟨l ++ [y], by simp [hl], fun i z hz => ?_⟩
      by_cases hi : i < l.length
      · rw [List.getElem?_append_left hi] at hz; exact hy i z hz
      · have : i = k := by
          have := (List.getElem?_eq_some_iff.1 hz).1; simp at this; omega
        subst this
        rw [List.getElem?_append_right (by omega)] at hz
        simp [hl] at hz
        subst hz
        exact ⟨h1, h2⟩
  obtain ⟨l, hl, hy⟩ := hex n (Nat.le_refl _)
  refine ⟨l, ⟨hl, by rw [hlen, hct, hl], fun j p hp => (hy j p hp).1⟩, fun x hx => ?_⟩
  obtain ⟨i, hi⟩ := List.mem_iff_getElem?.1 hx
  exact (hy i x hi).2
end Go.Proofs.YtldpnmebjnkjeaaDoor.Op
