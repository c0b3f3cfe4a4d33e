/- Maps of the program's own, as association lists: a block that is a map without deletions. Plain lemmas over any program. -/
import Derived.WalkKit
import Derived.Below
import Derived.KernelRfl
import GoSem.Instr.MapEntry
import GoSem.Instr.MakeMap
import Derived.Deep.Draws
namespace Go.Proofs.YtamfbfhkojnafaaDoor.Mp
open Go.RowKit Go.Instr

variable {κ ν : Type} [DecidableEq κ]

def get : List (κ × ν) → κ → Option ν
  | [], _ => none
  | (k, v) :: m, a => if a = k then some v else get m a
def set : List (κ × ν) → κ → ν → List (κ × ν)
  | [], a, x => [(a, x)]
  | (k, v) :: m, a, x => if a = k then (k, x) :: m else (k, v) :: set m a x
/-- where a key stands first. -/
def idx : List (κ × ν) → κ → Option Nat
  | [], _ => none
  | (k, _) :: m, a => if a = k then some 0 else (idx m a).map (· + 1)

theorem get_set (m : List (κ × ν)) (a b : κ) (x : ν) : get (set m a x) b = if b = a then some x else get m b := by
  induction m with
  | nil => simp [set, get]
  | cons p m ih =>
    obtain ⟨k, v⟩ := p
    unfold set
    by_cases h : a = k
    · rw [if_pos h]; subst h; unfold get; by_cases hb : b = a <;> simp [hb]
    · rw [if_neg h]; unfold get; rw [ih]
      by_cases hb : b = k
      · have : b ≠ a := by intro e; exact h (e ▸ hb)
        simp [hb]
        intro e; exact absurd (e ▸ rfl) (fun h2 : a = k => h h2)
      · simp [hb]
theorem length_set (m : List (κ × ν)) (a : κ) (x : ν) : (set m a x).length ≤ m.length + 1 := by
  induction m with
  | nil => simp [set]
  | cons p m ih => obtain ⟨k, v⟩ := p; unfold set; split <;> simp; omega
theorem get_idx (m : List (κ × ν)) (a : κ) : get m a = (idx m a).bind fun i => (m[i]?).map (·.2) := by
  induction m with
  | nil => rfl
  | cons p m ih =>
    obtain ⟨k, v⟩ := p
    unfold get idx
    by_cases h : a = k
    · simp [h]
    · simp only [if_neg h, ih]
      cases idx m a <;> simp
theorem idx_lt (m : List (κ × ν)) (a : κ) (i : Nat) (h : idx m a = some i) : ∃ v, m[i]? = some (a, v) := by
  induction m generalizing i with
  | nil => simp [idx] at h
  | cons p m ih =>
    obtain ⟨k, v⟩ := p
    unfold idx at h
    by_cases e : a = k
    · subst e; simp at h; subst h; exact ⟨v, rfl⟩
    · rw [if_neg e] at h
      cases hi : idx m a with
      | none => rw [hi] at h; simp at h
      | some j => rw [hi] at h; simp at h; subst h; obtain ⟨u, hu⟩ := ih j hi; exact ⟨u, by simpa using hu⟩
theorem set_idx (m : List (κ × ν)) (a : κ) (x : ν) : set m a x = match idx m a with | some i => m.modify i (fun _ => (a, x)) | none => m ++ [(a, x)] := by
  induction m with
  | nil => rfl
  | cons p m ih =>
    obtain ⟨k, v⟩ := p
    unfold set idx
    by_cases h : a = k
    · subst h; simp
    · rw [if_neg h, if_neg h, ih]
      cases idx m a <;> simp

/-- A key's type: the keys are told apart as the data are. -/
structure KeyOk (P : Program) (K : TypeId) (ke : κ → Value) : Prop where
  find : ∀ (a : κ) (es : List MapEntry) (m : List (κ × ν)) (ve : ν → Value) (w : World), es.map (fun e => (e.key, e.val)) = m.map (fun p => (ke p.1, ve p.2)) →
    (findKey K (ke a) es).run P w = .ok ((idx m a).bind fun i => (m[i]?).map fun p => (i, ve p.2)) w
  check : ∀ (e : Bool) (a : κ) (w : World), (checkKey e 10000 K (ke a)).run P w = .ok () w
  same : ∀ a : κ, sameBits 10000 (ke a) (ke a) = true

theorem find_now {P : Program} {K : TypeId} {ke : κ → Value} {d : TypeDesc} (hk : P.underlying K = some d) (hs : ∀ a b : κ, sameNow d (ke a) (ke b) = some (decide (a = b)))
    (a : κ) (es : List MapEntry) (m : List (κ × ν)) (ve : ν → Value) (w : World) (h : es.map (fun e => (e.key, e.val)) = m.map (fun p => (ke p.1, ve p.2))) :
    (findKey K (ke a) es).run P w = .ok ((idx m a).bind fun i => (m[i]?).map fun p => (i, ve p.2)) w := by
  have key : ∀ (m : List (κ × ν)) (es : List MapEntry) (j : Nat), es.map (fun e => (e.key, e.val)) = m.map (fun p => (ke p.1, ve p.2)) → findNow d (ke a) es j = some ((idx m a).bind fun i => (m[i]?).map fun p => (i + j, ve p.2)) := by
    intro m
    induction m with
    | nil => intro es j h; simp at h; subst h; rfl
    | cons p m ih =>
      intro es j h
      obtain ⟨k, v⟩ := p
      cases es with
      | nil => simp at h
      | cons e es =>
        simp only [List.map_cons, List.cons.injEq, Prod.mk.injEq] at h
        obtain ⟨⟨h1, h2⟩, h3⟩ := h
        unfold findNow idx
        rw [h1, hs]
        by_cases e : a = k
        · subst e; simp [h2]
        · simp only [e, decide_false, if_false]
          rw [ih es (j + 1) h3]
          cases idx m a with
          | none => rfl
          | some i => simp [Nat.add_assoc, Nat.add_comm 1 j]
  unfold findKey
  simp only [underlying, program, Sem.run_bind, Sem.run, Result.andThen_ok, hk]
  have h0 := key m es 0 h
  simp [hk, pure, Sem.run, h0]

theorem find_ask {P : Program} {K : TypeId} {ke : κ → Value} {d : TypeDesc} (hk : P.underlying K = some d) (hs : ∀ (a : κ) (e : MapEntry) (es : List MapEntry) (b : κ), e.key = ke b → findNow d (ke a) (e :: es) 0 = none)
    (he : ∀ (a b : κ) (w : World), (Op.equal K (ke a) (ke b)).run P w = .ok (decide (a = b)) w)
    (a : κ) (es : List MapEntry) (m : List (κ × ν)) (ve : ν → Value) (w : World) (h : es.map (fun e => (e.key, e.val)) = m.map (fun p => (ke p.1, ve p.2))) :
    (findKey K (ke a) es).run P w = .ok ((idx m a).bind fun i => (m[i]?).map fun p => (i, ve p.2)) w := by
  have key : ∀ (m : List (κ × ν)) (es : List MapEntry) (j : Nat), es.map (fun e => (e.key, e.val)) = m.map (fun p => (ke p.1, ve p.2)) → (findAsking K (ke a) es j).run P w = .ok ((idx m a).bind fun i => (m[i]?).map fun p => (i + j, ve p.2)) w := by
    intro m
    induction m with
    | nil => intro es j h; simp at h; subst h; rfl
    | cons p m ih =>
      intro es j h
      obtain ⟨k, v⟩ := p
      cases es with
      | nil => simp at h
      | cons e es =>
        simp only [List.map_cons, List.cons.injEq, Prod.mk.injEq] at h
        obtain ⟨⟨h1, h2⟩, h3⟩ := h
        unfold findAsking idx
        rw [h1]
        simp only [Sem.run_bind, he, Result.andThen_ok]
        by_cases e : a = k
        · subst e; simp [h2, pure, Sem.run]
        · simp only [e, decide_false, if_false]
          have := ih es (j + 1) h3
          simp only [Bool.false_eq_true, if_false]
          rw [this]
          cases idx m a with
          | none => rfl
          | some i => simp [Nat.add_assoc, Nat.add_comm 1 j]
  have h0 := key m es 0 h
  unfold findKey
  simp only [underlying, program, Sem.run_bind, Sem.run, Result.andThen_ok, hk]
  cases es with
  | nil =>
    cases m with
    | nil => simp [pure, Sem.run, findNow, idx]
    | cons p m => simp at h
  | cons e es =>
    cases m with
    | nil => simp at h
    | cons p m =>
      have h1 : e.key = ke p.1 := by
        simp only [List.map_cons, List.cons.injEq, Prod.mk.injEq] at h; exact h.1.1
      simp [pure, Sem.run, hs a e es p.1 h1, h0]

/-- BLOCK b IS THE MAP m. -/
def Is (w : World) (b : Nat) (ke : κ → Value) (ve : ν → Value) (m : List (κ × ν)) : Prop :=
  ∃ es, w.heap[b]? = some (.map es es.size) ∧ es.toList.map (fun e => (e.key, e.val)) = m.map (fun p => (ke p.1, ve p.2)) ∧ ∀ (i : Nat) (e : MapEntry), es[i]? = some e → e.born = i

variable {P : Program} {w w' : World} {b : Nat} {ke : κ → Value} {ve : ν → Value} {m : List (κ × ν)}

omit [DecidableEq κ] in
theorem Is.lt (h : Is w b ke ve m) : b < w.heap.size := by
  obtain ⟨es, h, _⟩ := h
  exact (Array.getElem?_eq_some_iff.1 h).1
omit [DecidableEq κ] in
theorem Is.made (w : World) (ke : κ → Value) (ve : ν → Value) : Is (w.alloc (.map #[] 0)) w.heap.size ke ve [] :=
  ⟨#[], heap_alloc_new w _, rfl, fun i e h => by simp at h⟩
omit [DecidableEq κ] in
theorem Is.of_block (h : Is w b ke ve m) (hb : w'.heap[b]? = w.heap[b]?) : Is w' b ke ve m := by
  obtain ⟨es, h, r⟩ := h
  exact ⟨es, hb.trans h, r⟩
omit [DecidableEq κ] in
theorem Is.below (h : Is w b ke ve m) (hb : Below w.heap.size w w') : Is w' b ke ve m := h.of_block (hb.block b h.lt)
omit [DecidableEq κ] in
theorem Is.alloc (h : Is w b ke ve m) (o : Obj) : Is (w.alloc o) b ke ve m := h.of_block (Below.heap_alloc w o b h.lt)
omit [DecidableEq κ] in
theorem Is.drewN (h : Is w b ke ve m) (n : Nat) : Is (w.drewN n) b ke ve m := h
omit [DecidableEq κ] in
theorem Is.setCell (h : Is w b ke ve m) (p : Addr) (hp : p.block ≠ b) (v : Value) : Is (w.setCell p v) b ke ve m := h.of_block (Below.heap_setCell w p v b (Ne.symm hp))

/-- m[k], and v, ok := m[k]. -/
theorem run_lookup {K E t : TypeId} {z : Value} (h : Is w b ke ve m) (kk : KeyOk (ν := ν) P K ke) (ht : P.underlying t = some (.map K E)) (hz : (zeroValue E).run P w = .ok z w) (a : κ) (ok : Bool) :
    (Instr.lookup t (.map (some b)) (ke a) ok).run P w = .ok (match get m a with | some x => if ok then .tuple #[ve x, .bool true] else ve x | none => if ok then .tuple #[z, .bool false] else z) w := by
  obtain ⟨es, hb, hm, _⟩ := h
  have hf := kk.find a es.toList m ve w hm
  have hg := get_idx m a
  unfold Instr.lookup
  simp only [underlying, program, Sem.run_bind, Sem.run, Result.andThen_ok, ht, pure, getObj, hb, kk.check, hf]
  cases hi : idx m a with
  | none =>
    rw [hi] at hg
    simp only [Option.bind_none] at hg
    rw [hg]
    simp [Sem.run, hz]
  | some i =>
    obtain ⟨u, hu⟩ := idx_lt m a i hi
    rw [hi] at hg
    simp only [Option.bind_some, hu, Option.map_some] at hg
    rw [hg]
    simp [Sem.run, hu]

/-- the world behind a store into the map. -/
def put (w : World) (b : Nat) (es : Array MapEntry) : World := { w with heap := w.heap.setIfInBounds b (.map es es.size) }
theorem put_block (w : World) (b : Nat) (es : Array MapEntry) (k : Nat) (hk : k ≠ b) : (put w b es).heap[k]? = w.heap[k]? := by
  simp only [put, Array.getElem?_setIfInBounds]; rw [if_neg (Ne.symm hk)]
theorem put_size (w : World) (b : Nat) (es : Array MapEntry) : (put w b es).heap.size = w.heap.size := by simp [put]
theorem put_below {B : Nat} {a : World} (h : Below B a w) (hb : B ≤ b) (es : Array MapEntry) : Below B a (put w b es) :=
  h.trans ⟨rfl, rfl, rfl, by rw [put_size]; exact Nat.le_refl _, fun k hk => put_block _ _ _ _ (by omega)⟩

theorem modify_toList (es : Array MapEntry) (i : Nat) (f : MapEntry → MapEntry) : (es.modify i f).toList = es.toList.modify i f := by
  apply List.ext_getElem?
  intro j
  rw [Array.getElem?_toList, Array.getElem?_modify, List.getElem?_modify, Array.getElem?_toList]
  cases es[j]? <;> simp
  split <;> rfl

theorem is_set {es : Array MapEntry} (hlt : b < w.heap.size) (hm : es.toList.map (fun e => (e.key, e.val)) = m.map (fun p => (ke p.1, ve p.2))) (hborn : ∀ (i : Nat) (e : MapEntry), es[i]? = some e → e.born = i) (a : κ) (x : ν) (i : Nat) (hi : idx m a = some i) :
    Is (put w b (es.modify i fun e => { e with key := ke a, val := ve x })) b ke ve (set m a x) := by
  refine ⟨es.modify i fun e => { e with key := ke a, val := ve x }, ?_, ?_, ?_⟩
  · simp [put, Array.getElem?_setIfInBounds, hlt]
  · rw [set_idx, hi, modify_toList]
    simp only
    apply List.ext_getElem?
    intro j
    have hj := congrArg (fun l => l[j]?) hm
    simp only [List.getElem?_map] at hj
    simp only [List.getElem?_map, List.getElem?_modify]
    by_cases e : i = j
    · subst e
      cases h1 : es.toList[i]? <;> cases h2 : m[i]? <;> simp [h1, h2] at hj ⊢
    · simp only [e, if_false, Option.map_map]
      cases h1 : es.toList[j]? <;> cases h2 : m[j]? <;> simp [h1, h2] at hj ⊢
      exact hj
  · intro j e h
    rw [Array.getElem?_modify] at h
    split at h
    · cases he : es[j]? with
      | none => rw [he] at h; simp at h
      | some e0 => rw [he] at h; simp at h; subst h; exact hborn j e0 he
    · exact hborn j e h
theorem is_push {es : Array MapEntry} (hlt : b < w.heap.size) (hm : es.toList.map (fun e => (e.key, e.val)) = m.map (fun p => (ke p.1, ve p.2))) (hborn : ∀ (i : Nat) (e : MapEntry), es[i]? = some e → e.born = i) (a : κ) (x : ν) (hi : idx m a = none) :
    Is (put w b (es.push { key := ke a, val := ve x, born := es.size })) b ke ve (set m a x) := by
  refine ⟨es.push { key := ke a, val := ve x, born := es.size }, ?_, ?_, ?_⟩
  · simp [put, Array.getElem?_setIfInBounds, hlt]
  · rw [set_idx, hi]
    simp [hm]
  · intro j e h
    rw [Array.getElem?_push] at h
    split at h
    · rename_i hj; cases h; exact hj.symm
    · exact hborn j e h

/-- m[k] = v. -/
theorem run_update {K E t : TypeId} (h : Is w b ke ve m) (kk : KeyOk (ν := ν) P K ke) (ht : P.underlying t = some (.map K E)) (a : κ) (x : ν) :
    ∃ es, (Instr.mapUpdate t (.map (some b)) (ke a) (ve x)).run P w = .ok () (put w b es) ∧ Is (put w b es) b ke ve (set m a x) := by
  have hlt := h.lt
  obtain ⟨es, hb, hm, hborn⟩ := h
  have hf := kk.find a es.toList m ve w hm
  cases hi : idx m a with
  | none =>
    refine ⟨_, ?_, is_push hlt hm hborn a x hi⟩
    unfold Instr.mapUpdate
    simp [underlying, program, Sem.run_bind, Sem.run, Result.andThen_ok, ht, pure, getObj, hb, kk.check, hf, hi, setObj, put]
  | some i =>
    obtain ⟨u, hu⟩ := idx_lt m a i hi
    refine ⟨_, ?_, is_set hlt hm hborn a x i hi⟩
    have hk : (es[i]?).map (·.key) = some (ke a) := by
      have hj := congrArg (fun l => l[i]?) hm
      simp only [List.getElem?_map, hu, Option.map_some, Array.getElem?_toList] at hj
      cases he : es[i]? with
      | none => rw [he] at hj; simp at hj
      | some e0 => rw [he] at hj; simp at hj; simp [hj.1]
    unfold Instr.mapUpdate
    simp [underlying, program, Sem.run_bind, Sem.run, Result.andThen_ok, ht, pure, getObj, hb, kk.check, hf, hi, setObj, put, hu, hk, keyThatStays, kk.same]

/-- m[k] op= v: the entry, and the store into it. z: the zero element as data. -/
theorem run_entry {K E t : TypeId} (h : Is w b ke ve m) (kk : KeyOk (ν := ν) P K ke) (ht : P.underlying t = some (.map K E)) (z : ν) (hz : (zeroValue E).run P w = .ok (ve z) w) (a : κ) (x : ν) :
    ∃ (es1 es2 : Array MapEntry) (n : Nat), (Instr.mapEntry t (.map (some b)) (ke a)).run P w = .ok (.tuple #[ve ((get m a).getD z), .int .i64 n]) (put w b es1) ∧ Is (put w b es1) b ke ve (set m a ((get m a).getD z)) ∧
      (Instr.entryStore t (.map (some b)) (.int .i64 n) (ve x)).run P (put w b es1) = .ok () (put w b es2) ∧ Is (put w b es2) b ke ve (set m a x) := by
  have hlt := h.lt
  obtain ⟨es, hb, hm, hborn⟩ := h
  have hf := kk.find a es.toList m ve w hm
  have hg := get_idx m a
  have hfind : ∀ (fs : Array MapEntry) (i : Nat), i < fs.size → (∀ (i : Nat) (e : MapEntry), fs[i]? = some e → e.born = i) → fs.findIdx? (fun e => (e.born : Int) == (i : Int)) = some i := by
    intro fs i hi hB
    rw [Array.findIdx?_eq_some_iff_getElem]
    refine ⟨hi, ?_, ?_⟩
    · have := hB i _ (Array.getElem?_eq_getElem hi); simp [this]
    · intro j hj
      have := hB j _ (Array.getElem?_eq_getElem (Nat.lt_trans hj hi)); simp [this]; omega
  cases hi : idx m a with
  | none =>
    rw [hi] at hg
    simp only [Option.bind_none] at hg
    refine ⟨es.push { key := ke a, val := ve z, born := es.size }, es.push { key := ke a, val := ve x, born := es.size }, es.size, ?_, ?_, ?_, ?_⟩
    · unfold Instr.mapEntry
      simp [underlying, program, Sem.run_bind, Sem.run, Result.andThen_ok, ht, pure, getObj, hb, kk.check, hf, hi, setObj, put, hz, hg, goInt]
    · rw [hg]; exact is_push hlt hm hborn a z hi
    · unfold Instr.entryStore
      have hb1 : (put w b (es.push { key := ke a, val := ve z, born := es.size })).heap[b]? = some (.map (es.push { key := ke a, val := ve z, born := es.size }) (es.size + 1)) := by
        simp [put, Array.getElem?_setIfInBounds, hlt]
      have hbn : ∀ (i : Nat) (e : MapEntry), (es.push { key := ke a, val := ve z, born := es.size })[i]? = some e → e.born = i := by
        intro j e h
        rw [Array.getElem?_push] at h
        split at h
        · rename_i hj; cases h; exact hj.symm
        · exact hborn j e h
      have hfi := hfind (es.push { key := ke a, val := ve z, born := es.size }) es.size (by simp) hbn
      have hmod : (es.push { key := ke a, val := ve z, born := es.size }).modify es.size (fun e => { e with val := ve x }) = es.push { key := ke a, val := ve x, born := es.size } := by
        apply Array.ext
        · simp
        · intro j h1 h2
          rw [Array.getElem_modify, Array.getElem_push, Array.getElem_push]
          simp at h1
          by_cases hj : j < es.size
          · simp [hj]; omega
          · have : es.size = j := by omega
            simp [this]
      simp only [Sem.run_bind, Sem.run, getObj, hb1, Result.andThen_ok, pure, asInt, asIntOf, hfi, setObj, hmod]
      simp [put]
    · exact is_push hlt hm hborn a x hi
  | some i =>
    obtain ⟨u, hu⟩ := idx_lt m a i hi
    rw [hi] at hg
    simp only [Option.bind_some, hu, Option.map_some] at hg
    have hj := congrArg (fun l => l[i]?) hm
    simp only [List.getElem?_map, hu, Option.map_some, Array.getElem?_toList] at hj
    obtain ⟨e0, he0⟩ : ∃ e0, es[i]? = some e0 := by
      cases he : es[i]? with
      | none => rw [he] at hj; simp at hj
      | some e0 => exact ⟨e0, rfl⟩
    rw [he0] at hj
    simp only [Option.map_some, Option.some.injEq, Prod.mk.injEq] at hj
    have hisz : i < es.size := (Array.getElem?_eq_some_iff.1 he0).1
    refine ⟨es.modify i fun e => { e with key := ke a }, es.modify i fun e => { e with key := ke a, val := ve x }, i, ?_, ?_, ?_, is_set hlt hm hborn a x i hi⟩
    · unfold Instr.mapEntry
      have hb0 := hborn i e0 he0
      simp [underlying, program, Sem.run_bind, Sem.run, Result.andThen_ok, ht, pure, getObj, hb, kk.check, hf, hi, hu, setObj, put, hg, he0, hj.1, goInt, keyThatStays, kk.same, hb0]
    · have hz2 := is_set (w := w) (b := b) hlt hm hborn a u i hi
      have hmod : (es.modify i fun e => { e with key := ke a, val := ve u }) = es.modify i fun e => { e with key := ke a } := by
        apply Array.ext
        · simp
        · intro j h1 h2
          rw [Array.getElem_modify, Array.getElem_modify]
          by_cases hji : i = j
          · subst hji
            have : es[i] = e0 := by
              have := Array.getElem?_eq_getElem hisz; rw [he0] at this; exact (Option.some.inj this).symm
            simp [this, hj.2]
          · simp [hji]
      rw [hmod] at hz2
      rw [hg]; exact hz2
    · unfold Instr.entryStore
      have hb1 : (put w b (es.modify i fun e => { e with key := ke a })).heap[b]? = some (.map (es.modify i fun e => { e with key := ke a }) es.size) := by
        simp [put, Array.getElem?_setIfInBounds, hlt]
      have hbn : ∀ (j : Nat) (e : MapEntry), (es.modify i fun e => { e with key := ke a })[j]? = some e → e.born = j := by
        intro j e h
        rw [Array.getElem?_modify] at h
        split at h
        · cases he : es[j]? with
          | none => rw [he] at h; simp at h
          | some e1 => rw [he] at h; simp at h; subst h; exact hborn j e1 he
        · exact hborn j e h
      have hfi := hfind (es.modify i fun e => { e with key := ke a }) i (by simp [hisz]) hbn
      have hmod : (es.modify i fun e => { e with key := ke a }).modify i (fun e => { e with val := ve x }) = es.modify i fun e => { e with key := ke a, val := ve x } := by
        apply Array.ext
        · simp
        · intro j h1 h2
          rw [Array.getElem_modify, Array.getElem_modify, Array.getElem_modify]
          by_cases hj : i = j <;> simp [hj]
      simp only [Sem.run_bind, Sem.run, getObj, hb1, Result.andThen_ok, pure, asInt, asIntOf, hfi, setObj, hmod]
      simp [put]
end Go.Proofs.YtamfbfhkojnafaaDoor.Mp
