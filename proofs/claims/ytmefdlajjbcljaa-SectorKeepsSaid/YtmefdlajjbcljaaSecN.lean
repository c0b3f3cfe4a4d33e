import Derived.Test.YtmefdlajjbcljaaSecD
import Derived.Laws.CopyRow
import Derived.Laws.CopyOwn
import Derived.Deep.RegionLaw
import Derived.Outline
namespace Go.Proofs.Ytmefdlajjbcljaa
open Go.RowKit Go.Proofs.Ytmefdlajjbcljaa.PS8 Go.Proofs.YtmefdlajjbcljaaW.PrintWords
set_option linter.unusedVariables false
set_option linter.unusedSimpArgs false

theorem cell_lt {w : World} {b o : Nat} {v : Value} (h : w.cell? ⟨b, o, none⟩ = some v) : b < w.heap.size := by
  unfold World.cell? at h
  by_cases hl : b < w.heap.size
  · exact hl
  · simp [Array.getElem?_eq_none (show w.heap.size ≤ b by omega)] at h
theorem Sec.made_one (z : Value) (n : Nat) : madeCells #[z] n = (List.replicate n z).toArray := by
  apply Array.ext
  · rw [size_madeCells]; simp
  · intro i h1 h2
    simp [madeCells, Nat.mod_one]
theorem Sec.string_info : ∃ i, Try.prog.info? 9 = some i ∧ i.zero = some (.string ⟨#[]⟩) ∧ i.size = 1 ∧ i.bytes = 16 := by
  have h : (Try.prog.info? 9).map (fun i => (i.size, i.bytes)) = some (1, 16) := by kernel_rfl
  have h2 : (Try.prog.info? 9).bind (fun i => i.zero) = some (.string ⟨#[]⟩) := by kernel_rfl
  cases hq : Try.prog.info? 9 with
  | none => rw [hq] at h; cases h
  | some i =>
    rw [hq] at h h2
    have h3 := Option.some.inj h
    exact ⟨i, rfl, h2, congrArg Prod.fst h3, congrArg Prod.snd h3⟩
theorem Sec.make_strings (w : World) (n : Nat) (hn : n ≤ 1000000) : (Instr.makeSlice 28 (.int .i64 n) (.int .i64 n)).run Try.prog w = .ok (.slice (some ⟨w.heap.size, 0, none⟩) n n) (w.alloc (.cells (List.replicate n (Value.string ⟨#[]⟩)).toArray 9)) := by
  obtain ⟨i, hi, hz, h1, h16⟩ := Sec.string_info
  have := run_makeSlice (P := Try.prog) (w := w) 28 9 i _ (by kernel_rfl) hi hz .i64 .i64 (n : Int) (n : Int) (by omega) (Int.le_refl _) (by rw [h1]; omega) (by rw [h16]; omega) (by omega)
  rw [this, h1, Int.toNat_natCast, Nat.mul_one]
  show Result.ok _ (w.alloc (.cells (madeCells #[.string ⟨#[]⟩] n) _)) = _
  rw [Sec.made_one]
/-- So many are made. -/
def repRow (s : ByteArray) (c n : Nat) : List Value := List.replicate c (Value.string s) ++ List.replicate (n - c) (Value.string ⟨#[]⟩)
theorem repRow_len (s : ByteArray) (c n : Nat) (h : c ≤ n) : (repRow s c n).length = n := by unfold repRow; simp; omega
theorem repRow_more (s : ByteArray) (c m n : Nat) (h : c + m ≤ n) : (repRow s c n).take c ++ List.replicate m (Value.string s) ++ (repRow s c n).drop (c + m) = repRow s (c + m) n := by
  unfold repRow
  rw [List.take_left' (by simp), List.drop_append, List.length_replicate, List.drop_eq_nil_of_le (by simp), List.nil_append, List.drop_replicate, List.replicate_append_replicate, show c + m - c = m by omega, show n - c - m = n - (c + m) by omega]
theorem repRow_get (s : ByteArray) (c n j : Nat) (h : j < c) : (repRow s c n)[j]? = some (Value.string s) := by
  unfold repRow
  rw [List.getElem?_append_left (by simpa using h)]
  simp [h]
set_option maxHeartbeats 600000 in
set_option maxRecDepth 100000 in
theorem repeat_calls (b : Nat) (s : ByteArray) (n : Nat) (w : World) (hn : n ≤ 512) (hn0 : 0 < n) (hb : w.cell? ⟨b, 0, none⟩ = some (.string s)) (hmul : ∀ W : World, Calls Try.prog 76 #[.int .u64 1, .int .u64 n] W fun e w' => e = .returned (.tuple #[.int .u64 0, .int .u64 n]) ∧ w' = W) :
    Calls Try.prog 54 #[.slice (some ⟨b, 0, none⟩) 1 1, .int .i64 n] w fun e w' => ∃ g, e = .returned (.slice (some ⟨g, 0, none⟩) n n) ∧ w.heap.size ≤ g ∧ w'.heap[g]? = some (.cells (List.replicate n (Value.string s)).toArray 9 (0, 0)) ∧ Below w.heap.size w w' := by
  have HM := Lib.hid hmul
  clear hmul
  go_enter Try.func54, Try.ntmps54
  have hms := fun W => Sec.make_strings W n (by omega)
  go_wp2_with fail
  refine (HM.out _).mono ?_
  rintro e w' ⟨rfl, rfl⟩
  obtain ⟨g, hg⟩ : ∃ g, g = w'.heap.size := ⟨_, rfl⟩
  have hrow : (w'.alloc (.cells (List.replicate n (Value.string ⟨#[]⟩)).toArray 9)).heap[w'.heap.size]? = some (.cells (repRow s 0 n).toArray 9 (0, 0)) := heap_alloc_new w' _
  have hB : Below w'.heap.size w' (w'.alloc (.cells (List.replicate n (Value.string ⟨#[]⟩)).toArray 9)) := (Below.refl _ _).alloc (Nat.le_refl _) _
  have hbc : (w'.alloc (.cells (List.replicate n (Value.string ⟨#[]⟩)).toArray 9)).cell? ⟨b, 0, none⟩ = some (.string s) := by
    rw [hB.cell (p := ⟨b, 0, none⟩) (cell_lt hb)]; exact hb
  replace hrow := Lib.hid hrow
  replace hB := Lib.hid hB
  replace hbc := Lib.hid hbc
  go_wp2_with (refine wpList_copy_splice (o := ⟨some 33, _, _, _, _, _⟩) rfl (.tmp 31) (.tmp 32) 28 28 rfl 9 (by kernel_rfl) (by kernel_rfl) (some ⟨w'.heap.size, 0, none⟩) (some ⟨b, 0, none⟩) n n 1 1 (by rfl) (by rfl) w'.heap.size 0 (repRow s 0 n) 9 hrow.out [.string s] (by show 1 = min 1 n; omega) (fun _ => ⟨rfl, ⟨b, 0, none⟩, rfl, by intro j v hj; cases j with
          | zero => simp at hj; subst hj; exact hbc.out
          | succ j => simp at hj⟩) (by rw [repRow_len s 0 n (by omega)]; show 0 + 1 ≤ n; omega) (by simp [Value.oneCell']) w'.heap.size w' hB.out (Nat.le_refl _) ?_; intro W1 hrow1 hB1)
  have hs1 : splice (repRow s 0 n) 0 [.string s] = repRow s 1 n := by
    have e := repRow_more s 0 1 n (by omega)
    rw [← e]; unfold splice; rw [List.append_assoc]; rfl
  rw [hs1] at hrow1
  replace hB1 := Lib.hid hB1
  clear hs1 hms hrow hB hbc
  go_loopw [8] (fun i wr => ∃ c : Nat, 1 ≤ c ∧ c ≤ n ∧ i = .int .i64 c ∧ Hid (wr.heap[w'.heap.size]? = some (.cells (repRow s c n).toArray 9 (0, 0))) ∧ Hid (Below w'.heap.size w' wr)) (fun i _ => n - (intOf i).toNat)
  case atStart => exact ⟨1, by omega, by omega, rfl, hrow1, hB1⟩
  case round =>
    clear hrow1 hB1
    obtain ⟨c, c1, c2, rfl, hrow, hB⟩ := hrel
    by_cases hlt : c < n
    · obtain ⟨m, hm⟩ : ∃ m, m = min c (n - c) := ⟨_, rfl⟩
      have m1 : 1 ≤ m := by omega
      have m2 : c + m ≤ n := by omega
      have hs2 := Lib.hid (show splice (repRow s c n) c (List.replicate m (.string s)) = repRow s (c + m) n by have e := repRow_more s c m n m2; unfold splice; rw [List.length_replicate, ← List.append_assoc]; exact e)
      have hml := Lib.hid (show (List.replicate m (Value.string s)).length = Nat.min c (n - c) by rw [List.length_replicate, hm])
      have w1 : IntKind.i64.wrap ((c : Int) + m) = c + m := by rw [IntKind.wrap_i64]; omega
      clear hm
      have hne : n ≠ c := by omega
      have hsrc := Lib.hid (show ∀ j v, (List.replicate m (Value.string s))[j]? = some v → wr.drew.cell? ((⟨w'.heap.size, 0, none⟩ : Addr).add j) = some v by
        intro j v hj
        rw [List.getElem?_replicate] at hj
        by_cases hjm : j < m
        · rw [if_pos hjm] at hj
          have hadd : (⟨w'.heap.size, 0, none⟩ : Addr).add j = ⟨w'.heap.size, j, none⟩ := by unfold Addr.add; split <;> simp_all
          rw [hadd, cell_of_row wr.drew w'.heap.size j _ _ _ hrow.out, List.getElem?_toArray, repRow_get s c n j (by have := hml.out; rw [List.length_replicate] at this; have h2 : Nat.min c (n - c) ≤ c := Nat.min_le_left _ _; omega)]
          exact hj
        · rw [if_neg hjm] at hj; cases hj)
      go_wp2_with fail
      go_region_law (refine step_copy_splice rfl (.tmp 41) (.tmp 44) 28 28 rfl 9 (by kernel_rfl) (by kernel_rfl) (some ⟨w'.heap.size, c, none⟩) (some ⟨w'.heap.size, 0, none⟩) (n - c) (n - c) c n (by simp [Act.eval, Act.put]) (by simp [Act.eval, Act.put]) w'.heap.size c (repRow s c n) 9 hrow.out (List.replicate m (.string s)) hml.out (fun _ => ⟨rfl, ⟨w'.heap.size, 0, none⟩, rfl, hsrc.out⟩) (by rw [List.length_replicate, repRow_len s c n c2]; exact m2) (by intro v hv; rw [List.eq_of_mem_replicate hv]; rfl) w'.heap.size w' (by exact hB.out.drew) (Nat.le_refl _) ?_; intro w4 hg4 hb4)
      rw [hs2.out] at hg4
      replace hb4 := Lib.hid hb4
      go_wp2_with fail
      refine ⟨⟨.int .i64 ((c + m : Nat) : Int), _, _, _, _, _, _, _, _, _, _, _, _, _, ⟨c + m, by omega, m2, rfl, hg4, hb4⟩, rfl⟩, ?_⟩
      show n - ((c : Int) + m).toNat < n - (c : Int).toNat
      omega
    · obtain rfl : c = n := by omega
      go_wp2_with fail
      go_ret
      refine ⟨w'.heap.size, rfl, Nat.le_refl _, ?_, hB.out⟩
      have := hrow.out
      unfold repRow at this
      rw [Nat.sub_self] at this
      simpa using this
set_option maxHeartbeats 600000 in
set_option maxRecDepth 100000 in
theorem repeat_zero (b : Nat) (s : ByteArray) (w : World) (hmul : ∀ W : World, Calls Try.prog 76 #[.int .u64 1, .int .u64 0] W fun e w' => e = .returned (.tuple #[.int .u64 0, .int .u64 0]) ∧ w' = W) :
    Calls Try.prog 54 #[.slice (some ⟨b, 0, none⟩) 1 1, .int .i64 0] w fun e w' => ∃ g, e = .returned (.slice (some ⟨g, 0, none⟩) 0 0) ∧ w.heap.size ≤ g ∧ w'.heap[g]? = some (.cells (List.replicate 0 (Value.string s)).toArray 9 (0, 0)) ∧ Below w.heap.size w w' := by
  have HM := Lib.hid hmul
  clear hmul
  go_enter Try.func54, Try.ntmps54
  have hms : ∀ W : World, (Instr.makeSlice 28 (.int .i64 0) (.int .i64 0)).run Try.prog W = .ok (.slice (some ⟨W.heap.size, 0, none⟩) 0 0) (W.alloc (.cells #[] 9)) := fun W => Sec.make_strings W 0 (by omega)
  go_wp2_with fail
  refine (HM.out _).mono ?_
  rintro e w' ⟨rfl, rfl⟩
  have hrow := Lib.hid (heap_alloc_new w' (.cells #[] 9))
  have hB : Hid (Below w'.heap.size w' (w'.alloc (.cells #[] 9))) := Lib.hid ((Below.refl _ _).alloc (Nat.le_refl _) _)
  go_wp2_with (refine wpList_copy_splice (o := ⟨some 33, _, _, _, _, _⟩) rfl (.tmp 31) (.tmp 32) 28 28 rfl 9 (by kernel_rfl) (by kernel_rfl) (some ⟨w'.heap.size, 0, none⟩) (some ⟨b, 0, none⟩) 0 0 1 1 (by rfl) (by rfl) w'.heap.size 0 [] 9 hrow.out [] (by rfl) (fun h0 => by simp at h0) (by simp) (by simp) w'.heap.size w' hB.out (Nat.le_refl _) ?_; intro W1 hrow1 hB1)
  replace hrow1 := Lib.hid hrow1
  replace hB1 := Lib.hid hB1
  go_loopw [8] (fun i wr => i = .int .i64 0 ∧ wr = W1) (fun i _ => 0)
  case atStart => exact ⟨rfl, rfl⟩
  case round =>
    obtain ⟨rfl, rfl⟩ := hrel
    go_wp2_with fail
    go_ret
    exact ⟨w'.heap.size, rfl, Nat.le_refl _, hrow1.out, hB1.out⟩
end Go.Proofs.Ytmefdlajjbcljaa
