import Derived.Test.YtmefdlajjbcljaaSecH
import Derived.Lib.SlicesS
namespace Go.Proofs.Ytmefdlajjbcljaa
open Go.RowKit Go.Proofs.Ytmefdlajjbcljaa.PS8 Go.Proofs.YtmefdlajjbcljaaW.PrintWords
set_option linter.unusedVariables false
set_option linter.unusedSimpArgs false

/-- Bytes as a string. -/
def ofL (l : List UInt8) : ByteArray := ⟨l.toArray⟩
theorem ofL_app (a b : List UInt8) : ofL a ++ ofL b = ofL (a ++ b) := by
  apply ByteArray.ext
  unfold ofL
  rw [ByteArray.data_append]
  simp
theorem ofL_size (l : List UInt8) : (ofL l).size = l.length := rfl
theorem ofL_data (s : ByteArray) : ofL s.data.toList = s := rfl
theorem one_ofL (n : Int) (h0 : 0 ≤ n) (h1 : n < 256) : cashbookref08_one.f n = some (ofL [UInt8.ofNat n.toNat]) := by
  unfold cashbookref08_one.f strOfNums ofL
  rw [show n % 256 = n by omega]
  rfl
theorem w64 {i : Int} (h0 : -9223372036854775808 ≤ i) (h : i ≤ 9223372036854775807) : wrap64 i = i := Go.IntWalk.wrap64_in _ ⟨h0, h⟩
theorem ref_blank_l (n : Nat) (hn : n ≤ 1000) : ∀ m i, n - i = m → i ≤ n → Ev (fun k => cashbookref08_blank.l0 k n (ofL (List.replicate i 0)) i) (ofL (List.replicate n 0))
  | 0, i, hm, hi => by
    obtain rfl : i = n := by omega
    refine Ev.step (f := fun _ => some (ofL (List.replicate i 0))) (fun k => ?_) (Ev.now _)
    show (if (i : Int) < (i : Int) then _ else _) = _
    rw [if_neg (by omega)]
  | m + 1, i, hm, hi => by
    refine Ev.step (f := fun k => cashbookref08_blank.l0 k n (ofL (List.replicate (i + 1) 0)) ((i + 1 : Nat) : Int)) (fun k => ?_) (ref_blank_l n hn m (i + 1) (by omega) (by omega))
    show (if (i : Int) < (n : Int) then (if (ofL (List.replicate i 0)).size + 1 ≤ 9223372036854775807 then _ else _) else _) = _
    rw [if_pos (by omega), if_pos (by rw [ofL_size, List.length_replicate]; omega), w64 (by omega) (by omega)]
    have e : ofL (List.replicate i 0) ++ (⟨#[0]⟩ : ByteArray) = ofL (List.replicate (i + 1) 0) := by
      show ofL _ ++ ofL [0] = _
      rw [ofL_app, List.replicate_succ']
    rw [e]
    rfl
theorem ref_blank_ev (n : Nat) (hn : n ≤ 1000) : Ev (fun k => cashbookref08_blank.f k n) (ofL (List.replicate n 0)) := ref_blank_l n hn n 0 (by omega) (by omega)
theorem bt_get (l : List UInt8) (i : Nat) (h : i < l.length) : bt (ofL l) i = (l[i].toNat : Int) := by
  unfold bt
  simp only [Int.toNat_natCast]
  rw [dif_pos (by rw [ofL_size]; exact h)]
  rfl
theorem ref_sum_l (l : List UInt8) (hl : l.length ≤ 1000) : ∀ m i, l.length - i = m → i ≤ l.length → Ev (fun k => cashbookref08_sum.l0 k (ofL l) ((Sec.sumU (l.take i) : Nat) : Int) i) ((Sec.sumU l : Nat) : Int)
  | 0, i, hm, hi => by
    obtain rfl : i = l.length := by omega
    refine Ev.step (f := fun _ => some ((Sec.sumU l : Nat) : Int)) (fun k => ?_) (Ev.now _)
    show (if (l.length : Int) < ((ofL l).size : Int) then _ else _) = _
    rw [ofL_size, if_neg (by omega), List.take_length]
  | m + 1, i, hm, hi => by
    have hlt : i < l.length := by omega
    refine Ev.step (f := fun k => cashbookref08_sum.l0 k (ofL l) ((Sec.sumU (l.take (i + 1)) : Nat) : Int) ((i + 1 : Nat) : Int)) (fun k => ?_) (ref_sum_l l hl m (i + 1) (by omega) (by omega))
    show (if (i : Int) < ((ofL l).size : Int) then (if (0 : Int) ≤ i then _ else _) else _) = _
    rw [ofL_size, if_pos (by omega), if_pos (by omega), bt_get l i hlt]
    have h1 := Sec.sumU_lt (l.take i)
    have h2 := l[i].toNat_lt
    rw [w64 (i := ((i : Nat) : Int) + 1) (by omega) (by omega), w64 (i := 31 * ((Sec.sumU (l.take i) : Nat) : Int)) (by omega) (by omega), w64 (i := ((l[i].toNat : Nat) : Int)) (by omega) (by omega), w64 (by omega) (by omega), Int.tmod_eq_emod_of_nonneg (by omega)]
    have e : ((31 * ((Sec.sumU (l.take i) : Nat) : Int) + ((l[i].toNat : Nat) : Int)) % 4294967296) = ((Sec.sumU (l.take (i + 1)) : Nat) : Int) := by
      rw [List.take_succ_eq_append_getElem hlt]
      have : Sec.sumU (l.take i ++ [l[i]]) = (31 * Sec.sumU (l.take i) + l[i].toNat) % 4294967296 := by
        conv => lhs; unfold Sec.sumU
        rw [List.foldl_append]; rfl
      rw [this]; omega
    rw [e]
    rfl
theorem ref_sum_ev (l : List UInt8) (hl : l.length ≤ 1000) : Ev (fun k => cashbookref08_sum.f k (ofL l)) ((Sec.sumU l : Nat) : Int) := ref_sum_l l hl l.length 0 (by omega) (by omega)
theorem sealB_ofL (s : ByteArray) : sealB s = ofL (Sec.sealL s.data.toList) := rfl
theorem ref_seal_ev (s : ByteArray) (h : s.size ≤ 58) : Ev (fun k => cashbookref08_Seal.f k s) (sealB s) := by
  obtain ⟨l, rfl⟩ : ∃ l, s = ofL l := ⟨s.data.toList, rfl⟩
  rw [ofL_size] at h
  obtain ⟨K1, h1⟩ := ref_blank_ev (58 - l.length) (by omega)
  obtain ⟨K2, h2⟩ := ref_sum_ev (Sec.s60 l) (by rw [Sec.s60_length l h]; omega)
  have hb := Sec.sumU_lt (Sec.s60 l)
  refine ⟨max K1 K2, fun k hk => ?_⟩
  have g1 := h1 k (by omega)
  have g2 := h2 k (by omega)
  dsimp only at g1 g2
  show cashbookref08_Seal.f k (ofL l) = some (sealB (ofL l))
  have e60 : ofL (UInt8.ofNat l.length :: (l ++ List.replicate (58 - l.length) 0) ++ [165]) = ofL (Sec.s60 l) := rfl
  generalize hS : Sec.sumU (Sec.s60 l) = S at hb g2
  unfold cashbookref08_Seal.f
  rw [ofL_size, one_ofL _ (by omega) (by omega), Option.bind_some, ofL_size, if_pos (by simp; omega), w64 (by omega) (by omega), show ((58 : Int) - (l.length : Int)) = ((58 - l.length : Nat) : Int) by omega, g1, Option.bind_some]
  rw [Int.toNat_natCast, ofL_app, ofL_app, ofL_size, ofL_size, if_pos (by simp; omega), one_ofL 165 (by omega) (by omega), Option.bind_some, ofL_app, ofL_size, ofL_size, if_pos (by simp; omega)]
  have e1 : [UInt8.ofNat l.length] ++ l ++ List.replicate (58 - l.length) 0 ++ [UInt8.ofNat (165 : Int).toNat] = Sec.s60 l := by
    unfold Sec.s60; simp
  have hz := Sec.s60_length l h
  rw [e1, g2, Option.bind_some]
  have one : ∀ n : Nat, n < 256 → cashbookref08_one.f (n : Int) = some (ofL [UInt8.ofNat n]) := fun n hn => by rw [one_ofL _ (by omega) (by omega), Int.toNat_natCast]
  have d3 : wrap64 (Int.tdiv (S : Int) 16777216) = ((S / 16777216 : Nat) : Int) := by rw [Int.tdiv_eq_ediv_of_nonneg (by omega), w64 (by omega) (by omega)]; omega
  have d2 : Int.tmod (wrap64 (Int.tdiv (S : Int) 65536)) 256 = ((S / 65536 % 256 : Nat) : Int) := by rw [Int.tdiv_eq_ediv_of_nonneg (by omega), w64 (by omega) (by omega), Int.tmod_eq_emod_of_nonneg (by omega)]; omega
  have d1 : Int.tmod (wrap64 (Int.tdiv (S : Int) 256)) 256 = ((S / 256 % 256 : Nat) : Int) := by rw [Int.tdiv_eq_ediv_of_nonneg (by omega), w64 (by omega) (by omega), Int.tmod_eq_emod_of_nonneg (by omega)]; omega
  have d0 : Int.tmod (S : Int) 256 = ((S % 256 : Nat) : Int) := by rw [Int.tmod_eq_emod_of_nonneg (by omega)]; omega
  have sz : ∀ a b : List UInt8, a.length + b.length ≤ 1000 → (ofL a).size + (ofL b).size ≤ 9223372036854775807 := fun a b h => by rw [ofL_size, ofL_size]; omega
  rw [d3, one _ (by omega), Option.bind_some, if_pos (sz _ _ (by rw [hz]; simp)), d2, one _ (by omega), Option.bind_some, ofL_app, if_pos (sz _ _ (by rw [List.length_append, hz]; simp)), d1, one _ (by omega), Option.bind_some, ofL_app, if_pos (sz _ _ (by rw [List.length_append, List.length_append, hz]; simp)), d0, one _ (by omega), Option.bind_some, ofL_app, if_pos (sz _ _ (by rw [List.length_append, List.length_append, List.length_append, hz]; simp)), ofL_app]
  rw [sealB_ofL]
  congr 2
  show _ = Sec.sealL l
  unfold Sec.sealL
  rw [hS]
  simp only [List.append_assoc, List.cons_append, List.nil_append]
  congr 1
  have b : ∀ n : Nat, UInt8.ofNat (n % 256) = UInt8.ofNat n := fun n => by apply UInt8.toNat_inj.1; simp
  unfold Sec.bt
  rw [b, b, b]
  simp
theorem ref_open_ev (s : ByteArray) : Ev (fun k => cashbookref08_Open.f k s) (openB s) := by
  obtain ⟨l, rfl⟩ : ∃ l, s = ofL l := ⟨s.data.toList, rfl⟩
  unfold openB
  rcases Nat.lt_trichotomy l.length 64 with h | h | h
  · rw [if_pos (by rw [ofL_size]; exact h)]
    refine ⟨0, fun k _ => ?_⟩
    show cashbookref08_Open.f k (ofL l) = _
    unfold cashbookref08_Open.f
    rw [if_pos (by rw [ofL_size]; omega)]
  · rw [if_neg (by rw [ofL_size]; omega), if_neg (by rw [ofL_size]; omega)]
    have hb0 : bt (ofL l) 0 = ((l.headD 0).toNat : Int) := by
      have := bt_get l 0 (by omega)
      rw [show ((0 : Nat) : Int) = 0 from rfl] at this
      rw [this]
      cases l with
      | nil => simp at h
      | cons x r => rfl
    have hh : (ofL l).data.toList.headD 0 = l.headD 0 := rfl
    rw [hh]
    generalize hn : (l.headD 0).toNat = n at hb0
    have hn2 : n < 256 := by rw [← hn]; exact (l.headD 0).toNat_lt
    have hunf : ∀ k, cashbookref08_Open.f k (ofL l) = if (n : Int) > 58 then some ((⟨#[]⟩ : ByteArray), 5) else (cashbookref08_Seal.f k ((ofL l).extract 1 (1 + n))).bind fun t => if t.toList = (ofL l).toList then some ((ofL l).extract 1 (1 + n), 0) else some ((⟨#[]⟩ : ByteArray), 5) := by
      intro k
      unfold cashbookref08_Open.f
      rw [hb0, ofL_size, if_neg (by omega), if_neg (by omega), if_pos (by omega), w64 (i := (n : Int)) (by omega) (by omega), w64 (i := 1 + (n : Int)) (by omega) (by omega)]
      by_cases h5 : (n : Int) > 58
      · rw [if_pos h5, if_pos h5]
      · rw [if_neg h5, if_neg h5, if_pos (by omega), if_pos (by omega)]
        have e : ((1 : Int) + n).toNat = 1 + n := by omega
        rw [e]
    by_cases h5 : 58 < n
    · rw [if_pos h5]
      refine ⟨0, fun k _ => ?_⟩
      show cashbookref08_Open.f k (ofL l) = _
      rw [hunf, if_pos (by omega)]
    · rw [if_neg h5]
      have hsz : ((ofL l).extract 1 (1 + n)).size = n := by rw [ByteArray.size_extract, ofL_size]; omega
      obtain ⟨K, hK⟩ := ref_seal_ev ((ofL l).extract 1 (1 + n)) (by omega)
      refine ⟨K, fun k hk => ?_⟩
      have g := hK k hk
      dsimp only at g
      show cashbookref08_Open.f k (ofL l) = _
      rw [hunf, if_neg (by omega), g, Option.bind_some]
      have eq : ((sealB ((ofL l).extract 1 (1 + n))).toList = (ofL l).toList) ↔ (Sec.sealL ((ofL l).extract 1 (1 + n)).data.toList = (ofL l).data.toList) := by
        constructor
        · intro h0
          have h1 := (Lib.bytes_beq_iff _ _).1 (beq_iff_eq.2 h0)
          exact congrArg (fun x : ByteArray => x.data.toList) h1
        · intro h0
          have : sealB ((ofL l).extract 1 (1 + n)) = ofL l := by
            apply ByteArray.ext
            apply Array.ext'
            exact h0
          rw [this]
      by_cases h6 : Sec.sealL ((ofL l).extract 1 (1 + n)).data.toList = (ofL l).data.toList
      · rw [if_pos h6, if_pos (eq.2 h6)]
      · rw [if_neg h6, if_neg (fun h7 => h6 (eq.1 h7))]
  · rw [if_neg (by rw [ofL_size]; omega), if_pos (by rw [ofL_size]; exact h)]
    refine ⟨0, fun k _ => ?_⟩
    show cashbookref08_Open.f k (ofL l) = _
    unfold cashbookref08_Open.f
    rw [if_neg (by rw [ofL_size]; omega), if_pos (by rw [ofL_size]; omega)]
end Go.Proofs.Ytmefdlajjbcljaa
