import Derived.Test.YtmefdlajjbcljaaSealsWalk
import Derived.RegionTactic
import Derived.BigRegion
namespace Go.Proofs.Ytmefdlajjbcljaa
open Go.RowKit Go.Proofs.Ytmefdlajjbcljaa.PS8 Go.Proofs.YtmefdlajjbcljaaW.PrintWords
set_option linter.unusedVariables false
set_option linter.unusedSimpArgs false

theorem tmod64 (x : Int) : -64 < x.tmod 64 ∧ x.tmod 64 < 64 :=
  ⟨by have := Int.lt_tmod_of_pos x (show (0 : Int) < 64 by omega); omega, Int.tmod_lt_of_pos x (show (0 : Int) < 64 by omega)⟩
set_option maxHeartbeats 2000000 in
set_option maxRecDepth 100000 in
theorem turns_calls (data : ByteArray) (at_ b : Int) (w : World) (hd : data.size ≤ 9223372036854775807) (hb0 : 0 ≤ b) (hb1 : b ≤ 255) :
    Calls Try.prog 7 #[.string data, .int .i64 at_, .int .u8 b] w (AllTrue w) := by
  have hal : (data.extract 0 (min (data.size : Int) 58).toNat).size ≤ 58 := by rw [ByteArray.size_extract]; omega
  obtain ⟨c, rfl⟩ : ∃ c : UInt8, b = (c.toNat : Int) := ⟨UInt8.ofNat b.toNat, by simp; omega⟩
  clear hb0 hb1
  obtain ⟨t1, t2⟩ := tmod64 at_
  obtain ⟨i, hi⟩ : ∃ i : Nat, (at_.tmod 64 + 64) % 64 = (i : Int) := ⟨((at_.tmod 64 + 64) % 64).toNat, by omega⟩
  have hi64 : i < 64 := by omega
  have hw : wrap64 (at_.tmod 64 + 64) = at_.tmod 64 + 64 := w64 (by omega) (by omega)
  have hi2 : (at_.tmod 64 + 64).tmod 64 = (i : Int) := by rw [Int.tmod_eq_emod_of_nonneg (by omega)]; exact hi
  have i0 : (0 : Int) ≤ (i : Int) := by omega
  have i1 : (i : Int) ≤ 64 := by omega
  have i2 : (i : Int) + 1 ≤ 64 := by omega
  have i3 : (0 : Int) ≤ (i : Int) + 1 := by omega
  clear t1 t2
  go_enter Try.func7, Try.ntmps7
  go_wp2_with fail
  generalize data.extract 0 (min (data.size : Int) 58).toNat = a at hal
  have HB := Lib.hid (Below.refl w.heap.size w)
  have hs64 : (sealB a).size = 64 := Sec.sealL_length _ (by rw [← Lib.size_eq]; exact hal)
  refine (seal_calls a _ hal).mono ?_
  rintro e w1 ⟨rfl, hb_⟩
  try replace hb_ := Drawn0.below hb_
  replace HB := Lib.hid (HB.out.trans (Below.mono hb_ HB.out.size))
  clear hb_
  generalize hS : sealB a = s at hs64
  replace hS := Lib.hid hS
  go_wp2_with fail
  have hcv : (convert 53 9 (.slice (some ⟨w1.heap.size, 0, none⟩) 1 1)).run Try.prog ((w1.alloc (.cells #[.int .u8 (c.toNat : Int)] 5)).drew) = .ok (.string ⟨#[c]⟩) ((w1.alloc (.cells #[.int .u8 (c.toNat : Int)] 5)).drew) :=
    Sec.bytes_string _ _ [c] 5 1 1 rfl (heap_alloc_new w1 _)
  go_region
  go_wp2_with fail
  have ht : (s.extract 0 i ++ ⟨#[c]⟩ ++ s.extract (i + 1) 64).data.toList = s.data.toList.set i c := by
    have hl : s.data.toList.length = 64 := by rw [← Lib.size_eq]; exact hs64
    rw [List.set_eq_take_append_cons_drop, if_pos (by omega), ByteArray.data_append, ByteArray.data_append, Array.toList_append, Array.toList_append, Lib.extract_data, Lib.extract_data]
    rw [List.drop_zero, Nat.sub_zero, List.append_assoc]
    congr 1
    show [c] ++ _ = _
    rw [List.singleton_append]
    congr 1
    exact List.take_of_length_le (by rw [List.length_drop]; omega)
  replace hcv := Lib.hid hcv
  replace HB : Hid (Below w.heap.size w (w1.alloc (.cells #[.int .u8 (c.toNat : Int)] 5)).drew) := Lib.hid ((HB.out.alloc HB.out.size _).drew)
  generalize (w1.alloc (.cells #[.int .u8 (c.toNat : Int)] 5)).drew = w2 at HB ⊢
  generalize s.extract 0 i ++ ⟨#[c]⟩ ++ s.extract (i + 1) 64 = t at ht ⊢
  replace ht := Lib.hid ht
  by_cases hts : t = s
  · have ho := open_seal a hal
    rw [hS.out] at ho
    have h1 := open_calls s w2
    rw [ho] at h1
    replace ho := Lib.hid ho
    replace h1 := Lib.hid h1
    subst hts
    refine (h1.out).mono ?_
    rintro e w2 ⟨rfl, hb_⟩
    try replace hb_ := Drawn0.below hb_
    replace HB := Lib.hid (HB.out.trans (Below.mono hb_ HB.out.size))
    clear hb_
    go_wp2_with fail
    refine (alive_calls _).mono ?_
    rintro e w3 ⟨rfl, hb_⟩
    try replace hb_ := Drawn0.below hb_
    replace HB := Lib.hid (HB.out.trans (Below.mono hb_ HB.out.size))
    clear hb_
    go_wp2_with fail
    go_ret
    exact ⟨rfl, HB.out⟩
  · have ho := open_turn a hal i hi64 c t (by rw [hS.out]; exact ht.out) (by rw [hS.out]; exact hts)
    have h1 := open_calls t w2
    rw [ho] at h1
    have hne := (Lib.bytes_beq_false_iff t s).2 hts
    replace ho := Lib.hid ho
    replace h1 := Lib.hid h1
    replace hts := Lib.hid hts
    refine (h1.out).mono ?_
    rintro e w4 ⟨rfl, hb_⟩
    try replace hb_ := Drawn0.below hb_
    replace HB := Lib.hid (HB.out.trans (Below.mono hb_ HB.out.size))
    clear hb_
    go_wp2_with fail
    refine (alive_calls _).mono ?_
    rintro e w5 ⟨rfl, hb_⟩
    try replace hb_ := Drawn0.below hb_
    replace HB := Lib.hid (HB.out.trans (Below.mono hb_ HB.out.size))
    clear hb_
    go_wp2_with fail
    go_ret
    exact ⟨rfl, HB.out⟩
end Go.Proofs.Ytmefdlajjbcljaa
