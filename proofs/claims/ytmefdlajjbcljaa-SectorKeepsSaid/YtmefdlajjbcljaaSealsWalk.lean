import Derived.Test.YtmefdlajjbcljaaSecI
import Derived.Test.YtmefdlajjbcljaaSecV
import Derived.Deep.QuietTactic
import Derived.BigQuiet
namespace Go.Proofs.Ytmefdlajjbcljaa
open Go.RowKit Go.Proofs.Ytmefdlajjbcljaa.PS8 Go.Proofs.YtmefdlajjbcljaaW.PrintWords
set_option linter.unusedVariables false
set_option linter.unusedSimpArgs false

def AllTrue (w : World) (e : Ending) (w' : World) : Prop := e = .returned (.bool true) ∧ Below w.heap.size w w'
theorem str_ne {a b : ByteArray} (h : a = b) : (a.toList != b.toList) = false := by rw [h]; simp
theorem str_eq {a b : ByteArray} (h : a = b) : (a.toList == b.toList) = true := by rw [h]; simp
theorem seal_all (s : ByteArray) (w : World) : Calls Try.prog 13 #[.string s] w fun e w' => e = .returned (.tuple #[.string (if s.size ≤ 58 then sealB s else ⟨#[]⟩), .int .i64 (if s.size ≤ 58 then 0 else 4)]) ∧ Below w.heap.size w w' := by
  by_cases h : s.size ≤ 58
  · rw [if_pos h, if_pos h]; exact seal_calls s w h
  · rw [if_neg h, if_neg h]
    refine (seal_long s w (by omega)).mono ?_
    rintro e w' ⟨he, rfl⟩
    exact ⟨he, Below.refl _ _⟩
set_option maxHeartbeats 2000000 in
set_option maxRecDepth 100000 in
theorem seals_calls (data raw : ByteArray) (w : World) (hd : data.size ≤ 9223372036854775807) (hr : raw.size ≤ 9223372036854775807) :
    Calls Try.prog 3 #[.string data, .string raw] w (AllTrue w) := by
  have hal : (data.extract 0 (min (data.size : Int) 70).toNat).size ≤ 70 := by rw [ByteArray.size_extract]; omega
  obtain ⟨K, hK⟩ := (ref_open_ev (raw.extract 0 (min (raw.size : Int) 80).toNat)).rounds
  replace hK := Lib.hid hK
  go_enter Try.func3, Try.ntmps3
  go_wp2_with fail
  go_quiet (fail)
  go_wp2_with fail
  generalize data.extract 0 (min (data.size : Int) 70).toNat = a at hal
  generalize raw.extract 0 (min (raw.size : Int) 80).toNat = b at hK
  have HB := Lib.hid (Below.refl w.heap.size w)
  replace HB := Lib.hid (pw_below_drewN HB.out nq)
  have HB0 := HB
  by_cases h58 : a.size ≤ 58
  · obtain ⟨K2, hK2⟩ := (ref_seal_ev a h58).rounds
    replace hK2 := Lib.hid hK2
    refine (seal_calls a _ h58).mono ?_
    rintro e w1 ⟨rfl, hb_⟩
    try replace hb_ := Drawn0.below hb_
    replace HB := Lib.hid (HB.out.trans (Below.mono hb_ HB.out.size))
    clear hb_
    go_wp2_with fail
    refine (open_calls b _).mono ?_
    rintro e w2 ⟨rfl, hb_⟩
    try replace hb_ := Drawn0.below hb_
    replace HB := Lib.hid (HB.out.trans (Below.mono hb_ HB.out.size))
    clear hb_
    go_wp2_with fail
    generalize hO : openB b = O at hK
    replace hO := Lib.hid hO
    have e1 := str_ne (rfl : O.1 = O.1)
    have e2 : (O.2 != O.2) = false := by simp
    refine (cashbookref08_Open.calls K b _ _ _ hK.out).mono ?_
    rintro e w3 ⟨rfl, hb_⟩
    try replace hb_ := Drawn0.below hb_
    replace HB := Lib.hid (HB.out.trans (Below.mono hb_ HB.out.size))
    clear hb_
    go_wp2_with fail
    refine (alive_calls _).mono ?_
    rintro e w4 ⟨rfl, hb_⟩
    try replace hb_ := Drawn0.below hb_
    replace HB := Lib.hid (HB.out.trans (Below.mono hb_ HB.out.size))
    clear hb_
    go_wp2_with fail
    have e3 := str_eq (rfl : sealB a = sealB a)
    refine (cashbookref08_Seal.calls K2 a _ _ hK2.out).mono ?_
    rintro e w5 ⟨rfl, hb_⟩
    try replace hb_ := Drawn0.below hb_
    replace HB := Lib.hid (HB.out.trans (Below.mono hb_ HB.out.size))
    clear hb_
    go_wp2_with fail
    go_ret
    exact ⟨rfl, HB.out⟩
  · have h59 : 58 < a.size := by omega
    refine (seal_long a _ h59).mono ?_
    rintro e w' ⟨rfl, rfl⟩
    go_wp2_with fail
    refine (open_calls b _).mono ?_
    rintro e w6 ⟨rfl, hb_⟩
    try replace hb_ := Drawn0.below hb_
    replace HB := Lib.hid (HB.out.trans (Below.mono hb_ HB.out.size))
    clear hb_
    go_wp2_with fail
    generalize hO : openB b = O at hK
    replace hO := Lib.hid hO
    have e1 := str_ne (rfl : O.1 = O.1)
    have e2 : (O.2 != O.2) = false := by simp
    refine (cashbookref08_Open.calls K b _ _ _ hK.out).mono ?_
    rintro e w7 ⟨rfl, hb_⟩
    try replace hb_ := Drawn0.below hb_
    replace HB := Lib.hid (HB.out.trans (Below.mono hb_ HB.out.size))
    clear hb_
    go_wp2_with fail
    refine (alive_calls _).mono ?_
    rintro e w8 ⟨rfl, hb_⟩
    try replace hb_ := Drawn0.below hb_
    replace HB := Lib.hid (HB.out.trans (Below.mono hb_ HB.out.size))
    clear hb_
    go_wp2_with fail
    go_ret
    exact ⟨rfl, HB.out⟩
end Go.Proofs.Ytmefdlajjbcljaa
