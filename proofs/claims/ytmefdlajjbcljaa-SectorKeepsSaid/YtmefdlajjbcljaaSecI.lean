import Derived.Test.YtmefdlajjbcljaaSecH
namespace Go.Proofs.Ytmefdlajjbcljaa
open Go.RowKit Go.Proofs.Ytmefdlajjbcljaa.PS8 Go.Proofs.YtmefdlajjbcljaaW.PrintWords
set_option linter.unusedVariables false
set_option linter.unusedSimpArgs false
namespace Sec
def B0 : ByteArray := sealB ⟨#[]⟩
def TA : ByteArray := sealB ⟨#[65]⟩
theorem a1 : newR 2 (-1) = (([B0, B0], [⟨#[]⟩, ⟨#[]⟩], -1), 0) := by rfl
theorem a2 : writeR [B0, B0] [⟨#[]⟩, ⟨#[]⟩] (-1) 1 ⟨#[65]⟩ = (([B0, B0], [⟨#[]⟩, TA], -1), 0) := by decide +kernel
theorem a3 : syncR [B0, B0] [⟨#[]⟩, TA] (-1) = (([B0, TA], [⟨#[]⟩, ⟨#[]⟩], -1), 0) := by decide +kernel
theorem a4 : crashR [B0, TA] [⟨#[]⟩, ⟨#[]⟩] (-1) [] = (([B0, TA], [⟨#[]⟩, ⟨#[]⟩], -1), 0) := by decide +kernel
theorem a5 : readR [B0, TA] [⟨#[]⟩, ⟨#[]⟩] (-1) 1 = (⟨#[65]⟩, 0) := by decide +kernel
end Sec
set_option maxHeartbeats 2000000 in
set_option maxRecDepth 100000 in
theorem alive_calls (w : World) : Calls Try.prog 16 #[] w fun e w' => e = .returned (.bool true) ∧ Below w.heap.size w w' := by
  go_enter Try.func16, Try.ntmps16
  go_wp2_with fail
  refine (new_m 2 (-1) w).mono ?_
  rw [Sec.a1]
  rintro e w1 ⟨A0, c0, A1, c1, rfl, ho, hb⟩
  have HV := Lib.hid (DVar.mk_new ho hb (-1))
  clear ho hb
  obtain ⟨b, hb⟩ : ∃ b, b = w1.heap.size := ⟨_, rfl⟩
  replace hb := Lib.hid hb
  rw [← hb.out] at HV
  generalize hW : w1.alloc (.cells #[.slice A0 2 c0, .slice A1 2 c1, .int .i64 (-1)] 30) = w2 at HV
  replace hW := Lib.hid hW
  go_wp2_with fail
  rw [hW.out, ← hb.out]
  refine (write_m HV.out.disk (-1) 1 ⟨#[65]⟩).mono ?_
  rw [Sec.a2]
  rintro e w_ ⟨A2, c2, B2, d2, rfl, ho, hb⟩
  have HVo := HV
  clear HV
  have HV := Lib.hid (HVo.out.step hb)
  have x0 := HV.out.box.c0
  have x1 := HV.out.box.c1
  have x2 := HV.out.box.c2
  have xf := HV.out.box.f
  have HVn := Lib.hid (HVo.out.put ho hb (-1))
  clear HV HVo ho hb
  have HV := HVn
  clear HVn
  go_wp2_with fail
  clear x0 x1 x2 xf
  generalize ((w_.setCell ⟨b, 0, none⟩ _).setCell ⟨b, 1, none⟩ _).setCell ⟨b, 2, none⟩ _ = w3 at HV ⊢
  clear w_
  refine (sync_m HV.out.disk (-1)).mono ?_
  rw [Sec.a3]
  rintro e w_ ⟨A3, c3, B3, d3, rfl, ho, hb⟩
  have HVo := HV
  clear HV
  have HV := Lib.hid (HVo.out.step hb)
  have x0 := HV.out.box.c0
  have x1 := HV.out.box.c1
  have x2 := HV.out.box.c2
  have xf := HV.out.box.f
  have HVn := Lib.hid (HVo.out.put ho hb (-1))
  clear HV HVo ho hb
  have HV := HVn
  clear HVn
  go_wp2_with fail
  clear x0 x1 x2 xf
  generalize ((w_.setCell ⟨b, 0, none⟩ _).setCell ⟨b, 1, none⟩ _).setCell ⟨b, 2, none⟩ _ = w4 at HV ⊢
  clear w_
  refine (crash_m (keep := []) (Ak := none) (ck := 0) HV.out.disk (-1) (Kd.C_nil _ _) (Nat.le_refl _)).mono ?_
  rw [Sec.a4]
  rintro e w_ ⟨A4, c4, B4, d4, rfl, ho, hb⟩
  have HVo := HV
  clear HV
  have HV := Lib.hid (HVo.out.step hb)
  have x0 := HV.out.box.c0
  have x1 := HV.out.box.c1
  have x2 := HV.out.box.c2
  have xf := HV.out.box.f
  have HVn := Lib.hid (HVo.out.put ho hb (-1))
  clear HV HVo ho hb
  have HV := HVn
  clear HVn
  go_wp2_with fail
  clear x0 x1 x2 xf
  generalize ((w_.setCell ⟨b, 0, none⟩ _).setCell ⟨b, 1, none⟩ _).setCell ⟨b, 2, none⟩ _ = w5 at HV ⊢
  clear w_
  refine (read_m HV.out.disk (-1) 1).mono ?_
  rw [Sec.a5]
  rintro e w6 ⟨rfl, hb_⟩
  have HB := Lib.hid (HV.out.step hb_).below
  clear HV hb_
  go_wp2_with fail
  go_ret
  exact ⟨rfl, HB.out⟩
end Go.Proofs.Ytmefdlajjbcljaa
