/-
  Lemmas for the last text of this claim, merged out of several texts.
-/
import Derived.Test.YtldpnmebjnkjeaaDoorCkE
namespace Go.Proofs.YtldpnmebjnkjeaaDoor.Ref10
open Go.RowKit Go.Proofs.YtldpnmebjnkjeaaDoorW.PrintWords Go.Proofs.YtldpnmebjnkjeaaDoor.PH1 Go.Proofs.YtldpnmebjnkjeaaDoor Go.Proofs.YtldpnmebjnkjeaaDoorW.PrintLast Go.Proofs.YtldpnmebjnkjeaaDoorW.PrintMore
open Go.Proofs.YtldpnmebjnkjeaaDoor.Sha (V8 wv RowU takeP feedP feedP_lt feedP_ge)
set_option linter.unusedVariables false
set_option linter.unusedSimpArgs false

set_option maxHeartbeats 4000000 in
set_option maxRecDepth 100000 in
theorem rall_calls (ak : Addr) (c : Nat) (v : V8) (s : ByteArray) (hs : s.size ≤ 4294967296) (w : World) (hK : KC w ak) :
    Calls Tryd.prog 57 #[.slice (some ak) 64 c, .agg (wag v), .string s] w fun e w' => e = .returned (.tuple #[.agg (wag (feedP v s.data.toList).1), .string ⟨(feedP v s.data.toList).2.toArray⟩]) ∧ Below w.heap.size w w' := by
  have hr : feedP v s.data.toList = feedP v s.data.toList := rfl
  generalize hF : feedP v s.data.toList = F at hr
  clear hr
  replace hF : Shut _ := ⟨hF⟩
  have HK0 := Shut.mk hK
  clear hK
  go_enter Tryd.func57, Tryd.ntmps57
  go_wp2_with fail
  generalize hw1 : (w.alloc _).alloc _ = w1
  have HX : Hid (RowU 29 w.heap.size v.list w1) := by
    rw [← hw1]; refine Lib.hid ?_
    unfold RowU
    rw [Below.heap_alloc _ _ _ (by simp)]
    exact heap_alloc_last _ _
  have HR : Hid (RowU 29 (w.heap.size + 1) z8.list w1) := by
    rw [← hw1]; exact Lib.hid (Sha.heap_at1 _ _ _)
  have HB : Hid (Below w.heap.size w w1) := by
    rw [← hw1]; exact Lib.hid (((Below.refl _ _).alloc (Nat.le_refl _) _).alloc (by simp) _)
  have hs' := Lib.hid hs
  clear hw1 hs
  go_loopw [2] (fun x wx => ∃ (u : V8) (r : ByteArray), x = .string r ∧ Hid (r.size ≤ 4294967296) ∧ Shut (feedP u r.data.toList = F) ∧ Hid (RowU 29 w.heap.size u.list wx) ∧ Hid (RowU 29 (w.heap.size + 1) z8.list wx) ∧ Hid (Below w.heap.size w wx)) (fun x _ => match x with | .string r => r.size | _ => 0)
  case atStart => exact ⟨v, s, rfl, hs', hF, HX, HR, HB⟩
  case round =>
    clear HX HR HB hs' hF
    obtain ⟨u, r, rfl, hs, hF, HX, HR, HB⟩ := hrel
    by_cases h64 : 64 ≤ r.size
    · have h64' : (64 : Int) ≤ (r.size : Int) := by omega
      have hs2 : (r.size : Int) ≤ 9223372036854775807 := by have := hs.out; omega
      have hb64 : (r.extract 0 64).size = 64 := by rw [ByteArray.size_extract]; omega
      replace hb64 := Lib.hid hb64
      go_wp2_with fail
      refine wp_region_any (by kernel_rfl) ?_
      change wpAny _ _ _ _ _ _ _ wr.drew
      refine wpAny_take (i := 0) (v := ?_) rfl (by kernel_rfl) (by kernel_rfl) (by kernel_rfl) (fun _ _ _ h => h) (Or.inl ⟨by rfl, ?_⟩) ?_
      rotate_left
      · intro v; go_simp; first | done | with_reducible rfl
      rotate_left
      simp only [List.getElem_toArray, List.getElem_cons_succ, List.getElem_cons_zero, Act.put, List.setIfInBounds_toArray, List.set_cons_zero, List.set_cons_succ]
      refine wpAny_take (i := 2) (v := ?_) rfl (by kernel_rfl) (by kernel_rfl) (by kernel_rfl) (fun _ _ _ h => h) (Or.inl ⟨by rfl, ?_⟩) ?_
      rotate_left
      · intro v; go_simp; first | done | with_reducible rfl
      rotate_left
      simp only [List.getElem_toArray, List.getElem_cons_succ, List.getElem_cons_zero, Act.put, List.setIfInBounds_toArray, List.set_cons_zero, List.set_cons_succ]
      refine wpAny_take (i := 3) (v := ?_) rfl (by kernel_rfl) (by kernel_rfl) (by kernel_rfl) (fun _ _ _ h => h) (Or.inl ⟨by rfl, ?_⟩) ?_
      rotate_left
      · intro v; go_simp; first | done | with_reducible rfl
      rotate_left
      simp only [List.getElem_toArray, List.getElem_cons_succ, List.getElem_cons_zero, Act.put, List.setIfInBounds_toArray, List.set_cons_zero, List.set_cons_succ]
      refine wpAny_all (rs := [1]) (by kernel_rfl) (by simp) ?_
      intro i hi
      simp only [List.mem_cons, List.not_mem_nil, or_false] at hi
      subst hi
      refine wpOp_wp rfl (by rfl) ?_
      refine wp_load_w8 (.tmp 4) rfl w.heap.size 0 rfl u (RowU.range (w := wr.drew) HX.out) ?_
      try simp only [List.getElem_toArray, List.getElem_cons_succ, List.getElem_cons_zero, Act.put, List.setIfInBounds_toArray, List.set_cons_zero, List.set_cons_succ]
      refine wpAny_all (rs := [4]) (by kernel_rfl) (by simp) ?_
      intro i hi
      simp only [List.mem_cons, List.not_mem_nil, or_false] at hi
      subst hi
      refine wpOp_wp rfl (by rfl) ?_
      go_simp
      refine (rtake_calls ak c u (r.extract 0 64) hb64.out wr.drew (HK0.out.below HB.out.drew)).mono ?_
      rintro e w2 ⟨rfl, hb⟩
      have HX2 := Lib.hid (RowU.below (w := wr.drew) HX.out hb)
      have HR2 := Lib.hid (RowU.below (w := wr.drew) HR.out hb)
      have HB2 := Lib.hid (HB.out.drew.trans (Below.mono hb HB.out.size))
      clear hb HX HR HB
      try simp only [List.getElem_toArray, List.getElem_cons_succ, List.getElem_cons_zero, Act.put, List.setIfInBounds_toArray, List.set_cons_zero, List.set_cons_succ]
      refine wpAny_all (rs := [5]) (by kernel_rfl) (by simp) ?_
      intro i hi
      simp only [List.mem_cons, List.not_mem_nil, or_false] at hi
      subst hi
      refine wpOp_wp rfl (by rfl) ?_
      refine wp_store_w8 (.tmp 4) (.tmp 15) rfl w.heap.size rfl _ rfl _ _ HX2.out rfl ?_
      intro w3 h9 hk9 hB9 hs9
      try simp only [List.getElem_toArray, List.getElem_cons_succ, List.getElem_cons_zero, Act.put, List.setIfInBounds_toArray, List.set_cons_zero, List.set_cons_succ]
      refine wpAny_done (by kernel_rfl) ?_ _
      go_wp2_with fail
      go_roundw
      case rel =>
        have hl : r.size = r.data.toList.length := Lib.size_eq r
        refine ⟨_, _, rfl, Lib.hid (by have := hs.out; rw [ByteArray.size_extract]; omega), ⟨?_⟩, h9, Lib.hid ((hk9 _ (by omega)).trans HR2.out), Lib.hid (hB9 HB2.out (Nat.le_refl _))⟩
        rw [← hF.out, feedP_ge u r.data.toList (by omega), Lib.extract_data, Lib.extract_data, List.drop_zero, Nat.sub_zero]
        congr 2
        rw [List.take_of_length_le (by rw [List.length_drop]; omega)]
      case measure => simp; omega
    · have h64' : (r.size : Int) < 64 := by omega
      have hl : r.size = r.data.toList.length := Lib.size_eq r
      have hF2 : F = (u, r.data.toList) := by rw [← hF.out, feedP_lt u _ (by omega)]
      replace hl := Lib.hid hl
      go_wp2_with (first | (refine wpList_load_w8 (o := ⟨some 18, _, _, _, _, _⟩) rfl (.tmp 4) rfl w.heap.size 0 rfl u (RowU.range HX.out) ?_) | (refine wpList_store_w8 rfl (.tmp 6) (.tmp 18) rfl (w.heap.size + 1) rfl u rfl (wag z8) 29 HR.out rfl ?_; intro w9 h9 hk9 hB9 hs9))
      subst hF2
      refine bodyPost_ret (v := .tuple #[.agg (wag u), .string r]) ?_ rfl ⟨rfl, hB9 HB.out (by omega)⟩
      simp [results, Tryd.results57, asAddr, run_load_w8 (RowU.range h9.out), Act.put]
end Go.Proofs.YtldpnmebjnkjeaaDoor.Ref10
namespace Go.Proofs.YtldpnmebjnkjeaaDoor.Ref10
open Go.RowKit Go.Proofs.YtldpnmebjnkjeaaDoorW.PrintWords Go.Proofs.YtldpnmebjnkjeaaDoor.PH1 Go.Proofs.YtldpnmebjnkjeaaDoor Go.Proofs.YtldpnmebjnkjeaaDoorW.PrintLast Go.Proofs.YtldpnmebjnkjeaaDoorW.PrintMore
open Go.Proofs.YtldpnmebjnkjeaaDoor.Sha (V8 wv RowU tailL tailN bt8 tailN_next tailN_all tailN_len be8)
set_option linter.unusedVariables false
set_option linter.unusedSimpArgs false

theorem conv_one (b : UInt8) {W : World} {g : Nat} {ty : TypeId} {fr : Nat × Nat} (h : W.heap[g]? = some (.cells #[.int .u8 (b.toNat : Int)] ty fr)) : (convert 22 9 (.slice (some ⟨g, 0, none⟩) 1 1)).run Tryd.prog W = .ok (.string ⟨#[b]⟩) W := by
  refine Go.run_convert_bytes_back _ 22 9 5 ⟨_, 0, none⟩ 1 [b] (by kernel_rfl) (by kernel_rfl) (by kernel_rfl) ?_
  intro j hj
  obtain rfl : j = 0 := by simp at hj; omega
  show W.cell? ⟨g, 0, none⟩ = _
  rw [cell_of_row _ _ _ _ _ _ h]
  rfl
theorem conv_128 (W : World) (ty : TypeId) : (convert 22 9 (.slice (some ⟨W.heap.size, 0, none⟩) 1 1)).run Tryd.prog (W.alloc (.cells #[.int .u8 128] ty (0, 0))) = .ok (.string ⟨#[128]⟩) (W.alloc (.cells #[.int .u8 128] ty (0, 0))) := conv_one 128 (heap_alloc_last _ _)
theorem conv_128e (W : World) (ty : TypeId) : (convert 22 9 (.slice (some ⟨W.heap.size, 0, none⟩) 1 1)).run Tryd.prog (W.alloc (.cells #[.int .u8 128] ty (0, 0))).drew = .ok (.string ⟨#[128]⟩) (W.alloc (.cells #[.int .u8 128] ty (0, 0))).drew := conv_one 128 (W := (W.alloc (.cells #[.int .u8 128] ty (0, 0))).drew) (heap_alloc_last W _)
theorem conv_128d {W w3 : World} {ty : TypeId} (hb : Drawn0 (W.alloc (.cells #[.int .u8 128] ty (0, 0))).drew w3) : (convert 22 9 (.slice (some ⟨W.heap.size, 0, none⟩) 1 1)).run Tryd.prog w3 = .ok (.string ⟨#[128]⟩) w3 := conv_one 128 (blk_below (show (W.alloc (.cells #[.int .u8 128] ty (0, 0))).drew.heap[W.heap.size]? = _ from heap_alloc_last W _) hb.below)
set_option maxHeartbeats 4000000 in
set_option maxRecDepth 100000 in
theorem rtail_calls (n : Nat) (hn : n ≤ 1048576) (w : World) :
    Calls Tryd.prog 59 #[.int .i64 n] w fun e w' => e = .returned (.string ⟨(tailL n).toArray⟩) ∧ Below w.heap.size w w' := by
  have hbk := blank_run ((119 - n % 64) % 64) (by omega)
  have hbl := fun W => cashbookref10_blank.calls 2000 _ _ W hbk
  have hzs := zs_size ((119 - n % 64) % 64)
  generalize hZ : zs ((119 - n % 64) % 64) = Z at hbl hzs
  have hz1 : Z.size ≤ 64 := by omega
  have hlt : (9223372036854775807 < 1 + Z.size) = False := eq_false (by omega)
  generalize hm : (119 - n % 64) % 64 = m at hbl
  obtain ⟨q, hq⟩ : ∃ q, q = n % 64 := ⟨_, rfl⟩
  obtain ⟨r, hr⟩ : ∃ r, r = 119 - q := ⟨_, rfl⟩
  have e1 : (n : Int).tmod 64 = (q : Int) := by rw [Int.tmod_eq_emod_of_nonneg (by omega)]; omega
  have e1' : (n : Int) % 64 = (q : Int) := by omega
  have e3 : IntKind.i64.wrap (119 - (q : Int)) = (r : Int) := by
    rw [Go.IntWalk.i64_in _ (by omega)]; omega
  have e2 : (r : Int).tmod 64 = (m : Int) := by rw [Int.tmod_eq_emod_of_nonneg (by omega)]; omega
  have e2' : (r : Int) % 64 = (m : Int) := by omega
  replace hq := Lib.hid hq
  replace hr := Lib.hid hr
  replace hm := Lib.hid hm
  replace hZ := Lib.hid hZ
  replace hzs := Lib.hid hzs
  have hb1 := hbl w.drew
  have hb2 := hbl (w.alloc (.cells #[.int .u8 128] 5)).drew
  replace hb1 := Lib.hid hb1
  replace hb2 := Lib.hid hb2
  clear hbk hbl
  go_enter Tryd.func59, Tryd.ntmps59
  have hce := conv_128e w 5
  go_wp2_with fail
  go_cut [3] from 6 to 13 (fun p wx => p = .string (⟨#[128]⟩ ++ Z) ∧ Hid (Below w.heap.size w wx))
  case first =>
    go_region_law (first | (go_simp; go_at_call 89; (with_reducible refine hb1.out.mono ?_); rintro e w3 ⟨rfl, hb⟩; have hcd := conv_128 w3 5; have hB3 := Lib.hid hb.below; clear hb) | (go_simp; go_at_call 89; (with_reducible refine hb2.out.mono ?_); rintro e w3 ⟨rfl, hb⟩; have hcd := conv_128d hb; have hB3 := Lib.hid hb.below; clear hb))
    all_goals
      clear hce
      try clear hcd
      go_wp2_with fail
      go_meet
      refine ⟨rfl, Lib.hid ?_⟩
      first
        | exact (((Below.refl _ _).alloc (Nat.le_refl _) _).drew).trans (hB3.out.mono (by simp))
        | exact ((Below.refl _ _).drew.trans hB3.out).alloc hB3.out.size _
  case rest =>
    obtain ⟨rfl, HB⟩ := hcut
    clear hce hlt e1 e1' e3 e2 e2' hb1 hb2
    rename_i wc
    have hs1 : (⟨#[128]⟩ ++ Z : ByteArray).data = (tailN n 0).toArray := by
      rw [ByteArray.data_append, ← hZ.out]
      apply Array.ext'
      rw [Array.toList_append]
      show [128] ++ List.replicate ((119 - n % 64) % 64) 0 = 128 :: List.replicate ((119 - n % 64) % 64) 0 ++ List.take 0 _
      rw [List.take_zero, List.append_nil]
      rfl
    generalize (⟨#[128]⟩ ++ Z : ByteArray) = s0 at hs1 ⊢
    replace hs1 := Lib.hid hs1
    clear hZ hzs hm hq hr hz1
    go_wp2_with fail
    go_loopw [3, 5] (fun x i wx => ∃ (j : Nat) (t : ByteArray), j ≤ 8 ∧ x = .string t ∧ i = .int .i64 j ∧ Hid (t.data = (tailN n j).toArray) ∧ t.size ≤ 100 ∧ Hid (Below w.heap.size w wx)) (fun _ i _ => 8 - (intOf i).toNat)
    case atStart =>
      refine ⟨0, _, by omega, rfl, rfl, hs1, ?_, HB⟩
      show s0.data.size ≤ 100
      rw [hs1.out]
      show (tailN n 0).length ≤ 100
      rw [tailN_len n 0 (by omega)]; omega
    case round =>
      clear HB hs1
      obtain ⟨j, t, hj, rfl, rfl, HT, hts, HB⟩ := hrel
      by_cases h8 : j < 8
      · have k8 : (j : Int) < 8 := by omega
        have hbe := Sha.bt8_eq n j
        have hnx := tailN_next n j h8
        generalize bt8 n j = b at hbe hnx
        have hbe2 : (8 * (n : Int) / 2 ^ (56 - 8 * j)).tmod 256 % 256 = (b.toNat : Int) := by
          rw [Int.tmod_eq_emod_of_nonneg (Int.ediv_nonneg (by omega) (Int.le_of_lt (Int.pow_pos (by decide)))), Int.emod_emod_of_dvd _ (by decide : (256 : Int) ∣ 256), Int.mul_comm]
          exact hbe
        clear hbe
        have htl : (tailN n (j + 1)).length ≤ 100 := by rw [tailN_len n (j + 1) (by omega)]; omega
        replace hnx := Lib.hid hnx
        replace htl := Lib.hid htl
        have hce : (convert 22 9 (.slice (some ⟨wr.heap.size, 0, none⟩) 1 1)).run Tryd.prog (wr.alloc (.cells #[.int .u8 ((8 * (n : Int) / 2 ^ (56 - 8 * j)).tmod 256 % 256)] 5)) = .ok (.string ⟨#[b]⟩) (wr.alloc (.cells #[.int .u8 ((8 * (n : Int) / 2 ^ (56 - 8 * j)).tmod 256 % 256)] 5)) := by
          rw [hbe2]
          exact conv_one b (heap_alloc_last _ _)
        have z1 := one_size b
        have HA : Hid (t ++ ⟨#[b]⟩ = (⟨t.data ++ #[b]⟩ : ByteArray)) := Lib.hid (by
          apply ByteArray.ext; rw [ByteArray.data_append])
        replace hbe2 := Lib.hid hbe2
        go_wp2_with fail
        have hnew : (t ++ ⟨#[b]⟩ : ByteArray).data = (tailN n (j + 1)).toArray := by
          rw [HA.out, ← hnx.out]
          show t.data ++ #[b] = _
          rw [HT.out]
          apply Array.ext'
          rw [Array.toList_append]
        refine ⟨⟨j + 1, _, by omega, rfl, by push_cast; rfl, Lib.hid hnew, ?_, Lib.hid (HB.out.alloc HB.out.size _)⟩, by simp [intOf]; omega⟩
        show (t ++ ⟨#[b]⟩ : ByteArray).data.size ≤ 100
        rw [hnew]
        exact htl.out
      · obtain rfl : j = 8 := by omega
        rw [tailN_all] at HT
        go_wp2_with fail
        go_ret
        refine ⟨?_, HB.out⟩
        have e : t = ⟨(tailL n).toArray⟩ := ByteArray.ext HT.out
        rw [← e]
        rfl
end Go.Proofs.YtldpnmebjnkjeaaDoor.Ref10
namespace Go.Proofs.YtldpnmebjnkjeaaDoor.Ref10
open Go.RowKit Go.Proofs.YtldpnmebjnkjeaaDoorW.PrintWords Go.Proofs.YtldpnmebjnkjeaaDoor.PH1 Go.Proofs.YtldpnmebjnkjeaaDoor Go.Proofs.YtldpnmebjnkjeaaDoorW.PrintLast Go.Proofs.YtldpnmebjnkjeaaDoorW.PrintMore
open Go.Proofs.YtldpnmebjnkjeaaDoor.Sha (V8 wv RowU rotr digL dig dN dN_len dN_next dN_all dN_cells dig_eq set_row digL_len dN_zero z32_len)
set_option linter.unusedVariables false
set_option linter.unusedSimpArgs false

set_option maxHeartbeats 4000000 in
set_option maxRecDepth 100000 in
theorem rdigest_calls (v : V8) (w : World) :
    Calls Tryd.prog 60 #[.agg (wag v)] w fun e w' => e = .returned (.agg (Lib.byteCells (digL v)).toArray) ∧ Below w.heap.size w w' := by
  go_enter Tryd.func60, Tryd.ntmps60
  have hb3 : (((w.alloc (.cells (wag v) 29)).alloc (.cells (Lib.byteCells (List.replicate 32 0)).toArray 24)).alloc (.cells (Lib.byteCells (List.replicate 32 0)).toArray 24)).heap[w.heap.size + 2]? = some (.cells (Lib.byteCells (List.replicate 32 0)).toArray 24 (0, 0)) := by
    have h := heap_alloc_last ((w.alloc (.cells (wag v) 29)).alloc (.cells (Lib.byteCells (List.replicate 32 0)).toArray 24)) (.cells (Lib.byteCells (List.replicate 32 0)).toArray 24)
    rwa [show ((w.alloc (.cells (wag v) 29)).alloc (.cells (Lib.byteCells (List.replicate 32 0)).toArray 24)).heap.size = w.heap.size + 2 by simp] at h
  go_wp2_with (refine wpList_store_dig rfl (.tmp 3) (.tmp 5) rfl (w.heap.size + 2) rfl (List.replicate 32 0) z32_len rfl (Lib.byteCells (List.replicate 32 0)).toArray 24 hb3 (by rw [List.size_toArray, Lib.byteCells, List.length_map, z32_len]) ?_; intro w1 h9 hk9 hB9)
  have HX : Hid (RowU 29 w.heap.size v.list w1) := by
    refine Lib.hid ?_
    unfold RowU
    rw [hk9 _ (by omega), Below.heap_alloc _ _ _ (by simp; omega), Below.heap_alloc _ _ _ (by simp)]
    exact heap_alloc_last _ _
  have HZ : Hid (w1.heap[w.heap.size + 1]? = some (.cells (Lib.byteCells (List.replicate 32 0)).toArray 24 (0, 0))) := by
    refine Lib.hid ?_
    rw [hk9 _ (by omega), Below.heap_alloc _ _ _ (by simp)]
    exact Sha.heap_at1 _ _ _
  have HD : Hid (w1.heap[w.heap.size + 2]? = some (.cells (Lib.byteCells (dN v 0)).toArray 24 (0, 0))) := by
    rw [dN_zero]; exact h9
  have HB : Hid (Below w.heap.size w w1) := Lib.hid (hB9 ((((Below.refl _ _).alloc (Nat.le_refl _) _).alloc (by simp) _).alloc (by simp; omega) _) (by omega))
  clear hb3 h9 hk9 hB9
  go_loopw [6] (fun i wx => ∃ j : Nat, j ≤ 32 ∧ i = .int .i64 j ∧ Hid (wx.heap[w.heap.size + 2]? = some (.cells (Lib.byteCells (dN v j)).toArray 24 (0, 0))) ∧ Hid (RowU 29 w.heap.size v.list wx) ∧ Hid (wx.heap[w.heap.size + 1]? = some (.cells (Lib.byteCells (List.replicate 32 0)).toArray 24 (0, 0))) ∧ Hid (Below w.heap.size w wx)) (fun i _ => 32 - (intOf i).toNat)
  case atStart => exact ⟨0, by omega, rfl, HD, HX, HZ, HB⟩
  case round =>
    clear HD HX HZ HB
    obtain ⟨j, hj, rfl, HD, HX, HZ, HB⟩ := hrel
    by_cases h32 : j < 32
    · have k32 : (j : Int) < 32 := by omega
      have q0 : (j : Int) / 4 < 8 := by omega
      have c0 := HX.out.cell (j / 4) (by show j / 4 < 8; omega)
      have f0 : ∀ i, wr.frozen? ⟨w.heap.size + 2, i, none⟩ = false := fun i => frozen_of_row wr (w.heap.size + 2) i _ _ HD.out
      have hjl : j < (Lib.byteCells (dN v j)).length := by rw [Lib.byteCells, List.length_map, dN_len v j (by omega)]; exact h32
      obtain ⟨y, hy⟩ : ∃ y, wr.cell? ⟨w.heap.size + 2, j, none⟩ = some y := ⟨_, by rw [cell_of_row _ _ _ _ _ _ HD.out, List.getElem?_toArray, List.getElem?_eq_getElem hjl]⟩
      have hdg := dig_eq v j
      replace hdg := Lib.hid hdg
      replace hjl := Lib.hid hjl
      generalize hgu : v.list.getD (j / 4) 0 = uj at c0
      replace hgu := Lib.hid hgu
      go_wp2_with fail
      rw [← hgu.out]
      have e2 : (((v.list.getD (j / 4) 0).toNat : Int) / 2 ^ (24 - 8 * (j % 4))).tmod 256 % 256 = ((dig v j).toNat : Int) := by
        rw [Int.tmod_eq_emod_of_nonneg (Int.ediv_nonneg (by omega) (Int.le_of_lt (Int.pow_pos (by decide)))), Int.emod_emod_of_dvd _ (by decide : (256 : Int) ∣ 256), Nat.mul_comm]
        exact hdg.out
      rw [e2]
      go_roundw
      case rel =>
        refine ⟨j + 1, by omega, by go_num, Lib.hid ?_, Lib.hid ?_, Lib.hid ?_, Lib.hid ?_⟩
        · rw [set_row HD.out j, ← dN_next v j h32]
          simp [Lib.byteCells, List.map_set]
        · unfold RowU; rw [Below.heap_setCell _ _ _ _ (by simp; omega)]; exact HX.out
        · rw [Below.heap_setCell _ _ _ _ (by simp)]; exact HZ.out
        · exact HB.out.setCell (by simp; omega) _
      case measure => simp [intOf]; omega
    · obtain rfl : j = 32 := by omega
      clear hj h32
      rw [dN_all] at HD
      have hl32 := digL_len v
      replace hl32 := Lib.hid hl32
      generalize hE : digL v = D at HD hl32
      replace hE := Lib.hid hE
      go_wp2_with (first | (refine wpList_load_dig (o := ⟨some 24, _, _, _, _, _⟩) rfl (.tmp 3) rfl (w.heap.size + 2) rfl D hl32.out _ _ HD.out ?_) | (refine wpList_store_dig rfl (.tmp 2) (.tmp 24) rfl (w.heap.size + 1) rfl D hl32.out rfl _ _ HZ.out (by simp [Lib.byteCells]) ?_; intro w9 h9 _ hB9))
      refine bodyPost_ret (v := .agg (Lib.byteCells D).toArray) ?_ rfl ⟨by rw [hE.out], hB9 HB.out (by omega)⟩
      simp [results, Tryd.results60, asAddr, run_load_dig h9.out hl32.out, Act.put]
end Go.Proofs.YtldpnmebjnkjeaaDoor.Ref10
namespace Go.Proofs.YtldpnmebjnkjeaaDoor.Ref10
open Go.RowKit Go.Proofs.YtldpnmebjnkjeaaDoorW.PrintWords Go.Proofs.YtldpnmebjnkjeaaDoor.PH1 Go.Proofs.YtldpnmebjnkjeaaDoor Go.Proofs.YtldpnmebjnkjeaaDoorW.PrintLast Go.Proofs.YtldpnmebjnkjeaaDoorW.PrintMore
open Go.Proofs.YtldpnmebjnkjeaaDoor.Sha (V8 wv RowU)
set_option linter.unusedVariables false
set_option linter.unusedSimpArgs false

theorem first_at (j : Nat) (hj : j < 8) : r2 ((ps.take 8).getD j 0) = (Sha.v0.list.getD j 0).toNat := by
  have h := congrArg (fun l => l[j]?) r2_all
  have h1 : j < (ps.take 8).length := hj
  have h2 : j < Sha.v0.list.length := hj
  simp only [List.getElem?_map, List.getElem?_eq_getElem h1, List.getElem?_eq_getElem h2, Option.map_some, Option.some.injEq] at h
  rw [List.getD_eq_getElem?_getD, List.getElem?_eq_getElem h1, List.getD_eq_getElem?_getD, List.getElem?_eq_getElem h2]
  exact h
theorem root2 (j : Nat) (hj : j < 8) : cashbookref10_root.f 2000 (((ps.take 8).getD j 0 : Nat) : Int) 2 = some ((Sha.v0.list.getD j 0).toNat : Int) := by
  have hb : ∀ k : Fin 8, (ps.take 8).getD k.val 0 < 65536 := by decide
  have h := root_run ((ps.take 8).getD j 0) (hb ⟨j, hj⟩) 2 (.inl rfl) 2000 (by omega)
  rw [← first_at j hj]
  exact h
/-- The first j words. -/
def fsL (j : Nat) : List UInt32 := Sha.v0.list.take j ++ List.replicate (8 - j) 0
theorem fsL_len (j : Nat) (h : j ≤ 8) : (fsL j).length = 8 := by
  unfold fsL; rw [List.length_append, List.length_take, List.length_replicate]; show min j 8 + _ = 8; omega
theorem fsL_set (j : Nat) (h : j < 8) : (fsL j).set j (Sha.v0.list.getD j 0) = fsL (j + 1) := by
  have all : ∀ k : Fin 8, (fsL k.val).set k.val (Sha.v0.list.getD k.val 0) = fsL (k.val + 1) := by decide
  exact all ⟨j, h⟩
set_option maxHeartbeats 4000000 in
set_option maxRecDepth 100000 in
theorem first_calls (w : World) :
    Calls Tryd.prog 18 #[] w fun e w' => e = .returned (.agg (wag Sha.v0)) ∧ Below w.heap.size w w' := by
  have hb3 : ((w.alloc (.cells (wag z8) 29)).alloc (.cells (wag z8) 29)).heap[w.heap.size + 1]? = some (.cells (wag z8) 29 (0, 0)) := Sha.heap_at1 _ _ _
  have hb2 : ((w.alloc (.cells (wag z8) 29)).alloc (.cells (wag z8) 29)).heap[w.heap.size]? = some (.cells (wag z8) 29 (0, 0)) := by
    rw [Below.heap_alloc _ _ _ (by simp)]; exact heap_alloc_last _ _
  replace hb3 := Lib.hid hb3
  replace hb2 := Lib.hid hb2
  go_enter Tryd.func18, Tryd.ntmps18
  go_wp2_with (refine wpList_store_w8 rfl (.tmp 1) (.tmp 4) rfl (w.heap.size + 1) rfl z8 rfl (wag z8) 29 hb3.out rfl ?_; intro w1 h9 hk9 hB9 hs9)
  have HR : Hid (RowU 29 w.heap.size z8.list w1) := Lib.hid ((hk9 _ (by omega)).trans hb2.out)
  have HD : Hid (RowU 29 (w.heap.size + 1) (fsL 0) w1) := h9
  have HB : Hid (Below w.heap.size w w1) := Lib.hid (hB9 (((Below.refl _ _).alloc (Nat.le_refl _) _).alloc (by simp) _) (by omega))
  have HS : Hid (w.heap.size + 2 ≤ w1.heap.size) := Lib.hid (by rw [hs9]; simp)
  clear h9 hk9 hB9 hb3 hb2 hs9
  refine (cashbookref10_primes.calls 2000 8 _ w1 primes8).mono ?_
  rintro e w2 ⟨v5, rfl, hr, hb⟩
  obtain ⟨A, c, rfl, hlc, HC⟩ := Kd.R_reads hr
  have hfar : ∀ ad, A = some ad → w.heap.size + 2 ≤ ad.block := by
    intro ad he
    subst he
    obtain ⟨inner, ho⟩ := Kd.R_own hr
    rcases ho.2 with ⟨h1, _⟩ | ⟨g, cap, cur, hv, hg, _⟩
    · cases h1
    · cases hv; exact Nat.le_trans HS.out hg
  replace HC := Lib.hid HC
  replace HR := Lib.hid (RowU.below HR.out hb)
  replace HD := Lib.hid (RowU.below HD.out hb)
  replace HB := Lib.hid (HB.out.trans (hb.mono HB.out.size))
  have HS2 := Lib.hid (Nat.le_trans HS.out hb.size)
  have hl8 : (cz (ps.take 8)).length = 8 := by rw [cz_len]; rfl
  rw [hl8] at hlc HC ⊢
  clear hr hb HS hl8
  obtain ⟨ad, rfl, hc0⟩ := Kd.at_int HC.out 0 (by omega) (by omega)
  clear hc0
  have hfr := hfar ad rfl
  clear hfar
  go_wp2_with fail
  go_loopw [7] (fun i wx => ∃ j : Nat, j ≤ 8 ∧ i = .int .i64 j ∧ Hid (Kd.C (Kd.int .u64) wx (some ad) 8 (cz (ps.take 8))) ∧ Hid (RowU 29 w.heap.size z8.list wx) ∧ Hid (RowU 29 (w.heap.size + 1) (fsL j) wx) ∧ Hid (Below w.heap.size w wx) ∧ Hid (w.heap.size + 2 ≤ wx.heap.size)) (fun i _ => 8 - (intOf i).toNat)
  case atStart => exact ⟨0, by omega, rfl, HC, HR, HD, HB, HS2⟩
  case round =>
    clear HC HR HD HB HS2
    obtain ⟨j, hj, rfl, HC, HR, HD, HB, HS⟩ := hrel
    by_cases h8 : j < 8
    · have k8 : (j : Int) < 8 := by omega
      obtain ⟨ad', he, hc⟩ := Kd.at_int HC.out (j : Int) (by omega) (by omega)
      cases he
      rw [cz_rd, Int.toNat_natCast] at hc
      have hroot := root2 j h8
      generalize (ps.take 8).getD j 0 = p at hc hroot
      have hcr := cashbookref10_root.calls 2000 _ _ _ wr hroot
      have hset := fsL_set j h8
      generalize Sha.v0.list.getD j 0 = x at hcr hset
      clear hroot
      replace hset := Lib.hid hset
      replace hcr := Lib.hid hcr
      have hfl := fsL_len j hj
      replace hfl := Lib.hid hfl
      go_wp2_with fail
      refine hcr.out.mono ?_
      rintro e w3 ⟨rfl, hb⟩
      replace HC := Lib.hid (Kd.C_below HC.out hb)
      replace HR := Lib.hid (RowU.below HR.out hb)
      replace HD := Lib.hid (RowU.below HD.out hb)
      replace HB := Lib.hid (HB.out.trans (hb.mono HB.out.size))
      replace HS := Lib.hid (Nat.le_trans HS.out hb.size)
      clear hb hcr hc
      have c1 := HD.out.cell j (by rw [hfl.out]; exact h8)
      have f1 := HD.out.f
      go_wp2_with fail
      go_roundw
      case rel =>
        refine ⟨j + 1, by omega, by go_num, Lib.hid ?_, Lib.hid (HR.out.far (by simp) _), Lib.hid ?_, Lib.hid (HB.out.setCell (by simp) _), Lib.hid (by have := HS.out; simp [World.setCell]; exact this)⟩
        · exact Kd.C_keep (enc := Value.int .u64) 0 HC.out (KeepBut.set_ (KeepBut.refl _ _ none) _ _) (fun ad' he _ => by cases he; omega)
        · rw [← hset.out]; exact HD.out.set j x
      case measure => simp [intOf]; omega
    · obtain rfl : j = 8 := by omega
      have HV : Hid (RowU 29 (w.heap.size + 1) Sha.v0.list wr) := HD
      clear HD HC
      go_wp2_with (first | (refine wpList_load_w8 (o := ⟨some 17, _, _, _, _, _⟩) rfl (.tmp 1) rfl (w.heap.size + 1) 0 rfl Sha.v0 (RowU.range HV.out) ?_) | (refine wpList_store_w8 rfl (.tmp 0) (.tmp 17) rfl w.heap.size rfl Sha.v0 rfl (wag z8) 29 HR.out rfl ?_; intro w9 h9 hk9 hB9 hs9))
      refine bodyPost_ret (v := .agg (wag Sha.v0)) ?_ rfl ⟨rfl, hB9 HB.out (by omega)⟩
      simp [results, Tryd.results18, asAddr, run_load_w8 (RowU.range h9.out), Act.put]
end Go.Proofs.YtldpnmebjnkjeaaDoor.Ref10
namespace Go.Proofs.YtldpnmebjnkjeaaDoor.Ref10
open Go.RowKit Go.Proofs.YtldpnmebjnkjeaaDoorW.PrintWords Go.Proofs.YtldpnmebjnkjeaaDoor.PH1 Go.Proofs.YtldpnmebjnkjeaaDoor Go.Proofs.YtldpnmebjnkjeaaDoorW.PrintLast Go.Proofs.YtldpnmebjnkjeaaDoorW.PrintMore
open Go.Proofs.YtldpnmebjnkjeaaDoor.Sha (V8 wv RowU takeP feedP tailL tailL_len digL digL_len sumL endP z32_len hashV)
set_option linter.unusedVariables false
set_option linter.unusedSimpArgs false

def CV (s : Value) (v : V8) : Array Value := (s :: v.list.map wv).toArray
theorem run_load_cell {P : Program} {w : World} {ad : Addr} {v : Value} {t : TypeId} (ht : ∀ w : World, (Go.isAgg t).run P w = .ok false w) (h : w.cell? ad = some v) : (loadVar t ad).run P w = .ok v w := by
  unfold loadVar
  rw [Sem.run_bind, ht w]
  simp [h]
theorem yieldsIf_cell {P : Program} {ops : Array Oper} {S : World → Prop} {op : Oper} {a : Act} (hw : Region.wanted op (yielded ops a.tmps) = true) (ty : TypeId) (x : Operand) (ho : op.op = .load ty x)
    (ad : Addr) (hx : a.eval x = .pointer (some ad)) (v : Value) (ht : ∀ w : World, (Go.isAgg ty).run P w = .ok false w) (hS : ∀ w, S w → w.cell? ad = some v) : YieldsIf P ops S op v a :=
  .inl ⟨hw, fun w hw' => by
    unfold execOp
    simp only [ho, hx, Instr.loadAt, Instr.sureAddr, Sem.run_bind, Sem.run_pure, Result.andThen_ok, run_load_cell ht (hS w hw')]⟩
theorem agg56 : ∀ w : World, (Go.isAgg 56).run Tryd.prog w = .ok false w := fun w => by simp [Tryd.isAgg56]
theorem agg3 : ∀ w : World, (Go.isAgg 3).run Tryd.prog w = .ok false w := fun w => by simp [Tryd.isAgg3]
theorem c_info : ∃ i : TypeInfo, Tryd.prog.info? 58 = some i ∧ i.zero = some (.agg (CV (.slice none 0 0) z8)) := by
  have h : (Tryd.prog.info? 58).map (fun i => i.zero) = some (some (.agg (CV (.slice none 0 0) z8))) := by kernel_rfl
  cases hq : Tryd.prog.info? 58 with
  | none => rw [hq] at h; cases h
  | some i => rw [hq] at h; exact ⟨i, rfl, Option.some.inj h⟩
theorem built_C (s : Value) (hs : s.cells = #[s]) (v : V8) : Tryd.prog.built 58 [(0, s), (1, .agg (wag v))] = some (CV s v) := by
  obtain ⟨i, hi, hz⟩ := c_info
  obtain ⟨i8, j, h8, _, hj, hjs⟩ := w8_info
  have h8s : (Tryd.prog.info? 29).map (fun i => i.size) = some 8 := by kernel_rfl
  have hks : (Tryd.prog.info? 56).map (fun i => i.size) = some 1 := by kernel_rfl
  have hp : (([{ name := "K", type := 56, offset := 0, embedded := false, tag := "", pkgPath := "", byteOffset := 0 }, { name := "H", type := 29, offset := 1, embedded := false, tag := "", pkgPath := "", byteOffset := 24 }] : List Field).mapM fun f => (Tryd.prog.info? f.type).map fun i => (f.offset, i.size)) = some [(0, 1), (1, 8)] := by kernel_rfl
  unfold Program.built
  rw [hi, Tryd.underlying58]
  simp only [hz, hp]
  rw [show (Value.agg (CV (.slice none 0 0) z8)).cells = #[.slice none 0 0, .int .u32 0, .int .u32 0, .int .u32 0, .int .u32 0, .int .u32 0, .int .u32 0, .int .u32 0, .int .u32 0] from rfl]
  rw [fill_one _ _ _ _ _ 0 rfl hs (by simp), Instr.fill]
  simp [wag, V8.list, Value.cells, CV, Instr.fill, Array.zipIdx]
def COf (b : Nat) (ak : Addr) (c : Nat) (W : World) : Prop := W.cell? ⟨b, 0, none⟩ = some (.slice (some ak) 64 c)
theorem wpList_build_C {ops : Array Oper} {rest : List Oper} {o : Oper} {a : Act} {Q : Exit → Act → World → Prop} {w : World} (hgd : o.guard = none) (x0 x1 : Operand) (ho : o.op = .build 58 #[(0, x0), (1, x1)])
    (s : Value) (v : V8) (hs : s.cells = #[s]) (h0 : a.eval x0 = s) (h1 : a.eval x1 = .agg (wag v)) (h : wpList Tryd.prog ops Q rest (a.put o.dst (.agg (CV s v))) w) : wpList Tryd.prog ops Q (o :: rest) a w := by
  refine wpList_plain hgd fun _ hK => ?_
  unfold Oper.wp execOp
  simp only [ho, List.map_toArray, List.map_cons, List.map_nil, h0, h1]
  rw [Sem.run_bind, run_build w 58 #[(0, s), (1, .agg (wag v))] (CV s v) (built_C s hs v)]
  exact hK _ _ h
theorem CV_all (s : Value) (v : V8) (h : s.oneCell' = true) : (CV s v).all (·.oneCell') = true := all_oneCell_toArray (by
  intro x hx
  rcases List.mem_cons.1 hx with rfl | hx
  · exact h
  · rw [List.mem_map] at hx
    obtain ⟨y, _, rfl⟩ := hx
    rfl)
def CAt (b : Nat) (s : Value) (v : V8) (w : World) : Prop := w.heap[b]? = some (.cells (CV s v) 58 (0, 0))
namespace CAt
variable {b : Nat} {s : Value} {v : V8} {w w1 : World}
theorem below (h : CAt b s v w) (hb : Below w.heap.size w w1) : CAt b s v w1 := blk_below h hb
theorem cell0 (h : CAt b s v w) : w.cell? ⟨b, 0, none⟩ = some s := by rw [cell_of_row _ _ _ _ _ _ h]; rfl
theorem range (h : CAt b s v w) : w.rangeAt b 1 (v.list.map wv) := by
  intro j x hx
  rw [cell_of_row _ _ _ _ _ _ h]
  unfold CV
  rw [List.getElem?_toArray, Nat.add_comm 1 j, List.getElem?_cons_succ]
  exact hx
end CAt
theorem wpList_store_C {ops : Array Oper} {rest : List Oper} {o : Oper} {a : Act} {Q : Exit → Act → World → Prop} {w : World} (hgd : o.guard = none) (x y : Operand) (ho : o.op = .store 58 x y) (b : Nat) (hx : a.eval x = .pointer (some ⟨b, 0, none⟩))
    (s : Value) (v : V8) (hs1 : s.oneCell' = true) (hy : a.eval y = .agg (CV s v)) (old : Array Value) (t : TypeId) (hr : w.heap[b]? = some (.cells old t (0, 0))) (hs : old.size = 9)
    (h : ∀ w', Hid (w'.heap[b]? = some (.cells (CV s v) t (0, 0))) → (∀ k, k ≠ b → w'.heap[k]? = w.heap[k]?) → (∀ {B : Nat} {w0 : World}, Below B w0 w → B ≤ b → Below B w0 w') → w'.heap.size = w.heap.size → wpList Tryd.prog ops Q rest (a.put o.dst undef) w') : wpList Tryd.prog ops Q (o :: rest) a w := by
  refine wpList_plain hgd fun _ hK => ?_
  have hX : (CV s v).size = 9 := rfl
  unfold Oper.wp execOp
  simp only [ho, hx, hy, Instr.storeAt, Instr.sureAddr, Sem.run_bind, Sem.run_pure, Result.andThen_ok, run_storeVar_row w _ _ _ _ _ hr (show (Tryd.prog.info? 58).map (·.size) = some ((CV s v)).size by rw [hX]; kernel_rfl) (by rw [hX, hs]) (CV_all s v hs1)]
  refine hK _ _ (h _ (Lib.hid (setRow_heap w b _ _ _ _ hr)) (fun k hk => setRow_other _ _ _ _ hk) (fun {B w0} hb hB => hb.trans ⟨rfl, rfl, rfl, by simp, fun k hk => setRow_other _ _ _ _ (by omega)⟩) (by simp))
theorem run_load_C {w : World} {b : Nat} {s : Value} {v : V8} (hr : CAt b s v w) :
    (loadVar 58 ⟨b, 0, none⟩).run Tryd.prog w = .ok (.agg (CV s v)) w :=
  run_loadVar_mid w b 0 58 (s :: v.list.map wv) _ (range_row hr) Tryd.underlying58 rfl (by show _ = some 9; kernel_rfl)
set_option maxHeartbeats 4000000 in
set_option maxRecDepth 100000 in
theorem rmake_calls (w : World) :
    Calls Tryd.prog 31 #[] w fun e w' => ∃ ak c, e = .returned (.agg (CV (.slice (some ak) 64 c) Sha.v0)) ∧ KC w' ak ∧ Below w.heap.size w w' := by
  go_enter Tryd.func31, Tryd.ntmps31
  go_wp2_with fail
  generalize hw1 : w.alloc _ = w1
  have HZ : Hid (CAt w.heap.size (.slice none 0 0) z8 w1) := by
    rw [← hw1]; exact Lib.hid (heap_alloc_last _ _)
  have HB : Hid (Below w.heap.size w w1) := by
    rw [← hw1]; exact Lib.hid ((Below.refl _ _).alloc (Nat.le_refl _) _)
  have HS : w.heap.size < w1.heap.size := by rw [← hw1]; simp
  clear hw1
  refine (cashbookref10_constants.calls 2000 _ w1 const_run).mono ?_
  rintro e w2 ⟨v1, rfl, hr, hb⟩
  obtain ⟨A, c, rfl, hlc, HC⟩ := Kd.R_reads hr
  have hl64 : (Sha.kT.map fun x => (x.toNat : Int)).length = 64 := rfl
  rw [hl64] at hlc HC ⊢
  have hA : ∃ ak, A = some ak := by
    obtain ⟨ak, he, _⟩ := Kd.at_int HC 0 (by omega) (by omega)
    exact ⟨ak, he⟩
  obtain ⟨ak, rfl⟩ := hA
  have hfar : Shut (ak.block ≠ w.heap.size) := by
    obtain ⟨inner, ho⟩ := Kd.R_own hr
    rcases ho.2 with ⟨h1, _⟩ | ⟨g, cap, cur, hv, hg, _⟩
    · cases h1
    · cases hv; exact ⟨by show g ≠ _; omega⟩
  have HK : Shut (KC w2 ak) := ⟨HC⟩
  clear HS
  replace HZ := Lib.hid (HZ.out.below hb)
  replace HB := Lib.hid (HB.out.trans (hb.mono HB.out.size))
  clear hb hr HC hl64
  go_wp2_with fail
  refine (first_calls w2).mono ?_
  rintro e w3 ⟨rfl, hb⟩
  replace HK := Shut.mk (HK.out.below hb)
  replace HZ := Lib.hid (HZ.out.below hb)
  replace HB := Lib.hid (HB.out.trans (hb.mono HB.out.size))
  clear hb
  go_wp2_with (first | (refine wpList_build_C (o := ⟨some 3, _, _, _, _, _⟩) rfl (.tmp 1) (.tmp 2) rfl (.slice (some ak) 64 c) Sha.v0 rfl rfl rfl ?_) | (refine wpList_store_C rfl (.tmp 0) (.tmp 3) rfl w.heap.size rfl (.slice (some ak) 64 c) Sha.v0 rfl rfl _ _ HZ.out rfl ?_; intro w9 h9 hk9 hB9 hs9))
  refine bodyPost_ret (v := .agg (CV (.slice (some ak) 64 c) Sha.v0)) ?_ rfl ⟨ak, c, rfl, ?_, hB9 HB.out (by omega)⟩
  · simp [results, Tryd.results31, asAddr, run_load_C h9.out, Act.put]
  · exact Kd.C_keep (enc := Value.int .u32) 0 HK.out ⟨Nat.le_of_eq hs9.symm, fun i hi hne _ => hk9 i hne⟩ (fun ad' he _ => by cases he; exact hfar.out)
set_option maxHeartbeats 4000000 in
set_option maxRecDepth 100000 in
theorem rof_calls (ak : Addr) (c : Nat) (v : V8) (s : ByteArray) (hs : s.size ≤ 1048576) (w : World) (hK : KC w ak) :
    Calls Tryd.prog 63 #[.agg (CV (.slice (some ak) 64 c) v), .string s] w fun e w' => e = .returned (.agg (Lib.byteCells (endP (feedP v s.data.toList).1 (feedP v s.data.toList).2 s.size)).toArray) ∧ Below w.heap.size w w' := by
  have HK0 := Shut.mk hK
  clear hK
  go_enter Tryd.func63, Tryd.ntmps63
  go_upto_region 1 with fail
  generalize hw1 : (w.alloc _).alloc _ = w1
  have HC : Hid (CAt w.heap.size (.slice (some ak) 64 c) v w1) := by
    rw [← hw1]; refine Lib.hid ?_
    unfold CAt
    rw [Below.heap_alloc _ _ _ (by simp)]
    exact heap_alloc_last _ _
  have HR : Hid (w1.heap[w.heap.size + 1]? = some (.cells (Lib.byteCells (List.replicate 32 0)).toArray 24 (0, 0))) := by
    rw [← hw1]; exact Lib.hid (Sha.heap_at1 _ _ _)
  have HB : Hid (Below w.heap.size w w1) := by
    rw [← hw1]; exact Lib.hid (((Below.refl _ _).alloc (Nat.le_refl _) _).alloc (by simp) _)
  have HS : Hid (w.heap.size + 2 ≤ w1.heap.size) := by rw [← hw1]; exact Lib.hid (by simp)
  clear hw1
  have c0 := HC.out.cell0
  have hs' := Lib.hid hs
  go_wp2_with (refine wpList_load_w8 (o := ⟨some 11, _, _, _, _, _⟩) rfl (.tmp 10) rfl w.heap.size 1 rfl v HC.out.range ?_)
  refine (rall_calls ak c v s (by omega) w1 (HK0.out.below HB.out)).mono ?_
  rintro e w2 ⟨rfl, hb⟩
  clear c0
  replace HC := Lib.hid (HC.out.below hb)
  replace HR := Lib.hid (blk_below HR.out hb)
  replace HB := Lib.hid (HB.out.trans (hb.mono HB.out.size))
  replace HS := Lib.hid (Nat.le_trans HS.out hb.size)
  clear hb
  have hfl := Sha.feedP_len _ v s.data.toList (Nat.le_refl _)
  generalize hr1 : (feedP v s.data.toList).2 = r at hfl ⊢
  generalize hu1 : (feedP v s.data.toList).1 = u
  replace hr1 := Lib.hid hr1
  replace hu1 := Lib.hid hu1
  have hrl : r.length < 64 := by rw [hfl]; omega
  clear hfl
  replace hrl := Lib.hid hrl
  go_wp2_with (refine wpList_store_w8 rfl (.tmp 5) (.tmp 14) rfl w2.heap.size rfl u rfl (wag z8) 29 (heap_alloc_last w2 _) rfl ?_; intro w3 h9 hk9 hB9 hs9)
  have hb := hB9 ((Below.refl _ _).alloc (Nat.le_refl _) _) (Nat.le_refl _)
  have HV : Hid (RowU 29 w2.heap.size u.list w3) := h9
  have hg : w.heap.size + 2 ≤ w2.heap.size := HS.out
  replace HC := Lib.hid (HC.out.below hb)
  replace HR := Lib.hid (blk_below HR.out hb)
  replace HB := Lib.hid (HB.out.trans (hb.mono HB.out.size))
  generalize w2.heap.size = g at HV hg ⊢
  clear hb h9 hk9 hB9 hs9 HS
  have htc := fun W => rtail_calls s.size hs W
  obtain ⟨T, hT⟩ : ∃ T : ByteArray, T = ⟨(tailL s.size).toArray⟩ := ⟨_, rfl⟩
  rw [← hT] at htc
  obtain ⟨R, hR⟩ : ∃ R : ByteArray, R = ⟨r.toArray⟩ := ⟨_, rfl⟩
  rw [← hR]
  have hRs : R.size < 64 := by
    rw [hR]
    show r.toArray.size < 64
    rw [List.size_toArray]; exact hrl.out
  have hTs : T.size < 100 := by
    rw [hT]
    show (tailL s.size).toArray.size < 100
    rw [List.size_toArray, tailL_len]; omega
  have hrt : Hid ((R ++ T).size ≤ 4294967296) := by
    refine Lib.hid ?_
    rw [ByteArray.size_append]
    omega
  have hta : (R ++ T).data.toList = r ++ tailL s.size := by rw [ByteArray.data_append, Array.toList_append, hR, hT]
  have hlt : (9223372036854775807 < R.size + T.size) = False := eq_false (by omega)
  replace htc := Lib.hid htc
  replace hta := Lib.hid hta
  clear hT hR
  have hS : COf w.heap.size ak c w3.drew := HC.out.cell0
  refine wp_region_held (S := COf w.heap.size ak c) (by kernel_rfl) ?_
  change wpAnyH _ _ _ _ _ _ _ _ w3.drew
  refine wpAnyH_take (i := 0) (v := ?_) rfl (by kernel_rfl) (by kernel_rfl) (by kernel_rfl) (fun _ _ _ h => h) (Or.inl ⟨by rfl, ?_⟩) hS ?_
  rotate_left
  · intro v _; go_simp; first | done | with_reducible rfl
  rotate_left
  simp only [List.getElem_toArray, List.getElem_cons_succ, List.getElem_cons_zero, Act.put, List.setIfInBounds_toArray, List.set_cons_zero, List.set_cons_succ]
  refine wpAnyH_take (i := 1) (v := _) rfl (by kernel_rfl) (by kernel_rfl) (by kernel_rfl) (fun _ _ _ h => h) (yieldsIf_cell (by rfl) 56 (.tmp 17) rfl ⟨w.heap.size, 0, none⟩ rfl (.slice (some ak) 64 c) agg56 (fun _ h => h)) hS ?_
  simp only [List.getElem_toArray, List.getElem_cons_succ, List.getElem_cons_zero, Act.put, List.setIfInBounds_toArray, List.set_cons_zero, List.set_cons_succ]
  refine wpAnyH_take (i := 3) (v := ?_) rfl (by kernel_rfl) (by kernel_rfl) (by kernel_rfl) (fun _ _ _ h => h) (Or.inl ⟨by rfl, ?_⟩) hS ?_
  rotate_left
  · intro v _; go_simp; first | done | with_reducible rfl
  rotate_left
  simp only [List.getElem_toArray, List.getElem_cons_succ, List.getElem_cons_zero, Act.put, List.setIfInBounds_toArray, List.set_cons_zero, List.set_cons_succ]
  refine wpAnyH_take (i := 4) (v := ?_) rfl (by kernel_rfl) (by kernel_rfl) (by kernel_rfl) (fun _ _ _ h => h) (Or.inl ⟨by rfl, ?_⟩) hS ?_
  rotate_left
  · intro v _; go_simp; first | done | with_reducible rfl
  rotate_left
  simp only [List.getElem_toArray, List.getElem_cons_succ, List.getElem_cons_zero, Act.put, List.setIfInBounds_toArray, List.set_cons_zero, List.set_cons_succ]
  refine wpAnyH_take (i := 5) (v := ?_) rfl (by kernel_rfl) (by kernel_rfl) (by kernel_rfl) (fun _ _ _ h => h) (Or.inl ⟨by rfl, ?_⟩) hS ?_
  rotate_left
  · intro v _; go_simp; first | done | with_reducible rfl
  rotate_left
  simp only [List.getElem_toArray, List.getElem_cons_succ, List.getElem_cons_zero, Act.put, List.setIfInBounds_toArray, List.set_cons_zero, List.set_cons_succ]
  refine wpAnyH_all (rs := [2, 6]) (by kernel_rfl) (by simp) ?_
  intro i hi
  simp only [List.mem_cons, List.not_mem_nil, or_false] at hi
  rcases hi with rfl | rfl
  · skip
    refine wpOp_wp rfl (by rfl) ?_
    refine wp_load_w8 (.tmp 5) rfl g 0 rfl u (RowU.range (w := w3.drew) HV.out) ?_
    refine ⟨hS, ?_⟩
    try simp only [List.getElem_toArray, List.getElem_cons_succ, List.getElem_cons_zero, Act.put, List.setIfInBounds_toArray, List.set_cons_zero, List.set_cons_succ]
    refine wpAnyH_all (rs := [6]) (by kernel_rfl) (by simp) ?_
    intro i hi
    simp only [List.mem_cons, List.not_mem_nil, or_false] at hi
    subst hi
    refine wpOp_wp rfl (by rfl) ?_
    go_simp
    refine (htc.out w3.drew).mono ?_
    rintro e w3b ⟨rfl, hb⟩
    have HC3 := Lib.hid (CAt.below (w := w3.drew) HC.out hb)
    have hS : COf w.heap.size ak c w3b := HC3.out.cell0
    refine ⟨hS, ?_⟩
    have HV3 := Lib.hid (RowU.below (w := w3.drew) HV.out hb)
    have HR3 := Lib.hid (blk_below (show w3.drew.heap[w.heap.size + 1]? = _ from HR.out) hb)
    have HB3 := Lib.hid (HB.out.drew.trans (hb.mono HB.out.size))
    clear hb HV HR HB HC
    try simp only [List.getElem_toArray, List.getElem_cons_succ, List.getElem_cons_zero, Act.put, List.setIfInBounds_toArray, List.set_cons_zero, List.set_cons_succ]
    refine wpAnyH_take (i := 7) (v := ?_) rfl (by kernel_rfl) (by kernel_rfl) (by kernel_rfl) (fun _ _ _ h => h) (Or.inl ⟨by rfl, ?_⟩) hS ?_
    rotate_left
    · intro v _; go_simp; first | done | with_reducible rfl
    rotate_left
    simp only [List.getElem_toArray, List.getElem_cons_succ, List.getElem_cons_zero, Act.put, List.setIfInBounds_toArray, List.set_cons_zero, List.set_cons_succ]
    refine wpAnyH_all (rs := [8]) (by kernel_rfl) (by simp) ?_
    intro i hi
    simp only [List.mem_cons, List.not_mem_nil, or_false] at hi
    subst hi
    refine wpOp_wp rfl (by rfl) ?_
    go_simp
    refine (rall_calls ak c u (R ++ T) hrt.out _ (HK0.out.below HB3.out)).mono ?_
    rintro e w4 ⟨rfl, hb⟩
    rw [hta.out]
    have hE : endP u r s.size = digL (feedP u (r ++ tailL s.size)).1 := rfl
    generalize (feedP u (r ++ tailL s.size)).2 = r2
    generalize (feedP u (r ++ tailL s.size)).1 = z at hE ⊢
    replace hE := Lib.hid hE
    have hS : COf w.heap.size ak c w4 := (HC3.out.below hb).cell0
    refine ⟨hS, ?_⟩
    have HV4 := Lib.hid (HV3.out.below hb)
    have HR4 := Lib.hid (blk_below HR3.out hb)
    have HB4 := Lib.hid (HB3.out.trans (hb.mono HB3.out.size))
    have HC4 := Lib.hid (HC3.out.below hb)
    clear hb HV3 HR3 HB3 HC3
    try simp only [List.getElem_toArray, List.getElem_cons_succ, List.getElem_cons_zero, Act.put, List.setIfInBounds_toArray, List.set_cons_zero, List.set_cons_succ]
    refine wpAnyH_take (i := 9) (v := ?_) rfl (by kernel_rfl) (by kernel_rfl) (by kernel_rfl) (fun _ _ _ h => h) (Or.inl ⟨by rfl, ?_⟩) hS ?_
    rotate_left
    · intro v _; go_simp; first | done | with_reducible rfl
    rotate_left
    simp only [List.getElem_toArray, List.getElem_cons_succ, List.getElem_cons_zero, Act.put, List.setIfInBounds_toArray, List.set_cons_zero, List.set_cons_succ]
    refine wpAnyH_take (i := 10) (v := ?_) rfl (by kernel_rfl) (by kernel_rfl) (by kernel_rfl) (fun _ _ _ h => h) (Or.inl ⟨by rfl, ?_⟩) hS ?_
    rotate_left
    · intro v _; go_simp; first | done | with_reducible rfl
    rotate_left
    simp only [List.getElem_toArray, List.getElem_cons_succ, List.getElem_cons_zero, Act.put, List.setIfInBounds_toArray, List.set_cons_zero, List.set_cons_succ]
    refine wpAnyH_take (i := 11) (v := ?_) rfl (by kernel_rfl) (by kernel_rfl) (by kernel_rfl) (fun _ _ _ h => h) (Or.inl ⟨by rfl, ?_⟩) hS ?_
    rotate_left
    · intro v _; go_simp; first | done | with_reducible rfl
    rotate_left
    simp only [List.getElem_toArray, List.getElem_cons_succ, List.getElem_cons_zero, Act.put, List.setIfInBounds_toArray, List.set_cons_zero, List.set_cons_succ]
    refine wpAnyH_all (rs := [12]) (by kernel_rfl) (by simp) ?_
    intro i hi
    simp only [List.mem_cons, List.not_mem_nil, or_false] at hi
    subst hi
    refine wpOp_wp rfl (by rfl) ?_
    refine wp_store_w8 (.tmp 5) (.tmp 26) rfl g rfl _ rfl _ _ HV4.out rfl ?_
    intro w5 h9 hk9 hB9 hs9
    have HR5 := Lib.hid ((hk9 (w.heap.size + 1) (by omega)).trans HR4.out)
    have HB5 := Lib.hid (hB9 HB4.out (by omega))
    have hS : COf w.heap.size ak c w5 := by
      show w5.cell? ⟨w.heap.size, 0, none⟩ = _
      rw [cell_of_row _ _ _ _ _ _ ((hk9 w.heap.size (by omega)).trans HC4.out)]; rfl
    refine ⟨hS, ?_⟩
    clear hk9 hB9 hs9 HV4 HR4 HB4 HC4
    try simp only [List.getElem_toArray, List.getElem_cons_succ, List.getElem_cons_zero, Act.put, List.setIfInBounds_toArray, List.set_cons_zero, List.set_cons_succ]
    refine wpAnyH_done (by kernel_rfl) ?_ _
    clear hS
    go_wp2_with (refine wpList_load_w8 (o := ⟨some 28, _, _, _, _, _⟩) rfl (.tmp 5) rfl g 0 rfl z (RowU.range h9.out) ?_)
    refine (rdigest_calls z w5).mono ?_
    rintro e w6 ⟨rfl, hb⟩
    replace HR5 := Lib.hid (blk_below HR5.out hb)
    replace HB5 := Lib.hid (HB5.out.trans (hb.mono HB5.out.size))
    have hl := Lib.hid (digL_len z)
    clear hb h9
    generalize hD1 : digL z = D at hl ⊢
    replace hD1 := Lib.hid hD1
    go_wp2_with (refine wpList_store_dig rfl (.tmp 4) (.tmp 29) rfl (w.heap.size + 1) rfl D hl.out rfl _ _ HR5.out (by rw [List.size_toArray, Lib.byteCells, List.length_map, z32_len]) ?_; intro w9 h9 _ hB9)
    refine bodyPost_ret (v := .agg (Lib.byteCells D).toArray) ?_ rfl ⟨by rw [hr1.out, hu1.out, hE.out, hD1.out], hB9 HB5.out (by omega)⟩
    simp [results, Tryd.results63, asAddr, run_load_dig h9.out hl.out, Act.put]
  · skip
    refine wpOp_wp rfl (by rfl) ?_
    go_simp
    refine (htc.out w3.drew).mono ?_
    rintro e w3b ⟨rfl, hb⟩
    have HC3 := Lib.hid (CAt.below (w := w3.drew) HC.out hb)
    have hS : COf w.heap.size ak c w3b := HC3.out.cell0
    refine ⟨hS, ?_⟩
    have HV3 := Lib.hid (RowU.below (w := w3.drew) HV.out hb)
    have HR3 := Lib.hid (blk_below (show w3.drew.heap[w.heap.size + 1]? = _ from HR.out) hb)
    have HB3 := Lib.hid (HB.out.drew.trans (hb.mono HB.out.size))
    clear hb HV HR HB HC
    try simp only [List.getElem_toArray, List.getElem_cons_succ, List.getElem_cons_zero, Act.put, List.setIfInBounds_toArray, List.set_cons_zero, List.set_cons_succ]
    refine wpAnyH_take (i := 7) (v := ?_) rfl (by kernel_rfl) (by kernel_rfl) (by kernel_rfl) (fun _ _ _ h => h) (Or.inl ⟨by rfl, ?_⟩) hS ?_
    rotate_left
    · intro v _; go_simp; first | done | with_reducible rfl
    rotate_left
    simp only [List.getElem_toArray, List.getElem_cons_succ, List.getElem_cons_zero, Act.put, List.setIfInBounds_toArray, List.set_cons_zero, List.set_cons_succ]
    refine wpAnyH_all (rs := [2]) (by kernel_rfl) (by simp) ?_
    intro i hi
    simp only [List.mem_cons, List.not_mem_nil, or_false] at hi
    subst hi
    refine wpOp_wp rfl (by rfl) ?_
    refine wp_load_w8 (.tmp 5) rfl g 0 rfl u (RowU.range HV3.out) ?_
    refine ⟨hS, ?_⟩
    try simp only [List.getElem_toArray, List.getElem_cons_succ, List.getElem_cons_zero, Act.put, List.setIfInBounds_toArray, List.set_cons_zero, List.set_cons_succ]
    refine wpAnyH_all (rs := [8]) (by kernel_rfl) (by simp) ?_
    intro i hi
    simp only [List.mem_cons, List.not_mem_nil, or_false] at hi
    subst hi
    refine wpOp_wp rfl (by rfl) ?_
    go_simp
    refine (rall_calls ak c u (R ++ T) hrt.out _ (HK0.out.below HB3.out)).mono ?_
    rintro e w4 ⟨rfl, hb⟩
    rw [hta.out]
    have hE : endP u r s.size = digL (feedP u (r ++ tailL s.size)).1 := rfl
    generalize (feedP u (r ++ tailL s.size)).2 = r2
    generalize (feedP u (r ++ tailL s.size)).1 = z at hE ⊢
    replace hE := Lib.hid hE
    have hS : COf w.heap.size ak c w4 := (HC3.out.below hb).cell0
    refine ⟨hS, ?_⟩
    have HV4 := Lib.hid (HV3.out.below hb)
    have HR4 := Lib.hid (blk_below HR3.out hb)
    have HB4 := Lib.hid (HB3.out.trans (hb.mono HB3.out.size))
    have HC4 := Lib.hid (HC3.out.below hb)
    clear hb HV3 HR3 HB3 HC3
    try simp only [List.getElem_toArray, List.getElem_cons_succ, List.getElem_cons_zero, Act.put, List.setIfInBounds_toArray, List.set_cons_zero, List.set_cons_succ]
    refine wpAnyH_take (i := 9) (v := ?_) rfl (by kernel_rfl) (by kernel_rfl) (by kernel_rfl) (fun _ _ _ h => h) (Or.inl ⟨by rfl, ?_⟩) hS ?_
    rotate_left
    · intro v _; go_simp; first | done | with_reducible rfl
    rotate_left
    simp only [List.getElem_toArray, List.getElem_cons_succ, List.getElem_cons_zero, Act.put, List.setIfInBounds_toArray, List.set_cons_zero, List.set_cons_succ]
    refine wpAnyH_take (i := 10) (v := ?_) rfl (by kernel_rfl) (by kernel_rfl) (by kernel_rfl) (fun _ _ _ h => h) (Or.inl ⟨by rfl, ?_⟩) hS ?_
    rotate_left
    · intro v _; go_simp; first | done | with_reducible rfl
    rotate_left
    simp only [List.getElem_toArray, List.getElem_cons_succ, List.getElem_cons_zero, Act.put, List.setIfInBounds_toArray, List.set_cons_zero, List.set_cons_succ]
    refine wpAnyH_take (i := 11) (v := ?_) rfl (by kernel_rfl) (by kernel_rfl) (by kernel_rfl) (fun _ _ _ h => h) (Or.inl ⟨by rfl, ?_⟩) hS ?_
    rotate_left
    · intro v _; go_simp; first | done | with_reducible rfl
    rotate_left
    simp only [List.getElem_toArray, List.getElem_cons_succ, List.getElem_cons_zero, Act.put, List.setIfInBounds_toArray, List.set_cons_zero, List.set_cons_succ]
    refine wpAnyH_all (rs := [12]) (by kernel_rfl) (by simp) ?_
    intro i hi
    simp only [List.mem_cons, List.not_mem_nil, or_false] at hi
    subst hi
    refine wpOp_wp rfl (by rfl) ?_
    refine wp_store_w8 (.tmp 5) (.tmp 26) rfl g rfl _ rfl _ _ HV4.out rfl ?_
    intro w5 h9 hk9 hB9 hs9
    have HR5 := Lib.hid ((hk9 (w.heap.size + 1) (by omega)).trans HR4.out)
    have HB5 := Lib.hid (hB9 HB4.out (by omega))
    have hS : COf w.heap.size ak c w5 := by
      show w5.cell? ⟨w.heap.size, 0, none⟩ = _
      rw [cell_of_row _ _ _ _ _ _ ((hk9 w.heap.size (by omega)).trans HC4.out)]; rfl
    refine ⟨hS, ?_⟩
    clear hk9 hB9 hs9 HV4 HR4 HB4 HC4
    try simp only [List.getElem_toArray, List.getElem_cons_succ, List.getElem_cons_zero, Act.put, List.setIfInBounds_toArray, List.set_cons_zero, List.set_cons_succ]
    refine wpAnyH_done (by kernel_rfl) ?_ _
    clear hS
    go_wp2_with (refine wpList_load_w8 (o := ⟨some 28, _, _, _, _, _⟩) rfl (.tmp 5) rfl g 0 rfl z (RowU.range h9.out) ?_)
    refine (rdigest_calls z w5).mono ?_
    rintro e w6 ⟨rfl, hb⟩
    replace HR5 := Lib.hid (blk_below HR5.out hb)
    replace HB5 := Lib.hid (HB5.out.trans (hb.mono HB5.out.size))
    have hl := Lib.hid (digL_len z)
    clear hb h9
    generalize hD1 : digL z = D at hl ⊢
    replace hD1 := Lib.hid hD1
    go_wp2_with (refine wpList_store_dig rfl (.tmp 4) (.tmp 29) rfl (w.heap.size + 1) rfl D hl.out rfl _ _ HR5.out (by rw [List.size_toArray, Lib.byteCells, List.length_map, z32_len]) ?_; intro w9 h9 _ hB9)
    refine bodyPost_ret (v := .agg (Lib.byteCells D).toArray) ?_ rfl ⟨by rw [hr1.out, hu1.out, hE.out, hD1.out], hB9 HB5.out (by omega)⟩
    simp [results, Tryd.results63, asAddr, run_load_dig h9.out hl.out, Act.put]
end Go.Proofs.YtldpnmebjnkjeaaDoor.Ref10
namespace Go.Proofs.YtldpnmebjnkjeaaDoor.TrW
open Go.RowKit Go.Proofs.YtldpnmebjnkjeaaDoorW.PrintWords Go.Proofs.YtldpnmebjnkjeaaDoor.PH1 Go.Proofs.YtldpnmebjnkjeaaDoor Go.Proofs.YtldpnmebjnkjeaaDoorW.PrintLast Go.Proofs.YtldpnmebjnkjeaaDoorW.PrintMore
open Go.Proofs.YtldpnmebjnkjeaaDoor.Sha
open Go.Proofs.YtldpnmebjnkjeaaDoor.Ref10 (wp_store_dig wp_load_dig wpOp_wp range_row yieldsIf_cell agg3 agg56 CV CAt KC run_load_C rof_calls rmake_calls)
set_option linter.unusedVariables false
set_option linter.unusedSimpArgs false

/-- The constants, by value. -/
def cv (ak : Addr) (c : Nat) : Value := .agg (CV (.slice (some ak) 64 c) v0)
theorem sum_of (s : ByteArray) : endP (feedP v0 s.data.toList).1 (feedP v0 s.data.toList).2 s.size = sumL s.data.toList := by
  unfold sumL
  rw [show s.data.toList.length = s.size from Array.length_toList]
theorem rsum_calls (ak : Addr) (c : Nat) (s : ByteArray) (hs : s.size ≤ 1048576) (w : World) (hK : KC w ak) :
    Calls Tryd.prog 63 #[cv ak c, .string s] w fun e w' => e = .returned (.agg (Lib.byteCells (sumL s.data.toList)).toArray) ∧ Below w.heap.size w w' := by
  have h := rof_calls ak c v0 s hs w hK
  rw [sum_of] at h
  exact h
theorem yieldsIf_C {ops : Array Oper} {S : World → Prop} {op : Oper} {a : Act} (hw : Region.wanted op (yielded ops a.tmps) = true) (x : Operand) (ho : op.op = .load 58 x)
    (b : Nat) (hx : a.eval x = .pointer (some ⟨b, 0, none⟩)) (s : Value) (v : V8) (hS : ∀ w, S w → CAt b s v w) : YieldsIf Tryd.prog ops S op (.agg (CV s v)) a :=
  .inl ⟨hw, fun w h => by
    unfold execOp
    simp only [ho, hx, Instr.loadAt, Instr.sureAddr, Sem.run_bind, Sem.run_pure, Result.andThen_ok, run_load_C (hS w h)]⟩
theorem wpList_load_C {ops : Array Oper} {rest : List Oper} {o : Oper} {a : Act} {Q : Exit → Act → World → Prop} {w : World} (hgd : o.guard = none) (x : Operand) (ho : o.op = .load 58 x) (b : Nat) (hx : a.eval x = .pointer (some ⟨b, 0, none⟩))
    (s : Value) (v : V8) (hr : CAt b s v w) (h : wpList Tryd.prog ops Q rest (a.put o.dst (.agg (CV s v))) w) : wpList Tryd.prog ops Q (o :: rest) a w := by
  refine wpList_plain hgd fun _ hK => ?_
  unfold Oper.wp execOp
  simp only [ho, hx, Instr.loadAt, Instr.sureAddr, Sem.run_bind, Sem.run_pure, Result.andThen_ok, run_load_C hr]
  exact hK _ _ h
theorem info_u8 : (Tryd.prog.info? 5).map (fun i => (i.zero, i.size, i.bytes)) = some (some (.int .u8 0), 1, 1) := by kernel_rfl
/-- A row of bytes of the call's own. -/
def RU (b : Nat) (v : Value) (xs : List Int) (w : World) : Prop := (Kd.int .u8).R 5 w b (fun _ => True) v xs
theorem wpList_append_u8 {ops : Array Oper} {rest : List Oper} {o : Oper} {a : Act} {Q : Exit → Act → World → Prop} {W : World} (hgd : o.guard = none) (s x : Operand) (ho : o.op = .call { callee := .builtin .append, args := #[s, x], argTypes := #[22, 22] })
    {b : Nat} {w0 : World} (v : Value) (xs : List Int) (p : Int) (hs : a.eval s = v) (hx : a.eval x = .slice (some ⟨W.heap.size, 0, none⟩) 1 1) (HO : RU b v xs W) (HB : Below b w0 W) (hbase : b ≤ W.heap.size) (hl : xs.length ≤ 1073741824)
    (h : ∀ v1 w1, Hid (RU b v1 (xs ++ [p]) w1) → Below b w0 w1 → wpList Tryd.prog ops Q rest (a.put o.dst v1) w1) : wpList Tryd.prog ops Q (o :: rest) a (W.alloc (.cells #[.int .u8 p] 5)) :=
  Kd.R_append (Kd.int .u8) b hgd s x 22 5 (.int .u8 0) 1 ho Tryd.underlying22 info_u8 rfl (by decide) (by decide) v xs p [.int .u8 p] (fun _ => True) (fun _ => False) hs hx rfl (fun _ hk => hk.elim) (fun _ _ => trivial) HO HB hbase (by omega) (fun v1 w1 h1 h2 _ _ => h v1 w1 (Lib.hid h1) h2)
def ints (l : List UInt8) : List Int := l.map fun b => (b.toNat : Int)
theorem ints_snoc (l : List UInt8) (b : UInt8) : ints (l ++ [b]) = ints l ++ [(b.toNat : Int)] := by simp [ints]
theorem RU.conv {b : Nat} {v : Value} {l : List UInt8} {w : World} (h : RU b v (ints l) w) (hl : 0 < l.length) : (convert 22 9 v).run Tryd.prog w = .ok (.string ⟨l.toArray⟩) w := by
  obtain ⟨A, c, hv, hc, hC⟩ := Kd.R_reads h
  have hil : (ints l).length = l.length := by simp [ints]
  obtain ⟨ad, hA, _⟩ := Kd.at_int hC 0 (by omega) (by omega)
  have hc2 := Go.run_convert_bytes_back (P := Tryd.prog) w 22 9 5 ad c l (by kernel_rfl) (by kernel_rfl) (by kernel_rfl) (fun j hj => by
    obtain ⟨ad2, hA2, h2⟩ := Kd.at_int hC (j : Int) (by omega) (by omega)
    rw [hA] at hA2
    cases hA2
    rw [Int.toNat_natCast] at h2
    rw [h2]
    congr 2
    unfold rd ints
    rw [Int.toNat_natCast, List.getD_eq_getElem?_getD, List.getElem?_map, List.getElem?_eq_getElem hj]
    rfl)
  rw [hv, hil, hA]
  exact hc2
set_option maxHeartbeats 4000000 in
set_option maxRecDepth 100000 in
theorem rtxt_calls (d : List UInt8) (hd32 : d.length = 32) (w : World) :
    Calls Tryd.prog 73 #[.agg (Lib.byteCells d).toArray] w fun e w' => e = .returned (.string ⟨d.toArray⟩) ∧ Below w.heap.size w w' := by
  replace hd32 := Lib.hid hd32
  go_enter Tryd.func73, Tryd.ntmps73
  go_upto_region 1 with fail
  generalize hw1 : w.alloc _ = w1
  have HD : Hid (DigAt w.heap.size d w1) := by rw [← hw1]; exact Lib.hid (heap_alloc_last _ _)
  have HB : Hid (Below w.heap.size w w1) := by
    rw [← hw1]; exact Lib.hid ((Below.refl _ _).alloc (Nat.le_refl _) _)
  clear hw1
  have HO : Hid (RU w1.heap.size (.slice none 0 0) (ints (d.take 0)) w1) := Lib.hid (Kd.R_nil _ _ _ _ _)
  have H1 := Lib.hid (Below.refl w1.heap.size w1)
  go_wp2_with fail
  go_loopw [3, 4] (fun s i wx => ∃ (j : Nat) (u : Value), j ≤ 32 ∧ u = s ∧ i = .int .i64 j ∧ Hid (RU w1.heap.size u (ints (d.take j)) wx) ∧ Hid (Below w1.heap.size w1 wx)) (fun _ i _ => 32 - (intOf i).toNat)
  case atStart => exact ⟨0, _, by omega, rfl, rfl, HO, H1⟩
  case round =>
    clear HO H1
    obtain ⟨j, v3, hj, rfl, rfl, HO, H1⟩ := hrel
    by_cases h32 : j < 32
    · have k32 : (j : Int) < 32 := by omega
      have hjd : j < d.length := by rw [hd32.out]; exact h32
      have hix : d[j]? = some d[j] := List.getElem?_eq_getElem hjd
      have htk : d.take (j + 1) = d.take j ++ [d[j]] := by rw [List.take_succ_eq_append_getElem hjd]
      generalize d[j] = x at hix htk
      have hcl : wr.cell? ⟨w.heap.size, j, none⟩ = some (.int .u8 (x.toNat : Int)) := by
        have h2 := DigAt.ad (DigAt.below HD.out H1.out) j (.int .u8 (x.toNat : Int)) (by rw [Lib.byteCells, List.getElem?_map, hix]; rfl)
        rw [Addr.add_mid, Nat.zero_add] at h2
        exact h2
      have hlen : (ints (d.take j)).length ≤ 1073741824 := by simp [ints]; omega
      have hnx : ints (d.take (j + 1)) = ints (d.take j) ++ [(x.toNat : Int)] := by rw [htk, ints_snoc]
      replace htk := Lib.hid htk
      replace hix := Lib.hid hix
      replace hlen := Lib.hid hlen
      replace hnx := Lib.hid hnx
      go_wp2_with (guard_target = wpList _ _ _ (⟨some 14, _, _, _, _, _⟩ :: _) _ _; refine wpList_append_u8 rfl (.tmp 9) (.tmp 13) rfl v3 _ (x.toNat : Int) rfl rfl HO.out H1.out H1.out.size hlen.out ?_; intro v1 w5 HO1 HB1)
      rw [← hnx.out] at HO1
      refine ⟨⟨j + 1, v1, by omega, rfl, by push_cast; rfl, HO1, Lib.hid HB1⟩, by simp [intOf]; omega⟩
    · obtain rfl : j = 32 := by omega
      rw [List.take_of_length_le (by rw [hd32.out]; omega)] at HO
      have hcv := RU.conv HO.out (by rw [hd32.out]; omega)
      go_wp2_with fail
      go_ret
      exact ⟨rfl, HB.out.trans (Below.mono H1.out HB.out.size)⟩
end Go.Proofs.YtldpnmebjnkjeaaDoor.TrW
namespace Go.Proofs.YtldpnmebjnkjeaaDoor.TrW
open Go.RowKit Go.Proofs.YtldpnmebjnkjeaaDoorW.PrintWords Go.Proofs.YtldpnmebjnkjeaaDoor.PH1 Go.Proofs.YtldpnmebjnkjeaaDoor Go.Proofs.YtldpnmebjnkjeaaDoorW.PrintLast Go.Proofs.YtldpnmebjnkjeaaDoorW.PrintMore
open Go.Proofs.YtldpnmebjnkjeaaDoor.Sha
open Go.Proofs.YtldpnmebjnkjeaaDoor.Ref10 (wp_store_dig wp_load_dig wpOp_wp range_row yieldsIf_cell agg3 agg56 CV CAt KC run_load_C)
set_option linter.unusedVariables false
set_option linter.unusedSimpArgs false

theorem rone_run (n : Int) (h0 : 0 ≤ n) (h1 : n < 256) : cashbookref11_one.f n = some ⟨#[UInt8.ofNat n.toNat]⟩ := by
  have all : ∀ m : Fin 256, cashbookref11_one.f (m.val : Int) = some ⟨#[UInt8.ofNat m.val]⟩ := by decide +kernel
  obtain ⟨m, rfl⟩ := Int.eq_ofNat_of_zero_le h0
  rw [Int.toNat_natCast]
  exact all ⟨m, by omega⟩
def SC (b : Nat) (ak : Addr) (c : Nat) (W : World) : Prop := CAt b (.slice (some ak) 64 c) v0 W
set_option maxHeartbeats 8000000 in
set_option maxRecDepth 100000 in
theorem rleaf_calls (ak : Addr) (c : Nat) (s : ByteArray) (hs : s.size ≤ 1048575) (w : World) (hK : KC w ak) :
    Calls Tryd.prog 42 #[cv ak c, .string s] w fun e w' => e = .returned (.agg (Lib.byteCells (leafP s.data.toList)).toArray) ∧ Below w.heap.size w w' := by
  have hsz : (⟨#[0]⟩ ++ s : ByteArray).size ≤ 1048576 := by rw [ByteArray.size_append]; show 1 + s.size ≤ _; omega
  have hda : (⟨#[0]⟩ ++ s : ByteArray).data.toList = 0 :: s.data.toList := by rw [ByteArray.data_append, Array.toList_append]; rfl
  have hcall := fun W hk => rsum_calls ak c (⟨#[0]⟩ ++ s) hsz W hk
  rw [hda] at hcall
  have hone := fun W => cashbookref11_one.calls 0 _ W (rone_run 0 (by decide) (by decide))
  have hl := Lib.hid (sumL_len (0 :: s.data.toList))
  unfold leafP
  generalize sumL (0 :: s.data.toList) = D at hl hcall ⊢
  replace hcall := Lib.hid hcall
  replace hone := Lib.hid hone
  have hlt : (9223372036854775807 < 1 + s.size) = False := eq_false (by omega)
  clear hda hsz
  unfold cv at *
  go_enter Tryd.func42, Tryd.ntmps42
  go_upto_region 1 with fail
  generalize hw1 : World.alloc _ _ = w1
  have HCc : Hid (CAt w.heap.size (.slice (some ak) 64 c) v0 w1) := by
    rw [← hw1]; refine Lib.hid ?_
    unfold CAt
    rw [Below.heap_alloc _ _ _ (by simp)]
    exact heap_alloc_last _ _
  have HR : Hid (DigAt (w.heap.size + 1) (List.replicate 32 0) w1) := by
    rw [← hw1]; refine Lib.hid ?_; unfold DigAt; exact heap_at1 _ _ _
  have HB : Hid (Below w.heap.size w w1) := by
    rw [← hw1]; exact Lib.hid (((Below.refl _ _).alloc (Nat.le_refl _) _).alloc (by simp) _)
  have HK := Lib.hid (hK.below HB.out)
  clear hw1 hK
  refine wp_region_held (S := SC w.heap.size ak c) (by kernel_rfl) ?_
  change wpAnyH _ _ _ _ _ _ _ _ w1.drew
  have hdr : Below w1.heap.size w1 w1.drew := (Below.refl _ _).drew
  replace HR := Lib.hid (DigAt.below HR.out hdr)
  replace HCc := Lib.hid (CAt.below HCc.out hdr)
  replace HK := Lib.hid (KC.below HK.out hdr)
  replace HB := Lib.hid (HB.out.trans (Below.mono hdr HB.out.size))
  clear hdr
  generalize w1.drew = x0 at HR HCc HK HB ⊢
  have hS : SC w.heap.size ak c x0 := HCc.out
  refine wpAnyH_take (i := 0) (v := _) rfl (by kernel_rfl) (by kernel_rfl) (by kernel_rfl) (fun _ _ _ h => h) (yieldsIf_C (by rfl) (.tmp 2) rfl w.heap.size rfl _ _ (fun _ h => h)) hS ?_
  try simp only [List.getElem_toArray, List.getElem_cons_succ, List.getElem_cons_zero, Act.put, List.setIfInBounds_toArray, List.set_cons_zero, List.set_cons_succ]
  refine wpAnyH_take (i := 2) (v := ?_) rfl (by kernel_rfl) (by kernel_rfl) (by kernel_rfl) (fun _ _ _ h => h) (Or.inl ⟨by rfl, ?_⟩) hS ?_
  rotate_left
  · intro v _; go_simp; first | done | with_reducible rfl
  rotate_left
  simp only [List.getElem_toArray, List.getElem_cons_succ, List.getElem_cons_zero, Act.put, List.setIfInBounds_toArray, List.set_cons_zero, List.set_cons_succ]
  refine wpAnyH_all (rs := [1]) (by kernel_rfl) (by simp) ?_
  intro i hi
  simp only [List.mem_cons, List.not_mem_nil, or_false] at hi
  subst hi
  refine wpOp_wp rfl (by rfl) ?_
  go_simp
  refine (hone.out x0).mono ?_
  rintro e x1 ⟨rfl, hb⟩
  replace HR := Lib.hid (DigAt.below HR.out hb)
  replace HCc := Lib.hid (CAt.below HCc.out hb)
  replace HK := Lib.hid (KC.below HK.out hb)
  replace HB := Lib.hid (HB.out.trans (Below.mono hb HB.out.size))
  clear hb hS
  have hS : SC w.heap.size ak c x1 := HCc.out
  refine ⟨hS, ?_⟩
  try simp only [List.getElem_toArray, List.getElem_cons_succ, List.getElem_cons_zero, Act.put, List.setIfInBounds_toArray, List.set_cons_zero, List.set_cons_succ]
  have e0 : (⟨#[UInt8.ofNat (0 : Int).toNat]⟩ : ByteArray) = ⟨#[0]⟩ := rfl
  rw [e0]
  clear e0
  refine wpAnyH_take (i := 3) (v := ?_) rfl (by kernel_rfl) (by kernel_rfl) (by kernel_rfl) (fun _ _ _ h => h) (Or.inl ⟨by rfl, ?_⟩) hS ?_
  rotate_left
  · intro v _; go_simp; first | done | with_reducible rfl
  rotate_left
  simp only [List.getElem_toArray, List.getElem_cons_succ, List.getElem_cons_zero, Act.put, List.setIfInBounds_toArray, List.set_cons_zero, List.set_cons_succ]
  refine wpAnyH_all (rs := [4]) (by kernel_rfl) (by simp) ?_
  intro i hi
  simp only [List.mem_cons, List.not_mem_nil, or_false] at hi
  subst hi
  refine wpOp_wp rfl (by rfl) ?_
  go_simp
  refine (hcall.out x1 HK.out).mono ?_
  rintro e x2 ⟨rfl, hb⟩
  replace HR := Lib.hid (DigAt.below HR.out hb)
  replace HCc := Lib.hid (CAt.below HCc.out hb)
  replace HK := Lib.hid (KC.below HK.out hb)
  replace HB := Lib.hid (HB.out.trans (Below.mono hb HB.out.size))
  clear hb hS
  have hS : SC w.heap.size ak c x2 := HCc.out
  refine ⟨hS, ?_⟩
  try simp only [List.getElem_toArray, List.getElem_cons_succ, List.getElem_cons_zero, Act.put, List.setIfInBounds_toArray, List.set_cons_zero, List.set_cons_succ]
  refine wpAnyH_all (rs := [5]) (by kernel_rfl) (by simp) ?_
  intro i hi
  simp only [List.mem_cons, List.not_mem_nil, or_false] at hi
  subst hi
  refine wpOp_wp rfl (by rfl) ?_
  refine wp_store_dig (.tmp 4) (.tmp 9) rfl (w.heap.size + 1) rfl D hl.out rfl _ _ HR.out zrow ?_
  intro x3 h9 hk9 hB9 hs9
  have hS : SC w.heap.size ak c x3 := by unfold SC CAt; rw [hk9 _ (by omega)]; exact HCc.out
  refine ⟨hS, ?_⟩
  try simp only [List.getElem_toArray, List.getElem_cons_succ, List.getElem_cons_zero, Act.put, List.setIfInBounds_toArray, List.set_cons_zero, List.set_cons_succ]
  refine wpAnyH_done (by kernel_rfl) ?_ _
  go_wp2_with fail
  refine bodyPost_ret (v := .agg (Lib.byteCells D).toArray) ?_ rfl ⟨rfl, hB9 HB.out (by omega)⟩
  simp [results, Tryd.results42, asAddr, run_load_dig h9.out hl.out, Act.put]
def SC3 (b : Nat) (ak : Addr) (c : Nat) (b1 : Nat) (x : List UInt8) (b2 : Nat) (y : List UInt8) (W : World) : Prop := CAt b (.slice (some ak) 64 c) v0 W ∧ DigAt b1 x W ∧ DigAt b2 y W
set_option maxHeartbeats 8000000 in
set_option maxRecDepth 100000 in
theorem rjoin_calls (ak : Addr) (c : Nat) (x y : List UInt8) (hx : x.length = 32) (hy : y.length = 32) (w : World) (hK : KC w ak) :
    Calls Tryd.prog 36 #[cv ak c, .agg (Lib.byteCells x).toArray, .agg (Lib.byteCells y).toArray] w fun e w' => e = .returned (.agg (Lib.byteCells (joinP x y)).toArray) ∧ Below w.heap.size w w' := by
  have htx := fun W => rtxt_calls x hx W
  have hty := fun W => rtxt_calls y hy W
  obtain ⟨SA, hSA⟩ : ∃ s : ByteArray, s = ⟨x.toArray⟩ := ⟨_, rfl⟩
  obtain ⟨SB, hSB⟩ : ∃ s : ByteArray, s = ⟨y.toArray⟩ := ⟨_, rfl⟩
  rw [← hSA] at htx
  rw [← hSB] at hty
  have hA32 : SA.size = 32 := by rw [hSA]; show x.toArray.size = 32; rw [List.size_toArray, hx]
  have hB32 : SB.size = 32 := by rw [hSB]; show y.toArray.size = 32; rw [List.size_toArray, hy]
  have hsz : (⟨#[1]⟩ ++ SA ++ SB : ByteArray).size ≤ 1048576 := by rw [ByteArray.size_append, ByteArray.size_append]; show 1 + SA.size + SB.size ≤ _; omega
  have hda : (⟨#[1]⟩ ++ SA ++ SB : ByteArray).data.toList = 1 :: (x ++ y) := by rw [ByteArray.data_append, ByteArray.data_append, Array.toList_append, Array.toList_append, hSA, hSB]; rfl
  have hcall := fun W hk => rsum_calls ak c (⟨#[1]⟩ ++ SA ++ SB) hsz W hk
  rw [hda] at hcall
  have hone := fun W => cashbookref11_one.calls 1 _ W (rone_run 1 (by decide) (by decide))
  unfold joinP
  have hl := Lib.hid (sumL_len (1 :: (x ++ y)))
  generalize sumL (1 :: (x ++ y)) = D at hl hcall ⊢
  replace hcall := Lib.hid hcall
  replace hone := Lib.hid hone
  replace htx := Lib.hid htx
  replace hty := Lib.hid hty
  have hlt1 : (9223372036854775807 < 1 + SA.size) = False := eq_false (by omega)
  have hlt2 : (9223372036854775807 < 1 + SA.size + SB.size) = False := eq_false (by omega)
  replace hSA := Lib.hid hSA
  replace hSB := Lib.hid hSB
  replace hx := Lib.hid hx
  replace hy := Lib.hid hy
  replace hA32 := Lib.hid hA32
  replace hB32 := Lib.hid hB32
  clear hda hsz
  unfold cv at *
  go_enter Tryd.func36, Tryd.ntmps36
  go_upto_region 1 with fail
  generalize hw1 : World.alloc _ _ = w1
  have HCc : Hid (CAt w.heap.size (.slice (some ak) 64 c) v0 w1) := by
    rw [← hw1]; refine Lib.hid ?_; unfold CAt
    rw [Below.heap_alloc _ _ _ (by simp <;> omega), Below.heap_alloc _ _ _ (by simp <;> omega), Below.heap_alloc _ _ _ (by simp)]; exact heap_alloc_last _ _
  have HX : Hid (DigAt (w.heap.size + 1) x w1) := by
    rw [← hw1]; refine Lib.hid ?_; unfold DigAt
    rw [Below.heap_alloc _ _ _ (by simp <;> omega), Below.heap_alloc _ _ _ (by simp)]; exact heap_at1 _ _ _
  have hsz3 : ∀ (o1 o2 : Obj), ((w.alloc o1).alloc o2).heap.size = w.heap.size + 2 := fun _ _ => by simp
  have hsz4 : ∀ (o1 o2 o3 : Obj), (((w.alloc o1).alloc o2).alloc o3).heap.size = w.heap.size + 3 := fun _ _ _ => by simp
  have HY : Hid (DigAt (w.heap.size + 2) y w1) := by
    rw [← hw1]; refine Lib.hid ?_; unfold DigAt
    rw [Below.heap_alloc _ _ _ (by simp), ← hsz3]; first | exact heap_alloc_last _ _ | done
  have HR : Hid (DigAt (w.heap.size + 3) (List.replicate 32 0) w1) := by
    rw [← hw1]; refine Lib.hid ?_; unfold DigAt
    rw [← hsz4]; exact heap_alloc_last _ _
  have HB : Hid (Below w.heap.size w w1) := by
    rw [← hw1]; exact Lib.hid (((((Below.refl _ _).alloc (Nat.le_refl _) _).alloc (by simp) _).alloc (by simp <;> omega) _).alloc (by simp <;> omega) _)
  have HK := Lib.hid (hK.below HB.out)
  clear hw1 hK hsz3 hsz4
  refine wp_region_held (S := SC3 w.heap.size ak c (w.heap.size + 1) x (w.heap.size + 2) y) (by kernel_rfl) ?_
  change wpAnyH _ _ _ _ _ _ _ _ w1.drew
  have hdr : Below w1.heap.size w1 w1.drew := (Below.refl _ _).drew
  replace HR := Lib.hid (DigAt.below HR.out hdr)
  replace HCc := Lib.hid (CAt.below HCc.out hdr)
  replace HK := Lib.hid (KC.below HK.out hdr)
  replace HB := Lib.hid (HB.out.trans (Below.mono hdr HB.out.size))
  replace HX := Lib.hid (DigAt.below HX.out hdr)
  replace HY := Lib.hid (DigAt.below HY.out hdr)
  clear hdr
  generalize w1.drew = x0 at HR HCc HK HB HX HY ⊢
  have hS : SC3 w.heap.size ak c (w.heap.size + 1) x (w.heap.size + 2) y x0 := ⟨HCc.out, HX.out, HY.out⟩
  refine wpAnyH_take (i := 0) (v := _) rfl (by kernel_rfl) (by kernel_rfl) (by kernel_rfl) (fun _ _ _ h => h) (yieldsIf_C (by rfl) (.tmp 3) rfl w.heap.size rfl _ _ (fun _ h => h.1)) hS ?_
  try simp only [List.getElem_toArray, List.getElem_cons_succ, List.getElem_cons_zero, Act.put, List.setIfInBounds_toArray, List.set_cons_zero, List.set_cons_succ]
  refine wpAnyH_take (i := 2) (v := _) rfl (by kernel_rfl) (by kernel_rfl) (by kernel_rfl) (fun _ _ _ h => h) (yieldsIf_digA (by rfl) (.tmp 4) rfl ⟨w.heap.size+1,0,none⟩ rfl x hx.out (fun _ h => (DigAt.ad h.2.1))) hS ?_
  try simp only [List.getElem_toArray, List.getElem_cons_succ, List.getElem_cons_zero, Act.put, List.setIfInBounds_toArray, List.set_cons_zero, List.set_cons_succ]
  refine wpAnyH_take (i := 5) (v := _) rfl (by kernel_rfl) (by kernel_rfl) (by kernel_rfl) (fun _ _ _ h => h) (yieldsIf_digA (by rfl) (.tmp 5) rfl ⟨w.heap.size+2,0,none⟩ rfl y hy.out (fun _ h => (DigAt.ad h.2.2))) hS ?_
  try simp only [List.getElem_toArray, List.getElem_cons_succ, List.getElem_cons_zero, Act.put, List.setIfInBounds_toArray, List.set_cons_zero, List.set_cons_succ]
  refine wpAnyH_all (rs := [1]) (by kernel_rfl) (by simp) ?_
  intro i hi
  simp only [List.mem_cons, List.not_mem_nil, or_false] at hi
  subst hi
  refine wpOp_wp rfl (by rfl) ?_
  go_simp
  refine (hone.out x0).mono ?_
  rintro e x1 ⟨rfl, hb⟩
  replace HR := Lib.hid (DigAt.below HR.out hb)
  replace HCc := Lib.hid (CAt.below HCc.out hb)
  replace HK := Lib.hid (KC.below HK.out hb)
  replace HB := Lib.hid (HB.out.trans (Below.mono hb HB.out.size))
  replace HX := Lib.hid (DigAt.below HX.out hb)
  replace HY := Lib.hid (DigAt.below HY.out hb)
  clear hb hS
  have hS : SC3 w.heap.size ak c (w.heap.size + 1) x (w.heap.size + 2) y x1 := ⟨HCc.out, HX.out, HY.out⟩
  refine ⟨hS, ?_⟩
  try simp only [List.getElem_toArray, List.getElem_cons_succ, List.getElem_cons_zero, Act.put, List.setIfInBounds_toArray, List.set_cons_zero, List.set_cons_succ]
  have e0 : (⟨#[UInt8.ofNat (1 : Int).toNat]⟩ : ByteArray) = ⟨#[1]⟩ := rfl
  rw [e0]
  clear e0
  refine wpAnyH_all (rs := [3]) (by kernel_rfl) (by simp) ?_
  intro i hi
  simp only [List.mem_cons, List.not_mem_nil, or_false] at hi
  subst hi
  refine wpOp_wp rfl (by rfl) ?_
  go_simp
  refine (htx.out x1).mono ?_
  rintro e x2 ⟨rfl, hb⟩
  replace HR := Lib.hid (DigAt.below HR.out hb)
  replace HCc := Lib.hid (CAt.below HCc.out hb)
  replace HK := Lib.hid (KC.below HK.out hb)
  replace HB := Lib.hid (HB.out.trans (Below.mono hb HB.out.size))
  replace HX := Lib.hid (DigAt.below HX.out hb)
  replace HY := Lib.hid (DigAt.below HY.out hb)
  clear hb hS
  have hS : SC3 w.heap.size ak c (w.heap.size + 1) x (w.heap.size + 2) y x2 := ⟨HCc.out, HX.out, HY.out⟩
  refine ⟨hS, ?_⟩
  try simp only [List.getElem_toArray, List.getElem_cons_succ, List.getElem_cons_zero, Act.put, List.setIfInBounds_toArray, List.set_cons_zero, List.set_cons_succ]
  have hA2 := hA32.out
  have hB2 := hB32.out
  refine wpAnyH_take (i := 4) (v := ?_) rfl (by kernel_rfl) (by kernel_rfl) (by kernel_rfl) (fun _ _ _ h => h) (Or.inl ⟨by rfl, ?_⟩) hS ?_
  rotate_left
  · intro v _; go_simp; first | done | with_reducible rfl
  rotate_left
  simp only [List.getElem_toArray, List.getElem_cons_succ, List.getElem_cons_zero, Act.put, List.setIfInBounds_toArray, List.set_cons_zero, List.set_cons_succ]
  refine wpAnyH_all (rs := [6]) (by kernel_rfl) (by simp) ?_
  intro i hi
  simp only [List.mem_cons, List.not_mem_nil, or_false] at hi
  subst hi
  refine wpOp_wp rfl (by rfl) ?_
  go_simp
  refine (hty.out x2).mono ?_
  rintro e x3 ⟨rfl, hb⟩
  replace HR := Lib.hid (DigAt.below HR.out hb)
  replace HCc := Lib.hid (CAt.below HCc.out hb)
  replace HK := Lib.hid (KC.below HK.out hb)
  replace HB := Lib.hid (HB.out.trans (Below.mono hb HB.out.size))
  replace HX := Lib.hid (DigAt.below HX.out hb)
  replace HY := Lib.hid (DigAt.below HY.out hb)
  clear hb hS
  have hS : SC3 w.heap.size ak c (w.heap.size + 1) x (w.heap.size + 2) y x3 := ⟨HCc.out, HX.out, HY.out⟩
  refine ⟨hS, ?_⟩
  try simp only [List.getElem_toArray, List.getElem_cons_succ, List.getElem_cons_zero, Act.put, List.setIfInBounds_toArray, List.set_cons_zero, List.set_cons_succ]
  refine wpAnyH_take (i := 7) (v := ?_) rfl (by kernel_rfl) (by kernel_rfl) (by kernel_rfl) (fun _ _ _ h => h) (Or.inl ⟨by rfl, ?_⟩) hS ?_
  rotate_left
  · intro v _; go_simp; first | done | with_reducible rfl
  rotate_left
  simp only [List.getElem_toArray, List.getElem_cons_succ, List.getElem_cons_zero, Act.put, List.setIfInBounds_toArray, List.set_cons_zero, List.set_cons_succ]
  clear hA2 hB2
  refine wpAnyH_all (rs := [8]) (by kernel_rfl) (by simp) ?_
  intro i hi
  simp only [List.mem_cons, List.not_mem_nil, or_false] at hi
  subst hi
  refine wpOp_wp rfl (by rfl) ?_
  go_simp
  refine (hcall.out x3 HK.out).mono ?_
  rintro e x4 ⟨rfl, hb⟩
  replace HR := Lib.hid (DigAt.below HR.out hb)
  replace HCc := Lib.hid (CAt.below HCc.out hb)
  replace HK := Lib.hid (KC.below HK.out hb)
  replace HB := Lib.hid (HB.out.trans (Below.mono hb HB.out.size))
  replace HX := Lib.hid (DigAt.below HX.out hb)
  replace HY := Lib.hid (DigAt.below HY.out hb)
  clear hb hS
  have hS : SC3 w.heap.size ak c (w.heap.size + 1) x (w.heap.size + 2) y x4 := ⟨HCc.out, HX.out, HY.out⟩
  refine ⟨hS, ?_⟩
  try simp only [List.getElem_toArray, List.getElem_cons_succ, List.getElem_cons_zero, Act.put, List.setIfInBounds_toArray, List.set_cons_zero, List.set_cons_succ]
  refine wpAnyH_all (rs := [9]) (by kernel_rfl) (by simp) ?_
  intro i hi
  simp only [List.mem_cons, List.not_mem_nil, or_false] at hi
  subst hi
  refine wpOp_wp rfl (by rfl) ?_
  refine wp_store_dig (.tmp 6) (.tmp 15) rfl (w.heap.size + 3) rfl D hl.out rfl _ _ HR.out zrow ?_
  intro x5 h9 hk9 hB9 hs9
  have hS : SC3 w.heap.size ak c (w.heap.size + 1) x (w.heap.size + 2) y x5 := by
    refine ⟨?_, ?_, ?_⟩
    · unfold CAt; rw [hk9 _ (by omega)]; exact HCc.out
    · unfold DigAt; rw [hk9 _ (by omega)]; exact HX.out
    · unfold DigAt; rw [hk9 _ (by omega)]; exact HY.out
  refine ⟨hS, ?_⟩
  try simp only [List.getElem_toArray, List.getElem_cons_succ, List.getElem_cons_zero, Act.put, List.setIfInBounds_toArray, List.set_cons_zero, List.set_cons_succ]
  refine wpAnyH_done (by kernel_rfl) ?_ _
  go_wp2_with fail
  refine bodyPost_ret (v := .agg (Lib.byteCells D).toArray) ?_ rfl ⟨rfl, hB9 HB.out (by omega)⟩
  simp [results, Tryd.results36, asAddr, run_load_dig h9.out hl.out, Act.put]
end Go.Proofs.YtldpnmebjnkjeaaDoor.TrW
namespace Go.Proofs.YtldpnmebjnkjeaaDoor.TrW
open Go.RowKit Go.Proofs.YtldpnmebjnkjeaaDoorW.PrintWords Go.Proofs.YtldpnmebjnkjeaaDoor.PH1 Go.Proofs.YtldpnmebjnkjeaaDoor Go.Proofs.YtldpnmebjnkjeaaDoorW.PrintLast Go.Proofs.YtldpnmebjnkjeaaDoorW.PrintMore
open Go.Proofs.YtldpnmebjnkjeaaDoor.Sha
open Go.Proofs.YtldpnmebjnkjeaaDoor.Ref10 (wp_store_dig wp_load_dig wpOp_wp range_row yieldsIf_cell agg3 agg56 CV CAt KC run_load_C)
set_option linter.unusedVariables false
set_option linter.unusedSimpArgs false

theorem cut_init {A : Option Addr} {c : Nat} {ps : List (List UInt8)} (n : Nat) (hn : ps.length = n + 1) (hc : ps.length ≤ c) (W : World) :
    (Instr.slice 61 (.slice A ps.length c) none (some (.int .i64 (n : Int))) none).run Tryd.prog W = .ok (.slice A (ps.take n).length c) W := by
  obtain ⟨i, hi, hs⟩ := dig_info
  have h := cut_to (P := Tryd.prog) 61 24 .i64 und_digs hi A ps.length c (n : Int) (by omega) (by omega) hc W
  rw [Int.toNat_natCast] at h
  rw [h, List.length_take, Nat.min_eq_left (by omega)]
/-- What comes of it. -/
def endV (d : List UInt8) (i n : Nat) (ps : List (List UInt8)) (x : List UInt8) : Prop := x.length = 32 ∧ ((Tr.sides i n).length = ps.length → x = Tr.last alg d (Tr.sides i n).reverse ps)
def endB (i n : Nat) (ps : List (List UInt8)) : Bool := decide ((Tr.sides i n).length = ps.length)
set_option maxHeartbeats 8000000 in
set_option maxRecDepth 100000 in
theorem rends_one (ak : Addr) (c : Nat) (i : Int) (d : List UInt8) (hd : d.length = 32) (ps : List (List UInt8)) (A : Option Addr) (c1 : Nat) (w : World) (hC : CD A ps w) (hc : ps.length ≤ c1) (hK : KC w ak) (b : Bool) (hb : b = decide (ps.length = 0)) :
    Calls Tryd.prog 76 #[cv ak c, .agg (Lib.byteCells d).toArray, .int .i64 i, .int .i64 1, .slice A ps.length c1] w fun e w' => ∃ x, e = .returned (.tuple #[.agg (Lib.byteCells x).toArray, .bool b]) ∧ x = d ∧ Below w.heap.size w w' := by
  replace hd := Lib.hid hd
  unfold cv at *
  have hbb : ((ps.length : Int) == 0) = b := by
    rw [hb, Bool.eq_iff_iff, beq_iff_eq, decide_eq_true_eq]; omega
  have hbb2 : (ps.length == 0) = b := by
    rw [hb, Bool.eq_iff_iff, beq_iff_eq, decide_eq_true_eq]
  replace hb := Lib.hid hb
  go_enter Tryd.func76, Tryd.ntmps76
  go_upto_region 1 with fail
  generalize hw1 : World.alloc _ _ = w1
  have HCc : Hid (CAt w.heap.size (.slice (some ak) 64 c) v0 w1) := by
    rw [← hw1]; refine Lib.hid ?_; unfold CAt
    rw [Below.heap_alloc _ _ _ (by simp <;> omega), Below.heap_alloc _ _ _ (by simp)]; exact heap_alloc_last _ _
  have HX : Hid (DigAt (w.heap.size + 1) d w1) := by
    rw [← hw1]; refine Lib.hid ?_; unfold DigAt
    rw [Below.heap_alloc _ _ _ (by simp)]; exact heap_at1 _ _ _
  have hsz3 : ∀ (o1 o2 : Obj), ((w.alloc o1).alloc o2).heap.size = w.heap.size + 2 := fun _ _ => by simp
  have HR : Hid (DigAt (w.heap.size + 2) (List.replicate 32 0) w1) := by
    rw [← hw1]; refine Lib.hid ?_; unfold DigAt
    rw [← hsz3]; exact heap_alloc_last _ _
  have HB : Hid (Below w.heap.size w w1) := by
    rw [← hw1]; exact Lib.hid ((((Below.refl _ _).alloc (Nat.le_refl _) _).alloc (by simp) _).alloc (by simp <;> omega) _)
  have HK := Lib.hid (hK.below HB.out)
  have HC := Lib.hid (hC.below HB.out)
  clear hw1 hK hsz3 hC
  go_wp2_with (first | (guard_target = wpList _ _ _ (⟨some 21, _, _, _, _, _⟩ :: _) _ _; refine wpList_load_dig rfl (.tmp 6) rfl (w.heap.size + 1) rfl d hd.out _ _ HX.out ?_) | (guard_target = wpList _ _ _ (⟨none, _, _, _, _, _⟩ :: _) _ _; refine wpList_store_dig rfl (.tmp 10) (.tmp 21) rfl (w.heap.size + 2) rfl d hd.out rfl _ _ HR.out zrow ?_; intro w9 h9 _ hB9))
  refine bodyPost_ret (v := .tuple #[.agg (Lib.byteCells d).toArray, .bool b]) ?_ rfl ⟨d, rfl, rfl, hB9 HB.out (by omega)⟩
  simp [results, Tryd.results76, asAddr, run_load_dig h9.out hd.out, Act.put]
set_option maxHeartbeats 8000000 in
set_option maxRecDepth 100000 in
theorem rends_nil (ak : Addr) (c : Nat) (i n : Int) (hn : n ≠ 1) (d : List UInt8) (hd : d.length = 32) (A : Option Addr) (c1 : Nat) (w : World) (hC : CD A [] w) (hK : KC w ak) :
    Calls Tryd.prog 76 #[cv ak c, .agg (Lib.byteCells d).toArray, .int .i64 i, .int .i64 n, .slice A 0 c1] w fun e w' => ∃ x, e = .returned (.tuple #[.agg (Lib.byteCells x).toArray, .bool false]) ∧ x = d ∧ Below w.heap.size w w' := by
  replace hd := Lib.hid hd
  unfold cv at *
  have hn1 : (n == 1) = false := by rw [beq_eq_false_iff_ne]; exact hn
  replace hn := Lib.hid hn
  go_enter Tryd.func76, Tryd.ntmps76
  go_upto_region 1 with fail
  generalize hw1 : World.alloc _ _ = w1
  have HCc : Hid (CAt w.heap.size (.slice (some ak) 64 c) v0 w1) := by
    rw [← hw1]; refine Lib.hid ?_; unfold CAt
    rw [Below.heap_alloc _ _ _ (by simp <;> omega), Below.heap_alloc _ _ _ (by simp)]; exact heap_alloc_last _ _
  have HX : Hid (DigAt (w.heap.size + 1) d w1) := by
    rw [← hw1]; refine Lib.hid ?_; unfold DigAt
    rw [Below.heap_alloc _ _ _ (by simp)]; exact heap_at1 _ _ _
  have hsz3 : ∀ (o1 o2 : Obj), ((w.alloc o1).alloc o2).heap.size = w.heap.size + 2 := fun _ _ => by simp
  have HR : Hid (DigAt (w.heap.size + 2) (List.replicate 32 0) w1) := by
    rw [← hw1]; refine Lib.hid ?_; unfold DigAt
    rw [← hsz3]; exact heap_alloc_last _ _
  have HB : Hid (Below w.heap.size w w1) := by
    rw [← hw1]; exact Lib.hid ((((Below.refl _ _).alloc (Nat.le_refl _) _).alloc (by simp) _).alloc (by simp <;> omega) _)
  have HK := Lib.hid (hK.below HB.out)
  have HC := Lib.hid (hC.below HB.out)
  clear hw1 hK hsz3 hC
  go_wp2_with (first | (guard_target = wpList _ _ _ (⟨some 28, _, _, _, _, _⟩ :: _) _ _; refine wpList_load_dig rfl (.tmp 6) rfl (w.heap.size + 1) rfl d hd.out _ _ HX.out ?_) | (guard_target = wpList _ _ _ (⟨none, _, _, _, _, _⟩ :: _) _ _; refine wpList_store_dig rfl (.tmp 10) (.tmp 28) rfl (w.heap.size + 2) rfl d hd.out rfl _ _ HR.out zrow ?_; intro w9 h9 _ hB9))
  refine bodyPost_ret (v := .tuple #[.agg (Lib.byteCells d).toArray, .bool false]) ?_ rfl ⟨d, rfl, rfl, hB9 HB.out (by omega)⟩
  simp [results, Tryd.results76, asAddr, run_load_dig h9.out hd.out, Act.put]
theorem end_left {d x' q : List UInt8} {i n l : Nat} {ps : List (List UInt8)} (h2 : 2 ≤ n) (h1 : i < Tr.sp n) (hl : ps.length = l + 1) (hpq : ps = ps.take l ++ [q]) (hx : endV d i (Tr.sp n) (ps.take l) x') :
    endV d i n ps (joinP x' q) ∧ endB i n ps = endB i (Tr.sp n) (ps.take l) := by
  have hlt : (ps.take l).length = l := by rw [List.length_take]; omega
  have hs := Tr.sides_left i n h2 h1
  refine ⟨⟨sumL_len _, fun h => ?_⟩, ?_⟩
  · rw [hs, List.length_cons, hl] at h
    rw [hs, List.reverse_cons, hpq, Tr.last_app alg _ _ _ _ _ (by rw [hlt, List.length_reverse]; omega), ← hx.2 (by rw [hlt]; omega)]
    rfl
  · unfold endB
    rw [hs, decide_eq_decide, List.length_cons, hl, hlt]; omega
theorem end_right {d x' q : List UInt8} {i n l : Nat} {ps : List (List UInt8)} (h2 : 2 ≤ n) (h1 : ¬ i < Tr.sp n) (hl : ps.length = l + 1) (hpq : ps = ps.take l ++ [q]) (hx : endV d (i - Tr.sp n) (n - Tr.sp n) (ps.take l) x') :
    endV d i n ps (joinP q x') ∧ endB i n ps = endB (i - Tr.sp n) (n - Tr.sp n) (ps.take l) := by
  have hlt : (ps.take l).length = l := by rw [List.length_take]; omega
  have hs := Tr.sides_right i n h2 h1
  refine ⟨⟨sumL_len _, fun h => ?_⟩, ?_⟩
  · rw [hs, List.length_cons, hl] at h
    rw [hs, List.reverse_cons, hpq, Tr.last_app alg _ _ _ _ _ (by rw [hlt, List.length_reverse]; omega), ← hx.2 (by rw [hlt]; omega)]
    rfl
  · unfold endB
    rw [hs, decide_eq_decide, List.length_cons, hl, hlt]; omega
set_option maxHeartbeats 8000000 in
set_option maxRecDepth 100000 in
theorem rends_calls (ak : Addr) (c : Nat) : ∀ (m n i : Nat) (d : List UInt8) (ps : List (List UInt8)) (A : Option Addr) (c1 : Nat) (w : World), n ≤ m → n ≤ 1024 → i < n → d.length = 32 → CD A ps w → ps.length ≤ c1 → KC w ak →
    Calls Tryd.prog 76 #[cv ak c, .agg (Lib.byteCells d).toArray, .int .i64 (i : Int), .int .i64 (n : Int), .slice A ps.length c1] w fun e w' => ∃ x, e = .returned (.tuple #[.agg (Lib.byteCells x).toArray, .bool (endB i n ps)]) ∧ endV d i n ps x ∧ Below w.heap.size w w' := by
  intro m
  induction m with
  | zero => intro n i d ps A c1 w hm hn hi hd hC hc hK; omega
  | succ m ih =>
    intro n i d ps A c1 w hm hn hi hd hC hc hK
    by_cases h2 : 2 ≤ n
    · cases hps : ps with
      | nil =>
        subst hps
        have hs : 0 < (Tr.sides i n).length := by
          by_cases h1 : i < Tr.sp n
          · rw [Tr.sides_left i n h2 h1]; simp
          · rw [Tr.sides_right i n h2 h1]; simp
        have hb : endB i n [] = false := decF (by intro h; rw [List.length_nil] at h; omega)
        rw [hb]
        refine (rends_nil ak c (i : Int) (n : Int) (by omega) d hd A c1 w hC hK).mono ?_
        rintro e w' ⟨x, rfl, rfl, hb⟩
        exact ⟨x, rfl, ⟨hd, fun h => by rw [List.length_nil] at h; omega⟩, hb⟩
      | cons p0 ps0 =>
        rw [← hps]
        obtain ⟨l, hl⟩ : ∃ l, ps.length = l + 1 := ⟨ps0.length, by rw [hps]; rfl⟩
        clear hps
        have h3 := Tr.sp_lt h2
        have h4 := Tr.sp_pos n
        have hsp := fun W => rsplit_calls n hn W
        have hn1 : ((n : Int) == 1) = false := by rw [beq_eq_false_iff_ne]; omega
        have hn2 : (n == 1) = false := by rw [beq_eq_false_iff_ne]; omega
        have hl0 : ((ps.length : Int) == 0) = false := by rw [beq_eq_false_iff_ne]; omega
        have hl1 : (ps.length == 0) = false := by rw [beq_eq_false_iff_ne]; omega
        have hl2 : (ps.length : Int) - 1 = (l : Int) := by omega
        have hl3 : (l : Int) < (ps.length : Int) := by omega
        have hm2 := Kd.C_max hC
        obtain ⟨q, hq⟩ : ∃ q, ps[l]? = some q := ⟨_, List.getElem?_eq_getElem (by omega)⟩
        have hpq : ps = ps.take l ++ [q] := by
          have h := List.take_append_drop l ps
          rw [List.drop_eq_getElem_cons (by omega), List.drop_eq_nil_of_le (by omega)] at h
          have h5 := List.getElem?_eq_getElem (l := ps) (i := l) (by omega)
          rw [hq] at h5
          rw [Option.some.inj h5]
          exact h.symm
        obtain ⟨hql, ad, hA, _⟩ := hC.get hq
        subst hA
        have hdq : Hid (∀ W, CD (some ad) ps W → DigAd (ad.add (l * 32)) q W) := Lib.hid fun W h => by
          obtain ⟨_, ad2, h1, h5⟩ := h.get hq
          cases h1
          exact h5
        have hcut := fun W => cut_init (A := some ad) (c := c1) (ps := ps) l hl hc W
        have HC2 : Hid (∀ W, CD (some ad) ps W → CD (some ad) (ps.take l) W) := Lib.hid fun W h => Kd.C_take h (by omega)
        have htl : (ps.take l).length ≤ c1 := by rw [List.length_take]; omega
        by_cases h1 : i < Tr.sp n
        · have hEB := fun x' hx => (end_left (d := d) (x' := x') (q := q) h2 h1 hl hpq hx).2
          have hEV := fun x' hx => (end_left (d := d) (x' := x') (q := q) h2 h1 hl hpq hx).1
          have hrec := fun W hC hk => ih (Tr.sp n) i d (ps.take l) (some ad) c1 W (by omega) (by omega) h1 hd hC htl hk
          replace hEB : endB i n ps = endB i (Tr.sp n) (ps.take l) := by
            unfold endB
            rw [Tr.sides_left i n h2 h1, decide_eq_decide, List.length_cons, hl, List.length_take, hl]; omega
          obtain ⟨k, hk⟩ : ∃ k, k = Tr.sp n := ⟨_, rfl⟩
          rw [← hk] at h3 h4 hsp h1 hEB hEV hrec
          replace hk := Lib.hid hk
          have h1' : (i : Int) < (k : Int) := by omega
          have hcc := HC2.out
          obtain ⟨P1, hP1⟩ : ∃ P1, P1 = ps.take l := ⟨_, rfl⟩
          rw [← hP1] at hcut hcc htl hrec hEB hEV
          clear HC2
          replace hP1 := Lib.hid hP1
          replace hcut := Lib.hid hcut
          replace hcc := Lib.hid hcc
          replace htl := Lib.hid htl
          replace hrec := Lib.hid hrec
          replace hsp := Lib.hid hsp
          replace hql := Lib.hid hql
          replace hpq := Lib.hid hpq
          replace hq := Lib.hid hq
          replace hd := Lib.hid hd
          replace hEB := Lib.hid hEB
          replace hEV := Lib.hid hEV
          replace hl := Lib.hid hl
          clear ih
          unfold cv at *
          rw [hEB.out]
          go_enter Tryd.func76, Tryd.ntmps76
          go_upto_region 1 with fail
          generalize hw1 : World.alloc _ _ = w1
          have HCc : Hid (CAt w.heap.size (.slice (some ak) 64 c) v0 w1) := by
            rw [← hw1]; refine Lib.hid ?_; unfold CAt
            rw [Below.heap_alloc _ _ _ (by simp <;> omega), Below.heap_alloc _ _ _ (by simp)]; exact heap_alloc_last _ _
          have HX : Hid (DigAt (w.heap.size + 1) d w1) := by
            rw [← hw1]; refine Lib.hid ?_; unfold DigAt
            rw [Below.heap_alloc _ _ _ (by simp)]; exact heap_at1 _ _ _
          have hsz3 : ∀ (o1 o2 : Obj), ((w.alloc o1).alloc o2).heap.size = w.heap.size + 2 := fun _ _ => by simp
          have HR : Hid (DigAt (w.heap.size + 2) (List.replicate 32 0) w1) := by
            rw [← hw1]; refine Lib.hid ?_; unfold DigAt
            rw [← hsz3]; exact heap_alloc_last _ _
          have HB : Hid (Below w.heap.size w w1) := by
            rw [← hw1]; exact Lib.hid ((((Below.refl _ _).alloc (Nat.le_refl _) _).alloc (by simp) _).alloc (by simp <;> omega) _)
          have HK := Lib.hid (hK.below HB.out)
          have HC := Lib.hid (hC.below HB.out)
          clear hw1 hK hsz3 hC
          go_wp2_with fail
          refine (hsp.out w1).mono ?_
          rintro e w2 ⟨rfl, hb_⟩
          replace hb_ := hb_.below
          replace HR := Lib.hid (DigAt.below HR.out hb_)
          replace HCc := Lib.hid (CAt.below HCc.out hb_)
          replace HK := Lib.hid (KC.below HK.out hb_)
          replace HX := Lib.hid (DigAt.below HX.out hb_)
          replace HC := Lib.hid (CD.below HC.out hb_)
          replace HB := Lib.hid (HB.out.trans (Below.mono hb_ HB.out.size))
          clear hb_
          have hq2 := hdq.out w2 HC.out
          go_upto_region 7 with (first | (guard_target = wpList _ _ _ (⟨some 36, _, _, _, _, _⟩ :: _) _ _; refine wpList_load_digA rfl (.tmp 35) rfl (ad.add (l * 32)) rfl q hql.out hq2 ?_) | (guard_target = wpList _ _ _ (⟨none, _, _, _, _, _⟩ :: _) _ _; refine wpList_store_dig rfl (.tmp 13) (.tmp 36) rfl w2.heap.size rfl q hql.out rfl _ _ (heap_alloc_last _ _) zrow ?_; intro w3 h3 _ hB3))
          clear hq2
          have hb3 : Below w2.heap.size w2 w3 := hB3 ((Below.refl _ _).alloc (Nat.le_refl _) _) (Nat.le_refl _)
          have H13 : Hid (DigAt w2.heap.size q w3) := h3
          replace HR := Lib.hid (DigAt.below HR.out hb3)
          replace HCc := Lib.hid (CAt.below HCc.out hb3)
          replace HK := Lib.hid (KC.below HK.out hb3)
          replace HX := Lib.hid (DigAt.below HX.out hb3)
          replace HC := Lib.hid (CD.below HC.out hb3)
          replace HB := Lib.hid (HB.out.trans (Below.mono hb3 HB.out.size))
          clear hb3 hB3 h3
          generalize w2.heap.size = b13 at H13 ⊢
          go_wp2_with (first | (guard_target = wpList _ _ _ (⟨some 41, _, _, _, _, _⟩ :: _) _ _; refine wpList_slice rfl und_digs' rfl (.slice (some ad) ps.length c1) rfl none (some (.int .i64 l)) rfl rfl _ hcut.out ?_) | (guard_target = wpList _ _ _ (⟨some 46, _, _, _, _, _⟩ :: _) _ _; refine wpList_load_C rfl (.tmp 5) rfl w.heap.size rfl _ _ HCc.out ?_) | (guard_target = wpList _ _ _ (⟨some 47, _, _, _, _, _⟩ :: _) _ _; refine wpList_load_dig rfl (.tmp 6) rfl (w.heap.size + 1) rfl d hd.out _ _ HX.out ?_))
          refine (hrec.out w3 (hcc.out w3 HC.out) HK.out).mono ?_
          rintro e w4 ⟨x', rfl, hx', hb_⟩
          replace HR := Lib.hid (DigAt.below HR.out hb_)
          replace HCc := Lib.hid (CAt.below HCc.out hb_)
          replace HK := Lib.hid (KC.below HK.out hb_)
          replace HX := Lib.hid (DigAt.below HX.out hb_)
          replace HC := Lib.hid (CD.below HC.out hb_)
          replace HB := Lib.hid (HB.out.trans (Below.mono hb_ HB.out.size))
          replace H13 := Lib.hid (DigAt.below H13.out hb_)
          clear hb_
          have hxl := hx'.1
          replace hEV := Lib.hid (hEV.out x' hx')
          clear hx'
          replace hxl := Lib.hid hxl
          go_upto_region 10 with (guard_target = wpList _ _ _ (⟨none, _, _, _, _, _⟩ :: _) _ _; refine wpList_store_dig rfl (.tmp 15) (.tmp 52) rfl w4.heap.size rfl x' hxl.out rfl _ _ (heap_alloc_last _ _) zrow ?_; intro w5 h5 _ hB5)
          have hb5 : Below w4.heap.size w4 w5 := hB5 ((Below.refl _ _).alloc (Nat.le_refl _) _) (Nat.le_refl _)
          have H15 : Hid (DigAt w4.heap.size x' w5) := h5
          replace HR := Lib.hid (DigAt.below HR.out hb5)
          replace HCc := Lib.hid (CAt.below HCc.out hb5)
          replace HK := Lib.hid (KC.below HK.out hb5)
          replace HX := Lib.hid (DigAt.below HX.out hb5)
          replace HC := Lib.hid (CD.below HC.out hb5)
          replace HB := Lib.hid (HB.out.trans (Below.mono hb5 HB.out.size))
          replace H13 := Lib.hid (DigAt.below H13.out hb5)
          clear hb5 hB5 h5
          generalize w4.heap.size = b15 at H15 ⊢
          go_wp2_with (first | (guard_target = wpList _ _ _ (⟨some 54, _, _, _, _, _⟩ :: _) _ _; refine wpList_load_C rfl (.tmp 5) rfl w.heap.size rfl _ _ HCc.out ?_) | (guard_target = wpList _ _ _ (⟨some 55, _, _, _, _, _⟩ :: _) _ _; refine wpList_load_dig rfl (.tmp 15) rfl b15 rfl x' hxl.out _ _ H15.out ?_) | (guard_target = wpList _ _ _ (⟨some 56, _, _, _, _, _⟩ :: _) _ _; refine wpList_load_dig rfl (.tmp 13) rfl b13 rfl q hql.out _ _ H13.out ?_))
          refine (rjoin_calls ak c x' q hxl.out hql.out w5 HK.out).mono ?_
          rintro e w6 ⟨rfl, hb_⟩
          replace HR := Lib.hid (DigAt.below HR.out hb_)
          replace HCc := Lib.hid (CAt.below HCc.out hb_)
          replace HK := Lib.hid (KC.below HK.out hb_)
          replace HX := Lib.hid (DigAt.below HX.out hb_)
          replace HC := Lib.hid (CD.below HC.out hb_)
          replace HB := Lib.hid (HB.out.trans (Below.mono hb_ HB.out.size))
          clear hb_ H13 H15
          have hJ : Hid ((joinP x' q).length = 32) := Lib.hid (sumL_len _)
          generalize joinP x' q = J at hJ hEV ⊢
          go_wp2_with (guard_target = wpList _ _ _ (⟨none, _, _, _, _, _⟩ :: _) _ _; refine wpList_store_dig rfl (.tmp 10) (.tmp 57) rfl (w.heap.size + 2) rfl J hJ.out rfl _ _ HR.out zrow ?_; intro w9 h9 _ hB9)
          generalize endB _ _ P1 = BB at *
          refine bodyPost_ret (v := .tuple #[.agg (Lib.byteCells J).toArray, .bool BB]) ?_ rfl ⟨J, rfl, hEV.out, hB9 HB.out (by omega)⟩
          simp [results, Tryd.results76, asAddr, run_load_dig h9.out hJ.out, Act.put]
        · have hEV := fun x' hx => (end_right (d := d) (x' := x') (q := q) h2 h1 hl hpq hx).1
          have hrec := fun W hC hk => ih (n - Tr.sp n) (i - Tr.sp n) d (ps.take l) (some ad) c1 W (by omega) (by omega) (by omega) hd hC htl hk
          have hEB : endB i n ps = endB (i - Tr.sp n) (n - Tr.sp n) (ps.take l) := by
            unfold endB
            rw [Tr.sides_right i n h2 h1, decide_eq_decide, List.length_cons, hl, List.length_take, hl]; omega
          obtain ⟨k, hk⟩ : ∃ k, k = Tr.sp n := ⟨_, rfl⟩
          rw [← hk] at h3 h4 hsp h1 hEB hEV hrec
          replace hk := Lib.hid hk
          have h1' : ¬ (i : Int) < (k : Int) := by omega
          have e1 : (i : Int) - (k : Int) = ((i - k : Nat) : Int) := by omega
          have e2 : (n : Int) - (k : Int) = ((n - k : Nat) : Int) := by omega
          have e3 : IntKind.i64.wrap ((i : Int) - (k : Int)) = ((i - k : Nat) : Int) := by rw [e1]; exact Go.IntWalk.i64_in _ ⟨by omega, by omega⟩
          have e4 : IntKind.i64.wrap ((n : Int) - (k : Int)) = ((n - k : Nat) : Int) := by rw [e2]; exact Go.IntWalk.i64_in _ ⟨by omega, by omega⟩
          have hcc := HC2.out
          obtain ⟨P1, hP1⟩ : ∃ P1, P1 = ps.take l := ⟨_, rfl⟩
          rw [← hP1] at hcut hcc htl hrec hEB hEV
          clear HC2
          replace hP1 := Lib.hid hP1
          replace hcut := Lib.hid hcut
          replace hcc := Lib.hid hcc
          replace htl := Lib.hid htl
          replace hrec := Lib.hid hrec
          replace hsp := Lib.hid hsp
          replace hql := Lib.hid hql
          replace hpq := Lib.hid hpq
          replace hq := Lib.hid hq
          replace hd := Lib.hid hd
          replace hEB := Lib.hid hEB
          replace hEV := Lib.hid hEV
          replace hl := Lib.hid hl
          clear ih
          unfold cv at *
          rw [hEB.out]
          go_enter Tryd.func76, Tryd.ntmps76
          go_upto_region 1 with fail
          generalize hw1 : World.alloc _ _ = w1
          have HCc : Hid (CAt w.heap.size (.slice (some ak) 64 c) v0 w1) := by
            rw [← hw1]; refine Lib.hid ?_; unfold CAt
            rw [Below.heap_alloc _ _ _ (by simp <;> omega), Below.heap_alloc _ _ _ (by simp)]; exact heap_alloc_last _ _
          have HX : Hid (DigAt (w.heap.size + 1) d w1) := by
            rw [← hw1]; refine Lib.hid ?_; unfold DigAt
            rw [Below.heap_alloc _ _ _ (by simp)]; exact heap_at1 _ _ _
          have hsz3 : ∀ (o1 o2 : Obj), ((w.alloc o1).alloc o2).heap.size = w.heap.size + 2 := fun _ _ => by simp
          have HR : Hid (DigAt (w.heap.size + 2) (List.replicate 32 0) w1) := by
            rw [← hw1]; refine Lib.hid ?_; unfold DigAt
            rw [← hsz3]; exact heap_alloc_last _ _
          have HB : Hid (Below w.heap.size w w1) := by
            rw [← hw1]; exact Lib.hid ((((Below.refl _ _).alloc (Nat.le_refl _) _).alloc (by simp) _).alloc (by simp <;> omega) _)
          have HK := Lib.hid (hK.below HB.out)
          have HC := Lib.hid (hC.below HB.out)
          clear hw1 hK hsz3 hC
          go_wp2_with fail
          refine (hsp.out w1).mono ?_
          rintro e w2 ⟨rfl, hb_⟩
          replace hb_ := hb_.below
          replace HR := Lib.hid (DigAt.below HR.out hb_)
          replace HCc := Lib.hid (CAt.below HCc.out hb_)
          replace HK := Lib.hid (KC.below HK.out hb_)
          replace HX := Lib.hid (DigAt.below HX.out hb_)
          replace HC := Lib.hid (CD.below HC.out hb_)
          replace HB := Lib.hid (HB.out.trans (Below.mono hb_ HB.out.size))
          clear hb_
          have hq2 := hdq.out w2 HC.out
          go_upto_region 7 with (first | (guard_target = wpList _ _ _ (⟨some 36, _, _, _, _, _⟩ :: _) _ _; refine wpList_load_digA rfl (.tmp 35) rfl (ad.add (l * 32)) rfl q hql.out hq2 ?_) | (guard_target = wpList _ _ _ (⟨none, _, _, _, _, _⟩ :: _) _ _; refine wpList_store_dig rfl (.tmp 13) (.tmp 36) rfl w2.heap.size rfl q hql.out rfl _ _ (heap_alloc_last _ _) zrow ?_; intro w3 h3 _ hB3))
          clear hq2
          have hb3 : Below w2.heap.size w2 w3 := hB3 ((Below.refl _ _).alloc (Nat.le_refl _) _) (Nat.le_refl _)
          have H13 : Hid (DigAt w2.heap.size q w3) := h3
          replace HR := Lib.hid (DigAt.below HR.out hb3)
          replace HCc := Lib.hid (CAt.below HCc.out hb3)
          replace HK := Lib.hid (KC.below HK.out hb3)
          replace HX := Lib.hid (DigAt.below HX.out hb3)
          replace HC := Lib.hid (CD.below HC.out hb3)
          replace HB := Lib.hid (HB.out.trans (Below.mono hb3 HB.out.size))
          clear hb3 hB3 h3
          generalize w2.heap.size = b13 at H13 ⊢
          go_wp2_with (first | (guard_target = wpList _ _ _ (⟨some 41, _, _, _, _, _⟩ :: _) _ _; refine wpList_slice rfl und_digs' rfl (.slice (some ad) ps.length c1) rfl none (some (.int .i64 l)) rfl rfl _ hcut.out ?_) | (guard_target = wpList _ _ _ (⟨some 60, _, _, _, _, _⟩ :: _) _ _; refine wpList_load_C rfl (.tmp 5) rfl w.heap.size rfl _ _ HCc.out ?_) | (guard_target = wpList _ _ _ (⟨some 61, _, _, _, _, _⟩ :: _) _ _; refine wpList_load_dig rfl (.tmp 6) rfl (w.heap.size + 1) rfl d hd.out _ _ HX.out ?_))
          refine (hrec.out w3 (hcc.out w3 HC.out) HK.out).mono ?_
          rintro e w4 ⟨x', rfl, hx', hb_⟩
          replace HR := Lib.hid (DigAt.below HR.out hb_)
          replace HCc := Lib.hid (CAt.below HCc.out hb_)
          replace HK := Lib.hid (KC.below HK.out hb_)
          replace HX := Lib.hid (DigAt.below HX.out hb_)
          replace HC := Lib.hid (CD.below HC.out hb_)
          replace HB := Lib.hid (HB.out.trans (Below.mono hb_ HB.out.size))
          replace H13 := Lib.hid (DigAt.below H13.out hb_)
          clear hb_
          have hxl := hx'.1
          replace hEV := Lib.hid (hEV.out x' hx')
          clear hx'
          replace hxl := Lib.hid hxl
          go_upto_region 12 with (guard_target = wpList _ _ _ (⟨none, _, _, _, _, _⟩ :: _) _ _; refine wpList_store_dig rfl (.tmp 17) (.tmp 70) rfl w4.heap.size rfl x' hxl.out rfl _ _ (heap_alloc_last _ _) zrow ?_; intro w5 h5 _ hB5)
          have hb5 : Below w4.heap.size w4 w5 := hB5 ((Below.refl _ _).alloc (Nat.le_refl _) _) (Nat.le_refl _)
          have H15 : Hid (DigAt w4.heap.size x' w5) := h5
          replace HR := Lib.hid (DigAt.below HR.out hb5)
          replace HCc := Lib.hid (CAt.below HCc.out hb5)
          replace HK := Lib.hid (KC.below HK.out hb5)
          replace HX := Lib.hid (DigAt.below HX.out hb5)
          replace HC := Lib.hid (CD.below HC.out hb5)
          replace HB := Lib.hid (HB.out.trans (Below.mono hb5 HB.out.size))
          replace H13 := Lib.hid (DigAt.below H13.out hb5)
          clear hb5 hB5 h5
          generalize w4.heap.size = b15 at H15 ⊢
          go_wp2_with (first | (guard_target = wpList _ _ _ (⟨some 72, _, _, _, _, _⟩ :: _) _ _; refine wpList_load_C rfl (.tmp 5) rfl w.heap.size rfl _ _ HCc.out ?_) | (guard_target = wpList _ _ _ (⟨some 74, _, _, _, _, _⟩ :: _) _ _; refine wpList_load_dig rfl (.tmp 17) rfl b15 rfl x' hxl.out _ _ H15.out ?_) | (guard_target = wpList _ _ _ (⟨some 73, _, _, _, _, _⟩ :: _) _ _; refine wpList_load_dig rfl (.tmp 13) rfl b13 rfl q hql.out _ _ H13.out ?_))
          refine (rjoin_calls ak c q x' hql.out hxl.out w5 HK.out).mono ?_
          rintro e w6 ⟨rfl, hb_⟩
          replace HR := Lib.hid (DigAt.below HR.out hb_)
          replace HCc := Lib.hid (CAt.below HCc.out hb_)
          replace HK := Lib.hid (KC.below HK.out hb_)
          replace HX := Lib.hid (DigAt.below HX.out hb_)
          replace HC := Lib.hid (CD.below HC.out hb_)
          replace HB := Lib.hid (HB.out.trans (Below.mono hb_ HB.out.size))
          clear hb_ H13 H15
          have hJ : Hid ((joinP q x').length = 32) := Lib.hid (sumL_len _)
          generalize joinP q x' = J at hJ hEV ⊢
          go_wp2_with (guard_target = wpList _ _ _ (⟨none, _, _, _, _, _⟩ :: _) _ _; refine wpList_store_dig rfl (.tmp 10) (.tmp 75) rfl (w.heap.size + 2) rfl J hJ.out rfl _ _ HR.out zrow ?_; intro w9 h9 _ hB9)
          generalize endB _ _ P1 = BB at *
          refine bodyPost_ret (v := .tuple #[.agg (Lib.byteCells J).toArray, .bool BB]) ?_ rfl ⟨J, rfl, hEV.out, hB9 HB.out (by omega)⟩
          simp [results, Tryd.results76, asAddr, run_load_dig h9.out hJ.out, Act.put]
    · obtain rfl : n = 1 := by omega
      have hs : Tr.sides i 1 = [] := Tr.sides_small _ _ (by omega)
      have hb : endB i 1 ps = decide (ps.length = 0) := by unfold endB; rw [hs, decide_eq_decide, List.length_nil]; exact ⟨fun h => h.symm, fun h => h.symm⟩
      refine (rends_one ak c (i : Int) d hd ps A c1 w hC hc hK _ hb).mono ?_
      rintro e w' ⟨x, rfl, rfl, hb⟩
      refine ⟨x, rfl, ⟨hd, fun h => ?_⟩, hb⟩
      rw [hs]
      rfl
end Go.Proofs.YtldpnmebjnkjeaaDoor.TrW
namespace Go.Proofs.YtldpnmebjnkjeaaDoor.TrW
open Go.RowKit Go.Proofs.YtldpnmebjnkjeaaDoorW.PrintWords Go.Proofs.YtldpnmebjnkjeaaDoor.PH1 Go.Proofs.YtldpnmebjnkjeaaDoor Go.Proofs.YtldpnmebjnkjeaaDoorW.PrintLast Go.Proofs.YtldpnmebjnkjeaaDoorW.PrintMore
open Go.Proofs.YtldpnmebjnkjeaaDoor.Sha
open Go.Proofs.YtldpnmebjnkjeaaDoor.Ref10 (wp_store_dig wp_load_dig wpOp_wp range_row yieldsIf_cell agg3 agg56 CV CAt KC run_load_C)
set_option linter.unusedVariables false
set_option linter.unusedSimpArgs false

set_option maxHeartbeats 8000000 in
set_option maxRecDepth 100000 in
theorem rCheckPath_arg (ak : Addr) (c : Nat) (s : ByteArray) (i n : Int) (r : List UInt8) (ps : List (List UInt8)) (A : Option Addr) (c1 : Nat) (w : World) (h : i < 0 ∨ n ≤ i ∨ 1024 < n) :
    Calls Tryd.prog 45 #[cv ak c, .string s, .int .i64 i, .int .i64 n, .agg (Lib.byteCells r).toArray, .slice A ps.length c1] w fun e w' => e = .returned (.bool (pathV s.data.toList i n r ps)) ∧ Below w.heap.size w w' := by
  have hv : pathV s.data.toList i n r ps = false := decF (by omega)
  rw [hv]
  clear hv
  unfold cv
  by_cases h0 : i < 0
  · replace h := Lib.hid h
    go_enter Tryd.func45, Tryd.ntmps45
    go_wp2_with fail
    go_ret
    exact ⟨rfl, ((Below.refl _ _).alloc (Nat.le_refl _) _).alloc (by simp) _⟩
  · by_cases h1 : n ≤ i
    · have d0 := decF h0
      replace h := Lib.hid h
      go_enter Tryd.func45, Tryd.ntmps45
      go_wp2_with fail
      go_ret
      exact ⟨rfl, ((Below.refl _ _).alloc (Nat.le_refl _) _).alloc (by simp) _⟩
    · have h2 : 1024 < n := by omega
      have d0 := decF h0
      have d1 := decF h1
      replace h := Lib.hid h
      go_enter Tryd.func45, Tryd.ntmps45
      go_wp2_with fail
      go_ret
      exact ⟨rfl, ((Below.refl _ _).alloc (Nat.le_refl _) _).alloc (by simp) _⟩
set_option maxHeartbeats 8000000 in
set_option maxRecDepth 100000 in
theorem rCheckPath_ok (ak : Addr) (c : Nat) (s : ByteArray) (hs : s.size ≤ 1048575) (i n : Nat) (r : List UInt8) (hr : r.length = 32) (ps : List (List UInt8)) (A : Option Addr) (c1 : Nat) (w : World) (hC : CD A ps w) (hc : ps.length ≤ c1) (hi : i < n) (hn : n ≤ 1024) (hK : KC w ak) :
    Calls Tryd.prog 45 #[cv ak c, .string s, .int .i64 (i : Int), .int .i64 (n : Int), .agg (Lib.byteCells r).toArray, .slice A ps.length c1] w fun e w' => e = .returned (.bool (pathV s.data.toList i n r ps)) ∧ Below w.heap.size w w' := by
  have hv : pathV s.data.toList i n r ps = (endB i n ps && decide (Tr.last alg (leafP s.data.toList) (Tr.sides i n).reverse ps = r)) := by
    unfold pathV endB
    simp only [Int.toNat_natCast]
    rw [← Bool.decide_and, decide_eq_decide]
    exact ⟨fun h => h.2.2.2, fun h2 => ⟨by omega, by omega, by omega, h2⟩⟩
  obtain ⟨V, hVV⟩ : ∃ V, V = pathV s.data.toList i n r ps := ⟨_, rfl⟩
  rw [← hVV]
  rw [hv] at hVV
  clear hv
  have hlf : (leafP s.data.toList).length = 32 := sumL_len _
  have hleaf := fun W hk => rleaf_calls ak c s hs W hk
  generalize leafP s.data.toList = D at hlf hleaf hVV
  have hends := fun W hC hk => rends_calls ak c n n i D ps A c1 W (Nat.le_refl _) hn hi hlf hC hc hk
  unfold endV at hends
  have d0 : decide ((i : Int) < 0) = false := decF (by omega)
  have d1 : decide ((n : Int) ≤ (i : Int)) = false := decF (by omega)
  have d1' : decide (n ≤ i) = false := decF (by omega)
  have d2 : decide (1024 < (n : Int)) = false := decF (by omega)
  have d2' : decide (1024 < n) = false := decF (by omega)
  replace hVV := Lib.hid hVV
  replace hleaf := Lib.hid hleaf
  replace hends := Lib.hid hends
  replace hr := Lib.hid hr
  replace hlf := Lib.hid hlf
  unfold cv at *
  go_enter Tryd.func45, Tryd.ntmps45
  go_upto_region 1 with fail
  generalize hw1 : World.alloc _ _ = w1
  have HCc : Hid (CAt w.heap.size (.slice (some ak) 64 c) v0 w1) := by
    rw [← hw1]; refine Lib.hid ?_; unfold CAt
    rw [Below.heap_alloc _ _ _ (by simp)]; exact heap_alloc_last _ _
  have HX : Hid (DigAt (w.heap.size + 1) r w1) := by
    rw [← hw1]; refine Lib.hid ?_; unfold DigAt; exact heap_at1 _ _ _
  have HB : Hid (Below w.heap.size w w1) := by
    rw [← hw1]; exact Lib.hid (((Below.refl _ _).alloc (Nat.le_refl _) _).alloc (by simp) _)
  have HK := Lib.hid (hK.below HB.out)
  have HC := Lib.hid (hC.below HB.out)
  clear hw1 hK hC
  go_upto_region 3 with fail
  refine wp_region_held (S := SC w.heap.size ak c) (by kernel_rfl) ?_
  change wpAnyH _ _ _ _ _ _ _ _ w1.drew
  have hdr : Below w1.heap.size w1 w1.drew := (Below.refl _ _).drew
  replace HCc := Lib.hid (CAt.below HCc.out hdr)
  replace HK := Lib.hid (KC.below HK.out hdr)
  replace HX := Lib.hid (DigAt.below HX.out hdr)
  replace HC := Lib.hid (CD.below HC.out hdr)
  replace HB := Lib.hid (HB.out.trans (Below.mono hdr HB.out.size))
  clear hdr
  have hs2 : Hid (w.heap.size + 2 ≤ w1.drew.heap.size) := Lib.hid (by have := dig_lt HX.out; omega)
  generalize w1.drew = x0 at HCc HK HX HC HB hs2 ⊢
  have hS : SC w.heap.size ak c x0 := HCc.out
  refine wpAnyH_take (i := 0) (v := _) rfl (by kernel_rfl) (by kernel_rfl) (by kernel_rfl) (fun _ _ _ h => h) (yieldsIf_C (by rfl) (.tmp 6) rfl w.heap.size rfl _ _ (fun _ h => h)) hS ?_
  try simp only [List.getElem_toArray, List.getElem_cons_succ, List.getElem_cons_zero, Act.put, List.setIfInBounds_toArray, List.set_cons_zero, List.set_cons_succ]
  refine wpAnyH_take (i := 1) (v := _) rfl (by kernel_rfl) (by kernel_rfl) (by kernel_rfl) (fun _ _ _ h => h) (yieldsIf_C (by rfl) (.tmp 6) rfl w.heap.size rfl _ _ (fun _ h => h)) hS ?_
  try simp only [List.getElem_toArray, List.getElem_cons_succ, List.getElem_cons_zero, Act.put, List.setIfInBounds_toArray, List.set_cons_zero, List.set_cons_succ]
  refine wpAnyH_take (i := 2) (v := ?_) rfl (by kernel_rfl) (by kernel_rfl) (by kernel_rfl) (fun _ _ _ h => h) (Or.inl ⟨by rfl, ?_⟩) hS ?_
  rotate_left
  · intro v _; go_simp; first | done | with_reducible rfl
  rotate_left
  simp only [List.getElem_toArray, List.getElem_cons_succ, List.getElem_cons_zero, Act.put, List.setIfInBounds_toArray, List.set_cons_zero, List.set_cons_succ]
  refine wpAnyH_take (i := 4) (v := ?_) rfl (by kernel_rfl) (by kernel_rfl) (by kernel_rfl) (fun _ _ _ h => h) (Or.inl ⟨by rfl, ?_⟩) hS ?_
  rotate_left
  · intro v _; go_simp; first | done | with_reducible rfl
  rotate_left
  simp only [List.getElem_toArray, List.getElem_cons_succ, List.getElem_cons_zero, Act.put, List.setIfInBounds_toArray, List.set_cons_zero, List.set_cons_succ]
  refine wpAnyH_take (i := 5) (v := ?_) rfl (by kernel_rfl) (by kernel_rfl) (by kernel_rfl) (fun _ _ _ h => h) (Or.inl ⟨by rfl, ?_⟩) hS ?_
  rotate_left
  · intro v _; go_simp; first | done | with_reducible rfl
  rotate_left
  simp only [List.getElem_toArray, List.getElem_cons_succ, List.getElem_cons_zero, Act.put, List.setIfInBounds_toArray, List.set_cons_zero, List.set_cons_succ]
  refine wpAnyH_take (i := 6) (v := ?_) rfl (by kernel_rfl) (by kernel_rfl) (by kernel_rfl) (fun _ _ _ h => h) (Or.inl ⟨by rfl, ?_⟩) hS ?_
  rotate_left
  · intro v _; go_simp; first | done | with_reducible rfl
  rotate_left
  simp only [List.getElem_toArray, List.getElem_cons_succ, List.getElem_cons_zero, Act.put, List.setIfInBounds_toArray, List.set_cons_zero, List.set_cons_succ]
  refine wpAnyH_all (rs := [3, 11]) (by kernel_rfl) (by simp) ?_
  intro i hi
  simp only [List.mem_cons, List.not_mem_nil, or_false] at hi
  rcases hi with rfl | rfl
  · skip
    refine wpOp_wp rfl (by rfl) ?_
    go_simp
    refine (hleaf.out x0 HK.out).mono ?_
    rintro e x1 ⟨rfl, hb_⟩
    replace hs2 := Lib.hid (Nat.le_trans hs2.out hb_.size)
    replace HCc := Lib.hid (CAt.below HCc.out hb_)
    replace HK := Lib.hid (KC.below HK.out hb_)
    replace HX := Lib.hid (DigAt.below HX.out hb_)
    replace HC := Lib.hid (CD.below HC.out hb_)
    replace HB := Lib.hid (HB.out.trans (Below.mono hb_ HB.out.size))
    clear hb_
    clear hS
    have hS : SC w.heap.size ak c x1 := HCc.out
    refine ⟨hS, ?_⟩
    try simp only [List.getElem_toArray, List.getElem_cons_succ, List.getElem_cons_zero, Act.put, List.setIfInBounds_toArray, List.set_cons_zero, List.set_cons_succ]
    refine wpAnyH_all (rs := [7, 11]) (by kernel_rfl) (by simp) ?_
    intro i hi
    simp only [List.mem_cons, List.not_mem_nil, or_false] at hi
    rcases hi with rfl | rfl
    · skip
      refine wpOp_wp rfl (by rfl) ?_
      go_simp
      refine (hends.out x1 HC.out HK.out).mono ?_
      rintro e x2 ⟨X, rfl, hX, hb_⟩
      have hXl := Lib.hid hX.1
      have hXe := Lib.hid hX.2
      clear hX
      replace hs2 := Lib.hid (Nat.le_trans hs2.out hb_.size)
      replace HCc := Lib.hid (CAt.below HCc.out hb_)
      replace HK := Lib.hid (KC.below HK.out hb_)
      replace HX := Lib.hid (DigAt.below HX.out hb_)
      replace HC := Lib.hid (CD.below HC.out hb_)
      replace HB := Lib.hid (HB.out.trans (Below.mono hb_ HB.out.size))
      clear hb_
      clear hS
      have hS : SC w.heap.size ak c x2 := HCc.out
      refine ⟨hS, ?_⟩
      try simp only [List.getElem_toArray, List.getElem_cons_succ, List.getElem_cons_zero, Act.put, List.setIfInBounds_toArray, List.set_cons_zero, List.set_cons_succ]
      refine wpAnyH_take (i := 8) (v := ?_) rfl (by kernel_rfl) (by kernel_rfl) (by kernel_rfl) (fun _ _ _ h => h) (Or.inl ⟨by rfl, ?_⟩) hS ?_
      rotate_left
      · intro v _; go_simp; first | done | with_reducible rfl
      rotate_left
      simp only [List.getElem_toArray, List.getElem_cons_succ, List.getElem_cons_zero, Act.put, List.setIfInBounds_toArray, List.set_cons_zero, List.set_cons_succ]
      refine wpAnyH_take (i := 9) (v := ?_) rfl (by kernel_rfl) (by kernel_rfl) (by kernel_rfl) (fun _ _ _ h => h) (Or.inl ⟨by rfl, ?_⟩) hS ?_
      rotate_left
      · intro v _; go_simp; first | done | with_reducible rfl
      rotate_left
      simp only [List.getElem_toArray, List.getElem_cons_succ, List.getElem_cons_zero, Act.put, List.setIfInBounds_toArray, List.set_cons_zero, List.set_cons_succ]
      refine wpAnyH_take (i := 10) (v := ?_) rfl (by kernel_rfl) (by kernel_rfl) (by kernel_rfl) (fun _ _ _ h => h) (Or.inl ⟨by rfl, ?_⟩) hS ?_
      rotate_left
      · intro v _; go_simp; first | done | with_reducible rfl
      rotate_left
      simp only [List.getElem_toArray, List.getElem_cons_succ, List.getElem_cons_zero, Act.put, List.setIfInBounds_toArray, List.set_cons_zero, List.set_cons_succ]
      refine wpAnyH_all (rs := [11]) (by kernel_rfl) (by simp) ?_
      intro i hi
      simp only [List.mem_cons, List.not_mem_nil, or_false] at hi
      subst hi
      refine wpOp_wp rfl (by rfl) ?_
      refine wp_alloc_dig rfl ?_
      intro x3 H13 hb_
      have hb13 := Lib.hid HB.out.size
      have hnb := hs2
      replace HCc := Lib.hid (CAt.below HCc.out hb_)
      replace HK := Lib.hid (KC.below HK.out hb_)
      replace HX := Lib.hid (DigAt.below HX.out hb_)
      replace HC := Lib.hid (CD.below HC.out hb_)
      replace HB := Lib.hid (HB.out.trans (Below.mono hb_ HB.out.size))
      clear hb_
      generalize x2.heap.size = b13 at H13 hb13 hnb ⊢
      clear hS
      have hS : SC w.heap.size ak c x3 := HCc.out
      refine ⟨hS, ?_⟩
      try simp only [List.getElem_toArray, List.getElem_cons_succ, List.getElem_cons_zero, Act.put, List.setIfInBounds_toArray, List.set_cons_zero, List.set_cons_succ]
      refine wpAnyH_all (rs := [12]) (by kernel_rfl) (by simp) ?_
      intro i hi
      simp only [List.mem_cons, List.not_mem_nil, or_false] at hi
      subst hi
      refine wpOp_wp rfl (by rfl) ?_
      have hbw : Hid (w.heap.size ≤ b13) := hb13
      have hne1 : Hid (b13 ≠ w.heap.size + 1) := Lib.hid (fun e => absurd hnb.out (by omega))
      refine wp_store_dig (.tmp 13) (.tmp 35) rfl b13 rfl X hXl.out rfl _ _ H13.out zrow ?_
      intro z9 h9 hk9 hB9 hs9
      have H13' : Hid (DigAt b13 X z9) := h9
      have HX' : Hid (DigAt (w.heap.size + 1) r z9) := by refine Lib.hid ?_; unfold DigAt; rw [hk9 _ (Ne.symm hne1.out)]; exact HX.out
      have HB' := Lib.hid (hB9 HB.out hb13.out)
      have HCc' : Hid (CAt w.heap.size (.slice (some ak) 64 c) v0 z9) := by refine Lib.hid ?_; unfold CAt; rw [hk9 _ (by have := hnb.out; omega)]; exact HCc.out
      clear H13 HX HB HCc HK HC h9 hk9 hB9 hs9 hS
      have hS : SC w.heap.size ak c z9 := HCc'.out
      refine ⟨hS, ?_⟩
      try simp only [List.getElem_toArray, List.getElem_cons_succ, List.getElem_cons_zero, Act.put, List.setIfInBounds_toArray, List.set_cons_zero, List.set_cons_succ]
      refine wpAnyH_take (i := 13) (v := ?_) rfl (by kernel_rfl) (by kernel_rfl) (by kernel_rfl) (fun _ _ _ h => h) (Or.inl ⟨by rfl, ?_⟩) hS ?_
      rotate_left
      · intro v _; go_simp; first | done | with_reducible rfl
      rotate_left
      simp only [List.getElem_toArray, List.getElem_cons_succ, List.getElem_cons_zero, Act.put, List.setIfInBounds_toArray, List.set_cons_zero, List.set_cons_succ]
      refine wpAnyH_done (by kernel_rfl) ?_ _
      clear hS
      have heq := fun v : World => eq32 v X r hXl.out hr.out
      cases hE : endB i n ps with
      | false =>
        have hV : V = false := by rw [hVV.out, hE, Bool.false_and]
        subst hV
        replace hE := Lib.hid hE
        clear heq
        go_wp2_with fail
        go_ret
        exact ⟨rfl, HB'.out⟩
      | true =>
        have hV : V = decide (X = r) := by rw [hVV.out, hE, Bool.true_and, ← hXe.out (of_decide_eq_true hE)]
        subst hV
        replace hE := Lib.hid hE
        go_wp2_with (first | (guard_target = wpList _ _ _ (⟨some 39, _, _, _, _, _⟩ :: _) _ _; refine wpList_load_digG rfl (.tmp 13) rfl b13 rfl X hXl.out _ _ H13'.out ?_) | (guard_target = wpList _ _ _ (⟨some 40, _, _, _, _, _⟩ :: _) _ _; refine wpList_load_digG rfl (.tmp 10) rfl (w.heap.size + 1) rfl r hr.out _ _ HX'.out ?_))
        go_ret
        exact ⟨rfl, HB'.out⟩
    · skip
      refine wpOp_wp rfl (by rfl) ?_
      refine wp_alloc_dig rfl ?_
      intro x2 H13 hb_
      have hb13 := Lib.hid HB.out.size
      have hnb := hs2
      replace HCc := Lib.hid (CAt.below HCc.out hb_)
      replace HK := Lib.hid (KC.below HK.out hb_)
      replace HX := Lib.hid (DigAt.below HX.out hb_)
      replace HC := Lib.hid (CD.below HC.out hb_)
      replace HB := Lib.hid (HB.out.trans (Below.mono hb_ HB.out.size))
      clear hb_
      generalize x1.heap.size = b13 at H13 hb13 hnb ⊢
      clear hS
      have hS : SC w.heap.size ak c x2 := HCc.out
      refine ⟨hS, ?_⟩
      try simp only [List.getElem_toArray, List.getElem_cons_succ, List.getElem_cons_zero, Act.put, List.setIfInBounds_toArray, List.set_cons_zero, List.set_cons_succ]
      refine wpAnyH_all (rs := [7]) (by kernel_rfl) (by simp) ?_
      intro i hi
      simp only [List.mem_cons, List.not_mem_nil, or_false] at hi
      subst hi
      refine wpOp_wp rfl (by rfl) ?_
      go_simp
      refine (hends.out x2 HC.out HK.out).mono ?_
      rintro e x3 ⟨X, rfl, hX, hb_⟩
      have hXl := Lib.hid hX.1
      have hXe := Lib.hid hX.2
      clear hX
      replace HCc := Lib.hid (CAt.below HCc.out hb_)
      replace HK := Lib.hid (KC.below HK.out hb_)
      replace HX := Lib.hid (DigAt.below HX.out hb_)
      replace HC := Lib.hid (CD.below HC.out hb_)
      replace HB := Lib.hid (HB.out.trans (Below.mono hb_ HB.out.size))
      replace H13 := Lib.hid (DigAt.below H13.out hb_)
      clear hb_
      clear hS
      have hS : SC w.heap.size ak c x3 := HCc.out
      refine ⟨hS, ?_⟩
      try simp only [List.getElem_toArray, List.getElem_cons_succ, List.getElem_cons_zero, Act.put, List.setIfInBounds_toArray, List.set_cons_zero, List.set_cons_succ]
      refine wpAnyH_take (i := 8) (v := ?_) rfl (by kernel_rfl) (by kernel_rfl) (by kernel_rfl) (fun _ _ _ h => h) (Or.inl ⟨by rfl, ?_⟩) hS ?_
      rotate_left
      · intro v _; go_simp; first | done | with_reducible rfl
      rotate_left
      simp only [List.getElem_toArray, List.getElem_cons_succ, List.getElem_cons_zero, Act.put, List.setIfInBounds_toArray, List.set_cons_zero, List.set_cons_succ]
      refine wpAnyH_take (i := 9) (v := ?_) rfl (by kernel_rfl) (by kernel_rfl) (by kernel_rfl) (fun _ _ _ h => h) (Or.inl ⟨by rfl, ?_⟩) hS ?_
      rotate_left
      · intro v _; go_simp; first | done | with_reducible rfl
      rotate_left
      simp only [List.getElem_toArray, List.getElem_cons_succ, List.getElem_cons_zero, Act.put, List.setIfInBounds_toArray, List.set_cons_zero, List.set_cons_succ]
      refine wpAnyH_take (i := 10) (v := ?_) rfl (by kernel_rfl) (by kernel_rfl) (by kernel_rfl) (fun _ _ _ h => h) (Or.inl ⟨by rfl, ?_⟩) hS ?_
      rotate_left
      · intro v _; go_simp; first | done | with_reducible rfl
      rotate_left
      simp only [List.getElem_toArray, List.getElem_cons_succ, List.getElem_cons_zero, Act.put, List.setIfInBounds_toArray, List.set_cons_zero, List.set_cons_succ]
      refine wpAnyH_all (rs := [12]) (by kernel_rfl) (by simp) ?_
      intro i hi
      simp only [List.mem_cons, List.not_mem_nil, or_false] at hi
      subst hi
      refine wpOp_wp rfl (by rfl) ?_
      have hbw : Hid (w.heap.size ≤ b13) := hb13
      have hne1 : Hid (b13 ≠ w.heap.size + 1) := Lib.hid (fun e => absurd hnb.out (by omega))
      refine wp_store_dig (.tmp 13) (.tmp 35) rfl b13 rfl X hXl.out rfl _ _ H13.out zrow ?_
      intro z9 h9 hk9 hB9 hs9
      have H13' : Hid (DigAt b13 X z9) := h9
      have HX' : Hid (DigAt (w.heap.size + 1) r z9) := by refine Lib.hid ?_; unfold DigAt; rw [hk9 _ (Ne.symm hne1.out)]; exact HX.out
      have HB' := Lib.hid (hB9 HB.out hb13.out)
      have HCc' : Hid (CAt w.heap.size (.slice (some ak) 64 c) v0 z9) := by refine Lib.hid ?_; unfold CAt; rw [hk9 _ (by have := hnb.out; omega)]; exact HCc.out
      clear H13 HX HB HCc HK HC h9 hk9 hB9 hs9 hS
      have hS : SC w.heap.size ak c z9 := HCc'.out
      refine ⟨hS, ?_⟩
      try simp only [List.getElem_toArray, List.getElem_cons_succ, List.getElem_cons_zero, Act.put, List.setIfInBounds_toArray, List.set_cons_zero, List.set_cons_succ]
      refine wpAnyH_take (i := 13) (v := ?_) rfl (by kernel_rfl) (by kernel_rfl) (by kernel_rfl) (fun _ _ _ h => h) (Or.inl ⟨by rfl, ?_⟩) hS ?_
      rotate_left
      · intro v _; go_simp; first | done | with_reducible rfl
      rotate_left
      simp only [List.getElem_toArray, List.getElem_cons_succ, List.getElem_cons_zero, Act.put, List.setIfInBounds_toArray, List.set_cons_zero, List.set_cons_succ]
      refine wpAnyH_done (by kernel_rfl) ?_ _
      clear hS
      have heq := fun v : World => eq32 v X r hXl.out hr.out
      cases hE : endB i n ps with
      | false =>
        have hV : V = false := by rw [hVV.out, hE, Bool.false_and]
        subst hV
        replace hE := Lib.hid hE
        clear heq
        go_wp2_with fail
        go_ret
        exact ⟨rfl, HB'.out⟩
      | true =>
        have hV : V = decide (X = r) := by rw [hVV.out, hE, Bool.true_and, ← hXe.out (of_decide_eq_true hE)]
        subst hV
        replace hE := Lib.hid hE
        go_wp2_with (first | (guard_target = wpList _ _ _ (⟨some 39, _, _, _, _, _⟩ :: _) _ _; refine wpList_load_digG rfl (.tmp 13) rfl b13 rfl X hXl.out _ _ H13'.out ?_) | (guard_target = wpList _ _ _ (⟨some 40, _, _, _, _, _⟩ :: _) _ _; refine wpList_load_digG rfl (.tmp 10) rfl (w.heap.size + 1) rfl r hr.out _ _ HX'.out ?_))
        go_ret
        exact ⟨rfl, HB'.out⟩
  · skip
    refine wpOp_wp rfl (by rfl) ?_
    refine wp_alloc_dig rfl ?_
    intro x1 H13 hb_
    have hb13 := Lib.hid HB.out.size
    have hnb := hs2
    replace HCc := Lib.hid (CAt.below HCc.out hb_)
    replace HK := Lib.hid (KC.below HK.out hb_)
    replace HX := Lib.hid (DigAt.below HX.out hb_)
    replace HC := Lib.hid (CD.below HC.out hb_)
    replace HB := Lib.hid (HB.out.trans (Below.mono hb_ HB.out.size))
    clear hb_
    generalize x0.heap.size = b13 at H13 hb13 hnb ⊢
    clear hS
    have hS : SC w.heap.size ak c x1 := HCc.out
    refine ⟨hS, ?_⟩
    try simp only [List.getElem_toArray, List.getElem_cons_succ, List.getElem_cons_zero, Act.put, List.setIfInBounds_toArray, List.set_cons_zero, List.set_cons_succ]
    refine wpAnyH_all (rs := [3]) (by kernel_rfl) (by simp) ?_
    intro i hi
    simp only [List.mem_cons, List.not_mem_nil, or_false] at hi
    subst hi
    refine wpOp_wp rfl (by rfl) ?_
    go_simp
    refine (hleaf.out x1 HK.out).mono ?_
    rintro e x2 ⟨rfl, hb_⟩
    replace HCc := Lib.hid (CAt.below HCc.out hb_)
    replace HK := Lib.hid (KC.below HK.out hb_)
    replace HX := Lib.hid (DigAt.below HX.out hb_)
    replace HC := Lib.hid (CD.below HC.out hb_)
    replace HB := Lib.hid (HB.out.trans (Below.mono hb_ HB.out.size))
    replace H13 := Lib.hid (DigAt.below H13.out hb_)
    clear hb_
    clear hS
    have hS : SC w.heap.size ak c x2 := HCc.out
    refine ⟨hS, ?_⟩
    try simp only [List.getElem_toArray, List.getElem_cons_succ, List.getElem_cons_zero, Act.put, List.setIfInBounds_toArray, List.set_cons_zero, List.set_cons_succ]
    refine wpAnyH_all (rs := [7]) (by kernel_rfl) (by simp) ?_
    intro i hi
    simp only [List.mem_cons, List.not_mem_nil, or_false] at hi
    subst hi
    refine wpOp_wp rfl (by rfl) ?_
    go_simp
    refine (hends.out x2 HC.out HK.out).mono ?_
    rintro e x3 ⟨X, rfl, hX, hb_⟩
    have hXl := Lib.hid hX.1
    have hXe := Lib.hid hX.2
    clear hX
    replace HCc := Lib.hid (CAt.below HCc.out hb_)
    replace HK := Lib.hid (KC.below HK.out hb_)
    replace HX := Lib.hid (DigAt.below HX.out hb_)
    replace HC := Lib.hid (CD.below HC.out hb_)
    replace HB := Lib.hid (HB.out.trans (Below.mono hb_ HB.out.size))
    replace H13 := Lib.hid (DigAt.below H13.out hb_)
    clear hb_
    clear hS
    have hS : SC w.heap.size ak c x3 := HCc.out
    refine ⟨hS, ?_⟩
    try simp only [List.getElem_toArray, List.getElem_cons_succ, List.getElem_cons_zero, Act.put, List.setIfInBounds_toArray, List.set_cons_zero, List.set_cons_succ]
    refine wpAnyH_take (i := 8) (v := ?_) rfl (by kernel_rfl) (by kernel_rfl) (by kernel_rfl) (fun _ _ _ h => h) (Or.inl ⟨by rfl, ?_⟩) hS ?_
    rotate_left
    · intro v _; go_simp; first | done | with_reducible rfl
    rotate_left
    simp only [List.getElem_toArray, List.getElem_cons_succ, List.getElem_cons_zero, Act.put, List.setIfInBounds_toArray, List.set_cons_zero, List.set_cons_succ]
    refine wpAnyH_take (i := 9) (v := ?_) rfl (by kernel_rfl) (by kernel_rfl) (by kernel_rfl) (fun _ _ _ h => h) (Or.inl ⟨by rfl, ?_⟩) hS ?_
    rotate_left
    · intro v _; go_simp; first | done | with_reducible rfl
    rotate_left
    simp only [List.getElem_toArray, List.getElem_cons_succ, List.getElem_cons_zero, Act.put, List.setIfInBounds_toArray, List.set_cons_zero, List.set_cons_succ]
    refine wpAnyH_take (i := 10) (v := ?_) rfl (by kernel_rfl) (by kernel_rfl) (by kernel_rfl) (fun _ _ _ h => h) (Or.inl ⟨by rfl, ?_⟩) hS ?_
    rotate_left
    · intro v _; go_simp; first | done | with_reducible rfl
    rotate_left
    simp only [List.getElem_toArray, List.getElem_cons_succ, List.getElem_cons_zero, Act.put, List.setIfInBounds_toArray, List.set_cons_zero, List.set_cons_succ]
    refine wpAnyH_all (rs := [12]) (by kernel_rfl) (by simp) ?_
    intro i hi
    simp only [List.mem_cons, List.not_mem_nil, or_false] at hi
    subst hi
    refine wpOp_wp rfl (by rfl) ?_
    have hbw : Hid (w.heap.size ≤ b13) := hb13
    have hne1 : Hid (b13 ≠ w.heap.size + 1) := Lib.hid (fun e => absurd hnb.out (by omega))
    refine wp_store_dig (.tmp 13) (.tmp 35) rfl b13 rfl X hXl.out rfl _ _ H13.out zrow ?_
    intro z9 h9 hk9 hB9 hs9
    have H13' : Hid (DigAt b13 X z9) := h9
    have HX' : Hid (DigAt (w.heap.size + 1) r z9) := by refine Lib.hid ?_; unfold DigAt; rw [hk9 _ (Ne.symm hne1.out)]; exact HX.out
    have HB' := Lib.hid (hB9 HB.out hb13.out)
    have HCc' : Hid (CAt w.heap.size (.slice (some ak) 64 c) v0 z9) := by refine Lib.hid ?_; unfold CAt; rw [hk9 _ (by have := hnb.out; omega)]; exact HCc.out
    clear H13 HX HB HCc HK HC h9 hk9 hB9 hs9 hS
    have hS : SC w.heap.size ak c z9 := HCc'.out
    refine ⟨hS, ?_⟩
    try simp only [List.getElem_toArray, List.getElem_cons_succ, List.getElem_cons_zero, Act.put, List.setIfInBounds_toArray, List.set_cons_zero, List.set_cons_succ]
    refine wpAnyH_take (i := 13) (v := ?_) rfl (by kernel_rfl) (by kernel_rfl) (by kernel_rfl) (fun _ _ _ h => h) (Or.inl ⟨by rfl, ?_⟩) hS ?_
    rotate_left
    · intro v _; go_simp; first | done | with_reducible rfl
    rotate_left
    simp only [List.getElem_toArray, List.getElem_cons_succ, List.getElem_cons_zero, Act.put, List.setIfInBounds_toArray, List.set_cons_zero, List.set_cons_succ]
    refine wpAnyH_done (by kernel_rfl) ?_ _
    clear hS
    have heq := fun v : World => eq32 v X r hXl.out hr.out
    cases hE : endB i n ps with
    | false =>
      have hV : V = false := by rw [hVV.out, hE, Bool.false_and]
      subst hV
      replace hE := Lib.hid hE
      clear heq
      go_wp2_with fail
      go_ret
      exact ⟨rfl, HB'.out⟩
    | true =>
      have hV : V = decide (X = r) := by rw [hVV.out, hE, Bool.true_and, ← hXe.out (of_decide_eq_true hE)]
      subst hV
      replace hE := Lib.hid hE
      go_wp2_with (first | (guard_target = wpList _ _ _ (⟨some 39, _, _, _, _, _⟩ :: _) _ _; refine wpList_load_digG rfl (.tmp 13) rfl b13 rfl X hXl.out _ _ H13'.out ?_) | (guard_target = wpList _ _ _ (⟨some 40, _, _, _, _, _⟩ :: _) _ _; refine wpList_load_digG rfl (.tmp 10) rfl (w.heap.size + 1) rfl r hr.out _ _ HX'.out ?_))
      go_ret
      exact ⟨rfl, HB'.out⟩
theorem rCheckPath_calls (ak : Addr) (c : Nat) (s : ByteArray) (hs : s.size ≤ 1048575) (i n : Int) (r : List UInt8) (hr : r.length = 32) (ps : List (List UInt8)) (A : Option Addr) (c1 : Nat) (w : World) (hC : CD A ps w) (hc : ps.length ≤ c1) (hK : KC w ak) :
    Calls Tryd.prog 45 #[cv ak c, .string s, .int .i64 i, .int .i64 n, .agg (Lib.byteCells r).toArray, .slice A ps.length c1] w fun e w' => e = .returned (.bool (pathV s.data.toList i n r ps)) ∧ Below w.heap.size w w' := by
  by_cases h : i < 0 ∨ n ≤ i ∨ 1024 < n
  · exact rCheckPath_arg ak c s i n r ps A c1 w h
  · obtain ⟨i', rfl⟩ := Int.eq_ofNat_of_zero_le (show 0 ≤ i by omega)
    obtain ⟨n', rfl⟩ := Int.eq_ofNat_of_zero_le (show 0 ≤ n by omega)
    exact rCheckPath_ok ak c s hs i' n' r hr ps A c1 w hC hc (by omega) (by omega) hK
end Go.Proofs.YtldpnmebjnkjeaaDoor.TrW
namespace Go.Proofs.YtldpnmebjnkjeaaDoor.TrW
open Go.RowKit Go.Proofs.YtldpnmebjnkjeaaDoorW.PrintWords Go.Proofs.YtldpnmebjnkjeaaDoor.PH1 Go.Proofs.YtldpnmebjnkjeaaDoor Go.Proofs.YtldpnmebjnkjeaaDoorW.PrintLast Go.Proofs.YtldpnmebjnkjeaaDoorW.PrintMore
open Go.Proofs.YtldpnmebjnkjeaaDoor.Sha
open Go.Proofs.YtldpnmebjnkjeaaDoor.Ref10 (wp_store_dig wp_load_dig wpOp_wp range_row yieldsIf_cell agg3 agg56 CV CAt KC run_load_C)
set_option linter.unusedVariables false
set_option linter.unusedSimpArgs false

def wholeB (m n : Nat) (wh : Bool) : Bool := wh && Tr.whole m n
def bothB (m n : Nat) (wh : Bool) (bs : List (List UInt8)) : Bool := decide (bs.length = (Tr.way m n).length + (if wholeB m n wh = true then 0 else 1))
def bothV (a : List UInt8) (m n : Nat) (wh : Bool) (bs : List (List UInt8)) (x y : List UInt8) : Prop :=
  x.length = 32 ∧ y.length = 32 ∧ (bothB m n wh bs = true → ∃ (f : List UInt8) (ps : List (List UInt8)), (if wholeB m n wh = true then f = a ∧ ps = bs else bs = f :: ps) ∧ x = Tr.lastX alg f (Tr.way m n).reverse ps ∧ y = Tr.last alg f (Tr.way m n).reverse ps)
theorem both_left {a x' y' q : List UInt8} {m n : Nat} {wh : Bool} {bs rest : List (List UInt8)} (h : 1 ≤ m ∧ m < n) (h1 : m ≤ Tr.sp n) (hb : bs = rest ++ [q]) (hx : bothV a m (Tr.sp n) wh rest x' y') :
    bothV a m n wh bs x' (joinP y' q) ∧ bothB m n wh bs = bothB m (Tr.sp n) wh rest := by
  have hw := Tr.way_left m n h h1
  have hwh : wholeB m n wh = wholeB m (Tr.sp n) wh := by
    unfold wholeB Tr.whole; rw [hw, List.all_cons, Bool.true_and]
  have hB : bothB m n wh bs = bothB m (Tr.sp n) wh rest := by
    unfold bothB
    rw [hwh, hw, hb, decide_eq_decide, List.length_cons, List.length_append, List.length_singleton]; omega
  refine ⟨⟨hx.1, sumL_len _, fun h2 => ?_⟩, hB⟩
  rw [hB] at h2
  obtain ⟨f, ps, hf, hx1, hy1⟩ := hx.2.2 h2
  have hlen := of_decide_eq_true h2
  rw [hwh]
  cases hc : wholeB m (Tr.sp n) wh with
  | true =>
    rw [hc, if_pos rfl] at hf hlen
    obtain ⟨rfl, rfl⟩ := hf
    refine ⟨f, ps ++ [q], by rw [if_pos rfl]; exact ⟨rfl, hb.symm⟩, ?_, ?_⟩
    · rw [hw, List.reverse_cons, Tr.lastX_app alg _ _ _ _ _ (by rw [List.length_reverse]; omega), if_pos rfl]; exact hx1
    · rw [hw, List.reverse_cons, Tr.last_app alg _ _ _ _ _ (by rw [List.length_reverse]; omega), ← hy1]; rfl
  | false =>
    rw [hc, if_neg (by simp)] at hf hlen
    rw [hf, List.length_cons] at hlen
    refine ⟨f, ps ++ [q], by rw [if_neg (by simp), hb, hf]; rfl, ?_, ?_⟩
    · rw [hw, List.reverse_cons, Tr.lastX_app alg _ _ _ _ _ (by rw [List.length_reverse]; omega), if_pos rfl]; exact hx1
    · rw [hw, List.reverse_cons, Tr.last_app alg _ _ _ _ _ (by rw [List.length_reverse]; omega), ← hy1]; rfl
theorem both_right {a x' y' q : List UInt8} {m n : Nat} {wh : Bool} {bs rest : List (List UInt8)} (h : 1 ≤ m ∧ m < n) (h1 : ¬ m ≤ Tr.sp n) (hb : bs = rest ++ [q]) (hx : bothV a (m - Tr.sp n) (n - Tr.sp n) false rest x' y') :
    bothV a m n wh bs (joinP q x') (joinP q y') ∧ bothB m n wh bs = bothB (m - Tr.sp n) (n - Tr.sp n) false rest := by
  have hw := Tr.way_right m n h h1
  have hwh : wholeB m n wh = false := by
    unfold wholeB Tr.whole; rw [hw, List.all_cons, Bool.false_and, Bool.and_false]
  have hwf : wholeB (m - Tr.sp n) (n - Tr.sp n) false = false := by unfold wholeB; rw [Bool.false_and]
  have hB : bothB m n wh bs = bothB (m - Tr.sp n) (n - Tr.sp n) false rest := by
    unfold bothB
    rw [hwh, hwf, hw, hb, decide_eq_decide, List.length_cons, List.length_append, List.length_singleton]; omega
  refine ⟨⟨sumL_len _, sumL_len _, fun h2 => ?_⟩, hB⟩
  rw [hB] at h2
  obtain ⟨f, ps, hf, hx1, hy1⟩ := hx.2.2 h2
  have hlen := of_decide_eq_true h2
  rw [hwf, if_neg (by simp)] at hf hlen
  rw [hf, List.length_cons] at hlen
  refine ⟨f, ps ++ [q], by rw [hwh, if_neg (by simp), hb, hf]; rfl, ?_, ?_⟩
  · rw [hw, List.reverse_cons, Tr.lastX_app alg _ _ _ _ _ (by rw [List.length_reverse]; omega), if_neg (by simp), ← hx1]; rfl
  · rw [hw, List.reverse_cons, Tr.last_app alg _ _ _ _ _ (by rw [List.length_reverse]; omega), ← hy1]; rfl
def SX (b : Nat) (d : List UInt8) (W : World) : Prop := DigAt b d W
set_option maxHeartbeats 8000000 in
set_option maxRecDepth 100000 in
/-- At the end of the way, whole. -/
theorem rboth_1 (ak : Addr) (c : Nat) (d : List UInt8) (hd : d.length = 32) (n : Nat) (bs : List (List UInt8)) (A : Option Addr) (c1 : Nat) (w : World) (hC : CD A bs w) (hc : bs.length ≤ c1) (hK : KC w ak) (b : Bool) (hb : b = decide (bs.length = 0)) :
    Calls Tryd.prog 78 #[cv ak c, .agg (Lib.byteCells d).toArray, .int .i64 (n : Int), .int .i64 (n : Int), .bool true, .slice A bs.length c1] w fun e w' => ∃ x y, e = .returned (.tuple #[.agg (Lib.byteCells x).toArray, .agg (Lib.byteCells y).toArray, .bool b]) ∧ (x = d ∧ y = d) ∧ Below w.heap.size w w' := by
  replace hd := Lib.hid hd
  unfold cv at *
  have hbb : ((bs.length : Int) == 0) = b := by
    rw [hb, Bool.eq_iff_iff, beq_iff_eq, decide_eq_true_eq]; omega
  have hbb2 : (bs.length == 0) = b := by
    rw [hb, Bool.eq_iff_iff, beq_iff_eq, decide_eq_true_eq]
  replace hb := Lib.hid hb
  go_enter Tryd.func78, Tryd.ntmps78
  go_upto_region 1 with fail
  generalize hw1 : World.alloc _ _ = w1
  have hsz3 : ∀ (o1 o2 : Obj), ((w.alloc o1).alloc o2).heap.size = w.heap.size + 2 := fun _ _ => by simp
  have hsz4 : ∀ (o1 o2 o3 : Obj), (((w.alloc o1).alloc o2).alloc o3).heap.size = w.heap.size + 3 := fun _ _ _ => by simp
  have HCc : Hid (CAt w.heap.size (.slice (some ak) 64 c) v0 w1) := by
    rw [← hw1]; refine Lib.hid ?_; unfold CAt
    rw [Below.heap_alloc _ _ _ (by simp <;> omega), Below.heap_alloc _ _ _ (by simp <;> omega), Below.heap_alloc _ _ _ (by simp)]; exact heap_alloc_last _ _
  have HX : Hid (DigAt (w.heap.size + 1) d w1) := by
    rw [← hw1]; refine Lib.hid ?_; unfold DigAt
    rw [Below.heap_alloc _ _ _ (by simp <;> omega), Below.heap_alloc _ _ _ (by simp)]; exact heap_at1 _ _ _
  have HR : Hid (DigAt (w.heap.size + 2) (List.replicate 32 0) w1) := by
    rw [← hw1]; refine Lib.hid ?_; unfold DigAt
    rw [Below.heap_alloc _ _ _ (by simp), ← hsz3]; exact heap_alloc_last _ _
  have HR3 : Hid (DigAt (w.heap.size + 3) (List.replicate 32 0) w1) := by
    rw [← hw1]; refine Lib.hid ?_; unfold DigAt
    rw [← hsz4]; exact heap_alloc_last _ _
  have HB : Hid (Below w.heap.size w w1) := by
    rw [← hw1]; exact Lib.hid (((((Below.refl _ _).alloc (Nat.le_refl _) _).alloc (by simp) _).alloc (by simp <;> omega) _).alloc (by simp <;> omega) _)
  have HK := Lib.hid (hK.below HB.out)
  have HC := Lib.hid (hC.below HB.out)
  clear hw1 hK hsz3 hsz4 hC
  go_upto_region 2 with fail
  refine wp_region_held (S := (SX (w.heap.size + 1) d)) (by kernel_rfl) ?_
  change wpAnyH _ _ _ _ _ _ _ _ w1.drew
  have hdr : Below w1.heap.size w1 w1.drew := (Below.refl _ _).drew
  replace HR := Lib.hid (DigAt.below HR.out hdr)
  replace HR3 := Lib.hid (DigAt.below HR3.out hdr)
  replace HCc := Lib.hid (CAt.below HCc.out hdr)
  replace HK := Lib.hid (KC.below HK.out hdr)
  replace HX := Lib.hid (DigAt.below HX.out hdr)
  replace HC := Lib.hid (CD.below HC.out hdr)
  replace HB := Lib.hid (HB.out.trans (Below.mono hdr HB.out.size))
  clear hdr
  generalize w1.drew = x0 at HR HR3 HCc HK HX HC HB ⊢
  have hS : SX (w.heap.size + 1) d x0 := HX.out
  refine wpAnyH_take (i := 0) (v := _) rfl (by kernel_rfl) (by kernel_rfl) (by kernel_rfl) (fun _ _ _ h => h) (yieldsIf_digA (by rfl) (.tmp 7) rfl ⟨w.heap.size+1,0,none⟩ rfl d hd.out (fun _ h => (DigAt.ad h))) hS ?_
  try simp only [List.getElem_toArray, List.getElem_cons_succ, List.getElem_cons_zero, Act.put, List.setIfInBounds_toArray, List.set_cons_zero, List.set_cons_succ]
  refine wpAnyH_take (i := 1) (v := _) rfl (by kernel_rfl) (by kernel_rfl) (by kernel_rfl) (fun _ _ _ h => h) (yieldsIf_digA (by rfl) (.tmp 7) rfl ⟨w.heap.size+1,0,none⟩ rfl d hd.out (fun _ h => (DigAt.ad h))) hS ?_
  try simp only [List.getElem_toArray, List.getElem_cons_succ, List.getElem_cons_zero, Act.put, List.setIfInBounds_toArray, List.set_cons_zero, List.set_cons_succ]
  refine wpAnyH_take (i := 2) (v := ?_) rfl (by kernel_rfl) (by kernel_rfl) (by kernel_rfl) (fun _ _ _ h => h) (Or.inl ⟨by rfl, ?_⟩) hS ?_
  rotate_left
  · intro v _; go_simp; first | done | with_reducible rfl
  rotate_left
  simp only [List.getElem_toArray, List.getElem_cons_succ, List.getElem_cons_zero, Act.put, List.setIfInBounds_toArray, List.set_cons_zero, List.set_cons_succ]
  refine wpAnyH_take (i := 3) (v := ?_) rfl (by kernel_rfl) (by kernel_rfl) (by kernel_rfl) (fun _ _ _ h => h) (Or.inl ⟨by rfl, ?_⟩) hS ?_
  rotate_left
  · intro v _; go_simp; first | done | with_reducible rfl
  rotate_left
  simp only [List.getElem_toArray, List.getElem_cons_succ, List.getElem_cons_zero, Act.put, List.setIfInBounds_toArray, List.set_cons_zero, List.set_cons_succ]
  refine wpAnyH_take (i := 4) (v := ?_) rfl (by kernel_rfl) (by kernel_rfl) (by kernel_rfl) (fun _ _ _ h => h) (Or.inl ⟨by rfl, ?_⟩) hS ?_
  rotate_left
  · intro v _; go_simp; first | done | with_reducible rfl
  rotate_left
  simp only [List.getElem_toArray, List.getElem_cons_succ, List.getElem_cons_zero, Act.put, List.setIfInBounds_toArray, List.set_cons_zero, List.set_cons_succ]
  refine wpAnyH_all (rs := [5]) (by kernel_rfl) (by simp) ?_
  intro i hi
  simp only [List.mem_cons, List.not_mem_nil, or_false] at hi
  subst hi
  refine wpOp_wp rfl (by rfl) ?_
  refine wp_store_dig (.tmp 12) (.tmp 30) rfl (w.heap.size + 2) rfl d hd.out rfl _ _ HR.out zrow ?_
  intro z1 g1 hk1 hB1 hz1
  have hS := (show SX (w.heap.size + 1) d z1 by unfold SX DigAt; rw [hk1 _ (by omega)]; exact HX.out)
  refine ⟨hS, ?_⟩
  try simp only [List.getElem_toArray, List.getElem_cons_succ, List.getElem_cons_zero, Act.put, List.setIfInBounds_toArray, List.set_cons_zero, List.set_cons_succ]
  have HR3' : DigAt (w.heap.size + 3) (List.replicate 32 0) z1 := by unfold DigAt; rw [hk1 _ (by omega)]; exact HR3.out
  refine wpAnyH_all (rs := [6]) (by kernel_rfl) (by simp) ?_
  intro i hi
  simp only [List.mem_cons, List.not_mem_nil, or_false] at hi
  subst hi
  refine wpOp_wp rfl (by rfl) ?_
  refine wp_store_dig (.tmp 13) (.tmp 31) rfl (w.heap.size + 3) rfl d hd.out rfl _ _ HR3' zrow ?_
  intro z2 h13 hk2 hB2 hz2
  have h12 : Hid (DigAt (w.heap.size + 2) d z2) := by refine Lib.hid ?_; unfold DigAt; rw [hk2 _ (by omega)]; exact g1.out
  have hS := (show SX (w.heap.size + 1) d z2 by unfold SX DigAt; rw [hk2 _ (by omega), hk1 _ (by omega)]; exact HX.out)
  refine ⟨hS, ?_⟩
  try simp only [List.getElem_toArray, List.getElem_cons_succ, List.getElem_cons_zero, Act.put, List.setIfInBounds_toArray, List.set_cons_zero, List.set_cons_succ]
  refine wpAnyH_take (i := 7) (v := ?_) rfl (by kernel_rfl) (by kernel_rfl) (by kernel_rfl) (fun _ _ _ h => h) (Or.inl ⟨by rfl, ?_⟩) hS ?_
  rotate_left
  · intro v _; go_simp; first | done | with_reducible rfl
  rotate_left
  simp only [List.getElem_toArray, List.getElem_cons_succ, List.getElem_cons_zero, Act.put, List.setIfInBounds_toArray, List.set_cons_zero, List.set_cons_succ]
  refine wpAnyH_done (by kernel_rfl) ?_ _
  clear hS
  go_wp2_with fail
  refine bodyPost_ret (v := .tuple #[.agg (Lib.byteCells d).toArray, .agg (Lib.byteCells d).toArray, .bool b]) ?_ rfl ⟨d, d, rfl, ⟨rfl,rfl⟩, hB2 (hB1 HB.out (by omega)) (by omega)⟩
  simp [results, Tryd.results78, asAddr, run_load_dig h12.out hd.out, run_load_dig h13.out hd.out, Act.put]
set_option maxHeartbeats 8000000 in
set_option maxRecDepth 100000 in
/-- At the end of the way, not whole, one digest. -/
theorem rboth_2 (ak : Addr) (c : Nat) (d f : List UInt8) (hd : d.length = 32) (hf : f.length = 32) (n : Nat) (A : Option Addr) (c1 : Nat) (w : World) (hC : CD A [f] w) (hc : 1 ≤ c1) (hK : KC w ak) :
    Calls Tryd.prog 78 #[cv ak c, .agg (Lib.byteCells d).toArray, .int .i64 (n : Int), .int .i64 (n : Int), .bool false, .slice A 1 c1] w fun e w' => ∃ x y, e = .returned (.tuple #[.agg (Lib.byteCells x).toArray, .agg (Lib.byteCells y).toArray, .bool true]) ∧ (x = f ∧ y = f) ∧ Below w.heap.size w w' := by
  obtain ⟨_, ad, hA, _⟩ := hC.get (k := 0) (p := f) rfl
  subst hA
  have hdf : Hid (∀ W, CD (some ad) [f] W → DigAd ad f W) := Lib.hid fun W h => by
    obtain ⟨_, ad2, h1, h2⟩ := h.get (k := 0) (p := f) rfl
    rw [Nat.zero_mul, add_zero'] at h2
    cases h1
    exact h2
  replace hd := Lib.hid hd
  replace hf := Lib.hid hf
  have hCw := Lib.hid hC
  unfold cv at *
  go_enter Tryd.func78, Tryd.ntmps78
  go_upto_region 1 with fail
  generalize hw1 : World.alloc _ _ = w1
  have hsz3 : ∀ (o1 o2 : Obj), ((w.alloc o1).alloc o2).heap.size = w.heap.size + 2 := fun _ _ => by simp
  have hsz4 : ∀ (o1 o2 o3 : Obj), (((w.alloc o1).alloc o2).alloc o3).heap.size = w.heap.size + 3 := fun _ _ _ => by simp
  have HCc : Hid (CAt w.heap.size (.slice (some ak) 64 c) v0 w1) := by
    rw [← hw1]; refine Lib.hid ?_; unfold CAt
    rw [Below.heap_alloc _ _ _ (by simp <;> omega), Below.heap_alloc _ _ _ (by simp <;> omega), Below.heap_alloc _ _ _ (by simp)]; exact heap_alloc_last _ _
  have HX : Hid (DigAt (w.heap.size + 1) d w1) := by
    rw [← hw1]; refine Lib.hid ?_; unfold DigAt
    rw [Below.heap_alloc _ _ _ (by simp <;> omega), Below.heap_alloc _ _ _ (by simp)]; exact heap_at1 _ _ _
  have HR : Hid (DigAt (w.heap.size + 2) (List.replicate 32 0) w1) := by
    rw [← hw1]; refine Lib.hid ?_; unfold DigAt
    rw [Below.heap_alloc _ _ _ (by simp), ← hsz3]; exact heap_alloc_last _ _
  have HR3 : Hid (DigAt (w.heap.size + 3) (List.replicate 32 0) w1) := by
    rw [← hw1]; refine Lib.hid ?_; unfold DigAt
    rw [← hsz4]; exact heap_alloc_last _ _
  have HB : Hid (Below w.heap.size w w1) := by
    rw [← hw1]; exact Lib.hid (((((Below.refl _ _).alloc (Nat.le_refl _) _).alloc (by simp) _).alloc (by simp <;> omega) _).alloc (by simp <;> omega) _)
  have HK := Lib.hid (hK.below HB.out)
  have HC := Lib.hid (hC.below HB.out)
  clear hw1 hK hsz3 hsz4 hC
  go_upto_region 4 with fail
  refine wp_region_held (S := (DigAd ad f)) (by kernel_rfl) ?_
  change wpAnyH _ _ _ _ _ _ _ _ w1.drew
  have hdr : Below w1.heap.size w1 w1.drew := (Below.refl _ _).drew
  replace HR := Lib.hid (DigAt.below HR.out hdr)
  replace HR3 := Lib.hid (DigAt.below HR3.out hdr)
  replace HCc := Lib.hid (CAt.below HCc.out hdr)
  replace HK := Lib.hid (KC.below HK.out hdr)
  replace HX := Lib.hid (DigAt.below HX.out hdr)
  replace HC := Lib.hid (CD.below HC.out hdr)
  replace HB := Lib.hid (HB.out.trans (Below.mono hdr HB.out.size))
  clear hdr
  generalize w1.drew = x0 at HR HR3 HCc HK HX HC HB ⊢
  have hS : DigAd ad f x0 := hdf.out x0 HC.out
  refine wpAnyH_take (i := 0) (v := ?_) rfl (by kernel_rfl) (by kernel_rfl) (by kernel_rfl) (fun _ _ _ h => h) (Or.inl ⟨by rfl, ?_⟩) hS ?_
  rotate_left
  · intro v _; go_simp; first | done | with_reducible rfl
  rotate_left
  simp only [List.getElem_toArray, List.getElem_cons_succ, List.getElem_cons_zero, Act.put, List.setIfInBounds_toArray, List.set_cons_zero, List.set_cons_succ]
  refine wpAnyH_take (i := 1) (v := ?_) rfl (by kernel_rfl) (by kernel_rfl) (by kernel_rfl) (fun _ _ _ h => h) (Or.inl ⟨by rfl, ?_⟩) hS ?_
  rotate_left
  · intro v _; go_simp; first | done | with_reducible rfl
  rotate_left
  simp only [List.getElem_toArray, List.getElem_cons_succ, List.getElem_cons_zero, Act.put, List.setIfInBounds_toArray, List.set_cons_zero, List.set_cons_succ]
  refine wpAnyH_take (i := 2) (v := _) rfl (by kernel_rfl) (by kernel_rfl) (by kernel_rfl) (fun _ _ _ h => h) (yieldsIf_digA (by rfl) (.tmp 44) rfl ad rfl f hf.out (fun _ h => h)) hS ?_
  try simp only [List.getElem_toArray, List.getElem_cons_succ, List.getElem_cons_zero, Act.put, List.setIfInBounds_toArray, List.set_cons_zero, List.set_cons_succ]
  refine wpAnyH_take (i := 3) (v := ?_) rfl (by kernel_rfl) (by kernel_rfl) (by kernel_rfl) (fun _ _ _ h => h) (Or.inl ⟨by rfl, ?_⟩) hS ?_
  rotate_left
  · intro v _; go_simp; first | done | with_reducible rfl
  rotate_left
  simp only [List.getElem_toArray, List.getElem_cons_succ, List.getElem_cons_zero, Act.put, List.setIfInBounds_toArray, List.set_cons_zero, List.set_cons_succ]
  refine wpAnyH_take (i := 4) (v := ?_) rfl (by kernel_rfl) (by kernel_rfl) (by kernel_rfl) (fun _ _ _ h => h) (Or.inl ⟨by rfl, ?_⟩) hS ?_
  rotate_left
  · intro v _; go_simp; first | done | with_reducible rfl
  rotate_left
  simp only [List.getElem_toArray, List.getElem_cons_succ, List.getElem_cons_zero, Act.put, List.setIfInBounds_toArray, List.set_cons_zero, List.set_cons_succ]
  refine wpAnyH_take (i := 5) (v := _) rfl (by kernel_rfl) (by kernel_rfl) (by kernel_rfl) (fun _ _ _ h => h) (yieldsIf_digA (by rfl) (.tmp 47) rfl ad rfl f hf.out (fun _ h => h)) hS ?_
  try simp only [List.getElem_toArray, List.getElem_cons_succ, List.getElem_cons_zero, Act.put, List.setIfInBounds_toArray, List.set_cons_zero, List.set_cons_succ]
  refine wpAnyH_all (rs := [6]) (by kernel_rfl) (by simp) ?_
  intro i hi
  simp only [List.mem_cons, List.not_mem_nil, or_false] at hi
  subst hi
  refine wpOp_wp rfl (by rfl) ?_
  refine wp_store_dig (.tmp 12) (.tmp 45) rfl (w.heap.size + 2) rfl f hf.out rfl _ _ HR.out zrow ?_
  intro z1 g1 hk1 hB1 hz1
  have hS := (hdf.out z1 (CD.below hCw.out (hB1 HB.out (by omega))))
  refine ⟨hS, ?_⟩
  try simp only [List.getElem_toArray, List.getElem_cons_succ, List.getElem_cons_zero, Act.put, List.setIfInBounds_toArray, List.set_cons_zero, List.set_cons_succ]
  have HR3' : DigAt (w.heap.size + 3) (List.replicate 32 0) z1 := by unfold DigAt; rw [hk1 _ (by omega)]; exact HR3.out
  refine wpAnyH_all (rs := [7]) (by kernel_rfl) (by simp) ?_
  intro i hi
  simp only [List.mem_cons, List.not_mem_nil, or_false] at hi
  subst hi
  refine wpOp_wp rfl (by rfl) ?_
  refine wp_store_dig (.tmp 13) (.tmp 48) rfl (w.heap.size + 3) rfl f hf.out rfl _ _ HR3' zrow ?_
  intro z2 h13 hk2 hB2 hz2
  have h12 : Hid (DigAt (w.heap.size + 2) f z2) := by refine Lib.hid ?_; unfold DigAt; rw [hk2 _ (by omega)]; exact g1.out
  have hS := (hdf.out z2 (CD.below hCw.out (hB2 (hB1 HB.out (by omega)) (by omega))))
  refine ⟨hS, ?_⟩
  try simp only [List.getElem_toArray, List.getElem_cons_succ, List.getElem_cons_zero, Act.put, List.setIfInBounds_toArray, List.set_cons_zero, List.set_cons_succ]
  refine wpAnyH_take (i := 8) (v := ?_) rfl (by kernel_rfl) (by kernel_rfl) (by kernel_rfl) (fun _ _ _ h => h) (Or.inl ⟨by rfl, ?_⟩) hS ?_
  rotate_left
  · intro v _; go_simp; first | done | with_reducible rfl
  rotate_left
  simp only [List.getElem_toArray, List.getElem_cons_succ, List.getElem_cons_zero, Act.put, List.setIfInBounds_toArray, List.set_cons_zero, List.set_cons_succ]
  refine wpAnyH_done (by kernel_rfl) ?_ _
  clear hS
  go_wp2_with fail
  refine bodyPost_ret (v := .tuple #[.agg (Lib.byteCells f).toArray, .agg (Lib.byteCells f).toArray, .bool true]) ?_ rfl ⟨f, f, rfl, ⟨rfl,rfl⟩, hB2 (hB1 HB.out (by omega)) (by omega)⟩
  simp [results, Tryd.results78, asAddr, run_load_dig h12.out hf.out, run_load_dig h13.out hf.out, Act.put]
set_option maxHeartbeats 8000000 in
set_option maxRecDepth 100000 in
/-- Too short, or too long. -/
theorem rboth_3 (ak : Addr) (c : Nat) (d : List UInt8) (hd : d.length = 32) (m n : Nat) (wh : Bool) (bs : List (List UInt8)) (A : Option Addr) (c1 : Nat) (w : World) (hC : CD A bs w) (hc : bs.length ≤ c1) (hK : KC w ak) (h : (m = n ∧ wh = false ∧ bs.length ≠ 1) ∨ (m ≠ n ∧ bs.length = 0)) :
    Calls Tryd.prog 78 #[cv ak c, .agg (Lib.byteCells d).toArray, .int .i64 (m : Int), .int .i64 (n : Int), .bool wh, .slice A bs.length c1] w fun e w' => ∃ x y, e = .returned (.tuple #[.agg (Lib.byteCells x).toArray, .agg (Lib.byteCells y).toArray, .bool false]) ∧ (x = d ∧ y = d) ∧ Below w.heap.size w w' := by
  replace hd := Lib.hid hd
  unfold cv at *
  rcases h with ⟨rfl, rfl, h1⟩ | ⟨h0, h1⟩
  · have e1 : ((bs.length : Int) == 1) = false := by rw [beq_eq_false_iff_ne]; omega
    have e2 : (bs.length == 1) = false := by rw [beq_eq_false_iff_ne]; omega
    replace h1 := Lib.hid h1
    go_enter Tryd.func78, Tryd.ntmps78
    go_upto_region 1 with fail
    generalize hw1 : World.alloc _ _ = w1
    have hsz3 : ∀ (o1 o2 : Obj), ((w.alloc o1).alloc o2).heap.size = w.heap.size + 2 := fun _ _ => by simp
    have hsz4 : ∀ (o1 o2 o3 : Obj), (((w.alloc o1).alloc o2).alloc o3).heap.size = w.heap.size + 3 := fun _ _ _ => by simp
    have HCc : Hid (CAt w.heap.size (.slice (some ak) 64 c) v0 w1) := by
      rw [← hw1]; refine Lib.hid ?_; unfold CAt
      rw [Below.heap_alloc _ _ _ (by simp <;> omega), Below.heap_alloc _ _ _ (by simp <;> omega), Below.heap_alloc _ _ _ (by simp)]; exact heap_alloc_last _ _
    have HX : Hid (DigAt (w.heap.size + 1) d w1) := by
      rw [← hw1]; refine Lib.hid ?_; unfold DigAt
      rw [Below.heap_alloc _ _ _ (by simp <;> omega), Below.heap_alloc _ _ _ (by simp)]; exact heap_at1 _ _ _
    have HR : Hid (DigAt (w.heap.size + 2) (List.replicate 32 0) w1) := by
      rw [← hw1]; refine Lib.hid ?_; unfold DigAt
      rw [Below.heap_alloc _ _ _ (by simp), ← hsz3]; exact heap_alloc_last _ _
    have HR3 : Hid (DigAt (w.heap.size + 3) (List.replicate 32 0) w1) := by
      rw [← hw1]; refine Lib.hid ?_; unfold DigAt
      rw [← hsz4]; exact heap_alloc_last _ _
    have HB : Hid (Below w.heap.size w w1) := by
      rw [← hw1]; exact Lib.hid (((((Below.refl _ _).alloc (Nat.le_refl _) _).alloc (by simp) _).alloc (by simp <;> omega) _).alloc (by simp <;> omega) _)
    have HK := Lib.hid (hK.below HB.out)
    have HC := Lib.hid (hC.below HB.out)
    clear hw1 hK hsz3 hsz4 hC
    go_upto_region 6 with fail
    refine wp_region_held (S := (SX (w.heap.size + 1) d)) (by kernel_rfl) ?_
    change wpAnyH _ _ _ _ _ _ _ _ w1.drew
    have hdr : Below w1.heap.size w1 w1.drew := (Below.refl _ _).drew
    replace HR := Lib.hid (DigAt.below HR.out hdr)
    replace HR3 := Lib.hid (DigAt.below HR3.out hdr)
    replace HCc := Lib.hid (CAt.below HCc.out hdr)
    replace HK := Lib.hid (KC.below HK.out hdr)
    replace HX := Lib.hid (DigAt.below HX.out hdr)
    replace HC := Lib.hid (CD.below HC.out hdr)
    replace HB := Lib.hid (HB.out.trans (Below.mono hdr HB.out.size))
    clear hdr
    generalize w1.drew = x0 at HR HR3 HCc HK HX HC HB ⊢
    have hS : SX (w.heap.size + 1) d x0 := HX.out
    refine wpAnyH_take (i := 0) (v := _) rfl (by kernel_rfl) (by kernel_rfl) (by kernel_rfl) (fun _ _ _ h => h) (yieldsIf_digA (by rfl) (.tmp 7) rfl ⟨w.heap.size+1,0,none⟩ rfl d hd.out (fun _ h => (DigAt.ad h))) hS ?_
    try simp only [List.getElem_toArray, List.getElem_cons_succ, List.getElem_cons_zero, Act.put, List.setIfInBounds_toArray, List.set_cons_zero, List.set_cons_succ]
    refine wpAnyH_take (i := 1) (v := _) rfl (by kernel_rfl) (by kernel_rfl) (by kernel_rfl) (fun _ _ _ h => h) (yieldsIf_digA (by rfl) (.tmp 7) rfl ⟨w.heap.size+1,0,none⟩ rfl d hd.out (fun _ h => (DigAt.ad h))) hS ?_
    try simp only [List.getElem_toArray, List.getElem_cons_succ, List.getElem_cons_zero, Act.put, List.setIfInBounds_toArray, List.set_cons_zero, List.set_cons_succ]
    refine wpAnyH_all (rs := [2]) (by kernel_rfl) (by simp) ?_
    intro i hi
    simp only [List.mem_cons, List.not_mem_nil, or_false] at hi
    subst hi
    refine wpOp_wp rfl (by rfl) ?_
    refine wp_store_dig (.tmp 12) (.tmp 57) rfl (w.heap.size + 2) rfl d hd.out rfl _ _ HR.out zrow ?_
    intro z1 g1 hk1 hB1 hz1
    have hS := (show SX (w.heap.size + 1) d z1 by unfold SX DigAt; rw [hk1 _ (by omega)]; exact HX.out)
    refine ⟨hS, ?_⟩
    try simp only [List.getElem_toArray, List.getElem_cons_succ, List.getElem_cons_zero, Act.put, List.setIfInBounds_toArray, List.set_cons_zero, List.set_cons_succ]
    have HR3' : DigAt (w.heap.size + 3) (List.replicate 32 0) z1 := by unfold DigAt; rw [hk1 _ (by omega)]; exact HR3.out
    refine wpAnyH_all (rs := [3]) (by kernel_rfl) (by simp) ?_
    intro i hi
    simp only [List.mem_cons, List.not_mem_nil, or_false] at hi
    subst hi
    refine wpOp_wp rfl (by rfl) ?_
    refine wp_store_dig (.tmp 13) (.tmp 58) rfl (w.heap.size + 3) rfl d hd.out rfl _ _ HR3' zrow ?_
    intro z2 h13 hk2 hB2 hz2
    have h12 : Hid (DigAt (w.heap.size + 2) d z2) := by refine Lib.hid ?_; unfold DigAt; rw [hk2 _ (by omega)]; exact g1.out
    have hS := (show SX (w.heap.size + 1) d z2 by unfold SX DigAt; rw [hk2 _ (by omega), hk1 _ (by omega)]; exact HX.out)
    refine ⟨hS, ?_⟩
    try simp only [List.getElem_toArray, List.getElem_cons_succ, List.getElem_cons_zero, Act.put, List.setIfInBounds_toArray, List.set_cons_zero, List.set_cons_succ]
    refine wpAnyH_take (i := 4) (v := ?_) rfl (by kernel_rfl) (by kernel_rfl) (by kernel_rfl) (fun _ _ _ h => h) (Or.inl ⟨by rfl, ?_⟩) hS ?_
    rotate_left
    · intro v _; go_simp; first | done | with_reducible rfl
    rotate_left
    simp only [List.getElem_toArray, List.getElem_cons_succ, List.getElem_cons_zero, Act.put, List.setIfInBounds_toArray, List.set_cons_zero, List.set_cons_succ]
    refine wpAnyH_done (by kernel_rfl) ?_ _
    clear hS
    go_wp2_with fail
    refine bodyPost_ret (v := .tuple #[.agg (Lib.byteCells d).toArray, .agg (Lib.byteCells d).toArray, .bool false]) ?_ rfl ⟨d, d, rfl, ⟨rfl,rfl⟩, hB2 (hB1 HB.out (by omega)) (by omega)⟩
    simp [results, Tryd.results78, asAddr, run_load_dig h12.out hd.out, run_load_dig h13.out hd.out, Act.put]
  · have e1 : ((m : Int) == (n : Int)) = false := by rw [beq_eq_false_iff_ne]; omega
    have e2 : (m == n) = false := by rw [beq_eq_false_iff_ne]; omega
    obtain rfl : bs = [] := List.eq_nil_of_length_eq_zero h1
    replace h0 := Lib.hid h0
    go_enter Tryd.func78, Tryd.ntmps78
    go_upto_region 1 with fail
    generalize hw1 : World.alloc _ _ = w1
    have hsz3 : ∀ (o1 o2 : Obj), ((w.alloc o1).alloc o2).heap.size = w.heap.size + 2 := fun _ _ => by simp
    have hsz4 : ∀ (o1 o2 o3 : Obj), (((w.alloc o1).alloc o2).alloc o3).heap.size = w.heap.size + 3 := fun _ _ _ => by simp
    have HCc : Hid (CAt w.heap.size (.slice (some ak) 64 c) v0 w1) := by
      rw [← hw1]; refine Lib.hid ?_; unfold CAt
      rw [Below.heap_alloc _ _ _ (by simp <;> omega), Below.heap_alloc _ _ _ (by simp <;> omega), Below.heap_alloc _ _ _ (by simp)]; exact heap_alloc_last _ _
    have HX : Hid (DigAt (w.heap.size + 1) d w1) := by
      rw [← hw1]; refine Lib.hid ?_; unfold DigAt
      rw [Below.heap_alloc _ _ _ (by simp <;> omega), Below.heap_alloc _ _ _ (by simp)]; exact heap_at1 _ _ _
    have HR : Hid (DigAt (w.heap.size + 2) (List.replicate 32 0) w1) := by
      rw [← hw1]; refine Lib.hid ?_; unfold DigAt
      rw [Below.heap_alloc _ _ _ (by simp), ← hsz3]; exact heap_alloc_last _ _
    have HR3 : Hid (DigAt (w.heap.size + 3) (List.replicate 32 0) w1) := by
      rw [← hw1]; refine Lib.hid ?_; unfold DigAt
      rw [← hsz4]; exact heap_alloc_last _ _
    have HB : Hid (Below w.heap.size w w1) := by
      rw [← hw1]; exact Lib.hid (((((Below.refl _ _).alloc (Nat.le_refl _) _).alloc (by simp) _).alloc (by simp <;> omega) _).alloc (by simp <;> omega) _)
    have HK := Lib.hid (hK.below HB.out)
    have HC := Lib.hid (hC.below HB.out)
    clear hw1 hK hsz3 hsz4 hC
    go_upto_region 6 with fail
    refine wp_region_held (S := (SX (w.heap.size + 1) d)) (by kernel_rfl) ?_
    change wpAnyH _ _ _ _ _ _ _ _ w1.drew
    have hdr : Below w1.heap.size w1 w1.drew := (Below.refl _ _).drew
    replace HR := Lib.hid (DigAt.below HR.out hdr)
    replace HR3 := Lib.hid (DigAt.below HR3.out hdr)
    replace HCc := Lib.hid (CAt.below HCc.out hdr)
    replace HK := Lib.hid (KC.below HK.out hdr)
    replace HX := Lib.hid (DigAt.below HX.out hdr)
    replace HC := Lib.hid (CD.below HC.out hdr)
    replace HB := Lib.hid (HB.out.trans (Below.mono hdr HB.out.size))
    clear hdr
    generalize w1.drew = x0 at HR HR3 HCc HK HX HC HB ⊢
    have hS : SX (w.heap.size + 1) d x0 := HX.out
    refine wpAnyH_take (i := 0) (v := _) rfl (by kernel_rfl) (by kernel_rfl) (by kernel_rfl) (fun _ _ _ h => h) (yieldsIf_digA (by rfl) (.tmp 7) rfl ⟨w.heap.size+1,0,none⟩ rfl d hd.out (fun _ h => (DigAt.ad h))) hS ?_
    try simp only [List.getElem_toArray, List.getElem_cons_succ, List.getElem_cons_zero, Act.put, List.setIfInBounds_toArray, List.set_cons_zero, List.set_cons_succ]
    refine wpAnyH_take (i := 1) (v := _) rfl (by kernel_rfl) (by kernel_rfl) (by kernel_rfl) (fun _ _ _ h => h) (yieldsIf_digA (by rfl) (.tmp 7) rfl ⟨w.heap.size+1,0,none⟩ rfl d hd.out (fun _ h => (DigAt.ad h))) hS ?_
    try simp only [List.getElem_toArray, List.getElem_cons_succ, List.getElem_cons_zero, Act.put, List.setIfInBounds_toArray, List.set_cons_zero, List.set_cons_succ]
    refine wpAnyH_all (rs := [2]) (by kernel_rfl) (by simp) ?_
    intro i hi
    simp only [List.mem_cons, List.not_mem_nil, or_false] at hi
    subst hi
    refine wpOp_wp rfl (by rfl) ?_
    refine wp_store_dig (.tmp 12) (.tmp 57) rfl (w.heap.size + 2) rfl d hd.out rfl _ _ HR.out zrow ?_
    intro z1 g1 hk1 hB1 hz1
    have hS := (show SX (w.heap.size + 1) d z1 by unfold SX DigAt; rw [hk1 _ (by omega)]; exact HX.out)
    refine ⟨hS, ?_⟩
    try simp only [List.getElem_toArray, List.getElem_cons_succ, List.getElem_cons_zero, Act.put, List.setIfInBounds_toArray, List.set_cons_zero, List.set_cons_succ]
    have HR3' : DigAt (w.heap.size + 3) (List.replicate 32 0) z1 := by unfold DigAt; rw [hk1 _ (by omega)]; exact HR3.out
    refine wpAnyH_all (rs := [3]) (by kernel_rfl) (by simp) ?_
    intro i hi
    simp only [List.mem_cons, List.not_mem_nil, or_false] at hi
    subst hi
    refine wpOp_wp rfl (by rfl) ?_
    refine wp_store_dig (.tmp 13) (.tmp 58) rfl (w.heap.size + 3) rfl d hd.out rfl _ _ HR3' zrow ?_
    intro z2 h13 hk2 hB2 hz2
    have h12 : Hid (DigAt (w.heap.size + 2) d z2) := by refine Lib.hid ?_; unfold DigAt; rw [hk2 _ (by omega)]; exact g1.out
    have hS := (show SX (w.heap.size + 1) d z2 by unfold SX DigAt; rw [hk2 _ (by omega), hk1 _ (by omega)]; exact HX.out)
    refine ⟨hS, ?_⟩
    try simp only [List.getElem_toArray, List.getElem_cons_succ, List.getElem_cons_zero, Act.put, List.setIfInBounds_toArray, List.set_cons_zero, List.set_cons_succ]
    refine wpAnyH_take (i := 4) (v := ?_) rfl (by kernel_rfl) (by kernel_rfl) (by kernel_rfl) (fun _ _ _ h => h) (Or.inl ⟨by rfl, ?_⟩) hS ?_
    rotate_left
    · intro v _; go_simp; first | done | with_reducible rfl
    rotate_left
    simp only [List.getElem_toArray, List.getElem_cons_succ, List.getElem_cons_zero, Act.put, List.setIfInBounds_toArray, List.set_cons_zero, List.set_cons_succ]
    refine wpAnyH_done (by kernel_rfl) ?_ _
    clear hS
    go_wp2_with fail
    refine bodyPost_ret (v := .tuple #[.agg (Lib.byteCells d).toArray, .agg (Lib.byteCells d).toArray, .bool false]) ?_ rfl ⟨d, d, rfl, ⟨rfl,rfl⟩, hB2 (hB1 HB.out (by omega)) (by omega)⟩
    simp [results, Tryd.results78, asAddr, run_load_dig h12.out hd.out, run_load_dig h13.out hd.out, Act.put]
end Go.Proofs.YtldpnmebjnkjeaaDoor.TrW
