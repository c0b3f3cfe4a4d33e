import Derived.Test.YtldpnmebjnkjeaaDoorShaW
import Derived.Test.YtldpnmebjnkjeaaDoorProg
import Derived.WalkKit
import Derived.Lib.Hide
import Derived.Outline
namespace Go.Proofs.YtldpnmebjnkjeaaDoor.Sha
open Go.RowKit
set_option linter.unusedVariables false
set_option linter.unusedSimpArgs false

theorem low5 (n : Nat) (h1 : 1 ≤ n) (h2 : n < 32) : bits .and .u64 (IntKind.u64.wrap (-(n : Int))) 31 = ((32 - n : Nat) : Int) := by
  have all : ∀ m : Fin 32, 1 ≤ m.val → bits .and .u64 (IntKind.u64.wrap (-(m.val : Int))) 31 = ((32 - m.val : Nat) : Int) := by decide +kernel
  exact all ⟨n, h2⟩ h1
set_option maxHeartbeats 2000000 in
theorem rot_calls (x : UInt32) (n : Nat) (h1 : 1 ≤ n) (h2 : n < 32) (w : World) :
    Calls Tryd.prog 112 #[.int .u32 (x.toNat : Int), .int .i64 (-(n : Int))] w fun e w' => e = .returned (.int .u32 ((rotr x n).toNat : Int)) ∧ w' = w := by
  have hl := low5 n h1 h2
  have hw1 : IntKind.u64.wrap (32 - ((32 - n : Nat) : Int)) = (n : Int) := by simp [IntKind.wrap, IntKind.bits, IntKind.signed]; omega
  have hw2 : (32 - ((32 - n : Nat) : Int)) = (n : Int) := by omega
  have ho := bor (x <<< UInt32.ofNat (32 - n)) (x >>> UInt32.ofNat n)
  rw [UInt32.or_comm, ← bshl x (32 - n) (by omega), ← bshr x n h2] at ho
  replace ho := Lib.hid ho
  go_enter Tryd.func112, Tryd.ntmps112
  go_wp2_with fail
  go_ret
  refine ⟨?_, rfl⟩
  show Ending.returned (.int .u32 (bits .or .u32 ((x.toNat : Int) * 2 ^ (32 - n) % 4294967296) ((x.toNat : Int) / 2 ^ n))) = _
  rw [ho.out]; rfl
set_option maxHeartbeats 2000000 in
theorem turn_calls (x : UInt32) (n : Nat) (h1 : 1 ≤ n) (h2 : n < 32) (w : World) :
    Calls Tryd.prog 99 #[.int .u32 (x.toNat : Int), .int .i64 (n : Int)] w fun e w' => e = .returned (.int .u32 ((rotr x n).toNat : Int)) ∧ w' = w := by
  have hn1 : (n : Int) < 32 := by omega
  go_enter Tryd.func99, Tryd.ntmps99
  go_wp2_with fail
  refine (rot_calls x n h1 h2 _).mono ?_
  rintro e w' ⟨rfl, rfl⟩
  go_wp2_with fail
  go_ret
  exact ⟨rfl, rfl⟩
end Go.Proofs.YtldpnmebjnkjeaaDoor.Sha
