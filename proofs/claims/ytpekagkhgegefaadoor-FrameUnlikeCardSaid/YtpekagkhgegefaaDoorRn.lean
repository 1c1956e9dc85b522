/- Walks: right, Join of the reference (layer 2); few of the law. -/
import Derived.Test.YtpekagkhgegefaaDoorRd
import Derived.Test.YtpekagkhgegefaaDoorHu
set_option linter.unusedVariables false
set_option linter.unusedSimpArgs false
set_option linter.unnecessarySimpa false
namespace Go.Proofs.YtpekagkhgegefaaDoor
open Go.RowKit

theorem right_any (x n : Nat) (w : World) (hx : x < 4294967296) (h0 : 0 < n) (hn : n < 32) : Calls Tryd.prog 55 #[.int .u32 x, .int .u64 n] w (fun e w' => e = .returned (.int .u32 (rotr x n)) ∧ w = w') := by
  have m1 : IntKind.u64.wrap (32 - (n : Int)) = 32 - (n : Int) := IntWalk.u64_in _ (by omega)
  have m2 : (32 - (n : Int)).toNat = 32 - n := by omega
  have m3 : (0 : Int) ≤ 32 - (n : Int) := by omega
  have m4 : 32 - n < 32 := by omega
  have hr : bits .or .u32 ((x : Int) / 2 ^ n) ((x : Int) * 2 ^ (32 - n) % 4294967296) = ((rotr x n : Nat) : Int) := by
    have e1 : (x : Int) * 2 ^ (32 - n) % 4294967296 = ((x * 2 ^ (32 - n) % 4294967296 : Nat) : Int) := by simp
    have e2 : (x : Int) / 2 ^ n = ((x / 2 ^ n : Nat) : Int) := by simp
    have h2 : x / 2 ^ n ≤ x := Nat.div_le_self _ _
    rw [e1, e2, or32 _ _ (by omega) (by omega)]
    unfold rotr
    rw [Nat.shiftRight_eq_div_pow, Nat.shiftLeft_eq]
  have HR := Lib.hid hr
  clear hr
  go_enter Tryd.func55, Tryd.ntmps55
  go_wp2_with fail
  go_ret
  exact ⟨congrArg (fun z => Ending.returned (Value.int .u32 z)) HR.out, rfl⟩
theorem right_i (x : Nat) (n : Int) (w : World) (hx : x < 4294967296) (h0 : 0 < n) (hn : n < 32) : Calls Tryd.prog 55 #[.int .u32 x, .int .u64 n] w (fun e w' => e = .returned (.int .u32 (rotr x n.toNat)) ∧ w' = w) := by
  obtain ⟨m, rfl⟩ := Int.eq_ofNat_of_zero_le (show 0 ≤ n by omega)
  exact (right_any x m w hx (by omega) (by omega)).mono fun _ _ h => ⟨h.1, h.2.symm⟩
end Go.Proofs.YtpekagkhgegefaaDoor
