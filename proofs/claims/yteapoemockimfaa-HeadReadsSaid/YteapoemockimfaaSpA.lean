/-
  A word turned to the right, and a word with two of its turns: what the sponge's and the reference's functions come to.
-/
import Derived.Test.YteapoemockimfaaKit
import Derived.OpenShut
namespace Go.Proofs.Yteapoemockimfaa
set_option linter.unusedVariables false
set_option linter.unusedSimpArgs false
open Go.RowKit

theorem and63 (n : Int) (h : 1 ≤ n) (h1 : n ≤ 63) : bits .and .u64 (IntKind.u64.wrap (-n)) 63 = 64 - n := by
  rw [u64_and _ _ (wrap_u64_nonneg _) (by rw [IntKind.wrap_u64]; omega) (by omega) (by omega)]
  show (((IntKind.u64.wrap (-n)).toNat &&& 63 : Nat) : Int) = _
  rw [nat_mask6, IntKind.wrap_u64]; omega
theorem bits_bd (op : BinOp) (x y : Int) : 0 ≤ bits op .u64 x y ∧ bits op .u64 x y < 18446744073709551616 := by
  have := bounds_u64 (wf_bits op .u64 x y); omega
theorem or_comm64 (x y : Int) : bits .or .u64 x y = bits .or .u64 y x := by
  unfold bits; simp [BitVec.or_comm]

def rotr (x n : Int) : Int := bits .or .u64 (IntKind.u64.wrap (x * 2 ^ (64 - n).toNat)) (x / 2 ^ n.toNat)
def turnF (x a b : Int) : Int := bits .xor .u64 (bits .xor .u64 x (rotr x a)) (rotr x b)

set_option maxHeartbeats 400000 in
theorem rot_any (x : Int) (n : Int) (w : World) (h0 : 0 ≤ x) (h1 : x < 18446744073709551616) (hk : 1 ≤ n) (hk1 : n ≤ 63) :
    Calls Try.prog 107 #[.int .u64 x, .int .i64 (-n)] w fun e w' => e = .returned (.int .u64 (rotr x n)) ∧ w = w' := by
  have hb := and63 n hk hk1
  have s0 : 0 ≤ 64 - n := by omega
  have e1 : rotr x n = bits .or .u64 (IntKind.u64.wrap (x * 2 ^ (64 - n).toNat)) (x / 2 ^ (64 - (64 - n)).toNat) := by
    unfold rotr; rw [show (64 : Int) - (64 - n) = n by omega]
  rw [e1]; clear e1
  go_enter Try.func107, Try.ntmps107
  go_wp2
  go_ret
  exact ⟨rfl, rfl⟩

set_option maxHeartbeats 400000 in
theorem turned_any (x a b : Int) (w : World) (h0 : 0 ≤ x) (h1 : x < 18446744073709551616) (ha : 1 ≤ a) (ha1 : a ≤ 63) (hb : 1 ≤ b) (hb1 : b ≤ 63) :
    Calls Try.prog 105 #[.int .u64 x, .int .i64 a, .int .i64 b] w fun e w' => e = .returned (.int .u64 (turnF x a b)) ∧ w = w' := by
  go_enter Try.func105, Try.ntmps105
  go_wp2_with fail
  refine (rot_any x a _ h0 h1 ha ha1).mono ?_
  rintro e w1 ⟨rfl, rfl⟩
  go_wp2_with fail
  refine (rot_any x b _ h0 h1 hb hb1).mono ?_
  rintro e w1 ⟨rfl, rfl⟩
  go_wp2_with fail
  go_ret
  exact ⟨rfl, rfl⟩

set_option maxHeartbeats 400000 in
theorem turn_any (x n : Int) (w : World) (h0 : 0 ≤ x) (h1 : x < 18446744073709551616) (ha : 1 ≤ n) (ha1 : n ≤ 63) :
    Calls Try.prog 103 #[.int .u64 x, .int .i64 n] w fun e w' => e = .returned (.int .u64 (rotr x n)) ∧ Dr w w' := by
  have s0 : 0 ≤ 64 - n := by omega
  have s1 : 0 ≤ n := by omega
  have e1 : rotr x n = bits .or .u64 (x / 2 ^ n.toNat) (IntKind.u64.wrap (x * 2 ^ (64 - n).toNat)) := or_comm64 _ _
  rw [e1]; clear e1
  go_enter Try.func103, Try.ntmps103
  go_wp2
  go_quiet (fail)
  go_wp2
  go_ret
  exact ⟨rfl, by first | exact Dr.refl _ | exact ⟨_, rfl⟩⟩
end Go.Proofs.Yteapoemockimfaa
