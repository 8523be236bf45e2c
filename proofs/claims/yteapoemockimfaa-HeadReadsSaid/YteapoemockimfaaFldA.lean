/-
  The product of two words of 64 bits as Mul64 tells it; the leading zeros of both moduli.
-/
import Derived.Test.YteapoemockimfaaFld
namespace Go.Proofs.Yteapoemockimfaa
set_option linter.unusedVariables false
set_option linter.unusedSimpArgs false
open Go.RowKit

theorem and_mask32 (x : Int) (h0 : 0 ≤ x) (h1 : x < 18446744073709551616) : bits .and .u64 x 4294967295 = x % 4294967296 := by
  rw [u64_and x 4294967295 h0 h1 (by omega) (by omega)]
  show ((x.toNat &&& 4294967295 : Nat) : Int) = _
  rw [nat_mask32]; omega

theorem prod_le (a b : Int) (ha : 0 ≤ a) (ha' : a ≤ 4294967295) (hb : 0 ≤ b) (hb' : b ≤ 4294967295) : 0 ≤ a * b ∧ a * b ≤ 18446744065119617025 := by
  refine ⟨Int.mul_nonneg ha hb, ?_⟩
  calc a * b ≤ 4294967295 * 4294967295 := Int.mul_le_mul ha' hb' hb (by omega)
    _ = 18446744065119617025 := rfl

theorem mul64_alg (x y : Int) (hx0 : 0 ≤ x) (hx1 : x < 18446744073709551616) (hy0 : 0 ≤ y) (hy1 : y < 18446744073709551616) :
    ((x / 4294967296 * (y / 4294967296)) % 18446744073709551616 +
      ((x / 4294967296 * (y % 4294967296)) % 18446744073709551616 + (x % 4294967296 * (y % 4294967296)) % 18446744073709551616 / 4294967296) % 18446744073709551616 / 4294967296) % 18446744073709551616 +
      ((((x / 4294967296 * (y % 4294967296)) % 18446744073709551616 + (x % 4294967296 * (y % 4294967296)) % 18446744073709551616 / 4294967296) % 18446744073709551616) % 4294967296 +
        (x % 4294967296 * (y / 4294967296)) % 18446744073709551616) % 18446744073709551616 / 4294967296 = x * y / 18446744073709551616 := by
  have e : x * y = (x / 4294967296 * (y / 4294967296)) * 18446744073709551616 + (x / 4294967296 * (y % 4294967296) + x % 4294967296 * (y / 4294967296)) * 4294967296 + x % 4294967296 * (y % 4294967296) := by
    have ex : x = x / 4294967296 * 4294967296 + x % 4294967296 := by omega
    have ey : y = y / 4294967296 * 4294967296 + y % 4294967296 := by omega
    generalize x / 4294967296 = x1 at *
    generalize x % 4294967296 = x0 at *
    generalize y / 4294967296 = y1 at *
    generalize y % 4294967296 = y0 at *
    subst ex ey
    simp only [Int.add_mul, Int.mul_add]
    have a1 : x1 * 4294967296 * (y1 * 4294967296) = x1 * y1 * 18446744073709551616 := by rw [show (18446744073709551616 : Int) = 4294967296 * 4294967296 from rfl]; ac_rfl
    have a2 : x1 * 4294967296 * y0 = x1 * y0 * 4294967296 := by ac_rfl
    have a3 : x0 * (y1 * 4294967296) = x0 * y1 * 4294967296 := by ac_rfl
    rw [a1, a2, a3]; omega
  have p11 := prod_le (x / 4294967296) (y / 4294967296) (by omega) (by omega) (by omega) (by omega)
  have p10 := prod_le (x / 4294967296) (y % 4294967296) (by omega) (by omega) (by omega) (by omega)
  have p01 := prod_le (x % 4294967296) (y / 4294967296) (by omega) (by omega) (by omega) (by omega)
  have p00 := prod_le (x % 4294967296) (y % 4294967296) (by omega) (by omega) (by omega) (by omega)
  rw [e]; clear e
  generalize x / 4294967296 * (y / 4294967296) = q11 at *
  generalize x / 4294967296 * (y % 4294967296) = q10 at *
  generalize x % 4294967296 * (y / 4294967296) = q01 at *
  generalize x % 4294967296 * (y % 4294967296) = q00 at *
  clear hx0 hx1 hy0 hy1
  omega

theorem ret_two {k : IntKind} {a b a' b' : Int} (h1 : a = a') (h2 : b = b') : Ending.returned (.tuple #[.int k a, .int k b]) = .returned (.tuple #[.int k a', .int k b']) := by rw [h1, h2]

set_option maxHeartbeats 800000 in
theorem mul64_any (x y : Int) (w : World) (hx0 : 0 ≤ x) (hx1 : x < 18446744073709551616) (hy0 : 0 ≤ y) (hy1 : y < 18446744073709551616) :
    Calls Try.prog 76 #[.int .u64 x, .int .u64 y] w fun e w' => e = .returned (.tuple #[.int .u64 (x * y / 18446744073709551616), .int .u64 (x * y % 18446744073709551616)]) ∧ w = w' := by
  have h1 := and_mask32 x hx0 hx1
  have h2 := and_mask32 y hy0 hy1
  go_enter Try.func76, Try.ntmps76
  go_wp2
  go_ret2
  refine ⟨ret_two ?_ ?_, rfl⟩
  · rw [and_mask32 (IntKind.u64.wrap _) (by rw [IntKind.wrap_u64]; omega) (by rw [IntKind.wrap_u64]; omega)]
    simp only [IntKind.wrap_u64, h1, h2]
    have hq : x * y / 18446744073709551616 < 18446744073709551616 := by
      have : x * y ≤ 18446744073709551615 * 18446744073709551615 := Int.mul_le_mul (by omega) (by omega) hy0 (by omega)
      omega
    have hq0 : 0 ≤ x * y := Int.mul_nonneg hx0 hy0
    rw [mul64_alg x y hx0 hx1 hy0 hy1]
    omega
  · exact IntKind.wrap_u64 _

set_option maxRecDepth 100000 in
set_option maxHeartbeats 800000 in
theorem len64_p (w : World) :
    Calls Try.prog 106 #[.int .u64 2305843009213693951] w fun e w' => e = .returned (.int .i64 61) ∧ w = w' := by
  go_enter Try.func106, Try.ntmps106
  go_wp2
  go_ret
  exact ⟨by kernel_rfl, rfl⟩

set_option maxRecDepth 100000 in
set_option maxHeartbeats 800000 in
theorem len64_o (w : World) :
    Calls Try.prog 106 #[.int .u64 2305843009213693950] w fun e w' => e = .returned (.int .i64 61) ∧ w = w' := by
  go_enter Try.func106, Try.ntmps106
  go_wp2
  go_ret
  exact ⟨by kernel_rfl, rfl⟩

theorem lead_any (y : Int) (hy : y = 2305843009213693950 ∨ y = 2305843009213693951) (w : World) :
    Calls Try.prog 102 #[.int .u64 y] w fun e w' => e = .returned (.int .i64 3) ∧ w = w' := by
  rcases hy with rfl | rfl
  · go_enter Try.func102, Try.ntmps102
    go_wp2_with (go_at_call 106; refine (len64_o _).mono ?_; rintro e w' ⟨rfl, rfl⟩)
    go_ret
    exact ⟨rfl, rfl⟩
  · go_enter Try.func102, Try.ntmps102
    go_wp2_with (go_at_call 106; refine (len64_p _).mono ?_; rintro e w' ⟨rfl, rfl⟩)
    go_ret
    exact ⟨rfl, rfl⟩
end Go.Proofs.Yteapoemockimfaa
