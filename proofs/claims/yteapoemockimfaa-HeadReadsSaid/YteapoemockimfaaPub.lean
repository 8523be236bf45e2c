/-
  Public numbers and genuine signatures: the plain laws that all seats share.
-/
import Derived.Test.YteapoemockimfaaSgL
namespace Go.Proofs.Yteapoemockimfaa
set_option linter.unusedVariables false
set_option linter.unusedSimpArgs false
open Go.RowKit

theorem pub_mod (a : Int) : pubF (a % 2305843009213693950) = pubF a := by unfold pubF; rw [Int.emod_emod_of_dvd _ (Int.dvd_refl _)]
theorem pub_add (x y : Int) (hx : 0 ≤ x) (hy : 0 ≤ y) : pubF ((x + y) % 2305843009213693950) = fmul (pubF x) (pubF y) 2305843009213693951 := by
  rw [pub_mod]
  unfold pubF
  rw [fpow_order_mod _ (by omega), fpow_order_mod _ hx, fpow_order_mod _ hy, fpow_add _ _ _ hx hy]
theorem pub_pos (x : Int) : 1 ≤ pubF x := by
  have hb := pubF_bd x
  rcases (show pubF x < 1 ∨ 1 ≤ pubF x by omega) with h | h
  · exfalso
    have h0 : pubF x = 0 := by omega
    unfold pubF at h0
    have e0 : 0 ≤ x % 2305843009213693950 := Int.emod_nonneg _ (by decide)
    have e1 : x % 2305843009213693950 < 2305843009213693950 := Int.emod_lt_of_pos _ (by decide)
    have h1 := fpow_add 7 (x % 2305843009213693950) (2305843009213693950 - x % 2305843009213693950) e0 (by omega)
    rw [h0, show x % 2305843009213693950 + (2305843009213693950 - x % 2305843009213693950) = 2305843009213693950 by omega] at h1
    have h2 := fpow_order 7 (by decide)
    rw [h1] at h2
    rw [show fmul 0 (fpow 7 (2305843009213693950 - x % 2305843009213693950) 2305843009213693951) 2305843009213693951 = 0 from fmul_zero _ _ rfl] at h2
    revert h2
    decide
  · exact h

theorem sigR_pos (x : Int) (m : List UInt8) : 1 ≤ sigR x m := by
  have h := pub_pos (signK x m)
  unfold pubF at h
  have hb := signK_bd x m
  rw [show signK x m % 2305843009213693950 = signK x m from Int.emod_eq_of_lt hb.1 hb.2] at h
  exact h
/-- A genuine signature is taken. -/
theorem check_own (x : Int) (m : List UInt8) (x0 : 0 ≤ x) (x1 : x < 2305843009213693950) : checkF (pubF x) m (sigR x m) (sigS x m) = true := by
  unfold checkF
  rw [sign_same x m x0 x1, unitF_true (pub_pos x) (pubF_bd x).2, unitF_true (sigR_pos x m) (sigR_bd x m).2, decide_eq_true (sigS_bd x m).2]
  rfl
end Go.Proofs.Yteapoemockimfaa
