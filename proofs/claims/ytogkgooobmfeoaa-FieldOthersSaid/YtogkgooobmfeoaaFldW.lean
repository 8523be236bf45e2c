/-
  known: it tells true.
-/
import Derived.Test.YtogkgooobmfeoaaFldE
import Derived.Test.YtogkgooobmfeoaaFldL
import Derived.OpenShut
namespace Go.Proofs.Ytogkgooobmfeoaa
set_option linter.unusedVariables false
set_option linter.unusedSimpArgs false
open Go.RowKit

theorem k1 : fmul 2 1152921504606846976 2305843009213693951 = 1 := by decide
theorem k2 : fadd 2305843009213693950 2 2305843009213693951 = 1 := by decide
theorem k3 : fpow 3 5 2305843009213693950 = 243 := by decide
theorem k4 : fmul (fpow 7 2305843009213693949 2305843009213693951) 7 2305843009213693951 = 1 := by
  rw [fmul_comm]; exact finv_one 7 (by omega) (by omega)
theorem k5 : fpow 0 2305843009213693949 2305843009213693951 = 0 := finv_zero 0 rfl

set_option maxHeartbeats 800000 in
theorem known_any (w : World) :
    Calls Try.prog 8 #[] w fun e w' => e = .returned (.bool true) ∧ Dr w w' := by
  have b7 := fpow_bd 7 2305843009213693949 2305843009213693951
  go_enter Try.func8, Try.ntmps8
  go_wp2_with fail
  refine (mul_any _ _ _ _ (by omega) (by omega)).mono ?_
  rintro e w1 ⟨rfl, h1⟩
  rw [k1]
  go_wp2_with fail
  refine (add_any _ _ _ _ (by omega) (by omega)).mono ?_
  rintro e w2 ⟨rfl, h2⟩
  rw [k2]
  go_wp2_with fail
  refine (pow_any _ _ _ _ (by omega) (by omega) (by omega)).mono ?_
  rintro e w3 ⟨rfl, h3⟩
  rw [k3]
  go_wp2_with fail
  refine (inv_any _ _ (by omega)).mono ?_
  rintro e w4 ⟨rfl, h4⟩
  go_wp2_with fail
  refine (mul_any _ _ _ _ b7.1 (by omega)).mono ?_
  rintro e w5 ⟨rfl, h5⟩
  rw [k4]
  go_wp2_with fail
  refine (inv_any _ _ (by omega)).mono ?_
  rintro e w6 ⟨rfl, h6⟩
  rw [k5]
  go_wp2_with fail
  go_ret
  exact ⟨rfl, ((((h1.trans h2).trans h3).trans h4).trans h5).trans h6⟩
end Go.Proofs.Ytogkgooobmfeoaa
