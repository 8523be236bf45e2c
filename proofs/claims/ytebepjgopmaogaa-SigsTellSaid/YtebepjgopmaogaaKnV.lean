/-
  The known signature's values.
-/
import Derived.Test.YtebepjgopmaogaaSgL
namespace Go.Proofs.Ytebepjgopmaogaa
set_option linter.unusedVariables false
set_option linter.unusedSimpArgs false
open Go.RowKit

theorem k9 : signK 9 [109] = 1255322646153914929 := by decide +kernel
theorem pub0 : pubF 0 = 1 := by decide +kernel
theorem pub1 : pubF 1 = 7 := by decide +kernel
theorem unit0 (m : List UInt8) (r s : Int) : checkF 0 m r s = false := by unfold checkF; rw [unitF_low (by omega)]; rfl
theorem pub9 : pubF 9 = 40353607 := by decide +kernel
theorem fpf (a n v : Nat) (hn : n < 2 ^ 64) (h : Ferm.fast 2305843009213693951 64 a n 1 % 2305843009213693951 = v) : fpow a n 2305843009213693951 = v := by
  rw [fpow_fast a n 2305843009213693951 2305843009213693951 rfl hn, h]
theorem r9 : sigR 9 [109] = 1300817579545318276 := by
  unfold sigR; rw [k9]
  exact fpf 7 1255322646153914929 1300817579545318276 (by decide) (by decide +kernel)
theorem e9 : chalF 1300817579545318276 40353607 [109] = 626251909614015781 := by decide +kernel
theorem e9n : chalF 1300817579545318276 40353607 [110] = 1376759600133736344 := by decide +kernel
theorem s9 : sigS 9 [109] = 2279903814252669058 := by
  unfold sigS sigE; rw [k9, r9, pub9, e9]; decide +kernel
theorem known_n : checkF (pubF 9) [110] (sigR 9 [109]) (sigS 9 [109]) = false := by
  have h1 : fpow 7 2279903814252669058 2305843009213693951 = 318188913798869887 := fpf 7 2279903814252669058 318188913798869887 (by decide) (by decide +kernel)
  have h2 : fpow 40353607 1376759600133736344 2305843009213693951 = 1411270043971606451 := fpf 40353607 1376759600133736344 1411270043971606451 (by decide) (by decide +kernel)
  unfold checkF sameF
  rw [pub9, r9, s9, e9n, h1, h2]
  decide +kernel
theorem known_m : checkF (pubF 9) [109] (sigR 9 [109]) (sigS 9 [109]) = true := by
  unfold checkF
  rw [sign_same 9 [109] (by decide) (by decide), pub9, r9, s9]
  decide +kernel
end Go.Proofs.Ytebepjgopmaogaa
