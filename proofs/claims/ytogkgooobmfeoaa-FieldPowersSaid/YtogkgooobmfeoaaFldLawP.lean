/-
  FieldPowers: for every input the law returns true.
-/
import Derived.Test.YtogkgooobmfeoaaFldW
namespace Go.Proofs.Ytogkgooobmfeoaa
set_option linter.unusedVariables false
set_option linter.unusedSimpArgs false
open Go.RowKit


set_option maxHeartbeats 1600000 in
theorem fieldPowers_walk (a n m k : Int) (w0 : (Lit.int .u64 a).wf = true) (w1 : (Lit.int .u32 n).wf = true) (w2 : (Lit.int .u32 m).wf = true) (w3 : (Lit.int .u8 k).wf = true) (w : World) :
    Calls Try.prog 5 #[.int .u64 a, .int .u32 n, .int .u32 m, .int .u8 k] w fun e w' => e = .returned (.bool true) ∧ Below w.heap.size w w' := by
  obtain ⟨a0, a1⟩ := bounds_u64 w0
  obtain ⟨n0, n1⟩ := bounds_u32 w1
  obtain ⟨m0, m1⟩ := bounds_u32 w2
  obtain ⟨k0, k1⟩ := bounds_u8 w3
  go_enter Try.func5, Try.ntmps5
  go_wp2_with fail
  refine (known_any _).mono ?_
  rintro e w0_ ⟨rfl, hd0_⟩
  go_wp2_with fail
  refine (edge_any a k _ (by omega) (by omega) (by omega) (by omega)).mono ?_
  rintro e w1_ ⟨x, rfl, x0, x1, hd1_⟩
  go_wp2_with fail
  refine (pow_any _ _ _ _ (by omega) (by omega) (by omega)).mono ?_
  rintro e w2_ ⟨rfl, hd2_⟩
  go_wp2_with fail
  refine (pow_any _ _ _ _ (by omega) (by omega) (by omega)).mono ?_
  rintro e w3_ ⟨rfl, hd3_⟩
  have bn := fpow_bd x n 2305843009213693951
  have bm := fpow_bd x m 2305843009213693951
  obtain ⟨bn0, bn1⟩ := bn
  obtain ⟨bm0, bm1⟩ := bm
  go_wp2_with fail
  refine (pow_any _ _ _ _ (by omega) (by omega) (by omega)).mono ?_
  rintro e w8_ ⟨rfl, hd8_⟩
  go_wp2_with fail
  refine (pow_any _ _ _ _ (by omega) (by omega) (by omega)).mono ?_
  rintro e w9_ ⟨rfl, hd9_⟩
  go_wp2_with fail
  refine (mul_any _ _ _ _ (by omega) (by omega)).mono ?_
  rintro e w10_ ⟨rfl, hd10_⟩
  rw [← fpow_add x n m n0 m0]
  have e1 := fpow_order x x0
  go_wp2_with fail
  go_ret
  have HD := (bl_dr (bl_dr (bl_dr (bl_dr (bl_dr (bl_bl (bl_dr (Below.refl w.heap.size w) hd0_) hd1_) hd2_) hd3_) hd8_) hd9_) hd10_)
  exact ⟨by simp [e1], HD⟩
end Go.Proofs.Ytogkgooobmfeoaa
