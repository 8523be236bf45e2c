/-
  FieldTells: for every input the law returns true.
-/
import Derived.Test.YtogkgooobmfeoaaFldW
namespace Go.Proofs.Ytogkgooobmfeoaa
set_option linter.unusedVariables false
set_option linter.unusedSimpArgs false
open Go.RowKit


set_option maxHeartbeats 6400000 in
theorem fieldTells_walk (a b m k j o : Int) (w0 : (Lit.int .u64 a).wf = true) (w1 : (Lit.int .u64 b).wf = true) (w2 : (Lit.int .u64 m).wf = true) (w3 : (Lit.int .u8 k).wf = true) (w4 : (Lit.int .u8 j).wf = true) (w5 : (Lit.int .u8 o).wf = true) (w : World) :
    Calls Try.prog 3 #[.int .u64 a, .int .u64 b, .int .u64 m, .int .u8 k, .int .u8 j, .int .u8 o] w fun e w' => e = .returned (.bool true) ∧ Below w.heap.size w w' := by
  obtain ⟨a0, a1⟩ := bounds_u64 w0
  obtain ⟨b0, b1⟩ := bounds_u64 w1
  obtain ⟨m0, m1⟩ := bounds_u64 w2
  obtain ⟨k0, k1⟩ := bounds_u8 w3
  obtain ⟨j0, j1⟩ := bounds_u8 w4
  obtain ⟨o0, o1⟩ := bounds_u8 w5
  go_enter Try.func3, Try.ntmps3
  go_wp2_with fail
  refine (known_any _).mono ?_
  rintro e w0_ ⟨rfl, hd0_⟩
  go_wp2_with fail
  refine (edge_any a k _ (by omega) (by omega) (by omega) (by omega)).mono ?_
  rintro e w1_ ⟨x, rfl, x0, x1, hd1_⟩
  go_wp2_with fail
  refine (edge_any b j _ (by omega) (by omega) (by omega) (by omega)).mono ?_
  rintro e w2_ ⟨y, rfl, y0, y1, hd2_⟩
  go_wp2_with fail
  refine (edge_any m o _ (by omega) (by omega) (by omega) (by omega)).mono ?_
  rintro e w3_ ⟨z, rfl, z0, z1, hd3_⟩
  go_wp2_with fail
  refine wp_loop_rounds 4 ?_
  rw [rounds_succ]
  go_wp2_with fail
  refine (add_any _ _ _ _ (by omega) (by omega)).mono ?_
  rintro e w7_ ⟨rfl, n7_, rfl⟩
  go_wp2_with fail
  refine (radd_any _ _ _ _ (by omega) (by omega)).mono ?_
  rintro e w8_ ⟨rfl, n8_, rfl⟩
  go_wp2_with fail
  refine (mul_any _ _ _ _ (by omega) (by omega)).mono ?_
  rintro e w9_ ⟨rfl, n9_, rfl⟩
  go_wp2_with fail
  refine (rmul_any _ _ _ _ (by omega) (by omega) (by omega)).mono ?_
  rintro e w10_ ⟨rfl, n10_, rfl⟩
  go_wp2_with fail
  refine (pow_any _ _ _ _ (by omega) (by omega) (by omega)).mono ?_
  rintro e w11_ ⟨rfl, n11_, rfl⟩
  go_wp2_with fail
  refine (rpow_any _ _ _ _ (by omega) (by omega) (by omega)).mono ?_
  rintro e w12_ ⟨rfl, n12_, rfl⟩
  go_wp2_with fail
  rw [rounds_succ]
  go_wp2_with fail
  refine (add_any _ _ _ _ (by omega) (by omega)).mono ?_
  rintro e w15_ ⟨rfl, n7_, rfl⟩
  go_wp2_with fail
  refine (radd_any _ _ _ _ (by omega) (by omega)).mono ?_
  rintro e w16_ ⟨rfl, n8_, rfl⟩
  go_wp2_with fail
  refine (mul_any _ _ _ _ (by omega) (by omega)).mono ?_
  rintro e w17_ ⟨rfl, n9_, rfl⟩
  go_wp2_with fail
  refine (rmul_any _ _ _ _ (by omega) (by omega) (by omega)).mono ?_
  rintro e w18_ ⟨rfl, n10_, rfl⟩
  go_wp2_with fail
  refine (pow_any _ _ _ _ (by omega) (by omega) (by omega)).mono ?_
  rintro e w19_ ⟨rfl, n11_, rfl⟩
  go_wp2_with fail
  refine (rpow_any _ _ _ _ (by omega) (by omega) (by omega)).mono ?_
  rintro e w20_ ⟨rfl, n12_, rfl⟩
  go_wp2_with fail
  rw [rounds_succ]
  go_wp2_with fail
  refine (add_any _ _ _ _ (by omega) (by omega)).mono ?_
  rintro e w23_ ⟨rfl, n7_, rfl⟩
  go_wp2_with fail
  refine (radd_any _ _ _ _ (by omega) (by omega)).mono ?_
  rintro e w24_ ⟨rfl, n8_, rfl⟩
  go_wp2_with fail
  refine (mul_any _ _ _ _ (by omega) (by omega)).mono ?_
  rintro e w25_ ⟨rfl, n9_, rfl⟩
  go_wp2_with fail
  refine (rmul_any _ _ _ _ (by omega) (by omega) (by omega)).mono ?_
  rintro e w26_ ⟨rfl, n10_, rfl⟩
  go_wp2_with fail
  refine (pow_any _ _ _ _ (by omega) (by omega) (by omega)).mono ?_
  rintro e w27_ ⟨rfl, n11_, rfl⟩
  go_wp2_with fail
  refine (rpow_any _ _ _ _ (by omega) (by omega) (by omega)).mono ?_
  rintro e w28_ ⟨rfl, n12_, rfl⟩
  go_wp2_with fail
  rw [rounds_succ]
  go_wp2_with fail
  refine (inv_any _ _ (by omega)).mono ?_
  rintro e w31_ ⟨rfl, n31_, rfl⟩
  go_wp2_with fail
  refine (rinv_any _ _ (by omega)).mono ?_
  rintro e w32_ ⟨rfl, n32_, rfl⟩
  go_wp2_with fail
  go_ret
  have HD := (bl_bl (bl_bl (bl_bl (bl_dr (Below.refl w.heap.size w) hd0_) hd1_) hd2_) hd3_)
  exact ⟨by simp, by repeat (first | exact HD | apply bl_drewN | apply bl_alloc)⟩
end Go.Proofs.Ytogkgooobmfeoaa
