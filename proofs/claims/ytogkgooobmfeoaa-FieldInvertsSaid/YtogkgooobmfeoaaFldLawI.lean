/-
  FieldInverts: for every input the law returns true.
-/
import Derived.Test.YtogkgooobmfeoaaFldW
namespace Go.Proofs.Ytogkgooobmfeoaa
set_option linter.unusedVariables false
set_option linter.unusedSimpArgs false
open Go.RowKit


set_option maxHeartbeats 1600000 in
theorem fieldInverts_walk (a b k j : Int) (w0 : (Lit.int .u64 a).wf = true) (w1 : (Lit.int .u64 b).wf = true) (w2 : (Lit.int .u8 k).wf = true) (w3 : (Lit.int .u8 j).wf = true) (w : World) :
    Calls Try.prog 7 #[.int .u64 a, .int .u64 b, .int .u8 k, .int .u8 j] w fun e w' => e = .returned (.bool true) ∧ Below w.heap.size w w' := by
  obtain ⟨a0, a1⟩ := bounds_u64 w0
  obtain ⟨b0, b1⟩ := bounds_u64 w1
  obtain ⟨k0, k1⟩ := bounds_u8 w2
  obtain ⟨j0, j1⟩ := bounds_u8 w3
  go_enter Try.func7, Try.ntmps7
  go_wp2_with fail
  refine (known_any _).mono ?_
  rintro e w0_ ⟨rfl, hd0_⟩
  go_wp2_with fail
  refine (edge_any a k _ (by omega) (by omega) (by omega) (by omega)).mono ?_
  rintro e w1_ ⟨x, rfl, x0, x1, hd1_⟩
  go_wp2_with fail
  refine (edge_any b j _ (by omega) (by omega) (by omega) (by omega)).mono ?_
  rintro e w2_ ⟨y, rfl, y0, y1, hd2_⟩
  obtain ⟨ix0, ix1⟩ := finv_bd x
  obtain ⟨iy0, iy1⟩ := finv_bd y
  obtain ⟨mm0, mm1⟩ := fmul_bd x y 2305843009213693951
  obtain ⟨px0, px1⟩ := fpow_bd x 3 2305843009213693951
  have E1 := Lib.hid (finv_inv x x0)
  have E2 := Lib.hid (finv_mul x y)
  have E3 := Lib.hid (finv_pow x 3)
  go_wp2_with fail
  refine (inv_any _ _ (by omega)).mono ?_
  rintro e w10_ ⟨rfl, hd10_⟩
  rw [show ∀ t, fpow t 2305843009213693949 2305843009213693951 = finv t from fun _ => rfl]
  go_wp2_with fail
  refine (inv_any _ _ (by omega)).mono ?_
  rintro e w11_ ⟨rfl, hd11_⟩
  rw [show ∀ t, fpow t 2305843009213693949 2305843009213693951 = finv t from fun _ => rfl]
  rw [E1.out]
  go_wp2_with fail
  refine (mul_any _ _ _ _ (by omega) (by omega)).mono ?_
  rintro e w12_ ⟨rfl, hd12_⟩
  go_wp2_with fail
  refine (inv_any _ _ (by omega)).mono ?_
  rintro e w13_ ⟨rfl, hd13_⟩
  rw [show ∀ t, fpow t 2305843009213693949 2305843009213693951 = finv t from fun _ => rfl]
  rw [E2.out]
  go_wp2_with fail
  refine (inv_any _ _ (by omega)).mono ?_
  rintro e w14_ ⟨rfl, hd14_⟩
  rw [show ∀ t, fpow t 2305843009213693949 2305843009213693951 = finv t from fun _ => rfl]
  go_wp2_with fail
  refine (inv_any _ _ (by omega)).mono ?_
  rintro e w15_ ⟨rfl, hd15_⟩
  rw [show ∀ t, fpow t 2305843009213693949 2305843009213693951 = finv t from fun _ => rfl]
  go_wp2_with fail
  refine (mul_any _ _ _ _ (by omega) (by omega)).mono ?_
  rintro e w16_ ⟨rfl, hd16_⟩
  go_wp2_with fail
  refine (inv_any _ _ (by omega)).mono ?_
  rintro e w17_ ⟨rfl, hd17_⟩
  rw [show ∀ t, fpow t 2305843009213693949 2305843009213693951 = finv t from fun _ => rfl]
  go_wp2_with fail
  refine (pow_any _ _ _ _ (by omega) (by omega) (by omega)).mono ?_
  rintro e w18_ ⟨rfl, hd18_⟩
  rw [E3.out]
  go_wp2_with fail
  refine (pow_any _ _ _ _ (by omega) (by omega) (by omega)).mono ?_
  rintro e w19_ ⟨rfl, hd19_⟩
  go_wp2_with fail
  refine (inv_any _ _ (by omega)).mono ?_
  rintro e w20_ ⟨rfl, hd20_⟩
  rw [show ∀ t, fpow t 2305843009213693949 2305843009213693951 = finv t from fun _ => rfl]
  go_wp2_with fail
  go_ret
  have HD := (bl_dr (bl_dr (bl_dr (bl_dr (bl_dr (bl_dr (bl_dr (bl_dr (bl_dr (bl_dr (bl_dr (bl_bl (bl_bl (bl_dr (Below.refl w.heap.size w) hd0_) hd1_) hd2_) hd10_) hd11_) hd12_) hd13_) hd14_) hd15_) hd16_) hd17_) hd18_) hd19_) hd20_)
  exact ⟨by simp, HD⟩
end Go.Proofs.Ytogkgooobmfeoaa
