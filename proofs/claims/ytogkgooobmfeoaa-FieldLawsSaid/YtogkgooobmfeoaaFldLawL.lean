/-
  FieldLaws: for every input the law returns true.
-/
import Derived.Test.YtogkgooobmfeoaaFldW
namespace Go.Proofs.Ytogkgooobmfeoaa
set_option linter.unusedVariables false
set_option linter.unusedSimpArgs false
open Go.RowKit


theorem fadd_bd (a b m : Int) : 0 ≤ fadd a b m ∧ fadd a b m < modN m := ⟨Int.emod_nonneg _ (by have := modN_pos m; omega), Int.emod_lt_of_pos _ (modN_pos m)⟩

set_option maxHeartbeats 6400000 in
theorem fieldLaws_walk (a b z k j : Int) (w0 : (Lit.int .u64 a).wf = true) (w1 : (Lit.int .u64 b).wf = true) (w2 : (Lit.int .u64 z).wf = true) (w3 : (Lit.int .u8 k).wf = true) (w4 : (Lit.int .u8 j).wf = true) (w : World) :
    Calls Try.prog 4 #[.int .u64 a, .int .u64 b, .int .u64 z, .int .u8 k, .int .u8 j] w fun e w' => e = .returned (.bool true) ∧ Below w.heap.size w w' := by
  obtain ⟨a0, a1⟩ := bounds_u64 w0
  obtain ⟨b0, b1⟩ := bounds_u64 w1
  obtain ⟨z0, z1⟩ := bounds_u64 w2
  obtain ⟨k0, k1⟩ := bounds_u8 w3
  obtain ⟨j0, j1⟩ := bounds_u8 w4
  go_enter Try.func4, Try.ntmps4
  go_wp2_with fail
  refine (known_any _).mono ?_
  rintro e w0_ ⟨rfl, hd0_⟩
  go_wp2_with fail
  refine (edge_any a k _ (by omega) (by omega) (by omega) (by omega)).mono ?_
  rintro e w1_ ⟨x, rfl, x0, x1, hd1_⟩
  go_wp2_with fail
  refine (edge_any b j _ (by omega) (by omega) (by omega) (by omega)).mono ?_
  rintro e w2_ ⟨y, rfl, y0, y1, hd2_⟩
  go_wp2_with fail
  refine wp_loop_rounds 3 ?_
  rw [rounds_succ]
  obtain ⟨p0, p1⟩ := fmul_bd x y 2305843009213693951
  obtain ⟨q0, q1⟩ := fmul_bd y z 2305843009213693951
  obtain ⟨r0, r1⟩ := fmul_bd x z 2305843009213693951
  obtain ⟨s0, s1⟩ := fadd_bd y z 2305843009213693951
  have E1 := Lib.hid (fmul_comm y x 2305843009213693951)
  have E2 := Lib.hid (fmul_assoc x y z 2305843009213693951)
  have E3 := Lib.hid (fmul_add x y z 2305843009213693951)
  go_wp2_with fail
  refine (mul_any _ _ _ _ (by omega) (by omega)).mono ?_
  rintro e w13_ ⟨rfl, n13_, rfl⟩
  go_wp2_with fail
  refine (mul_any _ _ _ _ (by omega) (by omega)).mono ?_
  rintro e w14_ ⟨rfl, n14_, rfl⟩
  rw [E1.out]
  go_wp2_with fail
  refine (mul_any _ _ _ _ (by omega) (by omega)).mono ?_
  rintro e w15_ ⟨rfl, n15_, rfl⟩
  go_wp2_with fail
  refine (mul_any _ _ _ _ (by omega) (by omega)).mono ?_
  rintro e w16_ ⟨rfl, n16_, rfl⟩
  rw [E2.out]
  go_wp2_with fail
  refine (mul_any _ _ _ _ (by omega) (by omega)).mono ?_
  rintro e w17_ ⟨rfl, n17_, rfl⟩
  go_wp2_with fail
  refine (mul_any _ _ _ _ (by omega) (by omega)).mono ?_
  rintro e w18_ ⟨rfl, n18_, rfl⟩
  go_wp2_with fail
  refine (add_any _ _ _ _ (by omega) (by omega)).mono ?_
  rintro e w19_ ⟨rfl, n19_, rfl⟩
  go_wp2_with fail
  refine (mul_any _ _ _ _ (by omega) (by omega)).mono ?_
  rintro e w20_ ⟨rfl, n20_, rfl⟩
  rw [E3.out]
  go_wp2_with fail
  refine (mul_any _ _ _ _ (by omega) (by omega)).mono ?_
  rintro e w21_ ⟨rfl, n21_, rfl⟩
  go_wp2_with fail
  refine (mul_any _ _ _ _ (by omega) (by omega)).mono ?_
  rintro e w22_ ⟨rfl, n22_, rfl⟩
  go_wp2_with fail
  refine (add_any _ _ _ _ (by omega) (by omega)).mono ?_
  rintro e w23_ ⟨rfl, n23_, rfl⟩
  go_wp2_with fail
  clear p0 p1 q0 q1 r0 r1 s0 s1 E1 E2 E3
  rw [rounds_succ]
  obtain ⟨p0, p1⟩ := fmul_bd x y 2305843009213693950
  obtain ⟨q0, q1⟩ := fmul_bd y z 2305843009213693950
  obtain ⟨r0, r1⟩ := fmul_bd x z 2305843009213693950
  obtain ⟨s0, s1⟩ := fadd_bd y z 2305843009213693950
  have E1 := Lib.hid (fmul_comm y x 2305843009213693950)
  have E2 := Lib.hid (fmul_assoc x y z 2305843009213693950)
  have E3 := Lib.hid (fmul_add x y z 2305843009213693950)
  go_wp2_with fail
  refine (mul_any _ _ _ _ (by omega) (by omega)).mono ?_
  rintro e w34_ ⟨rfl, n34_, rfl⟩
  go_wp2_with fail
  refine (mul_any _ _ _ _ (by omega) (by omega)).mono ?_
  rintro e w35_ ⟨rfl, n35_, rfl⟩
  rw [E1.out]
  go_wp2_with fail
  refine (mul_any _ _ _ _ (by omega) (by omega)).mono ?_
  rintro e w36_ ⟨rfl, n36_, rfl⟩
  go_wp2_with fail
  refine (mul_any _ _ _ _ (by omega) (by omega)).mono ?_
  rintro e w37_ ⟨rfl, n37_, rfl⟩
  rw [E2.out]
  go_wp2_with fail
  refine (mul_any _ _ _ _ (by omega) (by omega)).mono ?_
  rintro e w38_ ⟨rfl, n38_, rfl⟩
  go_wp2_with fail
  refine (mul_any _ _ _ _ (by omega) (by omega)).mono ?_
  rintro e w39_ ⟨rfl, n39_, rfl⟩
  go_wp2_with fail
  refine (add_any _ _ _ _ (by omega) (by omega)).mono ?_
  rintro e w40_ ⟨rfl, n40_, rfl⟩
  go_wp2_with fail
  refine (mul_any _ _ _ _ (by omega) (by omega)).mono ?_
  rintro e w41_ ⟨rfl, n41_, rfl⟩
  rw [E3.out]
  go_wp2_with fail
  refine (mul_any _ _ _ _ (by omega) (by omega)).mono ?_
  rintro e w42_ ⟨rfl, n42_, rfl⟩
  go_wp2_with fail
  refine (mul_any _ _ _ _ (by omega) (by omega)).mono ?_
  rintro e w43_ ⟨rfl, n43_, rfl⟩
  go_wp2_with fail
  refine (add_any _ _ _ _ (by omega) (by omega)).mono ?_
  rintro e w44_ ⟨rfl, n44_, rfl⟩
  go_wp2_with fail
  clear p0 p1 q0 q1 r0 r1 s0 s1 E1 E2 E3
  rw [rounds_succ]
  obtain ⟨ix0, ix1⟩ := finv_bd x
  go_wp2_with fail
  refine (inv_any _ _ (by omega)).mono ?_
  rintro e w49_ ⟨rfl, n49_, rfl⟩
  rw [show ∀ t, fpow t 2305843009213693949 2305843009213693951 = finv t from fun _ => rfl]
  have HDD := (bl_bl (bl_bl (bl_dr (Below.refl w.heap.size w) hd0_) hd1_) hd2_)

  by_cases hx : x % 2305843009213693951 = 0
  · have F1 := Lib.hid (finv_zero x hx)
    have F2 := Lib.hid (fmul_zero x (finv x) hx)
    have hx1 : (x % 2305843009213693951 != 0) = false := by rw [hx]; rfl
    clear hx
    go_wp2_with fail
    refine (mul_any _ _ _ _ (by omega) (by omega)).mono ?_
    rintro e w9 ⟨rfl, n9, rfl⟩
    rw [F2.out]
    have F3 := F1.out
    go_wp2_with fail
    go_ret
    exact ⟨by first | (simp; done) | (simp [hx1]; done) | (simp [hx1, F1.out]; done) | (simp [*]; done), by repeat (first | exact HDD | apply bl_drewN | apply bl_alloc)⟩
  · have F2 := Lib.hid (finv_one x x0 hx)
    have hx1 : (x % 2305843009213693951 != 0) = true := bne_iff_ne.2 hx
    clear hx
    go_wp2_with fail
    refine (mul_any _ _ _ _ (by omega) (by omega)).mono ?_
    rintro e w9 ⟨rfl, n9, rfl⟩
    rw [F2.out]
    go_wp2_with fail
    go_ret
    exact ⟨by first | (simp; done) | (simp [hx1]; done) | (simp [hx1, F1.out]; done) | (simp [*]; done), by repeat (first | exact HDD | apply bl_drewN | apply bl_alloc)⟩

end Go.Proofs.Ytogkgooobmfeoaa
