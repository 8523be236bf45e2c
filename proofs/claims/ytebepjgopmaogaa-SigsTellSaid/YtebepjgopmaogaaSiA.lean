/-
  SigsAdd: for every input the law returns true.
-/
import Derived.Test.YtebepjgopmaogaaKnp
namespace Go.Proofs.Ytebepjgopmaogaa
set_option linter.unusedVariables false
set_option linter.unusedSimpArgs false
open Go.RowKit

theorem pub_mod (a : Int) : pubF (a % 2305843009213693950) = pubF a := by unfold pubF; rw [Int.emod_emod_of_dvd _ (Int.dvd_refl _)]
theorem pub_add (x y : Int) (hx : 0 ≤ x) (hy : 0 ≤ y) : pubF ((x + y) % 2305843009213693950) = fmul (pubF x) (pubF y) 2305843009213693951 := by
  rw [pub_mod]
  unfold pubF
  rw [fpow_order_mod _ (by omega), fpow_order_mod _ hx, fpow_order_mod _ hy, fpow_add _ _ _ hx hy]
theorem pub_pos (x : Int) : 1 ≤ pubF x := by
  have hb := pubF_bd x
  rcases (show pubF x < 1 ∨ 1 ≤ pubF x by omega) with h | h
  · exfalso
    have h0 : pubF x = 0 := by omega
    unfold pubF at h0
    have e0 : 0 ≤ x % 2305843009213693950 := Int.emod_nonneg _ (by decide)
    have e1 : x % 2305843009213693950 < 2305843009213693950 := Int.emod_lt_of_pos _ (by decide)
    have h1 := fpow_add 7 (x % 2305843009213693950) (2305843009213693950 - x % 2305843009213693950) e0 (by omega)
    rw [h0, show x % 2305843009213693950 + (2305843009213693950 - x % 2305843009213693950) = 2305843009213693950 by omega] at h1
    have h2 := fpow_order 7 (by decide)
    rw [h1] at h2
    rw [show fmul 0 (fpow 7 (2305843009213693950 - x % 2305843009213693950) 2305843009213693951) 2305843009213693951 = 0 from fmul_zero _ _ rfl] at h2
    revert h2
    decide
  · exact h

set_option maxRecDepth 100000 in
set_option maxHeartbeats 1600000 in
theorem sigsAdd_walk (a b : Int) (w0 : (Lit.int .u64 a).wf = true) (w1 : (Lit.int .u64 b).wf = true) (w : World) :
    Calls Try.prog 5 #[.int .u64 a, .int .u64 b] w fun e w' => e = .returned (.bool true) ∧ Below w.heap.size w w' := by
  obtain ⟨a0, a1⟩ := bounds_u64 w0
  obtain ⟨b0, b1⟩ := bounds_u64 w1
  obtain ⟨x, hx⟩ : ∃ x, x = a % 2305843009213693950 := ⟨_, rfl⟩
  obtain ⟨y, hy⟩ : ∃ x, x = b % 2305843009213693950 := ⟨_, rfl⟩
  have x0 : 0 ≤ x := by omega
  have x1 : x < 2305843009213693950 := by omega
  have y0 : 0 ≤ y := by omega
  have y1 : y < 2305843009213693950 := by omega
  have HX := Lib.hid hx
  have HY := Lib.hid hy
  have HXY := Lib.hid (pub_add x y x0 y0)
  have HAX := Lib.hid (show pubF a = pubF x by rw [hx, pub_mod])
  clear hx hy
  obtain ⟨z, hz⟩ : ∃ z, z = (x + y) % 2305843009213693950 := ⟨_, rfl⟩
  have z0 : 0 ≤ z := by omega
  have z1 : z < 2305843009213693950 := by omega
  have HZ := Lib.hid hz
  clear hz
  obtain ⟨px0, px1⟩ := pubF_bd x
  obtain ⟨py0, py1⟩ := pubF_bd y
  have px2 := pub_pos x
  go_enter Try.func5, Try.ntmps5
  go_wp2_with fail
  refine (known_any _).mono ?_
  rintro e w2 ⟨rfl, hb⟩
  have HB := Lib.hid hb
  clear hb
  go_upto_region 4 with fail
  rw [← HX.out, ← HY.out]
  go_wp2_with fail
  rw [← HZ.out]
  refine (public_any z _ z0 (by omega)).mono ?_
  rintro e v1 ⟨rfl, d1⟩
  have HB1 := Lib.hid (bl_dr HB.out d1)
  clear d1
  go_wp2_with fail
  refine (public_any x _ x0 (by omega)).mono ?_
  rintro e v2 ⟨rfl, d2⟩
  have HB2 := Lib.hid (bl_dr HB1.out d2)
  clear d2
  go_wp2_with fail
  refine (public_any y _ y0 (by omega)).mono ?_
  rintro e v3 ⟨rfl, d3⟩
  have HB3 := Lib.hid (bl_dr HB2.out d3)
  clear d3
  go_wp2_with fail
  refine (rmul_any _ _ _ _ px0 py0 (by omega)).mono ?_
  rintro e v4 ⟨rfl, d4⟩
  have HB4 := Lib.hid (bl_dr HB3.out d4)
  clear d4
  rw [HZ.out, HXY.out]
  go_wp2_with fail
  refine (public_any a _ a0 (by omega)).mono ?_
  rintro e v5 ⟨rfl, d5⟩
  have HB5 := Lib.hid (bl_dr HB4.out d5)
  clear d5
  rw [HAX.out]
  go_wp2_with fail
  refine (public_any x _ x0 (by omega)).mono ?_
  rintro e v6 ⟨rfl, d6⟩
  have HB6 := Lib.hid (bl_dr HB5.out d6)
  clear d6
  go_wp2_with fail
  refine (public_any x _ x0 (by omega)).mono ?_
  rintro e v7 ⟨rfl, d7⟩
  have HB7 := Lib.hid (bl_dr HB6.out d7)
  clear d7
  go_wp2_with fail
  refine (public_any x _ x0 (by omega)).mono ?_
  rintro e v8 ⟨rfl, d8⟩
  have HB8 := Lib.hid (bl_dr HB7.out d8)
  clear d8
  go_wp2_with fail
  go_ret
  exact ⟨by simp [px1], HB8.out⟩
end Go.Proofs.Ytebepjgopmaogaa
