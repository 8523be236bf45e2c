/-
  The reference's Check comes to the same.
-/
import Derived.Test.YteapoemockimfaaChk
namespace Go.Proofs.Yteapoemockimfaa
set_option linter.unusedVariables false
set_option linter.unusedSimpArgs false
open Go.RowKit

theorem unitF_true {x : Int} (h : 1 ≤ x) (h2 : x < 2305843009213693951) : unitF x = true := by simp [unitF, h, h2]
theorem unitF_low {x : Int} (h : x < 1) : unitF x = false := by unfold unitF; rw [decide_eq_false (show ¬ (1 ≤ x) by omega)]; rfl
theorem unitF_high {x : Int} (h : 2305843009213693951 ≤ x) : unitF x = false := by unfold unitF; rw [decide_eq_false (show ¬ (x < 2305843009213693951) by omega)]; simp

set_option maxRecDepth 100000 in
set_option maxHeartbeats 3200000 in
theorem rcheck_any (y r s : Int) (v : Value) (m : List UInt8) (w : World) (y0 : 0 ≤ y) (y1 : y < 18446744073709551616) (r0 : 0 ≤ r) (r1 : r < 18446744073709551616) (s0 : 0 ≤ s) (s1 : s < 18446744073709551616) (hv : Rd w v m) (hl : m.length ≤ 549755813800) :
    Calls Try.prog 35 #[.int .u64 y, v, sigV r s] w fun e w' => e = .returned (.bool (checkF y m r s)) ∧ Below w.heap.size w w' := by
  obtain ⟨a, c, rfl⟩ := hv.shape
  show Calls _ _ #[.int .u64 y, .slice a m.length c, .agg #[.int .u64 r, .int .u64 s]] w _
  have HV := Lib.hid hv
  clear hv
  by_cases ha : y < 1
  · have hf : checkF y m r s = false := by unfold checkF; rw [unitF_low ha]; rfl
    rw [hf]; clear hf
    go_enter Try.func35, Try.ntmps35
    go_wp2_with fail
    go_ret
    exact ⟨rfl, bl_alloc (Below.refl _ _) _⟩
  by_cases hb : 2305843009213693951 ≤ y
  · have hf : checkF y m r s = false := by unfold checkF; rw [unitF_high hb]; rfl
    rw [hf]; clear hf
    go_enter Try.func35, Try.ntmps35
    go_wp2_with fail
    go_ret
    exact ⟨rfl, bl_alloc (Below.refl _ _) _⟩
  have hy := unitF_true (x := y) (by omega) (by omega)
  by_cases hc : r < 1
  · have hf : checkF y m r s = false := by unfold checkF; rw [unitF_low hc]; simp
    rw [hf]; clear hf hy
    go_enter Try.func35, Try.ntmps35
    go_wp2_with fail
    go_ret
    exact ⟨rfl, bl_alloc (Below.refl _ _) _⟩
  by_cases hd : 2305843009213693951 ≤ r
  · have hf : checkF y m r s = false := by unfold checkF; rw [unitF_high hd]; simp
    rw [hf]; clear hf hy
    go_enter Try.func35, Try.ntmps35
    go_wp2_with fail
    go_ret
    exact ⟨rfl, bl_alloc (Below.refl _ _) _⟩
  have hr := unitF_true (x := r) (by omega) (by omega)
  by_cases he : 2305843009213693950 ≤ s
  · have hf : checkF y m r s = false := by unfold checkF; rw [decide_eq_false (show ¬ (s < 2305843009213693950) by omega)]; simp
    rw [hf]; clear hf hy hr
    go_enter Try.func35, Try.ntmps35
    go_wp2_with fail
    go_ret
    exact ⟨rfl, bl_alloc (Below.refl _ _) _⟩
  have hf : checkF y m r s = sameF y m r s := by unfold checkF; rw [hy, hr, decide_eq_true (show s < 2305843009213693950 by omega)]; rfl
  rw [hf]; clear hf hy hr
  obtain ⟨d, hD⟩ : ∃ d, d = sameF y m r s := ⟨_, rfl⟩
  rw [← hD]
  have HD := Lib.hid hD
  clear hD
  go_enter Try.func35, Try.ntmps35
  go_wp2_with fail
  refine (point_any r y _ m _ r0 r1 y0 y1 (HV.out.below (bl_alloc (Below.refl _ _) _)) hl).mono ?_
  rintro e w2 ⟨rfl, hb⟩
  have hrow := hb.block w.heap.size (by simp)
  rw [heap_alloc_new] at hrow
  have HB := Lib.hid (bl_bl (bl_alloc (Below.refl w.heap.size w) _) hb)
  have hc0 : w2.cell? ⟨w.heap.size, 0, none⟩ = some (.int .u64 r) := by rw [cell_of_row _ _ _ _ _ _ hrow]; rfl
  have hc1 : w2.cell? ⟨w.heap.size, 1, none⟩ = some (.int .u64 s) := by rw [cell_of_row _ _ _ _ _ _ hrow]; rfl
  clear hb hrow
  go_upto_region 4 with fail
  obtain ⟨c0, c1⟩ := tagN_bd 101 [numB r, numB y, m]
  have hE : tagN 101 [numB r, numB y, m] = chalF r y m := rfl
  rw [hE] at c0 c1
  clear hE
  obtain ⟨ch, hch⟩ : ∃ q, q = chalF r y m := ⟨_, rfl⟩
  rw [← hch] at c0 c1 ⊢
  have HCH := Lib.hid hch
  clear hch
  obtain ⟨p0, p1⟩ := fpow_bd y ch 2305843009213693951
  have p2 : fpow y ch 2305843009213693951 < 18446744073709551616 := by rw [modN_P] at p1; omega
  go_quiet (first | (go_at_call 33; exact Calls.quiet_of (rpow_any _ _ _ _ (by omega) (by omega) (by omega))) | (go_at_call 48; exact Calls.quiet_of (rmul_any _ _ _ _ (by omega) (by omega) (by omega))))
  go_wp2_with fail
  go_ret
  refine ⟨?_, bl_drewN HB.out _⟩
  rw [HD.out]
  unfold sameF
  rw [← HCH.out]
  rfl
end Go.Proofs.Yteapoemockimfaa
