/-
  Check: what the program's and the reference's come to.
-/
import Derived.Test.YteapoemockimfaaSgn
namespace Go.Proofs.Yteapoemockimfaa
set_option linter.unusedVariables false
set_option linter.unusedSimpArgs false
open Go.RowKit

/-- A number that may be a public one. -/
def unitF (x : Int) : Bool := decide (1 ≤ x) && decide (x < 2305843009213693951)
def sameF (y : Int) (m : List UInt8) (r s : Int) : Bool := fpow 7 s 2305843009213693951 == fmul r (fpow y (chalF r y m) 2305843009213693951) 2305843009213693951
def checkF (y : Int) (m : List UInt8) (r s : Int) : Bool := unitF y && (unitF r && (decide (s < 2305843009213693950) && sameF y m r s))

set_option maxHeartbeats 800000 in
theorem unit_any (x : Int) (w : World) : Calls Try.prog 60 #[.int .u64 x] w fun e w' => e = .returned (.bool (unitF x)) ∧ w = w' := by
  unfold unitF
  by_cases h : 1 ≤ x
  · go_enter Try.func60, Try.ntmps60
    go_wp2_with fail
    go_ret
    exact ⟨by simp [h], rfl⟩
  · go_enter Try.func60, Try.ntmps60
    go_wp2_with fail
    go_ret
    exact ⟨by simp; omega, rfl⟩

set_option maxRecDepth 100000 in
set_option maxHeartbeats 3200000 in
theorem check_any (y r s : Int) (v : Value) (m : List UInt8) (w : World) (y0 : 0 ≤ y) (y1 : y < 18446744073709551616) (r0 : 0 ≤ r) (r1 : r < 18446744073709551616) (s0 : 0 ≤ s) (s1 : s < 18446744073709551616) (hv : Rd w v m) (hl : m.length ≤ 549755813800) :
    Calls Try.prog 34 #[.int .u64 y, v, sigV r s] w fun e w' => e = .returned (.bool (checkF y m r s)) ∧ Below w.heap.size w w' := by
  obtain ⟨a, c, rfl⟩ := hv.shape
  show Calls _ _ #[.int .u64 y, .slice a m.length c, .agg #[.int .u64 r, .int .u64 s]] w _
  have HV := Lib.hid hv
  clear hv
  unfold checkF
  obtain ⟨uy, huy⟩ : ∃ b, b = unitF y := ⟨_, rfl⟩
  obtain ⟨ur, hur⟩ : ∃ b, b = unitF r := ⟨_, rfl⟩
  obtain ⟨d, hd⟩ : ∃ b, b = sameF y m r s := ⟨_, rfl⟩
  rw [← huy, ← hur, ← hd]
  have HUY := Lib.hid huy
  have HUR := Lib.hid hur
  have HD := Lib.hid hd
  clear huy hur hd
  cases uy with
  | false =>
    go_enter Try.func34, Try.ntmps34
    go_wp2_with fail
    refine (unit_any y _).mono ?_
    rintro e w1 ⟨rfl, rfl⟩
    rw [← HUY.out]
    go_wp2_with fail
    go_ret
    exact ⟨rfl, bl_alloc (Below.refl _ _) _⟩
  | true =>
    cases ur with
    | false =>
      go_enter Try.func34, Try.ntmps34
      go_wp2_with fail
      refine (unit_any y _).mono ?_
      rintro e w1 ⟨rfl, rfl⟩
      rw [← HUY.out]
      go_wp2_with fail
      refine (unit_any r _).mono ?_
      rintro e w1 ⟨rfl, rfl⟩
      rw [← HUR.out]
      go_wp2_with fail
      go_ret
      exact ⟨rfl, bl_alloc (Below.refl _ _) _⟩
    | true =>
      by_cases hs : s < 2305843009213693950
      · go_enter Try.func34, Try.ntmps34
        go_wp2_with fail
        refine (unit_any y _).mono ?_
        rintro e w1 ⟨rfl, rfl⟩
        rw [← HUY.out]
        go_wp2_with fail
        refine (unit_any r _).mono ?_
        rintro e w1 ⟨rfl, rfl⟩
        rw [← HUR.out]
        go_wp2_with fail
        refine (chal_any r y _ m _ r0 r1 y0 y1 (HV.out.below (bl_alloc (Below.refl _ _) _)) hl).mono ?_
        rintro e w2 ⟨rfl, hb⟩
        have hrow := hb.block w.heap.size (by simp)
        rw [heap_alloc_new] at hrow
        have HB := Lib.hid (bl_bl (bl_alloc (Below.refl w.heap.size w) _) hb)
        have hc0 : w2.cell? ⟨w.heap.size, 0, none⟩ = some (.int .u64 r) := by rw [cell_of_row _ _ _ _ _ _ hrow]; rfl
        have hc1 : w2.cell? ⟨w.heap.size, 1, none⟩ = some (.int .u64 s) := by rw [cell_of_row _ _ _ _ _ _ hrow]; rfl
        clear hb hrow
        go_upto_region 4 with fail
        obtain ⟨c0, c1⟩ := tagN_bd 101 [numB r, numB y, m]
        have hE : tagN 101 [numB r, numB y, m] = chalF r y m := rfl
        rw [hE] at c0 c1
        clear hE
        obtain ⟨ch, hch⟩ : ∃ q, q = chalF r y m := ⟨_, rfl⟩
        rw [← hch] at c0 c1 ⊢
        have HCH := Lib.hid hch
        clear hch
        obtain ⟨p0, p1⟩ := fpow_bd y ch 2305843009213693951
        go_quiet (first | (go_at_call 54; exact Calls.quiet_of (pow_any _ _ _ _ (by omega) (by omega) (by omega))) | (go_at_call 58; exact Calls.quiet_of (mul_any _ _ _ _ (by omega) (by omega))))
        go_wp2_with fail
        go_ret
        refine ⟨?_, bl_drewN HB.out _⟩
        rw [HD.out]
        unfold sameF
        rw [← HCH.out]
        simp [hs]
      · go_enter Try.func34, Try.ntmps34
        go_wp2_with fail
        refine (unit_any y _).mono ?_
        rintro e w1 ⟨rfl, rfl⟩
        rw [← HUY.out]
        go_wp2_with fail
        refine (unit_any r _).mono ?_
        rintro e w1 ⟨rfl, rfl⟩
        rw [← HUR.out]
        go_wp2_with fail
        go_ret
        exact ⟨by rw [decide_eq_false (show ¬ (s < 2305843009213693950) by omega)]; rfl, bl_alloc (Below.refl _ _) _⟩
end Go.Proofs.Yteapoemockimfaa
