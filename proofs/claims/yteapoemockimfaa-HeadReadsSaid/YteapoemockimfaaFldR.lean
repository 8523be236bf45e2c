/-
  The reference: Add, Mul, Pow and Inv.
-/
import Derived.Test.YteapoemockimfaaFldC
namespace Go.Proofs.Yteapoemockimfaa
set_option linter.unusedVariables false
set_option linter.unusedSimpArgs false
open Go.RowKit

set_option maxHeartbeats 400000 in
theorem rmodulus_any (m : Int) (w : World) :
    Calls Try.prog 59 #[.int .u64 m] w fun e w' => e = .returned (.int .u64 (modN m)) ∧ w = w' := by
  by_cases h : m = 2305843009213693950
  · subst h
    go_enter Try.func59, Try.ntmps59
    go_wp2
    go_ret
    exact ⟨by simp [modN], rfl⟩
  · have h1 : (m == 2305843009213693950) = false := by simpa using h
    have e1 : modN m = 2305843009213693951 := by unfold modN; rw [if_neg h]
    rw [e1]
    go_enter Try.func59, Try.ntmps59
    go_wp2
    go_ret
    exact ⟨rfl, rfl⟩

set_option maxHeartbeats 400000 in
theorem radd_any (a b m : Int) (w : World) (ha : 0 ≤ a) (hb : 0 ≤ b) :
    Calls Try.prog 47 #[.int .u64 a, .int .u64 b, .int .u64 m] w fun e w' => e = .returned (.int .u64 (fadd a b m)) ∧ Dr w w' := by
  have hM0 := modN_pos m
  have hM1 := modN_le m
  have H := rmodulus_any m
  unfold fadd
  generalize modN m = M at *
  have a0 : 0 ≤ a % M := Int.emod_nonneg _ (by omega)
  have a1 : a % M < M := Int.emod_lt_of_pos _ (by omega)
  have b0 : 0 ≤ b % M := Int.emod_nonneg _ (by omega)
  have b1 : b % M < M := Int.emod_lt_of_pos _ (by omega)
  go_enter Try.func47, Try.ntmps47
  go_wp2_with (go_at_call 59; refine (H _).mono ?_; rintro e w' ⟨rfl, rfl⟩)
  go_quiet (fail)
  go_wp2
  go_ret
  exact ⟨rfl, by first | exact Dr.refl _ | exact ⟨_, rfl⟩⟩

set_option maxHeartbeats 800000 in
theorem rmul_any (a b m : Int) (w : World) (ha : 0 ≤ a) (hb : 0 ≤ b) (hb1 : b < 18446744073709551616) :
    Calls Try.prog 48 #[.int .u64 a, .int .u64 b, .int .u64 m] w fun e w' => e = .returned (.int .u64 (fmul a b m)) ∧ Dr w w' := by
  have hM0 := modN_pos m
  have hM1 := modN_le m
  have H := rmodulus_any m
  unfold fmul
  generalize modN m = M at *
  have a0 : 0 ≤ a % M := Int.emod_nonneg _ (by omega)
  have a1 : a % M < M := Int.emod_lt_of_pos _ (by omega)
  have b0 : 0 ≤ b % M := Int.emod_nonneg _ (by omega)
  have b1 : b % M < M := Int.emod_lt_of_pos _ (by omega)
  go_enter Try.func48, Try.ntmps48
  go_wp2_with (go_at_call 59; refine (H _).mono ?_; rintro e w' ⟨rfl, rfl⟩)
  go_quiet (fail)
  go_wp2_with fail
  go_loopw [0, 1, 7] (fun v0 v1 v7 wr => ∃ x k o : Int, v0 = .int .u64 x ∧ v1 = .int .u64 k ∧ v7 = .int .u64 o ∧ 0 ≤ x ∧ x < M ∧ 0 ≤ k ∧ k < 18446744073709551616 ∧ 0 ≤ o ∧ o < M ∧ Hid ((o + x * k) % M = (a % M) * (b % M) % M) ∧ Dr w wr) (fun _ v1 _ _ => (intOf v1).toNat)
  case atStart => exact ⟨_, _, _, rfl, rfl, rfl, a0, a1, b0, by omega, by omega, by omega, by show _ = _; rw [Int.zero_add], Dr.drewN (Dr.refl _) _⟩
  case round =>
    obtain ⟨x, k, o, rfl, rfl, rfl, hx, hx1, hk, hk1, ho, ho1, HE, hd⟩ := hrel
    have s0 : 0 ≤ (o + x) % M := Int.emod_nonneg _ (by omega)
    have s1 : (o + x) % M < M := Int.emod_lt_of_pos _ (by omega)
    have t0 : 0 ≤ (x + x) % M := Int.emod_nonneg _ (by omega)
    have t1 : (x + x) % M < M := Int.emod_lt_of_pos _ (by omega)
    by_cases hz : 0 < k
    · have hand := and_one k hk hk1
      by_cases hodd : k % 2 = 1
      · have hodd1 : (k % 2 == 1) = true := by simpa using hodd
        have HO := Lib.hid hodd
        clear hodd
        go_wp2_with fail
        go_roundw
        case rel => exact ⟨_, _, _, rfl, rfl, rfl, by omega, by omega, by omega, by omega, by omega, by omega, (dbl_step o x k M hz HO.out).trans HE.out, hd⟩
        case measure => simp [intOf]; omega
      · have hodd1 : (k % 2 == 1) = false := by simpa using hodd
        have hodd2 : k % 2 = 0 := by omega
        have HO := Lib.hid hodd2
        clear hodd hodd2
        go_wp2_with fail
        go_roundw
        case rel => exact ⟨_, _, _, rfl, rfl, rfl, by omega, by omega, by omega, by omega, by omega, by omega, (dbl_step0 o x k M hz HO.out).trans HE.out, hd⟩
        case measure => simp [intOf]; omega
    · have hz0 : k = 0 := by omega
      subst hz0
      go_wp2_with fail
      go_ret
      refine ⟨?_, hd⟩
      have h := HE.out
      rw [Int.mul_zero, Int.add_zero, Int.emod_eq_of_lt ho ho1] at h
      rw [h]; rfl

set_option maxHeartbeats 800000 in
theorem rpow_any (a n m : Int) (w : World) (ha : 0 ≤ a) (hn : 0 ≤ n) (hn1 : n < 18446744073709551616) :
    Calls Try.prog 33 #[.int .u64 a, .int .u64 n, .int .u64 m] w fun e w' => e = .returned (.int .u64 (fpow a n m)) ∧ Dr w w' := by
  have hM0 := modN_pos m
  have hM1 := modN_le m
  have hM2 : 2305843009213693950 ≤ modN m := by rcases modN_cases m with h | h <;> omega
  have hM3 := modN_cases m
  have H := rmodulus_any m
  have hmm : modN (modN m) = modN m := by rcases modN_cases m with h | h <;> rw [h] <;> rfl
  unfold fpow
  have Hmul : ∀ a b (w : World), 0 ≤ a → 0 ≤ b → b < 18446744073709551616 → Calls Try.prog 48 #[.int .u64 a, .int .u64 b, .int .u64 (modN m)] w fun e w' => e = .returned (.int .u64 ((a % modN m) * (b % modN m) % modN m)) ∧ Dr w w' := by
    intro a b w ha hb hb1
    have h := rmul_any a b (modN m) w ha hb hb1
    unfold fmul at h
    rw [hmm] at h
    exact h
  clear hmm
  generalize modN m = M at *
  have a0 : 0 ≤ a % M := Int.emod_nonneg _ (by omega)
  have a1 : a % M < M := Int.emod_lt_of_pos _ (by omega)
  have one : 1 % M = 1 := Int.emod_eq_of_lt (by omega) (by omega)
  have b0 : 0 ≤ 1 % M := by omega
  have b1 : 1 % M < M := by omega
  have HONE := Lib.hid one
  clear one
  have HM := Lib.hid Hmul
  have HM3 := Lib.hid hM3
  clear Hmul hM3
  go_enter Try.func33, Try.ntmps33
  go_wp2_with (go_at_call 59; refine (H _).mono ?_; rintro e w' ⟨rfl, rfl⟩)
  go_loopw [0, 1, 7] (fun v0 v1 v7 wr => ∃ x k o : Int, v0 = .int .u64 x ∧ v1 = .int .u64 k ∧ v7 = .int .u64 o ∧ 0 ≤ x ∧ x < M ∧ 0 ≤ k ∧ k < 18446744073709551616 ∧ 0 ≤ o ∧ o < M ∧ Hid ((o * x ^ k.toNat) % M = a ^ n.toNat % M) ∧ Dr w wr) (fun _ v1 _ _ => (intOf v1).toNat)
  case atStart => exact ⟨_, _, _, rfl, rfl, rfl, a0, a1, hn, hn1, by omega, by omega, by show _ = _; rw [HONE.out, Int.one_mul]; exact cg_pow (cg_mod _ _) _, Dr.refl _⟩
  case round =>
    obtain ⟨x, k, o, rfl, rfl, rfl, hx, hx1, hk, hk1, ho, ho1, HE, hd⟩ := hrel
    have s0 : 0 ≤ (o % M) * (x % M) % M := Int.emod_nonneg _ (by omega)
    have s1 : (o % M) * (x % M) % M < M := Int.emod_lt_of_pos _ (by omega)
    have t0 : 0 ≤ (x % M) * (x % M) % M := Int.emod_nonneg _ (by omega)
    have t1 : (x % M) * (x % M) % M < M := Int.emod_lt_of_pos _ (by omega)
    by_cases hz : 0 < k
    · have hand := and_one k hk hk1
      by_cases hodd : k % 2 = 1
      · have hodd1 : (k % 2 == 1) = true := by simpa using hodd
        have HO := Lib.hid hodd
        clear hodd
        go_wp2_with fail
        refine (HM.out o x _ ho hx (by omega)).mono ?_
        rintro e w1 ⟨rfl, hd1⟩
        go_wp2_with fail
        refine (HM.out x x _ hx hx (by omega)).mono ?_
        rintro e w2 ⟨rfl, hd2⟩
        go_wp2_with fail
        go_roundw
        case rel => exact ⟨_, _, _, rfl, rfl, rfl, by omega, by omega, by omega, by omega, by omega, by omega, (pw_step o x k M hz HO.out).trans HE.out, (hd.trans hd1).trans hd2⟩
        case measure => simp [intOf]; omega
      · have hodd1 : (k % 2 == 1) = false := by simpa using hodd
        have hodd2 : k % 2 = 0 := by omega
        have HO := Lib.hid hodd2
        clear hodd hodd2
        go_wp2_with fail
        refine (HM.out x x _ hx hx (by omega)).mono ?_
        rintro e w2 ⟨rfl, hd2⟩
        go_wp2_with fail
        go_roundw
        case rel => exact ⟨_, _, _, rfl, rfl, rfl, by omega, by omega, by omega, by omega, by omega, by omega, (pw_step0 o x k M hz HO.out).trans HE.out, hd.trans hd2⟩
        case measure => simp [intOf]; omega
    · have hz0 : k = 0 := by omega
      subst hz0
      go_wp2_with fail
      go_ret
      refine ⟨?_, hd⟩
      have h := HE.out
      rw [show ((0 : Int).toNat) = 0 from rfl, Int.pow_zero, Int.mul_one, Int.emod_eq_of_lt ho ho1] at h
      rw [h]; rfl
end Go.Proofs.Yteapoemockimfaa
