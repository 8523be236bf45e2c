/-
  Rem64, Mul, Pow and Inv of the package field.
-/
import Derived.Test.YteapoemockimfaaFldB
import Derived.Test.YteapoemockimfaaFldM
namespace Go.Proofs.Yteapoemockimfaa
set_option linter.unusedVariables false
set_option linter.unusedSimpArgs false
open Go.RowKit

theorem rem_reduced (hi lo y : Int) : ((hi % y) * 18446744073709551616 + lo) % y = (hi * 18446744073709551616 + lo) % y := by
  rw [Int.add_emod, Int.mul_emod, Int.emod_emod_of_dvd _ (Int.dvd_refl y), ← Int.mul_emod, ← Int.add_emod]

set_option maxHeartbeats 800000 in
theorem rem64_any (hi lo y : Int) (w : World) (hy : y = 2305843009213693950 ∨ y = 2305843009213693951) (h0 : 0 ≤ hi) (l0 : 0 ≤ lo) (l1 : lo < 18446744073709551616) :
    Calls Try.prog 77 #[.int .u64 hi, .int .u64 lo, .int .u64 y] w fun e w' => e = .returned (.int .u64 ((hi * 18446744073709551616 + lo) % y)) ∧ Dr w w' := by
  rcases hy with rfl | rfl
  · go_enter Try.func77, Try.ntmps77
    go_wp2_with (go_at_call 92; refine (div64_o _ _ _ (by omega) (by omega) (by omega) (by omega)).mono ?_; rintro e w' ⟨q, rfl, hd⟩)
    go_ret
    exact ⟨by simp [rem_reduced], hd⟩
  · go_enter Try.func77, Try.ntmps77
    go_wp2_with (go_at_call 92; refine (div64_p _ _ _ (by omega) (by omega) (by omega) (by omega)).mono ?_; rintro e w' ⟨q, rfl, hd⟩)
    go_ret
    exact ⟨by simp [rem_reduced], hd⟩

set_option maxHeartbeats 800000 in
theorem mul_any (a b m : Int) (w : World) (ha : 0 ≤ a) (hb : 0 ≤ b) :
    Calls Try.prog 58 #[.int .u64 a, .int .u64 b, .int .u64 m] w fun e w' => e = .returned (.int .u64 (fmul a b m)) ∧ Dr w w' := by
  have hM := modN_cases m
  have hM0 := modN_pos m
  have hM1 := modN_le m
  have H := modulus_any m
  unfold fmul
  generalize modN m = M at *
  have a0 : 0 ≤ a % M := Int.emod_nonneg _ (by omega)
  have a1 : a % M < M := Int.emod_lt_of_pos _ (by omega)
  have b0 : 0 ≤ b % M := Int.emod_nonneg _ (by omega)
  have b1 : b % M < M := Int.emod_lt_of_pos _ (by omega)
  have hp : 0 ≤ a % M * (b % M) := Int.mul_nonneg a0 b0
  have hfin : (a % M * (b % M) / 18446744073709551616 * 18446744073709551616 + a % M * (b % M) % 18446744073709551616) % M = a % M * (b % M) % M := by congr 1; omega
  have c0 : 0 ≤ a % M * (b % M) / 18446744073709551616 := by omega
  have c1 : 0 ≤ a % M * (b % M) % 18446744073709551616 := by omega
  have c2 : a % M * (b % M) % 18446744073709551616 < 18446744073709551616 := by omega
  have Hfin := Lib.hid hfin
  have HM := Lib.hid hM
  clear hfin hM hp
  go_enter Try.func58, Try.ntmps58
  go_wp2_with (go_at_call 75; refine (H _).mono ?_; rintro e w' ⟨rfl, rfl⟩)
  go_quiet ((go_at_call 76; exact Calls.quiet_of_same ((mul64_any _ _ _ (by omega) (by omega) (by omega) (by omega)).mono fun _ _ ⟨h, k⟩ => ⟨h, k.symm⟩)))
  go_wp2_with (go_at_call 77; refine (rem64_any _ _ _ _ HM.out (by assumption) (by assumption) (by assumption)).mono ?_; rintro e w' ⟨rfl, hd⟩)
  go_ret
  exact ⟨by simp [Hfin.out], (Dr.drewN (Dr.refl _) _).trans hd⟩

theorem fmul_bd (a b m : Int) : 0 ≤ fmul a b m ∧ fmul a b m < modN m := ⟨Int.emod_nonneg _ (by have := modN_pos m; omega), Int.emod_lt_of_pos _ (modN_pos m)⟩

/-- The power that counts. -/
def fpow (a n m : Int) : Int := pw a n (modN m)

theorem and_one (x : Int) (h0 : 0 ≤ x) (h1 : x < 18446744073709551616) : bits .and .u64 x 1 = x % 2 := by
  rw [u64_and x 1 h0 h1 (by omega) (by omega)]
  show ((x.toNat &&& 1 : Nat) : Int) = _
  rw [nat_mask1]; omega

set_option maxHeartbeats 800000 in
theorem pow_any (a n m : Int) (w : World) (ha : 0 ≤ a) (hn : 0 ≤ n) (hn1 : n < 18446744073709551616) :
    Calls Try.prog 54 #[.int .u64 a, .int .u64 n, .int .u64 m] w fun e w' => e = .returned (.int .u64 (fpow a n m)) ∧ Dr w w' := by
  have hM0 := modN_pos m
  have hM1 := modN_le m
  have hM2 : 2305843009213693950 ≤ modN m := by rcases modN_cases m with h | h <;> omega
  go_enter Try.func54, Try.ntmps54
  go_wp2_with fail
  go_loopw [0, 1, 7] (fun v0 v1 v7 wr => ∃ x k o : Int, v0 = .int .u64 x ∧ v1 = .int .u64 k ∧ v7 = .int .u64 o ∧ 0 ≤ x ∧ 0 ≤ k ∧ k < 18446744073709551616 ∧ 0 ≤ o ∧ o < modN m ∧ Hid ((o * x ^ k.toNat) % modN m = a ^ n.toNat % modN m) ∧ Dr w wr) (fun _ v1 _ _ => (intOf v1).toNat)
  case atStart => exact ⟨_, _, _, rfl, rfl, rfl, ha, hn, hn1, by omega, by omega, by show _ = _; rw [Int.one_mul], Dr.refl _⟩
  case round =>
    obtain ⟨x, k, o, rfl, rfl, rfl, hx, hk, hk1, ho, ho1, HE, hd⟩ := hrel
    by_cases hz : 0 < k
    · have hand := and_one k hk hk1
      have f1 := fmul_bd o x m
      have f2 := fmul_bd x x m
      by_cases hodd : k % 2 = 1
      · have hodd1 : (k % 2 == 1) = true := by simpa using hodd
        have HO := Lib.hid hodd
        clear hodd
        go_wp2_with fail
        refine (mul_any o x m _ ho hx).mono ?_
        rintro e w1 ⟨rfl, hd1⟩
        go_wp2_with fail
        refine (mul_any x x m _ hx hx).mono ?_
        rintro e w2 ⟨rfl, hd2⟩
        go_wp2_with fail
        go_roundw
        case rel => exact ⟨_, _, _, rfl, rfl, rfl, by omega, by omega, by omega, by omega, by omega, (pw_step o x k (modN m) hz HO.out).trans HE.out, (hd.trans hd1).trans hd2⟩
        case measure => simp [intOf]; omega
      · have hodd1 : (k % 2 == 1) = false := by simpa using hodd
        have hodd2 : k % 2 = 0 := by omega
        have HO := Lib.hid hodd2
        clear hodd hodd2
        go_wp2_with fail
        refine (mul_any x x m _ hx hx).mono ?_
        rintro e w2 ⟨rfl, hd2⟩
        go_wp2_with fail
        go_roundw
        case rel => exact ⟨_, _, _, rfl, rfl, rfl, by omega, by omega, by omega, by omega, by omega, (pw_step0 o x k (modN m) hz HO.out).trans HE.out, hd.trans hd2⟩
        case measure => simp [intOf]; omega
    · have hz0 : k = 0 := by omega
      subst hz0
      go_wp2_with fail
      go_ret
      refine ⟨?_, hd⟩
      have h := HE.out
      rw [show ((0 : Int).toNat) = 0 from rfl, Int.pow_zero, Int.mul_one, Int.emod_eq_of_lt ho ho1] at h
      rw [h]; rfl


end Go.Proofs.Yteapoemockimfaa
