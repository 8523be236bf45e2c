/-
  The plain laws of the numbers modulo the prime and the order.
-/
import Derived.Test.YteapoemockimfaaFldC
import Derived.Test.YteapoemockimfaaFldP
namespace Go.Proofs.Yteapoemockimfaa
set_option linter.unusedVariables false
set_option linter.unusedSimpArgs false

theorem modN_P : modN 2305843009213693951 = 2305843009213693951 := rfl
theorem modN_O : modN 2305843009213693950 = 2305843009213693950 := rfl
theorem modN_self (m : Int) : modN (modN m) = modN m := by rcases modN_cases m with h | h <;> rw [h] <;> rfl

theorem fmul_eq (a b m : Int) : fmul a b m = a * b % modN m := by unfold fmul; exact (Int.mul_emod a b _).symm
theorem fadd_eq (a b m : Int) : fadd a b m = (a + b) % modN m := by unfold fadd; exact (Int.add_emod a b _).symm
theorem fmul_comm (a b m : Int) : fmul a b m = fmul b a m := by rw [fmul_eq, fmul_eq, Int.mul_comm]
theorem fmul_assoc (a b c m : Int) : fmul a (fmul b c m) m = fmul (fmul a b m) c m := by
  rw [fmul_eq, fmul_eq, fmul_eq, fmul_eq, cg_mul (rfl : a % modN m = a % modN m) (cg_mod (b * c) _), cg_mul (cg_mod (a * b) _) (rfl : c % modN m = c % modN m), Int.mul_assoc]
theorem fmul_add (a b c m : Int) : fmul a (fadd b c m) m = fadd (fmul a b m) (fmul a c m) m := by
  rw [fmul_eq, fadd_eq, fadd_eq, fmul_eq, fmul_eq, cg_mul (rfl : a % modN m = a % modN m) (cg_mod (b + c) _), cg_add (cg_mod (a * b) _) (cg_mod (a * c) _), Int.mul_add]

theorem fpow_bd (a n m : Int) : 0 ≤ fpow a n m ∧ fpow a n m < modN m := ⟨Int.emod_nonneg _ (by have := modN_pos m; omega), Int.emod_lt_of_pos _ (modN_pos m)⟩

/-- The power with the whole order. -/
theorem pow_order (x : Int) (hx : 0 ≤ x) (h : x % 2305843009213693951 ≠ 0) {n : Nat} (hn : n = 2305843009213693950) : x ^ n % 2305843009213693951 = 1 := by
  obtain ⟨k, rfl⟩ := Int.eq_ofNat_of_zero_le hx
  have hP : Ferm.P = 2305843009213693951 := rfl
  have h1 := Ferm.fermat hn k (by rw [hP]; omega)
  rw [hP] at h1
  rw [← Int.natCast_pow]
  omega

theorem pow_zero_mod (x : Int) (h : x % 2305843009213693951 = 0) {n : Nat} (hn : 0 < n) : x ^ n % 2305843009213693951 = 0 := by
  obtain ⟨k, rfl⟩ : ∃ k, n = k + 1 := ⟨n - 1, by omega⟩
  rw [Int.pow_succ, Int.mul_emod, h, Int.mul_zero, Int.zero_emod]

def finv (x : Int) : Int := fpow x 2305843009213693949 2305843009213693951
theorem finv_def (x : Int) : finv x = x ^ (2305843009213693949 : Int).toNat % 2305843009213693951 := rfl
theorem finv_bd (x : Int) : 0 ≤ finv x ∧ finv x < 2305843009213693951 := fpow_bd _ _ _
theorem finv_one (x : Int) (hx : 0 ≤ x) (h : x % 2305843009213693951 ≠ 0) : fmul x (finv x) 2305843009213693951 = 1 := by
  rw [fmul_eq, finv_def, modN_P, cg_mul (rfl : x % 2305843009213693951 = x % 2305843009213693951) (cg_mod (x ^ (2305843009213693949 : Int).toNat) _)]
  have e : x * x ^ (2305843009213693949 : Int).toNat = x ^ ((2305843009213693949 : Int).toNat + 1) := by rw [Int.pow_succ, Int.mul_comm]
  rw [e]
  exact pow_order x hx h (by omega)
theorem finv_zero (x : Int) (h : x % 2305843009213693951 = 0) : finv x = 0 := pow_zero_mod x h (by omega)
theorem fmul_zero (x y : Int) (h : x % 2305843009213693951 = 0) : fmul x y 2305843009213693951 = 0 := by
  unfold fmul; rw [modN_P, h, Int.zero_mul, Int.zero_emod]
theorem finv_iff (x : Int) (hx : 0 ≤ x) : (fmul x (finv x) 2305843009213693951 == 1) = (x % 2305843009213693951 != 0) := by
  by_cases h : x % 2305843009213693951 = 0
  · rw [fmul_zero x _ h, h]; rfl
  · rw [finv_one x hx h, bne_iff_ne.2 h]; rfl

theorem fpow_add (x n m : Int) (hn : 0 ≤ n) (hm : 0 ≤ m) : fpow x (n + m) 2305843009213693951 = fmul (fpow x n 2305843009213693951) (fpow x m 2305843009213693951) 2305843009213693951 := by
  rw [fmul_eq]; unfold fpow pw; rw [modN_P, cg_mul (cg_mod _ _) (cg_mod _ _), show (n + m).toNat = n.toNat + m.toNat by omega, Int.pow_add]
theorem fpow_order (x : Int) (hx : 0 ≤ x) : (fpow x 2305843009213693950 2305843009213693951 == 1) = (x % 2305843009213693951 != 0) := by
  unfold fpow pw; rw [modN_P]
  by_cases h : x % 2305843009213693951 = 0
  · rw [pow_zero_mod x h (by omega), h]; rfl
  · rw [pow_order x hx h (by omega), bne_iff_ne.2 h]; rfl

theorem finv_inv (x : Int) (hx : 0 ≤ x) : finv (finv x) = x % 2305843009213693951 := by
  by_cases h : x % 2305843009213693951 = 0
  · rw [finv_zero x h, h]; exact finv_zero 0 rfl
  · have h1 := finv_one x hx h
    have b := finv_bd x
    have h0 : finv x % 2305843009213693951 ≠ 0 := by
      intro e
      rw [fmul_comm, fmul_zero _ _ e] at h1
      omega
    have h2 := finv_one (finv x) b.1 h0
    have b2 := finv_bd (finv x)
    have e1 : fmul x (fmul (finv x) (finv (finv x)) 2305843009213693951) 2305843009213693951 = fmul (fmul x (finv x) 2305843009213693951) (finv (finv x)) 2305843009213693951 := fmul_assoc _ _ _ _
    rw [h1, h2, fmul_eq, fmul_eq, modN_P, Int.mul_one, Int.one_mul, Int.emod_eq_of_lt b2.1 b2.2] at e1
    exact e1.symm

theorem mul_pow' (a b : Int) (n : Nat) : (a * b) ^ n = a ^ n * b ^ n := by
  induction n with
  | zero => rw [Int.pow_zero, Int.pow_zero, Int.pow_zero, Int.one_mul]
  | succ n ih => rw [Int.pow_succ, Int.pow_succ, Int.pow_succ, ih]; ac_rfl
theorem finv_mul (x y : Int) : finv (fmul x y 2305843009213693951) = fmul (finv x) (finv y) 2305843009213693951 := by
  rw [finv_def, finv_def, finv_def, fmul_eq, fmul_eq, modN_P, cg_pow (cg_mod (x * y) _), cg_mul (cg_mod _ _) (cg_mod _ _), mul_pow']
theorem finv_pow (x n : Int) : fpow (finv x) n 2305843009213693951 = finv (fpow x n 2305843009213693951) := by
  unfold fpow pw; rw [modN_P, finv_def, finv_def, cg_pow (cg_mod _ _), cg_pow (cg_mod _ _), ← Int.pow_mul, ← Int.pow_mul, Nat.mul_comm]


/-- A power by squaring, as the kernel reckons it. -/
theorem fpow_fast (a n : Nat) (m : Int) (M : Nat) (hM : modN m = M) (hn : n < 2 ^ 64) : fpow a n m = (Ferm.fast M 64 a n 1 % M : Nat) := by
  unfold fpow pw
  rw [hM, Int.toNat_natCast, ← Ferm.fast64 _ _ _ hn, Int.natCast_emod, Int.natCast_pow]
end Go.Proofs.Yteapoemockimfaa
