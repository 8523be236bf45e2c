/-
  The plain law of signatures: what Sign gives, Check takes.
-/
import Derived.Test.YteapoemockimfaaPuR
namespace Go.Proofs.Yteapoemockimfaa
set_option linter.unusedVariables false
set_option linter.unusedSimpArgs false
open Go.RowKit

theorem pow_mul_mod (a : Int) (n q : Nat) (h : a ^ n % 2305843009213693951 = 1) : a ^ (n * q) % 2305843009213693951 = 1 := by
  induction q with
  | zero => rw [Nat.mul_zero, Int.pow_zero]; rfl
  | succ q ih => rw [Nat.mul_succ, Int.pow_add, Int.mul_emod, ih, h]; rfl
theorem pow_emod (z : Int) (b : Nat) (M : Int) : z ^ b % M = (z % M) ^ b % M := by
  induction b with
  | zero => rw [Int.pow_zero, Int.pow_zero]
  | succ b ih => rw [Int.pow_succ, Int.pow_succ, Int.mul_emod, ih, Int.mul_emod ((z % M) ^ b) (z % M), Int.emod_emod_of_dvd _ (Int.dvd_refl M)]
theorem pow_red (a : Int) (N k : Nat) (h : a ^ N % 2305843009213693951 = 1) : a ^ (k % N) % 2305843009213693951 = a ^ k % 2305843009213693951 := by
  have e : a ^ k = a ^ (N * (k / N)) * a ^ (k % N) := by rw [← Int.pow_add, Nat.div_add_mod]
  rw [e, Int.mul_emod, pow_mul_mod a N _ h, Int.one_mul, Int.emod_emod_of_dvd _ (Int.dvd_refl _)]
/-- Exponents of 7 count modulo the order. -/
theorem fpow_order_mod (n : Int) (hn : 0 ≤ n) : fpow 7 (n % 2305843009213693950) 2305843009213693951 = fpow 7 n 2305843009213693951 := by
  obtain ⟨N, hN⟩ : ∃ N : Nat, N = 2305843009213693950 := ⟨_, rfl⟩
  have h7 : (7 : Int) ^ N % 2305843009213693951 = 1 := pow_order 7 (by decide) (by decide) hN
  obtain ⟨k, rfl⟩ := Int.eq_ofNat_of_zero_le hn
  have e2 : ((k : Int) % 2305843009213693950).toNat = k % N := by rw [hN]; omega
  unfold fpow pw
  rw [modN_P, e2, Int.toNat_natCast]
  exact pow_red 7 N k h7

theorem fpow_mulexp (x e : Int) (hx : 0 ≤ x) (he : 0 ≤ e) : fpow 7 (x * e) 2305843009213693951 = fpow (fpow 7 x 2305843009213693951) e 2305843009213693951 := by
  obtain ⟨a, rfl⟩ := Int.eq_ofNat_of_zero_le hx
  obtain ⟨b, rfl⟩ := Int.eq_ofNat_of_zero_le he
  unfold fpow pw
  rw [modN_P]
  have e1 : ((a : Int) * (b : Int)).toNat = a * b := by rw [← Int.natCast_mul]; rfl
  rw [e1, Int.toNat_natCast, Int.toNat_natCast, Int.pow_mul, pow_emod]

/-- What is signed is taken. -/
theorem sign_same (x : Int) (m : List UInt8) (x0 : 0 ≤ x) (x1 : x < 2305843009213693950) : sameF (pubF x) m (sigR x m) (sigS x m) = true := by
  have hk := signK_bd x m
  have he := sigE_bd x m
  have hxe : 0 ≤ x * sigE x m := Int.mul_nonneg x0 he.1
  unfold sameF
  rw [beq_iff_eq]
  show fpow 7 (sigS x m) _ = fmul (sigR x m) (fpow (pubF x) (sigE x m) _) _
  have hp : pubF x = fpow 7 x 2305843009213693951 := by unfold pubF; rw [Int.emod_eq_of_lt x0 x1]
  rw [hp, ← fpow_mulexp x _ x0 he.1]
  unfold sigR
  rw [← fpow_add 7 _ _ hk.1 hxe]
  have hs : sigS x m = (signK x m + x * sigE x m) % 2305843009213693950 := by
    unfold sigS
    rw [fadd_eq, fmul_eq, modN_O, Int.add_emod_emod]
  rw [hs, fpow_order_mod _ (by omega)]
end Go.Proofs.Yteapoemockimfaa
