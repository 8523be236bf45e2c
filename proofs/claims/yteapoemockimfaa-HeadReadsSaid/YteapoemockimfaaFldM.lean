/-
  Plain laws of numbers modulo a number.
-/
import Derived.Test.YteapoemockimfaaKit
namespace Go.Proofs.Yteapoemockimfaa
set_option linter.unusedVariables false
set_option linter.unusedSimpArgs false

theorem cg_mul {x x' y y' M : Int} (h : x % M = x' % M) (k : y % M = y' % M) : (x * y) % M = (x' * y') % M := by
  rw [Int.mul_emod, h, k, ← Int.mul_emod]
theorem cg_add {x x' y y' M : Int} (h : x % M = x' % M) (k : y % M = y' % M) : (x + y) % M = (x' + y') % M := by
  rw [Int.add_emod, h, k, ← Int.add_emod]
theorem cg_pow {x x' M : Int} (h : x % M = x' % M) (n : Nat) : x ^ n % M = x' ^ n % M := by
  induction n with
  | zero => rw [Int.pow_zero, Int.pow_zero]
  | succ n ih => rw [Int.pow_succ, Int.pow_succ]; exact cg_mul ih h
theorem cg_mod (x M : Int) : x % M % M = x % M := Int.emod_emod_of_dvd _ (Int.dvd_refl M)
theorem cg_mm (x y M : Int) : (x % M) * (y % M) % M % M = x * y % M := (cg_mod _ _).trans (cg_mul (cg_mod _ _) (cg_mod _ _))

/-- The power, modulo. -/
def pw (a n M : Int) : Int := a ^ n.toNat % M

theorem sq_pow (a : Int) (k : Nat) : (a * a) ^ k = a ^ (2 * k) := by
  rw [Int.pow_mul]; congr 1; rw [Int.pow_succ, Int.pow_succ, Int.pow_zero, Int.one_mul]

theorem pw_step (out a n M : Int) (hn : 0 < n) (h : n % 2 = 1) :
    ((out % M) * (a % M) % M * ((a % M) * (a % M) % M) ^ (n / 2).toNat) % M = (out * a ^ n.toNat) % M := by
  have e : n.toNat = 2 * (n / 2).toNat + 1 := by omega
  have h1 := cg_mul (cg_mm out a M) (cg_pow (cg_mm a a M) (n / 2).toNat)
  rw [h1, e, sq_pow, Int.pow_succ, Int.mul_assoc, Int.mul_comm a]

theorem pw_step0 (out a n M : Int) (hn : 0 < n) (h : n % 2 = 0) :
    (out * ((a % M) * (a % M) % M) ^ (n / 2).toNat) % M = (out * a ^ n.toNat) % M := by
  have e : n.toNat = 2 * (n / 2).toNat := by omega
  have h1 := cg_mul (rfl : out % M = out % M) (cg_pow (cg_mm a a M) (n / 2).toNat)
  rw [h1, e, sq_pow]

theorem dbl_step (out a b M : Int) (hb : 0 < b) (h : b % 2 = 1) :
    ((out + a) % M + (a + a) % M * (b / 2)) % M = (out + a * b) % M := by
  have e : b = 1 + 2 * (b / 2) := by omega
  have h1 := cg_add (cg_mod (out + a) M) (cg_mul (cg_mod (a + a) M) (rfl : (b / 2) % M = (b / 2) % M))
  rw [h1]
  congr 1
  generalize b / 2 = c at *
  subst e
  rw [Int.mul_add, Int.mul_one, ← Int.two_mul, Int.mul_assoc, Int.mul_left_comm]
  omega
theorem dbl_step0 (out a b M : Int) (hb : 0 < b) (h : b % 2 = 0) :
    (out + (a + a) % M * (b / 2)) % M = (out + a * b) % M := by
  have e : b = 2 * (b / 2) := by omega
  have h1 := cg_add (rfl : out % M = out % M) (cg_mul (cg_mod (a + a) M) (rfl : (b / 2) % M = (b / 2) % M))
  rw [h1]
  congr 1
  generalize b / 2 = c at *
  subst e
  rw [← Int.two_mul, Int.mul_assoc, Int.mul_left_comm]
end Go.Proofs.Yteapoemockimfaa
