/-
  What the functions of the package field and those of the reference's numbers come to.
-/
import Derived.Test.YteapoemockimfaaKit
namespace Go.Proofs.Yteapoemockimfaa
set_option linter.unusedVariables false
set_option linter.unusedSimpArgs false
open Go.RowKit

def modN (m : Int) : Int := if m = 2305843009213693950 then 2305843009213693950 else 2305843009213693951
theorem modN_cases (m : Int) : modN m = 2305843009213693950 ∨ modN m = 2305843009213693951 := by unfold modN; split <;> simp
theorem modN_pos (m : Int) : 0 < modN m := by rcases modN_cases m with h | h <;> omega
theorem modN_le (m : Int) : modN m ≤ 2305843009213693951 := by rcases modN_cases m with h | h <;> omega

set_option maxHeartbeats 400000 in
theorem modulus_any (m : Int) (w : World) :
    Calls Try.prog 75 #[.int .u64 m] w fun e w' => e = .returned (.int .u64 (modN m)) ∧ w = w' := by
  by_cases h : m = 2305843009213693950
  · subst h
    go_enter Try.func75, Try.ntmps75
    go_wp2
    go_ret
    exact ⟨by simp [modN], rfl⟩
  · have h1 : (m == 2305843009213693950) = false := by simpa using h
    have e1 : modN m = 2305843009213693951 := by unfold modN; rw [if_neg h]
    rw [e1]
    go_enter Try.func75, Try.ntmps75
    go_wp2
    go_ret
    exact ⟨rfl, rfl⟩

def fadd (a b m : Int) : Int := (a % modN m + b % modN m) % modN m
def fmul (a b m : Int) : Int := (a % modN m) * (b % modN m) % modN m

set_option maxHeartbeats 400000 in
theorem add_any (a b m : Int) (w : World) (ha : 0 ≤ a) (hb : 0 ≤ b) :
    Calls Try.prog 57 #[.int .u64 a, .int .u64 b, .int .u64 m] w fun e w' => e = .returned (.int .u64 (fadd a b m)) ∧ Dr w w' := by
  have hM0 := modN_pos m
  have hM1 := modN_le m
  have H := modulus_any m
  unfold fadd
  generalize modN m = M at *
  have a0 : 0 ≤ a % M := Int.emod_nonneg _ (by omega)
  have a1 : a % M < M := Int.emod_lt_of_pos _ (by omega)
  have b0 : 0 ≤ b % M := Int.emod_nonneg _ (by omega)
  have b1 : b % M < M := Int.emod_lt_of_pos _ (by omega)
  go_enter Try.func57, Try.ntmps57
  go_wp2_with (go_at_call 75; refine (H _).mono ?_; rintro e w' ⟨rfl, rfl⟩)
  go_quiet (fail)
  go_wp2
  go_ret
  exact ⟨rfl, by first | exact Dr.refl _ | exact ⟨_, rfl⟩⟩
end Go.Proofs.Yteapoemockimfaa
