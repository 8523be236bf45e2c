/-
  FieldOthers: for every input the law returns true.
-/
import Derived.Test.YtogkgooobmfeoaaFldW
namespace Go.Proofs.Ytogkgooobmfeoaa
set_option linter.unusedVariables false
set_option linter.unusedSimpArgs false
open Go.RowKit


set_option maxHeartbeats 1600000 in
theorem fieldOthers_walk (a b m : Int) (w0 : (Lit.int .u64 a).wf = true) (w1 : (Lit.int .u64 b).wf = true) (w2 : (Lit.int .u64 m).wf = true) (w : World) :
    Calls Try.prog 6 #[.int .u64 a, .int .u64 b, .int .u64 m] w fun e w' => e = .returned (.bool true) ∧ Below w.heap.size w w' := by
  obtain ⟨a0, a1⟩ := bounds_u64 w0
  obtain ⟨b0, b1⟩ := bounds_u64 w1
  obtain ⟨m0, m1⟩ := bounds_u64 w2
  by_cases hO : m = 2305843009213693950
  · subst hO
    go_enter Try.func6, Try.ntmps6
    go_wp2_with fail
    refine (known_any _).mono ?_
    rintro e w0_ ⟨rfl, hd0_⟩
    go_wp2_with fail
    go_ret
    have HD := (bl_dr (Below.refl w.heap.size w) hd0_)
    exact ⟨rfl, HD⟩
  · have hO1 : (m == 2305843009213693950) = false := by simpa using hO
    have eM : modN m = 2305843009213693951 := by unfold modN; rw [if_neg hO]
    have e1 : fadd a b m = fadd (a % 2305843009213693951) (b % 2305843009213693951) 2305843009213693951 := by
      rw [fadd_eq, fadd_eq, eM, modN_P, ← Int.add_emod]
    have e2 : fmul a b m = fmul (a % 2305843009213693951) (b % 2305843009213693951) 2305843009213693951 := by
      rw [fmul_eq, fmul_eq, eM, modN_P, ← Int.mul_emod]
    have e3 : ∀ n, fpow a n m = fpow (a % 2305843009213693951) n 2305843009213693951 := by
      intro n; unfold fpow pw; rw [eM, modN_P, cg_pow (cg_mod a _)]
    have bd1 : fadd (a % 2305843009213693951) (b % 2305843009213693951) 2305843009213693951 < 2305843009213693951 := by rw [fadd_eq]; exact Int.emod_lt_of_pos _ (by decide)
    have bd2 : fmul a b 2305843009213693950 < 2305843009213693950 := by rw [fmul_eq]; exact Int.emod_lt_of_pos _ (by decide)
    have hand0 : 0 ≤ bits .and .u64 b 65535 ∧ bits .and .u64 b 65535 < 18446744073709551616 := by
      rw [u64_and b 65535 (by omega) (by omega) (by omega) (by omega)]
      show 0 ≤ ((b.toNat &&& 65535 : Nat) : Int) ∧ ((b.toNat &&& 65535 : Nat) : Int) < _
      rw [nat_mask16]; omega
    have x0 : 0 ≤ a % 2305843009213693951 := by omega
    have y0 : 0 ≤ b % 2305843009213693951 := by omega
    obtain ⟨n, hn⟩ : ∃ n, bits .and .u64 b 65535 = n := ⟨_, rfl⟩
    rw [hn] at hand0
    obtain ⟨n0, n1⟩ := hand0
    have e3' := e3 n
    clear e3
    have E1 := Lib.hid e1
    have E2 := Lib.hid e2
    have E3 := Lib.hid e3'
    clear e1 e2 e3' eM hO
    go_enter Try.func6, Try.ntmps6
    go_wp2_with fail
    refine (known_any _).mono ?_
    rintro e w0_ ⟨rfl, hd0_⟩
    go_wp2_with fail
    refine (add_any _ _ _ _ (by omega) (by omega)).mono ?_
    rintro e w1_ ⟨rfl, hd1_⟩
    go_wp2_with fail
    refine (add_any _ _ _ _ (by omega) (by omega)).mono ?_
    rintro e w2_ ⟨rfl, hd2_⟩
    rw [E1.out]
    go_wp2_with fail
    refine (mul_any _ _ _ _ (by omega) (by omega)).mono ?_
    rintro e w3_ ⟨rfl, hd3_⟩
    go_wp2_with fail
    refine (mul_any _ _ _ _ (by omega) (by omega)).mono ?_
    rintro e w4_ ⟨rfl, hd4_⟩
    rw [E2.out]
    go_wp2_with fail
    refine (pow_any _ _ _ _ (by omega) (by omega) (by omega)).mono ?_
    rintro e w5_ ⟨rfl, hd5_⟩
    go_wp2_with fail
    refine (pow_any _ _ _ _ (by omega) (by omega) (by omega)).mono ?_
    rintro e w6_ ⟨rfl, hd6_⟩
    rw [E3.out]
    go_wp2_with fail
    refine (add_any _ _ _ _ (by omega) (by omega)).mono ?_
    rintro e w7_ ⟨rfl, hd7_⟩
    rw [E1.out]
    go_wp2_with fail
    refine (mul_any _ _ _ _ (by omega) (by omega)).mono ?_
    rintro e w8_ ⟨rfl, hd8_⟩
    go_wp2_with fail
    go_ret
    have HD := (bl_dr (bl_dr (bl_dr (bl_dr (bl_dr (bl_dr (bl_dr (bl_dr (bl_dr (Below.refl w.heap.size w) hd0_) hd1_) hd2_) hd3_) hd4_) hd5_) hd6_) hd7_) hd8_)
    exact ⟨by simp, HD⟩
end Go.Proofs.Ytogkgooobmfeoaa
