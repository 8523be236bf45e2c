/-
  Div64 at both moduli: the remainder that it tells.
-/
import Derived.Test.YteapoemockimfaaFldA
namespace Go.Proofs.Yteapoemockimfaa
set_option linter.unusedVariables false
set_option linter.unusedSimpArgs false
open Go.RowKit

/-- What Div64 comes to, as far as it is asked for: the remainder. -/
def RemIs (hi lo y : Int) (w : World) (e : Ending) (w' : World) : Prop :=
  ∃ q : Int, e = .returned (.tuple #[.int .u64 q, .int .u64 ((hi * 18446744073709551616 + lo) % y)]) ∧ Dr w w'

theorem or_un32 (hi lo : Int) (h0 : 0 ≤ hi) (h1 : hi < 2305843009213693951) (l0 : 0 ≤ lo) (l1 : lo < 18446744073709551616) :
    bits .or .u64 (hi * 8) (lo / 2305843009213693952) = hi * 8 + lo / 2305843009213693952 := by
  rw [u64_or _ _ (by omega) (by omega) (by omega) (by omega)]
  rw [nat_join 3 _ _ (by omega) (by omega)]
  omega

set_option maxRecDepth 100000 in
set_option maxHeartbeats 4000000 in
theorem div64_o (hi lo : Int) (w : World) (h0 : 0 ≤ hi) (h1 : hi < 2305843009213693950) (l0 : 0 ≤ lo) (l1 : lo < 18446744073709551616) :
    Calls Try.prog 92 #[.int .u64 hi, .int .u64 lo, .int .u64 2305843009213693950] w (RemIs hi lo 2305843009213693950 w) := by
  have hlt : decide (2305843009213693950 ≤ hi) = false := by simp; omega
  by_cases hz : hi = 0
  · subst hz
    go_enter Try.func92, Try.ntmps92
    go_wp2
    go_quiet (fail)
    go_wp2
    go_ret2
    exact ⟨_, ret_two rfl (by omega), Dr.drewN (Dr.refl _) _⟩
  · have hz1 : (hi == 0) = false := by simpa using hz
    obtain ⟨N, hN⟩ : ∃ N, N = hi * 8 + lo / 2305843009213693952 := ⟨_, rfl⟩
    obtain ⟨L, hL⟩ : ∃ L, L = IntKind.u64.wrap (lo * 8) := ⟨_, rfl⟩
    have hL' := hL
    rw [IntKind.wrap_u64] at hL'
    have n0 : 0 ≤ N := by omega
    have n1 : N < 18446744073709551600 := by omega
    have L0 : 0 ≤ L := by omega
    have L1 : L < 18446744073709551616 := by omega
    have hor := or_un32 hi lo h0 (by omega) l0 l1
    rw [← hN] at hor
    have hand := and_mask32 L L0 L1
    have hand2 : bits .and .u64 18446744073709551600 4294967295 = 4294967280 := by rw [and_mask32 _ (by omega) (by omega)]; omega
    rw [← Int.emod_add_mul_ediv L 4294967296] at hL'
    have u0 : 0 ≤ L % 4294967296 := by omega
    have u1 : L % 4294967296 < 4294967296 := by omega
    have v0 : 0 ≤ L / 4294967296 := by omega
    have v1 : L / 4294967296 < 4294967296 := by omega
    obtain ⟨U, hU⟩ : ∃ U, L / 4294967296 = U := ⟨_, rfl⟩
    obtain ⟨Z, hZ⟩ : ∃ Z, L % 4294967296 = Z := ⟨_, rfl⟩
    rw [hU, hZ] at hL'
    rw [hU] at v0 v1
    rw [hZ] at u0 u1 hand
    replace hL := hL.symm
    have HT : Hid (8 * (hi * 18446744073709551616 + lo) = N * 18446744073709551616 + U * 4294967296 + Z) := by
      show _ = _
      omega
    clear hL' hN hz
    go_enter Try.func92, Try.ntmps92
    go_upto_block 0 with (go_at_call 102; refine (lead_any _ (.inl rfl) _).mono ?_; rintro e w' ⟨rfl, rfl⟩)
    clear hL hU hZ hand hand2 hor hz1 hlt
    go_cut [15, 16] (fun q r wc => ∃ q1 rh : Int, q = .int .u64 q1 ∧ r = .int .u64 rh ∧ 0 ≤ q1 ∧ q1 ≤ 4294967296 ∧ q1 * 18446744073709551600 ≤ N * 4294967296 + U ∧ N * 4294967296 + U < (q1 + 1) * 18446744073709551600 ∧ w = wc)
    case first =>
      go_wp2_with fail
      go_loop [15, 16] (fun q r => ∃ q1 rh : Int, q = .int .u64 q1 ∧ r = .int .u64 rh ∧ 0 ≤ q1 ∧ q1 ≤ 4294967298 ∧ 0 ≤ rh ∧ rh < 4294967296 ∧ Hid (q1 * 4294967295 + rh = N) ∧ N * 4294967296 + U < (q1 + 1) * 18446744073709551600) (fun q _ => (intOf q).toNat)
      case atStart => exact ⟨_, _, rfl, rfl, by omega, by omega, by omega, by omega, by show _ = _; omega, by omega⟩
      case round =>
        obtain ⟨q1, rh, rfl, rfl, q0, q1', r0, r1, HE, hq⟩ := hrel
        have HE1 : q1 * 4294967295 + rh = N := HE.out
        by_cases hc1 : 4294967296 ≤ q1
        · have hq2 : N * 4294967296 + U < q1 * 18446744073709551600 := by omega
          clear HE1
          go_wp2_with fail
          · go_meet
            have HE1 : q1 * 4294967295 + rh = N := HE.out
            exact ⟨_, _, rfl, rfl, by omega, by omega, by omega, by omega, rfl⟩
          · go_round
            case rel => exact ⟨_, _, rfl, rfl, by omega, by omega, by omega, by omega, by have HE1 : q1 * 4294967295 + rh = N := HE.out; show _ = _; omega, by omega⟩
            case measure => simp [intOf]; omega
        · by_cases hc2 : 4294967296 * rh + U < q1 * 4294967280
          · have hq2 : N * 4294967296 + U < q1 * 18446744073709551600 := by omega
            have hq3 : 1 ≤ q1 := by omega
            clear HE1
            go_wp2_with fail
            · go_meet
              have HE1 : q1 * 4294967295 + rh = N := HE.out
              exact ⟨_, _, rfl, rfl, by omega, by omega, by omega, by omega, rfl⟩
            · go_round
              case rel => exact ⟨_, _, rfl, rfl, by omega, by omega, by omega, by omega, by have HE1 : q1 * 4294967295 + rh = N := HE.out; show _ = _; omega, by omega⟩
              case measure => simp [intOf]; omega
          · have hq2 : q1 * 18446744073709551600 ≤ N * 4294967296 + U := by omega
            clear HE1
            go_wp2_with fail
            go_meet
            exact ⟨_, _, rfl, rfl, by omega, by omega, by omega, by omega, rfl⟩
    case rest =>
      obtain ⟨q1, rh, rfl, rfl, q0, q1', hq, hq', rfl⟩ := hcut
      obtain ⟨M, hM⟩ : ∃ M, M = N * 4294967296 + U - q1 * 18446744073709551600 := ⟨_, rfl⟩
      have m0 : 0 ≤ M := by omega
      have m1 : M < 18446744073709551600 := by omega
      have hM1 : IntKind.u64.wrap (IntKind.u64.wrap (IntKind.u64.wrap (N * 4294967296) + U) - IntKind.u64.wrap (q1 * 18446744073709551600)) = M := by simp only [IntKind.wrap_u64]; omega
      have HT2 : Hid (8 * (hi * 18446744073709551616 + lo) = (q1 * 18446744073709551600 + M) * 4294967296 + Z) := by
        have := HT.out
        show _ = _
        omega
      clear HT hM hq hq'
      go_upto_block 2 with fail
      clear hM1
      go_cut [18, 16] (fun q r wc => ∃ q2 rh : Int, q = .int .u64 q2 ∧ r = .int .u64 rh ∧ 0 ≤ q2 ∧ q2 ≤ 4294967296 ∧ q2 * 18446744073709551600 ≤ M * 4294967296 + Z ∧ M * 4294967296 + Z < (q2 + 1) * 18446744073709551600 ∧ w = wc)
      case first =>
        go_wp2_with fail
        go_loop [18, 16] (fun q r => ∃ q1 rh : Int, q = .int .u64 q1 ∧ r = .int .u64 rh ∧ 0 ≤ q1 ∧ q1 ≤ 4294967298 ∧ 0 ≤ rh ∧ rh < 4294967296 ∧ Hid (q1 * 4294967295 + rh = M) ∧ M * 4294967296 + Z < (q1 + 1) * 18446744073709551600) (fun q _ => (intOf q).toNat)
        case atStart => exact ⟨_, _, rfl, rfl, by omega, by omega, by omega, by omega, by show _ = _; omega, by omega⟩
        case round =>
          obtain ⟨q2, rh, rfl, rfl, q02, q12', r0, r1, HE, hq⟩ := hrel
          have HE1 : q2 * 4294967295 + rh = M := HE.out
          by_cases hc1 : 4294967296 ≤ q2
          · have hq2 : M * 4294967296 + Z < q2 * 18446744073709551600 := by omega
            clear HE1
            go_wp2_with fail
            · go_meet
              have HE1 : q2 * 4294967295 + rh = M := HE.out
              exact ⟨_, _, rfl, rfl, by omega, by omega, by omega, by omega, rfl⟩
            · go_round
              case rel => exact ⟨_, _, rfl, rfl, by omega, by omega, by omega, by omega, by have HE1 : q2 * 4294967295 + rh = M := HE.out; show _ = _; omega, by omega⟩
              case measure => simp [intOf]; omega
          · by_cases hc2 : 4294967296 * rh + Z < q2 * 4294967280
            · have hq2 : M * 4294967296 + Z < q2 * 18446744073709551600 := by omega
              have hq3 : 1 ≤ q2 := by omega
              clear HE1
              go_wp2_with fail
              · go_meet
                have HE1 : q2 * 4294967295 + rh = M := HE.out
                exact ⟨_, _, rfl, rfl, by omega, by omega, by omega, by omega, rfl⟩
              · go_round
                case rel => exact ⟨_, _, rfl, rfl, by omega, by omega, by omega, by omega, by have HE1 : q2 * 4294967295 + rh = M := HE.out; show _ = _; omega, by omega⟩
                case measure => simp [intOf]; omega
            · have hq2 : q2 * 18446744073709551600 ≤ M * 4294967296 + Z := by omega
              clear HE1
              go_wp2_with fail
              go_meet
              exact ⟨_, _, rfl, rfl, by omega, by omega, by omega, by omega, rfl⟩
      case rest =>
        obtain ⟨q2, rh, rfl, rfl, q02, q12', hq, hq', rfl⟩ := hcut
        go_wp2_with fail
        go_ret2
        refine ⟨_, ret_two rfl ?_, Dr.refl _⟩
        have h2 : IntKind.u64.wrap (IntKind.u64.wrap (IntKind.u64.wrap (M * 4294967296) + Z) - IntKind.u64.wrap (q2 * 18446744073709551600)) = M * 4294967296 + Z - q2 * 18446744073709551600 := by simp only [IntKind.wrap_u64]; omega
        have h3 := HT2.out
        omega


set_option maxRecDepth 100000 in
set_option maxHeartbeats 4000000 in
theorem div64_p (hi lo : Int) (w : World) (h0 : 0 ≤ hi) (h1 : hi < 2305843009213693951) (l0 : 0 ≤ lo) (l1 : lo < 18446744073709551616) :
    Calls Try.prog 92 #[.int .u64 hi, .int .u64 lo, .int .u64 2305843009213693951] w (RemIs hi lo 2305843009213693951 w) := by
  have hlt : decide (2305843009213693951 ≤ hi) = false := by simp; omega
  by_cases hz : hi = 0
  · subst hz
    go_enter Try.func92, Try.ntmps92
    go_wp2
    go_quiet (fail)
    go_wp2
    go_ret2
    exact ⟨_, ret_two rfl (by omega), Dr.drewN (Dr.refl _) _⟩
  · have hz1 : (hi == 0) = false := by simpa using hz
    obtain ⟨N, hN⟩ : ∃ N, N = hi * 8 + lo / 2305843009213693952 := ⟨_, rfl⟩
    obtain ⟨L, hL⟩ : ∃ L, L = IntKind.u64.wrap (lo * 8) := ⟨_, rfl⟩
    have hL' := hL
    rw [IntKind.wrap_u64] at hL'
    have n0 : 0 ≤ N := by omega
    have n1 : N < 18446744073709551608 := by omega
    have L0 : 0 ≤ L := by omega
    have L1 : L < 18446744073709551616 := by omega
    have hor := or_un32 hi lo h0 (by omega) l0 l1
    rw [← hN] at hor
    have hand := and_mask32 L L0 L1
    have hand2 : bits .and .u64 18446744073709551608 4294967295 = 4294967288 := by rw [and_mask32 _ (by omega) (by omega)]; omega
    rw [← Int.emod_add_mul_ediv L 4294967296] at hL'
    have u0 : 0 ≤ L % 4294967296 := by omega
    have u1 : L % 4294967296 < 4294967296 := by omega
    have v0 : 0 ≤ L / 4294967296 := by omega
    have v1 : L / 4294967296 < 4294967296 := by omega
    obtain ⟨U, hU⟩ : ∃ U, L / 4294967296 = U := ⟨_, rfl⟩
    obtain ⟨Z, hZ⟩ : ∃ Z, L % 4294967296 = Z := ⟨_, rfl⟩
    rw [hU, hZ] at hL'
    rw [hU] at v0 v1
    rw [hZ] at u0 u1 hand
    replace hL := hL.symm
    have HT : Hid (8 * (hi * 18446744073709551616 + lo) = N * 18446744073709551616 + U * 4294967296 + Z) := by
      show _ = _
      omega
    clear hL' hN hz
    go_enter Try.func92, Try.ntmps92
    go_upto_block 0 with (go_at_call 102; refine (lead_any _ (.inr rfl) _).mono ?_; rintro e w' ⟨rfl, rfl⟩)
    clear hL hU hZ hand hand2 hor hz1 hlt
    go_cut [15, 16] (fun q r wc => ∃ q1 rh : Int, q = .int .u64 q1 ∧ r = .int .u64 rh ∧ 0 ≤ q1 ∧ q1 ≤ 4294967296 ∧ q1 * 18446744073709551608 ≤ N * 4294967296 + U ∧ N * 4294967296 + U < (q1 + 1) * 18446744073709551608 ∧ w = wc)
    case first =>
      go_wp2_with fail
      go_loop [15, 16] (fun q r => ∃ q1 rh : Int, q = .int .u64 q1 ∧ r = .int .u64 rh ∧ 0 ≤ q1 ∧ q1 ≤ 4294967298 ∧ 0 ≤ rh ∧ rh < 4294967296 ∧ Hid (q1 * 4294967295 + rh = N) ∧ N * 4294967296 + U < (q1 + 1) * 18446744073709551608) (fun q _ => (intOf q).toNat)
      case atStart => exact ⟨_, _, rfl, rfl, by omega, by omega, by omega, by omega, by show _ = _; omega, by omega⟩
      case round =>
        obtain ⟨q1, rh, rfl, rfl, q0, q1', r0, r1, HE, hq⟩ := hrel
        have HE1 : q1 * 4294967295 + rh = N := HE.out
        by_cases hc1 : 4294967296 ≤ q1
        · have hq2 : N * 4294967296 + U < q1 * 18446744073709551608 := by omega
          clear HE1
          go_wp2_with fail
          · go_meet
            have HE1 : q1 * 4294967295 + rh = N := HE.out
            exact ⟨_, _, rfl, rfl, by omega, by omega, by omega, by omega, rfl⟩
          · go_round
            case rel => exact ⟨_, _, rfl, rfl, by omega, by omega, by omega, by omega, by have HE1 : q1 * 4294967295 + rh = N := HE.out; show _ = _; omega, by omega⟩
            case measure => simp [intOf]; omega
        · by_cases hc2 : 4294967296 * rh + U < q1 * 4294967288
          · have hq2 : N * 4294967296 + U < q1 * 18446744073709551608 := by omega
            have hq3 : 1 ≤ q1 := by omega
            clear HE1
            go_wp2_with fail
            · go_meet
              have HE1 : q1 * 4294967295 + rh = N := HE.out
              exact ⟨_, _, rfl, rfl, by omega, by omega, by omega, by omega, rfl⟩
            · go_round
              case rel => exact ⟨_, _, rfl, rfl, by omega, by omega, by omega, by omega, by have HE1 : q1 * 4294967295 + rh = N := HE.out; show _ = _; omega, by omega⟩
              case measure => simp [intOf]; omega
          · have hq2 : q1 * 18446744073709551608 ≤ N * 4294967296 + U := by omega
            clear HE1
            go_wp2_with fail
            go_meet
            exact ⟨_, _, rfl, rfl, by omega, by omega, by omega, by omega, rfl⟩
    case rest =>
      obtain ⟨q1, rh, rfl, rfl, q0, q1', hq, hq', rfl⟩ := hcut
      obtain ⟨M, hM⟩ : ∃ M, M = N * 4294967296 + U - q1 * 18446744073709551608 := ⟨_, rfl⟩
      have m0 : 0 ≤ M := by omega
      have m1 : M < 18446744073709551608 := by omega
      have hM1 : IntKind.u64.wrap (IntKind.u64.wrap (IntKind.u64.wrap (N * 4294967296) + U) - IntKind.u64.wrap (q1 * 18446744073709551608)) = M := by simp only [IntKind.wrap_u64]; omega
      have HT2 : Hid (8 * (hi * 18446744073709551616 + lo) = (q1 * 18446744073709551608 + M) * 4294967296 + Z) := by
        have := HT.out
        show _ = _
        omega
      clear HT hM hq hq'
      go_upto_block 2 with fail
      clear hM1
      go_cut [18, 16] (fun q r wc => ∃ q2 rh : Int, q = .int .u64 q2 ∧ r = .int .u64 rh ∧ 0 ≤ q2 ∧ q2 ≤ 4294967296 ∧ q2 * 18446744073709551608 ≤ M * 4294967296 + Z ∧ M * 4294967296 + Z < (q2 + 1) * 18446744073709551608 ∧ w = wc)
      case first =>
        go_wp2_with fail
        go_loop [18, 16] (fun q r => ∃ q1 rh : Int, q = .int .u64 q1 ∧ r = .int .u64 rh ∧ 0 ≤ q1 ∧ q1 ≤ 4294967298 ∧ 0 ≤ rh ∧ rh < 4294967296 ∧ Hid (q1 * 4294967295 + rh = M) ∧ M * 4294967296 + Z < (q1 + 1) * 18446744073709551608) (fun q _ => (intOf q).toNat)
        case atStart => exact ⟨_, _, rfl, rfl, by omega, by omega, by omega, by omega, by show _ = _; omega, by omega⟩
        case round =>
          obtain ⟨q2, rh, rfl, rfl, q02, q12', r0, r1, HE, hq⟩ := hrel
          have HE1 : q2 * 4294967295 + rh = M := HE.out
          by_cases hc1 : 4294967296 ≤ q2
          · have hq2 : M * 4294967296 + Z < q2 * 18446744073709551608 := by omega
            clear HE1
            go_wp2_with fail
            · go_meet
              have HE1 : q2 * 4294967295 + rh = M := HE.out
              exact ⟨_, _, rfl, rfl, by omega, by omega, by omega, by omega, rfl⟩
            · go_round
              case rel => exact ⟨_, _, rfl, rfl, by omega, by omega, by omega, by omega, by have HE1 : q2 * 4294967295 + rh = M := HE.out; show _ = _; omega, by omega⟩
              case measure => simp [intOf]; omega
          · by_cases hc2 : 4294967296 * rh + Z < q2 * 4294967288
            · have hq2 : M * 4294967296 + Z < q2 * 18446744073709551608 := by omega
              have hq3 : 1 ≤ q2 := by omega
              clear HE1
              go_wp2_with fail
              · go_meet
                have HE1 : q2 * 4294967295 + rh = M := HE.out
                exact ⟨_, _, rfl, rfl, by omega, by omega, by omega, by omega, rfl⟩
              · go_round
                case rel => exact ⟨_, _, rfl, rfl, by omega, by omega, by omega, by omega, by have HE1 : q2 * 4294967295 + rh = M := HE.out; show _ = _; omega, by omega⟩
                case measure => simp [intOf]; omega
            · have hq2 : q2 * 18446744073709551608 ≤ M * 4294967296 + Z := by omega
              clear HE1
              go_wp2_with fail
              go_meet
              exact ⟨_, _, rfl, rfl, by omega, by omega, by omega, by omega, rfl⟩
      case rest =>
        obtain ⟨q2, rh, rfl, rfl, q02, q12', hq, hq', rfl⟩ := hcut
        go_wp2_with fail
        go_ret2
        refine ⟨_, ret_two rfl ?_, Dr.refl _⟩
        have h2 : IntKind.u64.wrap (IntKind.u64.wrap (IntKind.u64.wrap (M * 4294967296) + Z) - IntKind.u64.wrap (q2 * 18446744073709551608)) = M * 4294967296 + Z - q2 * 18446744073709551608 := by simp only [IntKind.wrap_u64]; omega
        have h3 := HT2.out
        omega

end Go.Proofs.Yteapoemockimfaa
