import Derived.Test.YtdjcclcejmeheaaGreatProg
import Derived.WalkKit
import Derived.WalkSpells
import Derived.WalkLawsBesides
import Derived.Handy
import Derived.Deep.Draws
import Derived.Deep.QuietTactic
import Derived.BigQuiet
import Derived.KernelRfl
import Derived.StillTailTactics
import Derived.Deep.RegionHeld3
import Derived.Deep.LoopGhost
import Derived.Deep.DeepCutAuto
import Derived.Deep.CutBlock
import Derived.Lib.Hide
/-
  Small words that the walks of this seat share: a world behind some draws. What the functions of the package field and those of the reference's numbers come to. The product of two words of 64 bits as Mul64 tells it; the leading zeros of both moduli. Div64 at both moduli: the remainder that it tells. Plain laws of numbers modulo a number. Rem64, Mul, Pow and Inv of the package field. The reference: Add, Mul, Pow and Inv. Every number but 0 to the power of the order is 1 modulo the prime. The plain laws of the numbers modulo the prime and the order.
-/
section
namespace Go.Proofs.YtdjcclcejmeheaaGreat
set_option linter.unusedVariables false
set_option linter.unusedSimpArgs false
open Go.RowKit
/-- The world has moved on by draws alone. -/
def Dr (w w' : World) : Prop := ∃ n, w' = w.drewN n
theorem Dr.refl (w : World) : Dr w w := ⟨0, rfl⟩
theorem Dr.drewN {w w' : World} (h : Dr w w') (n : Nat) : Dr w (w'.drewN n) := by
  obtain ⟨m, rfl⟩ := h; exact ⟨m + n, World.drewN_drewN ..⟩
theorem Dr.drew {w w' : World} (h : Dr w w') : Dr w w'.drew := by
  obtain ⟨m, rfl⟩ := h; exact ⟨m + 1, rfl⟩
theorem Dr.trans {a b c : World} (h : Dr a b) (k : Dr b c) : Dr a c := by
  obtain ⟨m, rfl⟩ := k; exact h.drewN m
theorem Dr.below {w w' : World} (h : Dr w w') (B : Nat) : Below B w w' := by
  obtain ⟨m, rfl⟩ := h; exact ⟨rfl, rfl, rfl, Nat.le_refl _, fun _ _ => rfl⟩
theorem bl_bl {a b c : World} (h : Below a.heap.size a b) (k : Below b.heap.size b c) : Below a.heap.size a c := h.trans (k.mono h.size)
theorem bl_dr {a b c : World} (h : Below a.heap.size a b) (k : Dr b c) : Below a.heap.size a c := h.trans (k.below _)
theorem bl_drewN {a b : World} (h : Below a.heap.size a b) (n : Nat) : Below a.heap.size a (b.drewN n) := bl_dr h (Dr.drewN (Dr.refl _) n)
theorem bl_alloc {a b : World} (h : Below a.heap.size a b) (o : Obj) : Below a.heap.size a (b.alloc o) := h.alloc h.size o
/-- The world behind a letter, with what is known of it. -/
theorem wp_world {P : Program} {c : Code} {Q : Exit → Act → World → Prop} {a : Act} {w : World} (S : World → Prop) (hS : S w) (h : ∀ W, S W → Code.wp P c Q a W) : Code.wp P c Q a w := h w hS
@[go_sem] theorem setCell_drewN (w : World) (n : Nat) (a : Addr) (v : Value) : (w.drewN n).setCell a v = (w.setCell a v).drewN n := rfl
theorem cell_far (w : World) (b o b' o' : Nat) (v : Value) (h : b ≠ b') : (w.setCell ⟨b, o, none⟩ v).cell? ⟨b', o', none⟩ = w.cell? ⟨b', o', none⟩ := World.cell?_setCell_far _ _ _ _ h
theorem cell_far2 (w : World) (b o o' : Nat) (v : Value) (h : o ≠ o') : (w.setCell ⟨b, o, none⟩ v).cell? ⟨b, o', none⟩ = w.cell? ⟨b, o', none⟩ := World.cell?_setCell_other _ _ _ _ (fun e => h (congrArg Addr.off e))
theorem below_setRow {a b : World} (h : Below a.heap.size a b) {g : Nat} {cs : Array Value} (hg : a.heap.size ≤ g) : Below a.heap.size a (b.setRow g cs) :=
  h.trans ⟨rfl, rfl, rfl, by simp [World.setRow], fun k hk => setRow_other _ _ _ _ (by omega)⟩
theorem heap_far (w : World) (b o k : Nat) (v : Value) (h : b ≠ k) : (w.setCell ⟨b, o, none⟩ v).heap[k]? = w.heap[k]? := heap_setCell_other _ _ _ _ (Ne.symm h)
end Go.Proofs.YtdjcclcejmeheaaGreat
end
section
namespace Go.Proofs.YtdjcclcejmeheaaGreat
set_option linter.unusedVariables false
set_option linter.unusedSimpArgs false
open Go.RowKit
def modN (m : Int) : Int := if m = 2305843009213693950 then 2305843009213693950 else 2305843009213693951
theorem modN_cases (m : Int) : modN m = 2305843009213693950 ∨ modN m = 2305843009213693951 := by unfold modN; split <;> simp
theorem modN_pos (m : Int) : 0 < modN m := by rcases modN_cases m with h | h <;> omega
theorem modN_le (m : Int) : modN m ≤ 2305843009213693951 := by rcases modN_cases m with h | h <;> omega
set_option maxHeartbeats 400000 in
theorem modulus_any (m : Int) (w : World) :
    Calls Tryz.prog 143 #[.int .u64 m] w fun e w' => e = .returned (.int .u64 (modN m)) ∧ w = w' := by
  by_cases h : m = 2305843009213693950
  · subst h
    go_enter Tryz.func143, Tryz.ntmps143
    go_wp2
    go_ret
    exact ⟨by simp [modN], rfl⟩
  · have h1 : (m == 2305843009213693950) = false := by simpa using h
    have e1 : modN m = 2305843009213693951 := by unfold modN; rw [if_neg h]
    rw [e1]
    go_enter Tryz.func143, Tryz.ntmps143
    go_wp2
    go_ret
    exact ⟨rfl, rfl⟩
def fadd (a b m : Int) : Int := (a % modN m + b % modN m) % modN m
def fmul (a b m : Int) : Int := (a % modN m) * (b % modN m) % modN m
end Go.Proofs.YtdjcclcejmeheaaGreat
end
section
namespace Go.Proofs.YtdjcclcejmeheaaGreat
set_option linter.unusedVariables false
set_option linter.unusedSimpArgs false
open Go.RowKit
theorem and_mask32 (x : Int) (h0 : 0 ≤ x) (h1 : x < 18446744073709551616) : bits .and .u64 x 4294967295 = x % 4294967296 := by
  rw [u64_and x 4294967295 h0 h1 (by omega) (by omega)]
  show ((x.toNat &&& 4294967295 : Nat) : Int) = _
  rw [nat_mask32]; omega
theorem prod_le (a b : Int) (ha : 0 ≤ a) (ha' : a ≤ 4294967295) (hb : 0 ≤ b) (hb' : b ≤ 4294967295) : 0 ≤ a * b ∧ a * b ≤ 18446744065119617025 := by
  refine ⟨Int.mul_nonneg ha hb, ?_⟩
  calc a * b ≤ 4294967295 * 4294967295 := Int.mul_le_mul ha' hb' hb (by omega)
    _ = 18446744065119617025 := rfl
theorem mul64_alg (x y : Int) (hx0 : 0 ≤ x) (hx1 : x < 18446744073709551616) (hy0 : 0 ≤ y) (hy1 : y < 18446744073709551616) :
    ((x / 4294967296 * (y / 4294967296)) % 18446744073709551616 +
      ((x / 4294967296 * (y % 4294967296)) % 18446744073709551616 + (x % 4294967296 * (y % 4294967296)) % 18446744073709551616 / 4294967296) % 18446744073709551616 / 4294967296) % 18446744073709551616 +
      ((((x / 4294967296 * (y % 4294967296)) % 18446744073709551616 + (x % 4294967296 * (y % 4294967296)) % 18446744073709551616 / 4294967296) % 18446744073709551616) % 4294967296 +
        (x % 4294967296 * (y / 4294967296)) % 18446744073709551616) % 18446744073709551616 / 4294967296 = x * y / 18446744073709551616 := by
  have e : x * y = (x / 4294967296 * (y / 4294967296)) * 18446744073709551616 + (x / 4294967296 * (y % 4294967296) + x % 4294967296 * (y / 4294967296)) * 4294967296 + x % 4294967296 * (y % 4294967296) := by
    have ex : x = x / 4294967296 * 4294967296 + x % 4294967296 := by omega
    have ey : y = y / 4294967296 * 4294967296 + y % 4294967296 := by omega
    generalize x / 4294967296 = x1 at *
    generalize x % 4294967296 = x0 at *
    generalize y / 4294967296 = y1 at *
    generalize y % 4294967296 = y0 at *
    subst ex ey
    simp only [Int.add_mul, Int.mul_add]
    have a1 : x1 * 4294967296 * (y1 * 4294967296) = x1 * y1 * 18446744073709551616 := by rw [show (18446744073709551616 : Int) = 4294967296 * 4294967296 from rfl]; ac_rfl
    have a2 : x1 * 4294967296 * y0 = x1 * y0 * 4294967296 := by ac_rfl
    have a3 : x0 * (y1 * 4294967296) = x0 * y1 * 4294967296 := by ac_rfl
    rw [a1, a2, a3]; omega
  have p11 := prod_le (x / 4294967296) (y / 4294967296) (by omega) (by omega) (by omega) (by omega)
  have p10 := prod_le (x / 4294967296) (y % 4294967296) (by omega) (by omega) (by omega) (by omega)
  have p01 := prod_le (x % 4294967296) (y / 4294967296) (by omega) (by omega) (by omega) (by omega)
  have p00 := prod_le (x % 4294967296) (y % 4294967296) (by omega) (by omega) (by omega) (by omega)
  rw [e]; clear e
  generalize x / 4294967296 * (y / 4294967296) = q11 at *
  generalize x / 4294967296 * (y % 4294967296) = q10 at *
  generalize x % 4294967296 * (y / 4294967296) = q01 at *
  generalize x % 4294967296 * (y % 4294967296) = q00 at *
  clear hx0 hx1 hy0 hy1
  omega
theorem ret_two {k : IntKind} {a b a' b' : Int} (h1 : a = a') (h2 : b = b') : Ending.returned (.tuple #[.int k a, .int k b]) = .returned (.tuple #[.int k a', .int k b']) := by rw [h1, h2]
set_option maxHeartbeats 800000 in
theorem mul64_any (x y : Int) (w : World) (hx0 : 0 ≤ x) (hx1 : x < 18446744073709551616) (hy0 : 0 ≤ y) (hy1 : y < 18446744073709551616) :
    Calls Tryz.prog 144 #[.int .u64 x, .int .u64 y] w fun e w' => e = .returned (.tuple #[.int .u64 (x * y / 18446744073709551616), .int .u64 (x * y % 18446744073709551616)]) ∧ w = w' := by
  have h1 := and_mask32 x hx0 hx1
  have h2 := and_mask32 y hy0 hy1
  go_enter Tryz.func144, Tryz.ntmps144
  go_wp2
  go_ret2
  refine ⟨ret_two ?_ ?_, rfl⟩
  · rw [and_mask32 (IntKind.u64.wrap _) (by rw [IntKind.wrap_u64]; omega) (by rw [IntKind.wrap_u64]; omega)]
    simp only [IntKind.wrap_u64, h1, h2]
    have hq : x * y / 18446744073709551616 < 18446744073709551616 := by
      have : x * y ≤ 18446744073709551615 * 18446744073709551615 := Int.mul_le_mul (by omega) (by omega) hy0 (by omega)
      omega
    have hq0 : 0 ≤ x * y := Int.mul_nonneg hx0 hy0
    rw [mul64_alg x y hx0 hx1 hy0 hy1]
    omega
  · exact IntKind.wrap_u64 _
set_option maxRecDepth 100000 in
set_option maxHeartbeats 800000 in
theorem len64_p (w : World) :
    Calls Tryz.prog 161 #[.int .u64 2305843009213693951] w fun e w' => e = .returned (.int .i64 61) ∧ w = w' := by
  go_enter Tryz.func161, Tryz.ntmps161
  go_wp2
  go_ret
  exact ⟨by kernel_rfl, rfl⟩
set_option maxRecDepth 100000 in
set_option maxHeartbeats 800000 in
theorem len64_o (w : World) :
    Calls Tryz.prog 161 #[.int .u64 2305843009213693950] w fun e w' => e = .returned (.int .i64 61) ∧ w = w' := by
  go_enter Tryz.func161, Tryz.ntmps161
  go_wp2
  go_ret
  exact ⟨by kernel_rfl, rfl⟩
theorem lead_any (y : Int) (hy : y = 2305843009213693950 ∨ y = 2305843009213693951) (w : World) :
    Calls Tryz.prog 162 #[.int .u64 y] w fun e w' => e = .returned (.int .i64 3) ∧ w = w' := by
  rcases hy with rfl | rfl
  · go_enter Tryz.func162, Tryz.ntmps162
    go_wp2_with (go_at_call 161; refine (len64_o _).mono ?_; rintro e w' ⟨rfl, rfl⟩)
    go_ret
    exact ⟨rfl, rfl⟩
  · go_enter Tryz.func162, Tryz.ntmps162
    go_wp2_with (go_at_call 161; refine (len64_p _).mono ?_; rintro e w' ⟨rfl, rfl⟩)
    go_ret
    exact ⟨rfl, rfl⟩
end Go.Proofs.YtdjcclcejmeheaaGreat
end
section
namespace Go.Proofs.YtdjcclcejmeheaaGreat
set_option linter.unusedVariables false
set_option linter.unusedSimpArgs false
open Go.RowKit
/-- What Div64 comes to, as far as it is asked for: the remainder. -/
def RemIs (hi lo y : Int) (w : World) (e : Ending) (w' : World) : Prop :=
  ∃ q : Int, e = .returned (.tuple #[.int .u64 q, .int .u64 ((hi * 18446744073709551616 + lo) % y)]) ∧ Dr w w'
theorem or_un32 (hi lo : Int) (h0 : 0 ≤ hi) (h1 : hi < 2305843009213693951) (l0 : 0 ≤ lo) (l1 : lo < 18446744073709551616) :
    bits .or .u64 (hi * 8) (lo / 2305843009213693952) = hi * 8 + lo / 2305843009213693952 := by
  rw [u64_or _ _ (by omega) (by omega) (by omega) (by omega)]
  rw [nat_join 3 _ _ (by omega) (by omega)]
  omega
set_option maxRecDepth 100000 in
set_option maxHeartbeats 4000000 in
theorem div64_o (hi lo : Int) (w : World) (h0 : 0 ≤ hi) (h1 : hi < 2305843009213693950) (l0 : 0 ≤ lo) (l1 : lo < 18446744073709551616) :
    Calls Tryz.prog 156 #[.int .u64 hi, .int .u64 lo, .int .u64 2305843009213693950] w (RemIs hi lo 2305843009213693950 w) := by
  have hlt : decide (2305843009213693950 ≤ hi) = false := by simp; omega
  by_cases hz : hi = 0
  · subst hz
    go_enter Tryz.func156, Tryz.ntmps156
    go_wp2
    go_quiet (fail)
    go_wp2
    go_ret2
    exact ⟨_, ret_two rfl (by omega), Dr.drewN (Dr.refl _) _⟩
  · have hz1 : (hi == 0) = false := by simpa using hz
    obtain ⟨N, hN⟩ : ∃ N, N = hi * 8 + lo / 2305843009213693952 := ⟨_, rfl⟩
    obtain ⟨L, hL⟩ : ∃ L, L = IntKind.u64.wrap (lo * 8) := ⟨_, rfl⟩
    have hL' := hL
    rw [IntKind.wrap_u64] at hL'
    have n0 : 0 ≤ N := by omega
    have n1 : N < 18446744073709551600 := by omega
    have L0 : 0 ≤ L := by omega
    have L1 : L < 18446744073709551616 := by omega
    have hor := or_un32 hi lo h0 (by omega) l0 l1
    rw [← hN] at hor
    have hand := and_mask32 L L0 L1
    have hand2 : bits .and .u64 18446744073709551600 4294967295 = 4294967280 := by rw [and_mask32 _ (by omega) (by omega)]; omega
    rw [← Int.emod_add_mul_ediv L 4294967296] at hL'
    have u0 : 0 ≤ L % 4294967296 := by omega
    have u1 : L % 4294967296 < 4294967296 := by omega
    have v0 : 0 ≤ L / 4294967296 := by omega
    have v1 : L / 4294967296 < 4294967296 := by omega
    obtain ⟨U, hU⟩ : ∃ U, L / 4294967296 = U := ⟨_, rfl⟩
    obtain ⟨Z, hZ⟩ : ∃ Z, L % 4294967296 = Z := ⟨_, rfl⟩
    rw [hU, hZ] at hL'
    rw [hU] at v0 v1
    rw [hZ] at u0 u1 hand
    replace hL := hL.symm
    have HT : Hid (8 * (hi * 18446744073709551616 + lo) = N * 18446744073709551616 + U * 4294967296 + Z) := by
      show _ = _
      omega
    clear hL' hN hz
    go_enter Tryz.func156, Tryz.ntmps156
    go_upto_block 0 with (go_at_call 162; refine (lead_any _ (.inl rfl) _).mono ?_; rintro e w' ⟨rfl, rfl⟩)
    clear hL hU hZ hand hand2 hor hz1 hlt
    go_cut [15, 16] (fun q r wc => ∃ q1 rh : Int, q = .int .u64 q1 ∧ r = .int .u64 rh ∧ 0 ≤ q1 ∧ q1 ≤ 4294967296 ∧ q1 * 18446744073709551600 ≤ N * 4294967296 + U ∧ N * 4294967296 + U < (q1 + 1) * 18446744073709551600 ∧ w = wc)
    case first =>
      go_wp2_with fail
      go_loop [15, 16] (fun q r => ∃ q1 rh : Int, q = .int .u64 q1 ∧ r = .int .u64 rh ∧ 0 ≤ q1 ∧ q1 ≤ 4294967298 ∧ 0 ≤ rh ∧ rh < 4294967296 ∧ Hid (q1 * 4294967295 + rh = N) ∧ N * 4294967296 + U < (q1 + 1) * 18446744073709551600) (fun q _ => (intOf q).toNat)
      case atStart => exact ⟨_, _, rfl, rfl, by omega, by omega, by omega, by omega, by show _ = _; omega, by omega⟩
      case round =>
        obtain ⟨q1, rh, rfl, rfl, q0, q1', r0, r1, HE, hq⟩ := hrel
        have HE1 : q1 * 4294967295 + rh = N := HE.out
        by_cases hc1 : 4294967296 ≤ q1
        · have hq2 : N * 4294967296 + U < q1 * 18446744073709551600 := by omega
          clear HE1
          go_wp2_with fail
          · go_meet
            have HE1 : q1 * 4294967295 + rh = N := HE.out
            exact ⟨_, _, rfl, rfl, by omega, by omega, by omega, by omega, rfl⟩
          · go_round
            case rel => exact ⟨_, _, rfl, rfl, by omega, by omega, by omega, by omega, by have HE1 : q1 * 4294967295 + rh = N := HE.out; show _ = _; omega, by omega⟩
            case measure => simp [intOf]; omega
        · by_cases hc2 : 4294967296 * rh + U < q1 * 4294967280
          · have hq2 : N * 4294967296 + U < q1 * 18446744073709551600 := by omega
            have hq3 : 1 ≤ q1 := by omega
            clear HE1
            go_wp2_with fail
            · go_meet
              have HE1 : q1 * 4294967295 + rh = N := HE.out
              exact ⟨_, _, rfl, rfl, by omega, by omega, by omega, by omega, rfl⟩
            · go_round
              case rel => exact ⟨_, _, rfl, rfl, by omega, by omega, by omega, by omega, by have HE1 : q1 * 4294967295 + rh = N := HE.out; show _ = _; omega, by omega⟩
              case measure => simp [intOf]; omega
          · have hq2 : q1 * 18446744073709551600 ≤ N * 4294967296 + U := by omega
            clear HE1
            go_wp2_with fail
            go_meet
            exact ⟨_, _, rfl, rfl, by omega, by omega, by omega, by omega, rfl⟩
    case rest =>
      obtain ⟨q1, rh, rfl, rfl, q0, q1', hq, hq', rfl⟩ := hcut
      obtain ⟨M, hM⟩ : ∃ M, M = N * 4294967296 + U - q1 * 18446744073709551600 := ⟨_, rfl⟩
      have m0 : 0 ≤ M := by omega
      have m1 : M < 18446744073709551600 := by omega
      have hM1 : IntKind.u64.wrap (IntKind.u64.wrap (IntKind.u64.wrap (N * 4294967296) + U) - IntKind.u64.wrap (q1 * 18446744073709551600)) = M := by simp only [IntKind.wrap_u64]; omega
      have HT2 : Hid (8 * (hi * 18446744073709551616 + lo) = (q1 * 18446744073709551600 + M) * 4294967296 + Z) := by
        have := HT.out
        show _ = _
        omega
      clear HT hM hq hq'
      go_upto_block 2 with fail
      clear hM1
      go_cut [18, 16] (fun q r wc => ∃ q2 rh : Int, q = .int .u64 q2 ∧ r = .int .u64 rh ∧ 0 ≤ q2 ∧ q2 ≤ 4294967296 ∧ q2 * 18446744073709551600 ≤ M * 4294967296 + Z ∧ M * 4294967296 + Z < (q2 + 1) * 18446744073709551600 ∧ w = wc)
      case first =>
        go_wp2_with fail
        go_loop [18, 16] (fun q r => ∃ q1 rh : Int, q = .int .u64 q1 ∧ r = .int .u64 rh ∧ 0 ≤ q1 ∧ q1 ≤ 4294967298 ∧ 0 ≤ rh ∧ rh < 4294967296 ∧ Hid (q1 * 4294967295 + rh = M) ∧ M * 4294967296 + Z < (q1 + 1) * 18446744073709551600) (fun q _ => (intOf q).toNat)
        case atStart => exact ⟨_, _, rfl, rfl, by omega, by omega, by omega, by omega, by show _ = _; omega, by omega⟩
        case round =>
          obtain ⟨q2, rh, rfl, rfl, q02, q12', r0, r1, HE, hq⟩ := hrel
          have HE1 : q2 * 4294967295 + rh = M := HE.out
          by_cases hc1 : 4294967296 ≤ q2
          · have hq2 : M * 4294967296 + Z < q2 * 18446744073709551600 := by omega
            clear HE1
            go_wp2_with fail
            · go_meet
              have HE1 : q2 * 4294967295 + rh = M := HE.out
              exact ⟨_, _, rfl, rfl, by omega, by omega, by omega, by omega, rfl⟩
            · go_round
              case rel => exact ⟨_, _, rfl, rfl, by omega, by omega, by omega, by omega, by have HE1 : q2 * 4294967295 + rh = M := HE.out; show _ = _; omega, by omega⟩
              case measure => simp [intOf]; omega
          · by_cases hc2 : 4294967296 * rh + Z < q2 * 4294967280
            · have hq2 : M * 4294967296 + Z < q2 * 18446744073709551600 := by omega
              have hq3 : 1 ≤ q2 := by omega
              clear HE1
              go_wp2_with fail
              · go_meet
                have HE1 : q2 * 4294967295 + rh = M := HE.out
                exact ⟨_, _, rfl, rfl, by omega, by omega, by omega, by omega, rfl⟩
              · go_round
                case rel => exact ⟨_, _, rfl, rfl, by omega, by omega, by omega, by omega, by have HE1 : q2 * 4294967295 + rh = M := HE.out; show _ = _; omega, by omega⟩
                case measure => simp [intOf]; omega
            · have hq2 : q2 * 18446744073709551600 ≤ M * 4294967296 + Z := by omega
              clear HE1
              go_wp2_with fail
              go_meet
              exact ⟨_, _, rfl, rfl, by omega, by omega, by omega, by omega, rfl⟩
      case rest =>
        obtain ⟨q2, rh, rfl, rfl, q02, q12', hq, hq', rfl⟩ := hcut
        go_wp2_with fail
        go_ret2
        refine ⟨_, ret_two rfl ?_, Dr.refl _⟩
        have h2 : IntKind.u64.wrap (IntKind.u64.wrap (IntKind.u64.wrap (M * 4294967296) + Z) - IntKind.u64.wrap (q2 * 18446744073709551600)) = M * 4294967296 + Z - q2 * 18446744073709551600 := by simp only [IntKind.wrap_u64]; omega
        have h3 := HT2.out
        omega
set_option maxRecDepth 100000 in
set_option maxHeartbeats 4000000 in
theorem div64_p (hi lo : Int) (w : World) (h0 : 0 ≤ hi) (h1 : hi < 2305843009213693951) (l0 : 0 ≤ lo) (l1 : lo < 18446744073709551616) :
    Calls Tryz.prog 156 #[.int .u64 hi, .int .u64 lo, .int .u64 2305843009213693951] w (RemIs hi lo 2305843009213693951 w) := by
  have hlt : decide (2305843009213693951 ≤ hi) = false := by simp; omega
  by_cases hz : hi = 0
  · subst hz
    go_enter Tryz.func156, Tryz.ntmps156
    go_wp2
    go_quiet (fail)
    go_wp2
    go_ret2
    exact ⟨_, ret_two rfl (by omega), Dr.drewN (Dr.refl _) _⟩
  · have hz1 : (hi == 0) = false := by simpa using hz
    obtain ⟨N, hN⟩ : ∃ N, N = hi * 8 + lo / 2305843009213693952 := ⟨_, rfl⟩
    obtain ⟨L, hL⟩ : ∃ L, L = IntKind.u64.wrap (lo * 8) := ⟨_, rfl⟩
    have hL' := hL
    rw [IntKind.wrap_u64] at hL'
    have n0 : 0 ≤ N := by omega
    have n1 : N < 18446744073709551608 := by omega
    have L0 : 0 ≤ L := by omega
    have L1 : L < 18446744073709551616 := by omega
    have hor := or_un32 hi lo h0 (by omega) l0 l1
    rw [← hN] at hor
    have hand := and_mask32 L L0 L1
    have hand2 : bits .and .u64 18446744073709551608 4294967295 = 4294967288 := by rw [and_mask32 _ (by omega) (by omega)]; omega
    rw [← Int.emod_add_mul_ediv L 4294967296] at hL'
    have u0 : 0 ≤ L % 4294967296 := by omega
    have u1 : L % 4294967296 < 4294967296 := by omega
    have v0 : 0 ≤ L / 4294967296 := by omega
    have v1 : L / 4294967296 < 4294967296 := by omega
    obtain ⟨U, hU⟩ : ∃ U, L / 4294967296 = U := ⟨_, rfl⟩
    obtain ⟨Z, hZ⟩ : ∃ Z, L % 4294967296 = Z := ⟨_, rfl⟩
    rw [hU, hZ] at hL'
    rw [hU] at v0 v1
    rw [hZ] at u0 u1 hand
    replace hL := hL.symm
    have HT : Hid (8 * (hi * 18446744073709551616 + lo) = N * 18446744073709551616 + U * 4294967296 + Z) := by
      show _ = _
      omega
    clear hL' hN hz
    go_enter Tryz.func156, Tryz.ntmps156
    go_upto_block 0 with (go_at_call 162; refine (lead_any _ (.inr rfl) _).mono ?_; rintro e w' ⟨rfl, rfl⟩)
    clear hL hU hZ hand hand2 hor hz1 hlt
    go_cut [15, 16] (fun q r wc => ∃ q1 rh : Int, q = .int .u64 q1 ∧ r = .int .u64 rh ∧ 0 ≤ q1 ∧ q1 ≤ 4294967296 ∧ q1 * 18446744073709551608 ≤ N * 4294967296 + U ∧ N * 4294967296 + U < (q1 + 1) * 18446744073709551608 ∧ w = wc)
    case first =>
      go_wp2_with fail
      go_loop [15, 16] (fun q r => ∃ q1 rh : Int, q = .int .u64 q1 ∧ r = .int .u64 rh ∧ 0 ≤ q1 ∧ q1 ≤ 4294967298 ∧ 0 ≤ rh ∧ rh < 4294967296 ∧ Hid (q1 * 4294967295 + rh = N) ∧ N * 4294967296 + U < (q1 + 1) * 18446744073709551608) (fun q _ => (intOf q).toNat)
      case atStart => exact ⟨_, _, rfl, rfl, by omega, by omega, by omega, by omega, by show _ = _; omega, by omega⟩
      case round =>
        obtain ⟨q1, rh, rfl, rfl, q0, q1', r0, r1, HE, hq⟩ := hrel
        have HE1 : q1 * 4294967295 + rh = N := HE.out
        by_cases hc1 : 4294967296 ≤ q1
        · have hq2 : N * 4294967296 + U < q1 * 18446744073709551608 := by omega
          clear HE1
          go_wp2_with fail
          · go_meet
            have HE1 : q1 * 4294967295 + rh = N := HE.out
            exact ⟨_, _, rfl, rfl, by omega, by omega, by omega, by omega, rfl⟩
          · go_round
            case rel => exact ⟨_, _, rfl, rfl, by omega, by omega, by omega, by omega, by have HE1 : q1 * 4294967295 + rh = N := HE.out; show _ = _; omega, by omega⟩
            case measure => simp [intOf]; omega
        · by_cases hc2 : 4294967296 * rh + U < q1 * 4294967288
          · have hq2 : N * 4294967296 + U < q1 * 18446744073709551608 := by omega
            have hq3 : 1 ≤ q1 := by omega
            clear HE1
            go_wp2_with fail
            · go_meet
              have HE1 : q1 * 4294967295 + rh = N := HE.out
              exact ⟨_, _, rfl, rfl, by omega, by omega, by omega, by omega, rfl⟩
            · go_round
              case rel => exact ⟨_, _, rfl, rfl, by omega, by omega, by omega, by omega, by have HE1 : q1 * 4294967295 + rh = N := HE.out; show _ = _; omega, by omega⟩
              case measure => simp [intOf]; omega
          · have hq2 : q1 * 18446744073709551608 ≤ N * 4294967296 + U := by omega
            clear HE1
            go_wp2_with fail
            go_meet
            exact ⟨_, _, rfl, rfl, by omega, by omega, by omega, by omega, rfl⟩
    case rest =>
      obtain ⟨q1, rh, rfl, rfl, q0, q1', hq, hq', rfl⟩ := hcut
      obtain ⟨M, hM⟩ : ∃ M, M = N * 4294967296 + U - q1 * 18446744073709551608 := ⟨_, rfl⟩
      have m0 : 0 ≤ M := by omega
      have m1 : M < 18446744073709551608 := by omega
      have hM1 : IntKind.u64.wrap (IntKind.u64.wrap (IntKind.u64.wrap (N * 4294967296) + U) - IntKind.u64.wrap (q1 * 18446744073709551608)) = M := by simp only [IntKind.wrap_u64]; omega
      have HT2 : Hid (8 * (hi * 18446744073709551616 + lo) = (q1 * 18446744073709551608 + M) * 4294967296 + Z) := by
        have := HT.out
        show _ = _
        omega
      clear HT hM hq hq'
      go_upto_block 2 with fail
      clear hM1
      go_cut [18, 16] (fun q r wc => ∃ q2 rh : Int, q = .int .u64 q2 ∧ r = .int .u64 rh ∧ 0 ≤ q2 ∧ q2 ≤ 4294967296 ∧ q2 * 18446744073709551608 ≤ M * 4294967296 + Z ∧ M * 4294967296 + Z < (q2 + 1) * 18446744073709551608 ∧ w = wc)
      case first =>
        go_wp2_with fail
        go_loop [18, 16] (fun q r => ∃ q1 rh : Int, q = .int .u64 q1 ∧ r = .int .u64 rh ∧ 0 ≤ q1 ∧ q1 ≤ 4294967298 ∧ 0 ≤ rh ∧ rh < 4294967296 ∧ Hid (q1 * 4294967295 + rh = M) ∧ M * 4294967296 + Z < (q1 + 1) * 18446744073709551608) (fun q _ => (intOf q).toNat)
        case atStart => exact ⟨_, _, rfl, rfl, by omega, by omega, by omega, by omega, by show _ = _; omega, by omega⟩
        case round =>
          obtain ⟨q2, rh, rfl, rfl, q02, q12', r0, r1, HE, hq⟩ := hrel
          have HE1 : q2 * 4294967295 + rh = M := HE.out
          by_cases hc1 : 4294967296 ≤ q2
          · have hq2 : M * 4294967296 + Z < q2 * 18446744073709551608 := by omega
            clear HE1
            go_wp2_with fail
            · go_meet
              have HE1 : q2 * 4294967295 + rh = M := HE.out
              exact ⟨_, _, rfl, rfl, by omega, by omega, by omega, by omega, rfl⟩
            · go_round
              case rel => exact ⟨_, _, rfl, rfl, by omega, by omega, by omega, by omega, by have HE1 : q2 * 4294967295 + rh = M := HE.out; show _ = _; omega, by omega⟩
              case measure => simp [intOf]; omega
          · by_cases hc2 : 4294967296 * rh + Z < q2 * 4294967288
            · have hq2 : M * 4294967296 + Z < q2 * 18446744073709551608 := by omega
              have hq3 : 1 ≤ q2 := by omega
              clear HE1
              go_wp2_with fail
              · go_meet
                have HE1 : q2 * 4294967295 + rh = M := HE.out
                exact ⟨_, _, rfl, rfl, by omega, by omega, by omega, by omega, rfl⟩
              · go_round
                case rel => exact ⟨_, _, rfl, rfl, by omega, by omega, by omega, by omega, by have HE1 : q2 * 4294967295 + rh = M := HE.out; show _ = _; omega, by omega⟩
                case measure => simp [intOf]; omega
            · have hq2 : q2 * 18446744073709551608 ≤ M * 4294967296 + Z := by omega
              clear HE1
              go_wp2_with fail
              go_meet
              exact ⟨_, _, rfl, rfl, by omega, by omega, by omega, by omega, rfl⟩
      case rest =>
        obtain ⟨q2, rh, rfl, rfl, q02, q12', hq, hq', rfl⟩ := hcut
        go_wp2_with fail
        go_ret2
        refine ⟨_, ret_two rfl ?_, Dr.refl _⟩
        have h2 : IntKind.u64.wrap (IntKind.u64.wrap (IntKind.u64.wrap (M * 4294967296) + Z) - IntKind.u64.wrap (q2 * 18446744073709551608)) = M * 4294967296 + Z - q2 * 18446744073709551608 := by simp only [IntKind.wrap_u64]; omega
        have h3 := HT2.out
        omega
end Go.Proofs.YtdjcclcejmeheaaGreat
end
section
namespace Go.Proofs.YtdjcclcejmeheaaGreat
set_option linter.unusedVariables false
set_option linter.unusedSimpArgs false
theorem cg_mul {x x' y y' M : Int} (h : x % M = x' % M) (k : y % M = y' % M) : (x * y) % M = (x' * y') % M := by
  rw [Int.mul_emod, h, k, ← Int.mul_emod]
theorem cg_add {x x' y y' M : Int} (h : x % M = x' % M) (k : y % M = y' % M) : (x + y) % M = (x' + y') % M := by
  rw [Int.add_emod, h, k, ← Int.add_emod]
theorem cg_pow {x x' M : Int} (h : x % M = x' % M) (n : Nat) : x ^ n % M = x' ^ n % M := by
  induction n with
  | zero => rw [Int.pow_zero, Int.pow_zero]
  | succ n ih => rw [Int.pow_succ, Int.pow_succ]; exact cg_mul ih h
theorem cg_mod (x M : Int) : x % M % M = x % M := Int.emod_emod_of_dvd _ (Int.dvd_refl M)
theorem cg_mm (x y M : Int) : (x % M) * (y % M) % M % M = x * y % M := (cg_mod _ _).trans (cg_mul (cg_mod _ _) (cg_mod _ _))
/-- The power, modulo. -/
def pw (a n M : Int) : Int := a ^ n.toNat % M
theorem sq_pow (a : Int) (k : Nat) : (a * a) ^ k = a ^ (2 * k) := by
  rw [Int.pow_mul]; congr 1; rw [Int.pow_succ, Int.pow_succ, Int.pow_zero, Int.one_mul]
theorem pw_step (out a n M : Int) (hn : 0 < n) (h : n % 2 = 1) :
    ((out % M) * (a % M) % M * ((a % M) * (a % M) % M) ^ (n / 2).toNat) % M = (out * a ^ n.toNat) % M := by
  have e : n.toNat = 2 * (n / 2).toNat + 1 := by omega
  have h1 := cg_mul (cg_mm out a M) (cg_pow (cg_mm a a M) (n / 2).toNat)
  rw [h1, e, sq_pow, Int.pow_succ, Int.mul_assoc, Int.mul_comm a]
theorem pw_step0 (out a n M : Int) (hn : 0 < n) (h : n % 2 = 0) :
    (out * ((a % M) * (a % M) % M) ^ (n / 2).toNat) % M = (out * a ^ n.toNat) % M := by
  have e : n.toNat = 2 * (n / 2).toNat := by omega
  have h1 := cg_mul (rfl : out % M = out % M) (cg_pow (cg_mm a a M) (n / 2).toNat)
  rw [h1, e, sq_pow]
theorem dbl_step (out a b M : Int) (hb : 0 < b) (h : b % 2 = 1) :
    ((out + a) % M + (a + a) % M * (b / 2)) % M = (out + a * b) % M := by
  have e : b = 1 + 2 * (b / 2) := by omega
  have h1 := cg_add (cg_mod (out + a) M) (cg_mul (cg_mod (a + a) M) (rfl : (b / 2) % M = (b / 2) % M))
  rw [h1]
  congr 1
  generalize b / 2 = c at *
  subst e
  rw [Int.mul_add, Int.mul_one, ← Int.two_mul, Int.mul_assoc, Int.mul_left_comm]
  omega
theorem dbl_step0 (out a b M : Int) (hb : 0 < b) (h : b % 2 = 0) :
    (out + (a + a) % M * (b / 2)) % M = (out + a * b) % M := by
  have e : b = 2 * (b / 2) := by omega
  have h1 := cg_add (rfl : out % M = out % M) (cg_mul (cg_mod (a + a) M) (rfl : (b / 2) % M = (b / 2) % M))
  rw [h1]
  congr 1
  generalize b / 2 = c at *
  subst e
  rw [← Int.two_mul, Int.mul_assoc, Int.mul_left_comm]
end Go.Proofs.YtdjcclcejmeheaaGreat
end
section
namespace Go.Proofs.YtdjcclcejmeheaaGreat
set_option linter.unusedVariables false
set_option linter.unusedSimpArgs false
open Go.RowKit
theorem rem_reduced (hi lo y : Int) : ((hi % y) * 18446744073709551616 + lo) % y = (hi * 18446744073709551616 + lo) % y := by
  rw [Int.add_emod, Int.mul_emod, Int.emod_emod_of_dvd _ (Int.dvd_refl y), ← Int.mul_emod, ← Int.add_emod]
set_option maxHeartbeats 800000 in
theorem rem64_any (hi lo y : Int) (w : World) (hy : y = 2305843009213693950 ∨ y = 2305843009213693951) (h0 : 0 ≤ hi) (l0 : 0 ≤ lo) (l1 : lo < 18446744073709551616) :
    Calls Tryz.prog 145 #[.int .u64 hi, .int .u64 lo, .int .u64 y] w fun e w' => e = .returned (.int .u64 ((hi * 18446744073709551616 + lo) % y)) ∧ Dr w w' := by
  rcases hy with rfl | rfl
  · go_enter Tryz.func145, Tryz.ntmps145
    go_wp2_with (go_at_call 156; refine (div64_o _ _ _ (by omega) (by omega) (by omega) (by omega)).mono ?_; rintro e w' ⟨q, rfl, hd⟩)
    go_ret
    exact ⟨by simp [rem_reduced], hd⟩
  · go_enter Tryz.func145, Tryz.ntmps145
    go_wp2_with (go_at_call 156; refine (div64_p _ _ _ (by omega) (by omega) (by omega) (by omega)).mono ?_; rintro e w' ⟨q, rfl, hd⟩)
    go_ret
    exact ⟨by simp [rem_reduced], hd⟩
set_option maxHeartbeats 800000 in
theorem mul_any (a b m : Int) (w : World) (ha : 0 ≤ a) (hb : 0 ≤ b) :
    Calls Tryz.prog 118 #[.int .u64 a, .int .u64 b, .int .u64 m] w fun e w' => e = .returned (.int .u64 (fmul a b m)) ∧ Dr w w' := by
  have hM := modN_cases m
  have hM0 := modN_pos m
  have hM1 := modN_le m
  have H := modulus_any m
  unfold fmul
  generalize modN m = M at *
  have a0 : 0 ≤ a % M := Int.emod_nonneg _ (by omega)
  have a1 : a % M < M := Int.emod_lt_of_pos _ (by omega)
  have b0 : 0 ≤ b % M := Int.emod_nonneg _ (by omega)
  have b1 : b % M < M := Int.emod_lt_of_pos _ (by omega)
  have hp : 0 ≤ a % M * (b % M) := Int.mul_nonneg a0 b0
  have hfin : (a % M * (b % M) / 18446744073709551616 * 18446744073709551616 + a % M * (b % M) % 18446744073709551616) % M = a % M * (b % M) % M := by congr 1; omega
  have c0 : 0 ≤ a % M * (b % M) / 18446744073709551616 := by omega
  have c1 : 0 ≤ a % M * (b % M) % 18446744073709551616 := by omega
  have c2 : a % M * (b % M) % 18446744073709551616 < 18446744073709551616 := by omega
  have Hfin := Lib.hid hfin
  have HM := Lib.hid hM
  clear hfin hM hp
  go_enter Tryz.func118, Tryz.ntmps118
  go_wp2_with (go_at_call 143; refine (H _).mono ?_; rintro e w' ⟨rfl, rfl⟩)
  go_quiet ((go_at_call 144; exact Calls.quiet_of_same ((mul64_any _ _ _ (by omega) (by omega) (by omega) (by omega)).mono fun _ _ ⟨h, k⟩ => ⟨h, k.symm⟩)))
  go_wp2_with (go_at_call 145; refine (rem64_any _ _ _ _ HM.out (by assumption) (by assumption) (by assumption)).mono ?_; rintro e w' ⟨rfl, hd⟩)
  go_ret
  exact ⟨by simp [Hfin.out], (Dr.drewN (Dr.refl _) _).trans hd⟩
theorem fmul_bd (a b m : Int) : 0 ≤ fmul a b m ∧ fmul a b m < modN m := ⟨Int.emod_nonneg _ (by have := modN_pos m; omega), Int.emod_lt_of_pos _ (modN_pos m)⟩
/-- The power that counts. -/
def fpow (a n m : Int) : Int := pw a n (modN m)
theorem and_one (x : Int) (h0 : 0 ≤ x) (h1 : x < 18446744073709551616) : bits .and .u64 x 1 = x % 2 := by
  rw [u64_and x 1 h0 h1 (by omega) (by omega)]
  show ((x.toNat &&& 1 : Nat) : Int) = _
  rw [nat_mask1]; omega
set_option maxHeartbeats 800000 in
theorem pow_any (a n m : Int) (w : World) (ha : 0 ≤ a) (hn : 0 ≤ n) (hn1 : n < 18446744073709551616) :
    Calls Tryz.prog 117 #[.int .u64 a, .int .u64 n, .int .u64 m] w fun e w' => e = .returned (.int .u64 (fpow a n m)) ∧ Dr w w' := by
  have hM0 := modN_pos m
  have hM1 := modN_le m
  have hM2 : 2305843009213693950 ≤ modN m := by rcases modN_cases m with h | h <;> omega
  go_enter Tryz.func117, Tryz.ntmps117
  go_wp2_with fail
  go_loopw [0, 1, 7] (fun v0 v1 v7 wr => ∃ x k o : Int, v0 = .int .u64 x ∧ v1 = .int .u64 k ∧ v7 = .int .u64 o ∧ 0 ≤ x ∧ 0 ≤ k ∧ k < 18446744073709551616 ∧ 0 ≤ o ∧ o < modN m ∧ Hid ((o * x ^ k.toNat) % modN m = a ^ n.toNat % modN m) ∧ Dr w wr) (fun _ v1 _ _ => (intOf v1).toNat)
  case atStart => exact ⟨_, _, _, rfl, rfl, rfl, ha, hn, hn1, by omega, by omega, by show _ = _; rw [Int.one_mul], Dr.refl _⟩
  case round =>
    obtain ⟨x, k, o, rfl, rfl, rfl, hx, hk, hk1, ho, ho1, HE, hd⟩ := hrel
    by_cases hz : 0 < k
    · have hand := and_one k hk hk1
      have f1 := fmul_bd o x m
      have f2 := fmul_bd x x m
      by_cases hodd : k % 2 = 1
      · have hodd1 : (k % 2 == 1) = true := by simpa using hodd
        have HO := Lib.hid hodd
        clear hodd
        go_wp2_with fail
        refine (mul_any o x m _ ho hx).mono ?_
        rintro e w1 ⟨rfl, hd1⟩
        go_wp2_with fail
        refine (mul_any x x m _ hx hx).mono ?_
        rintro e w2 ⟨rfl, hd2⟩
        go_wp2_with fail
        go_roundw
        case rel => exact ⟨_, _, _, rfl, rfl, rfl, by omega, by omega, by omega, by omega, by omega, (pw_step o x k (modN m) hz HO.out).trans HE.out, (hd.trans hd1).trans hd2⟩
        case measure => simp [intOf]; omega
      · have hodd1 : (k % 2 == 1) = false := by simpa using hodd
        have hodd2 : k % 2 = 0 := by omega
        have HO := Lib.hid hodd2
        clear hodd hodd2
        go_wp2_with fail
        refine (mul_any x x m _ hx hx).mono ?_
        rintro e w2 ⟨rfl, hd2⟩
        go_wp2_with fail
        go_roundw
        case rel => exact ⟨_, _, _, rfl, rfl, rfl, by omega, by omega, by omega, by omega, by omega, (pw_step0 o x k (modN m) hz HO.out).trans HE.out, hd.trans hd2⟩
        case measure => simp [intOf]; omega
    · have hz0 : k = 0 := by omega
      subst hz0
      go_wp2_with fail
      go_ret
      refine ⟨?_, hd⟩
      have h := HE.out
      rw [show ((0 : Int).toNat) = 0 from rfl, Int.pow_zero, Int.mul_one, Int.emod_eq_of_lt ho ho1] at h
      rw [h]; rfl
end Go.Proofs.YtdjcclcejmeheaaGreat
end
section
namespace Go.Proofs.YtdjcclcejmeheaaGreat
set_option linter.unusedVariables false
set_option linter.unusedSimpArgs false
open Go.RowKit
set_option maxHeartbeats 400000 in
theorem rmodulus_any (m : Int) (w : World) :
    Calls Tryz.prog 101 #[.int .u64 m] w fun e w' => e = .returned (.int .u64 (modN m)) ∧ w = w' := by
  by_cases h : m = 2305843009213693950
  · subst h
    go_enter Tryz.func101, Tryz.ntmps101
    go_wp2
    go_ret
    exact ⟨by simp [modN], rfl⟩
  · have h1 : (m == 2305843009213693950) = false := by simpa using h
    have e1 : modN m = 2305843009213693951 := by unfold modN; rw [if_neg h]
    rw [e1]
    go_enter Tryz.func101, Tryz.ntmps101
    go_wp2
    go_ret
    exact ⟨rfl, rfl⟩
set_option maxHeartbeats 400000 in
theorem radd_any (a b m : Int) (w : World) (ha : 0 ≤ a) (hb : 0 ≤ b) :
    Calls Tryz.prog 134 #[.int .u64 a, .int .u64 b, .int .u64 m] w fun e w' => e = .returned (.int .u64 (fadd a b m)) ∧ Dr w w' := by
  have hM0 := modN_pos m
  have hM1 := modN_le m
  have H := rmodulus_any m
  unfold fadd
  generalize modN m = M at *
  have a0 : 0 ≤ a % M := Int.emod_nonneg _ (by omega)
  have a1 : a % M < M := Int.emod_lt_of_pos _ (by omega)
  have b0 : 0 ≤ b % M := Int.emod_nonneg _ (by omega)
  have b1 : b % M < M := Int.emod_lt_of_pos _ (by omega)
  go_enter Tryz.func134, Tryz.ntmps134
  go_wp2_with (go_at_call 101; refine (H _).mono ?_; rintro e w' ⟨rfl, rfl⟩)
  go_quiet (fail)
  go_wp2
  go_ret
  exact ⟨rfl, by first | exact Dr.refl _ | exact ⟨_, rfl⟩⟩
set_option maxHeartbeats 800000 in
theorem rmul_any (a b m : Int) (w : World) (ha : 0 ≤ a) (hb : 0 ≤ b) (hb1 : b < 18446744073709551616) :
    Calls Tryz.prog 102 #[.int .u64 a, .int .u64 b, .int .u64 m] w fun e w' => e = .returned (.int .u64 (fmul a b m)) ∧ Dr w w' := by
  have hM0 := modN_pos m
  have hM1 := modN_le m
  have H := rmodulus_any m
  unfold fmul
  generalize modN m = M at *
  have a0 : 0 ≤ a % M := Int.emod_nonneg _ (by omega)
  have a1 : a % M < M := Int.emod_lt_of_pos _ (by omega)
  have b0 : 0 ≤ b % M := Int.emod_nonneg _ (by omega)
  have b1 : b % M < M := Int.emod_lt_of_pos _ (by omega)
  go_enter Tryz.func102, Tryz.ntmps102
  go_wp2_with (go_at_call 101; refine (H _).mono ?_; rintro e w' ⟨rfl, rfl⟩)
  go_quiet (fail)
  go_wp2_with fail
  go_loopw [0, 1, 7] (fun v0 v1 v7 wr => ∃ x k o : Int, v0 = .int .u64 x ∧ v1 = .int .u64 k ∧ v7 = .int .u64 o ∧ 0 ≤ x ∧ x < M ∧ 0 ≤ k ∧ k < 18446744073709551616 ∧ 0 ≤ o ∧ o < M ∧ Hid ((o + x * k) % M = (a % M) * (b % M) % M) ∧ Dr w wr) (fun _ v1 _ _ => (intOf v1).toNat)
  case atStart => exact ⟨_, _, _, rfl, rfl, rfl, a0, a1, b0, by omega, by omega, by omega, by show _ = _; rw [Int.zero_add], Dr.drewN (Dr.refl _) _⟩
  case round =>
    obtain ⟨x, k, o, rfl, rfl, rfl, hx, hx1, hk, hk1, ho, ho1, HE, hd⟩ := hrel
    have s0 : 0 ≤ (o + x) % M := Int.emod_nonneg _ (by omega)
    have s1 : (o + x) % M < M := Int.emod_lt_of_pos _ (by omega)
    have t0 : 0 ≤ (x + x) % M := Int.emod_nonneg _ (by omega)
    have t1 : (x + x) % M < M := Int.emod_lt_of_pos _ (by omega)
    by_cases hz : 0 < k
    · have hand := and_one k hk hk1
      by_cases hodd : k % 2 = 1
      · have hodd1 : (k % 2 == 1) = true := by simpa using hodd
        have HO := Lib.hid hodd
        clear hodd
        go_wp2_with fail
        go_roundw
        case rel => exact ⟨_, _, _, rfl, rfl, rfl, by omega, by omega, by omega, by omega, by omega, by omega, (dbl_step o x k M hz HO.out).trans HE.out, hd⟩
        case measure => simp [intOf]; omega
      · have hodd1 : (k % 2 == 1) = false := by simpa using hodd
        have hodd2 : k % 2 = 0 := by omega
        have HO := Lib.hid hodd2
        clear hodd hodd2
        go_wp2_with fail
        go_roundw
        case rel => exact ⟨_, _, _, rfl, rfl, rfl, by omega, by omega, by omega, by omega, by omega, by omega, (dbl_step0 o x k M hz HO.out).trans HE.out, hd⟩
        case measure => simp [intOf]; omega
    · have hz0 : k = 0 := by omega
      subst hz0
      go_wp2_with fail
      go_ret
      refine ⟨?_, hd⟩
      have h := HE.out
      rw [Int.mul_zero, Int.add_zero, Int.emod_eq_of_lt ho ho1] at h
      rw [h]; rfl
set_option maxHeartbeats 800000 in
theorem rpow_any (a n m : Int) (w : World) (ha : 0 ≤ a) (hn : 0 ≤ n) (hn1 : n < 18446744073709551616) :
    Calls Tryz.prog 46 #[.int .u64 a, .int .u64 n, .int .u64 m] w fun e w' => e = .returned (.int .u64 (fpow a n m)) ∧ Dr w w' := by
  have hM0 := modN_pos m
  have hM1 := modN_le m
  have hM2 : 2305843009213693950 ≤ modN m := by rcases modN_cases m with h | h <;> omega
  have hM3 := modN_cases m
  have H := rmodulus_any m
  have hmm : modN (modN m) = modN m := by rcases modN_cases m with h | h <;> rw [h] <;> rfl
  unfold fpow
  have Hmul : ∀ a b (w : World), 0 ≤ a → 0 ≤ b → b < 18446744073709551616 → Calls Tryz.prog 102 #[.int .u64 a, .int .u64 b, .int .u64 (modN m)] w fun e w' => e = .returned (.int .u64 ((a % modN m) * (b % modN m) % modN m)) ∧ Dr w w' := by
    intro a b w ha hb hb1
    have h := rmul_any a b (modN m) w ha hb hb1
    unfold fmul at h
    rw [hmm] at h
    exact h
  clear hmm
  generalize modN m = M at *
  have a0 : 0 ≤ a % M := Int.emod_nonneg _ (by omega)
  have a1 : a % M < M := Int.emod_lt_of_pos _ (by omega)
  have one : 1 % M = 1 := Int.emod_eq_of_lt (by omega) (by omega)
  have b0 : 0 ≤ 1 % M := by omega
  have b1 : 1 % M < M := by omega
  have HONE := Lib.hid one
  clear one
  have HM := Lib.hid Hmul
  have HM3 := Lib.hid hM3
  clear Hmul hM3
  go_enter Tryz.func46, Tryz.ntmps46
  go_wp2_with (go_at_call 101; refine (H _).mono ?_; rintro e w' ⟨rfl, rfl⟩)
  go_loopw [0, 1, 7] (fun v0 v1 v7 wr => ∃ x k o : Int, v0 = .int .u64 x ∧ v1 = .int .u64 k ∧ v7 = .int .u64 o ∧ 0 ≤ x ∧ x < M ∧ 0 ≤ k ∧ k < 18446744073709551616 ∧ 0 ≤ o ∧ o < M ∧ Hid ((o * x ^ k.toNat) % M = a ^ n.toNat % M) ∧ Dr w wr) (fun _ v1 _ _ => (intOf v1).toNat)
  case atStart => exact ⟨_, _, _, rfl, rfl, rfl, a0, a1, hn, hn1, by omega, by omega, by show _ = _; rw [HONE.out, Int.one_mul]; exact cg_pow (cg_mod _ _) _, Dr.refl _⟩
  case round =>
    obtain ⟨x, k, o, rfl, rfl, rfl, hx, hx1, hk, hk1, ho, ho1, HE, hd⟩ := hrel
    have s0 : 0 ≤ (o % M) * (x % M) % M := Int.emod_nonneg _ (by omega)
    have s1 : (o % M) * (x % M) % M < M := Int.emod_lt_of_pos _ (by omega)
    have t0 : 0 ≤ (x % M) * (x % M) % M := Int.emod_nonneg _ (by omega)
    have t1 : (x % M) * (x % M) % M < M := Int.emod_lt_of_pos _ (by omega)
    by_cases hz : 0 < k
    · have hand := and_one k hk hk1
      by_cases hodd : k % 2 = 1
      · have hodd1 : (k % 2 == 1) = true := by simpa using hodd
        have HO := Lib.hid hodd
        clear hodd
        go_wp2_with fail
        refine (HM.out o x _ ho hx (by omega)).mono ?_
        rintro e w1 ⟨rfl, hd1⟩
        go_wp2_with fail
        refine (HM.out x x _ hx hx (by omega)).mono ?_
        rintro e w2 ⟨rfl, hd2⟩
        go_wp2_with fail
        go_roundw
        case rel => exact ⟨_, _, _, rfl, rfl, rfl, by omega, by omega, by omega, by omega, by omega, by omega, (pw_step o x k M hz HO.out).trans HE.out, (hd.trans hd1).trans hd2⟩
        case measure => simp [intOf]; omega
      · have hodd1 : (k % 2 == 1) = false := by simpa using hodd
        have hodd2 : k % 2 = 0 := by omega
        have HO := Lib.hid hodd2
        clear hodd hodd2
        go_wp2_with fail
        refine (HM.out x x _ hx hx (by omega)).mono ?_
        rintro e w2 ⟨rfl, hd2⟩
        go_wp2_with fail
        go_roundw
        case rel => exact ⟨_, _, _, rfl, rfl, rfl, by omega, by omega, by omega, by omega, by omega, by omega, (pw_step0 o x k M hz HO.out).trans HE.out, hd.trans hd2⟩
        case measure => simp [intOf]; omega
    · have hz0 : k = 0 := by omega
      subst hz0
      go_wp2_with fail
      go_ret
      refine ⟨?_, hd⟩
      have h := HE.out
      rw [show ((0 : Int).toNat) = 0 from rfl, Int.pow_zero, Int.mul_one, Int.emod_eq_of_lt ho ho1] at h
      rw [h]; rfl
end Go.Proofs.YtdjcclcejmeheaaGreat
end
section
namespace Go.Proofs.YtdjcclcejmeheaaGreat.Ferm
set_option linter.unusedVariables false
set_option linter.unusedSimpArgs false
theorem hits (n : Nat) : ∀ f : Nat → Nat, (∀ i, i < n → f i < n) → (∀ i j, i < n → j < n → f i = f j → i = j) → ∀ y, y < n → ∃ i, i < n ∧ f i = y := by
  induction n with
  | zero => intro f _ _ y hy; omega
  | succ n ih =>
    intro f hr hi y hy
    have hg : ∀ i, i < n → (if f i = n then f n else f i) < n := by
      intro i h
      split
      · rename_i e
        have h1 : f n ≠ n := fun e' => by have := hi i n (by omega) (by omega) (e.trans e'.symm); omega
        have := hr n (by omega); omega
      · have := hr i (by omega); omega
    have hgi : ∀ i j, i < n → j < n → (if f i = n then f n else f i) = (if f j = n then f n else f j) → i = j := by
      intro i j h k e
      by_cases a : f i = n <;> by_cases b : f j = n
      · exact hi i j (by omega) (by omega) (a.trans b.symm)
      · rw [if_pos a, if_neg b] at e; have := hi n j (by omega) (by omega) e; omega
      · rw [if_neg a, if_pos b] at e; have := hi i n (by omega) (by omega) e; omega
      · rw [if_neg a, if_neg b] at e; exact hi i j (by omega) (by omega) e
    have ih' := ih (fun i => if f i = n then f n else f i) hg hgi
    by_cases hyn : y = n
    · by_cases hv : f n = n
      · exact ⟨n, by omega, by omega⟩
      · obtain ⟨i, h, e⟩ := ih' (f n) (by have := hr n (by omega); omega)
        by_cases a : f i = n
        · exact ⟨i, by omega, by omega⟩
        · rw [if_neg a] at e; have := hi i n (by omega) (by omega) e; omega
    · obtain ⟨i, h, e⟩ := ih' y (by omega)
      by_cases a : f i = n
      · rw [if_pos a] at e; exact ⟨n, by omega, e⟩
      · rw [if_neg a] at e; exact ⟨i, by omega, e⟩
theorem pow_mod (a n M : Nat) : (a % M) ^ n % M = a ^ n % M := (Nat.pow_mod a n M).symm
/-- A power by squaring. -/
def fast (M : Nat) : Nat → Nat → Nat → Nat → Nat
  | 0, _, _, out => out
  | f + 1, a, n, out => if n = 0 then out else fast M f (a * a % M) (n / 2) (if n % 2 = 1 then out * a % M else out)
theorem fast_is (M : Nat) : ∀ f a n out, n < 2 ^ f → fast M f a n out % M = out * a ^ n % M := by
  intro f
  induction f with
  | zero => intro a n out h; have : n = 0 := by omega
            subst this; simp [fast]
  | succ f ih =>
    intro a n out h
    unfold fast
    by_cases hn : n = 0
    · subst hn; simp
    · rw [if_neg hn, ih _ _ _ (by rw [Nat.pow_succ] at h; omega)]
      have hsq : (a * a % M) ^ (n / 2) % M = (a * a) ^ (n / 2) % M := pow_mod _ _ _
      rw [Nat.mul_mod, hsq, ← Nat.mul_mod, show a * a = a ^ 2 from (Nat.pow_two a).symm, ← Nat.pow_mul]
      by_cases ho : n % 2 = 1
      · rw [if_pos ho, Nat.mul_mod, Nat.mod_mod, ← Nat.mul_mod, Nat.mul_assoc, ← Nat.pow_succ', show (2 * (n / 2)).succ = n by omega]
      · rw [if_neg ho, show 2 * (n / 2) = n by omega]
theorem fast64 (M a n : Nat) (h : n < 2 ^ 64) : a ^ n % M = fast M 64 a n 1 % M := by
  rw [fast_is M 64 a n 1 h, Nat.one_mul]
theorem pow_gcd (g M a b : Nat) (ha : g ^ a % M = 1 % M) (hb : g ^ b % M = 1 % M) : g ^ Nat.gcd a b % M = 1 % M := by
  revert ha hb
  refine Nat.gcd.induction (P := fun a b => g ^ a % M = 1 % M → g ^ b % M = 1 % M → g ^ Nat.gcd a b % M = 1 % M) a b ?_ ?_
  · intro b _ hb; rw [Nat.gcd_zero_left]; exact hb
  · intro a b h0 ih ha hb
    rw [Nat.gcd_rec]
    refine ih ?_ ha
    have e : g ^ b = (g ^ a) ^ (b / a) * g ^ (b % a) := by rw [← Nat.pow_mul, ← Nat.pow_add, Nat.div_add_mod]
    rw [e, Nat.mul_mod, ← pow_mod (g ^ a), ha, pow_mod 1, Nat.one_pow, ← Nat.mul_mod, Nat.one_mul] at hb
    exact hb
theorem coprime_of {k q : Nat} (hq : ∀ d, d < q + 1 → d ∣ q → d = 1 ∨ d = q) (h : ¬ q ∣ k) (h0 : 0 < q) : Nat.Coprime k q := by
  have h1 := Nat.gcd_dvd_right k q
  have h2 := Nat.le_of_dvd h0 h1
  rcases hq _ (by omega) h1 with e | e
  · exact e
  · exact absurd (e ▸ Nat.gcd_dvd_left k q) h
def P : Nat := 2305843009213693951
theorem cut {k m q : Nat} (hk : k ∣ q * m) (hq : ∀ d, d < q + 1 → d ∣ q → d = 1 ∨ d = q) (h0 : 0 < q) (h : ¬ q ∣ k) : k ∣ m :=
  (coprime_of hq h h0).dvd_of_dvd_mul_left hk
theorem one_of {k : Nat} (hk : k ∣ 2305843009213693950)
    (h2 : ¬ 2 ∣ k) (h3 : ¬ 3 ∣ k) (h5 : ¬ 5 ∣ k) (h7 : ¬ 7 ∣ k) (h11 : ¬ 11 ∣ k) (h13 : ¬ 13 ∣ k) (h31 : ¬ 31 ∣ k) (h41 : ¬ 41 ∣ k) (h61 : ¬ 61 ∣ k)
    (h151 : ¬ 151 ∣ k) (h331 : ¬ 331 ∣ k) (h1321 : ¬ 1321 ∣ k) : k = 1 := by
  have a := cut (q := 2) (m := 1152921504606846975) hk (by decide) (by decide) h2
  have a := cut (q := 3) (m := 384307168202282325) a (by decide) (by decide) h3
  have a := cut (q := 3) (m := 128102389400760775) a (by decide) (by decide) h3
  have a := cut (q := 5) (m := 25620477880152155) a (by decide) (by decide) h5
  have a := cut (q := 5) (m := 5124095576030431) a (by decide) (by decide) h5
  have a := cut (q := 7) (m := 732013653718633) a (by decide) (by decide) h7
  have a := cut (q := 11) (m := 66546695792603) a (by decide) (by decide) h11
  have a := cut (q := 13) (m := 5118976599431) a (by decide) (by decide) h13
  have a := cut (q := 31) (m := 165128277401) a (by decide +kernel) (by decide) h31
  have a := cut (q := 41) (m := 4027518961) a (by decide +kernel) (by decide) h41
  have a := cut (q := 61) (m := 66024901) a (by decide +kernel) (by decide) h61
  have a := cut (q := 151) (m := 437251) a (by decide +kernel) (by decide) h151
  have a := cut (q := 331) (m := 1321) a (by decide +kernel) (by decide) h331
  have a := cut (q := 1321) (m := 1) a (by decide +kernel) (by decide) h1321
  exact Nat.dvd_one.1 a
section
variable {N : Nat} (hN : N = 2305843009213693950)
include hN
theorem g_ord : 37 ^ N % P = 1 := by rw [fast64 _ _ _ (by rw [hN]; decide), hN]; decide +kernel
omit hN in
theorem g_not (q m : Nat) (hm : q * m = N) (hlt : m < 2 ^ 64) (hf : fast P 64 37 m 1 % P ≠ 1) {e k : Nat} (hek : e * k = N) (he : 37 ^ e % P = 1) (h0 : 0 < q) : ¬ q ∣ k := by
  rintro ⟨c, rfl⟩
  have h1 : m = e * c := by
    have : q * m = q * (e * c) := by rw [hm, ← hek, Nat.mul_left_comm]
    exact Nat.eq_of_mul_eq_mul_left h0 this
  apply hf
  rw [← fast64 _ _ _ hlt, h1, Nat.pow_mul, ← pow_mod, he, Nat.one_pow]
  rfl
theorem g_min (d : Nat) (h0 : 0 < d) (h1 : d < N) : 37 ^ d % P ≠ 1 := by
  intro hd
  have hg : 37 ^ Nat.gcd d N % P = 1 := pow_gcd 37 P _ _ hd (g_ord hN)
  obtain ⟨k, hk⟩ := Nat.gcd_dvd_right d N
  have hle : Nat.gcd d N ≤ d := Nat.gcd_le_left _ h0
  generalize Nat.gcd d N = e at *
  have hk1 : k = 1 := by
    refine one_of ⟨e, by rw [Nat.mul_comm, ← hk, hN]⟩ ?_ ?_ ?_ ?_ ?_ ?_ ?_ ?_ ?_ ?_ ?_ ?_
    · exact g_not 2 1152921504606846975 hN.symm (by decide) (by decide +kernel) hk.symm hg (by decide)
    · exact g_not 3 768614336404564650 hN.symm (by decide) (by decide +kernel) hk.symm hg (by decide)
    · exact g_not 5 461168601842738790 hN.symm (by decide) (by decide +kernel) hk.symm hg (by decide)
    · exact g_not 7 329406144173384850 hN.symm (by decide) (by decide +kernel) hk.symm hg (by decide)
    · exact g_not 11 209622091746699450 hN.symm (by decide) (by decide +kernel) hk.symm hg (by decide)
    · exact g_not 13 177372539170284150 hN.symm (by decide) (by decide +kernel) hk.symm hg (by decide)
    · exact g_not 31 74382032555280450 hN.symm (by decide) (by decide +kernel) hk.symm hg (by decide)
    · exact g_not 41 56240073395455950 hN.symm (by decide) (by decide +kernel) hk.symm hg (by decide)
    · exact g_not 61 37800705069076950 hN.symm (by decide) (by decide +kernel) hk.symm hg (by decide)
    · exact g_not 151 15270483504726450 hN.symm (by decide) (by decide +kernel) hk.symm hg (by decide)
    · exact g_not 331 6966293079195450 hN.symm (by decide) (by decide +kernel) hk.symm hg (by decide)
    · exact g_not 1321 1745528394559950 hN.symm (by decide) (by decide +kernel) hk.symm hg (by decide)
  subst hk1
  omega
theorem g_inv (i : Nat) (h : i ≤ N) : 37 ^ (N - i) * 37 ^ i % P = 1 := by
  rw [← Nat.pow_add, Nat.sub_add_cancel h]; exact g_ord hN
theorem g_pos (i : Nat) (h : i ≤ N) : 37 ^ i % P ≠ 0 := by
  intro e
  have := g_inv hN i h
  rw [Nat.mul_mod, e, Nat.mul_zero, Nat.zero_mod] at this
  omega
theorem g_inj (i j : Nat) (hi : i < N) (hj : j < N) (hij : i < j) : 37 ^ i % P ≠ 37 ^ j % P := by
  intro e
  refine g_min hN (j - i) (by omega) (by omega) ?_
  have h1 := g_inv hN i (by omega)
  rw [Nat.mul_mod, e, ← Nat.mul_mod, ← Nat.pow_add, show N - i + j = (j - i) + N by omega, Nat.pow_add, Nat.mul_mod, g_ord hN, Nat.mul_one, Nat.mod_mod] at h1
  exact h1
/-- Fermat's little theorem at this prime. -/
theorem fermat (x : Nat) (h : x % P ≠ 0) : x ^ N % P = 1 := by
  have hP : P = N + 1 := hN ▸ rfl
  obtain ⟨i, hi, e⟩ := hits N (fun i => 37 ^ i % P - 1)
    (fun i hi => by have h1 : 37 ^ i % P < P := Nat.mod_lt _ (by rw [hP]; omega)
                    show 37 ^ i % P - 1 < _; have h2 := g_pos hN i (by omega); omega)
    (fun i j hi hj e => by
      have h1 := g_pos hN i (by omega)
      have h2 := g_pos hN j (by omega)
      have h3 : 37 ^ i % P = 37 ^ j % P := by omega
      rcases Nat.lt_trichotomy i j with k | k | k
      · exact absurd h3 (g_inj hN i j hi hj k)
      · exact k
      · exact absurd h3.symm (g_inj hN j i hj hi k))
    (x % P - 1) (by have h1 : x % P < P := Nat.mod_lt _ (by rw [hP]; omega); omega)
  have h2 := g_pos hN i (by omega)
  have h3 : 37 ^ i % P = x % P := by omega
  rw [← pow_mod, ← h3, pow_mod, ← Nat.pow_mul, Nat.mul_comm, Nat.pow_mul, ← pow_mod, g_ord hN, Nat.one_pow]
  rfl
end
end Go.Proofs.YtdjcclcejmeheaaGreat.Ferm
end
section
namespace Go.Proofs.YtdjcclcejmeheaaGreat
set_option linter.unusedVariables false
set_option linter.unusedSimpArgs false
theorem modN_P : modN 2305843009213693951 = 2305843009213693951 := rfl
theorem modN_O : modN 2305843009213693950 = 2305843009213693950 := rfl
theorem fmul_eq (a b m : Int) : fmul a b m = a * b % modN m := by unfold fmul; exact (Int.mul_emod a b _).symm
theorem fadd_eq (a b m : Int) : fadd a b m = (a + b) % modN m := by unfold fadd; exact (Int.add_emod a b _).symm
theorem fpow_bd (a n m : Int) : 0 ≤ fpow a n m ∧ fpow a n m < modN m := ⟨Int.emod_nonneg _ (by have := modN_pos m; omega), Int.emod_lt_of_pos _ (modN_pos m)⟩
/-- The power with the whole order. -/
theorem pow_order (x : Int) (hx : 0 ≤ x) (h : x % 2305843009213693951 ≠ 0) {n : Nat} (hn : n = 2305843009213693950) : x ^ n % 2305843009213693951 = 1 := by
  obtain ⟨k, rfl⟩ := Int.eq_ofNat_of_zero_le hx
  have hP : Ferm.P = 2305843009213693951 := rfl
  have h1 := Ferm.fermat hn k (by rw [hP]; omega)
  rw [hP] at h1
  rw [← Int.natCast_pow]
  omega
theorem pow_zero_mod (x : Int) (h : x % 2305843009213693951 = 0) {n : Nat} (hn : 0 < n) : x ^ n % 2305843009213693951 = 0 := by
  obtain ⟨k, rfl⟩ : ∃ k, n = k + 1 := ⟨n - 1, by omega⟩
  rw [Int.pow_succ, Int.mul_emod, h, Int.mul_zero, Int.zero_emod]
theorem fmul_zero (x y : Int) (h : x % 2305843009213693951 = 0) : fmul x y 2305843009213693951 = 0 := by
  unfold fmul; rw [modN_P, h, Int.zero_mul, Int.zero_emod]
theorem fpow_add (x n m : Int) (hn : 0 ≤ n) (hm : 0 ≤ m) : fpow x (n + m) 2305843009213693951 = fmul (fpow x n 2305843009213693951) (fpow x m 2305843009213693951) 2305843009213693951 := by
  rw [fmul_eq]; unfold fpow pw; rw [modN_P, cg_mul (cg_mod _ _) (cg_mod _ _), show (n + m).toNat = n.toNat + m.toNat by omega, Int.pow_add]
theorem fpow_order (x : Int) (hx : 0 ≤ x) : (fpow x 2305843009213693950 2305843009213693951 == 1) = (x % 2305843009213693951 != 0) := by
  unfold fpow pw; rw [modN_P]
  by_cases h : x % 2305843009213693951 = 0
  · rw [pow_zero_mod x h (by omega), h]; rfl
  · rw [pow_order x hx h (by omega), bne_iff_ne.2 h]; rfl
/-- A power by squaring, as the kernel reckons it. -/
theorem fpow_fast (a n : Nat) (m : Int) (M : Nat) (hM : modN m = M) (hn : n < 2 ^ 64) : fpow a n m = (Ferm.fast M 64 a n 1 % M : Nat) := by
  unfold fpow pw
  rw [hM, Int.toNat_natCast, ← Ferm.fast64 _ _ _ hn, Int.natCast_emod, Int.natCast_pow]
end Go.Proofs.YtdjcclcejmeheaaGreat
end

