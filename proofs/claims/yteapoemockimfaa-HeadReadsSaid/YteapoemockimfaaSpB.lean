/-
  A round of the permutation: what the sponge's function and the reference's come to: the same.
-/
import Derived.Test.YteapoemockimfaaSpA
import Derived.RegionTactic
import Derived.StillTailTactics
import Derived.Lib.Hide
namespace Go.Proofs.Yteapoemockimfaa
set_option linter.unusedVariables false
set_option linter.unusedSimpArgs false
open Go.RowKit

/-- Five words. -/
structure St where
  a : Int
  b : Int
  c : Int
  d : Int
  e : Int
def St.cells (s : St) : Array Value := #[.int .u64 s.a, .int .u64 s.b, .int .u64 s.c, .int .u64 s.d, .int .u64 s.e]
def St.ok (s : St) : Prop := (0 ≤ s.a ∧ s.a < 18446744073709551616) ∧ (0 ≤ s.b ∧ s.b < 18446744073709551616) ∧ (0 ≤ s.c ∧ s.c < 18446744073709551616) ∧ (0 ≤ s.d ∧ s.d < 18446744073709551616) ∧ (0 ≤ s.e ∧ s.e < 18446744073709551616)

def bxor (x y : Int) : Int := bits .xor .u64 x y
def band (x y : Int) : Int := bits .and .u64 x y
def bnot (x : Int) : Int := bits .xor .u64 IntKind.u64.max x
theorem bxor_bd (x y : Int) : 0 ≤ bxor x y ∧ bxor x y < 18446744073709551616 := bits_bd _ _ _
theorem turnF_bd (x a b : Int) : 0 ≤ turnF x a b ∧ turnF x a b < 18446744073709551616 := bits_bd _ _ _
theorem bnot_bd (x : Int) : 0 ≤ bnot x ∧ bnot x < 18446744073709551616 := bits_bd _ _ _

/-- The first two steps of a round. -/
def chi (x y z : Int) : Int := bxor x (band (bnot y) z)
def roundF (s : St) (k : Int) : St :=
  let a := bxor s.a s.e
  let b := s.b
  let c := bxor (bxor s.c k) s.b
  let d := s.d
  let e := bxor s.e s.d
  let t0 := bxor (chi a b c) (chi e a b)
  let t1 := bxor (chi b c d) (chi a b c)
  let t2 := bnot (chi c d e)
  let t3 := bxor (chi d e a) (chi c d e)
  let t4 := chi e a b
  ⟨turnF t0 19 28, turnF t1 61 39, turnF t2 1 6, turnF t3 10 17, turnF t4 7 41⟩
theorem roundF_ok (s : St) (k : Int) : (roundF s k).ok := ⟨turnF_bd _ _ _, turnF_bd _ _ _, turnF_bd _ _ _, turnF_bd _ _ _, turnF_bd _ _ _⟩


theorem arr5_info : (Try.prog.info? 116).map (·.size) = some 5 := by kernel_rfl
theorem heap_alloc3_mid (w : World) (A B C : Obj) : (((w.alloc A).alloc B).alloc C).heap[w.heap.size + 1]? = some B := by
  show (((w.heap.push A).push B).push C)[w.heap.size + 1]? = some B
  rw [Array.getElem?_push, if_neg (by simp), Array.getElem?_push, if_pos (by simp)]

def tcells (t0 t1 t2 t3 t4 : Int) : Nat → Array Value
  | 0 => #[.int .u64 0, .int .u64 0, .int .u64 0, .int .u64 0, .int .u64 0]
  | 1 => #[.int .u64 t0, .int .u64 0, .int .u64 0, .int .u64 0, .int .u64 0]
  | 2 => #[.int .u64 t0, .int .u64 t1, .int .u64 0, .int .u64 0, .int .u64 0]
  | 3 => #[.int .u64 t0, .int .u64 t1, .int .u64 t2, .int .u64 0, .int .u64 0]
  | 4 => #[.int .u64 t0, .int .u64 t1, .int .u64 t2, .int .u64 t3, .int .u64 0]
  | _ => #[.int .u64 t0, .int .u64 t1, .int .u64 t2, .int .u64 t3, .int .u64 t4]

set_option maxRecDepth 100000 in
set_option maxHeartbeats 8000000 in
theorem round_any (s : St) (k : Int) (w : World) :
    Calls Try.prog 101 #[.agg s.cells, .int .u64 k] w fun e w' => e = .returned (.agg (roundF s k).cells) ∧ Below w.heap.size w w' := by
  obtain ⟨a, b, c, d, e⟩ := s
  show Calls _ _ #[.agg #[.int .u64 a, .int .u64 b, .int .u64 c, .int .u64 d, .int .u64 e], .int .u64 k] w _
  obtain ⟨A, hA⟩ : ∃ q, bits .xor .u64 a e = q := ⟨_, rfl⟩
  have HA := Lib.hid hA
  clear hA
  obtain ⟨C, hC⟩ : ∃ q, bits .xor .u64 (bits .xor .u64 c k) b = q := ⟨_, rfl⟩
  have HC := Lib.hid hC
  clear hC
  obtain ⟨E, hE⟩ : ∃ q, bits .xor .u64 e d = q := ⟨_, rfl⟩
  have HE := Lib.hid hE
  clear hE
  obtain ⟨T0, hT0⟩ : ∃ q, bits .xor .u64 A (bits .and .u64 (bits .xor .u64 IntKind.u64.max b) C) = q := ⟨_, rfl⟩
  have HT0 := Lib.hid hT0
  clear hT0
  obtain ⟨T1, hT1⟩ : ∃ q, bits .xor .u64 b (bits .and .u64 (bits .xor .u64 IntKind.u64.max C) d) = q := ⟨_, rfl⟩
  have HT1 := Lib.hid hT1
  clear hT1
  obtain ⟨T2, hT2⟩ : ∃ q, bits .xor .u64 C (bits .and .u64 (bits .xor .u64 IntKind.u64.max d) E) = q := ⟨_, rfl⟩
  have HT2 := Lib.hid hT2
  clear hT2
  obtain ⟨T3, hT3⟩ : ∃ q, bits .xor .u64 d (bits .and .u64 (bits .xor .u64 IntKind.u64.max E) A) = q := ⟨_, rfl⟩
  have HT3 := Lib.hid hT3
  clear hT3
  obtain ⟨T4, hT4⟩ : ∃ q, bits .xor .u64 E (bits .and .u64 (bits .xor .u64 IntKind.u64.max A) b) = q := ⟨_, rfl⟩
  have HT4 := Lib.hid hT4
  clear hT4
  obtain ⟨U1, hU1⟩ : ∃ q, bits .xor .u64 T1 T0 = q := ⟨_, rfl⟩
  have HU1 := Lib.hid hU1
  clear hU1
  obtain ⟨U0, hU0⟩ : ∃ q, bits .xor .u64 T0 T4 = q := ⟨_, rfl⟩
  have HU0 := Lib.hid hU0
  clear hU0
  obtain ⟨U3, hU3⟩ : ∃ q, bits .xor .u64 T3 T2 = q := ⟨_, rfl⟩
  have HU3 := Lib.hid hU3
  clear hU3
  obtain ⟨U2, hU2⟩ : ∃ q, bits .xor .u64 IntKind.u64.max T2 = q := ⟨_, rfl⟩
  have HU2 := Lib.hid hU2
  clear hU2
  obtain ⟨lU0, rU0⟩ : 0 ≤ U0 ∧ U0 < 18446744073709551616 := by rw [← HU0.out]; exact bits_bd _ _ _
  obtain ⟨lU1, rU1⟩ : 0 ≤ U1 ∧ U1 < 18446744073709551616 := by rw [← HU1.out]; exact bits_bd _ _ _
  obtain ⟨lU2, rU2⟩ : 0 ≤ U2 ∧ U2 < 18446744073709551616 := by rw [← HU2.out]; exact bits_bd _ _ _
  obtain ⟨lU3, rU3⟩ : 0 ≤ U3 ∧ U3 < 18446744073709551616 := by rw [← HU3.out]; exact bits_bd _ _ _
  obtain ⟨lT4, rT4⟩ : 0 ≤ T4 ∧ T4 < 18446744073709551616 := by rw [← HT4.out]; exact bits_bd _ _ _
  have hA := HA.out
  have hC := HC.out
  have hE := HE.out
  have HR : Hid (#[Value.int .u64 (turnF U0 19 28), .int .u64 (turnF U1 61 39), .int .u64 (turnF U2 1 6), .int .u64 (turnF U3 10 17), .int .u64 (turnF T4 7 41)] = (roundF ⟨a, b, c, d, e⟩ k).cells) := by
    show _ = _
    clear hA hC hE
    have hA := HA.out
    have hC := HC.out
    have hE := HE.out
    have hT0 := HT0.out
    have hT1 := HT1.out
    have hT2 := HT2.out
    have hT3 := HT3.out
    have hT4 := HT4.out
    have hU1 := HU1.out
    have hU0 := HU0.out
    have hU3 := HU3.out
    have hU2 := HU2.out
    subst hU2
    subst hU3
    subst hU0
    subst hU1
    subst hT4
    subst hT3
    subst hT2
    subst hT1
    subst hT0
    subst hE
    subst hC
    subst hA
    rfl
  go_enter Try.func101, Try.ntmps101
  go_wp2_with fail
  clear hA hC hE
  go_loopw [30] (fun v30 wr => ∃ i n : Nat, v30 = .int .i64 i ∧ i ≤ 5 ∧ wr = ((((w.alloc (.cells #[.int .u64 A, .int .u64 b, .int .u64 C, .int .u64 d, .int .u64 E] 116)).alloc (.cells #[.int .u64 0, .int .u64 0, .int .u64 0, .int .u64 0, .int .u64 0] 116)).alloc (.cells (tcells T0 T1 T2 T3 T4 i) 116))).drewN n) (fun v30 _ => 5 - (intOf v30).toNat)
  case atStart => exact ⟨0, 0, rfl, by omega, rfl⟩
  case round =>
    obtain ⟨i, n, rfl, hi, rfl⟩ := hrel
    obtain rfl | rfl | rfl | rfl | rfl | rfl : i = 0 ∨ i = 1 ∨ i = 2 ∨ i = 3 ∨ i = 4 ∨ i = 5 := by omega
    all_goals (simp only [tcells])
    all_goals clear hi
    · go_wp2_with fail
      go_region
      go_wp2_with fail
      go_roundw
      case rel => exact ⟨1, n + 1, rfl, by omega, by rw [← HT0.out]; rfl⟩
      case measure => simp [intOf]
    · go_wp2_with fail
      go_region
      go_wp2_with fail
      go_roundw
      case rel => exact ⟨2, n + 1, rfl, by omega, by rw [← HT1.out]; rfl⟩
      case measure => simp [intOf]
    · go_wp2_with fail
      go_region
      go_wp2_with fail
      go_roundw
      case rel => exact ⟨3, n + 1, rfl, by omega, by rw [← HT2.out]; rfl⟩
      case measure => simp [intOf]
    · go_wp2_with fail
      go_region
      go_wp2_with fail
      go_roundw
      case rel => exact ⟨4, n + 1, rfl, by omega, by rw [← HT3.out]; rfl⟩
      case measure => simp [intOf]
    · go_wp2_with fail
      go_region
      go_wp2_with fail
      go_roundw
      case rel => exact ⟨5, n + 1, rfl, by omega, by rw [← HT4.out]; rfl⟩
      case measure => simp [intOf]
    · have hU0 := HU0.out
      have hU1 := HU1.out
      have hU2 := HU2.out
      have hU3 := HU3.out
      go_wp2_with fail
      clear hU0 hU1 hU2 hU3
      refine wp_world (fun w' => (w'.cell? ⟨w.heap.size + 1 + 1, 0, none⟩ = some (.int .u64 U0) ∧ w'.cell? ⟨w.heap.size + 1 + 1, 1, none⟩ = some (.int .u64 U1) ∧ w'.cell? ⟨w.heap.size + 1 + 1, 2, none⟩ = some (.int .u64 U2) ∧ w'.cell? ⟨w.heap.size + 1 + 1, 3, none⟩ = some (.int .u64 U3) ∧ w'.cell? ⟨w.heap.size + 1 + 1, 4, none⟩ = some (.int .u64 T4) ∧ w'.cell? ⟨w.heap.size + 1, 0, none⟩ = some (.int .u64 0) ∧ w'.cell? ⟨w.heap.size + 1, 1, none⟩ = some (.int .u64 0) ∧ w'.cell? ⟨w.heap.size + 1, 2, none⟩ = some (.int .u64 0) ∧ w'.cell? ⟨w.heap.size + 1, 3, none⟩ = some (.int .u64 0) ∧ w'.cell? ⟨w.heap.size + 1, 4, none⟩ = some (.int .u64 0) ∧ w'.frozen? ⟨w.heap.size + 1, 0, none⟩ = false ∧ w'.frozen? ⟨w.heap.size + 1, 1, none⟩ = false ∧ w'.frozen? ⟨w.heap.size + 1, 2, none⟩ = false ∧ w'.frozen? ⟨w.heap.size + 1, 3, none⟩ = false ∧ w'.frozen? ⟨w.heap.size + 1, 4, none⟩ = false) ∧ Below w.heap.size w w') ⟨by simp [go_sem], by repeat (first | exact Below.refl _ _ | apply bl_alloc | apply bl_drewN | apply Below.drew)⟩ ?_
      rintro W ⟨⟨c0, c1, c2, c3, c4, c5, c6, c7, c8, c9, c10, c11, c12, c13, c14⟩, hbw⟩
      go_region_held3 (fun w' => w'.cell? ⟨w.heap.size + 1 + 1, 0, none⟩ = some (.int .u64 U0) ∧ w'.cell? ⟨w.heap.size + 1 + 1, 1, none⟩ = some (.int .u64 U1) ∧ w'.cell? ⟨w.heap.size + 1 + 1, 2, none⟩ = some (.int .u64 U2) ∧ w'.cell? ⟨w.heap.size + 1 + 1, 3, none⟩ = some (.int .u64 U3) ∧ w'.cell? ⟨w.heap.size + 1 + 1, 4, none⟩ = some (.int .u64 T4)) (simp [*, World.cell?_setCell_far])
        (first
          | (go_at_call_of 105 (Value.int .u64 U0); refine (turned_any U0 19 28 _ (by omega) (by omega) (by omega) (by omega) (by omega) (by omega)).mono ?_; rintro e w' ⟨rfl, rfl⟩)
          | (go_at_call_of 105 (Value.int .u64 U1); refine (turned_any U1 61 39 _ (by omega) (by omega) (by omega) (by omega) (by omega) (by omega)).mono ?_; rintro e w' ⟨rfl, rfl⟩)
          | (go_at_call_of 105 (Value.int .u64 U2); refine (turned_any U2 1 6 _ (by omega) (by omega) (by omega) (by omega) (by omega) (by omega)).mono ?_; rintro e w' ⟨rfl, rfl⟩)
          | (go_at_call_of 105 (Value.int .u64 U3); refine (turned_any U3 10 17 _ (by omega) (by omega) (by omega) (by omega) (by omega) (by omega)).mono ?_; rintro e w' ⟨rfl, rfl⟩)
          | (go_at_call_of 105 (Value.int .u64 T4); refine (turned_any T4 7 41 _ (by omega) (by omega) (by omega) (by omega) (by omega) (by omega)).mono ?_; rintro e w' ⟨rfl, rfl⟩))
      go_wp2_with fail
      refine bodyPost_ret (v := .agg #[Value.int .u64 (turnF U0 19 28), .int .u64 (turnF U1 61 39), .int .u64 (turnF U2 1 6), .int .u64 (turnF U3 10 17), .int .u64 (turnF T4 7 41)]) (by simp [results, Try.results101, go_sem, c5, c6, c7, c8, c9]) rfl ⟨by rw [HR.out], ?_⟩
      repeat (first | exact hbw | apply Below.drew | refine Below.setCell ?_ (by simp) _)
end Go.Proofs.Yteapoemockimfaa
