/-
  The reference's round comes to what the sponge's does.
-/
import Derived.Test.YteapoemockimfaaSpB
namespace Go.Proofs.Yteapoemockimfaa
set_option linter.unusedVariables false
set_option linter.unusedSimpArgs false
open Go.RowKit

set_option maxRecDepth 100000 in
set_option maxHeartbeats 8000000 in
theorem rround_any (s : St) (k : Int) (w : World) :
    Calls Try.prog 93 #[.agg s.cells, .int .u64 k] w fun e w' => e = .returned (.agg (roundF s k).cells) ∧ Below w.heap.size w w' := by
  obtain ⟨a, b, c, d, e⟩ := s
  show Calls _ _ #[.agg #[.int .u64 a, .int .u64 b, .int .u64 c, .int .u64 d, .int .u64 e], .int .u64 k] w _
  obtain ⟨A, hA⟩ : ∃ q, bits .xor .u64 a e = q := ⟨_, rfl⟩
  have HA := Lib.hid hA
  clear hA
  obtain ⟨C, hC⟩ : ∃ q, bits .xor .u64 (bits .xor .u64 c k) b = q := ⟨_, rfl⟩
  have HC := Lib.hid hC
  clear hC
  obtain ⟨E, hE⟩ : ∃ q, bits .xor .u64 e d = q := ⟨_, rfl⟩
  have HE := Lib.hid hE
  clear hE
  obtain ⟨T0, hT0⟩ : ∃ q, bits .xor .u64 A (bits .and .u64 (bits .xor .u64 IntKind.u64.max b) C) = q := ⟨_, rfl⟩
  have HT0 := Lib.hid hT0
  clear hT0
  obtain ⟨T1, hT1⟩ : ∃ q, bits .xor .u64 b (bits .and .u64 (bits .xor .u64 IntKind.u64.max C) d) = q := ⟨_, rfl⟩
  have HT1 := Lib.hid hT1
  clear hT1
  obtain ⟨T2, hT2⟩ : ∃ q, bits .xor .u64 C (bits .and .u64 (bits .xor .u64 IntKind.u64.max d) E) = q := ⟨_, rfl⟩
  have HT2 := Lib.hid hT2
  clear hT2
  obtain ⟨T3, hT3⟩ : ∃ q, bits .xor .u64 d (bits .and .u64 (bits .xor .u64 IntKind.u64.max E) A) = q := ⟨_, rfl⟩
  have HT3 := Lib.hid hT3
  clear hT3
  obtain ⟨T4, hT4⟩ : ∃ q, bits .xor .u64 E (bits .and .u64 (bits .xor .u64 IntKind.u64.max A) b) = q := ⟨_, rfl⟩
  have HT4 := Lib.hid hT4
  clear hT4
  obtain ⟨U1, hU1⟩ : ∃ q, bits .xor .u64 T1 T0 = q := ⟨_, rfl⟩
  have HU1 := Lib.hid hU1
  clear hU1
  obtain ⟨U0, hU0⟩ : ∃ q, bits .xor .u64 T0 T4 = q := ⟨_, rfl⟩
  have HU0 := Lib.hid hU0
  clear hU0
  obtain ⟨U3, hU3⟩ : ∃ q, bits .xor .u64 T3 T2 = q := ⟨_, rfl⟩
  have HU3 := Lib.hid hU3
  clear hU3
  obtain ⟨U2, hU2⟩ : ∃ q, bits .xor .u64 IntKind.u64.max T2 = q := ⟨_, rfl⟩
  have HU2 := Lib.hid hU2
  clear hU2
  obtain ⟨lU0, rU0⟩ : 0 ≤ U0 ∧ U0 < 18446744073709551616 := by rw [← HU0.out]; exact bits_bd _ _ _
  obtain ⟨lU1, rU1⟩ : 0 ≤ U1 ∧ U1 < 18446744073709551616 := by rw [← HU1.out]; exact bits_bd _ _ _
  obtain ⟨lU2, rU2⟩ : 0 ≤ U2 ∧ U2 < 18446744073709551616 := by rw [← HU2.out]; exact bits_bd _ _ _
  obtain ⟨lU3, rU3⟩ : 0 ≤ U3 ∧ U3 < 18446744073709551616 := by rw [← HU3.out]; exact bits_bd _ _ _
  obtain ⟨lT4, rT4⟩ : 0 ≤ T4 ∧ T4 < 18446744073709551616 := by rw [← HT4.out]; exact bits_bd _ _ _
  have hA := HA.out
  have hC := HC.out
  have hE := HE.out
  have HR : Hid (#[Value.int .u64 (turnF U0 19 28), .int .u64 (turnF U1 61 39), .int .u64 (turnF U2 1 6), .int .u64 (turnF U3 10 17), .int .u64 (turnF T4 7 41)] = (roundF ⟨a, b, c, d, e⟩ k).cells) := by
    show _ = _
    clear hA hC hE
    have hA := HA.out
    have hC := HC.out
    have hE := HE.out
    have hT0 := HT0.out
    have hT1 := HT1.out
    have hT2 := HT2.out
    have hT3 := HT3.out
    have hT4 := HT4.out
    have hU1 := HU1.out
    have hU0 := HU0.out
    have hU3 := HU3.out
    have hU2 := HU2.out
    subst hU2
    subst hU3
    subst hU0
    subst hU1
    subst hT4
    subst hT3
    subst hT2
    subst hT1
    subst hT0
    subst hE
    subst hC
    subst hA
    rfl
  go_enter Try.func93, Try.ntmps93
  go_wp2_with fail
  clear hA hC hE
  go_loopw [6] (fun v30 wr => ∃ i n : Nat, v30 = .int .i64 i ∧ i ≤ 5 ∧ wr = ((((w.alloc (.cells #[.int .u64 A, .int .u64 b, .int .u64 C, .int .u64 d, .int .u64 E] 116)).alloc (.cells #[.int .u64 0, .int .u64 0, .int .u64 0, .int .u64 0, .int .u64 0] 116)).alloc (.cells (tcells T0 T1 T2 T3 T4 i) 116))).drewN n) (fun v30 _ => 5 - (intOf v30).toNat)
  case atStart => exact ⟨0, 0, rfl, by omega, rfl⟩
  case round =>
    obtain ⟨i, n, rfl, hi, rfl⟩ := hrel
    obtain rfl | rfl | rfl | rfl | rfl | rfl : i = 0 ∨ i = 1 ∨ i = 2 ∨ i = 3 ∨ i = 4 ∨ i = 5 := by omega
    all_goals (simp only [tcells])
    all_goals clear hi
    · go_wp2_with fail
      go_region
      go_wp2_with fail
      go_roundw
      case rel => exact ⟨1, n + 1, rfl, by omega, by rw [← HT0.out]; rfl⟩
      case measure => simp [intOf]
    · go_wp2_with fail
      go_region
      go_wp2_with fail
      go_roundw
      case rel => exact ⟨2, n + 1, rfl, by omega, by rw [← HT1.out]; rfl⟩
      case measure => simp [intOf]
    · go_wp2_with fail
      go_region
      go_wp2_with fail
      go_roundw
      case rel => exact ⟨3, n + 1, rfl, by omega, by rw [← HT2.out]; rfl⟩
      case measure => simp [intOf]
    · go_wp2_with fail
      go_region
      go_wp2_with fail
      go_roundw
      case rel => exact ⟨4, n + 1, rfl, by omega, by rw [← HT3.out]; rfl⟩
      case measure => simp [intOf]
    · go_wp2_with fail
      go_region
      go_wp2_with fail
      go_roundw
      case rel => exact ⟨5, n + 1, rfl, by omega, by rw [← HT4.out]; rfl⟩
      case measure => simp [intOf]
    · have hU0 := HU0.out
      have hU1 := HU1.out
      have hU2 := HU2.out
      have hU3 := HU3.out
      go_wp2_with fail
      clear hU0 hU1 hU2 hU3
      refine wp_world (fun w' => (w'.cell? ⟨w.heap.size + 1 + 1, 0, none⟩ = some (.int .u64 U0) ∧ w'.cell? ⟨w.heap.size + 1 + 1, 1, none⟩ = some (.int .u64 U1) ∧ w'.cell? ⟨w.heap.size + 1 + 1, 2, none⟩ = some (.int .u64 U2) ∧ w'.cell? ⟨w.heap.size + 1 + 1, 3, none⟩ = some (.int .u64 U3) ∧ w'.cell? ⟨w.heap.size + 1 + 1, 4, none⟩ = some (.int .u64 T4) ∧ w'.cell? ⟨w.heap.size, 0, none⟩ = some (.int .u64 A) ∧ w'.cell? ⟨w.heap.size, 1, none⟩ = some (.int .u64 b) ∧ w'.cell? ⟨w.heap.size, 2, none⟩ = some (.int .u64 C) ∧ w'.cell? ⟨w.heap.size, 3, none⟩ = some (.int .u64 d) ∧ w'.cell? ⟨w.heap.size, 4, none⟩ = some (.int .u64 E) ∧ w'.frozen? ⟨w.heap.size, 0, none⟩ = false ∧ w'.frozen? ⟨w.heap.size, 1, none⟩ = false ∧ w'.frozen? ⟨w.heap.size, 2, none⟩ = false ∧ w'.frozen? ⟨w.heap.size, 3, none⟩ = false ∧ w'.frozen? ⟨w.heap.size, 4, none⟩ = false ∧ w'.heap[w.heap.size + 1]? = some (.cells #[.int .u64 0, .int .u64 0, .int .u64 0, .int .u64 0, .int .u64 0] 116 (0, 0))) ∧ Below w.heap.size w w') ⟨by (repeat' apply And.intro) <;> first | exact heap_alloc3_mid _ _ _ _ | (simp [go_sem]; done), by repeat (first | exact Below.refl _ _ | assumption | apply bl_alloc | apply bl_drewN | apply Below.drew | refine Below.setCell ?_ (by simp) _)⟩ ?_
      rintro W ⟨⟨c0, c1, c2, c3, c4, c5, c6, c7, c8, c9, c10, c11, c12, c13, c14, c15⟩, hbw⟩
      as_aux_lemma =>
      go_region_held3 (fun w' => w'.cell? ⟨w.heap.size + 1 + 1, 0, none⟩ = some (.int .u64 U0) ∧ w'.cell? ⟨w.heap.size + 1 + 1, 1, none⟩ = some (.int .u64 U1) ∧ w'.cell? ⟨w.heap.size + 1 + 1, 2, none⟩ = some (.int .u64 U2) ∧ w'.cell? ⟨w.heap.size + 1 + 1, 3, none⟩ = some (.int .u64 U3) ∧ w'.cell? ⟨w.heap.size + 1 + 1, 4, none⟩ = some (.int .u64 T4)) (simp (disch := omega) [*, cell_far])
        (first
          | (go_at_call_of 103 (Value.int .u64 U0); refine (turn_any U0 _ _ (by omega) (by omega) (by omega) (by omega)).mono ?_; rintro e w' ⟨rfl, n1, rfl⟩)
        )
      go_wp2_with fail
      refine wp_world (fun w' => (w'.cell? ⟨w.heap.size + 1 + 1, 0, none⟩ = some (.int .u64 U0) ∧ w'.cell? ⟨w.heap.size + 1 + 1, 1, none⟩ = some (.int .u64 U1) ∧ w'.cell? ⟨w.heap.size + 1 + 1, 2, none⟩ = some (.int .u64 U2) ∧ w'.cell? ⟨w.heap.size + 1 + 1, 3, none⟩ = some (.int .u64 U3) ∧ w'.cell? ⟨w.heap.size + 1 + 1, 4, none⟩ = some (.int .u64 T4) ∧ w'.cell? ⟨w.heap.size, 0, none⟩ = some (.int .u64 (turnF U0 19 28)) ∧ w'.cell? ⟨w.heap.size, 1, none⟩ = some (.int .u64 b) ∧ w'.cell? ⟨w.heap.size, 2, none⟩ = some (.int .u64 C) ∧ w'.cell? ⟨w.heap.size, 3, none⟩ = some (.int .u64 d) ∧ w'.cell? ⟨w.heap.size, 4, none⟩ = some (.int .u64 E) ∧ w'.frozen? ⟨w.heap.size, 0, none⟩ = false ∧ w'.frozen? ⟨w.heap.size, 1, none⟩ = false ∧ w'.frozen? ⟨w.heap.size, 2, none⟩ = false ∧ w'.frozen? ⟨w.heap.size, 3, none⟩ = false ∧ w'.frozen? ⟨w.heap.size, 4, none⟩ = false ∧ w'.heap[w.heap.size + 1]? = some (.cells #[.int .u64 0, .int .u64 0, .int .u64 0, .int .u64 0, .int .u64 0] 116 (0, 0))) ∧ Below w.heap.size w w') ⟨by simp (disch := omega) [*, cell_far, cell_far2, heap_far, World.cell?_setCell_same _ _ _ c5, turnF], by repeat (first | exact Below.refl _ _ | assumption | apply bl_alloc | apply bl_drewN | apply Below.drew | refine Below.setCell ?_ (by simp) _)⟩ ?_
      clear c0 c1 c2 c3 c4 c5 c6 c7 c8 c9 c10 c11 c12 c13 c14 c15 hbw
      rintro W ⟨⟨c0, c1, c2, c3, c4, c5, c6, c7, c8, c9, c10, c11, c12, c13, c14, c15⟩, hbw⟩
      as_aux_lemma =>
      go_region_held3 (fun w' => w'.cell? ⟨w.heap.size + 1 + 1, 0, none⟩ = some (.int .u64 U0) ∧ w'.cell? ⟨w.heap.size + 1 + 1, 1, none⟩ = some (.int .u64 U1) ∧ w'.cell? ⟨w.heap.size + 1 + 1, 2, none⟩ = some (.int .u64 U2) ∧ w'.cell? ⟨w.heap.size + 1 + 1, 3, none⟩ = some (.int .u64 U3) ∧ w'.cell? ⟨w.heap.size + 1 + 1, 4, none⟩ = some (.int .u64 T4)) (simp (disch := omega) [*, cell_far])
        (first
          | (go_at_call_of 103 (Value.int .u64 U1); refine (turn_any U1 _ _ (by omega) (by omega) (by omega) (by omega)).mono ?_; rintro e w' ⟨rfl, n1, rfl⟩)
        )
      go_wp2_with fail
      refine wp_world (fun w' => (w'.cell? ⟨w.heap.size + 1 + 1, 0, none⟩ = some (.int .u64 U0) ∧ w'.cell? ⟨w.heap.size + 1 + 1, 1, none⟩ = some (.int .u64 U1) ∧ w'.cell? ⟨w.heap.size + 1 + 1, 2, none⟩ = some (.int .u64 U2) ∧ w'.cell? ⟨w.heap.size + 1 + 1, 3, none⟩ = some (.int .u64 U3) ∧ w'.cell? ⟨w.heap.size + 1 + 1, 4, none⟩ = some (.int .u64 T4) ∧ w'.cell? ⟨w.heap.size, 0, none⟩ = some (.int .u64 (turnF U0 19 28)) ∧ w'.cell? ⟨w.heap.size, 1, none⟩ = some (.int .u64 (turnF U1 61 39)) ∧ w'.cell? ⟨w.heap.size, 2, none⟩ = some (.int .u64 C) ∧ w'.cell? ⟨w.heap.size, 3, none⟩ = some (.int .u64 d) ∧ w'.cell? ⟨w.heap.size, 4, none⟩ = some (.int .u64 E) ∧ w'.frozen? ⟨w.heap.size, 0, none⟩ = false ∧ w'.frozen? ⟨w.heap.size, 1, none⟩ = false ∧ w'.frozen? ⟨w.heap.size, 2, none⟩ = false ∧ w'.frozen? ⟨w.heap.size, 3, none⟩ = false ∧ w'.frozen? ⟨w.heap.size, 4, none⟩ = false ∧ w'.heap[w.heap.size + 1]? = some (.cells #[.int .u64 0, .int .u64 0, .int .u64 0, .int .u64 0, .int .u64 0] 116 (0, 0))) ∧ Below w.heap.size w w') ⟨by simp (disch := omega) [*, cell_far, cell_far2, heap_far, World.cell?_setCell_same _ _ _ c6, turnF], by repeat (first | exact Below.refl _ _ | assumption | apply bl_alloc | apply bl_drewN | apply Below.drew | refine Below.setCell ?_ (by simp) _)⟩ ?_
      clear c0 c1 c2 c3 c4 c5 c6 c7 c8 c9 c10 c11 c12 c13 c14 c15 hbw
      rintro W ⟨⟨c0, c1, c2, c3, c4, c5, c6, c7, c8, c9, c10, c11, c12, c13, c14, c15⟩, hbw⟩
      as_aux_lemma =>
      go_region_held3 (fun w' => w'.cell? ⟨w.heap.size + 1 + 1, 0, none⟩ = some (.int .u64 U0) ∧ w'.cell? ⟨w.heap.size + 1 + 1, 1, none⟩ = some (.int .u64 U1) ∧ w'.cell? ⟨w.heap.size + 1 + 1, 2, none⟩ = some (.int .u64 U2) ∧ w'.cell? ⟨w.heap.size + 1 + 1, 3, none⟩ = some (.int .u64 U3) ∧ w'.cell? ⟨w.heap.size + 1 + 1, 4, none⟩ = some (.int .u64 T4)) (simp (disch := omega) [*, cell_far])
        (first
          | (go_at_call_of 103 (Value.int .u64 U2); refine (turn_any U2 _ _ (by omega) (by omega) (by omega) (by omega)).mono ?_; rintro e w' ⟨rfl, n1, rfl⟩)
        )
      go_wp2_with fail
      refine wp_world (fun w' => (w'.cell? ⟨w.heap.size + 1 + 1, 0, none⟩ = some (.int .u64 U0) ∧ w'.cell? ⟨w.heap.size + 1 + 1, 1, none⟩ = some (.int .u64 U1) ∧ w'.cell? ⟨w.heap.size + 1 + 1, 2, none⟩ = some (.int .u64 U2) ∧ w'.cell? ⟨w.heap.size + 1 + 1, 3, none⟩ = some (.int .u64 U3) ∧ w'.cell? ⟨w.heap.size + 1 + 1, 4, none⟩ = some (.int .u64 T4) ∧ w'.cell? ⟨w.heap.size, 0, none⟩ = some (.int .u64 (turnF U0 19 28)) ∧ w'.cell? ⟨w.heap.size, 1, none⟩ = some (.int .u64 (turnF U1 61 39)) ∧ w'.cell? ⟨w.heap.size, 2, none⟩ = some (.int .u64 (turnF U2 1 6)) ∧ w'.cell? ⟨w.heap.size, 3, none⟩ = some (.int .u64 d) ∧ w'.cell? ⟨w.heap.size, 4, none⟩ = some (.int .u64 E) ∧ w'.frozen? ⟨w.heap.size, 0, none⟩ = false ∧ w'.frozen? ⟨w.heap.size, 1, none⟩ = false ∧ w'.frozen? ⟨w.heap.size, 2, none⟩ = false ∧ w'.frozen? ⟨w.heap.size, 3, none⟩ = false ∧ w'.frozen? ⟨w.heap.size, 4, none⟩ = false ∧ w'.heap[w.heap.size + 1]? = some (.cells #[.int .u64 0, .int .u64 0, .int .u64 0, .int .u64 0, .int .u64 0] 116 (0, 0))) ∧ Below w.heap.size w w') ⟨by simp (disch := omega) [*, cell_far, cell_far2, heap_far, World.cell?_setCell_same _ _ _ c7, turnF], by repeat (first | exact Below.refl _ _ | assumption | apply bl_alloc | apply bl_drewN | apply Below.drew | refine Below.setCell ?_ (by simp) _)⟩ ?_
      clear c0 c1 c2 c3 c4 c5 c6 c7 c8 c9 c10 c11 c12 c13 c14 c15 hbw
      rintro W ⟨⟨c0, c1, c2, c3, c4, c5, c6, c7, c8, c9, c10, c11, c12, c13, c14, c15⟩, hbw⟩
      as_aux_lemma =>
      go_region_held3 (fun w' => w'.cell? ⟨w.heap.size + 1 + 1, 0, none⟩ = some (.int .u64 U0) ∧ w'.cell? ⟨w.heap.size + 1 + 1, 1, none⟩ = some (.int .u64 U1) ∧ w'.cell? ⟨w.heap.size + 1 + 1, 2, none⟩ = some (.int .u64 U2) ∧ w'.cell? ⟨w.heap.size + 1 + 1, 3, none⟩ = some (.int .u64 U3) ∧ w'.cell? ⟨w.heap.size + 1 + 1, 4, none⟩ = some (.int .u64 T4)) (simp (disch := omega) [*, cell_far])
        (first
          | (go_at_call_of 103 (Value.int .u64 U3); refine (turn_any U3 _ _ (by omega) (by omega) (by omega) (by omega)).mono ?_; rintro e w' ⟨rfl, n1, rfl⟩)
        )
      go_wp2_with fail
      refine wp_world (fun w' => (w'.cell? ⟨w.heap.size + 1 + 1, 0, none⟩ = some (.int .u64 U0) ∧ w'.cell? ⟨w.heap.size + 1 + 1, 1, none⟩ = some (.int .u64 U1) ∧ w'.cell? ⟨w.heap.size + 1 + 1, 2, none⟩ = some (.int .u64 U2) ∧ w'.cell? ⟨w.heap.size + 1 + 1, 3, none⟩ = some (.int .u64 U3) ∧ w'.cell? ⟨w.heap.size + 1 + 1, 4, none⟩ = some (.int .u64 T4) ∧ w'.cell? ⟨w.heap.size, 0, none⟩ = some (.int .u64 (turnF U0 19 28)) ∧ w'.cell? ⟨w.heap.size, 1, none⟩ = some (.int .u64 (turnF U1 61 39)) ∧ w'.cell? ⟨w.heap.size, 2, none⟩ = some (.int .u64 (turnF U2 1 6)) ∧ w'.cell? ⟨w.heap.size, 3, none⟩ = some (.int .u64 (turnF U3 10 17)) ∧ w'.cell? ⟨w.heap.size, 4, none⟩ = some (.int .u64 E) ∧ w'.frozen? ⟨w.heap.size, 0, none⟩ = false ∧ w'.frozen? ⟨w.heap.size, 1, none⟩ = false ∧ w'.frozen? ⟨w.heap.size, 2, none⟩ = false ∧ w'.frozen? ⟨w.heap.size, 3, none⟩ = false ∧ w'.frozen? ⟨w.heap.size, 4, none⟩ = false ∧ w'.heap[w.heap.size + 1]? = some (.cells #[.int .u64 0, .int .u64 0, .int .u64 0, .int .u64 0, .int .u64 0] 116 (0, 0))) ∧ Below w.heap.size w w') ⟨by simp (disch := omega) [*, cell_far, cell_far2, heap_far, World.cell?_setCell_same _ _ _ c8, turnF], by repeat (first | exact Below.refl _ _ | assumption | apply bl_alloc | apply bl_drewN | apply Below.drew | refine Below.setCell ?_ (by simp) _)⟩ ?_
      clear c0 c1 c2 c3 c4 c5 c6 c7 c8 c9 c10 c11 c12 c13 c14 c15 hbw
      rintro W ⟨⟨c0, c1, c2, c3, c4, c5, c6, c7, c8, c9, c10, c11, c12, c13, c14, c15⟩, hbw⟩
      as_aux_lemma =>
      go_region_held3 (fun w' => w'.cell? ⟨w.heap.size + 1 + 1, 0, none⟩ = some (.int .u64 U0) ∧ w'.cell? ⟨w.heap.size + 1 + 1, 1, none⟩ = some (.int .u64 U1) ∧ w'.cell? ⟨w.heap.size + 1 + 1, 2, none⟩ = some (.int .u64 U2) ∧ w'.cell? ⟨w.heap.size + 1 + 1, 3, none⟩ = some (.int .u64 U3) ∧ w'.cell? ⟨w.heap.size + 1 + 1, 4, none⟩ = some (.int .u64 T4)) (simp (disch := omega) [*, cell_far])
        (first
          | (go_at_call_of 103 (Value.int .u64 T4); refine (turn_any T4 _ _ (by omega) (by omega) (by omega) (by omega)).mono ?_; rintro e w' ⟨rfl, n1, rfl⟩)
        )
      go_upto_region 19 with (fail)
      refine wp_world (fun w' => (w'.cell? ⟨w.heap.size + 1 + 1, 0, none⟩ = some (.int .u64 U0) ∧ w'.cell? ⟨w.heap.size + 1 + 1, 1, none⟩ = some (.int .u64 U1) ∧ w'.cell? ⟨w.heap.size + 1 + 1, 2, none⟩ = some (.int .u64 U2) ∧ w'.cell? ⟨w.heap.size + 1 + 1, 3, none⟩ = some (.int .u64 U3) ∧ w'.cell? ⟨w.heap.size + 1 + 1, 4, none⟩ = some (.int .u64 T4) ∧ w'.cell? ⟨w.heap.size, 0, none⟩ = some (.int .u64 (turnF U0 19 28)) ∧ w'.cell? ⟨w.heap.size, 1, none⟩ = some (.int .u64 (turnF U1 61 39)) ∧ w'.cell? ⟨w.heap.size, 2, none⟩ = some (.int .u64 (turnF U2 1 6)) ∧ w'.cell? ⟨w.heap.size, 3, none⟩ = some (.int .u64 (turnF U3 10 17)) ∧ w'.cell? ⟨w.heap.size, 4, none⟩ = some (.int .u64 (turnF T4 7 41)) ∧ w'.frozen? ⟨w.heap.size, 0, none⟩ = false ∧ w'.frozen? ⟨w.heap.size, 1, none⟩ = false ∧ w'.frozen? ⟨w.heap.size, 2, none⟩ = false ∧ w'.frozen? ⟨w.heap.size, 3, none⟩ = false ∧ w'.frozen? ⟨w.heap.size, 4, none⟩ = false ∧ w'.heap[w.heap.size + 1]? = some (.cells #[.int .u64 0, .int .u64 0, .int .u64 0, .int .u64 0, .int .u64 0] 116 (0, 0))) ∧ Below w.heap.size w w') ⟨by simp (disch := omega) [*, cell_far, cell_far2, heap_far, World.cell?_setCell_same _ _ _ c9, turnF], by repeat (first | exact Below.refl _ _ | assumption | apply bl_alloc | apply bl_drewN | apply Below.drew | refine Below.setCell ?_ (by simp) _)⟩ ?_
      clear c0 c1 c2 c3 c4 c5 c6 c7 c8 c9 c10 c11 c12 c13 c14 c15 hbw
      rintro W ⟨⟨c0, c1, c2, c3, c4, c5, c6, c7, c8, c9, c10, c11, c12, c13, c14, c15⟩, hbw⟩
      as_aux_lemma =>
      refine wp_region_lit ?_
      go_wp2_with (refine wpList_store_row rfl 116 (.tmp 4) (.tmp 129) rfl (w.heap.size + 1) #[Value.int .u64 (turnF U0 19 28), .int .u64 (turnF U1 61 39), .int .u64 (turnF U2 1 6), .int .u64 (turnF U3 10 17), .int .u64 (turnF T4 7 41)] rfl rfl 116 _ c15 arr5_info rfl (by simp [Value.oneCell']) ?_)
      refine bodyPost_ret (v := .agg #[Value.int .u64 (turnF U0 19 28), .int .u64 (turnF U1 61 39), .int .u64 (turnF U2 1 6), .int .u64 (turnF U3 10 17), .int .u64 (turnF T4 7 41)]) (results_cell_row rfl _ _ (w.heap.size + 1) 116 _ (0, 0) _ rfl (setRow_heap _ _ _ _ _ _ c15) Try.underlying116 rfl arr5_info) rfl ⟨by rw [HR.out], below_setRow hbw (by omega)⟩
end Go.Proofs.Yteapoemockimfaa
