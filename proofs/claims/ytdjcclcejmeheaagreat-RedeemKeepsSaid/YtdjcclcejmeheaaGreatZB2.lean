import Derived.Test.YtdjcclcejmeheaaGreatZB1
import Derived.OpenShut
import Derived.RegionTactic
import Derived.StillTailTactics
import Derived.Lib.Hide
import Derived.OwnWalk
import Derived.Laws.OwnMore
import Derived.StillTail
import Derived.OrdersHeld
import Derived.Deep.Quiet
/-
  A word turned to the right, and a word with two of its turns: what the sponge's and the reference's functions come to. A round of the permutation: what the sponge's function and the reference's come to: the same. The reference's round comes to what the sponge's does. The permutation: twelve rounds. Bytes in memory: what a slice of bytes reads as; what an append to a slice of one's own leaves. Numbers as bytes: what Num and the reference's Num come to. Bytes with their length ahead; bytes one behind another: what Lump, Join and the reference's Lump come to. Slices of slices of bytes; Grow, Concat, Join, Clone of bytes. Concat and Join of slices of bytes; Clone of bytes. Clone of bytes; the reader of bytes. The reader's Raw and Num. Bytes as a number, the lowest first: the reader's Num, the sponge's word, the reference's Word. The walks of the sponge's word, the reader's Num, the reference's Word. A tag and lumps as bytes: the sponge's Text, the reference's Text. Regions that draw their order. (1) A head that is quiet in a class of worlds, then a forced tail. (2) Operations that yield the same in a class of worlds are taken first; the others come in one forced order.
-/
section
namespace Go.Proofs.YtdjcclcejmeheaaGreat
set_option linter.unusedVariables false
set_option linter.unusedSimpArgs false
open Go.RowKit
theorem and63 (n : Int) (h : 1 ≤ n) (h1 : n ≤ 63) : bits .and .u64 (IntKind.u64.wrap (-n)) 63 = 64 - n := by
  rw [u64_and _ _ (wrap_u64_nonneg _) (by rw [IntKind.wrap_u64]; omega) (by omega) (by omega)]
  show (((IntKind.u64.wrap (-n)).toNat &&& 63 : Nat) : Int) = _
  rw [nat_mask6, IntKind.wrap_u64]; omega
theorem bits_bd (op : BinOp) (x y : Int) : 0 ≤ bits op .u64 x y ∧ bits op .u64 x y < 18446744073709551616 := by
  have := bounds_u64 (wf_bits op .u64 x y); omega
theorem or_comm64 (x y : Int) : bits .or .u64 x y = bits .or .u64 y x := by
  unfold bits; simp [BitVec.or_comm]
def rotr (x n : Int) : Int := bits .or .u64 (IntKind.u64.wrap (x * 2 ^ (64 - n).toNat)) (x / 2 ^ n.toNat)
def turnF (x a b : Int) : Int := bits .xor .u64 (bits .xor .u64 x (rotr x a)) (rotr x b)
set_option maxHeartbeats 400000 in
theorem rot_any (x : Int) (n : Int) (w : World) (h0 : 0 ≤ x) (h1 : x < 18446744073709551616) (hk : 1 ≤ n) (hk1 : n ≤ 63) :
    Calls Tryz.prog 164 #[.int .u64 x, .int .i64 (-n)] w fun e w' => e = .returned (.int .u64 (rotr x n)) ∧ w = w' := by
  have hb := and63 n hk hk1
  have s0 : 0 ≤ 64 - n := by omega
  have e1 : rotr x n = bits .or .u64 (IntKind.u64.wrap (x * 2 ^ (64 - n).toNat)) (x / 2 ^ (64 - (64 - n)).toNat) := by
    unfold rotr; rw [show (64 : Int) - (64 - n) = n by omega]
  rw [e1]; clear e1
  go_enter Tryz.func164, Tryz.ntmps164
  go_wp2
  go_ret
  exact ⟨rfl, rfl⟩
set_option maxHeartbeats 400000 in
theorem turned_any (x a b : Int) (w : World) (h0 : 0 ≤ x) (h1 : x < 18446744073709551616) (ha : 1 ≤ a) (ha1 : a ≤ 63) (hb : 1 ≤ b) (hb1 : b ≤ 63) :
    Calls Tryz.prog 163 #[.int .u64 x, .int .i64 a, .int .i64 b] w fun e w' => e = .returned (.int .u64 (turnF x a b)) ∧ w = w' := by
  go_enter Tryz.func163, Tryz.ntmps163
  go_wp2_with fail
  refine (rot_any x a _ h0 h1 ha ha1).mono ?_
  rintro e w1 ⟨rfl, rfl⟩
  go_wp2_with fail
  refine (rot_any x b _ h0 h1 hb hb1).mono ?_
  rintro e w1 ⟨rfl, rfl⟩
  go_wp2_with fail
  go_ret
  exact ⟨rfl, rfl⟩
set_option maxHeartbeats 400000 in
theorem turn_any (x n : Int) (w : World) (h0 : 0 ≤ x) (h1 : x < 18446744073709551616) (ha : 1 ≤ n) (ha1 : n ≤ 63) :
    Calls Tryz.prog 159 #[.int .u64 x, .int .i64 n] w fun e w' => e = .returned (.int .u64 (rotr x n)) ∧ Dr w w' := by
  have s0 : 0 ≤ 64 - n := by omega
  have s1 : 0 ≤ n := by omega
  have e1 : rotr x n = bits .or .u64 (x / 2 ^ n.toNat) (IntKind.u64.wrap (x * 2 ^ (64 - n).toNat)) := or_comm64 _ _
  rw [e1]; clear e1
  go_enter Tryz.func159, Tryz.ntmps159
  go_wp2
  go_quiet (fail)
  go_wp2
  go_ret
  exact ⟨rfl, by first | exact Dr.refl _ | exact ⟨_, rfl⟩⟩
end Go.Proofs.YtdjcclcejmeheaaGreat
end
section
namespace Go.Proofs.YtdjcclcejmeheaaGreat
set_option linter.unusedVariables false
set_option linter.unusedSimpArgs false
open Go.RowKit
/-- Five words. -/
structure St where
  a : Int
  b : Int
  c : Int
  d : Int
  e : Int
def St.cells (s : St) : Array Value := #[.int .u64 s.a, .int .u64 s.b, .int .u64 s.c, .int .u64 s.d, .int .u64 s.e]
def St.ok (s : St) : Prop := (0 ≤ s.a ∧ s.a < 18446744073709551616) ∧ (0 ≤ s.b ∧ s.b < 18446744073709551616) ∧ (0 ≤ s.c ∧ s.c < 18446744073709551616) ∧ (0 ≤ s.d ∧ s.d < 18446744073709551616) ∧ (0 ≤ s.e ∧ s.e < 18446744073709551616)
def bxor (x y : Int) : Int := bits .xor .u64 x y
def band (x y : Int) : Int := bits .and .u64 x y
def bnot (x : Int) : Int := bits .xor .u64 IntKind.u64.max x
theorem turnF_bd (x a b : Int) : 0 ≤ turnF x a b ∧ turnF x a b < 18446744073709551616 := bits_bd _ _ _
/-- The first two steps of a round. -/
def chi (x y z : Int) : Int := bxor x (band (bnot y) z)
def roundF (s : St) (k : Int) : St :=
  let a := bxor s.a s.e
  let b := s.b
  let c := bxor (bxor s.c k) s.b
  let d := s.d
  let e := bxor s.e s.d
  let t0 := bxor (chi a b c) (chi e a b)
  let t1 := bxor (chi b c d) (chi a b c)
  let t2 := bnot (chi c d e)
  let t3 := bxor (chi d e a) (chi c d e)
  let t4 := chi e a b
  ⟨turnF t0 19 28, turnF t1 61 39, turnF t2 1 6, turnF t3 10 17, turnF t4 7 41⟩
theorem roundF_ok (s : St) (k : Int) : (roundF s k).ok := ⟨turnF_bd _ _ _, turnF_bd _ _ _, turnF_bd _ _ _, turnF_bd _ _ _, turnF_bd _ _ _⟩
theorem arr5_info : (Tryz.prog.info? 178).map (·.size) = some 5 := by kernel_rfl
theorem heap_alloc3_mid (w : World) (A B C : Obj) : (((w.alloc A).alloc B).alloc C).heap[w.heap.size + 1]? = some B := by
  show (((w.heap.push A).push B).push C)[w.heap.size + 1]? = some B
  rw [Array.getElem?_push, if_neg (by simp), Array.getElem?_push, if_pos (by simp)]
def tcells (t0 t1 t2 t3 t4 : Int) : Nat → Array Value
  | 0 => #[.int .u64 0, .int .u64 0, .int .u64 0, .int .u64 0, .int .u64 0]
  | 1 => #[.int .u64 t0, .int .u64 0, .int .u64 0, .int .u64 0, .int .u64 0]
  | 2 => #[.int .u64 t0, .int .u64 t1, .int .u64 0, .int .u64 0, .int .u64 0]
  | 3 => #[.int .u64 t0, .int .u64 t1, .int .u64 t2, .int .u64 0, .int .u64 0]
  | 4 => #[.int .u64 t0, .int .u64 t1, .int .u64 t2, .int .u64 t3, .int .u64 0]
  | _ => #[.int .u64 t0, .int .u64 t1, .int .u64 t2, .int .u64 t3, .int .u64 t4]
set_option maxRecDepth 100000 in
set_option maxHeartbeats 8000000 in
theorem round_any (s : St) (k : Int) (w : World) :
    Calls Tryz.prog 158 #[.agg s.cells, .int .u64 k] w fun e w' => e = .returned (.agg (roundF s k).cells) ∧ Below w.heap.size w w' := by
  obtain ⟨a, b, c, d, e⟩ := s
  show Calls _ _ #[.agg #[.int .u64 a, .int .u64 b, .int .u64 c, .int .u64 d, .int .u64 e], .int .u64 k] w _
  obtain ⟨A, hA⟩ : ∃ q, bits .xor .u64 a e = q := ⟨_, rfl⟩
  have HA := Lib.hid hA
  clear hA
  obtain ⟨C, hC⟩ : ∃ q, bits .xor .u64 (bits .xor .u64 c k) b = q := ⟨_, rfl⟩
  have HC := Lib.hid hC
  clear hC
  obtain ⟨E, hE⟩ : ∃ q, bits .xor .u64 e d = q := ⟨_, rfl⟩
  have HE := Lib.hid hE
  clear hE
  obtain ⟨T0, hT0⟩ : ∃ q, bits .xor .u64 A (bits .and .u64 (bits .xor .u64 IntKind.u64.max b) C) = q := ⟨_, rfl⟩
  have HT0 := Lib.hid hT0
  clear hT0
  obtain ⟨T1, hT1⟩ : ∃ q, bits .xor .u64 b (bits .and .u64 (bits .xor .u64 IntKind.u64.max C) d) = q := ⟨_, rfl⟩
  have HT1 := Lib.hid hT1
  clear hT1
  obtain ⟨T2, hT2⟩ : ∃ q, bits .xor .u64 C (bits .and .u64 (bits .xor .u64 IntKind.u64.max d) E) = q := ⟨_, rfl⟩
  have HT2 := Lib.hid hT2
  clear hT2
  obtain ⟨T3, hT3⟩ : ∃ q, bits .xor .u64 d (bits .and .u64 (bits .xor .u64 IntKind.u64.max E) A) = q := ⟨_, rfl⟩
  have HT3 := Lib.hid hT3
  clear hT3
  obtain ⟨T4, hT4⟩ : ∃ q, bits .xor .u64 E (bits .and .u64 (bits .xor .u64 IntKind.u64.max A) b) = q := ⟨_, rfl⟩
  have HT4 := Lib.hid hT4
  clear hT4
  obtain ⟨U1, hU1⟩ : ∃ q, bits .xor .u64 T1 T0 = q := ⟨_, rfl⟩
  have HU1 := Lib.hid hU1
  clear hU1
  obtain ⟨U0, hU0⟩ : ∃ q, bits .xor .u64 T0 T4 = q := ⟨_, rfl⟩
  have HU0 := Lib.hid hU0
  clear hU0
  obtain ⟨U3, hU3⟩ : ∃ q, bits .xor .u64 T3 T2 = q := ⟨_, rfl⟩
  have HU3 := Lib.hid hU3
  clear hU3
  obtain ⟨U2, hU2⟩ : ∃ q, bits .xor .u64 IntKind.u64.max T2 = q := ⟨_, rfl⟩
  have HU2 := Lib.hid hU2
  clear hU2
  obtain ⟨lU0, rU0⟩ : 0 ≤ U0 ∧ U0 < 18446744073709551616 := by rw [← HU0.out]; exact bits_bd _ _ _
  obtain ⟨lU1, rU1⟩ : 0 ≤ U1 ∧ U1 < 18446744073709551616 := by rw [← HU1.out]; exact bits_bd _ _ _
  obtain ⟨lU2, rU2⟩ : 0 ≤ U2 ∧ U2 < 18446744073709551616 := by rw [← HU2.out]; exact bits_bd _ _ _
  obtain ⟨lU3, rU3⟩ : 0 ≤ U3 ∧ U3 < 18446744073709551616 := by rw [← HU3.out]; exact bits_bd _ _ _
  obtain ⟨lT4, rT4⟩ : 0 ≤ T4 ∧ T4 < 18446744073709551616 := by rw [← HT4.out]; exact bits_bd _ _ _
  have hA := HA.out
  have hC := HC.out
  have hE := HE.out
  have HR : Hid (#[Value.int .u64 (turnF U0 19 28), .int .u64 (turnF U1 61 39), .int .u64 (turnF U2 1 6), .int .u64 (turnF U3 10 17), .int .u64 (turnF T4 7 41)] = (roundF ⟨a, b, c, d, e⟩ k).cells) := by
    show _ = _
    clear hA hC hE
    have hA := HA.out
    have hC := HC.out
    have hE := HE.out
    have hT0 := HT0.out
    have hT1 := HT1.out
    have hT2 := HT2.out
    have hT3 := HT3.out
    have hT4 := HT4.out
    have hU1 := HU1.out
    have hU0 := HU0.out
    have hU3 := HU3.out
    have hU2 := HU2.out
    subst hU2
    subst hU3
    subst hU0
    subst hU1
    subst hT4
    subst hT3
    subst hT2
    subst hT1
    subst hT0
    subst hE
    subst hC
    subst hA
    rfl
  go_enter Tryz.func158, Tryz.ntmps158
  go_wp2_with fail
  clear hA hC hE
  go_loopw [30] (fun v30 wr => ∃ i n : Nat, v30 = .int .i64 i ∧ i ≤ 5 ∧ wr = ((((w.alloc (.cells #[.int .u64 A, .int .u64 b, .int .u64 C, .int .u64 d, .int .u64 E] 178)).alloc (.cells #[.int .u64 0, .int .u64 0, .int .u64 0, .int .u64 0, .int .u64 0] 178)).alloc (.cells (tcells T0 T1 T2 T3 T4 i) 178))).drewN n) (fun v30 _ => 5 - (intOf v30).toNat)
  case atStart => exact ⟨0, 0, rfl, by omega, rfl⟩
  case round =>
    obtain ⟨i, n, rfl, hi, rfl⟩ := hrel
    obtain rfl | rfl | rfl | rfl | rfl | rfl : i = 0 ∨ i = 1 ∨ i = 2 ∨ i = 3 ∨ i = 4 ∨ i = 5 := by omega
    all_goals (simp only [tcells])
    all_goals clear hi
    · go_wp2_with fail
      go_region
      go_wp2_with fail
      go_roundw
      case rel => exact ⟨1, n + 1, rfl, by omega, by rw [← HT0.out]; rfl⟩
      case measure => simp [intOf]
    · go_wp2_with fail
      go_region
      go_wp2_with fail
      go_roundw
      case rel => exact ⟨2, n + 1, rfl, by omega, by rw [← HT1.out]; rfl⟩
      case measure => simp [intOf]
    · go_wp2_with fail
      go_region
      go_wp2_with fail
      go_roundw
      case rel => exact ⟨3, n + 1, rfl, by omega, by rw [← HT2.out]; rfl⟩
      case measure => simp [intOf]
    · go_wp2_with fail
      go_region
      go_wp2_with fail
      go_roundw
      case rel => exact ⟨4, n + 1, rfl, by omega, by rw [← HT3.out]; rfl⟩
      case measure => simp [intOf]
    · go_wp2_with fail
      go_region
      go_wp2_with fail
      go_roundw
      case rel => exact ⟨5, n + 1, rfl, by omega, by rw [← HT4.out]; rfl⟩
      case measure => simp [intOf]
    · have hU0 := HU0.out
      have hU1 := HU1.out
      have hU2 := HU2.out
      have hU3 := HU3.out
      go_wp2_with fail
      clear hU0 hU1 hU2 hU3
      refine wp_world (fun w' => (w'.cell? ⟨w.heap.size + 1 + 1, 0, none⟩ = some (.int .u64 U0) ∧ w'.cell? ⟨w.heap.size + 1 + 1, 1, none⟩ = some (.int .u64 U1) ∧ w'.cell? ⟨w.heap.size + 1 + 1, 2, none⟩ = some (.int .u64 U2) ∧ w'.cell? ⟨w.heap.size + 1 + 1, 3, none⟩ = some (.int .u64 U3) ∧ w'.cell? ⟨w.heap.size + 1 + 1, 4, none⟩ = some (.int .u64 T4) ∧ w'.cell? ⟨w.heap.size + 1, 0, none⟩ = some (.int .u64 0) ∧ w'.cell? ⟨w.heap.size + 1, 1, none⟩ = some (.int .u64 0) ∧ w'.cell? ⟨w.heap.size + 1, 2, none⟩ = some (.int .u64 0) ∧ w'.cell? ⟨w.heap.size + 1, 3, none⟩ = some (.int .u64 0) ∧ w'.cell? ⟨w.heap.size + 1, 4, none⟩ = some (.int .u64 0) ∧ w'.frozen? ⟨w.heap.size + 1, 0, none⟩ = false ∧ w'.frozen? ⟨w.heap.size + 1, 1, none⟩ = false ∧ w'.frozen? ⟨w.heap.size + 1, 2, none⟩ = false ∧ w'.frozen? ⟨w.heap.size + 1, 3, none⟩ = false ∧ w'.frozen? ⟨w.heap.size + 1, 4, none⟩ = false) ∧ Below w.heap.size w w') ⟨by simp [go_sem], by repeat (first | exact Below.refl _ _ | apply bl_alloc | apply bl_drewN | apply Below.drew)⟩ ?_
      rintro W ⟨⟨c0, c1, c2, c3, c4, c5, c6, c7, c8, c9, c10, c11, c12, c13, c14⟩, hbw⟩
      go_region_held3 (fun w' => w'.cell? ⟨w.heap.size + 1 + 1, 0, none⟩ = some (.int .u64 U0) ∧ w'.cell? ⟨w.heap.size + 1 + 1, 1, none⟩ = some (.int .u64 U1) ∧ w'.cell? ⟨w.heap.size + 1 + 1, 2, none⟩ = some (.int .u64 U2) ∧ w'.cell? ⟨w.heap.size + 1 + 1, 3, none⟩ = some (.int .u64 U3) ∧ w'.cell? ⟨w.heap.size + 1 + 1, 4, none⟩ = some (.int .u64 T4)) (simp [*, World.cell?_setCell_far])
        (first
          | (go_at_call_of 163 (Value.int .u64 U0); refine (turned_any U0 19 28 _ (by omega) (by omega) (by omega) (by omega) (by omega) (by omega)).mono ?_; rintro e w' ⟨rfl, rfl⟩)
          | (go_at_call_of 163 (Value.int .u64 U1); refine (turned_any U1 61 39 _ (by omega) (by omega) (by omega) (by omega) (by omega) (by omega)).mono ?_; rintro e w' ⟨rfl, rfl⟩)
          | (go_at_call_of 163 (Value.int .u64 U2); refine (turned_any U2 1 6 _ (by omega) (by omega) (by omega) (by omega) (by omega) (by omega)).mono ?_; rintro e w' ⟨rfl, rfl⟩)
          | (go_at_call_of 163 (Value.int .u64 U3); refine (turned_any U3 10 17 _ (by omega) (by omega) (by omega) (by omega) (by omega) (by omega)).mono ?_; rintro e w' ⟨rfl, rfl⟩)
          | (go_at_call_of 163 (Value.int .u64 T4); refine (turned_any T4 7 41 _ (by omega) (by omega) (by omega) (by omega) (by omega) (by omega)).mono ?_; rintro e w' ⟨rfl, rfl⟩))
      go_wp2_with fail
      refine bodyPost_ret (v := .agg #[Value.int .u64 (turnF U0 19 28), .int .u64 (turnF U1 61 39), .int .u64 (turnF U2 1 6), .int .u64 (turnF U3 10 17), .int .u64 (turnF T4 7 41)]) (by simp [results, Tryz.results158, go_sem, c5, c6, c7, c8, c9]) rfl ⟨by rw [HR.out], ?_⟩
      repeat (first | exact hbw | apply Below.drew | refine Below.setCell ?_ (by simp) _)
end Go.Proofs.YtdjcclcejmeheaaGreat
end
section
namespace Go.Proofs.YtdjcclcejmeheaaGreat
set_option linter.unusedVariables false
set_option linter.unusedSimpArgs false
open Go.RowKit
set_option maxRecDepth 100000 in
set_option maxHeartbeats 8000000 in
theorem rround_any (s : St) (k : Int) (w : World) :
    Calls Tryz.prog 152 #[.agg s.cells, .int .u64 k] w fun e w' => e = .returned (.agg (roundF s k).cells) ∧ Below w.heap.size w w' := by
  obtain ⟨a, b, c, d, e⟩ := s
  show Calls _ _ #[.agg #[.int .u64 a, .int .u64 b, .int .u64 c, .int .u64 d, .int .u64 e], .int .u64 k] w _
  obtain ⟨A, hA⟩ : ∃ q, bits .xor .u64 a e = q := ⟨_, rfl⟩
  have HA := Lib.hid hA
  clear hA
  obtain ⟨C, hC⟩ : ∃ q, bits .xor .u64 (bits .xor .u64 c k) b = q := ⟨_, rfl⟩
  have HC := Lib.hid hC
  clear hC
  obtain ⟨E, hE⟩ : ∃ q, bits .xor .u64 e d = q := ⟨_, rfl⟩
  have HE := Lib.hid hE
  clear hE
  obtain ⟨T0, hT0⟩ : ∃ q, bits .xor .u64 A (bits .and .u64 (bits .xor .u64 IntKind.u64.max b) C) = q := ⟨_, rfl⟩
  have HT0 := Lib.hid hT0
  clear hT0
  obtain ⟨T1, hT1⟩ : ∃ q, bits .xor .u64 b (bits .and .u64 (bits .xor .u64 IntKind.u64.max C) d) = q := ⟨_, rfl⟩
  have HT1 := Lib.hid hT1
  clear hT1
  obtain ⟨T2, hT2⟩ : ∃ q, bits .xor .u64 C (bits .and .u64 (bits .xor .u64 IntKind.u64.max d) E) = q := ⟨_, rfl⟩
  have HT2 := Lib.hid hT2
  clear hT2
  obtain ⟨T3, hT3⟩ : ∃ q, bits .xor .u64 d (bits .and .u64 (bits .xor .u64 IntKind.u64.max E) A) = q := ⟨_, rfl⟩
  have HT3 := Lib.hid hT3
  clear hT3
  obtain ⟨T4, hT4⟩ : ∃ q, bits .xor .u64 E (bits .and .u64 (bits .xor .u64 IntKind.u64.max A) b) = q := ⟨_, rfl⟩
  have HT4 := Lib.hid hT4
  clear hT4
  obtain ⟨U1, hU1⟩ : ∃ q, bits .xor .u64 T1 T0 = q := ⟨_, rfl⟩
  have HU1 := Lib.hid hU1
  clear hU1
  obtain ⟨U0, hU0⟩ : ∃ q, bits .xor .u64 T0 T4 = q := ⟨_, rfl⟩
  have HU0 := Lib.hid hU0
  clear hU0
  obtain ⟨U3, hU3⟩ : ∃ q, bits .xor .u64 T3 T2 = q := ⟨_, rfl⟩
  have HU3 := Lib.hid hU3
  clear hU3
  obtain ⟨U2, hU2⟩ : ∃ q, bits .xor .u64 IntKind.u64.max T2 = q := ⟨_, rfl⟩
  have HU2 := Lib.hid hU2
  clear hU2
  obtain ⟨lU0, rU0⟩ : 0 ≤ U0 ∧ U0 < 18446744073709551616 := by rw [← HU0.out]; exact bits_bd _ _ _
  obtain ⟨lU1, rU1⟩ : 0 ≤ U1 ∧ U1 < 18446744073709551616 := by rw [← HU1.out]; exact bits_bd _ _ _
  obtain ⟨lU2, rU2⟩ : 0 ≤ U2 ∧ U2 < 18446744073709551616 := by rw [← HU2.out]; exact bits_bd _ _ _
  obtain ⟨lU3, rU3⟩ : 0 ≤ U3 ∧ U3 < 18446744073709551616 := by rw [← HU3.out]; exact bits_bd _ _ _
  obtain ⟨lT4, rT4⟩ : 0 ≤ T4 ∧ T4 < 18446744073709551616 := by rw [← HT4.out]; exact bits_bd _ _ _
  have hA := HA.out
  have hC := HC.out
  have hE := HE.out
  have HR : Hid (#[Value.int .u64 (turnF U0 19 28), .int .u64 (turnF U1 61 39), .int .u64 (turnF U2 1 6), .int .u64 (turnF U3 10 17), .int .u64 (turnF T4 7 41)] = (roundF ⟨a, b, c, d, e⟩ k).cells) := by
    show _ = _
    clear hA hC hE
    have hA := HA.out
    have hC := HC.out
    have hE := HE.out
    have hT0 := HT0.out
    have hT1 := HT1.out
    have hT2 := HT2.out
    have hT3 := HT3.out
    have hT4 := HT4.out
    have hU1 := HU1.out
    have hU0 := HU0.out
    have hU3 := HU3.out
    have hU2 := HU2.out
    subst hU2
    subst hU3
    subst hU0
    subst hU1
    subst hT4
    subst hT3
    subst hT2
    subst hT1
    subst hT0
    subst hE
    subst hC
    subst hA
    rfl
  go_enter Tryz.func152, Tryz.ntmps152
  go_wp2_with fail
  clear hA hC hE
  go_loopw [6] (fun v30 wr => ∃ i n : Nat, v30 = .int .i64 i ∧ i ≤ 5 ∧ wr = ((((w.alloc (.cells #[.int .u64 A, .int .u64 b, .int .u64 C, .int .u64 d, .int .u64 E] 178)).alloc (.cells #[.int .u64 0, .int .u64 0, .int .u64 0, .int .u64 0, .int .u64 0] 178)).alloc (.cells (tcells T0 T1 T2 T3 T4 i) 178))).drewN n) (fun v30 _ => 5 - (intOf v30).toNat)
  case atStart => exact ⟨0, 0, rfl, by omega, rfl⟩
  case round =>
    obtain ⟨i, n, rfl, hi, rfl⟩ := hrel
    obtain rfl | rfl | rfl | rfl | rfl | rfl : i = 0 ∨ i = 1 ∨ i = 2 ∨ i = 3 ∨ i = 4 ∨ i = 5 := by omega
    all_goals (simp only [tcells])
    all_goals clear hi
    · go_wp2_with fail
      go_region
      go_wp2_with fail
      go_roundw
      case rel => exact ⟨1, n + 1, rfl, by omega, by rw [← HT0.out]; rfl⟩
      case measure => simp [intOf]
    · go_wp2_with fail
      go_region
      go_wp2_with fail
      go_roundw
      case rel => exact ⟨2, n + 1, rfl, by omega, by rw [← HT1.out]; rfl⟩
      case measure => simp [intOf]
    · go_wp2_with fail
      go_region
      go_wp2_with fail
      go_roundw
      case rel => exact ⟨3, n + 1, rfl, by omega, by rw [← HT2.out]; rfl⟩
      case measure => simp [intOf]
    · go_wp2_with fail
      go_region
      go_wp2_with fail
      go_roundw
      case rel => exact ⟨4, n + 1, rfl, by omega, by rw [← HT3.out]; rfl⟩
      case measure => simp [intOf]
    · go_wp2_with fail
      go_region
      go_wp2_with fail
      go_roundw
      case rel => exact ⟨5, n + 1, rfl, by omega, by rw [← HT4.out]; rfl⟩
      case measure => simp [intOf]
    · have hU0 := HU0.out
      have hU1 := HU1.out
      have hU2 := HU2.out
      have hU3 := HU3.out
      go_wp2_with fail
      clear hU0 hU1 hU2 hU3
      refine wp_world (fun w' => (w'.cell? ⟨w.heap.size + 1 + 1, 0, none⟩ = some (.int .u64 U0) ∧ w'.cell? ⟨w.heap.size + 1 + 1, 1, none⟩ = some (.int .u64 U1) ∧ w'.cell? ⟨w.heap.size + 1 + 1, 2, none⟩ = some (.int .u64 U2) ∧ w'.cell? ⟨w.heap.size + 1 + 1, 3, none⟩ = some (.int .u64 U3) ∧ w'.cell? ⟨w.heap.size + 1 + 1, 4, none⟩ = some (.int .u64 T4) ∧ w'.cell? ⟨w.heap.size, 0, none⟩ = some (.int .u64 A) ∧ w'.cell? ⟨w.heap.size, 1, none⟩ = some (.int .u64 b) ∧ w'.cell? ⟨w.heap.size, 2, none⟩ = some (.int .u64 C) ∧ w'.cell? ⟨w.heap.size, 3, none⟩ = some (.int .u64 d) ∧ w'.cell? ⟨w.heap.size, 4, none⟩ = some (.int .u64 E) ∧ w'.frozen? ⟨w.heap.size, 0, none⟩ = false ∧ w'.frozen? ⟨w.heap.size, 1, none⟩ = false ∧ w'.frozen? ⟨w.heap.size, 2, none⟩ = false ∧ w'.frozen? ⟨w.heap.size, 3, none⟩ = false ∧ w'.frozen? ⟨w.heap.size, 4, none⟩ = false ∧ w'.heap[w.heap.size + 1]? = some (.cells #[.int .u64 0, .int .u64 0, .int .u64 0, .int .u64 0, .int .u64 0] 178 (0, 0))) ∧ Below w.heap.size w w') ⟨by (repeat' apply And.intro) <;> first | exact heap_alloc3_mid _ _ _ _ | (simp [go_sem]; done), by repeat (first | exact Below.refl _ _ | assumption | apply bl_alloc | apply bl_drewN | apply Below.drew | refine Below.setCell ?_ (by simp) _)⟩ ?_
      rintro W ⟨⟨c0, c1, c2, c3, c4, c5, c6, c7, c8, c9, c10, c11, c12, c13, c14, c15⟩, hbw⟩
      as_aux_lemma =>
      go_region_held3 (fun w' => w'.cell? ⟨w.heap.size + 1 + 1, 0, none⟩ = some (.int .u64 U0) ∧ w'.cell? ⟨w.heap.size + 1 + 1, 1, none⟩ = some (.int .u64 U1) ∧ w'.cell? ⟨w.heap.size + 1 + 1, 2, none⟩ = some (.int .u64 U2) ∧ w'.cell? ⟨w.heap.size + 1 + 1, 3, none⟩ = some (.int .u64 U3) ∧ w'.cell? ⟨w.heap.size + 1 + 1, 4, none⟩ = some (.int .u64 T4)) (simp (disch := omega) [*, cell_far])
        (first
          | (go_at_call_of 159 (Value.int .u64 U0); refine (turn_any U0 _ _ (by omega) (by omega) (by omega) (by omega)).mono ?_; rintro e w' ⟨rfl, n1, rfl⟩)
        )
      go_wp2_with fail
      refine wp_world (fun w' => (w'.cell? ⟨w.heap.size + 1 + 1, 0, none⟩ = some (.int .u64 U0) ∧ w'.cell? ⟨w.heap.size + 1 + 1, 1, none⟩ = some (.int .u64 U1) ∧ w'.cell? ⟨w.heap.size + 1 + 1, 2, none⟩ = some (.int .u64 U2) ∧ w'.cell? ⟨w.heap.size + 1 + 1, 3, none⟩ = some (.int .u64 U3) ∧ w'.cell? ⟨w.heap.size + 1 + 1, 4, none⟩ = some (.int .u64 T4) ∧ w'.cell? ⟨w.heap.size, 0, none⟩ = some (.int .u64 (turnF U0 19 28)) ∧ w'.cell? ⟨w.heap.size, 1, none⟩ = some (.int .u64 b) ∧ w'.cell? ⟨w.heap.size, 2, none⟩ = some (.int .u64 C) ∧ w'.cell? ⟨w.heap.size, 3, none⟩ = some (.int .u64 d) ∧ w'.cell? ⟨w.heap.size, 4, none⟩ = some (.int .u64 E) ∧ w'.frozen? ⟨w.heap.size, 0, none⟩ = false ∧ w'.frozen? ⟨w.heap.size, 1, none⟩ = false ∧ w'.frozen? ⟨w.heap.size, 2, none⟩ = false ∧ w'.frozen? ⟨w.heap.size, 3, none⟩ = false ∧ w'.frozen? ⟨w.heap.size, 4, none⟩ = false ∧ w'.heap[w.heap.size + 1]? = some (.cells #[.int .u64 0, .int .u64 0, .int .u64 0, .int .u64 0, .int .u64 0] 178 (0, 0))) ∧ Below w.heap.size w w') ⟨by simp (disch := omega) [*, cell_far, cell_far2, heap_far, World.cell?_setCell_same _ _ _ c5, turnF], by repeat (first | exact Below.refl _ _ | assumption | apply bl_alloc | apply bl_drewN | apply Below.drew | refine Below.setCell ?_ (by simp) _)⟩ ?_
      clear c0 c1 c2 c3 c4 c5 c6 c7 c8 c9 c10 c11 c12 c13 c14 c15 hbw
      rintro W ⟨⟨c0, c1, c2, c3, c4, c5, c6, c7, c8, c9, c10, c11, c12, c13, c14, c15⟩, hbw⟩
      as_aux_lemma =>
      go_region_held3 (fun w' => w'.cell? ⟨w.heap.size + 1 + 1, 0, none⟩ = some (.int .u64 U0) ∧ w'.cell? ⟨w.heap.size + 1 + 1, 1, none⟩ = some (.int .u64 U1) ∧ w'.cell? ⟨w.heap.size + 1 + 1, 2, none⟩ = some (.int .u64 U2) ∧ w'.cell? ⟨w.heap.size + 1 + 1, 3, none⟩ = some (.int .u64 U3) ∧ w'.cell? ⟨w.heap.size + 1 + 1, 4, none⟩ = some (.int .u64 T4)) (simp (disch := omega) [*, cell_far])
        (first
          | (go_at_call_of 159 (Value.int .u64 U1); refine (turn_any U1 _ _ (by omega) (by omega) (by omega) (by omega)).mono ?_; rintro e w' ⟨rfl, n1, rfl⟩)
        )
      go_wp2_with fail
      refine wp_world (fun w' => (w'.cell? ⟨w.heap.size + 1 + 1, 0, none⟩ = some (.int .u64 U0) ∧ w'.cell? ⟨w.heap.size + 1 + 1, 1, none⟩ = some (.int .u64 U1) ∧ w'.cell? ⟨w.heap.size + 1 + 1, 2, none⟩ = some (.int .u64 U2) ∧ w'.cell? ⟨w.heap.size + 1 + 1, 3, none⟩ = some (.int .u64 U3) ∧ w'.cell? ⟨w.heap.size + 1 + 1, 4, none⟩ = some (.int .u64 T4) ∧ w'.cell? ⟨w.heap.size, 0, none⟩ = some (.int .u64 (turnF U0 19 28)) ∧ w'.cell? ⟨w.heap.size, 1, none⟩ = some (.int .u64 (turnF U1 61 39)) ∧ w'.cell? ⟨w.heap.size, 2, none⟩ = some (.int .u64 C) ∧ w'.cell? ⟨w.heap.size, 3, none⟩ = some (.int .u64 d) ∧ w'.cell? ⟨w.heap.size, 4, none⟩ = some (.int .u64 E) ∧ w'.frozen? ⟨w.heap.size, 0, none⟩ = false ∧ w'.frozen? ⟨w.heap.size, 1, none⟩ = false ∧ w'.frozen? ⟨w.heap.size, 2, none⟩ = false ∧ w'.frozen? ⟨w.heap.size, 3, none⟩ = false ∧ w'.frozen? ⟨w.heap.size, 4, none⟩ = false ∧ w'.heap[w.heap.size + 1]? = some (.cells #[.int .u64 0, .int .u64 0, .int .u64 0, .int .u64 0, .int .u64 0] 178 (0, 0))) ∧ Below w.heap.size w w') ⟨by simp (disch := omega) [*, cell_far, cell_far2, heap_far, World.cell?_setCell_same _ _ _ c6, turnF], by repeat (first | exact Below.refl _ _ | assumption | apply bl_alloc | apply bl_drewN | apply Below.drew | refine Below.setCell ?_ (by simp) _)⟩ ?_
      clear c0 c1 c2 c3 c4 c5 c6 c7 c8 c9 c10 c11 c12 c13 c14 c15 hbw
      rintro W ⟨⟨c0, c1, c2, c3, c4, c5, c6, c7, c8, c9, c10, c11, c12, c13, c14, c15⟩, hbw⟩
      as_aux_lemma =>
      go_region_held3 (fun w' => w'.cell? ⟨w.heap.size + 1 + 1, 0, none⟩ = some (.int .u64 U0) ∧ w'.cell? ⟨w.heap.size + 1 + 1, 1, none⟩ = some (.int .u64 U1) ∧ w'.cell? ⟨w.heap.size + 1 + 1, 2, none⟩ = some (.int .u64 U2) ∧ w'.cell? ⟨w.heap.size + 1 + 1, 3, none⟩ = some (.int .u64 U3) ∧ w'.cell? ⟨w.heap.size + 1 + 1, 4, none⟩ = some (.int .u64 T4)) (simp (disch := omega) [*, cell_far])
        (first
          | (go_at_call_of 159 (Value.int .u64 U2); refine (turn_any U2 _ _ (by omega) (by omega) (by omega) (by omega)).mono ?_; rintro e w' ⟨rfl, n1, rfl⟩)
        )
      go_wp2_with fail
      refine wp_world (fun w' => (w'.cell? ⟨w.heap.size + 1 + 1, 0, none⟩ = some (.int .u64 U0) ∧ w'.cell? ⟨w.heap.size + 1 + 1, 1, none⟩ = some (.int .u64 U1) ∧ w'.cell? ⟨w.heap.size + 1 + 1, 2, none⟩ = some (.int .u64 U2) ∧ w'.cell? ⟨w.heap.size + 1 + 1, 3, none⟩ = some (.int .u64 U3) ∧ w'.cell? ⟨w.heap.size + 1 + 1, 4, none⟩ = some (.int .u64 T4) ∧ w'.cell? ⟨w.heap.size, 0, none⟩ = some (.int .u64 (turnF U0 19 28)) ∧ w'.cell? ⟨w.heap.size, 1, none⟩ = some (.int .u64 (turnF U1 61 39)) ∧ w'.cell? ⟨w.heap.size, 2, none⟩ = some (.int .u64 (turnF U2 1 6)) ∧ w'.cell? ⟨w.heap.size, 3, none⟩ = some (.int .u64 d) ∧ w'.cell? ⟨w.heap.size, 4, none⟩ = some (.int .u64 E) ∧ w'.frozen? ⟨w.heap.size, 0, none⟩ = false ∧ w'.frozen? ⟨w.heap.size, 1, none⟩ = false ∧ w'.frozen? ⟨w.heap.size, 2, none⟩ = false ∧ w'.frozen? ⟨w.heap.size, 3, none⟩ = false ∧ w'.frozen? ⟨w.heap.size, 4, none⟩ = false ∧ w'.heap[w.heap.size + 1]? = some (.cells #[.int .u64 0, .int .u64 0, .int .u64 0, .int .u64 0, .int .u64 0] 178 (0, 0))) ∧ Below w.heap.size w w') ⟨by simp (disch := omega) [*, cell_far, cell_far2, heap_far, World.cell?_setCell_same _ _ _ c7, turnF], by repeat (first | exact Below.refl _ _ | assumption | apply bl_alloc | apply bl_drewN | apply Below.drew | refine Below.setCell ?_ (by simp) _)⟩ ?_
      clear c0 c1 c2 c3 c4 c5 c6 c7 c8 c9 c10 c11 c12 c13 c14 c15 hbw
      rintro W ⟨⟨c0, c1, c2, c3, c4, c5, c6, c7, c8, c9, c10, c11, c12, c13, c14, c15⟩, hbw⟩
      as_aux_lemma =>
      go_region_held3 (fun w' => w'.cell? ⟨w.heap.size + 1 + 1, 0, none⟩ = some (.int .u64 U0) ∧ w'.cell? ⟨w.heap.size + 1 + 1, 1, none⟩ = some (.int .u64 U1) ∧ w'.cell? ⟨w.heap.size + 1 + 1, 2, none⟩ = some (.int .u64 U2) ∧ w'.cell? ⟨w.heap.size + 1 + 1, 3, none⟩ = some (.int .u64 U3) ∧ w'.cell? ⟨w.heap.size + 1 + 1, 4, none⟩ = some (.int .u64 T4)) (simp (disch := omega) [*, cell_far])
        (first
          | (go_at_call_of 159 (Value.int .u64 U3); refine (turn_any U3 _ _ (by omega) (by omega) (by omega) (by omega)).mono ?_; rintro e w' ⟨rfl, n1, rfl⟩)
        )
      go_wp2_with fail
      refine wp_world (fun w' => (w'.cell? ⟨w.heap.size + 1 + 1, 0, none⟩ = some (.int .u64 U0) ∧ w'.cell? ⟨w.heap.size + 1 + 1, 1, none⟩ = some (.int .u64 U1) ∧ w'.cell? ⟨w.heap.size + 1 + 1, 2, none⟩ = some (.int .u64 U2) ∧ w'.cell? ⟨w.heap.size + 1 + 1, 3, none⟩ = some (.int .u64 U3) ∧ w'.cell? ⟨w.heap.size + 1 + 1, 4, none⟩ = some (.int .u64 T4) ∧ w'.cell? ⟨w.heap.size, 0, none⟩ = some (.int .u64 (turnF U0 19 28)) ∧ w'.cell? ⟨w.heap.size, 1, none⟩ = some (.int .u64 (turnF U1 61 39)) ∧ w'.cell? ⟨w.heap.size, 2, none⟩ = some (.int .u64 (turnF U2 1 6)) ∧ w'.cell? ⟨w.heap.size, 3, none⟩ = some (.int .u64 (turnF U3 10 17)) ∧ w'.cell? ⟨w.heap.size, 4, none⟩ = some (.int .u64 E) ∧ w'.frozen? ⟨w.heap.size, 0, none⟩ = false ∧ w'.frozen? ⟨w.heap.size, 1, none⟩ = false ∧ w'.frozen? ⟨w.heap.size, 2, none⟩ = false ∧ w'.frozen? ⟨w.heap.size, 3, none⟩ = false ∧ w'.frozen? ⟨w.heap.size, 4, none⟩ = false ∧ w'.heap[w.heap.size + 1]? = some (.cells #[.int .u64 0, .int .u64 0, .int .u64 0, .int .u64 0, .int .u64 0] 178 (0, 0))) ∧ Below w.heap.size w w') ⟨by simp (disch := omega) [*, cell_far, cell_far2, heap_far, World.cell?_setCell_same _ _ _ c8, turnF], by repeat (first | exact Below.refl _ _ | assumption | apply bl_alloc | apply bl_drewN | apply Below.drew | refine Below.setCell ?_ (by simp) _)⟩ ?_
      clear c0 c1 c2 c3 c4 c5 c6 c7 c8 c9 c10 c11 c12 c13 c14 c15 hbw
      rintro W ⟨⟨c0, c1, c2, c3, c4, c5, c6, c7, c8, c9, c10, c11, c12, c13, c14, c15⟩, hbw⟩
      as_aux_lemma =>
      go_region_held3 (fun w' => w'.cell? ⟨w.heap.size + 1 + 1, 0, none⟩ = some (.int .u64 U0) ∧ w'.cell? ⟨w.heap.size + 1 + 1, 1, none⟩ = some (.int .u64 U1) ∧ w'.cell? ⟨w.heap.size + 1 + 1, 2, none⟩ = some (.int .u64 U2) ∧ w'.cell? ⟨w.heap.size + 1 + 1, 3, none⟩ = some (.int .u64 U3) ∧ w'.cell? ⟨w.heap.size + 1 + 1, 4, none⟩ = some (.int .u64 T4)) (simp (disch := omega) [*, cell_far])
        (first
          | (go_at_call_of 159 (Value.int .u64 T4); refine (turn_any T4 _ _ (by omega) (by omega) (by omega) (by omega)).mono ?_; rintro e w' ⟨rfl, n1, rfl⟩)
        )
      go_upto_region 19 with (fail)
      refine wp_world (fun w' => (w'.cell? ⟨w.heap.size + 1 + 1, 0, none⟩ = some (.int .u64 U0) ∧ w'.cell? ⟨w.heap.size + 1 + 1, 1, none⟩ = some (.int .u64 U1) ∧ w'.cell? ⟨w.heap.size + 1 + 1, 2, none⟩ = some (.int .u64 U2) ∧ w'.cell? ⟨w.heap.size + 1 + 1, 3, none⟩ = some (.int .u64 U3) ∧ w'.cell? ⟨w.heap.size + 1 + 1, 4, none⟩ = some (.int .u64 T4) ∧ w'.cell? ⟨w.heap.size, 0, none⟩ = some (.int .u64 (turnF U0 19 28)) ∧ w'.cell? ⟨w.heap.size, 1, none⟩ = some (.int .u64 (turnF U1 61 39)) ∧ w'.cell? ⟨w.heap.size, 2, none⟩ = some (.int .u64 (turnF U2 1 6)) ∧ w'.cell? ⟨w.heap.size, 3, none⟩ = some (.int .u64 (turnF U3 10 17)) ∧ w'.cell? ⟨w.heap.size, 4, none⟩ = some (.int .u64 (turnF T4 7 41)) ∧ w'.frozen? ⟨w.heap.size, 0, none⟩ = false ∧ w'.frozen? ⟨w.heap.size, 1, none⟩ = false ∧ w'.frozen? ⟨w.heap.size, 2, none⟩ = false ∧ w'.frozen? ⟨w.heap.size, 3, none⟩ = false ∧ w'.frozen? ⟨w.heap.size, 4, none⟩ = false ∧ w'.heap[w.heap.size + 1]? = some (.cells #[.int .u64 0, .int .u64 0, .int .u64 0, .int .u64 0, .int .u64 0] 178 (0, 0))) ∧ Below w.heap.size w w') ⟨by simp (disch := omega) [*, cell_far, cell_far2, heap_far, World.cell?_setCell_same _ _ _ c9, turnF], by repeat (first | exact Below.refl _ _ | assumption | apply bl_alloc | apply bl_drewN | apply Below.drew | refine Below.setCell ?_ (by simp) _)⟩ ?_
      clear c0 c1 c2 c3 c4 c5 c6 c7 c8 c9 c10 c11 c12 c13 c14 c15 hbw
      rintro W ⟨⟨c0, c1, c2, c3, c4, c5, c6, c7, c8, c9, c10, c11, c12, c13, c14, c15⟩, hbw⟩
      as_aux_lemma =>
      refine wp_region_lit ?_
      go_wp2_with (refine wpList_store_row rfl 178 (.tmp 4) (.tmp 129) rfl (w.heap.size + 1) #[Value.int .u64 (turnF U0 19 28), .int .u64 (turnF U1 61 39), .int .u64 (turnF U2 1 6), .int .u64 (turnF U3 10 17), .int .u64 (turnF T4 7 41)] rfl rfl 178 _ c15 arr5_info rfl (by simp [Value.oneCell']) ?_)
      refine bodyPost_ret (v := .agg #[Value.int .u64 (turnF U0 19 28), .int .u64 (turnF U1 61 39), .int .u64 (turnF U2 1 6), .int .u64 (turnF U3 10 17), .int .u64 (turnF T4 7 41)]) (results_cell_row rfl _ _ (w.heap.size + 1) 178 _ (0, 0) _ rfl (setRow_heap _ _ _ _ _ _ c15) Tryz.underlying178 rfl arr5_info) rfl ⟨by rw [HR.out], below_setRow hbw (by omega)⟩
end Go.Proofs.YtdjcclcejmeheaaGreat
end
section
namespace Go.Proofs.YtdjcclcejmeheaaGreat
set_option linter.unusedVariables false
set_option linter.unusedSimpArgs false
open Go.RowKit
/-- The state behind the first n rounds. -/
def permN (s : St) : Nat → St
  | 0 => s
  | n + 1 => roundF (permN s n) (240 - 15 * n)
def permF (s : St) : St := permN s 12
theorem St.size_cells (s : St) : s.cells.size = 5 := rfl
theorem St.one_cells (s : St) : s.cells.all (·.oneCell') = true := by cases s; simp [St.cells, Value.oneCell']
/-- What a block of five words and the one behind it hold. -/
def Five (w : World) (s : St) (wr : World) : Prop :=
  wr.heap[w.heap.size]? = some (.cells s.cells 178 (0, 0)) ∧ (∃ z : St, wr.heap[w.heap.size + 1]? = some (.cells z.cells 178 (0, 0))) ∧ Below w.heap.size w wr
set_option maxRecDepth 100000 in
set_option maxHeartbeats 4000000 in
theorem perm_any (s : St) (w : World) :
    Calls Tryz.prog 147 #[.agg s.cells] w fun e w' => e = .returned (.agg (permF s).cells) ∧ Below w.heap.size w w' := by
  go_enter Tryz.func147, Tryz.ntmps147
  go_wp2_with fail
  go_loopw [4] (fun v4 wr => ∃ i : Nat, v4 = .int .i64 i ∧ i ≤ 12 ∧ Five w (permN s i) wr) (fun v4 _ => 12 - (intOf v4).toNat)
  case atStart => exact ⟨0, rfl, by omega, by simp [heap_alloc2_old, permN], ⟨⟨0, 0, 0, 0, 0⟩, heap_alloc2_new _ _ _⟩, bl_alloc (bl_alloc (Below.refl _ _) _) _⟩
  case round =>
    obtain ⟨i, rfl, hi, h0, ⟨z, h1⟩, hb⟩ := hrel
    by_cases hlt : i < 12
    · go_upto_region 4 with fail
      refine wp_region_lit ?_
      refine wpList_load_row rfl 178 (.tmp 1) rfl w.heap.size rfl 178 _ (0, 0) _ h0 Tryz.underlying178 rfl arr5_info ?_
      have hs : IntKind.u64.wrap (240 - 15 * (i : Int)) = 240 - 15 * (i : Int) := by rw [IntKind.wrap_u64]; omega
      go_wp2_with fail
      refine (round_any (permN s i) _ _).mono ?_
      rintro e w1 ⟨rfl, hb1⟩
      have k0 : w1.heap[w.heap.size]? = some (.cells (permN s i).cells 178 (0, 0)) := by rw [hb1.block _ (Array.getElem?_eq_some_iff.1 h0).1]; exact h0
      have k1 : w1.heap[w.heap.size + 1]? = some (.cells z.cells 178 (0, 0)) := by rw [hb1.block _ (Array.getElem?_eq_some_iff.1 h1).1]; exact h1
      have HB := Lib.hid (hb.trans (hb1.mono hb.size))
      have K1 := Lib.hid k1
      have K0 := Lib.hid k0
      clear hb hb1 h0 h1 k1 k0
      go_wp2_with (refine wpList_store_row rfl 178 (.tmp 1) (.tmp 12) rfl w.heap.size (permN s (i + 1)).cells rfl rfl 178 _ K0.out arr5_info rfl (St.one_cells _) ?_)
      go_roundw
      case rel => exact ⟨i + 1, by go_num, by omega, setRow_heap _ _ _ _ _ _ K0.out, ⟨z, by rw [setRow_other _ _ _ _ (by omega)]; exact K1.out⟩, below_setRow HB.out (Nat.le_refl _)⟩
      case measure => simp [intOf]; omega
    · have : i = 12 := by omega
      subst this
      go_upto_region 6 with fail
      refine wp_region_lit ?_
      refine wpList_load_row rfl 178 (.tmp 1) rfl w.heap.size rfl 178 _ (0, 0) _ h0 Tryz.underlying178 rfl arr5_info ?_
      refine wpList_store_row rfl 178 (.tmp 2) (.tmp 14) rfl (w.heap.size + 1) (permN s 12).cells rfl rfl 178 _ h1 arr5_info rfl (St.one_cells _) ?_
      go_wp2_with fail
      refine bodyPost_ret (v := .agg (permF s).cells) (results_cell_row rfl _ _ (w.heap.size + 1) 178 _ (0, 0) _ rfl (setRow_heap _ _ _ _ _ _ h1) Tryz.underlying178 rfl arr5_info) rfl ⟨rfl, below_setRow hb (by omega)⟩
end Go.Proofs.YtdjcclcejmeheaaGreat
end
section
namespace Go.Proofs.YtdjcclcejmeheaaGreat
set_option linter.unusedVariables false
set_option linter.unusedSimpArgs false
open Go.RowKit
/-- A byte's value; the cells of bytes. -/
def bv (b : UInt8) : Value := .int .u8 (b.toNat : Int)
def bvs (l : List UInt8) : List Value := l.map bv
theorem bvs_length (l : List UInt8) : (bvs l).length = l.length := by simp [bvs]
theorem bvs_append (l m : List UInt8) : bvs (l ++ m) = bvs l ++ bvs m := by simp [bvs]
theorem bvs_one (l : List UInt8) : ∀ u ∈ bvs l, u.oneCell' = true := by
  intro u hu; simp only [bvs, List.mem_map] at hu; obtain ⟨b, _, rfl⟩ := hu; rfl
theorem bvs_get (l : List UInt8) (i : Nat) (h : i < l.length) : (bvs l)[i]? = some (bv l[i]) := by simp [bvs, h]
theorem info8 : (Tryz.prog.info? 5).map (fun i => (i.zero, i.size, i.bytes)) = some (some (.int .u8 0), 1, 1) := by kernel_rfl
/-- A slice value that reads as these bytes. -/
def Rd (w : World) (v : Value) (l : List UInt8) : Prop :=
  (v = .slice none 0 0 ∧ l = []) ∨
  ∃ b o c, v = .slice (some ⟨b, o, none⟩) l.length c ∧ l.length ≤ c ∧ c ≤ maxLen ∧ ∀ i (h : i < l.length), w.cell? ⟨b, o + i, none⟩ = some (bv l[i])
theorem Rd.nil (w : World) : Rd w (.slice none 0 0) [] := .inl ⟨rfl, rfl⟩
theorem Rd.below {w w' : World} {v : Value} {l : List UInt8} (h : Rd w v l) (hb : Below w.heap.size w w') : Rd w' v l := by
  rcases h with h | ⟨b, o, c, hv, hc, hm, hcell⟩
  · exact .inl h
  · refine .inr ⟨b, o, c, hv, hc, hm, fun i hi => ?_⟩
    have h1 := hcell i hi
    rw [hb.cell (World.block_lt_of_cell? w _ h1)]; exact h1
theorem Rd.from {a w w' : World} {v : Value} {l : List UInt8} (h : Rd a v l) (hb : Below a.heap.size a w) : Rd w v l := h.below hb
theorem Rd.drewN {w : World} {v : Value} {l : List UInt8} (h : Rd w v l) (n : Nat) : Rd (w.drewN n) v l := h
/-- What a slice of one's own holds. -/
def Own (w : World) (B : Nat) (v : Value) (l : List UInt8) : Prop := w.ownsRow B 5 1 v l.length (bvs l)
theorem Own.nil (w : World) (B : Nat) : Own w B (.slice none 0 0) [] := World.ownsRow_nil w B _ _
theorem addr_add (b o j : Nat) : (⟨b, o, none⟩ : Addr).add j = ⟨b, o + j, none⟩ := by
  unfold Addr.add; split
  · rename_i h; subst h; rfl
  · rfl
theorem Own.rd {w : World} {B : Nat} {v : Value} {l : List UInt8} (h : Own w B v l) : Rd w v l := by
  rcases h.2 with ⟨rfl, hn⟩ | ⟨g, cap, cur, rfl, hb, hg, hnc, hcm, hcs, htake⟩
  · exact .inl ⟨rfl, List.eq_nil_of_length_eq_zero hn⟩
  · refine .inr ⟨g, 0, cap, rfl, hnc, hcm, fun i hi => ?_⟩
    have := World.ownsRow.cells h (g := g) rfl i (bv l[i]) (bvs_get l i hi)
    rwa [addr_add] at this
theorem Own.mono {w : World} {B B' : Nat} {v : Value} {l : List UInt8} (h : Own w B v l) (hB : B' ≤ B) : Own w B' v l := by
  refine ⟨h.1, ?_⟩
  rcases h.2 with h | ⟨g, cap, cur, hv, hb, r⟩
  · exact .inl h
  · exact .inr ⟨g, cap, cur, hv, by omega, r⟩
theorem Own.below {w w' : World} {B : Nat} {v : Value} {l : List UInt8} (h : Own w B v l) (hb : Below w.heap.size w w') : Own w' B v l := by
  refine ⟨h.1, ?_⟩
  rcases h.2 with h | ⟨g, cap, cur, hv, hbg, hg, r⟩
  · exact .inl h
  · exact .inr ⟨g, cap, cur, hv, hbg, by rw [hb.block g (Array.getElem?_eq_some_iff.1 hg).1]; exact hg, r⟩
/-- Behind a law that ends in 'grownBy': all that was there but the row. -/
theorem below_grown {a w w' : World} {row : Option Nat} (h : Below a.heap.size a w) (hg : w.grownBy w' row) (hr : ∀ k, row = some k → a.heap.size ≤ k) : Below a.heap.size a w' :=
  h.grown hg h.size hr
theorem Own.row {w : World} {B : Nat} {v : Value} {l : List UInt8} (h : Own w B v l) : ∀ k, v.ownBlock = some k → B ≤ k := fun k hk => (World.ownsRow.lt h k hk).1
/-- append(dst, src...) of bytes, to a slice of one's own: from any bytes that read. -/
theorem append_own (w : World) (B : Nat) (ty : TypeId) {v u : Value} {l m : List UInt8} (hv : Own w B v l) (hu : Rd w u m) (hl : l.length + m.length ≤ 1099511627776) (hB : B ≤ w.heap.size) :
    ∃ v' w', (Builtin.append_ #[22, 22] ty #[v, u]).run Tryz.prog w = .ok v' w' ∧ Own w' B v' (l ++ m) ∧ w.grownBy w' v.ownBlock := by
  obtain ⟨i0, hi, hz0, hz1, hz2⟩ := info_parts info8
  rcases hu with ⟨rfl, rfl⟩ | ⟨b, o, c, rfl, hc, hm, hcell⟩
  · refine ⟨v, w, run_append_owned_none w B _ _ _ i0 1 Tryz.underlying22 hi v _ _ hv, by rw [List.append_nil]; exact hv, ⟨rfl, rfl, rfl, Nat.le_refl _, fun _ _ _ => rfl⟩⟩
  · obtain ⟨v', w', hr, h1, h2, _⟩ := run_append_own (P := Tryz.prog) w B 22 ty 5 i0 (.int .u8 0) 1 1 Tryz.underlying22 hi hz0 hz1 hz2 rfl (by decide) v l.length (bvs l) hv
      ⟨b, o, none⟩ m.length c (bvs m) (by simp [bvs]) (fun j x hx => by
        have hj : j < m.length := by have := (List.getElem?_eq_some_iff.1 hx).1; simpa [bvs] using this
        rw [bvs_get m j hj] at hx
        rw [addr_add, hcell j hj]; exact hx) (bvs_one m) (by unfold maxLen; omega) (by omega) hB
    refine ⟨v', w', hr, ?_, h2⟩
    show w'.ownsRow _ _ _ _ _ _
    rw [bvs_append, List.length_append]
    exact h1
/-- The same as the walk meets it. -/
theorem wpList_append_bytes {w : World} {ops : Array Oper} {rest : List Oper} {o : Oper} {a : Act} {Q : Exit → Act → World → Prop} (hgd : o.guard = none) (s x : Operand)
    (ho : o.op = .call { callee := .builtin .append, args := #[s, x], argTypes := #[22, 22] })
    (B : Nat) {v u : Value} {l m : List UInt8} (hs : a.eval s = v) (hx : a.eval x = u) (hv : Own w B v l) (hu : Rd w u m) (hl : l.length + m.length ≤ 1099511627776) (hB : B ≤ w.heap.size)
    (h : ∀ v' w', Own w' B v' (l ++ m) → w.grownBy w' v.ownBlock → wpList Tryz.prog ops Q rest (a.put o.dst v') w') : wpList Tryz.prog ops Q (o :: rest) a w :=
  wpList_plain hgd fun K hK => by
    obtain ⟨v', w', hr, h1, h2⟩ := append_own w B o.type hv hu hl hB
    unfold Oper.wp execOp
    simp only [ho, resolve, invoke, builtin, Sem.run_bind, Sem.run_pure, Result.andThen_ok, List.map_toArray, List.map_cons, List.map_nil, hs, hx, hr]
    exact hK _ _ (h v' w' h1 h2)
/-- A slice of one's own out of a literal block. -/
theorem own_lit (w : World) (B : Nat) (l : List UInt8) (hB : B ≤ w.heap.size) (hl : l.length ≤ maxLen) :
    Own (w.alloc (.cells (bvs l).toArray 5)) B (.slice (some ⟨w.heap.size, 0, none⟩) l.length l.length) l :=
  World.ownsRow_lit w (bvs l).toArray l.length hB hl (by simp [bvs])
end Go.Proofs.YtdjcclcejmeheaaGreat
end
section
namespace Go.Proofs.YtdjcclcejmeheaaGreat
set_option linter.unusedVariables false
set_option linter.unusedSimpArgs false
open Go.RowKit
def byt (x : Int) : UInt8 := UInt8.ofNat x.toNat
theorem bv_byt (x : Int) (h0 : 0 ≤ x) (h1 : x < 256) : bv (byt x) = .int .u8 x := by
  unfold bv byt
  rw [UInt8.toNat_ofNat_of_lt' (by show x.toNat < 256; omega)]
  congr 1; omega
/-- The eight bytes of a number, the lowest first. -/
def numB (n : Int) : List UInt8 := [byt (n % 256), byt (n / 256 % 256), byt (n / 65536 % 256), byt (n / 16777216 % 256), byt (n / 4294967296 % 256), byt (n / 1099511627776 % 256), byt (n / 281474976710656 % 256), byt (n / 72057594037927936 % 256)]
theorem numB_length (n : Int) : (numB n).length = 8 := rfl
def numCells (n : Int) : Nat → Array Value
  | 0 => #[.int .u8 0, .int .u8 0, .int .u8 0, .int .u8 0, .int .u8 0, .int .u8 0, .int .u8 0, .int .u8 0]
  | 1 => #[.int .u8 (n % 256), .int .u8 0, .int .u8 0, .int .u8 0, .int .u8 0, .int .u8 0, .int .u8 0, .int .u8 0]
  | 2 => #[.int .u8 (n % 256), .int .u8 (n / 256 % 256), .int .u8 0, .int .u8 0, .int .u8 0, .int .u8 0, .int .u8 0, .int .u8 0]
  | 3 => #[.int .u8 (n % 256), .int .u8 (n / 256 % 256), .int .u8 (n / 65536 % 256), .int .u8 0, .int .u8 0, .int .u8 0, .int .u8 0, .int .u8 0]
  | 4 => #[.int .u8 (n % 256), .int .u8 (n / 256 % 256), .int .u8 (n / 65536 % 256), .int .u8 (n / 16777216 % 256), .int .u8 0, .int .u8 0, .int .u8 0, .int .u8 0]
  | 5 => #[.int .u8 (n % 256), .int .u8 (n / 256 % 256), .int .u8 (n / 65536 % 256), .int .u8 (n / 16777216 % 256), .int .u8 (n / 4294967296 % 256), .int .u8 0, .int .u8 0, .int .u8 0]
  | 6 => #[.int .u8 (n % 256), .int .u8 (n / 256 % 256), .int .u8 (n / 65536 % 256), .int .u8 (n / 16777216 % 256), .int .u8 (n / 4294967296 % 256), .int .u8 (n / 1099511627776 % 256), .int .u8 0, .int .u8 0]
  | 7 => #[.int .u8 (n % 256), .int .u8 (n / 256 % 256), .int .u8 (n / 65536 % 256), .int .u8 (n / 16777216 % 256), .int .u8 (n / 4294967296 % 256), .int .u8 (n / 1099511627776 % 256), .int .u8 (n / 281474976710656 % 256), .int .u8 0]
  | _ => #[.int .u8 (n % 256), .int .u8 (n / 256 % 256), .int .u8 (n / 65536 % 256), .int .u8 (n / 16777216 % 256), .int .u8 (n / 4294967296 % 256), .int .u8 (n / 1099511627776 % 256), .int .u8 (n / 281474976710656 % 256), .int .u8 (n / 72057594037927936 % 256)]
theorem numCells_all (n : Int) (h : 0 ≤ n) : numCells n 8 = (bvs (numB n)).toArray := by
  simp only [numCells, numB, bvs, List.map_cons, List.map_nil]
  repeat rw [bv_byt _ (by omega) (by omega)]
set_option maxRecDepth 100000 in
set_option maxHeartbeats 4000000 in
theorem num_any (n : Int) (w : World) (h0 : 0 ≤ n) (h1 : n < 18446744073709551616) :
    Calls Tryz.prog 80 #[.int .u64 n] w fun e w' => e = .returned (.slice (some ⟨w.heap.size, 0, none⟩) 8 8) ∧ w' = w.alloc (.cells (bvs (numB n)).toArray 5) := by
  rw [← numCells_all n h0]
  have hmk : ∀ w : World, (Instr.makeSlice 22 (.int .i64 8) (.int .i64 8)).run Tryz.prog w = .ok (.slice (some ⟨w.heap.size, 0, none⟩) 8 8) (w.alloc (.cells (numCells n 0) 5)) := fun _ => by kernel_rfl
  go_enter Tryz.func80, Tryz.ntmps80
  go_wp2_with fail
  go_loopw [8] (fun v8 wr => ∃ i : Nat, v8 = .int .i64 i ∧ i ≤ 8 ∧ wr = w.alloc (.cells (numCells n i) 5)) (fun v8 _ => 8 - (intOf v8).toNat)
  case atStart => exact ⟨0, rfl, by omega, rfl⟩
  case round =>
    obtain ⟨i, rfl, hi, rfl⟩ := hrel
    obtain rfl | rfl | rfl | rfl | rfl | rfl | rfl | rfl | rfl : i = 0 ∨ i = 1 ∨ i = 2 ∨ i = 3 ∨ i = 4 ∨ i = 5 ∨ i = 6 ∨ i = 7 ∨ i = 8 := by omega
    all_goals (simp only [numCells])
    all_goals clear hi
    · go_wp2_with fail
      go_roundw
      case rel => exact ⟨1, rfl, by omega, by simp [numCells, IntKind.wrap_u8]⟩
      case measure => simp [intOf]
    · go_wp2_with fail
      go_roundw
      case rel => exact ⟨2, rfl, by omega, by simp [numCells, IntKind.wrap_u8]⟩
      case measure => simp [intOf]
    · go_wp2_with fail
      go_roundw
      case rel => exact ⟨3, rfl, by omega, by simp [numCells, IntKind.wrap_u8]⟩
      case measure => simp [intOf]
    · go_wp2_with fail
      go_roundw
      case rel => exact ⟨4, rfl, by omega, by simp [numCells, IntKind.wrap_u8]⟩
      case measure => simp [intOf]
    · go_wp2_with fail
      go_roundw
      case rel => exact ⟨5, rfl, by omega, by simp [numCells, IntKind.wrap_u8]⟩
      case measure => simp [intOf]
    · go_wp2_with fail
      go_roundw
      case rel => exact ⟨6, rfl, by omega, by simp [numCells, IntKind.wrap_u8]⟩
      case measure => simp [intOf]
    · go_wp2_with fail
      go_roundw
      case rel => exact ⟨7, rfl, by omega, by simp [numCells, IntKind.wrap_u8]⟩
      case measure => simp [intOf]
    · go_wp2_with fail
      go_roundw
      case rel => exact ⟨8, rfl, by omega, by simp only [numCells, IntKind.wrap_u8]; rw [show n / 72057594037927936 % 256 = n / 72057594037927936 by omega]⟩
      case measure => simp [intOf]
    · go_wp2_with fail
      go_ret
      exact ⟨rfl, rfl⟩
/-- A slice of one's own that holds these bytes is handed back; what was there stays. -/
def GivesOwn (w : World) (l : List UInt8) (e : Ending) (w' : World) : Prop := ∃ v, e = .returned v ∧ Own w' w.heap.size v l ∧ Below w.heap.size w w'
theorem rd_one (w : World) (x : Int) (h0 : 0 ≤ x) (h1 : x < 256) : Rd (w.alloc (.cells #[.int .u8 x] 5)) (.slice (some ⟨w.heap.size, 0, none⟩) 1 1) [byt x] := by
  rw [← bv_byt x h0 h1]
  exact (own_lit w 0 [byt x] (by omega) (by simp [maxLen])).rd
set_option maxRecDepth 100000 in
set_option maxHeartbeats 4000000 in
theorem rnum_any (n : Int) (w : World) (h0 : 0 ≤ n) (h1 : n < 18446744073709551616) :
    Calls Tryz.prog 93 #[.int .u64 n] w (GivesOwn w (numB n)) := by
  go_enter Tryz.func93, Tryz.ntmps93
  go_wp2_with fail
  go_loopw [3, 4] (fun v3 v4 wr => ∃ i : Nat, v4 = .int .i64 i ∧ i ≤ 8 ∧ Own wr w.heap.size v3 ((numB n).take i) ∧ Below w.heap.size w wr) (fun _ v4 _ => 8 - (intOf v4).toNat)
  case atStart => exact ⟨0, rfl, by omega, Own.nil _ _, Below.refl _ _⟩
  case round =>
    obtain ⟨i, rfl, hi, ho, hb⟩ := hrel
    obtain rfl | rfl | rfl | rfl | rfl | rfl | rfl | rfl | rfl : i = 0 ∨ i = 1 ∨ i = 2 ∨ i = 3 ∨ i = 4 ∨ i = 5 ∨ i = 6 ∨ i = 7 ∨ i = 8 := by omega
    all_goals clear hi
    · have HO := Lib.hid ho
      have HB := Lib.hid hb
      clear ho hb
      have hw : IntKind.u8.wrap (n) = n % 256 := by rw [IntKind.wrap_u8]
      go_wp2_with (at_builtin; refine wpList_append_bytes rfl (.tmp 9) (.tmp 15) rfl w.heap.size rfl rfl (HO.out.alloc _) (rd_one _ (n % 256) (by omega) (by omega)) (by simp [numB]) (by have := HB.out.size; simp; omega) ?_; intro v' w' ho hg)
      go_roundw
      case rel => exact ⟨1, rfl, by omega, ho, below_grown (bl_alloc HB.out _) hg HO.out.row⟩
      case measure => simp [intOf]
    · have HO := Lib.hid ho
      have HB := Lib.hid hb
      clear ho hb
      have hw : IntKind.u8.wrap (n / 256) = n / 256 % 256 := by rw [IntKind.wrap_u8]
      go_wp2_with (at_builtin; refine wpList_append_bytes rfl (.tmp 9) (.tmp 15) rfl w.heap.size rfl rfl (HO.out.alloc _) (rd_one _ (n / 256 % 256) (by omega) (by omega)) (by simp [numB]) (by have := HB.out.size; simp; omega) ?_; intro v' w' ho hg)
      go_roundw
      case rel => exact ⟨2, rfl, by omega, ho, below_grown (bl_alloc HB.out _) hg HO.out.row⟩
      case measure => simp [intOf]
    · have HO := Lib.hid ho
      have HB := Lib.hid hb
      clear ho hb
      have hw : IntKind.u8.wrap (n / 65536) = n / 65536 % 256 := by rw [IntKind.wrap_u8]
      go_wp2_with (at_builtin; refine wpList_append_bytes rfl (.tmp 9) (.tmp 15) rfl w.heap.size rfl rfl (HO.out.alloc _) (rd_one _ (n / 65536 % 256) (by omega) (by omega)) (by simp [numB]) (by have := HB.out.size; simp; omega) ?_; intro v' w' ho hg)
      go_roundw
      case rel => exact ⟨3, rfl, by omega, ho, below_grown (bl_alloc HB.out _) hg HO.out.row⟩
      case measure => simp [intOf]
    · have HO := Lib.hid ho
      have HB := Lib.hid hb
      clear ho hb
      have hw : IntKind.u8.wrap (n / 16777216) = n / 16777216 % 256 := by rw [IntKind.wrap_u8]
      go_wp2_with (at_builtin; refine wpList_append_bytes rfl (.tmp 9) (.tmp 15) rfl w.heap.size rfl rfl (HO.out.alloc _) (rd_one _ (n / 16777216 % 256) (by omega) (by omega)) (by simp [numB]) (by have := HB.out.size; simp; omega) ?_; intro v' w' ho hg)
      go_roundw
      case rel => exact ⟨4, rfl, by omega, ho, below_grown (bl_alloc HB.out _) hg HO.out.row⟩
      case measure => simp [intOf]
    · have HO := Lib.hid ho
      have HB := Lib.hid hb
      clear ho hb
      have hw : IntKind.u8.wrap (n / 4294967296) = n / 4294967296 % 256 := by rw [IntKind.wrap_u8]
      go_wp2_with (at_builtin; refine wpList_append_bytes rfl (.tmp 9) (.tmp 15) rfl w.heap.size rfl rfl (HO.out.alloc _) (rd_one _ (n / 4294967296 % 256) (by omega) (by omega)) (by simp [numB]) (by have := HB.out.size; simp; omega) ?_; intro v' w' ho hg)
      go_roundw
      case rel => exact ⟨5, rfl, by omega, ho, below_grown (bl_alloc HB.out _) hg HO.out.row⟩
      case measure => simp [intOf]
    · have HO := Lib.hid ho
      have HB := Lib.hid hb
      clear ho hb
      have hw : IntKind.u8.wrap (n / 1099511627776) = n / 1099511627776 % 256 := by rw [IntKind.wrap_u8]
      go_wp2_with (at_builtin; refine wpList_append_bytes rfl (.tmp 9) (.tmp 15) rfl w.heap.size rfl rfl (HO.out.alloc _) (rd_one _ (n / 1099511627776 % 256) (by omega) (by omega)) (by simp [numB]) (by have := HB.out.size; simp; omega) ?_; intro v' w' ho hg)
      go_roundw
      case rel => exact ⟨6, rfl, by omega, ho, below_grown (bl_alloc HB.out _) hg HO.out.row⟩
      case measure => simp [intOf]
    · have HO := Lib.hid ho
      have HB := Lib.hid hb
      clear ho hb
      have hw : IntKind.u8.wrap (n / 281474976710656) = n / 281474976710656 % 256 := by rw [IntKind.wrap_u8]
      go_wp2_with (at_builtin; refine wpList_append_bytes rfl (.tmp 9) (.tmp 15) rfl w.heap.size rfl rfl (HO.out.alloc _) (rd_one _ (n / 281474976710656 % 256) (by omega) (by omega)) (by simp [numB]) (by have := HB.out.size; simp; omega) ?_; intro v' w' ho hg)
      go_roundw
      case rel => exact ⟨7, rfl, by omega, ho, below_grown (bl_alloc HB.out _) hg HO.out.row⟩
      case measure => simp [intOf]
    · have HO := Lib.hid ho
      have HB := Lib.hid hb
      clear ho hb
      have hw : IntKind.u8.wrap (n / 72057594037927936) = n / 72057594037927936 % 256 := by rw [IntKind.wrap_u8]
      go_wp2_with (at_builtin; refine wpList_append_bytes rfl (.tmp 9) (.tmp 15) rfl w.heap.size rfl rfl (HO.out.alloc _) (rd_one _ (n / 72057594037927936 % 256) (by omega) (by omega)) (by simp [numB]) (by have := HB.out.size; simp; omega) ?_; intro v' w' ho hg)
      go_roundw
      case rel => exact ⟨8, rfl, by omega, ho, below_grown (bl_alloc HB.out _) hg HO.out.row⟩
      case measure => simp [intOf]
    · go_wp2_with fail
      go_ret
      exact ⟨_, rfl, ho, hb⟩
end Go.Proofs.YtdjcclcejmeheaaGreat
end
section
namespace Go.Proofs.YtdjcclcejmeheaaGreat
set_option linter.unusedVariables false
set_option linter.unusedSimpArgs false
open Go.RowKit
theorem Rd.shape {w : World} {v : Value} {l : List UInt8} (h : Rd w v l) : ∃ a c, v = .slice a l.length c := by
  rcases h with ⟨rfl, rfl⟩ | ⟨b, o, c, rfl, _⟩
  · exact ⟨_, _, rfl⟩
  · exact ⟨_, _, rfl⟩
def lumpB (l : List UInt8) : List UInt8 := numB l.length ++ l
theorem lumpB_length (l : List UInt8) : (lumpB l).length = 8 + l.length := by simp [lumpB, numB_length]
theorem own_num (w : World) (n : Int) (B : Nat) (hB : B ≤ w.heap.size) : Own (w.alloc (.cells (bvs (numB n)).toArray 5)) B (.slice (some ⟨w.heap.size, 0, none⟩) 8 8) (numB n) :=
  own_lit w B (numB n) hB (by rw [numB_length]; decide)
set_option maxHeartbeats 800000 in
theorem lump_any (v : Value) (l : List UInt8) (w : World) (hv : Rd w v l) (hl : l.length ≤ 549755813888) :
    Calls Tryz.prog 120 #[v] w (GivesOwn w (lumpB l)) := by
  obtain ⟨a, c, rfl⟩ := hv.shape
  have HV := Lib.hid hv
  have e1 : IntKind.u64.wrap (l.length : Int) = l.length := by rw [IntKind.wrap_u64]; omega
  clear hv
  go_enter Tryz.func120, Tryz.ntmps120
  go_wp2_with fail
  refine (num_any _ _ (by omega) (by omega)).mono ?_
  rintro e w1 ⟨rfl, rfl⟩
  go_wp2_with (at_builtin; refine wpList_append_bytes rfl (.tmp 6) (.tmp 7) rfl w.heap.size rfl rfl (own_num w _ _ (Nat.le_refl _)) (HV.out.below (bl_alloc (Below.refl _ _) _)) (by rw [numB_length]; omega) (by simp) ?_; intro v' w' ho hg)
  go_ret
  exact ⟨_, rfl, ho, below_grown (bl_alloc (Below.refl _ _) _) hg (Own.row (own_num w (l.length : Int) _ (Nat.le_refl _)))⟩
set_option maxHeartbeats 800000 in
theorem rlump_any (v : Value) (l : List UInt8) (w : World) (hv : Rd w v l) (hl : l.length ≤ 549755813888) :
    Calls Tryz.prog 151 #[v] w (GivesOwn w (lumpB l)) := by
  obtain ⟨a, c, rfl⟩ := hv.shape
  have HV := Lib.hid hv
  have e1 : IntKind.u64.wrap (l.length : Int) = l.length := by rw [IntKind.wrap_u64]; omega
  clear hv
  go_enter Tryz.func151, Tryz.ntmps151
  go_wp2_with fail
  refine (rnum_any _ _ (by omega) (by omega)).mono ?_
  rintro e w1 ⟨u, rfl, hu, hb⟩
  have HU := Lib.hid hu
  have HB := Lib.hid hb
  clear hu hb
  go_wp2_with (at_builtin; refine wpList_append_bytes rfl (.tmp 6) (.tmp 7) rfl w.heap.size rfl rfl HU.out (HV.out.below HB.out) (by rw [numB_length]; omega) HB.out.size ?_; intro v' w' ho hg)
  go_ret
  exact ⟨_, rfl, ho, below_grown HB.out hg HU.out.row⟩
end Go.Proofs.YtdjcclcejmeheaaGreat
end
section
namespace Go.Proofs.YtdjcclcejmeheaaGreat
set_option linter.unusedVariables false
set_option linter.unusedSimpArgs false
open Go.RowKit
/-- append(nil, make([]E, n)...): a new block of zeros. -/
theorem run_grow_nil {P : Program} (w : World) (t ti ty e : TypeId) (i : TypeInfo) (z : Value) (ht : P.underlying t = some (.slice e)) (hti : P.underlying ti = some (.int .i64)) (hi : P.info? e = some i) (hz : i.zero = some z)
    (n : Nat) (h0 : 0 < n) (hs : 0 < i.size) (h63 : (n : Int) ≤ 9223372036854775807) (h48 : n * i.bytes ≤ 281474976710656) :
    (Builtin.append_ #[t, ti] ty #[.slice none 0 0, .int .i64 (n : Int)]).run P w =
      .ok (.slice (some ⟨w.heap.size, 0, none⟩) n (grownCap w n 0 e)) (w.drew.alloc (.cells (Builtin.zeroCells z.cells n ++ Builtin.zeroCells z.cells (grownCap w n 0 e - n)) e)) := by
  have hn : n ≠ 0 := by omega
  have hn' : n * i.size ≠ 0 := Nat.mul_ne_zero hn (by omega)
  have hw : IntKind.i64.wrap (n : Int) = n := by rw [IntKind.wrap_i64]; omega
  have h63' : ¬ (9223372036854775807 < (n : Int)) := by omega
  have h48' : ¬ (281474976710656 < Builtin.nextslicecap n 0 * i.bytes) := by rw [nextslicecap_zero h0]; omega
  have h48'' : ¬ ((281474976710656 : Int) < (n : Int) * (i.bytes : Int)) := by
    have : ((n * i.bytes : Nat) : Int) ≤ 281474976710656 := by omega
    rw [Int.natCast_mul] at this; omega
  have hneg : ¬ ((n : Int) < 0) := by omega
  have hs' : i.size ≠ 0 := by omega
  simp [Builtin.append_, run_underlying ht, run_underlying hti, sizeOf, typeInfo, zeroValue, hi, hz, asInt, asIntOf, hw, hneg, hn, hs', h63', h48', h48'', Question.forced, Builtin.firstCells, newRow, grownCap]
  intro h; exact absurd h hn'
theorem own_grown (w : World) (B : Nat) (hB : B ≤ w.heap.size) (c n : Nat) (cs : Array Value) (hc : cs.size = c) (hm : c ≤ maxLen) :
    Own (w.alloc (.cells cs 5)) B (.slice (some ⟨w.heap.size, 0, none⟩) 0 c) [] := World.ownsRow_made w cs c hB hm (by rw [hc, Nat.mul_one])
/-- The same as the walk meets it: elements of one cell each. -/
theorem wpList_grow_nil {P : Program} {w : World} {ops : Array Oper} {rest : List Oper} {o : Oper} {a : Act} {Q : Exit → Act → World → Prop} (hgd : o.guard = none) (s x : Operand) (t ti e : TypeId) (z : Value) (size bytes : Nat)
    (ho : o.op = .call { callee := .builtin .append, args := #[s, x], argTypes := #[t, ti] })
    (ht : P.underlying t = some (.slice e)) (hti : P.underlying ti = some (.int .i64)) (hinfo : (P.info? e).map (fun i => (i.zero, i.size, i.bytes)) = some (some z, size, bytes)) (hz : z.cells.size = size) (hs : 0 < size)
    (n : Nat) (h0 : 0 < n) (hn : n * bytes ≤ 281474976710656) (hn2 : n ≤ maxLen) (hes : a.eval s = .slice none 0 0) (hex : a.eval x = .int .i64 (n : Int))
    (h : ∀ (cap : Nat) (cs : Array Value), n ≤ cap → cap ≤ maxLen → cs.size = cap * size → wpList P ops Q rest (a.put o.dst (.slice (some ⟨w.heap.size, 0, none⟩) n cap)) (w.drew.alloc (.cells cs e))) : wpList P ops Q (o :: rest) a w :=
  wpList_plain hgd fun K hK => by
    obtain ⟨i0, hi, hz0, hz1, hz2⟩ := info_parts hinfo
    have hr := run_grow_nil (P := P) w t ti o.type e i0 z ht hti hi hz0 n h0 (by omega) (by unfold maxLen at hn2; omega) (by rw [hz2]; exact hn)
    unfold Oper.wp execOp
    simp only [ho, resolve, invoke, builtin, Sem.run_bind, Sem.run_pure, Result.andThen_ok, List.map_toArray, List.map_cons, List.map_nil, hes, hex, hr]
    have hcap := grownCap_ge w n 0 e
    refine hK _ _ (h _ _ hcap (grownCap_le_maxLen w n 0 e hn2) ?_)
    simp only [Array.size_append, size_zeroCells, hz, ← Nat.add_mul]
    congr 1; omega
set_option maxHeartbeats 800000 in
theorem grow_any (n : Nat) (w : World) (hn : n ≤ 1099511627776) :
    Calls Tryz.prog 157 #[.slice none 0 0, .int .i64 (n : Int)] w (GivesOwn w []) := by
  by_cases h0 : n = 0
  · subst h0
    go_enter Tryz.func157, Tryz.ntmps157
    go_wp2
    go_ret
    exact ⟨_, rfl, Own.nil _ _, Below.refl _ _⟩
  · have h1 : 0 < n := by omega
    clear h0
    go_enter Tryz.func157, Tryz.ntmps157
    go_wp2_with (at_builtin; refine wpList_grow_nil rfl (.tmp 20) (.tmp 21) 22 3 5 _ 1 1 rfl Tryz.underlying22 Tryz.underlying3 info8 rfl (by omega) n h1 (by omega) (by unfold maxLen; omega) rfl rfl ?_; intro cap cs hcap hcap2 hcs)
    go_ret
    exact ⟨_, rfl, own_grown w.drew _ (Nat.le_refl _) cap n cs (by omega) hcap2, (Below.refl _ _).drew.alloc (Nat.le_refl _) _⟩
/-- A slice of slices of bytes that reads as these. -/
def RdL (w : World) (v : Value) (ls : List (List UInt8)) : Prop :=
  (v = .slice none 0 0 ∧ ls = []) ∨
  ∃ b o c, v = .slice (some ⟨b, o, none⟩) ls.length c ∧ ls.length ≤ c ∧ c ≤ maxLen ∧ ∀ i (h : i < ls.length), ∃ u, w.cell? ⟨b, o + i, none⟩ = some u ∧ Rd w u ls[i]
theorem RdL.shape {w : World} {v : Value} {l : List (List UInt8)} (h : RdL w v l) : ∃ a c, v = .slice a l.length c := by
  rcases h with ⟨rfl, rfl⟩ | ⟨b, o, c, rfl, _⟩
  · exact ⟨_, _, rfl⟩
  · exact ⟨_, _, rfl⟩
theorem RdL.below {w w' : World} {v : Value} {l : List (List UInt8)} (h : RdL w v l) (hb : Below w.heap.size w w') : RdL w' v l := by
  rcases h with h | ⟨b, o, c, hv, hc, hm, hcell⟩
  · exact .inl h
  · refine .inr ⟨b, o, c, hv, hc, hm, fun i hi => ?_⟩
    obtain ⟨u, h1, h2⟩ := hcell i hi
    exact ⟨u, by rw [hb.cell (World.block_lt_of_cell? w _ h1)]; exact h1, h2.below hb⟩
def totalLen (ls : List (List UInt8)) : Nat := (ls.map List.length).sum
end Go.Proofs.YtdjcclcejmeheaaGreat
end
section
namespace Go.Proofs.YtdjcclcejmeheaaGreat
set_option linter.unusedVariables false
set_option linter.unusedSimpArgs false
open Go.RowKit
theorem take_snoc_at (ls : List (List UInt8)) (i : Nat) (h : i < ls.length) : ls.take (i + 1) = ls.take i ++ [ls[i]] := List.take_succ_eq_append_getElem h
theorem total_append (a b : List (List UInt8)) : totalLen (a ++ b) = totalLen a + totalLen b := by unfold totalLen; rw [List.map_append, List.sum_append]
theorem total_take (ls : List (List UInt8)) (i : Nat) (h : i < ls.length) : totalLen (ls.take (i + 1)) = totalLen (ls.take i) + ls[i].length := by
  rw [take_snoc_at ls i h, total_append]; rfl
theorem total_take_le (ls : List (List UInt8)) (i : Nat) : totalLen (ls.take i) ≤ totalLen ls := by
  have h := total_append (ls.take i) (ls.drop i)
  rw [List.take_append_drop] at h
  omega
theorem flat_take (ls : List (List UInt8)) (i : Nat) (h : i < ls.length) : (ls.take (i + 1)).flatten = (ls.take i).flatten ++ ls[i] := by
  rw [take_snoc_at ls i h, List.flatten_append]; simp only [List.flatten_cons, List.flatten_nil, List.append_nil]
theorem flat_len (ls : List (List UInt8)) : ls.flatten.length = totalLen ls := by simp [totalLen, List.length_flatten]
set_option maxHeartbeats 1600000 in
theorem concat_any (v : Value) (ls : List (List UInt8)) (w : World) (hv : RdL w v ls) (hl : totalLen ls ≤ 1099511627776) (hn : ls.length ≤ 1099511627776) :
    Calls Tryz.prog 146 #[v] w (GivesOwn w ls.flatten) := by
  rcases hv with ⟨rfl, rfl⟩ | ⟨b, o, c, rfl, hc, hm, hcell⟩
  · go_enter Tryz.func146, Tryz.ntmps146
    go_wp2_with fail
    refine wp_loop_rounds 1 ?_
    rw [rounds_succ]
    go_wp2_with fail
    refine (grow_any 0 _ (by omega)).mono ?_
    rintro e w1 ⟨u, rfl, hu, hb⟩
    go_wp2_with fail
    refine wp_loop_rounds 1 ?_
    rw [rounds_succ]
    go_wp2_with fail
    go_ret
    exact ⟨_, rfl, hu, hb⟩
  · have HC := Lib.hid hcell
    clear hcell
    go_enter Tryz.func146, Tryz.ntmps146
    go_wp2_with fail
    go_loop [3, 11] (fun v3 v11 => ∃ i : Nat, v11 = .int .i64 i ∧ i ≤ ls.length ∧ v3 = .int .i64 (totalLen (ls.take i))) (fun _ v11 => ls.length - (intOf v11).toNat)
    case atStart => exact ⟨0, rfl, by omega, rfl⟩
    case round =>
      obtain ⟨i, rfl, hi, rfl⟩ := hrel
      by_cases hlt : i < ls.length
      · obtain ⟨u, hu, hr⟩ := HC.out i hlt
        obtain ⟨a', c', rfl⟩ := hr.shape
        have ht := total_take_le ls (i + 1)
        have ht2 := total_take ls i hlt
        clear hr
        rw [ht2] at ht
        have HT := Lib.hid ht2
        clear ht2
        have hneg : decide ((totalLen (ls.take i) : Int) + (ls[i].length : Int) < 0) = false := by simp; omega
        go_wp2_with fail
        go_round
        case rel => exact ⟨i + 1, by go_num, by omega, by rw [HT.out]; go_num⟩
        case measure => simp [intOf]; omega
      · have : i = ls.length := by omega
        subst this
        have he : ls.take ls.length = ls := List.take_length
        rw [he]
        clear he
        go_wp2_with fail
        refine (grow_any (totalLen ls) _ hl).mono ?_
        rintro e w1 ⟨u, rfl, hu, hb⟩
        have HU := Lib.hid hu
        have HB := Lib.hid hb
        clear hu hb
        go_wp2_with fail
        go_loopw [6, 27] (fun v6 v27 wr => ∃ i : Nat, v27 = .int .i64 i ∧ i ≤ ls.length ∧ Own wr w.heap.size v6 (ls.take i).flatten ∧ Below w.heap.size w wr) (fun _ v27 _ => ls.length - (intOf v27).toNat)
        case atStart => exact ⟨0, rfl, by omega, HU.out, HB.out⟩
        case round =>
          obtain ⟨i, rfl, hi, ho, hbw⟩ := hrel
          have HO := Lib.hid ho
          have HB2 := Lib.hid hbw
          clear ho hbw
          by_cases hlt : i < ls.length
          · obtain ⟨u2, hu2, hr⟩ := HC.out i hlt
            have hu3 : wr.cell? ⟨b, o + i, none⟩ = some u2 := by rw [HB2.out.cell (World.block_lt_of_cell? w _ hu2)]; exact hu2
            have HR := Lib.hid (hr.below HB2.out)
            have ht := total_take_le ls (i + 1)
            rw [total_take ls i hlt] at ht
            have hfl : (ls.take i).flatten.length = totalLen (ls.take i) := flat_len _
            have hlen : (ls.take i).flatten.length + ls[i].length ≤ 1099511627776 := by omega
            have HL := Lib.hid hlen
            clear hr hu2 ht hlen hfl
            go_wp2_with (at_builtin; refine wpList_append_bytes rfl (.tmp 31) (.tmp 32) rfl w.heap.size rfl rfl HO.out HR.out HL.out HB2.out.size ?_; intro v' w' ho hg)
            go_roundw
            case rel => exact ⟨i + 1, by go_num, by omega, by rw [flat_take ls i hlt]; exact ho, below_grown HB2.out hg HO.out.row⟩
            case measure => simp [intOf]; omega
          · have : i = ls.length := by omega
            subst this
            go_wp2_with fail
            go_ret
            have ho := HO.out
            rw [List.take_length] at ho
            exact ⟨_, rfl, ho, HB2.out⟩
set_option maxHeartbeats 400000 in
theorem join_any (v : Value) (ls : List (List UInt8)) (w : World) (hv : RdL w v ls) (hl : totalLen ls ≤ 1099511627776) (hn : ls.length ≤ 1099511627776) :
    Calls Tryz.prog 119 #[v] w (GivesOwn w ls.flatten) := by
  obtain ⟨a, c, rfl⟩ := hv.shape
  go_enter Tryz.func119, Tryz.ntmps119
  go_wp2_with fail
  refine (concat_any _ ls _ hv hl hn).mono ?_
  rintro e w1 ⟨u, rfl, hu, hb⟩
  go_wp2_with fail
  go_ret
  exact ⟨_, rfl, hu, hb⟩
end Go.Proofs.YtdjcclcejmeheaaGreat
end
section
namespace Go.Proofs.YtdjcclcejmeheaaGreat
set_option linter.unusedVariables false
set_option linter.unusedSimpArgs false
open Go.RowKit
set_option maxHeartbeats 800000 in
theorem clone_any (v : Value) (l : List UInt8) (w : World) (hv : Rd w v l) (hl : l.length ≤ 1099511627776) :
    Calls Tryz.prog 111 #[v] w (GivesOwn w l) := by
  rcases hv with ⟨rfl, rfl⟩ | ⟨b, o, c, rfl, hc, hm, hcell⟩
  · have heq := fun w : World => Lib.run_eql_slice_nil (P := Tryz.prog) w 22 5 none 0 0 0 0 Tryz.underlying22
    go_enter Tryz.func111, Tryz.ntmps111
    go_wp2
    go_ret
    exact ⟨_, rfl, Own.nil _ _, Below.refl _ _⟩
  · have HV : Hid (Rd w (.slice (some ⟨b, o, none⟩) l.length c) l) := Lib.hid (.inr ⟨b, o, c, rfl, hc, hm, hcell⟩)
    clear hcell
    have heq := fun w : World => Lib.run_eql_slice_nil (P := Tryz.prog) w 22 5 (some ⟨b, o, none⟩) l.length c 0 0 Tryz.underlying22
    go_enter Tryz.func111, Tryz.ntmps111
    go_wp2_with (at_builtin; refine wpList_append_bytes rfl (.tmp 5) (.tmp 6) rfl w.heap.size (l := []) rfl rfl (own_lit w _ [] (Nat.le_refl _) (by decide)) (HV.out.below (bl_alloc (Below.refl _ _) _)) (by simp; omega) (by simp) ?_; intro v' w' ho hg)
    go_ret
    exact ⟨_, rfl, ho, below_grown (bl_alloc (Below.refl _ _) _) hg (Own.row (own_lit w _ [] (Nat.le_refl _) (by decide)))⟩
/-- A slice into an older block. -/
def OldThan (u : Value) (g : Nat) : Prop := ∀ a n c, u = .slice (some a) n c → a.block < g
theorem OldThan.none (g n c : Nat) : OldThan (.slice none n c) g := fun a n c h => by cases h
theorem OldThan.slice {a : Option Addr} {g n c : Nat} (h : OldThan (.slice a n c) g) (n' c' : Nat) : OldThan (.slice a n' c') g := fun x m d e => by
  cases e
  exact h x n c rfl
/-- A reader at a block: the bytes that are left (in an older block), the first error. -/
def RdrAt (w : World) (g : Nat) (l : List UInt8) (e : Int) : Prop :=
  ∃ u, w.heap[g]? = some (.cells #[u, .int .i64 e] 166 (0, 0)) ∧ Rd w u l ∧ OldThan u g
theorem RdrAt.below {w w' : World} {g : Nat} {l : List UInt8} {e : Int} (h : RdrAt w g l e) (hb : Below w.heap.size w w') : RdrAt w' g l e := by
  obtain ⟨u, hg, hu, ho⟩ := h
  exact ⟨u, by rw [hb.block g (Array.getElem?_eq_some_iff.1 hg).1]; exact hg, hu.below hb, ho⟩
/-- What a reader hands back that was made. -/
def GivesRdr (w : World) (l : List UInt8) (e : Ending) (w' : World) : Prop := ∃ g, e = .returned (.pointer (some ⟨g, 0, none⟩)) ∧ w.heap.size ≤ g ∧ RdrAt w' g l 0 ∧ Below w.heap.size w w'
set_option maxHeartbeats 800000 in
theorem new_any (v : Value) (l : List UInt8) (w : World) (hv : Rd w v l) (hl : l.length ≤ 1099511627776) :
    Calls Tryz.prog 63 #[v] w (GivesRdr w l) := by
  obtain ⟨a, c, rfl⟩ := hv.shape
  have HV := Lib.hid hv
  clear hv
  go_enter Tryz.func63, Tryz.ntmps63
  go_wp2_with fail
  refine (clone_any _ l _ HV.out hl).mono ?_
  rintro e w1 ⟨u, rfl, hu, hb⟩
  have HU := Lib.hid hu
  have HB := Lib.hid hb
  obtain ⟨a', c', rfl⟩ := hu.rd.shape
  clear hu hb
  go_wp2_with fail
  go_ret
  exact ⟨_, rfl, HB.out.size, ⟨_, heap_alloc_new _ _, HU.out.rd.below (bl_alloc (Below.refl _ _) _), fun a n c e => by cases e; exact (World.ownsRow.lt HU.out _ rfl).2⟩, bl_alloc HB.out _⟩
theorem cell_two (w : World) (g : Nat) (u x : Value) (T : TypeId) (h : w.heap[g]? = some (.cells #[u, x] T (0, 0))) : w.cell? ⟨g, 0, none⟩ = some u ∧ w.cell? ⟨g, 1, none⟩ = some x ∧ w.frozen? ⟨g, 0, none⟩ = false ∧ w.frozen? ⟨g, 1, none⟩ = false :=
  ⟨by rw [cell_of_row w g 0 _ T _ h]; rfl, by rw [cell_of_row w g 1 _ T _ h]; rfl, frozen_of_row w g 0 _ T h, frozen_of_row w g 1 _ T h⟩
theorem grown_set (w : World) (g o : Nat) (v : Value) : w.grownBy (w.setCell ⟨g, o, none⟩ v) (some g) :=
  ⟨rfl, rfl, rfl, by simp, fun k hk hne => heap_setCell_other _ _ _ _ (fun e => hne (by rw [e]))⟩
theorem grown_trans {a b c : World} {r : Option Nat} (h : a.grownBy b r) (k : b.grownBy c r) : a.grownBy c r :=
  ⟨k.os.trans h.os, k.tape.trans h.tape, k.output.trans h.output, Nat.le_trans h.size k.size, fun i hi hr => (k.block i (Nat.lt_of_lt_of_le hi h.size) hr).trans (h.block i hi hr)⟩
def GivesNone (w : World) (g : Nat) (l : List UInt8) (x : Int) (e : Ending) (w' : World) : Prop := e = .returned (.tuple #[]) ∧ RdrAt w' g l x ∧ w.grownBy w' (some g)
set_option maxHeartbeats 800000 in
theorem fail_any (g : Nat) (l : List UInt8) (x y : Int) (w : World) (hr : RdrAt w g l x) :
    Calls Tryz.prog 112 #[.pointer (some ⟨g, 0, none⟩), .int .i64 y] w (GivesNone w g [] y) := by
  obtain ⟨u, hg, hu, ho⟩ := hr
  obtain ⟨c0, c1, f0, f1⟩ := cell_two w g u _ _ hg
  have HG := Lib.hid hg
  clear hg hu ho
  go_enter Tryz.func112, Tryz.ntmps112
  go_wp2_with fail
  go_end0
  refine ⟨rfl, ⟨_, heap_setCell_same _ _ _ _ _ _ (heap_setCell_same _ _ _ _ _ _ HG.out), Rd.nil _, OldThan.none _ _ _⟩, grown_trans (grown_set _ _ _ _) (grown_set _ _ _ _)⟩
end Go.Proofs.YtdjcclcejmeheaaGreat
end
section
namespace Go.Proofs.YtdjcclcejmeheaaGreat
set_option linter.unusedVariables false
set_option linter.unusedSimpArgs false
open Go.RowKit
/-- A slice of one's own is handed back; the reader is turned; what was there else stays. -/
def GivesRaw (w : World) (g : Nat) (out l : List UInt8) (x : Int) (e : Ending) (w' : World) : Prop :=
  ∃ v, e = .returned v ∧ Own w' w.heap.size v out ∧ RdrAt w' g l x ∧ w.grownBy w' (some g)
theorem Rd.take {w : World} {a : Option Addr} {c : Nat} {l : List UInt8} (h : Rd w (.slice a l.length c) l) (n : Nat) (hn : n ≤ l.length) : Rd w (.slice a n c) (l.take n) := by
  rcases h with ⟨h, rfl⟩ | ⟨b, o, c', h, hc, hm, hcell⟩
  · have : n = 0 := by simpa using hn
    subst this
    simp at h; obtain ⟨rfl, rfl⟩ := h
    exact .inl ⟨rfl, by simp⟩
  · simp at h; obtain ⟨rfl, rfl⟩ := h
    refine .inr ⟨b, o, c, by rw [List.length_take, Nat.min_eq_left hn], by rw [List.length_take]; omega, hm, fun i hi => ?_⟩
    have h2 : i < l.length := by rw [List.length_take] at hi; omega
    rw [hcell i h2, List.getElem_take]
theorem Rd.drop {w : World} {b o c : Nat} {l : List UInt8} (h : Rd w (.slice (some ⟨b, o, none⟩) l.length c) l) (n : Nat) (hn : n ≤ l.length) (q : Addr) (hq : n < l.length → q = ⟨b, o + n, none⟩) (hq2 : ∃ b' o', q = ⟨b', o', none⟩) : Rd w (.slice (some q) (l.length - n) (c - n)) (l.drop n) := by
  rcases h with ⟨h, rfl⟩ | ⟨b', o', c', h, hc, hm, hcell⟩
  · simp at h
  · simp at h; obtain ⟨⟨rfl, rfl⟩, rfl⟩ := h
    obtain ⟨b2, o2, rfl⟩ := hq2
    refine .inr ⟨b2, o2, c - n, by rw [List.length_drop], by rw [List.length_drop]; omega, by omega, fun i hi => ?_⟩
    have h2 : n + i < l.length := by rw [List.length_drop] at hi; omega
    have := hq (by omega)
    simp at this; obtain ⟨rfl, rfl⟩ := this
    rw [Nat.add_assoc, hcell (n + i) h2, List.getElem_drop]
set_option maxHeartbeats 1600000 in
theorem raw_err (g n : Nat) (l : List UInt8) (x : Int) (w : World) (hr : RdrAt w g l x) (hx : x ≠ 0) :
    Calls Tryz.prog 113 #[.pointer (some ⟨g, 0, none⟩), .int .i64 (n : Int)] w (GivesRaw w g [] l x) := by
  have HR := Lib.hid hr
  obtain ⟨u, hg, hu, hold⟩ := hr
  obtain ⟨c0, c1, f0, f1⟩ := cell_two w g u _ _ hg
  have hx1 : (x != 0) = true := by simpa using hx
  clear hg hu hx hold
  go_enter Tryz.func113, Tryz.ntmps113
  go_wp2_with fail
  go_ret
  exact ⟨_, rfl, Own.nil _ _, HR.out, World.grownBy.refl _ _⟩
set_option maxHeartbeats 1600000 in
theorem raw_short (g n : Nat) (l : List UInt8) (w : World) (hr : RdrAt w g l 0) (hn : l.length < n) (hn1 : n ≤ 9223372036854775807) :
    Calls Tryz.prog 113 #[.pointer (some ⟨g, 0, none⟩), .int .i64 (n : Int)] w (GivesRaw w g [] [] 21) := by
  have HR := Lib.hid hr
  obtain ⟨u, hg, hu, hold⟩ := hr
  obtain ⟨a, c, rfl⟩ := hu.shape
  obtain ⟨c0, c1, f0, f1⟩ := cell_two w g _ _ _ hg
  have hmax : max (n : Int) 0 = n := by omega
  clear hg hu hold
  go_enter Tryz.func113, Tryz.ntmps113
  go_wp2_with fail
  refine (fail_any g l 0 21 _ HR.out).mono ?_
  rintro e w1 ⟨rfl, h1, h2⟩
  go_wp2_with fail
  go_ret
  exact ⟨_, rfl, Own.nil _ _, h1, h2⟩
/-- Bytes stay readable while a cell of a block that holds no byte is written. -/
theorem Rd.setNon {w : World} {v : Value} {l : List UInt8} (h : Rd w v l) {g o' : Nat} {cs : Array Value} {T : TypeId} {fr : Nat × Nat} (hg : w.heap[g]? = some (.cells cs T fr)) (hno : ∀ (j : Nat) (b : UInt8), cs[j]? ≠ some (bv b)) (x : Value) : Rd (w.setCell ⟨g, o', none⟩ x) v l := by
  rcases h with h | ⟨b, o, c, hv, hc, hm, hcell⟩
  · exact .inl h
  · refine .inr ⟨b, o, c, hv, hc, hm, fun i hi => ?_⟩
    have hb : g ≠ b := by
      intro e; subst e
      have h1 := hcell i hi
      rw [cell_of_row w g _ cs T fr hg] at h1
      exact hno _ _ h1
    rw [cell_far _ _ _ _ _ _ hb]
    exact hcell i hi
theorem rdr_non (a : Option Addr) (n c : Nat) (e : Int) : ∀ (j : Nat) (b : UInt8), (#[Value.slice a n c, .int .i64 e] : Array Value)[j]? ≠ some (bv b) := by
  intro j b h
  match j with
  | 0 => simp [bv] at h
  | 1 => simp [bv] at h
  | j + 2 => simp at h
theorem own_setCell {w : World} {B : Nat} {v : Value} {l : List UInt8} (h : Own w B v l) {g o : Nat} (hg : g < B) (x : Value) : Own (w.setCell ⟨g, o, none⟩ x) B v l := ownsRow_setCell_below h hg x
set_option maxHeartbeats 1600000 in
theorem raw_ok (g n : Nat) (l : List UInt8) (w : World) (hr : RdrAt w g l 0) (hn : n ≤ l.length) (hl : l.length ≤ 1099511627776) :
    Calls Tryz.prog 113 #[.pointer (some ⟨g, 0, none⟩), .int .i64 (n : Int)] w (GivesRaw w g (l.take n) (l.drop n) 0) := by
  obtain ⟨u, hg, hu, hold⟩ := hr
  obtain ⟨a, c, rfl⟩ := hu.shape
  obtain ⟨c0, c1, f0, f1⟩ := cell_two w g _ _ _ hg
  have hmax : max (n : Int) 0 = n := by omega
  have hlc : l.length ≤ c := by
    rcases hu with ⟨h, rfl⟩ | ⟨b, o, c', h, hc, _⟩
    · simp
    · simp at h; omega
  have hnc : n ≤ c := by omega
  have HT := Lib.hid (hu.take n hn)
  have hB : g < w.heap.size := (Array.getElem?_eq_some_iff.1 hg).1
  have HB := Lib.hid hB
  have HG := Lib.hid hg
  have HU := Lib.hid hu
  have hnon := rdr_non a l.length c 0
  have HN := Lib.hid hnon
  have HOLD := Lib.hid hold
  clear hg hu hB hnon hold
  by_cases hcn : c = n
  · subst hcn
    have hD : Rd w (.slice a (l.length - c) (c - c)) (l.drop c) := by
      rcases HU.out with ⟨h, rfl⟩ | ⟨b, o, c', h, hc, hm, _⟩
      · simp at h; obtain ⟨rfl, rfl⟩ := h; exact .inl ⟨by simp, by simp⟩
      · simp at h; obtain ⟨rfl, rfl⟩ := h
        exact HU.out.drop c hn _ (by intro h; omega) ⟨_, _, rfl⟩
    have e1 : l.length - c = 0 := by omega
    have e2 : c - c = 0 := by omega
    rw [e1, e2] at hD
    have HD := Lib.hid hD
    clear hD e1 e2
    go_enter Tryz.func113, Tryz.ntmps113
    go_wp2_with fail
    refine (clone_any _ (l.take c) _ HT.out (by rw [List.length_take]; omega)).mono ?_
    rintro e w1 ⟨v, rfl, hv, hb⟩
    have k0 : w1.cell? ⟨g, 0, none⟩ = w.cell? ⟨g, 0, none⟩ := hb.cell (p := ⟨g, 0, none⟩) HB.out
    have k1 : w1.frozen? ⟨g, 0, none⟩ = w.frozen? ⟨g, 0, none⟩ := hb.frozen (p := ⟨g, 0, none⟩) HB.out
    have HV := Lib.hid hv
    have HBB := Lib.hid hb
    clear hv hb
    go_wp2_with fail
    go_ret
    have hg1 := HBB.out.block g HB.out
    rw [HG.out] at hg1
    exact ⟨_, rfl, own_setCell HV.out HB.out _, ⟨_, heap_setCell_same _ _ _ _ _ _ hg1, (HD.out.below HBB.out).setNon hg1 HN.out _, HOLD.out.slice _ _⟩, grown_trans ⟨HBB.out.os, HBB.out.tape, HBB.out.output, HBB.out.size, fun k hk _ => HBB.out.block k hk⟩ (grown_set _ _ _ _)⟩
  · rcases HU.out with ⟨h, rfl⟩ | ⟨b, o, c', h, hc, hm, _⟩
    · exfalso; simp at h; simp at hn; omega
    · simp at h; obtain ⟨rfl, rfl⟩ := h
      have HD := Lib.hid (HU.out.drop n hn ⟨b, o + n, none⟩ (fun _ => rfl) ⟨_, _, rfl⟩)
      clear hc hm
      go_enter Tryz.func113, Tryz.ntmps113
      go_wp2_with fail
      refine (clone_any _ (l.take n) _ HT.out (by rw [List.length_take]; omega)).mono ?_
      rintro e w1 ⟨v, rfl, hv, hb⟩
      have k0 : w1.cell? ⟨g, 0, none⟩ = w.cell? ⟨g, 0, none⟩ := hb.cell (p := ⟨g, 0, none⟩) HB.out
      have k1 : w1.frozen? ⟨g, 0, none⟩ = w.frozen? ⟨g, 0, none⟩ := hb.frozen (p := ⟨g, 0, none⟩) HB.out
      have HV := Lib.hid hv
      have HBB := Lib.hid hb
      clear hv hb
      go_wp2_with fail
      go_ret
      have hg1 := HBB.out.block g HB.out
      rw [HG.out] at hg1
      exact ⟨_, rfl, own_setCell HV.out HB.out _, ⟨_, heap_setCell_same _ _ _ _ _ _ hg1, (HD.out.below HBB.out).setNon hg1 HN.out _, fun x m d e => by cases e; exact HOLD.out ⟨b, o, none⟩ _ _ rfl⟩, grown_trans ⟨HBB.out.os, HBB.out.tape, HBB.out.output, HBB.out.size, fun k hk _ => HBB.out.block k hk⟩ (grown_set _ _ _ _)⟩
/-- What Raw does to a reader. -/
def rawOut (l : List UInt8) (x : Int) (n : Nat) : List UInt8 := if x = 0 then (if n ≤ l.length then l.take n else []) else []
def rawRest (l : List UInt8) (x : Int) (n : Nat) : List UInt8 := if x = 0 then (if n ≤ l.length then l.drop n else []) else l
def rawErr (l : List UInt8) (x : Int) (n : Nat) : Int := if x = 0 then (if n ≤ l.length then 0 else 21) else x
theorem raw_any (g n : Nat) (l : List UInt8) (x : Int) (w : World) (hr : RdrAt w g l x) (hn1 : n ≤ 9223372036854775807) (hl : l.length ≤ 1099511627776) :
    Calls Tryz.prog 113 #[.pointer (some ⟨g, 0, none⟩), .int .i64 (n : Int)] w (GivesRaw w g (rawOut l x n) (rawRest l x n) (rawErr l x n)) := by
  unfold rawOut rawRest rawErr
  by_cases hx : x = 0
  · subst hx
    simp only [if_true]
    by_cases hn : n ≤ l.length
    · simp only [if_pos hn]; exact raw_ok g n l w hr hn hl
    · simp only [if_neg hn]; exact raw_short g n l w hr (by omega) hn1
  · simp only [if_neg hx]; exact raw_err g n l x w hr hx
end Go.Proofs.YtdjcclcejmeheaaGreat
end
section
namespace Go.Proofs.YtdjcclcejmeheaaGreat
set_option linter.unusedVariables false
set_option linter.unusedSimpArgs false
open Go.RowKit
/-- The number of bytes, the lowest first. -/
def leNum : List UInt8 → Int
  | [] => 0
  | b :: r => (b.toNat : Int) + 256 * leNum r
theorem leNum_bd (l : List UInt8) : 0 ≤ leNum l ∧ leNum l < 256 ^ l.length := by
  induction l with
  | nil => simp [leNum]
  | cons b r ih =>
    have hb := UInt8.toNat_lt b
    rw [leNum, List.length_cons, Int.pow_succ]
    omega
theorem leNum_snoc (l : List UInt8) (b : UInt8) : leNum (l ++ [b]) = leNum l + (b.toNat : Int) * 256 ^ l.length := by
  induction l with
  | nil => simp [leNum]
  | cons c r ih =>
    rw [List.cons_append, leNum, ih, leNum, List.length_cons, Int.pow_succ, Int.mul_add, ← Int.mul_assoc, ← Int.mul_assoc, Int.mul_comm 256 (b.toNat : Int), Int.mul_assoc (b.toNat : Int) 256, Int.mul_comm 256 (256 ^ r.length), Int.add_assoc, Int.mul_assoc (b.toNat : Int) (256 ^ r.length) 256]
theorem p256 (i : Nat) : ((256 ^ i : Nat) : Int) = (256 : Int) ^ i := Int.natCast_pow 256 i
theorem p2 (i : Nat) : ((2 ^ i : Nat) : Int) = (2 : Int) ^ i := Int.natCast_pow 2 i
theorem take_snoc8 (l : List UInt8) (i : Nat) (h : i < l.length) : l.take (i + 1) = l.take i ++ [l[i]] := List.take_succ_eq_append_getElem h
theorem leNum_take (l : List UInt8) (i : Nat) (h : i < l.length) : leNum (l.take (i + 1)) = leNum (l.take i) + (l[i].toNat : Int) * 256 ^ i := by
  rw [take_snoc8 l i h, leNum_snoc, List.length_take, Nat.min_eq_left (by omega)]
theorem leNum_u64 (l : List UInt8) (h : l.length ≤ 8) : 0 ≤ leNum l ∧ leNum l < 18446744073709551616 := by
  have h1 := leNum_bd l
  have h2 : (256 : Int) ^ l.length ≤ 256 ^ 8 := by
    have : 256 ^ l.length ≤ 256 ^ 8 := Nat.pow_le_pow_right (by omega) h
    rw [← p256, ← p256]; omega
  exact ⟨h1.1, Int.lt_of_lt_of_le h1.2 h2⟩
theorem pow256 (i : Nat) : (2 : Nat) ^ (8 * i) = 256 ^ i := by rw [Nat.pow_mul]
theorem or_step (N c : Int) (i : Nat) (hi : i < 8) (h0 : 0 ≤ N) (h1 : N < 256 ^ i) (c0 : 0 ≤ c) (c1 : c < 256) :
    bits .or .u64 N (IntKind.u64.wrap (c * 2 ^ (8 * (i : Int)).toNat)) = N + c * 256 ^ i := by
  have e : (8 * (i : Int)).toNat = 8 * i := by omega
  obtain ⟨n, rfl⟩ := Int.eq_ofNat_of_zero_le h0
  obtain ⟨d, rfl⟩ := Int.eq_ofNat_of_zero_le c0
  have hd : d ≤ 255 := by omega
  have hn : n < 256 ^ i := by rw [← p256] at h1; omega
  have hp : 256 ^ i * 256 ≤ 256 ^ 8 := by rw [← Nat.pow_succ]; exact Nat.pow_le_pow_right (by omega) (by omega)
  have hm : d * 256 ^ i ≤ 255 * 256 ^ i := Nat.mul_le_mul_right _ hd
  have hlt : d * 256 ^ i < 18446744073709551616 := by
    have : (256 : Nat) ^ 8 = 18446744073709551616 := rfl
    omega
  have e2 : ((d : Int) * 2 ^ (8 * (i : Int)).toNat) = ((d * 256 ^ i : Nat) : Int) := by
    rw [e, ← pow256 i, Int.natCast_mul, p2]
  have e3 : IntKind.u64.wrap ((d : Int) * 2 ^ (8 * (i : Int)).toNat) = ((d * 256 ^ i : Nat) : Int) := by
    rw [e2, IntKind.wrap_u64]; omega
  have hn2 : n < 18446744073709551616 := by
    have : (256 : Nat) ^ 8 = 18446744073709551616 := rfl
    have : 256 ^ i ≤ 256 ^ 8 := Nat.pow_le_pow_right (by omega) (by omega)
    omega
  rw [e3, u64_or_nat _ _ hn2 hlt, Nat.or_comm, nat_join (8 * i) _ _ (by rw [pow256]; exact Nat.mul_mod_left _ _) (by rw [pow256]; exact hn)]
  rw [Int.natCast_add, Int.natCast_mul, p256]; exact Int.add_comm _ _
theorem or_step' (N c : Int) (i : Nat) (hi : i < 8) (h0 : 0 ≤ N) (h1 : N < 256 ^ i) (c0 : 0 ≤ c) (c1 : c < 256) :
    bits .or .u64 N (IntKind.u64.wrap (IntKind.u64.wrap c * 2 ^ (8 * i))) = N + c * 256 ^ i := by
  have e : IntKind.u64.wrap c = c := by rw [IntKind.wrap_u64]; omega
  have h := or_step N c i hi h0 h1 c0 c1
  rw [show (8 * (i : Int)).toNat = 8 * i by omega] at h
  rw [e]; exact h
end Go.Proofs.YtdjcclcejmeheaaGreat
end
section
namespace Go.Proofs.YtdjcclcejmeheaaGreat
set_option linter.unusedVariables false
set_option linter.unusedSimpArgs false
open Go.RowKit
set_option maxHeartbeats 1600000 in
theorem word_any (v : Value) (l : List UInt8) (w : World) (hv : Rd w v l) (hl : l.length ≤ 8) :
    Calls Tryz.prog 148 #[v] w fun e w' => e = .returned (.int .u64 (leNum l)) ∧ w = w' := by
  rcases hv with ⟨rfl, rfl⟩ | ⟨b, o, c, rfl, hc, hm, hcell⟩
  · go_enter Tryz.func148, Tryz.ntmps148
    go_wp2_with fail
    refine wp_loop_rounds 1 ?_
    rw [rounds_succ]
    go_wp2_with fail
    go_ret
    exact ⟨rfl, rfl⟩
  · have HC := Lib.hid hcell
    clear hcell
    go_enter Tryz.func148, Tryz.ntmps148
    go_wp2_with fail
    go_loop [3, 8] (fun v3 v8 => ∃ i : Nat, v8 = .int .i64 i ∧ i ≤ l.length ∧ v3 = .int .u64 (leNum (l.take i))) (fun _ v8 => l.length - (intOf v8).toNat)
    case atStart => exact ⟨0, rfl, by omega, rfl⟩
    case round =>
      obtain ⟨i, rfl, hi, rfl⟩ := hrel
      by_cases hlt : i < l.length
      · have hcell := HC.out i hlt
        unfold bv at hcell
        have h1 := leNum_take l i hlt
        have h2 := leNum_bd (l.take i)
        rw [List.length_take, Nat.min_eq_left hi] at h2
        have hor := or_step' (leNum (l.take i)) (l[i].toNat : Int) i (by omega) h2.1 h2.2 (by omega) (by have := UInt8.toNat_lt l[i]; omega)
        rw [← h1] at hor
        clear h1 h2
        go_wp2_with fail
        go_round
        case rel => exact ⟨i + 1, by go_num, by omega, rfl⟩
        case measure => simp [intOf]; omega
      · have : i = l.length := by omega
        subst this
        go_wp2_with fail
        go_ret
        exact ⟨rfl, rfl⟩
/-- What a reader's Num tells. -/
def GivesNum (w : World) (g : Nat) (n : Int) (l : List UInt8) (x : Int) (e : Ending) (w' : World) : Prop :=
  e = .returned (.int .u64 n) ∧ RdrAt w' g l x ∧ w.grownBy w' (some g)
theorem rawOut_le (l : List UInt8) (x : Int) (n : Nat) : (rawOut l x n).length ≤ n := by
  unfold rawOut; split
  · split
    · rw [List.length_take]; omega
    · simp
  · simp
set_option maxHeartbeats 1600000 in
theorem rnumr_any (g : Nat) (l : List UInt8) (x : Int) (w : World) (hr : RdrAt w g l x) (hl : l.length ≤ 1099511627776) :
    Calls Tryz.prog 66 #[.pointer (some ⟨g, 0, none⟩)] w (GivesNum w g (leNum (rawOut l x 8)) (rawRest l x 8) (rawErr l x 8)) := by
  have hle := rawOut_le l x 8
  have hraw := raw_any g 8 l x w hr (by omega) hl
  generalize rawOut l x 8 = q at *
  generalize rawRest l x 8 = r at *
  generalize rawErr l x 8 = y at *
  have HR := Lib.hid hraw
  clear hraw hr
  go_enter Tryz.func66, Tryz.ntmps66
  go_wp2_with fail
  refine HR.out.mono ?_
  rintro e w1 ⟨v, rfl, ho, hr, hg⟩
  have HO := Lib.hid ho.rd
  have HX := Lib.hid hr
  have HG := Lib.hid hg
  clear ho hr hg
  rcases HO.out with ⟨rfl, rfl⟩ | ⟨b, o, c, rfl, hc, hm, hcell⟩
  · go_wp2_with fail
    refine wp_loop_rounds 1 ?_
    rw [rounds_succ]
    go_wp2_with fail
    go_ret
    exact ⟨rfl, HX.out, HG.out⟩
  · have HC := Lib.hid hcell
    clear hcell
    go_wp2_with fail
    go_loop [3, 9] (fun v3 v8 => ∃ i : Nat, v8 = .int .i64 i ∧ i ≤ q.length ∧ v3 = .int .u64 (leNum (q.take i))) (fun _ v8 => q.length - (intOf v8).toNat)
    case atStart => exact ⟨0, rfl, by omega, rfl⟩
    case round =>
      obtain ⟨i, rfl, hi, rfl⟩ := hrel
      by_cases hlt : i < q.length
      · have hcell := HC.out i hlt
        unfold bv at hcell
        have h1 := leNum_take q i hlt
        have h2 := leNum_bd (q.take i)
        rw [List.length_take, Nat.min_eq_left hi] at h2
        have hor := or_step' (leNum (q.take i)) (q[i].toNat : Int) i (by omega) h2.1 h2.2 (by omega) (by have := UInt8.toNat_lt q[i]; omega)
        rw [← h1] at hor
        clear h1 h2
        go_wp2_with fail
        go_round
        case rel => exact ⟨i + 1, by go_num, by omega, rfl⟩
        case measure => simp [intOf]; omega
      · have : i = q.length := by omega
        subst this
        go_wp2_with fail
        go_ret
        exact ⟨rfl, HX.out, HG.out⟩
theorem leNum_drop (l : List UInt8) (i : Nat) (h : i < l.length) : leNum (l.drop i) = (l[i].toNat : Int) + 256 * leNum (l.drop (i + 1)) := by
  rw [List.drop_eq_getElem_cons h]; rfl
theorem or_low (N c : Int) (h0 : 0 ≤ N) (h1 : N < 72057594037927936) (c0 : 0 ≤ c) (c1 : c < 256) : bits .or .u64 (N * 256) (IntKind.u64.wrap c) = c + 256 * N := by
  rw [show IntKind.u64.wrap c = c by rw [IntKind.wrap_u64]; omega]
  rw [u64_or _ _ (by omega) (by omega) (by omega) (by omega), nat_join 8 _ _ (by omega) (by omega)]
  omega
set_option maxHeartbeats 1600000 in
theorem rword_any (v : Value) (l : List UInt8) (w : World) (hv : Rd w v l) (hl : l.length = 8) :
    Calls Tryz.prog 128 #[v] w fun e w' => e = .returned (.int .u64 (leNum l)) ∧ w = w' := by
  rcases hv with ⟨rfl, rfl⟩ | ⟨b, o, c, rfl, hc, hm, hcell⟩
  · simp at hl
  · have HC := Lib.hid hcell
    clear hcell
    go_enter Tryz.func128, Tryz.ntmps128
    go_wp2_with fail
    go_loop [3, 4] (fun v3 v4 => ∃ i : Nat, v4 = .int .i64 ((i : Int) - 1) ∧ i ≤ 8 ∧ v3 = .int .u64 (leNum (l.drop i))) (fun _ v4 => (intOf v4 + 1).toNat)
    case atStart => exact ⟨8, rfl, by omega, by rw [List.drop_of_length_le (by omega)]; rfl⟩
    case round =>
      obtain ⟨j, rfl, hj, rfl⟩ := hrel
      by_cases hlt : 0 < j
      · obtain ⟨i, rfl⟩ : ∃ i, j = i + 1 := ⟨j - 1, by omega⟩
        have hlt2 : i < l.length := by omega
        have hcell := HC.out i hlt2
        unfold bv at hcell
        have h1 := leNum_drop l i hlt2
        have h2 := leNum_bd (l.drop (i + 1))
        have h3 : (256 : Int) ^ (l.drop (i + 1)).length ≤ 256 ^ 7 := by
          rw [← p256, ← p256]
          have : 256 ^ (l.drop (i + 1)).length ≤ 256 ^ 7 := Nat.pow_le_pow_right (by omega) (by rw [List.length_drop]; omega)
          omega
        have h4 : (256 : Int) ^ 7 = 72057594037927936 := rfl
        rw [h4] at h3
        have hor := or_low (leNum (l.drop (i + 1))) (l[i].toNat : Int) h2.1 (by omega) (by omega) (by have := UInt8.toNat_lt l[i]; omega)
        rw [← h1] at hor
        have b0 : 0 ≤ leNum (l.drop (i + 1)) := h2.1
        have b1 : leNum (l.drop (i + 1)) < 72057594037927936 := by omega
        have hidx : ((i + 1 : Nat) : Int) - 1 = i := by omega
        rw [hidx]
        clear h1 h2 h3 h4 hidx
        go_wp2_with fail
        go_round
        case rel => exact ⟨i, rfl, by omega, rfl⟩
        case measure => simp [intOf]
      · have : j = 0 := by omega
        subst this
        go_wp2_with fail
        go_ret
        exact ⟨rfl, rfl⟩
end Go.Proofs.YtdjcclcejmeheaaGreat
end
section
namespace Go.Proofs.YtdjcclcejmeheaaGreat
set_option linter.unusedVariables false
set_option linter.unusedSimpArgs false
open Go.RowKit
def textB (tag : Int) (ls : List (List UInt8)) : List UInt8 := byt tag :: (ls.map lumpB).flatten
def textLen (ls : List (List UInt8)) : Nat := 1 + 8 * ls.length + totalLen ls
theorem textB_len (tag : Int) (ls : List (List UInt8)) : (textB tag ls).length = textLen ls := by
  unfold textB textLen
  rw [List.length_cons]
  induction ls with
  | nil => rfl
  | cons a r ih =>
    have e : totalLen (a :: r) = a.length + totalLen r := by simp [totalLen]
    rw [List.map_cons, List.flatten_cons, List.length_append, lumpB_length, List.length_cons, e]
    omega
theorem textB_take (tag : Int) (ls : List (List UInt8)) (i : Nat) (h : i < ls.length) : textB tag (ls.take (i + 1)) = textB tag (ls.take i) ++ lumpB ls[i] := by
  unfold textB
  rw [take_snoc_at ls i h, List.map_append, List.flatten_append, List.cons_append]
  simp only [List.map_cons, List.map_nil, List.flatten_cons, List.flatten_nil, List.append_nil]
theorem textLen_take (ls : List (List UInt8)) (i : Nat) (h : i < ls.length) : textLen (ls.take i) + 8 + ls[i].length ≤ textLen ls := by
  have h1 := total_take ls i h
  have h2 := total_take_le ls (i + 1)
  unfold textLen
  rw [List.length_take]
  omega
set_option maxHeartbeats 1600000 in
theorem text_any (tag : Int) (v : Value) (ls : List (List UInt8)) (w : World) (h0 : 0 ≤ tag) (h1 : tag < 256) (hv : RdL w v ls) (hl : textLen ls ≤ 549755813888) :
    Calls Tryz.prog 122 #[.int .u8 tag, v] w (GivesOwn w (textB tag ls)) := by
  have hone := own_lit w w.heap.size [byt tag] (Nat.le_refl _) (by simp [maxLen])
  have e1 : bvs [byt tag] = [.int .u8 tag] := by simp [bvs, bv_byt tag h0 h1]
  rw [e1] at hone
  have HONE := Lib.hid hone
  clear hone e1
  rcases hv with ⟨rfl, rfl⟩ | ⟨b, o, c, rfl, hc, hm, hcell⟩
  · go_enter Tryz.func122, Tryz.ntmps122
    go_wp2_with fail
    refine wp_loop_rounds 1 ?_
    rw [rounds_succ]
    go_wp2_with fail
    go_ret
    exact ⟨_, rfl, HONE.out, bl_alloc (Below.refl _ _) _⟩
  · have hn : ls.length ≤ 549755813888 := by unfold textLen at hl; omega
    have HC := Lib.hid hcell
    clear hcell
    go_enter Tryz.func122, Tryz.ntmps122
    go_wp2_with fail
    go_loopw [5, 12] (fun v5 vi wr => ∃ i : Nat, vi = .int .i64 i ∧ i ≤ ls.length ∧ Own wr w.heap.size v5 (textB tag (ls.take i)) ∧ Below w.heap.size w wr) (fun _ vi _ => ls.length - (intOf vi).toNat)
    case atStart => exact ⟨0, rfl, by omega, HONE.out, bl_alloc (Below.refl _ _) _⟩
    case round =>
      obtain ⟨i, rfl, hi, ho, hb⟩ := hrel
      have HO := Lib.hid ho
      have HB := Lib.hid hb
      clear ho hb
      by_cases hlt : i < ls.length
      · obtain ⟨u, hu, hr⟩ := HC.out i hlt
        have hu3 : wr.cell? ⟨b, o + i, none⟩ = some u := by rw [HB.out.cell (World.block_lt_of_cell? w _ hu)]; exact hu
        have HR := Lib.hid (hr.below HB.out)
        have HLe := Lib.hid (textLen_take ls i hlt)
        have HTl := Lib.hid (textB_len tag (ls.take i))
        clear hr hu
        go_wp2_with fail
        refine (lump_any u ls[i] _ HR.out (by have := HLe.out; omega)).mono ?_
        rintro e w1 ⟨u1, rfl, hu1, hb1⟩
        have HU1 := Lib.hid hu1
        have HB1 := Lib.hid hb1
        clear hu1 hb1
        go_wp2_with (at_builtin; refine wpList_append_bytes rfl (.tmp 16) (.tmp 18) rfl w.heap.size rfl rfl (HO.out.below HB1.out) HU1.out.rd (by have h3 := HTl.out; have h4 := HLe.out; have h5 := lumpB_length ls[i]; omega) (Nat.le_trans HB.out.size HB1.out.size) ?_; intro v' w' ho hg)
        go_roundw
        case rel => exact ⟨i + 1, by go_num, by omega, by rw [textB_take tag ls i hlt]; exact ho, below_grown (bl_bl HB.out HB1.out) hg HO.out.row⟩
        case measure => simp [intOf]; omega
      · have : i = ls.length := by omega
        subst this
        go_wp2_with fail
        go_ret
        have ho := HO.out
        rw [List.take_length] at ho
        exact ⟨_, rfl, ho, HB.out⟩
set_option maxHeartbeats 1600000 in
theorem rtext_any (tag : Int) (v : Value) (ls : List (List UInt8)) (w : World) (h0 : 0 ≤ tag) (h1 : tag < 256) (hv : RdL w v ls) (hl : textLen ls ≤ 549755813888) :
    Calls Tryz.prog 132 #[.int .u8 tag, v] w (GivesOwn w (textB tag ls)) := by
  have hone := own_lit w w.heap.size [byt tag] (Nat.le_refl _) (by simp [maxLen])
  have e1 : bvs [byt tag] = [.int .u8 tag] := by simp [bvs, bv_byt tag h0 h1]
  rw [e1] at hone
  have HONE := Lib.hid hone
  clear hone e1
  rcases hv with ⟨rfl, rfl⟩ | ⟨b, o, c, rfl, hc, hm, hcell⟩
  · go_enter Tryz.func132, Tryz.ntmps132
    go_wp2_with fail
    refine wp_loop_rounds 1 ?_
    rw [rounds_succ]
    go_wp2_with fail
    go_ret
    exact ⟨_, rfl, HONE.out, bl_alloc (Below.refl _ _) _⟩
  · have hn : ls.length ≤ 549755813888 := by unfold textLen at hl; omega
    have HC := Lib.hid hcell
    clear hcell
    go_enter Tryz.func132, Tryz.ntmps132
    go_wp2_with fail
    go_loopw [5, 6] (fun v5 vi wr => ∃ i : Nat, vi = .int .i64 i ∧ i ≤ ls.length ∧ Own wr w.heap.size v5 (textB tag (ls.take i)) ∧ Below w.heap.size w wr) (fun _ vi _ => ls.length - (intOf vi).toNat)
    case atStart => exact ⟨0, rfl, by omega, HONE.out, bl_alloc (Below.refl _ _) _⟩
    case round =>
      obtain ⟨i, rfl, hi, ho, hb⟩ := hrel
      have HO := Lib.hid ho
      have HB := Lib.hid hb
      clear ho hb
      by_cases hlt : i < ls.length
      · obtain ⟨u, hu, hr⟩ := HC.out i hlt
        have hu3 : wr.cell? ⟨b, o + i, none⟩ = some u := by rw [HB.out.cell (World.block_lt_of_cell? w _ hu)]; exact hu
        have HR := Lib.hid (hr.below HB.out)
        have HLe := Lib.hid (textLen_take ls i hlt)
        have HTl := Lib.hid (textB_len tag (ls.take i))
        clear hr hu
        go_wp2_with fail
        refine (rlump_any u ls[i] _ HR.out (by have := HLe.out; omega)).mono ?_
        rintro e w1 ⟨u1, rfl, hu1, hb1⟩
        have HU1 := Lib.hid hu1
        have HB1 := Lib.hid hb1
        clear hu1 hb1
        go_wp2_with (at_builtin; refine wpList_append_bytes rfl (.tmp 15) (.tmp 20) rfl w.heap.size rfl rfl (HO.out.below HB1.out) HU1.out.rd (by have h3 := HTl.out; have h4 := HLe.out; have h5 := lumpB_length ls[i]; omega) (Nat.le_trans HB.out.size HB1.out.size) ?_; intro v' w' ho hg)
        go_roundw
        case rel => exact ⟨i + 1, by go_num, by omega, by rw [textB_take tag ls i hlt]; exact ho, below_grown (bl_bl HB.out HB1.out) hg HO.out.row⟩
        case measure => simp [intOf]; omega
      · have : i = ls.length := by omega
        subst this
        go_wp2_with fail
        go_ret
        have ho := HO.out
        rw [List.take_length] at ho
        exact ⟨_, rfl, ho, HB.out⟩
end Go.Proofs.YtdjcclcejmeheaaGreat
end
section
namespace Go.Proofs.YtdjcclcejmeheaaGreat
set_option linter.unusedVariables false
set_option linter.unusedSimpArgs false
open Go.RowKit
section
variable {P : Program} {ops : Array Oper} {md : Region.Mode} {C : World → Prop}
/-- Every order of the head; behind it what L says. -/
def anyHead (P : Program) (md : Region.Mode) (ops : Array Oper) (C : World → Prop) (n : Nat) (L : Array Bool → Act → Prop) : Nat → Array Bool → Act → Prop
  | 0, listed, a => L listed a
  | f + 1, listed, a =>
    Region.ready md ops listed ≠ [] ∧ ∀ i ∈ Region.ready md ops listed, i < n ∧ qOp P ops C i (anyHead P md ops C n L f (listed.setIfInBounds i true)) a
theorem any_of_head {n g : Nat} {L : Array Bool → Act → Prop} {Q : Exit → Act → World → Prop} (hL : ∀ listed a w, C w → L listed a → wpAny P md ops Q g listed a w) :
    ∀ (f : Nat) (listed : Array Bool) (a : Act) (w : World), C w → anyHead P md ops C n L f listed a → wpAny P md ops Q (f + g) listed a w
  | 0, listed, a, w, hw, h => by rw [Nat.zero_add]; exact hL _ _ _ hw h
  | f + 1, listed, a, w, hw, h => by
    rw [show f + 1 + g = (f + g) + 1 by omega]
    exact ⟨fun h0 => absurd h0 h.1, fun i hi => wpOp_of_qOp hw (fun a' w' hw' h' => any_of_head hL f _ a' w' hw' h') (h.2 i hi).2⟩
theorem anyHead_first {n i : Nat} {oi : Oper} {v : Value} {L : Array Bool → Act → Prop} (hi : ops[i]? = some oi) (hsel : ∀ (j : Nat) (o : Oper) cs b, ops[j]? = some o → o.op ≠ .select cs b)
    (hs : Region.sinkB md ops n = true) (hc : Region.chainB md ops n = true) (hn : n < ops.size) (hin : i < n)
    (hdone : ∀ listed a, L listed a → ∀ j ∈ Region.ready md ops listed, n ≤ j) :
    ∀ (f : Nat) (listed : Array Bool) (a : Act), HeadInv md ops n listed →
      (∀ j oj, ops[j]? = some oj → j ≠ i → listed.getD j true = false → (∀ e ∈ oj.after, Region.binds md e = true → e.on ≠ i) → oi.apart ops oj = true) →
      i ∈ Region.ready md ops listed → YieldsIn P ops C oi v a →
      anyHead P md ops C n L f (listed.setIfInBounds i true) (a.put oi.dst v) → anyHead P md ops C n L (f + 1) listed a := by
  intro f
  induction f with
  | zero =>
    intro listed a inv _ hr hy H
    have hun := (mem_ready.1 hr).1
    refine ⟨fun h => (by rw [h] at hr; cases hr), fun j hj => ?_⟩
    have hjn : j < n := by
      rcases Nat.lt_or_ge j n with h | h
      · exact h
      · exact absurd hj (tail_waits hs hc hn inv _ i rfl hin hun j h)
    refine ⟨hjn, ?_⟩
    by_cases hji : j = i
    · subst hji; exact hy.qOp hi H
    · have := hdone _ _ H j (ready_mono hj hji)
      omega
  | succ f ih =>
    intro listed a inv hfree hr hy H
    have hun := (mem_ready.1 hr).1
    refine ⟨fun h => (by rw [h] at hr; cases hr), fun j hj => ?_⟩
    have hjn : j < n := by
      rcases Nat.lt_or_ge j n with h | h
      · exact h
      · exact absurd hj (tail_waits hs hc hn inv _ i rfl hin hun j h)
    refine ⟨hjn, ?_⟩
    by_cases hji : j = i
    · subst hji; exact hy.qOp hi H
    · have h1 := (H.2 j (ready_mono hj hji)).2
      obtain ⟨hjun, oj, hoj, hall⟩ := mem_ready.1 hj
      have hnot : ∀ e ∈ oj.after, Region.binds md e = true → e.on ≠ i := fun e he hb heq => by
        have h1 := hall e he hb
        rw [heq, getD_both hun] at h1
        cases h1
      have h2 := qOp_put hoj (hfree j oj hoj hji hjun hnot) (fun cs b => hsel i oi cs b hi) (fun cs b => hsel j oj cs b hoj) hy h1
      refine qOp_mono (fun a' h3 => ih (listed.setIfInBounds j true) a' (inv.set hj hjn) (fun k ok hk hki hun hno => ?_) (ready_mono hr (Ne.symm hji)) h3.1 ?_) h2
      · refine hfree k ok hk hki ?_ hno
        by_cases hjk : j = k
        · subst hjk; exact hjun
        · rw [getD_set_ne true hjk] at hun; exact hun
      · rw [Array.setIfInBounds_comm _ _ hji]
        exact h3.2
theorem anyHead_lex {n g : Nat} {Lq : Act → Prop} (hsel : Region.noSelect ops = true) (hs : Region.sinkB md ops n = true) (hc : Region.chainB md ops n = true) (hn : n < ops.size) :
    ∀ (l : List Oper) (k : Nat) (listed : Array Bool) (a : Act), (∀ j, j < l.length → l[j]? = ops[k + j]?) → k + l.length = n → HeadInv md ops n listed →
    Region.lexHead md ops g l.length k listed = true → wpQuiet P ops C Lq l a →
    anyHead P md ops C n (fun listed' a' => Region.seqB md ops g n listed' = true ∧ Lq a') l.length listed a
  | [], k, listed, a, _, hk, _, hB, h => by
    have : k = n := by simpa using hk
    subst this
    exact ⟨by simpa [Region.lexHead] using hB, h⟩
  | o :: l, k, listed, a, hl, hk, inv, hB, h => by
    have h0 : ops[k]? = some o := by simpa using (hl 0 (by simp)).symm
    simp only [List.length_cons, Region.lexHead, Bool.and_eq_true] at hB
    obtain ⟨⟨hr, hf⟩, hB'⟩ := hB
    have hkn : k < n := by simp only [List.length_cons] at hk; omega
    have hr' : k ∈ Region.ready md ops listed := by simpa using hr
    have hst : qOp P ops C k (wpQuiet P ops C Lq l) a := by unfold qOp; simp only [h0]; exact h
    obtain ⟨v, hy, hK⟩ := yieldsIn_of_qOp h0 hst
    exact anyHead_first h0 (Region.noSelect_spec hsel) hs hc hn hkn (fun listed' a' hL => seqB_ready hL.1) l.length listed a inv (Region.free_spec h0 hf) hr' hy
      (anyHead_lex hsel hs hc hn l (k + 1) _ _ (fun j hj => by have := hl (j + 1) (by simp; omega); simpa [Nat.add_assoc, Nat.add_comm 1 j] using this) (by simp only [List.length_cons] at hk; omega) (inv.set hr' hkn) hB' hK)
/-- The head, quiet in the class, in the text's order; then the tail, from every world of the class. -/
theorem region_quiet_tail {id : Nat} {Q : Exit → Act → World → Prop} {a : Act} {w : World} {l : List Oper} (n : Nat) (hm : P.follows .mixedOrders = true) (hB : Region.lexTailB .any l.toArray n = true)
    (hC : C w.drew) (h : wpQuiet P l.toArray C (fun a' => ∀ w', C w' → wpList P l.toArray Q (l.drop n) a' w') (l.take n) a) : (Code.region id l.toArray true).wp P Q a w := by
  simp only [Region.lexTailB, Bool.and_eq_true, decide_eq_true_eq] at hB
  obtain ⟨⟨⟨⟨hsel, hn⟩, hs⟩, hc⟩, hlex⟩ := hB
  have hn' : n < l.length := by simpa using hn
  have htl : (l.take n).length = n := by simp; omega
  have inv0 : HeadInv .any l.toArray n (Array.replicate l.toArray.size false) :=
    ⟨by simp, fun j oj _ hl => (by rw [getD_replicate_false] at hl; cases hl), fun t _ ht => getD_in (by simpa using ht) (getD_replicate_false _ _)⟩
  have H := anyHead_lex (md := .any) (g := l.toArray.size - n) hsel hs hc hn (l.take n) 0 _ a (fun j hj => by
    have hj' : j < n := by rw [htl] at hj; exact hj
    simp [hj']) (by simpa using htl) inv0 (by rw [htl]; exact hlex) h
  refine wp_region_any hm ?_
  have hfin := any_of_head (Q := Q) (g := l.toArray.size - n) (fun listed a' w' hw' hL => by
    have hsz : l.toArray.size - n = (l.drop n).length := by simp
    rw [hsz] at hL ⊢
    exact wpAny_of_seq (l.drop n) n listed a' w' (fun j => by simp [List.getElem?_drop]) hL.1 (hL.2 w' hw')) _ _ _ _ hC H
  rw [htl, show n + (l.toArray.size - n) = l.toArray.size by simp; omega] at hfin
  exact hfin
/-- A whole array is loaded in a quiet head. -/
theorem wpQuiet_load_row {o : Oper} {rest : List Oper} {a : Act} {Q : Act → Prop} (hgd : o.guard = none) (ty : TypeId) (x : Operand) (ho : o.op = .load ty x)
    (g : Nat) (hx : a.eval x = .pointer (some ⟨g, 0, none⟩)) (t : TypeId) (cs : Array Value) (fr : Nat × Nat) (d : TypeDesc) (hg : ∀ w, C w → w.heap[g]? = some (.cells cs t fr))
    (hu : P.underlying ty = some d) (hd : (match d with | .struct _ | .array _ _ => true | _ => false) = true) (hi : (P.info? ty).map (·.size) = some cs.size)
    (h : wpQuiet P ops C Q rest (a.put o.dst (.agg cs))) : wpQuiet P ops C Q (o :: rest) a := by
  unfold wpQuiet
  rw [if_pos (by simp [Region.wanted, hgd])]
  refine ⟨.agg cs, fun w hw => ?_, h⟩
  unfold Oper.quietAt execOp
  simp only [ho, hx, Instr.loadAt, Instr.sureAddr, Sem.run_bind, Sem.run_pure, Result.andThen_ok, run_loadVar_row w g t ty cs fr d (hg w hw) hu hd hi]
  first | rfl | trivial | exact hw | (simp; done) | skip
end
end Go.Proofs.YtdjcclcejmeheaaGreat
end

