/-
  The challenge, the public number, the signature: what the program's and the reference's functions come to.
-/
import Derived.Test.YteapoemockimfaaNbr
import Derived.Test.YteapoemockimfaaFldR
namespace Go.Proofs.Yteapoemockimfaa
set_option linter.unusedVariables false
set_option linter.unusedSimpArgs false
open Go.RowKit

/-- A tagged hash's number. -/
def tagN (tag : Int) (ls : List (List UInt8)) : Int := numF (sumB (textB tag ls))
theorem tagN_bd (tag : Int) (ls : List (List UInt8)) : 0 ≤ tagN tag ls ∧ tagN tag ls < 2305843009213693950 := numF_bd _
def chalF (r y : Int) (m : List UInt8) : Int := tagN 101 [numB r, numB y, m]
def pubF (x : Int) : Int := fpow 7 (x % 2305843009213693950) 2305843009213693951
def signK (x : Int) (m : List UInt8) : Int := tagN 107 [numB x, m]

theorem rdl_three (w : World) {u v x : Value} {k l m : List UInt8} (T : TypeId) (hu : Rd w u k) (hv : Rd w v l) (hx : Rd w x m) :
    RdL (w.alloc (.cells #[u, v, x] T)) (.slice (some ⟨w.heap.size, 0, none⟩) 3 3) [k, l, m] := by
  refine .inr ⟨_, 0, 3, rfl, by simp, by decide, fun i hi => ?_⟩
  have hb := bl_alloc (Below.refl w.heap.size w) (.cells #[u, v, x] T)
  rw [Nat.zero_add, cell_of_row _ _ _ _ _ _ (heap_alloc_new _ _)]
  match i, hi with
  | 0, _ => exact ⟨_, rfl, hu.below hb⟩
  | 1, _ => exact ⟨_, rfl, hv.below hb⟩
  | 2, _ => exact ⟨_, rfl, hx.below hb⟩
theorem rdl_two (w : World) {u v : Value} {k l : List UInt8} (T : TypeId) (hu : Rd w u k) (hv : Rd w v l) :
    RdL (w.alloc (.cells #[u, v] T)) (.slice (some ⟨w.heap.size, 0, none⟩) 2 2) [k, l] := by
  refine .inr ⟨_, 0, 2, rfl, by simp, by decide, fun i hi => ?_⟩
  have hb := bl_alloc (Below.refl w.heap.size w) (.cells #[u, v] T)
  rw [Nat.zero_add, cell_of_row _ _ _ _ _ _ (heap_alloc_new _ _)]
  match i, hi with
  | 0, _ => exact ⟨_, rfl, hu.below hb⟩
  | 1, _ => exact ⟨_, rfl, hv.below hb⟩
theorem textLen3 (x y : Int) (m : List UInt8) : textLen [numB x, numB y, m] = 41 + m.length := by
  simp [textLen, totalLen, numB_length]; omega
theorem textLen2 (x : Int) (m : List UInt8) : textLen [numB x, m] = 25 + m.length := by
  simp [textLen, totalLen, numB_length]; omega
theorem num_own (n : Int) (w : World) (h0 : 0 ≤ n) (h1 : n < 18446744073709551616) : Calls Try.prog 30 #[.int .u64 n] w (GivesOwn w (numB n)) := by
  refine (num_any n w h0 h1).mono ?_
  rintro e w' ⟨rfl, rfl⟩
  exact ⟨_, rfl, own_lit w _ (numB n) (Nat.le_refl _) (by rw [numB_length]; decide), bl_alloc (Below.refl _ _) _⟩

set_option maxHeartbeats 1600000 in
theorem chal_any (r y : Int) (v : Value) (m : List UInt8) (w : World) (r0 : 0 ≤ r) (r1 : r < 18446744073709551616) (y0 : 0 ≤ y) (y1 : y < 18446744073709551616) (hv : Rd w v m) (hl : m.length ≤ 549755813800) :
    Calls Try.prog 55 #[.int .u64 r, .int .u64 y, v] w fun e w' => e = .returned (.int .u64 (chalF r y m)) ∧ Below w.heap.size w w' := by
  obtain ⟨a, c, rfl⟩ := hv.shape
  have HV := Lib.hid hv
  clear hv
  go_enter Try.func55, Try.ntmps55
  go_wp2_with fail
  refine (num_own r _ r0 r1).mono ?_
  rintro e w1 ⟨u1, rfl, hu1, hb1⟩
  obtain ⟨a1, c1, rfl⟩ := hu1.rd.shape
  have HU1 := Lib.hid hu1.rd
  have HB1 := Lib.hid hb1
  clear hu1 hb1
  go_wp2_with fail
  refine (num_own y _ y0 y1).mono ?_
  rintro e w2 ⟨u2, rfl, hu2, hb2⟩
  obtain ⟨a2, c2, rfl⟩ := hu2.rd.shape
  have HU2 := Lib.hid hu2.rd
  have HU1' := Lib.hid (HU1.out.below hb2)
  have HV2 := Lib.hid (HV.out.below (bl_bl HB1.out hb2))
  have HB2 := Lib.hid (bl_bl HB1.out hb2)
  clear hu2 hb2
  go_wp2_with fail
  refine (tag_any 101 _ [numB r, numB y, m] _ (by omega) (by omega) (rdl_three _ _ HU1'.out HU2.out HV2.out) (by rw [textLen3]; omega)).mono ?_
  rintro e w3 ⟨rfl, hb3⟩
  have HB3 := Lib.hid (bl_bl (bl_alloc HB2.out _) hb3)
  clear hb3
  go_wp2_with fail
  refine (number_any (sumB (textB 101 [numB r, numB y, m])) _ (sumB_length _)).mono ?_
  rintro e w4 ⟨rfl, hb4⟩
  have HB4 := Lib.hid (bl_bl HB3.out hb4)
  clear hb4
  go_wp2_with fail
  go_ret
  exact ⟨rfl, HB4.out⟩

set_option maxHeartbeats 1600000 in
theorem point_any (r y : Int) (v : Value) (m : List UInt8) (w : World) (r0 : 0 ≤ r) (r1 : r < 18446744073709551616) (y0 : 0 ≤ y) (y1 : y < 18446744073709551616) (hv : Rd w v m) (hl : m.length ≤ 549755813800) :
    Calls Try.prog 46 #[.int .u64 r, .int .u64 y, v] w fun e w' => e = .returned (.int .u64 (chalF r y m)) ∧ Below w.heap.size w w' := by
  obtain ⟨a, c, rfl⟩ := hv.shape
  have HV := Lib.hid hv
  clear hv
  go_enter Try.func46, Try.ntmps46
  go_wp2_with fail
  refine (rnum_any r _ r0 r1).mono ?_
  rintro e w1 ⟨u1, rfl, hu1, hb1⟩
  obtain ⟨a1, c1, rfl⟩ := hu1.rd.shape
  have HU1 := Lib.hid hu1.rd
  have HB1 := Lib.hid hb1
  clear hu1 hb1
  go_wp2_with fail
  refine (rnum_any y _ y0 y1).mono ?_
  rintro e w2 ⟨u2, rfl, hu2, hb2⟩
  obtain ⟨a2, c2, rfl⟩ := hu2.rd.shape
  have HU2 := Lib.hid hu2.rd
  have HU1' := Lib.hid (HU1.out.below hb2)
  have HV2 := Lib.hid (HV.out.below (bl_bl HB1.out hb2))
  have HB2 := Lib.hid (bl_bl HB1.out hb2)
  clear hu2 hb2
  go_wp2_with fail
  refine (rtag_any 101 _ [numB r, numB y, m] _ (by omega) (by omega) (rdl_three _ _ HU1'.out HU2.out HV2.out) (by rw [textLen3]; omega)).mono ?_
  rintro e w3 ⟨rfl, hb3⟩
  have HB3 := Lib.hid (bl_bl (bl_alloc HB2.out _) hb3)
  clear hb3
  go_wp2_with fail
  refine (rnumber_any (sumB (textB 101 [numB r, numB y, m])) _ (sumB_length _)).mono ?_
  rintro e w4 ⟨rfl, hb4⟩
  have HB4 := Lib.hid (bl_bl HB3.out hb4)
  clear hb4
  go_wp2_with fail
  go_ret
  exact ⟨rfl, HB4.out⟩

set_option maxHeartbeats 800000 in
theorem public_any (x : Int) (w : World) (x0 : 0 ≤ x) (x1 : x < 18446744073709551616) :
    Calls Try.prog 56 #[.int .u64 x] w fun e w' => e = .returned (.int .u64 (pubF x)) ∧ Dr w w' := by
  go_enter Try.func56, Try.ntmps56
  go_wp2_with fail
  refine (pow_any 7 (x % 2305843009213693950) 2305843009213693951 _ (by omega) (by omega) (by omega)).mono ?_
  rintro e w1 ⟨rfl, hd⟩
  go_wp2_with fail
  go_ret
  exact ⟨rfl, hd⟩

set_option maxHeartbeats 800000 in
theorem rpublic_any (x : Int) (w : World) (x0 : 0 ≤ x) (x1 : x < 18446744073709551616) :
    Calls Try.prog 17 #[.int .u64 x] w fun e w' => e = .returned (.int .u64 (pubF x)) ∧ Dr w w' := by
  go_enter Try.func17, Try.ntmps17
  go_wp2_with fail
  refine (rpow_any 7 (x % 2305843009213693950) 2305843009213693951 _ (by omega) (by omega) (by omega)).mono ?_
  rintro e w1 ⟨rfl, hd⟩
  go_wp2_with fail
  go_ret
  exact ⟨rfl, hd⟩
end Go.Proofs.Yteapoemockimfaa
