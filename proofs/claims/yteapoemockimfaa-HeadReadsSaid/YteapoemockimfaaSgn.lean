/-
  The signature: what the program's and the reference's Sign come to.
-/
import Derived.Test.YteapoemockimfaaChl
namespace Go.Proofs.Yteapoemockimfaa
set_option linter.unusedVariables false
set_option linter.unusedSimpArgs false
open Go.RowKit

def sigV (r s : Int) : Value := .agg #[.int .u64 r, .int .u64 s]
/-- The signature's parts, of a secret below the order. -/
def sigR (x : Int) (m : List UInt8) : Int := fpow 7 (signK x m) 2305843009213693951
def sigE (x : Int) (m : List UInt8) : Int := chalF (sigR x m) (pubF x) m
def sigS (x : Int) (m : List UInt8) : Int := fadd (signK x m) (fmul x (sigE x m) 2305843009213693950) 2305843009213693950
def signV (x : Int) (m : List UInt8) : Value := sigV (sigR (x % 2305843009213693950) m) (sigS (x % 2305843009213693950) m)
theorem pubF_bd (x : Int) : 0 ≤ pubF x ∧ pubF x < 2305843009213693951 := fpow_bd _ _ _
theorem sigR_bd (x : Int) (m : List UInt8) : 0 ≤ sigR x m ∧ sigR x m < 2305843009213693951 := fpow_bd _ _ _
theorem signK_bd (x : Int) (m : List UInt8) : 0 ≤ signK x m ∧ signK x m < 2305843009213693950 := tagN_bd _ _
theorem sigE_bd (x : Int) (m : List UInt8) : 0 ≤ sigE x m ∧ sigE x m < 2305843009213693950 := tagN_bd _ _
theorem fmulO_bd (a b : Int) : 0 ≤ fmul a b 2305843009213693950 ∧ fmul a b 2305843009213693950 < 2305843009213693950 := ⟨Int.emod_nonneg _ (by decide), Int.emod_lt_of_pos _ (by decide)⟩
theorem faddO_bd (a b : Int) : 0 ≤ fadd a b 2305843009213693950 ∧ fadd a b 2305843009213693950 < 2305843009213693950 := ⟨Int.emod_nonneg _ (by decide), Int.emod_lt_of_pos _ (by decide)⟩
theorem sigS_bd (x : Int) (m : List UInt8) : 0 ≤ sigS x m ∧ sigS x m < 2305843009213693950 := faddO_bd _ _
theorem sig_one (r s : Int) : (#[Value.int .u64 r, Value.int .u64 s] : Array Value).all (·.oneCell') = true := by simp [Value.oneCell']
theorem sig_info : (Try.prog.info? 26).map (·.size) = some 2 := by kernel_rfl

set_option maxRecDepth 100000 in
set_option maxHeartbeats 3200000 in
theorem sign_any (x : Int) (v : Value) (m : List UInt8) (w : World) (x0 : 0 ≤ x) (x1 : x < 18446744073709551616) (hv : Rd w v m) (hl : m.length ≤ 549755813800) :
    Calls Try.prog 32 #[.int .u64 x, v] w fun e w' => e = .returned (signV x m) ∧ Below w.heap.size w w' := by
  obtain ⟨a, c, rfl⟩ := hv.shape
  have HV := Lib.hid hv
  clear hv
  unfold signV
  obtain ⟨y, hy⟩ : ∃ y, y = x % 2305843009213693950 := ⟨_, rfl⟩
  have y0 : 0 ≤ y := by omega
  have y1 : y < 2305843009213693950 := by omega
  rw [← hy]
  have HYY := Lib.hid hy
  clear hy
  go_enter Try.func32, Try.ntmps32
  go_upto_region 2 with fail
  rw [← HYY.out]
  refine wp_world (fun W => (∃ z, W.heap[w.heap.size]? = some (.cells z 26 (0, 0)) ∧ z.size = 2) ∧ Rd W (.slice a m.length c) m ∧ Below w.heap.size w W) ⟨⟨_, heap_alloc_new _ _, rfl⟩, HV.out.below (bl_alloc (Below.refl _ _) _), bl_alloc (Below.refl _ _) _⟩ ?_
  rintro W ⟨⟨z, hz, hz2⟩, hV, hB⟩
  have HV := Lib.hid hV
  have HB := Lib.hid hB
  have HZ := Lib.hid hz
  have hlt := (Array.getElem?_eq_some_iff.1 hz).1
  have HLT := Lib.hid hlt
  clear hV hB hz hlt x0 x1 HYY
  go_wp2_with fail
  refine (num_own y _ y0 (by omega)).mono ?_
  rintro e w1 ⟨u1, rfl, hu1, hb1⟩
  obtain ⟨a1, c1, rfl⟩ := hu1.rd.shape
  have HU1 := Lib.hid hu1.rd
  have HV1 := Lib.hid (HV.out.below hb1)
  have HB1 := Lib.hid hb1
  clear hu1 hb1
  go_wp2_with fail
  refine (tag_any 107 _ [numB y, m] _ (by omega) (by omega) (rdl_two _ _ HU1.out HV1.out) (by rw [textLen2]; omega)).mono ?_
  rintro e w2 ⟨rfl, hb2⟩
  have HB2 := Lib.hid (bl_bl (bl_alloc HB1.out _) hb2)
  clear hb2
  go_wp2_with fail
  refine (number_any (sumB (textB 107 [numB y, m])) _ (sumB_length _)).mono ?_
  rintro e w3 ⟨rfl, hb3⟩
  have HB3 := Lib.hid (bl_bl HB2.out hb3)
  clear hb3
  have hk : numF (sumB (textB 107 [numB y, m])) = signK y m := rfl
  rw [hk]
  clear hk
  obtain ⟨k0, k1⟩ := signK_bd y m
  go_wp2_with fail
  refine (pow_any 7 (signK y m) 2305843009213693951 _ (by omega) k0 (by omega)).mono ?_
  rintro e w4 ⟨rfl, hd4⟩
  have HB4 := Lib.hid (bl_dr HB3.out hd4)
  clear hd4
  have hR : fpow 7 (signK y m) 2305843009213693951 = sigR y m := rfl
  rw [hR]
  clear hR
  obtain ⟨r0, r1⟩ := sigR_bd y m
  go_wp2_with fail
  refine (public_any y _ y0 (by omega)).mono ?_
  rintro e w5 ⟨rfl, hd5⟩
  have HB5 := Lib.hid (bl_dr HB4.out hd5)
  clear hd5
  obtain ⟨p0, p1⟩ := pubF_bd y
  go_wp2_with fail
  refine (chal_any (sigR y m) (pubF y) _ m _ r0 (by omega) p0 (by omega) (HV.out.below HB5.out) hl).mono ?_
  rintro e w6 ⟨rfl, hb6⟩
  have HB6 := Lib.hid (bl_bl HB5.out hb6)
  clear hb6
  have hE : chalF (sigR y m) (pubF y) m = sigE y m := rfl
  rw [hE]
  clear hE
  obtain ⟨e0, e1⟩ := sigE_bd y m
  go_wp2_with fail
  refine (mul_any y (sigE y m) 2305843009213693950 _ y0 e0).mono ?_
  rintro e w7 ⟨rfl, hd7⟩
  have HB7 := Lib.hid (bl_dr HB6.out hd7)
  clear hd7
  go_wp2_with fail
  refine (add_any (signK y m) (fmul y (sigE y m) 2305843009213693950) 2305843009213693950 _ k0 (fmulO_bd _ _).1).mono ?_
  rintro e w8 ⟨rfl, hd8⟩
  have HB8 := Lib.hid (bl_dr HB7.out hd8)
  clear hd8
  have hS : fadd (signK y m) (fmul y (sigE y m) 2305843009213693950) 2305843009213693950 = sigS y m := rfl
  rw [hS]
  clear hS
  clear k0 k1 r0 r1 p0 p1 e0 e1
  generalize hR : sigR y m = R
  generalize hS : sigS y m = S
  have HR := Lib.hid hR
  have HS := Lib.hid hS
  clear hR hS
  have hz8 : w8.heap[w.heap.size]? = some (.cells z 26 (0, 0)) := by rw [HB8.out.block _ HLT.out]; exact HZ.out
  have HZ8 := Lib.hid hz8
  clear hz8
  go_wp2_with (refine wpList_store_row rfl 26 (.tmp 4) (.tmp 30) rfl w.heap.size #[.int .u64 R, .int .u64 S] rfl rfl 26 _ HZ8.out sig_info hz2 (sig_one R S) ?_)
  have hBB : Below w.heap.size w w8 := HB.out.trans (HB8.out.mono HB.out.size)
  refine bodyPost_ret (v := sigV R S) (results_cell_row rfl _ _ w.heap.size 26 _ (0, 0) _ rfl (setRow_heap _ _ _ _ _ _ HZ8.out) Try.underlying26 rfl sig_info) rfl ⟨by rw [HR.out, HS.out], below_setRow hBB (Nat.le_refl _)⟩

set_option maxRecDepth 100000 in
set_option maxHeartbeats 3200000 in
theorem rsign_any (x : Int) (v : Value) (m : List UInt8) (w : World) (x0 : 0 ≤ x) (x1 : x < 18446744073709551616) (hv : Rd w v m) (hl : m.length ≤ 549755813800) :
    Calls Try.prog 23 #[.int .u64 x, v] w fun e w' => e = .returned (signV x m) ∧ Below w.heap.size w w' := by
  obtain ⟨a, c, rfl⟩ := hv.shape
  have HV := Lib.hid hv
  clear hv
  unfold signV
  obtain ⟨y, hy⟩ : ∃ y, y = x % 2305843009213693950 := ⟨_, rfl⟩
  have y0 : 0 ≤ y := by omega
  have y1 : y < 2305843009213693950 := by omega
  rw [← hy]
  have HYY := Lib.hid hy
  clear hy
  go_enter Try.func23, Try.ntmps23
  go_upto_region 2 with fail
  rw [← HYY.out]
  refine wp_world (fun W => (∃ z, W.heap[w.heap.size]? = some (.cells z 26 (0, 0)) ∧ z.size = 2) ∧ Rd W (.slice a m.length c) m ∧ Below w.heap.size w W) ⟨⟨_, heap_alloc_new _ _, rfl⟩, HV.out.below (bl_alloc (Below.refl _ _) _), bl_alloc (Below.refl _ _) _⟩ ?_
  rintro W ⟨⟨z, hz, hz2⟩, hV, hB⟩
  have HV := Lib.hid hV
  have HB := Lib.hid hB
  have HZ := Lib.hid hz
  have hlt := (Array.getElem?_eq_some_iff.1 hz).1
  have HLT := Lib.hid hlt
  clear hV hB hz hlt x0 x1 HYY
  go_wp2_with fail
  refine (rnum_any y _ y0 (by omega)).mono ?_
  rintro e w1 ⟨u1, rfl, hu1, hb1⟩
  obtain ⟨a1, c1, rfl⟩ := hu1.rd.shape
  have HU1 := Lib.hid hu1.rd
  have HV1 := Lib.hid (HV.out.below hb1)
  have HB1 := Lib.hid hb1
  clear hu1 hb1
  go_wp2_with fail
  refine (rtag_any 107 _ [numB y, m] _ (by omega) (by omega) (rdl_two _ _ HU1.out HV1.out) (by rw [textLen2]; omega)).mono ?_
  rintro e w2 ⟨rfl, hb2⟩
  have HB2 := Lib.hid (bl_bl (bl_alloc HB1.out _) hb2)
  clear hb2
  go_wp2_with fail
  refine (rnumber_any (sumB (textB 107 [numB y, m])) _ (sumB_length _)).mono ?_
  rintro e w3 ⟨rfl, hb3⟩
  have HB3 := Lib.hid (bl_bl HB2.out hb3)
  clear hb3
  have hk : numF (sumB (textB 107 [numB y, m])) = signK y m := rfl
  rw [hk]
  clear hk
  obtain ⟨k0, k1⟩ := signK_bd y m
  go_wp2_with fail
  refine (rpow_any 7 (signK y m) 2305843009213693951 _ (by omega) k0 (by omega)).mono ?_
  rintro e w4 ⟨rfl, hd4⟩
  have HB4 := Lib.hid (bl_dr HB3.out hd4)
  clear hd4
  have hR : fpow 7 (signK y m) 2305843009213693951 = sigR y m := rfl
  rw [hR]
  clear hR
  obtain ⟨r0, r1⟩ := sigR_bd y m
  go_wp2_with fail
  refine (rpublic_any y _ y0 (by omega)).mono ?_
  rintro e w5 ⟨rfl, hd5⟩
  have HB5 := Lib.hid (bl_dr HB4.out hd5)
  clear hd5
  obtain ⟨p0, p1⟩ := pubF_bd y
  go_wp2_with fail
  refine (point_any (sigR y m) (pubF y) _ m _ r0 (by omega) p0 (by omega) (HV.out.below HB5.out) hl).mono ?_
  rintro e w6 ⟨rfl, hb6⟩
  have HB6 := Lib.hid (bl_bl HB5.out hb6)
  clear hb6
  have hE : chalF (sigR y m) (pubF y) m = sigE y m := rfl
  rw [hE]
  clear hE
  obtain ⟨e0, e1⟩ := sigE_bd y m
  go_wp2_with fail
  refine (rmul_any y (sigE y m) 2305843009213693950 _ y0 e0 (by omega)).mono ?_
  rintro e w7 ⟨rfl, hd7⟩
  have HB7 := Lib.hid (bl_dr HB6.out hd7)
  clear hd7
  go_wp2_with fail
  refine (radd_any (signK y m) (fmul y (sigE y m) 2305843009213693950) 2305843009213693950 _ k0 (fmulO_bd _ _).1).mono ?_
  rintro e w8 ⟨rfl, hd8⟩
  have HB8 := Lib.hid (bl_dr HB7.out hd8)
  clear hd8
  have hS : fadd (signK y m) (fmul y (sigE y m) 2305843009213693950) 2305843009213693950 = sigS y m := rfl
  rw [hS]
  clear hS
  clear k0 k1 r0 r1 p0 p1 e0 e1
  generalize hR : sigR y m = R
  generalize hS : sigS y m = S
  have HR := Lib.hid hR
  have HS := Lib.hid hS
  clear hR hS
  have hz8 : w8.heap[w.heap.size]? = some (.cells z 26 (0, 0)) := by rw [HB8.out.block _ HLT.out]; exact HZ.out
  have HZ8 := Lib.hid hz8
  clear hz8
  go_wp2_with (refine wpList_store_row rfl 26 (.tmp 4) (.tmp 30) rfl w.heap.size #[.int .u64 R, .int .u64 S] rfl rfl 26 _ HZ8.out sig_info hz2 (sig_one R S) ?_)
  have hBB : Below w.heap.size w w8 := HB.out.trans (HB8.out.mono HB.out.size)
  refine bodyPost_ret (v := sigV R S) (results_cell_row rfl _ _ w.heap.size 26 _ (0, 0) _ rfl (setRow_heap _ _ _ _ _ _ HZ8.out) Try.underlying26 rfl sig_info) rfl ⟨by rw [HR.out, HS.out], below_setRow hBB (Nat.le_refl _)⟩
end Go.Proofs.Yteapoemockimfaa
