/-
  SigsOne: for every input the law returns true.
-/
import Derived.Test.YtebepjgopmaogaaSiB
namespace Go.Proofs.Ytebepjgopmaogaa
set_option linter.unusedVariables false
set_option linter.unusedSimpArgs false
open Go.RowKit
attribute [local irreducible] checkF

set_option maxRecDepth 100000 in
set_option maxHeartbeats 3200000 in
theorem sigsOne_walk (a : Int) (v : Value) (m : List UInt8) (k : Int) (w : World) (w0 : (Lit.int .u64 a).wf = true) (w1 : Rd w v m) (w2 : (Lit.int .u64 k).wf = true) :
    Calls Try.prog 4 #[.int .u64 a, v, .int .u64 k] w fun e w' => e = .returned (.bool true) ∧ Below w.heap.size w w' := by
  obtain ⟨a0, a1⟩ := bounds_u64 w0
  obtain ⟨k0, k1⟩ := bounds_u64 w2
  obtain ⟨p, c, rfl⟩ := w1.shape
  have HM := Lib.hid w1
  clear w1 w0 w2
  by_cases hl : 60 < m.length
  · have hl' : (60 : Int) < (m.length : Int) := by omega
    go_enter Try.func4, Try.ntmps4
    go_wp2_with fail
    refine (known_any _).mono ?_
    rintro e w2 ⟨rfl, hb⟩
    have HB := Lib.hid hb
    clear hb
    go_wp2_with fail
    go_ret
    exact ⟨rfl, HB.out⟩
  have hl' : ¬ ((60 : Int) < (m.length : Int)) := by omega
  have x0 : 0 ≤ a % 2305843009213693950 := by omega
  have x1 : a % 2305843009213693950 < 2305843009213693950 := by omega
  have hC := check_own (a % 2305843009213693950) m x0 x1
  rw [pub_mod] at hC
  have hS := signV_val a m
  obtain ⟨p0, p1⟩ := pubF_bd a
  obtain ⟨r0, r1⟩ := sigR_bd (a % 2305843009213693950) m
  obtain ⟨s0, s1⟩ := sigS_bd (a % 2305843009213693950) m
  generalize hr : sigR (a % 2305843009213693950) m = r at *
  generalize hs : sigS (a % 2305843009213693950) m = s at *
  obtain ⟨q, hq⟩ : ∃ q, q = pubF a := ⟨_, rfl⟩
  rw [← hq] at p0 p1 hC
  have HC := Lib.hid hC
  have HS1 := Lib.hid hS
  have HQ := Lib.hid hq
  clear hC hS hq hr hs x0 x1
  obtain ⟨u, hu⟩ : ∃ u, u = (s + k % 2305843009213693950) % 2305843009213693950 := ⟨_, rfl⟩
  have u0 : 0 ≤ u := by omega
  have u1 : u < 2305843009213693950 := by omega
  have HU := Lib.hid (show (s + k) % 2305843009213693950 = u by omega)
  clear hu
  obtain ⟨b, hb⟩ : ∃ b, checkF q m r u = b := ⟨_, rfl⟩
  have HT := Lib.hid hb
  clear hb
  go_enter Try.func4, Try.ntmps4
  go_wp2_with fail
  refine (known_any _).mono ?_
  rintro e w2 ⟨rfl, hb⟩
  have HB := Lib.hid hb
  clear hb
  go_wp2_with fail
  refine (sign_any a _ m _ a0 (by omega) (HM.out.below HB.out) (by omega)).mono ?_
  rintro e w4 ⟨rfl, hb4⟩
  have HB4 := Lib.hid (bl_bl HB.out hb4)
  clear hb4
  rw [HS1.out]
  go_wp2_with fail
  refine (public_any a _ a0 (by omega)).mono ?_
  rintro e w3 ⟨rfl, d3⟩
  rw [← HQ.out]
  obtain ⟨n3, rfl⟩ := d3
  go_upto_region 10 with fail
  rw [HU.out]
  have hA := ((((SA.new r s w4 (0, 0) 25).drewN n3).alloc (.cells #[.int .u64 r, .int .u64 u] 25)).alloc (.cells #[.int .u64 (r + 2305843009213693951), .int .u64 s] 25))
  have hA2 := (SA.new r u ((w4.alloc (.cells #[.int .u64 r, .int .u64 s] 25)).drewN n3) (0, 0) 25).alloc (.cells #[.int .u64 (r + 2305843009213693951), .int .u64 s] 25)
  have hA3 := SA.new (r + 2305843009213693951) s (((w4.alloc (.cells #[.int .u64 r, .int .u64 s] 25)).drewN n3).alloc (.cells #[.int .u64 r, .int .u64 u] 25)) (0, 0) 25
  rw [show ((w4.alloc (.cells #[.int .u64 r, .int .u64 s] 25)).drewN n3).heap.size = w4.heap.size + 1 by simp] at hA2
  rw [show (((w4.alloc (.cells #[.int .u64 r, .int .u64 s] 25)).drewN n3).alloc (.cells #[.int .u64 r, .int .u64 u] 25)).heap.size = w4.heap.size + 1 + 1 by simp] at hA3
  refine wp_world (fun W => SA w4.heap.size r s W ∧ SA (w4.heap.size + 1) r u W ∧ SA (w4.heap.size + 1 + 1) (r + 2305843009213693951) s W ∧ Below w.heap.size w W) ⟨hA, hA2, hA3, bl_alloc (bl_alloc (bl_drewN (bl_alloc HB4.out _) _) _) _⟩ ?_
  rintro W ⟨h1, h2, h3, hB⟩
  have HS := Lib.hid h1
  have HV := Lib.hid h2
  have HW := Lib.hid h3
  have HB := Lib.hid hB
  clear h1 h2 h3 hB hA hA2 hA3
  have z0 : 0 ≤ s + 2305843009213693950 := by omega
  have z1 : s + 2305843009213693950 < 18446744073709551616 := by omega
  have z2 : 0 ≤ q + 2305843009213693951 := by omega
  have z3 : q + 2305843009213693951 < 18446744073709551616 := by omega
  have hw1 : Value.int .u64 (IntKind.u64.wrap (s + 2305843009213693950)) = .int .u64 (s + 2305843009213693950) := by rw [IntKind.wrap_u64]; congr 1; omega
  have hw2 : Value.int .u64 (IntKind.u64.wrap (q + 2305843009213693951)) = .int .u64 (q + 2305843009213693951) := by rw [IntKind.wrap_u64]; congr 1; omega
  go_region_held3 (fun w' => (w'.cell? ⟨w4.heap.size, 0, none⟩ = some (.int .u64 r) ∧ w'.cell? ⟨w4.heap.size, 1, none⟩ = some (.int .u64 s) ∧ w'.cell? ⟨w4.heap.size + 1, 0, none⟩ = some (.int .u64 r) ∧ w'.cell? ⟨w4.heap.size + 1, 1, none⟩ = some (.int .u64 u)) ∧ w'.cell? ⟨w4.heap.size + 1 + 1, 0, none⟩ = some (.int .u64 (r + 2305843009213693951)) ∧ w'.cell? ⟨w4.heap.size + 1 + 1, 1, none⟩ = some (.int .u64 s)) (first
    | (refine ⟨SA.both ?_ ?_, SA.cells ?_⟩ <;> repeat (first | exact HS.out | exact HV.out | exact HW.out | apply SA.drew | apply SA.drewN | apply SA.alloc))) (first
    | (go_at_call 13; refine (check_any _ _ _ _ m _ (by omega) (by omega) (by omega) (by omega) (by omega) (by omega) (HM.out.below (by repeat (first | exact HB.out | apply bl_drew | apply bl_drewN | apply bl_alloc))) (by omega)).mono ?_; rintro e v2 ⟨rfl, hb2⟩; (first | rw [HC.out] | rw [HT.out] | rw [checkF_r (by omega)] | rw [checkF_s (by omega)] | rw [checkF_y (by omega)]); have HB' := Lib.hid (bl_bl (by repeat (first | exact HB.out | apply bl_drew | apply bl_drewN | apply bl_alloc)) hb2); have HS' := Lib.hid (SA.below (by repeat (first | exact HS.out | apply SA.drew | apply SA.drewN | apply SA.alloc)) hb2); have HV' := Lib.hid (SA.below (by repeat (first | exact HV.out | apply SA.drew | apply SA.drewN | apply SA.alloc)) hb2); have HW' := Lib.hid (SA.below (by repeat (first | exact HW.out | apply SA.drew | apply SA.drewN | apply SA.alloc)) hb2); clear hb2; have HB := HB'; have HS := HS'; have HV := HV'; have HW := HW'; clear HB' HS' HV' HW')
    | (go_at_call 16; refine (rcheck_any _ _ _ _ m _ (by omega) (by omega) (by omega) (by omega) (by omega) (by omega) (HM.out.below (by repeat (first | exact HB.out | apply bl_drew | apply bl_drewN | apply bl_alloc))) (by omega)).mono ?_; rintro e v2 ⟨rfl, hb2⟩; (first | rw [HC.out] | rw [HT.out] | rw [checkF_r (by omega)] | rw [checkF_s (by omega)] | rw [checkF_y (by omega)]); have HB' := Lib.hid (bl_bl (by repeat (first | exact HB.out | apply bl_drew | apply bl_drewN | apply bl_alloc)) hb2); have HS' := Lib.hid (SA.below (by repeat (first | exact HS.out | apply SA.drew | apply SA.drewN | apply SA.alloc)) hb2); have HV' := Lib.hid (SA.below (by repeat (first | exact HV.out | apply SA.drew | apply SA.drewN | apply SA.alloc)) hb2); have HW' := Lib.hid (SA.below (by repeat (first | exact HW.out | apply SA.drew | apply SA.drewN | apply SA.alloc)) hb2); clear hb2; have HB := HB'; have HS := HS'; have HV := HV'; have HW := HW'; clear HB' HS' HV' HW'))
  go_wp2_with fail
  go_ret
  exact ⟨rfl, HB.out⟩
end Go.Proofs.Ytebepjgopmaogaa
