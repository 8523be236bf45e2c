/-
  SigsBounds: for every input the law returns true.
-/
import Derived.Test.YtebepjgopmaogaaSiW
namespace Go.Proofs.Ytebepjgopmaogaa
set_option linter.unusedVariables false
set_option linter.unusedSimpArgs false
open Go.RowKit

theorem checkF_y {y r s : Int} {m : List UInt8} (h : y < 1 ∨ 2305843009213693951 ≤ y) : checkF y m r s = false := by
  unfold checkF; rw [show unitF y = false from h.elim unitF_low unitF_high]; rfl
theorem checkF_r {y r s : Int} {m : List UInt8} (h : r < 1 ∨ 2305843009213693951 ≤ r) : checkF y m r s = false := by
  unfold checkF; rw [show unitF r = false from h.elim unitF_low unitF_high]; simp
theorem checkF_s {y r s : Int} {m : List UInt8} (h : 2305843009213693950 ≤ s) : checkF y m r s = false := by
  unfold checkF; rw [decide_eq_false (show ¬ s < 2305843009213693950 by omega)]; simp

set_option maxRecDepth 100000 in
set_option maxHeartbeats 3200000 in
theorem sigsBounds_walk (a : Int) (v : Value) (m : List UInt8) (k : Int) (w : World) (w0 : (Lit.int .u64 a).wf = true) (w1 : Rd w v m) (w2 : (Lit.int .u8 k).wf = true) :
    Calls Try.prog 7 #[.int .u64 a, v, .int .u8 k] w fun e w' => e = .returned (.bool true) ∧ Below w.heap.size w w' := by
  obtain ⟨a0, a1⟩ := bounds_u64 w0
  obtain ⟨k0, k1⟩ := bounds_u8 w2
  obtain ⟨p, c, rfl⟩ := w1.shape
  have HM := Lib.hid w1
  clear w1 w0 w2
  by_cases hl : 60 < m.length
  · have hl' : (60 : Int) < (m.length : Int) := by omega
    go_enter Try.func7, Try.ntmps7
    go_wp2_with fail
    refine (known_any _).mono ?_
    rintro e w2 ⟨rfl, hb⟩
    have HB := Lib.hid hb
    clear hb
    go_wp2_with fail
    go_ret
    exact ⟨rfl, HB.out⟩
  have hl' : ¬ ((60 : Int) < (m.length : Int)) := by omega
  have x0 : 0 ≤ a % 2305843009213693950 := by omega
  have x1 : a % 2305843009213693950 < 2305843009213693950 := by omega
  have hC := check_own (a % 2305843009213693950) m x0 x1
  rw [pub_mod] at hC
  have hS := signV_val a m
  obtain ⟨p0, p1⟩ := pubF_bd a
  obtain ⟨r0, r1⟩ := sigR_bd (a % 2305843009213693950) m
  obtain ⟨s0, s1⟩ := sigS_bd (a % 2305843009213693950) m
  generalize hr : sigR (a % 2305843009213693950) m = r at *
  generalize hs : sigS (a % 2305843009213693950) m = s at *
  obtain ⟨q, hq⟩ : ∃ q, q = pubF a := ⟨_, rfl⟩
  rw [← hq] at p0 p1 hC
  have HC := Lib.hid hC
  have HS1 := Lib.hid hS
  have HQ := Lib.hid hq
  clear hC hS hq hr hs x0 x1
  have hk : k % 5 = 0 ∨ k % 5 = 1 ∨ k % 5 = 2 ∨ k % 5 = 3 ∨ k % 5 = 4 := by omega
  obtain ⟨rb, sb, HR, hbad⟩ : ∃ rb sb : Int, (k % 5 = 0 ∧ rb = 0 ∧ sb = s ∨ k % 5 = 1 ∧ rb = 2305843009213693951 ∧ sb = s ∨ k % 5 = 2 ∧ rb = r ∧ sb = 2305843009213693950 ∨ k % 5 = 3 ∧ rb = r ∧ sb = 18446744073709551615 ∨ k % 5 = 4 ∧ rb = 18446744073709551615 ∧ sb = s) ∧ checkF q m rb sb = false := by
    rcases hk with h | h | h | h | h
    · exact ⟨0, s, by omega, checkF_r (by omega)⟩
    · exact ⟨2305843009213693951, s, by omega, checkF_r (by omega)⟩
    · exact ⟨r, 2305843009213693950, by omega, checkF_s (by omega)⟩
    · exact ⟨r, 18446744073709551615, by omega, checkF_s (by omega)⟩
    · exact ⟨18446744073709551615, s, by omega, checkF_r (by omega)⟩
  have rb0 : 0 ≤ rb := by omega
  have rb1 : rb < 18446744073709551616 := by omega
  have sb0 : 0 ≤ sb := by omega
  have sb1 : sb < 18446744073709551616 := by omega
  have HR := Lib.hid HR
  have HBAD := Lib.hid hbad
  clear hbad
  clear hk
  go_enter Try.func7, Try.ntmps7
  go_wp2_with fail
  refine (known_any _).mono ?_
  rintro e w2 ⟨rfl, hb⟩
  have HB := Lib.hid hb
  clear hb
  go_wp2_with fail
  refine (public_any a _ a0 (by omega)).mono ?_
  rintro e w3 ⟨rfl, d3⟩
  have HB3 := Lib.hid (bl_dr HB.out d3)
  clear d3
  rw [← HQ.out]
  go_wp2_with fail
  refine (sign_any a _ m _ a0 (by omega) (HM.out.below HB3.out) (by omega)).mono ?_
  rintro e w4 ⟨rfl, hb4⟩
  have HB4 := Lib.hid (bl_bl HB3.out hb4)
  clear hb4
  rw [HS1.out]
  go_upto_region 7 with fail
  have hA := SA.new r s w4 (0, 0) 25
  refine wp_world (fun W => SA w4.heap.size r s W ∧ Below w.heap.size w W) ⟨hA, bl_alloc HB4.out _⟩ ?_
  rintro W ⟨h1, hB⟩
  have HA := Lib.hid h1
  have HBW := Lib.hid hB
  obtain ⟨c0, c1⟩ := h1.at_
  clear hB hA h1
  rcases HR.out with ⟨hk, e1, e2⟩ | ⟨hk, e1, e2⟩ | ⟨hk, e1, e2⟩ | ⟨hk, e1, e2⟩ | ⟨hk, e1, e2⟩
  · go_upto_region 8 with fail
    rw [e1, e2] at HBAD
    refine wp_world (fun Y => SA w4.heap.size r s Y ∧ Below w.heap.size w Y ∧ SA (W.heap.size + 1) 0 s Y) ⟨(HA.out.alloc _).alloc _, bl_alloc (bl_alloc HBW.out _) _, by have h := SA.new 0 s (W.alloc (.cells #[.int .u64 0, .int .u64 s, .int .u64 2305843009213693951, .int .u64 s, .int .u64 r, .int .u64 2305843009213693950, .int .u64 r, .int .u64 18446744073709551615, .int .u64 18446744073709551615, .int .u64 s] 25)) (0, 0) 25; simpa using h⟩ ?_
    rintro Y ⟨ha, hb, hn⟩
    have HA1 := Lib.hid ha
    have HB1 := Lib.hid hb
    obtain ⟨c0, c1⟩ := ha.at_
    obtain ⟨d0, d1⟩ := hn.at_
    clear ha hb hn e1 e2
    go_wp2_with fail
    refine (check_any q _ _ _ m _ (by omega) (by omega) (by omega) (by omega) (by omega) (by omega) (HM.out.below HB1.out) (by omega)).mono ?_
    rintro e y1 ⟨rfl, hb⟩
    rw [HBAD.out]
    have HA2 := Lib.hid (HA1.out.below hb)
    have HB2 := Lib.hid (bl_bl HB1.out hb)
    obtain ⟨c0, c1⟩ := HA2.out.at_
    clear hb
    go_wp2_with fail
    refine (check_any 0 _ _ _ m _ (by omega) (by omega) (by omega) (by omega) (by omega) (by omega) (HM.out.below HB2.out) (by omega)).mono ?_
    rintro e y2 ⟨rfl, hb⟩
    rw [checkF_y (by omega)]
    have HA3 := Lib.hid (HA2.out.below hb)
    have HB3 := Lib.hid (bl_bl HB2.out hb)
    obtain ⟨c0, c1⟩ := HA3.out.at_
    clear hb
    go_wp2_with fail
    refine (check_any 2305843009213693951 _ _ _ m _ (by omega) (by omega) (by omega) (by omega) (by omega) (by omega) (HM.out.below HB3.out) (by omega)).mono ?_
    rintro e y3 ⟨rfl, hb⟩
    rw [checkF_y (by omega)]
    have HA4 := Lib.hid (HA3.out.below hb)
    have HB4 := Lib.hid (bl_bl HB3.out hb)
    obtain ⟨c0, c1⟩ := HA4.out.at_
    clear hb
    go_wp2_with fail
    refine (check_any 18446744073709551615 _ _ _ m _ (by omega) (by omega) (by omega) (by omega) (by omega) (by omega) (HM.out.below HB4.out) (by omega)).mono ?_
    rintro e y4 ⟨rfl, hb⟩
    rw [checkF_y (by omega)]
    have HA5 := Lib.hid (HA4.out.below hb)
    have HB5 := Lib.hid (bl_bl HB4.out hb)
    obtain ⟨c0, c1⟩ := HA5.out.at_
    clear hb
    go_wp2_with fail
    refine (check_any q _ _ _ m _ (by omega) (by omega) (by omega) (by omega) (by omega) (by omega) (HM.out.below HB5.out) (by omega)).mono ?_
    rintro e y5 ⟨rfl, hb⟩
    rw [HC.out]
    have HA6 := Lib.hid (HA5.out.below hb)
    have HB6 := Lib.hid (bl_bl HB5.out hb)
    obtain ⟨c0, c1⟩ := HA6.out.at_
    clear hb
    go_wp2_with fail
    go_ret
    exact ⟨rfl, HB6.out⟩
  · go_upto_region 8 with fail
    rw [e1, e2] at HBAD
    refine wp_world (fun Y => SA w4.heap.size r s Y ∧ Below w.heap.size w Y ∧ SA (W.heap.size + 1) 2305843009213693951 s Y) ⟨(HA.out.alloc _).alloc _, bl_alloc (bl_alloc HBW.out _) _, by have h := SA.new 2305843009213693951 s (W.alloc (.cells #[.int .u64 0, .int .u64 s, .int .u64 2305843009213693951, .int .u64 s, .int .u64 r, .int .u64 2305843009213693950, .int .u64 r, .int .u64 18446744073709551615, .int .u64 18446744073709551615, .int .u64 s] 25)) (0, 0) 25; simpa using h⟩ ?_
    rintro Y ⟨ha, hb, hn⟩
    have HA1 := Lib.hid ha
    have HB1 := Lib.hid hb
    obtain ⟨c0, c1⟩ := ha.at_
    obtain ⟨d0, d1⟩ := hn.at_
    clear ha hb hn e1 e2
    go_wp2_with fail
    refine (check_any q _ _ _ m _ (by omega) (by omega) (by omega) (by omega) (by omega) (by omega) (HM.out.below HB1.out) (by omega)).mono ?_
    rintro e y1 ⟨rfl, hb⟩
    rw [HBAD.out]
    have HA2 := Lib.hid (HA1.out.below hb)
    have HB2 := Lib.hid (bl_bl HB1.out hb)
    obtain ⟨c0, c1⟩ := HA2.out.at_
    clear hb
    go_wp2_with fail
    refine (check_any 0 _ _ _ m _ (by omega) (by omega) (by omega) (by omega) (by omega) (by omega) (HM.out.below HB2.out) (by omega)).mono ?_
    rintro e y2 ⟨rfl, hb⟩
    rw [checkF_y (by omega)]
    have HA3 := Lib.hid (HA2.out.below hb)
    have HB3 := Lib.hid (bl_bl HB2.out hb)
    obtain ⟨c0, c1⟩ := HA3.out.at_
    clear hb
    go_wp2_with fail
    refine (check_any 2305843009213693951 _ _ _ m _ (by omega) (by omega) (by omega) (by omega) (by omega) (by omega) (HM.out.below HB3.out) (by omega)).mono ?_
    rintro e y3 ⟨rfl, hb⟩
    rw [checkF_y (by omega)]
    have HA4 := Lib.hid (HA3.out.below hb)
    have HB4 := Lib.hid (bl_bl HB3.out hb)
    obtain ⟨c0, c1⟩ := HA4.out.at_
    clear hb
    go_wp2_with fail
    refine (check_any 18446744073709551615 _ _ _ m _ (by omega) (by omega) (by omega) (by omega) (by omega) (by omega) (HM.out.below HB4.out) (by omega)).mono ?_
    rintro e y4 ⟨rfl, hb⟩
    rw [checkF_y (by omega)]
    have HA5 := Lib.hid (HA4.out.below hb)
    have HB5 := Lib.hid (bl_bl HB4.out hb)
    obtain ⟨c0, c1⟩ := HA5.out.at_
    clear hb
    go_wp2_with fail
    refine (check_any q _ _ _ m _ (by omega) (by omega) (by omega) (by omega) (by omega) (by omega) (HM.out.below HB5.out) (by omega)).mono ?_
    rintro e y5 ⟨rfl, hb⟩
    rw [HC.out]
    have HA6 := Lib.hid (HA5.out.below hb)
    have HB6 := Lib.hid (bl_bl HB5.out hb)
    obtain ⟨c0, c1⟩ := HA6.out.at_
    clear hb
    go_wp2_with fail
    go_ret
    exact ⟨rfl, HB6.out⟩
  · go_upto_region 8 with fail
    rw [e1, e2] at HBAD
    refine wp_world (fun Y => SA w4.heap.size r s Y ∧ Below w.heap.size w Y ∧ SA (W.heap.size + 1) r 2305843009213693950 Y) ⟨(HA.out.alloc _).alloc _, bl_alloc (bl_alloc HBW.out _) _, by have h := SA.new r 2305843009213693950 (W.alloc (.cells #[.int .u64 0, .int .u64 s, .int .u64 2305843009213693951, .int .u64 s, .int .u64 r, .int .u64 2305843009213693950, .int .u64 r, .int .u64 18446744073709551615, .int .u64 18446744073709551615, .int .u64 s] 25)) (0, 0) 25; simpa using h⟩ ?_
    rintro Y ⟨ha, hb, hn⟩
    have HA1 := Lib.hid ha
    have HB1 := Lib.hid hb
    obtain ⟨c0, c1⟩ := ha.at_
    obtain ⟨d0, d1⟩ := hn.at_
    clear ha hb hn e1 e2
    go_wp2_with fail
    refine (check_any q _ _ _ m _ (by omega) (by omega) (by omega) (by omega) (by omega) (by omega) (HM.out.below HB1.out) (by omega)).mono ?_
    rintro e y1 ⟨rfl, hb⟩
    rw [HBAD.out]
    have HA2 := Lib.hid (HA1.out.below hb)
    have HB2 := Lib.hid (bl_bl HB1.out hb)
    obtain ⟨c0, c1⟩ := HA2.out.at_
    clear hb
    go_wp2_with fail
    refine (check_any 0 _ _ _ m _ (by omega) (by omega) (by omega) (by omega) (by omega) (by omega) (HM.out.below HB2.out) (by omega)).mono ?_
    rintro e y2 ⟨rfl, hb⟩
    rw [checkF_y (by omega)]
    have HA3 := Lib.hid (HA2.out.below hb)
    have HB3 := Lib.hid (bl_bl HB2.out hb)
    obtain ⟨c0, c1⟩ := HA3.out.at_
    clear hb
    go_wp2_with fail
    refine (check_any 2305843009213693951 _ _ _ m _ (by omega) (by omega) (by omega) (by omega) (by omega) (by omega) (HM.out.below HB3.out) (by omega)).mono ?_
    rintro e y3 ⟨rfl, hb⟩
    rw [checkF_y (by omega)]
    have HA4 := Lib.hid (HA3.out.below hb)
    have HB4 := Lib.hid (bl_bl HB3.out hb)
    obtain ⟨c0, c1⟩ := HA4.out.at_
    clear hb
    go_wp2_with fail
    refine (check_any 18446744073709551615 _ _ _ m _ (by omega) (by omega) (by omega) (by omega) (by omega) (by omega) (HM.out.below HB4.out) (by omega)).mono ?_
    rintro e y4 ⟨rfl, hb⟩
    rw [checkF_y (by omega)]
    have HA5 := Lib.hid (HA4.out.below hb)
    have HB5 := Lib.hid (bl_bl HB4.out hb)
    obtain ⟨c0, c1⟩ := HA5.out.at_
    clear hb
    go_wp2_with fail
    refine (check_any q _ _ _ m _ (by omega) (by omega) (by omega) (by omega) (by omega) (by omega) (HM.out.below HB5.out) (by omega)).mono ?_
    rintro e y5 ⟨rfl, hb⟩
    rw [HC.out]
    have HA6 := Lib.hid (HA5.out.below hb)
    have HB6 := Lib.hid (bl_bl HB5.out hb)
    obtain ⟨c0, c1⟩ := HA6.out.at_
    clear hb
    go_wp2_with fail
    go_ret
    exact ⟨rfl, HB6.out⟩
  · go_upto_region 8 with fail
    rw [e1, e2] at HBAD
    refine wp_world (fun Y => SA w4.heap.size r s Y ∧ Below w.heap.size w Y ∧ SA (W.heap.size + 1) r 18446744073709551615 Y) ⟨(HA.out.alloc _).alloc _, bl_alloc (bl_alloc HBW.out _) _, by have h := SA.new r 18446744073709551615 (W.alloc (.cells #[.int .u64 0, .int .u64 s, .int .u64 2305843009213693951, .int .u64 s, .int .u64 r, .int .u64 2305843009213693950, .int .u64 r, .int .u64 18446744073709551615, .int .u64 18446744073709551615, .int .u64 s] 25)) (0, 0) 25; simpa using h⟩ ?_
    rintro Y ⟨ha, hb, hn⟩
    have HA1 := Lib.hid ha
    have HB1 := Lib.hid hb
    obtain ⟨c0, c1⟩ := ha.at_
    obtain ⟨d0, d1⟩ := hn.at_
    clear ha hb hn e1 e2
    go_wp2_with fail
    refine (check_any q _ _ _ m _ (by omega) (by omega) (by omega) (by omega) (by omega) (by omega) (HM.out.below HB1.out) (by omega)).mono ?_
    rintro e y1 ⟨rfl, hb⟩
    rw [HBAD.out]
    have HA2 := Lib.hid (HA1.out.below hb)
    have HB2 := Lib.hid (bl_bl HB1.out hb)
    obtain ⟨c0, c1⟩ := HA2.out.at_
    clear hb
    go_wp2_with fail
    refine (check_any 0 _ _ _ m _ (by omega) (by omega) (by omega) (by omega) (by omega) (by omega) (HM.out.below HB2.out) (by omega)).mono ?_
    rintro e y2 ⟨rfl, hb⟩
    rw [checkF_y (by omega)]
    have HA3 := Lib.hid (HA2.out.below hb)
    have HB3 := Lib.hid (bl_bl HB2.out hb)
    obtain ⟨c0, c1⟩ := HA3.out.at_
    clear hb
    go_wp2_with fail
    refine (check_any 2305843009213693951 _ _ _ m _ (by omega) (by omega) (by omega) (by omega) (by omega) (by omega) (HM.out.below HB3.out) (by omega)).mono ?_
    rintro e y3 ⟨rfl, hb⟩
    rw [checkF_y (by omega)]
    have HA4 := Lib.hid (HA3.out.below hb)
    have HB4 := Lib.hid (bl_bl HB3.out hb)
    obtain ⟨c0, c1⟩ := HA4.out.at_
    clear hb
    go_wp2_with fail
    refine (check_any 18446744073709551615 _ _ _ m _ (by omega) (by omega) (by omega) (by omega) (by omega) (by omega) (HM.out.below HB4.out) (by omega)).mono ?_
    rintro e y4 ⟨rfl, hb⟩
    rw [checkF_y (by omega)]
    have HA5 := Lib.hid (HA4.out.below hb)
    have HB5 := Lib.hid (bl_bl HB4.out hb)
    obtain ⟨c0, c1⟩ := HA5.out.at_
    clear hb
    go_wp2_with fail
    refine (check_any q _ _ _ m _ (by omega) (by omega) (by omega) (by omega) (by omega) (by omega) (HM.out.below HB5.out) (by omega)).mono ?_
    rintro e y5 ⟨rfl, hb⟩
    rw [HC.out]
    have HA6 := Lib.hid (HA5.out.below hb)
    have HB6 := Lib.hid (bl_bl HB5.out hb)
    obtain ⟨c0, c1⟩ := HA6.out.at_
    clear hb
    go_wp2_with fail
    go_ret
    exact ⟨rfl, HB6.out⟩
  · go_upto_region 8 with fail
    rw [e1, e2] at HBAD
    refine wp_world (fun Y => SA w4.heap.size r s Y ∧ Below w.heap.size w Y ∧ SA (W.heap.size + 1) 18446744073709551615 s Y) ⟨(HA.out.alloc _).alloc _, bl_alloc (bl_alloc HBW.out _) _, by have h := SA.new 18446744073709551615 s (W.alloc (.cells #[.int .u64 0, .int .u64 s, .int .u64 2305843009213693951, .int .u64 s, .int .u64 r, .int .u64 2305843009213693950, .int .u64 r, .int .u64 18446744073709551615, .int .u64 18446744073709551615, .int .u64 s] 25)) (0, 0) 25; simpa using h⟩ ?_
    rintro Y ⟨ha, hb, hn⟩
    have HA1 := Lib.hid ha
    have HB1 := Lib.hid hb
    obtain ⟨c0, c1⟩ := ha.at_
    obtain ⟨d0, d1⟩ := hn.at_
    clear ha hb hn e1 e2
    go_wp2_with fail
    refine (check_any q _ _ _ m _ (by omega) (by omega) (by omega) (by omega) (by omega) (by omega) (HM.out.below HB1.out) (by omega)).mono ?_
    rintro e y1 ⟨rfl, hb⟩
    rw [HBAD.out]
    have HA2 := Lib.hid (HA1.out.below hb)
    have HB2 := Lib.hid (bl_bl HB1.out hb)
    obtain ⟨c0, c1⟩ := HA2.out.at_
    clear hb
    go_wp2_with fail
    refine (check_any 0 _ _ _ m _ (by omega) (by omega) (by omega) (by omega) (by omega) (by omega) (HM.out.below HB2.out) (by omega)).mono ?_
    rintro e y2 ⟨rfl, hb⟩
    rw [checkF_y (by omega)]
    have HA3 := Lib.hid (HA2.out.below hb)
    have HB3 := Lib.hid (bl_bl HB2.out hb)
    obtain ⟨c0, c1⟩ := HA3.out.at_
    clear hb
    go_wp2_with fail
    refine (check_any 2305843009213693951 _ _ _ m _ (by omega) (by omega) (by omega) (by omega) (by omega) (by omega) (HM.out.below HB3.out) (by omega)).mono ?_
    rintro e y3 ⟨rfl, hb⟩
    rw [checkF_y (by omega)]
    have HA4 := Lib.hid (HA3.out.below hb)
    have HB4 := Lib.hid (bl_bl HB3.out hb)
    obtain ⟨c0, c1⟩ := HA4.out.at_
    clear hb
    go_wp2_with fail
    refine (check_any 18446744073709551615 _ _ _ m _ (by omega) (by omega) (by omega) (by omega) (by omega) (by omega) (HM.out.below HB4.out) (by omega)).mono ?_
    rintro e y4 ⟨rfl, hb⟩
    rw [checkF_y (by omega)]
    have HA5 := Lib.hid (HA4.out.below hb)
    have HB5 := Lib.hid (bl_bl HB4.out hb)
    obtain ⟨c0, c1⟩ := HA5.out.at_
    clear hb
    go_wp2_with fail
    refine (check_any q _ _ _ m _ (by omega) (by omega) (by omega) (by omega) (by omega) (by omega) (HM.out.below HB5.out) (by omega)).mono ?_
    rintro e y5 ⟨rfl, hb⟩
    rw [HC.out]
    have HA6 := Lib.hid (HA5.out.below hb)
    have HB6 := Lib.hid (bl_bl HB5.out hb)
    obtain ⟨c0, c1⟩ := HA6.out.at_
    clear hb
    go_wp2_with fail
    go_ret
    exact ⟨rfl, HB6.out⟩
end Go.Proofs.Ytebepjgopmaogaa
