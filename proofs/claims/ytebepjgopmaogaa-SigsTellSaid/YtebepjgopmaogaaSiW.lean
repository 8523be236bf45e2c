/-
  SigsWhole: for every input the law returns true.
-/
import Derived.Test.YtebepjgopmaogaaSiA
import Derived.Test.YtebepjgopmaogaaRow
namespace Go.Proofs.Ytebepjgopmaogaa
set_option linter.unusedVariables false
set_option linter.unusedSimpArgs false
open Go.RowKit

theorem signV_val (x : Int) (m : List UInt8) : signV x m = .agg #[.int .u64 (sigR (x % 2305843009213693950) m), .int .u64 (sigS (x % 2305843009213693950) m)] := rfl
theorem SA.both {g g' : Nat} {r s r' s' : Int} {w : World} (h : SA g r s w) (k : SA g' r' s' w) :
    w.cell? ⟨g, 0, none⟩ = some (.int .u64 r) ∧ w.cell? ⟨g, 1, none⟩ = some (.int .u64 s) ∧ w.cell? ⟨g', 0, none⟩ = some (.int .u64 r') ∧ w.cell? ⟨g', 1, none⟩ = some (.int .u64 s') :=
  ⟨h.at_.1, h.at_.2, k.at_.1, k.at_.2⟩
theorem sigR_pos (x : Int) (m : List UInt8) : 1 ≤ sigR x m := by
  have h := pub_pos (signK x m)
  unfold pubF at h
  have hb := signK_bd x m
  rw [show signK x m % 2305843009213693950 = signK x m from Int.emod_eq_of_lt hb.1 hb.2] at h
  exact h
/-- A genuine signature is taken. -/
theorem check_own (x : Int) (m : List UInt8) (x0 : 0 ≤ x) (x1 : x < 2305843009213693950) : checkF (pubF x) m (sigR x m) (sigS x m) = true := by
  unfold checkF
  rw [sign_same x m x0 x1, unitF_true (pub_pos x) (pubF_bd x).2, unitF_true (sigR_pos x m) (sigR_bd x m).2, decide_eq_true (sigS_bd x m).2]
  rfl

set_option maxRecDepth 100000 in
set_option maxHeartbeats 3200000 in
theorem sigsWhole_walk (a : Int) (v : Value) (m : List UInt8) (w : World) (w0 : (Lit.int .u64 a).wf = true) (w1 : Rd w v m) :
    Calls Try.prog 6 #[.int .u64 a, v] w fun e w' => e = .returned (.bool true) ∧ Below w.heap.size w w' := by
  obtain ⟨a0, a1⟩ := bounds_u64 w0
  obtain ⟨p, c, rfl⟩ := w1.shape
  have HM := Lib.hid w1
  clear w1
  by_cases hl : 100 < m.length
  · have hl' : (100 : Int) < (m.length : Int) := by omega
    go_enter Try.func6, Try.ntmps6
    go_wp2_with fail
    refine (known_any _).mono ?_
    rintro e w2 ⟨rfl, hb⟩
    have HB := Lib.hid hb
    clear hb
    go_wp2_with fail
    go_ret
    exact ⟨rfl, HB.out⟩
  have hl' : ¬ ((100 : Int) < (m.length : Int)) := by omega
  obtain ⟨x, hx⟩ : ∃ x, x = a % 2305843009213693950 := ⟨_, rfl⟩
  have x0 : 0 ≤ x := by omega
  have x1 : x < 2305843009213693950 := by omega
  have HX := Lib.hid hx
  clear hx
  have hxx : x % 2305843009213693950 = x := Int.emod_eq_of_lt x0 x1
  have hS1 := signV_val x m
  have hS2 := signV_val (x + 2305843009213693950) m
  rw [hxx] at hS1
  rw [show (x + 2305843009213693950) % 2305843009213693950 = x by omega] at hS2
  have HC := Lib.hid (check_own x m x0 x1)
  obtain ⟨p0, p1⟩ := pubF_bd x
  obtain ⟨r0, r1⟩ := sigR_bd x m
  obtain ⟨s0, s1⟩ := sigS_bd x m
  have r2 := sigR_pos x m
  obtain ⟨r, hr⟩ : ∃ r, r = sigR x m := ⟨_, rfl⟩
  obtain ⟨s, hs⟩ : ∃ r, r = sigS x m := ⟨_, rfl⟩
  rw [← hr, ← hs] at hS1 hS2
  rw [← hr] at r0 r1 r2
  rw [← hs] at s0 s1
  obtain ⟨q, hq⟩ : ∃ q, q = pubF x := ⟨_, rfl⟩
  rw [← hq] at p0 p1
  have HC := HC.out
  rw [← hr, ← hs, ← hq] at HC
  have HC := Lib.hid HC
  have HQ := Lib.hid hq
  clear hq
  have HS1 := Lib.hid hS1
  have HS2 := Lib.hid hS2
  clear hr hs hS1 hS2 hxx
  go_enter Try.func6, Try.ntmps6
  go_wp2_with fail
  refine (known_any _).mono ?_
  rintro e w2 ⟨rfl, hb⟩
  have HB := Lib.hid hb
  clear hb
  go_wp2_with fail
  rw [← HX.out]
  go_wp2_with fail
  refine (sign_any x _ m _ x0 (by omega) (HM.out.below HB.out) (by omega)).mono ?_
  rintro e w3 ⟨rfl, hb3⟩
  have HB3 := Lib.hid (bl_bl HB.out hb3)
  clear hb3
  rw [HS1.out]
  go_wp2_with fail
  refine (sign_any (x + 2305843009213693950) _ m _ (by omega) (by omega) (HM.out.below HB3.out) (by omega)).mono ?_
  rintro e w4 ⟨rfl, hb4⟩
  have HB4 := Lib.hid (bl_bl HB3.out hb4)
  clear hb4
  rw [HS2.out]
  go_upto_region 7 with fail
  have hA1 := (SA.new r s w4 (0, 0) 25).alloc (.cells #[.int .u64 r, .int .u64 s] 25)
  have hA2 := SA.new r s (w4.alloc (.cells #[.int .u64 r, .int .u64 s] 25)) (0, 0) 25
  rw [show (w4.alloc (.cells #[.int .u64 r, .int .u64 s] 25)).heap.size = w4.heap.size + 1 by simp] at hA2
  refine wp_world (fun W => SA w4.heap.size r s W ∧ SA (w4.heap.size + 1) r s W ∧ Below w.heap.size w W) ⟨hA1, hA2, bl_alloc (bl_alloc HB4.out _) _⟩ ?_
  rintro W ⟨h1, h2, hB⟩
  have HS := Lib.hid h1
  have HT := Lib.hid h2
  have HB := Lib.hid hB
  clear h1 h2 hB hA1 hA2
  go_region_held3 (fun w' => w'.cell? ⟨w4.heap.size, 0, none⟩ = some (.int .u64 r) ∧ w'.cell? ⟨w4.heap.size, 1, none⟩ = some (.int .u64 s) ∧ w'.cell? ⟨w4.heap.size + 1, 0, none⟩ = some (.int .u64 r) ∧ w'.cell? ⟨w4.heap.size + 1, 1, none⟩ = some (.int .u64 s)) (first
    | (refine SA.both ?_ ?_ <;> repeat (first | exact HS.out | exact HT.out | apply SA.drew | apply SA.drewN | apply SA.alloc))) (first
    | (go_at_call 9; refine (sign_any x _ m _ x0 (by omega) (HM.out.below (by repeat (first | exact HB.out | apply bl_drew | apply bl_drewN | apply bl_alloc))) (by omega)).mono ?_; rintro e v2 ⟨rfl, hb2⟩; rw [HS1.out]; have HB' := Lib.hid (bl_bl (by repeat (first | exact HB.out | apply bl_drew | apply bl_drewN | apply bl_alloc)) hb2); have HS' := Lib.hid (SA.below (by repeat (first | exact HS.out | apply SA.drew | apply SA.drewN | apply SA.alloc)) hb2); have HT' := Lib.hid (SA.below (by repeat (first | exact HT.out | apply SA.drew | apply SA.drewN | apply SA.alloc)) hb2); clear hb2; have HB := HB'; have HS := HS'; have HT := HT'; clear HB' HS' HT')
    | (go_at_call 12; refine (public_any x _ x0 (by omega)).mono ?_; rintro e v2 ⟨rfl, n2, rfl⟩; rw [← HQ.out])
    | (go_at_call 13; refine (check_any _ _ _ _ m _ (by omega) (by omega) (by omega) (by omega) (by omega) (by omega) (HM.out.below (by repeat (first | exact HB.out | apply bl_drew | apply bl_drewN | apply bl_alloc))) (by omega)).mono ?_; rintro e v2 ⟨rfl, hb2⟩; rw [HC.out]; have HB' := Lib.hid (bl_bl (by repeat (first | exact HB.out | apply bl_drew | apply bl_drewN | apply bl_alloc)) hb2); have HS' := Lib.hid (SA.below (by repeat (first | exact HS.out | apply SA.drew | apply SA.drewN | apply SA.alloc)) hb2); have HT' := Lib.hid (SA.below (by repeat (first | exact HT.out | apply SA.drew | apply SA.drewN | apply SA.alloc)) hb2); clear hb2; have HB := HB'; have HS := HS'; have HT := HT'; clear HB' HS' HT'))
  go_wp2_with fail
  go_ret
  exact ⟨by simp [r1, r2, s1], HB.out⟩
end Go.Proofs.Ytebepjgopmaogaa
