/-
  Put: a signature's bytes, both.
-/
import Derived.Test.YteapoemockimfaaChr
namespace Go.Proofs.Yteapoemockimfaa
set_option linter.unusedVariables false
set_option linter.unusedSimpArgs false
open Go.RowKit

def putF (r s : Int) : List UInt8 := numB r ++ numB s
/-- The box of a signature stands. -/
def SigAt (g : Nat) (r s : Int) (w : World) : Prop := w.cell? ⟨g, 0, none⟩ = some (.int .u64 r) ∧ w.cell? ⟨g, 1, none⟩ = some (.int .u64 s)
theorem SigAt.below {g : Nat} {r s : Int} {w w' : World} (h : SigAt g r s w) (hg : g < w.heap.size) (hb : Below w.heap.size w w') : SigAt g r s w' :=
  ⟨by rw [hb.cell (p := ⟨g, 0, none⟩) hg]; exact h.1, by rw [hb.cell (p := ⟨g, 1, none⟩) hg]; exact h.2⟩

set_option maxRecDepth 100000 in
set_option maxHeartbeats 3200000 in
theorem put_any (r s : Int) (w : World) (r0 : 0 ≤ r) (r1 : r < 18446744073709551616) (s0 : 0 ≤ s) (s1 : s < 18446744073709551616) :
    Calls Try.prog 29 #[sigV r s] w (GivesOwn w (putF r s)) := by
  show Calls _ _ #[.agg #[.int .u64 r, .int .u64 s]] w _
  go_enter Try.func29, Try.ntmps29
  go_upto_region 1 with fail
  refine wp_world (fun W => SigAt w.heap.size r s W ∧ Below w.heap.size w W ∧ w.heap.size < W.heap.size) ⟨⟨by rw [cell_of_row _ _ _ _ _ _ (heap_alloc_new _ _)]; rfl, by rw [cell_of_row _ _ _ _ _ _ (heap_alloc_new _ _)]; rfl⟩, bl_alloc (Below.refl _ _) _, by simp⟩ ?_
  rintro W ⟨hS, hB, hlt⟩
  have HS := Lib.hid hS
  have HB := Lib.hid hB
  have HLT := Lib.hid hlt
  obtain ⟨hc0, hc1⟩ := hS
  clear hB hlt
  go_region_held3 (fun w' => w'.cell? ⟨w.heap.size, 0, none⟩ = some (.int .u64 r) ∧ w'.cell? ⟨w.heap.size, 1, none⟩ = some (.int .u64 s)) (first
    | exact ⟨hc0, hc1⟩
    | exact HS3.out
    | exact HS2b.out
    | exact HS2.out
    | exact HS1.out) (first
    | (have _h := HU1; clear _h; go_at_call 30; refine (num_own _ _ s0 s1).mono ?_; rintro e w2 ⟨u2, rfl, hu2, hb2⟩; obtain ⟨a2, c2, rfl⟩ := hu2.rd.shape; have HU2 := Lib.hid hu2.rd; have HU12 := Lib.hid (HU1.out.below hb2); have HB2 := Lib.hid (bl_bl HB1.out hb2); have HS2 := Lib.hid (HS1.out.below HLT1.out hb2); have HLT2 := Lib.hid (Nat.lt_of_lt_of_le HLT1.out hb2.size); have HS2b := Lib.hid (HS2.out.below HLT2.out (bl_alloc (Below.refl w2.heap.size w2) (.cells #[.slice a1 (numB r).length c1, .slice a2 (numB s).length c2] 29))); clear hu2 hb2)
    | (go_at_call 28; refine (join_any _ [numB r, numB s] _ (rdl_two _ _ HU12.out HU2.out) (by simp [totalLen, numB_length]) (by simp)).mono ?_; rintro e w3 ⟨u3, rfl, hu3, hb3⟩; have HU3 := Lib.hid hu3; have HB3 := Lib.hid (bl_bl (bl_alloc HB2.out _) hb3); have HS3 := Lib.hid (HS2b.out.below (Nat.lt_of_lt_of_le HLT2.out (by simp)) hb3); clear hu3 hb3)
    | (go_at_call 30; refine (num_own _ _ r0 r1).mono ?_; rintro e w1 ⟨u1, rfl, hu1, hb1⟩; obtain ⟨a1, c1, rfl⟩ := hu1.rd.shape; have HU1 := Lib.hid hu1.rd; have HB1 := Lib.hid (HB.out.trans ((bl_bl (Dr.below (Dr.drew (Dr.refl W)) _) hb1).mono HB.out.size)); have HS1 := Lib.hid (SigAt.below HS.out HLT.out (bl_bl (Dr.below (Dr.drew (Dr.refl W)) _) hb1)); have HLT1 := Lib.hid (Nat.lt_of_lt_of_le HLT.out hb1.size); clear hu1 hb1))
  go_wp2_with fail
  go_ret
  have he : [numB r, numB s].flatten = putF r s := by simp [putF]
  have hO := HU3.out
  rw [he] at hO
  exact ⟨_, rfl, hO.mono (by have := HB2.out.size; simp; omega), HB3.out⟩
end Go.Proofs.Yteapoemockimfaa
