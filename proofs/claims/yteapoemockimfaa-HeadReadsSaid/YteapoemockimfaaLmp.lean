/-
  Bytes with their length ahead; bytes one behind another: what Lump, Join and the reference's Lump come to.
-/
import Derived.Test.YteapoemockimfaaNum
namespace Go.Proofs.Yteapoemockimfaa
set_option linter.unusedVariables false
set_option linter.unusedSimpArgs false
open Go.RowKit

theorem Rd.shape {w : World} {v : Value} {l : List UInt8} (h : Rd w v l) : ∃ a c, v = .slice a l.length c := by
  rcases h with ⟨rfl, rfl⟩ | ⟨b, o, c, rfl, _⟩
  · exact ⟨_, _, rfl⟩
  · exact ⟨_, _, rfl⟩

def lumpB (l : List UInt8) : List UInt8 := numB l.length ++ l
theorem lumpB_length (l : List UInt8) : (lumpB l).length = 8 + l.length := by simp [lumpB, numB_length]

theorem own_num (w : World) (n : Int) (B : Nat) (hB : B ≤ w.heap.size) : Own (w.alloc (.cells (bvs (numB n)).toArray 5)) B (.slice (some ⟨w.heap.size, 0, none⟩) 8 8) (numB n) :=
  own_lit w B (numB n) hB (by rw [numB_length]; decide)

set_option maxHeartbeats 800000 in
theorem lump_any (v : Value) (l : List UInt8) (w : World) (hv : Rd w v l) (hl : l.length ≤ 549755813888) :
    Calls Try.prog 91 #[v] w (GivesOwn w (lumpB l)) := by
  obtain ⟨a, c, rfl⟩ := hv.shape
  have HV := Lib.hid hv
  have e1 : IntKind.u64.wrap (l.length : Int) = l.length := by rw [IntKind.wrap_u64]; omega
  clear hv
  go_enter Try.func91, Try.ntmps91
  go_wp2_with fail
  refine (num_any _ _ (by omega) (by omega)).mono ?_
  rintro e w1 ⟨rfl, rfl⟩
  go_wp2_with (at_builtin; refine wpList_append_bytes rfl (.tmp 6) (.tmp 7) rfl w.heap.size rfl rfl (own_num w _ _ (Nat.le_refl _)) (HV.out.below (bl_alloc (Below.refl _ _) _)) (by rw [numB_length]; omega) (by simp) ?_; intro v' w' ho hg)
  go_ret
  exact ⟨_, rfl, ho, below_grown (bl_alloc (Below.refl _ _) _) hg (Own.row (own_num w (l.length : Int) _ (Nat.le_refl _)))⟩

set_option maxHeartbeats 800000 in
theorem rlump_any (v : Value) (l : List UInt8) (w : World) (hv : Rd w v l) (hl : l.length ≤ 549755813888) :
    Calls Try.prog 81 #[v] w (GivesOwn w (lumpB l)) := by
  obtain ⟨a, c, rfl⟩ := hv.shape
  have HV := Lib.hid hv
  have e1 : IntKind.u64.wrap (l.length : Int) = l.length := by rw [IntKind.wrap_u64]; omega
  clear hv
  go_enter Try.func81, Try.ntmps81
  go_wp2_with fail
  refine (rnum_any _ _ (by omega) (by omega)).mono ?_
  rintro e w1 ⟨u, rfl, hu, hb⟩
  have HU := Lib.hid hu
  have HB := Lib.hid hb
  clear hu hb
  go_wp2_with (at_builtin; refine wpList_append_bytes rfl (.tmp 6) (.tmp 7) rfl w.heap.size rfl rfl HU.out (HV.out.below HB.out) (by rw [numB_length]; omega) HB.out.size ?_; intro v' w' ho hg)
  go_ret
  exact ⟨_, rfl, ho, below_grown HB.out hg HU.out.row⟩
end Go.Proofs.Yteapoemockimfaa
