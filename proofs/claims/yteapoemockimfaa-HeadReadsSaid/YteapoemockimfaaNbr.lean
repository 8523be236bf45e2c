/-
  A hash as a number; Public, both.
-/
import Derived.Test.YteapoemockimfaaTag
import Derived.Test.YteapoemockimfaaFldL
namespace Go.Proofs.Yteapoemockimfaa
set_option linter.unusedVariables false
set_option linter.unusedSimpArgs false
open Go.RowKit

/-- A hash's number modulo the order. -/
def numF (h : List UInt8) : Int := leNum (h.take 8) % 2305843009213693950
theorem numF_bd (h : List UInt8) : 0 ≤ numF h ∧ numF h < 2305843009213693950 := by unfold numF; omega

theorem rd_hash (w : World) (h : List UInt8) (hh : h.length = 32) : Rd (w.alloc (.cells (bvs h).toArray 23)) (.slice (some ⟨w.heap.size, 0, none⟩) 8 32) (h.take 8) := by
  have h8 : (h.take 8).length = 8 := by rw [List.length_take]; omega
  refine .inr ⟨_, 0, 32, by rw [h8], by omega, by decide, fun i hi => ?_⟩
  rw [Nat.zero_add, cell_of_row _ _ _ _ _ _ (heap_alloc_new _ _)]
  rw [List.getElem?_toArray, bvs_get h i (by omega), List.getElem_take]

set_option maxHeartbeats 1600000 in
theorem number_any (h : List UInt8) (w : World) (hh : h.length = 32) :
    Calls Try.prog 52 #[hashV h] w fun e w' => e = .returned (.int .u64 (numF h)) ∧ Below w.heap.size w w' := by
  show Calls _ _ #[.agg (bvs h).toArray] w _
  have HRD := Lib.hid (rd_hash w h hh)
  have h8 : (h.take 8).length = 8 := by rw [List.length_take]; omega
  have H8 := Lib.hid h8
  have hn := leNum_u64 (h.take 8) (Nat.le_of_eq h8)
  obtain ⟨n, hN⟩ : ∃ n, n = leNum (h.take 8) := ⟨_, rfl⟩
  unfold numF
  rw [← hN] at hn ⊢
  have HN := Lib.hid hN
  obtain ⟨hn0, hn1⟩ := hn
  clear h8 hN hh
  go_enter Try.func52, Try.ntmps52
  go_wp2_with fail
  refine (new_any _ (h.take 8) _ HRD.out (by rw [H8.out]; decide)).mono ?_
  rintro e w1 ⟨g, rfl, hg, hr, hb⟩
  have HR := Lib.hid hr
  have HB := Lib.hid (bl_bl (bl_alloc (Below.refl w.heap.size w) _) hb)
  have HG := Lib.hid hg
  clear hr hb hg
  go_wp2_with fail
  refine (rnumr_any g (h.take 8) 0 w1 HR.out (by rw [H8.out]; decide)).mono ?_
  rintro e w2 ⟨rfl, hr2, hg2⟩
  have e1 : leNum (rawOut (h.take 8) 0 8) = n := by
    unfold rawOut
    rw [if_pos rfl, if_pos (by rw [H8.out]; exact Nat.le_refl _), List.take_take, HN.out]
    rfl
  rw [e1]
  have HB2 := Lib.hid (below_grown HB.out hg2 (fun k hk => by
    have h1 := HG.out
    simp only [Option.some.injEq] at hk
    subst hk
    simp at h1; omega))
  clear hr2 hg2 e1
  go_wp2_with fail
  go_ret
  exact ⟨rfl, HB2.out⟩

set_option maxHeartbeats 1600000 in
theorem rnumber_any (h : List UInt8) (w : World) (hh : h.length = 32) :
    Calls Try.prog 44 #[hashV h] w fun e w' => e = .returned (.int .u64 (numF h)) ∧ Below w.heap.size w w' := by
  show Calls _ _ #[.agg (bvs h).toArray] w _
  have HRD := Lib.hid (rd_hash w h hh)
  have h8 : (h.take 8).length = 8 := by rw [List.length_take]; omega
  have H8 := Lib.hid h8
  have hn := leNum_u64 (h.take 8) (Nat.le_of_eq h8)
  obtain ⟨n, hN⟩ : ∃ n, n = leNum (h.take 8) := ⟨_, rfl⟩
  unfold numF
  rw [← hN] at hn ⊢
  have HN := Lib.hid hN
  obtain ⟨hn0, hn1⟩ := hn
  clear h8 hN hh
  go_enter Try.func44, Try.ntmps44
  go_wp2_with fail
  refine (rword_any _ (h.take 8) _ HRD.out H8.out).mono ?_
  rintro e w1 ⟨rfl, rfl⟩
  rw [← HN.out]
  go_wp2_with fail
  go_ret
  exact ⟨rfl, bl_alloc (Below.refl _ _) _⟩
end Go.Proofs.Yteapoemockimfaa
