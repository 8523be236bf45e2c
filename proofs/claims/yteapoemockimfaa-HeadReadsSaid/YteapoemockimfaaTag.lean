/-
  A tag and lumps, hashed.
-/
import Derived.Test.YteapoemockimfaaSumR
namespace Go.Proofs.Yteapoemockimfaa
set_option linter.unusedVariables false
set_option linter.unusedSimpArgs false
open Go.RowKit

set_option maxRecDepth 100000 in
set_option maxHeartbeats 4000000 in
theorem tag_any (tag : Int) (v : Value) (ls : List (List UInt8)) (w : World) (h0 : 0 ≤ tag) (h1 : tag < 256) (hv : RdL w v ls) (hl : textLen ls ≤ 549755813888) :
    Calls Try.prog 53 #[.int .u8 tag, v] w fun e w' => e = .returned (hashV (sumB (textB tag ls))) ∧ Below w.heap.size w w' := by
  have HV := Lib.hid hv
  clear hv
  go_enter Try.func53, Try.ntmps53
  go_upto_region 1 with fail
  refine wp_world (fun W => (∃ z, W.heap[w.heap.size]? = some (.cells z 23 (0, 0)) ∧ z.size = 32) ∧ RdL W v ls ∧ Below w.heap.size w W) ⟨⟨_, heap_alloc_new _ _, rfl⟩, HV.out.below (bl_alloc (Below.refl _ _) _), bl_alloc (Below.refl _ _) _⟩ ?_
  rintro W ⟨⟨z, hz, hz2⟩, hV, hB⟩
  have HV := Lib.hid hV
  have HB := Lib.hid hB
  have HZ := Lib.hid hz
  clear hV hB hz
  go_wp2_with fail
  refine (text_any tag v ls W h0 h1 HV.out hl).mono ?_
  rintro e w1 ⟨u, rfl, hu, hb1⟩
  have HU := Lib.hid hu.rd
  have HB1 := Lib.hid (bl_bl HB.out hb1)
  have hz1 : w1.heap[w.heap.size]? = some (.cells z 23 (0, 0)) := by rw [hb1.block _ (Array.getElem?_eq_some_iff.1 HZ.out).1]; exact HZ.out
  have HZ1 := Lib.hid hz1
  clear hu hb1 hz1
  go_wp2_with fail
  refine (sum_any u (textB tag ls) w1 HU.out (by rw [textB_len]; exact hl)).mono ?_
  rintro e w2 ⟨rfl, hb2⟩
  have hz2' : w2.heap[w.heap.size]? = some (.cells z 23 (0, 0)) := by rw [hb2.block _ (Array.getElem?_eq_some_iff.1 HZ1.out).1]; exact HZ1.out
  have HZ2 := Lib.hid hz2'
  have HB2 := Lib.hid (bl_bl HB1.out hb2)
  clear hb2 hz2'
  go_wp2_with (refine wpList_store_row rfl 23 (.tmp 4) (.tmp 8) rfl w.heap.size (bvs (sumB (textB tag ls))).toArray rfl rfl 23 _ HZ2.out arr32_info (by rw [hz2, List.size_toArray, bvs_length, sumB_length]) (bvs_all _) ?_)
  refine bodyPost_ret (v := hashV (sumB (textB tag ls))) (results_cell_row rfl _ _ w.heap.size 23 _ (0, 0) _ rfl (setRow_heap _ _ _ _ _ _ HZ2.out) Try.underlying23 rfl arr32_info) rfl ⟨rfl, below_setRow HB2.out (Nat.le_refl _)⟩

set_option maxRecDepth 100000 in
set_option maxHeartbeats 4000000 in
theorem rtag_any (tag : Int) (v : Value) (ls : List (List UInt8)) (w : World) (h0 : 0 ≤ tag) (h1 : tag < 256) (hv : RdL w v ls) (hl : textLen ls ≤ 549755813888) :
    Calls Try.prog 45 #[.int .u8 tag, v] w fun e w' => e = .returned (hashV (sumB (textB tag ls))) ∧ Below w.heap.size w w' := by
  have HV := Lib.hid hv
  clear hv
  go_enter Try.func45, Try.ntmps45
  go_upto_region 1 with fail
  refine wp_world (fun W => (∃ z, W.heap[w.heap.size]? = some (.cells z 23 (0, 0)) ∧ z.size = 32) ∧ RdL W v ls ∧ Below w.heap.size w W) ⟨⟨_, heap_alloc_new _ _, rfl⟩, HV.out.below (bl_alloc (Below.refl _ _) _), bl_alloc (Below.refl _ _) _⟩ ?_
  rintro W ⟨⟨z, hz, hz2⟩, hV, hB⟩
  have HV := Lib.hid hV
  have HB := Lib.hid hB
  have HZ := Lib.hid hz
  clear hV hB hz
  go_wp2_with fail
  refine (rtext_any tag v ls W h0 h1 HV.out hl).mono ?_
  rintro e w1 ⟨u, rfl, hu, hb1⟩
  have HU := Lib.hid hu.rd
  have HB1 := Lib.hid (bl_bl HB.out hb1)
  have hz1 : w1.heap[w.heap.size]? = some (.cells z 23 (0, 0)) := by rw [hb1.block _ (Array.getElem?_eq_some_iff.1 HZ.out).1]; exact HZ.out
  have HZ1 := Lib.hid hz1
  clear hu hb1 hz1
  go_wp2_with fail
  refine (rsum_any u (textB tag ls) w1 HU.out (by rw [textB_len]; exact hl)).mono ?_
  rintro e w2 ⟨rfl, hb2⟩
  have hz2' : w2.heap[w.heap.size]? = some (.cells z 23 (0, 0)) := by rw [hb2.block _ (Array.getElem?_eq_some_iff.1 HZ1.out).1]; exact HZ1.out
  have HZ2 := Lib.hid hz2'
  have HB2 := Lib.hid (bl_bl HB1.out hb2)
  clear hb2 hz2'
  go_wp2_with (refine wpList_store_row rfl 23 (.tmp 4) (.tmp 8) rfl w.heap.size (bvs (sumB (textB tag ls))).toArray rfl rfl 23 _ HZ2.out arr32_info (by rw [hz2, List.size_toArray, bvs_length, sumB_length]) (bvs_all _) ?_)
  refine bodyPost_ret (v := hashV (sumB (textB tag ls))) (results_cell_row rfl _ _ w.heap.size 23 _ (0, 0) _ rfl (setRow_heap _ _ _ _ _ _ HZ2.out) Try.underlying23 rfl arr32_info) rfl ⟨rfl, below_setRow HB2.out (Nat.le_refl _)⟩
end Go.Proofs.Yteapoemockimfaa
