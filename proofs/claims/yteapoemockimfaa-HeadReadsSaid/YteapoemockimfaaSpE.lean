/-
  The reference's permutation comes to the same.
-/
import Derived.Test.YteapoemockimfaaSpC
import Derived.Test.YteapoemockimfaaSpD
import Derived.Test.YteapoemockimfaaReg
import Derived.Test.YteapoemockimfaaByt
namespace Go.Proofs.Yteapoemockimfaa
set_option linter.unusedVariables false
set_option linter.unusedSimpArgs false
open Go.RowKit

/-- The reference's twelve constants. -/
def consts : Array Value := #[.int .u64 240, .int .u64 225, .int .u64 210, .int .u64 195, .int .u64 180, .int .u64 165, .int .u64 150, .int .u64 135, .int .u64 120, .int .u64 105, .int .u64 90, .int .u64 75]
theorem consts_get (i : Nat) (h : i < 12) : consts[i]? = some (.int .u64 (240 - 15 * (i : Int))) := by
  obtain rfl | rfl | rfl | rfl | rfl | rfl | rfl | rfl | rfl | rfl | rfl | rfl : i = 0 ∨ i = 1 ∨ i = 2 ∨ i = 3 ∨ i = 4 ∨ i = 5 ∨ i = 6 ∨ i = 7 ∨ i = 8 ∨ i = 9 ∨ i = 10 ∨ i = 11 := by omega
  all_goals rfl
theorem arr12_info : (Try.prog.info? 127).map (·.size) = some 12 := by kernel_rfl

theorem heap_alloc3_new (w : World) (A B C : Obj) : (((w.alloc A).alloc B).alloc C).heap[w.heap.size + 1 + 1]? = some C := by
  show (((w.heap.push A).push B).push C)[w.heap.size + 1 + 1]? = some C
  rw [Array.getElem?_push, if_pos (by simp)]

structure RPerm (w : World) (s : St) (wr : World) : Prop where
  st : wr.heap[w.heap.size]? = some (.cells s.cells 116 (0, 0))
  res : ∃ z : St, wr.heap[w.heap.size + 1]? = some (.cells z.cells 116 (0, 0))
  con : wr.heap[w.heap.size + 1 + 1]? = some (.cells consts 127 (0, 0))
  bel : Below w.heap.size w wr
theorem RPerm.below {w wr w' : World} {s : St} (h : RPerm w s wr) (hb : Below wr.heap.size wr w') : RPerm w s w' := by
  obtain ⟨z, hz⟩ := h.res
  have h1 := (Array.getElem?_eq_some_iff.1 h.st).1
  have h2 := (Array.getElem?_eq_some_iff.1 hz).1
  have h3 := (Array.getElem?_eq_some_iff.1 h.con).1
  exact ⟨by rw [hb.block _ h1]; exact h.st, ⟨z, by rw [hb.block _ h2]; exact hz⟩, by rw [hb.block _ h3]; exact h.con, bl_bl h.bel hb⟩
theorem RPerm.setS {w wr : World} {s : St} (h : RPerm w s wr) (s' : St) : RPerm w s' (wr.setRow w.heap.size s'.cells) := by
  obtain ⟨z, hz⟩ := h.res
  exact ⟨setRow_heap _ _ _ _ _ _ h.st, ⟨z, by rw [setRow_other _ _ _ _ (by omega)]; exact hz⟩, by rw [setRow_other _ _ _ _ (by omega)]; exact h.con, below_setRow h.bel (Nat.le_refl _)⟩

set_option maxRecDepth 100000 in
set_option maxHeartbeats 4000000 in
theorem rperm_any (s : St) (w : World) :
    Calls Try.prog 80 #[.agg s.cells] w fun e w' => e = .returned (.agg (permF s).cells) ∧ Below w.heap.size w w' := by
  go_enter Try.func80, Try.ntmps80
  go_upto_region 2 with fail
  refine wp_world (fun W => RPerm w s W) ⟨?_, ⟨⟨0, 0, 0, 0, 0⟩, ?_⟩, heap_alloc3_new _ _ _ _, bl_alloc (bl_alloc (bl_alloc (Below.refl _ _) _) _) _⟩ ?_
  · rw [heap_alloc_old _ _ (by simp; omega), heap_alloc_old _ _ (by simp)]; exact heap_alloc_new _ _
  · exact heap_alloc3_mid _ _ _ _
  intro W hW
  go_wp2_with fail
  go_loopw [4] (fun v4 wr => ∃ i : Nat, v4 = .int .i64 i ∧ i ≤ 12 ∧ RPerm w (permN s i) wr) (fun v4 _ => 12 - (intOf v4).toNat)
  case atStart => exact ⟨0, rfl, by omega, hW⟩
  case round =>
    clear hW
    obtain ⟨i, rfl, hi, hR⟩ := hrel
    have HR := Lib.hid hR
    clear hR
    by_cases hlt : i < 12
    · go_upto_region 5 with fail
      have hcc : wr.cell? ⟨w.heap.size + 1 + 1, i, none⟩ = some (.int .u64 (240 - 15 * (i : Int))) := by rw [cell_of_row _ _ _ _ _ _ HR.out.con]; exact consts_get i hlt
      refine region_quiet_tail (C := fun w' => ∃ n, w' = wr.drewN n) 4 (by kernel_rfl) (by kernel_rfl) ⟨1, rfl⟩ ?_
      simp only [List.take_succ_cons, List.take_zero, List.drop_succ_cons, List.drop_zero]
      refine wpQuiet_load_row rfl 116 (.tmp 1) rfl w.heap.size rfl 116 (permN s i).cells (0, 0) _ (fun w' hw' => by obtain ⟨n, rfl⟩ := hw'; exact HR.out.st) Try.underlying116 rfl arr5_info ?_
      simp only [Act.put, List.setIfInBounds_toArray, List.set_cons_succ, List.set_cons_zero]
      repeat (go_big_quiet_step (fail))
      refine wpQuiet_nil ?_
      intro W' hW'
      obtain ⟨nq, rfl⟩ := hW'
      go_wp2_with fail
      refine (rround_any (permN s i) _ _).mono ?_
      rintro e w1 ⟨rfl, hb1⟩
      have HY := Lib.hid ((HR.out.below (bl_drewN (Below.refl _ _) nq)).below hb1)
      clear hb1 HR hcc
      go_wp2_with (refine wpList_store_row rfl 116 (.tmp 1) (.tmp 14) rfl w.heap.size (permN s (i + 1)).cells rfl rfl 116 _ HY.out.st arr5_info ((St.size_cells _).trans (St.size_cells _).symm) (St.one_cells _) ?_)
      go_roundw
      case rel => exact ⟨i + 1, by go_num, by omega, HY.out.setS _⟩
      case measure => simp [intOf]; omega
    · have : i = 12 := by omega
      subst this
      go_upto_region 6 with fail
      refine wp_region_lit ?_
      refine wpList_load_row rfl 116 (.tmp 1) rfl w.heap.size rfl 116 _ (0, 0) _ HR.out.st Try.underlying116 rfl arr5_info ?_
      obtain ⟨z, hz⟩ := HR.out.res
      refine wpList_store_row rfl 116 (.tmp 2) (.tmp 15) rfl (w.heap.size + 1) (permN s 12).cells rfl rfl 116 _ hz arr5_info ((St.size_cells _).trans (St.size_cells _).symm) (St.one_cells _) ?_
      go_wp2_with fail
      refine bodyPost_ret (v := .agg (permF s).cells) (results_cell_row rfl _ _ (w.heap.size + 1) 116 _ (0, 0) _ rfl (setRow_heap _ _ _ _ _ _ hz) Try.underlying116 rfl arr5_info) rfl ⟨rfl, below_setRow HR.out.bel (by omega)⟩
end Go.Proofs.Yteapoemockimfaa
