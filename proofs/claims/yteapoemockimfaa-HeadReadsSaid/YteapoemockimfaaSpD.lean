/-
  The permutation: twelve rounds.
-/
import Derived.Test.YteapoemockimfaaSpB
namespace Go.Proofs.Yteapoemockimfaa
set_option linter.unusedVariables false
set_option linter.unusedSimpArgs false
open Go.RowKit

/-- The state behind the first n rounds. -/
def permN (s : St) : Nat → St
  | 0 => s
  | n + 1 => roundF (permN s n) (240 - 15 * n)
def permF (s : St) : St := permN s 12

theorem St.size_cells (s : St) : s.cells.size = 5 := rfl
theorem St.one_cells (s : St) : s.cells.all (·.oneCell') = true := by cases s; simp [St.cells, Value.oneCell']

/-- What a block of five words and the one behind it hold. -/
def Five (w : World) (s : St) (wr : World) : Prop :=
  wr.heap[w.heap.size]? = some (.cells s.cells 116 (0, 0)) ∧ (∃ z : St, wr.heap[w.heap.size + 1]? = some (.cells z.cells 116 (0, 0))) ∧ Below w.heap.size w wr

set_option maxRecDepth 100000 in
set_option maxHeartbeats 4000000 in
theorem perm_any (s : St) (w : World) :
    Calls Try.prog 89 #[.agg s.cells] w fun e w' => e = .returned (.agg (permF s).cells) ∧ Below w.heap.size w w' := by
  go_enter Try.func89, Try.ntmps89
  go_wp2_with fail
  go_loopw [4] (fun v4 wr => ∃ i : Nat, v4 = .int .i64 i ∧ i ≤ 12 ∧ Five w (permN s i) wr) (fun v4 _ => 12 - (intOf v4).toNat)
  case atStart => exact ⟨0, rfl, by omega, by simp [heap_alloc2_old, permN], ⟨⟨0, 0, 0, 0, 0⟩, heap_alloc2_new _ _ _⟩, bl_alloc (bl_alloc (Below.refl _ _) _) _⟩
  case round =>
    obtain ⟨i, rfl, hi, h0, ⟨z, h1⟩, hb⟩ := hrel
    by_cases hlt : i < 12
    · go_upto_region 4 with fail
      refine wp_region_lit ?_
      refine wpList_load_row rfl 116 (.tmp 1) rfl w.heap.size rfl 116 _ (0, 0) _ h0 Try.underlying116 rfl arr5_info ?_
      have hs : IntKind.u64.wrap (240 - 15 * (i : Int)) = 240 - 15 * (i : Int) := by rw [IntKind.wrap_u64]; omega
      go_wp2_with fail
      refine (round_any (permN s i) _ _).mono ?_
      rintro e w1 ⟨rfl, hb1⟩
      have k0 : w1.heap[w.heap.size]? = some (.cells (permN s i).cells 116 (0, 0)) := by rw [hb1.block _ (Array.getElem?_eq_some_iff.1 h0).1]; exact h0
      have k1 : w1.heap[w.heap.size + 1]? = some (.cells z.cells 116 (0, 0)) := by rw [hb1.block _ (Array.getElem?_eq_some_iff.1 h1).1]; exact h1
      have HB := Lib.hid (hb.trans (hb1.mono hb.size))
      have K1 := Lib.hid k1
      have K0 := Lib.hid k0
      clear hb hb1 h0 h1 k1 k0
      go_wp2_with (refine wpList_store_row rfl 116 (.tmp 1) (.tmp 12) rfl w.heap.size (permN s (i + 1)).cells rfl rfl 116 _ K0.out arr5_info rfl (St.one_cells _) ?_)
      go_roundw
      case rel => exact ⟨i + 1, by go_num, by omega, setRow_heap _ _ _ _ _ _ K0.out, ⟨z, by rw [setRow_other _ _ _ _ (by omega)]; exact K1.out⟩, below_setRow HB.out (Nat.le_refl _)⟩
      case measure => simp [intOf]; omega
    · have : i = 12 := by omega
      subst this
      go_upto_region 6 with fail
      refine wp_region_lit ?_
      refine wpList_load_row rfl 116 (.tmp 1) rfl w.heap.size rfl 116 _ (0, 0) _ h0 Try.underlying116 rfl arr5_info ?_
      refine wpList_store_row rfl 116 (.tmp 2) (.tmp 14) rfl (w.heap.size + 1) (permN s 12).cells rfl rfl 116 _ h1 arr5_info rfl (St.one_cells _) ?_
      go_wp2_with fail
      refine bodyPost_ret (v := .agg (permF s).cells) (results_cell_row rfl _ _ (w.heap.size + 1) 116 _ (0, 0) _ rfl (setRow_heap _ _ _ _ _ _ h1) Try.underlying116 rfl arr5_info) rfl ⟨rfl, below_setRow hb (by omega)⟩
end Go.Proofs.Yteapoemockimfaa
