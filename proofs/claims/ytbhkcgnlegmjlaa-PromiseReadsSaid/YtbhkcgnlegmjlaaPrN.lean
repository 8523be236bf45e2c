/-
  Promises: known of their laws.
-/
import Derived.Test.YtbhkcgnlegmjlaaPrD
import Derived.Test.YtbhkcgnlegmjlaaPrE
namespace Go.Proofs.Ytbhkcgnlegmjlaa
set_option linter.unusedVariables false
set_option linter.unusedSimpArgs false
open Go.RowKit

theorem pk0 : makeErr [97] 1 2 5 = 0 := rfl
theorem pk1 : makeErr [97] 1 2 1152921504606846976 = 31 := rfl
theorem pk2 : makeP 5 [97] 1 2 5 = signP 5 (freshP [97] 1 2 5) := make_ok pk0
theorem pk3 : makeP 5 [97] 1 2 1152921504606846976 = zeroP := make_err pk1 (by decide)
theorem pk_right : rightP (signP 5 (freshP [97] 1 2 5)) = true := by rw [rightP_sign]; rfl
theorem pk_dl (x : Int) (p : Pr) : (signP x p).dl = p.dl := rfl
theorem pk_zero : rightP zeroP = false := rfl
theorem put_rightP (p : Pr) (h : rightP p = true) : putPErr p = 0 ∧ putPOut p = bytesP p := by
  unfold putPErr putPOut
  rw [h]
  exact ⟨if_pos rfl, if_pos rfl⟩
theorem put_wrongP (p : Pr) (h : rightP p = false) : putPErr p = 23 ∧ putPOut p = [] := by
  unfold putPErr putPOut
  rw [h]
  exact ⟨if_neg (by decide), if_neg (by decide)⟩
attribute [local irreducible] checkF checkP readP bytesP rightP sigR sigS signP pubF makeP makeErr

set_option maxRecDepth 100000 in
set_option maxHeartbeats 32000000 in
theorem knownP_any (w : World) :
    Calls Try.prog 5 #[] w fun e w' => e = .returned (.bool true) ∧ Below w.heap.size w w' := by
  have hr := pk_right
  have ok0 : (freshP [97] 1 2 5).ok := by
    refine ⟨by decide, ?_, ?_, ?_, ?_, ?_, ?_⟩ <;> simp only [isI64, isU64, freshP] <;> omega
  have ok := signP_ok 5 _ ok0
  have HM0 := Lib.hid pk2
  have HM1 := Lib.hid pk3
  have HE0 := Lib.hid pk0
  have HE1 := Lib.hid pk1
  have HZR := Lib.hid pk_zero
  have hc5 := check_signP 5 _ (show rightP (freshP [97] 1 2 5) = true by rw [← rightP_sign 5]; exact hr)
  have HDL := Lib.hid (show (signP 5 (freshP [97] 1 2 5)).dl = 45 by rw [pk_dl]; rfl)
  obtain ⟨p50, p51⟩ := pubF_bd 5
  obtain ⟨p5, hp5⟩ : ∃ p, p = pubF 5 := ⟨_, rfl⟩
  rw [← hp5] at hc5 p50 p51
  have HP5 := Lib.hid hp5
  have HC5 := Lib.hid hc5
  have HRP := Lib.hid (read_putP _ ok hr)
  have HPE := Lib.hid (put_rightP _ hr).1
  have HPO := Lib.hid (put_rightP _ hr).2
  have OK := Lib.hid ok
  have hbl := bytesP_length (signP 5 (freshP [97] 1 2 5))
  have hbn := ok.nm
  have HBL := Lib.hid (show (bytesP (signP 5 (freshP [97] 1 2 5))).length ≤ 1099511627776 by omega)
  clear hr ok hp5 hc5 ok0 hbl hbn
  generalize signP 5 (freshP [97] 1 2 5) = h at *
  generalize bytesP h = b at *
  go_enter Try.func5, Try.ntmps5
  go_wp2_with (refine wpList_built rfl 27 #[(0, .const (.string ⟨#[97]⟩)), (1, .const (.int .i64 1)), (2, .const (.int .u64 2))] rfl [(0, .string ⟨[97].toArray⟩), (1, .int .i64 1), (2, .int .u64 2)] (by simp only [List.map_toArray, List.map_cons, List.map_nil]; rfl) (entCells [97] 1 2).toArray (built_ent [97] 1 2) ?_)
  refine (makeP_any 5 [97] 1 2 5 _ (by omega) (by omega) (by decide) ⟨by decide, by decide⟩ ⟨by decide, by decide⟩ ⟨by decide, by decide⟩).mono ?_
  rintro e w1 ⟨rfl, hb1⟩
  rw [HM0.out, HE0.out]
  have HB1 := Lib.hid hb1
  clear hb1
  go_upto_region 2 with (refine wpList_store_row rfl 31 (.tmp 1) (.tmp 12) rfl w1.heap.size h.cells.toArray rfl rfl 31 _ (heap_alloc_new _ _) (pr_size _) rfl (all_oneCell_toArray (Pr.cells_one _)) ?_)
  refine wp_world (fun Y => PA w1.heap.size h Y ∧ Below w.heap.size w Y) ⟨⟨setRow_heap _ _ _ _ _ _ (heap_alloc_new _ _)⟩, bl_bl HB1.out (below_fresh _ _ _)⟩ ?_
  generalize w1.heap.size = g1
  clear HB1 w1
  rintro Y ⟨h1, h2⟩
  have HA1 := Lib.hid h1
  have HB := Lib.hid h2
  clear h1 h2
  (try simp only [Act.put, List.setIfInBounds_toArray, List.set_cons_zero, List.set_cons_succ])
  refine wp_region_lit ?_
  refine wpList_load_row rfl 31 (.tmp 1) rfl g1 rfl 31 _ (0, 0) _ HA1.out.row Try.underlying31 rfl (pr_size _) ?_
  go_wp2_with fail
  refine (putP_any h _ OK.out).mono ?_
  rintro e w2 ⟨v, rfl, hu, hb2⟩
  rw [HPO.out] at hu
  rw [HPE.out]
  obtain ⟨pa, pc, rfl⟩ := hu.shape
  have HU := Lib.hid hu
  have HA2 := Lib.hid (HA1.out.below hb2)
  have HB2 := Lib.hid (bl_bl HB.out hb2)
  clear hu hb2 HA1 HB
  go_wp2_with fail
  refine (readP_any _ b _ HU.out HBL.out).mono ?_
  rintro e w3 ⟨rfl, hb3⟩
  rw [HRP.out]
  have HA3 := Lib.hid (HA2.out.below hb3)
  have HB3 := Lib.hid (bl_bl HB2.out hb3)
  clear hb3 HA2 HB2 HU
  go_upto_region 4 with (refine wpList_store_row rfl 31 (.tmp 5) (.tmp 22) rfl w3.heap.size h.cells.toArray rfl rfl 31 _ (heap_alloc_new _ _) (pr_size _) rfl (all_oneCell_toArray (Pr.cells_one _)) ?_)
  refine wp_world (fun Y => PA g1 h Y ∧ PA w3.heap.size h Y ∧ Below w.heap.size w Y) ⟨HA3.out.below (below_fresh _ _ _), ⟨setRow_heap _ _ _ _ _ _ (heap_alloc_new _ _)⟩, bl_bl HB3.out (below_fresh _ _ _)⟩ ?_
  generalize w3.heap.size = g5
  clear HA3 HB3
  rintro Z ⟨h1, h5, h2⟩
  have HA1 := Lib.hid h1
  have HA5 := Lib.hid h5
  have HB := Lib.hid h2
  clear h1 h2 h5
  (try simp only [Act.put, List.setIfInBounds_toArray, List.set_cons_zero, List.set_cons_succ])
  go_wp2_with (refine wpList_built rfl 27 #[(0, .const (.string ⟨#[97]⟩)), (1, .const (.int .i64 1)), (2, .const (.int .u64 2))] rfl [(0, .string ⟨[97].toArray⟩), (1, .int .i64 1), (2, .int .u64 2)] (by simp only [List.map_toArray, List.map_cons, List.map_nil]; rfl) (entCells [97] 1 2).toArray (built_ent [97] 1 2) ?_)
  refine (makeP_any 5 [97] 1 2 1152921504606846976 _ (by omega) (by omega) (by decide) ⟨by decide, by decide⟩ ⟨by decide, by decide⟩ ⟨by decide, by decide⟩).mono ?_
  rintro e w4 ⟨rfl, hb4⟩
  rw [HM1.out, HE1.out]
  have HA14 := Lib.hid (HA1.out.below hb4)
  have HA54 := Lib.hid (HA5.out.below hb4)
  have HB4 := Lib.hid (bl_bl HB.out hb4)
  clear hb4 HA1 HA5 HB
  go_upto_region 5 with (refine wpList_store_row rfl 31 (.tmp 7) (.tmp 27) rfl w4.heap.size zeroP.cells.toArray rfl rfl 31 _ (heap_alloc_new _ _) (pr_size _) rfl (all_oneCell_toArray (Pr.cells_one _)) ?_)
  refine wp_world (fun Y => PA g1 h Y ∧ PA g5 h Y ∧ Below w.heap.size w Y) ⟨HA14.out.below (below_fresh _ _ _), HA54.out.below (below_fresh _ _ _), bl_bl HB4.out (below_fresh _ _ _)⟩ ?_
  clear HA14 HA54 HB4
  rintro W ⟨h1, h5, h2⟩
  have HA1 := Lib.hid h1
  have HA5 := Lib.hid h5
  have HB := Lib.hid h2
  clear h1 h2 h5
  (try simp only [Act.put, List.setIfInBounds_toArray, List.set_cons_zero, List.set_cons_succ])
  refine wp_region_noPanic ?_
  refine wp_region_held_drew (S := (fun w' => PA g1 h w' ∧ PA g5 h w')) (by kernel_rfl) ?_ (fun hHeld => ?_)
  · (try dsimp only); (refine ⟨?_, ?_⟩ <;> repeat (first | exact HA1.out | exact HA5.out | apply PA.drew | apply PA.drewN | apply PA.alloc))
  refine wpAnyH_take (i := 0) (v := ?_) (by simp only [List.getElem?_toArray, List.getElem?_cons_succ, List.getElem?_cons_zero]; first | done | rfl) (by kernel_rfl) (by kernel_rfl) (by kernel_rfl) (fun _ _ _ h => h) (Or.inl ⟨by rfl, ?hy⟩) (by assumption) ?_
  case hy => (intro w hSw; (try dsimp only at hSw); have c4 := hSw.1.c4; rw [HDL.out] at c4; go_simp; all_goals with_reducible rfl)
  try simp only [Act.put, List.setIfInBounds_toArray, List.set_cons_zero, List.set_cons_succ]
  refine wpAnyH_take (i := 1) (v := ?_) (by simp only [List.getElem?_toArray, List.getElem?_cons_succ, List.getElem?_cons_zero]; first | done | rfl) (by kernel_rfl) (by kernel_rfl) (by kernel_rfl) (fun _ _ _ h => h) (Or.inl ⟨by rfl, ?hy⟩) (by assumption) ?_
  case hy => (intro w hSw; (try dsimp only at hSw); have c4 := hSw.1.c4; rw [HDL.out] at c4; go_simp; all_goals with_reducible rfl)
  try simp only [Act.put, List.setIfInBounds_toArray, List.set_cons_zero, List.set_cons_succ]
  refine wpAnyH_take (i := 2) (v := ?_) (by simp only [List.getElem?_toArray, List.getElem?_cons_succ, List.getElem?_cons_zero]; first | done | rfl) (by kernel_rfl) (by kernel_rfl) (by kernel_rfl) (fun _ _ _ h => h) (Or.inl ⟨by rfl, ?hy⟩) (by assumption) ?_
  case hy => (intro w hSw; (try dsimp only at hSw); have c4 := hSw.1.c4; rw [HDL.out] at c4; go_simp; all_goals with_reducible rfl)
  try simp only [Act.put, List.setIfInBounds_toArray, List.set_cons_zero, List.set_cons_succ]
  refine wpAnyH_take (i := 3) (v := ?_) (by simp only [List.getElem?_toArray, List.getElem?_cons_succ, List.getElem?_cons_zero]; first | done | rfl) (by kernel_rfl) (by kernel_rfl) (by kernel_rfl) (fun _ _ _ h => h) (Or.inl ⟨by rfl, ?hy⟩) (by assumption) ?_
  case hy => (intro w hSw; (try dsimp only at hSw); have c4 := hSw.1.c4; rw [HDL.out] at c4; go_simp; all_goals with_reducible rfl)
  try simp only [Act.put, List.setIfInBounds_toArray, List.set_cons_zero, List.set_cons_succ]
  refine wpAnyH_take (i := 4) (v := ?_) (by simp only [List.getElem?_toArray, List.getElem?_cons_succ, List.getElem?_cons_zero]; first | done | rfl) (by kernel_rfl) (by kernel_rfl) (by kernel_rfl) (fun _ _ _ h => h) (Or.inl ⟨by rfl, ?hy⟩) (by assumption) ?_
  case hy => (intro w hSw; (try dsimp only at hSw); have c4 := hSw.1.c4; rw [HDL.out] at c4; go_simp; all_goals with_reducible rfl)
  try simp only [Act.put, List.setIfInBounds_toArray, List.set_cons_zero, List.set_cons_succ]
  refine wpAnyH_take (i := 5) (v := ?_) (by simp only [List.getElem?_toArray, List.getElem?_cons_succ, List.getElem?_cons_zero]; first | done | rfl) (by kernel_rfl) (by kernel_rfl) (by kernel_rfl) (fun _ _ _ h => h) (Or.inl ⟨by rfl, ?hy⟩) (by assumption) ?_
  case hy => (intro w hSw; (try dsimp only at hSw); have c4 := hSw.1.c4; rw [HDL.out] at c4; go_simp; all_goals with_reducible rfl)
  try simp only [Act.put, List.setIfInBounds_toArray, List.set_cons_zero, List.set_cons_succ]
  refine wpAnyH_take (i := 6) (v := ?_) (by simp only [List.getElem?_toArray, List.getElem?_cons_succ, List.getElem?_cons_zero]; first | done | rfl) (by kernel_rfl) (by kernel_rfl) (by kernel_rfl) (fun _ _ _ h => h) (Or.inl ⟨by rfl, ?hy⟩) (by assumption) ?_
  case hy => (intro w hSw; (try dsimp only at hSw); have c4 := hSw.1.c4; rw [HDL.out] at c4; go_simp; all_goals with_reducible rfl)
  try simp only [Act.put, List.setIfInBounds_toArray, List.set_cons_zero, List.set_cons_succ]
  refine wpAnyH_take (i := 7) (v := ?_) (by simp only [List.getElem?_toArray, List.getElem?_cons_succ, List.getElem?_cons_zero]; first | done | rfl) (by kernel_rfl) (by kernel_rfl) (by kernel_rfl) (fun _ _ _ h => h) (Or.inl ⟨by rfl, ?hy⟩) (by assumption) ?_
  case hy => (intro w hSw; (try dsimp only at hSw); have c4 := hSw.1.c4; rw [HDL.out] at c4; go_simp; all_goals with_reducible rfl)
  try simp only [Act.put, List.setIfInBounds_toArray, List.set_cons_zero, List.set_cons_succ]
  refine wpAnyH_take (i := 8) (v := ?_) (by simp only [List.getElem?_toArray, List.getElem?_cons_succ, List.getElem?_cons_zero]; first | done | rfl) (by kernel_rfl) (by kernel_rfl) (by kernel_rfl) (fun _ _ _ h => h) (Or.inl ⟨by rfl, ?hy⟩) (by assumption) ?_
  case hy => (intro w hSw; (try dsimp only at hSw); have c4 := hSw.1.c4; rw [HDL.out] at c4; go_simp; all_goals with_reducible rfl)
  try simp only [Act.put, List.setIfInBounds_toArray, List.set_cons_zero, List.set_cons_succ]
  refine wpAnyH_take (i := 9) (v := ?_) (by simp only [List.getElem?_toArray, List.getElem?_cons_succ, List.getElem?_cons_zero]; first | done | rfl) (by kernel_rfl) (by kernel_rfl) (by kernel_rfl) (fun _ _ _ h => h) (Or.inl ⟨by rfl, ?hy⟩) (by assumption) ?_
  case hy => (intro w hSw; (try dsimp only at hSw); have c4 := hSw.1.c4; rw [HDL.out] at c4; go_simp; all_goals with_reducible rfl)
  try simp only [Act.put, List.setIfInBounds_toArray, List.set_cons_zero, List.set_cons_succ]
  refine wpAnyH_take (i := 10) (v := ?_) (by simp only [List.getElem?_toArray, List.getElem?_cons_succ, List.getElem?_cons_zero]; first | done | rfl) (by kernel_rfl) (by kernel_rfl) (by kernel_rfl) (fun _ _ _ h => h) (Or.inl ⟨by rfl, ?hy⟩) (by assumption) ?_
  case hy => (intro w hSw; (try dsimp only at hSw); have c4 := hSw.1.c4; rw [HDL.out] at c4; go_simp; all_goals with_reducible rfl)
  try simp only [Act.put, List.setIfInBounds_toArray, List.set_cons_zero, List.set_cons_succ]
  refine wpAnyH_take (i := 11) (v := ?_) (by simp only [List.getElem?_toArray, List.getElem?_cons_succ, List.getElem?_cons_zero]; first | done | rfl) (by kernel_rfl) (by kernel_rfl) (by kernel_rfl) (fun _ _ _ h => h) (Or.inl ⟨by rfl, ?hy⟩) (by assumption) ?_
  case hy => (intro w hSw; (try dsimp only at hSw); have c4 := hSw.1.c4; rw [HDL.out] at c4; go_simp; all_goals with_reducible rfl)
  try simp only [Act.put, List.setIfInBounds_toArray, List.set_cons_zero, List.set_cons_succ]
  refine wpAnyH_take (i := 12) (v := ?_) (by simp only [List.getElem?_toArray, List.getElem?_cons_succ, List.getElem?_cons_zero]; first | done | rfl) (by kernel_rfl) (by kernel_rfl) (by kernel_rfl) (fun _ _ _ h => h) (Or.inl ⟨by rfl, ?hy⟩) (by assumption) ?_
  case hy => (intro w hSw; (try dsimp only at hSw); have c4 := hSw.1.c4; rw [HDL.out] at c4; go_simp; all_goals with_reducible rfl)
  try simp only [Act.put, List.setIfInBounds_toArray, List.set_cons_zero, List.set_cons_succ]
  refine wpAnyH_take (i := 13) (v := ?_) (by simp only [List.getElem?_toArray, List.getElem?_cons_succ, List.getElem?_cons_zero]; first | done | rfl) (by kernel_rfl) (by kernel_rfl) (by kernel_rfl) (fun _ _ _ h => h) (Or.inl ⟨by rfl, ?hy⟩) (by assumption) ?_
  case hy => (intro w hSw; (try dsimp only at hSw); have c4 := hSw.1.c4; rw [HDL.out] at c4; go_simp; all_goals with_reducible rfl)
  try simp only [Act.put, List.setIfInBounds_toArray, List.set_cons_zero, List.set_cons_succ]
  refine wpAnyH_take (i := 14) (v := ?_) (by simp only [List.getElem?_toArray, List.getElem?_cons_succ, List.getElem?_cons_zero]; first | done | rfl) (by kernel_rfl) (by kernel_rfl) (by kernel_rfl) (fun _ _ _ h => h) (Or.inl ⟨by rfl, ?hy⟩) (by assumption) ?_
  case hy => (intro w hSw; (try dsimp only at hSw); have c4 := hSw.1.c4; rw [HDL.out] at c4; go_simp; all_goals with_reducible rfl)
  try simp only [Act.put, List.setIfInBounds_toArray, List.set_cons_zero, List.set_cons_succ]
  refine wpAnyH_take (i := 15) (v := ?_) (by simp only [List.getElem?_toArray, List.getElem?_cons_succ, List.getElem?_cons_zero]; first | done | rfl) (by kernel_rfl) (by kernel_rfl) (by kernel_rfl) (fun _ _ _ h => h) (Or.inl ⟨by rfl, ?hy⟩) (by assumption) ?_
  case hy => (intro w hSw; (try dsimp only at hSw); have c4 := hSw.1.c4; rw [HDL.out] at c4; go_simp; all_goals with_reducible rfl)
  try simp only [Act.put, List.setIfInBounds_toArray, List.set_cons_zero, List.set_cons_succ]
  refine wpAnyH_take (i := 16) (by simp only [List.getElem?_toArray, List.getElem?_cons_succ, List.getElem?_cons_zero]; first | done | rfl) (by kernel_rfl) (by kernel_rfl) (by kernel_rfl) (fun _ _ _ h => h) (yields_pr (by rfl) _ rfl g1 h rfl (fun w hw => hw.1)) (by assumption) ?_
  try simp only [Act.put, List.setIfInBounds_toArray, List.set_cons_zero, List.set_cons_succ]
  refine wpAnyH_take (i := 17) (by simp only [List.getElem?_toArray, List.getElem?_cons_succ, List.getElem?_cons_zero]; first | done | rfl) (by kernel_rfl) (by kernel_rfl) (by kernel_rfl) (fun _ _ _ h => h) (yields_pr (by rfl) _ rfl g5 h rfl (fun w hw => hw.2)) (by assumption) ?_
  try simp only [Act.put, List.setIfInBounds_toArray, List.set_cons_zero, List.set_cons_succ]
  refine wpAnyH_take (i := 18) (by simp only [List.getElem?_toArray, List.getElem?_cons_succ, List.getElem?_cons_zero]; first | done | rfl) (by kernel_rfl) (by kernel_rfl) (by kernel_rfl) (fun _ _ _ h => h) (yields_eql_pr (by rfl) _ _ _ rfl h rfl rfl OK.out) (by assumption) ?_
  try simp only [Act.put, List.setIfInBounds_toArray, List.set_cons_zero, List.set_cons_succ]
  refine wpAnyH_take (i := 19) (v := ?_) (by simp only [List.getElem?_toArray, List.getElem?_cons_succ, List.getElem?_cons_zero]; first | done | rfl) (by kernel_rfl) (by kernel_rfl) (by kernel_rfl) (fun _ _ _ h => h) (Or.inl ⟨by rfl, ?hy⟩) (by assumption) ?_
  case hy => (intro w hSw; (try dsimp only at hSw); have c4 := hSw.1.c4; rw [HDL.out] at c4; go_simp; all_goals with_reducible rfl)
  try simp only [Act.put, List.setIfInBounds_toArray, List.set_cons_zero, List.set_cons_succ]
  refine wpAnyH_take (i := 20) (v := ?_) (by simp only [List.getElem?_toArray, List.getElem?_cons_succ, List.getElem?_cons_zero]; first | done | rfl) (by kernel_rfl) (by kernel_rfl) (by kernel_rfl) (fun _ _ _ h => h) (Or.inl ⟨by rfl, ?hy⟩) (by assumption) ?_
  case hy => (intro w hSw; (try dsimp only at hSw); have c4 := hSw.1.c4; rw [HDL.out] at c4; go_simp; all_goals with_reducible rfl)
  try simp only [Act.put, List.setIfInBounds_toArray, List.set_cons_zero, List.set_cons_succ]
  refine wpAnyH_take (i := 22) (by simp only [List.getElem?_toArray, List.getElem?_cons_succ, List.getElem?_cons_zero]; first | done | rfl) (by kernel_rfl) (by kernel_rfl) (by kernel_rfl) (fun _ _ _ h => h) (yields_pr (by rfl) _ rfl g1 h rfl (fun w hw => hw.1)) (by assumption) ?_
  try simp only [Act.put, List.setIfInBounds_toArray, List.set_cons_zero, List.set_cons_succ]
  refine wpAnyH_ready (rs := [21]) (by kernel_rfl) (by simp) ?_
  refine AllReadyH.cons (by simp only [List.getElem?_toArray, List.getElem?_cons_succ, List.getElem?_cons_zero]; first | done | rfl) (fun K hK => ?_) ?_
  · skip
    refine step_call (by rfl) (rpublic_any 5 _ (by omega) (by omega)) (by go_simp; all_goals first | rfl | (simp only [IntKind.wrap_u64]; rfl)) ?_
    rintro e v2 ⟨rfl, hd⟩
    refine ⟨_, rfl, ?_⟩
    rw [← HP5.out]
    have hb2 := fun B => Dr.below hd B
    clear hd
    have HA1' := Lib.hid (PA.below (by repeat (first | exact HA1.out | apply PA.drew | apply PA.drewN | apply PA.alloc)) (hb2 _))
    have HA5' := Lib.hid (PA.below (by repeat (first | exact HA5.out | apply PA.drew | apply PA.drewN | apply PA.alloc)) (hb2 _))
    have HB' := Lib.hid (bl_bl (by repeat (first | exact HB.out | apply bl_drew | apply bl_drewN | apply bl_alloc)) (hb2 _))
    clear hb2
    clear HA1 HA5 HB
    have HA1 := HA1'
    have HA5 := HA5'
    have HB := HB'
    clear HA1' HA5' HB'
    refine hK.out _ _ ?_ (fun hHeld => ?_)
    · (try dsimp only); (refine ⟨?_, ?_⟩ <;> repeat (first | exact HA1.out | exact HA5.out | apply PA.drew | apply PA.drewN | apply PA.alloc))
    clear hK K
    try simp only [Act.put, List.setIfInBounds_toArray, List.set_cons_zero, List.set_cons_succ]
    refine wpAnyH_ready (rs := [23]) (by kernel_rfl) (by simp) ?_
    refine AllReadyH.cons (by simp only [List.getElem?_toArray, List.getElem?_cons_succ, List.getElem?_cons_zero]; first | done | rfl) (fun K hK => ?_) ?_
    · skip
      refine step_call (by rfl) (checkP_any p5 h _ p50 (by omega) OK.out) (by go_simp; all_goals first | rfl | (simp only [IntKind.wrap_u64]; rfl)) ?_
      rintro e v2 ⟨rfl, hb2⟩
      refine ⟨_, rfl, ?_⟩
      rw [HC5.out]
      have HA1' := Lib.hid (PA.below (by repeat (first | exact HA1.out | apply PA.drew | apply PA.drewN | apply PA.alloc)) hb2)
      have HA5' := Lib.hid (PA.below (by repeat (first | exact HA5.out | apply PA.drew | apply PA.drewN | apply PA.alloc)) hb2)
      have HB' := Lib.hid (bl_bl (by repeat (first | exact HB.out | apply bl_drew | apply bl_drewN | apply bl_alloc)) hb2)
      clear hb2
      clear HA1 HA5 HB
      have HA1 := HA1'
      have HA5 := HA5'
      have HB := HB'
      clear HA1' HA5' HB'
      refine hK.out _ _ ?_ (fun hHeld => ?_)
      · (try dsimp only); (refine ⟨?_, ?_⟩ <;> repeat (first | exact HA1.out | exact HA5.out | apply PA.drew | apply PA.drewN | apply PA.alloc))
      clear hK K
      try simp only [Act.put, List.setIfInBounds_toArray, List.set_cons_zero, List.set_cons_succ]
      refine wpAnyH_take (i := 24) (v := ?_) (by simp only [List.getElem?_toArray, List.getElem?_cons_succ, List.getElem?_cons_zero]; first | done | rfl) (by kernel_rfl) (by kernel_rfl) (by kernel_rfl) (fun _ _ _ h => h) (Or.inl ⟨by rfl, ?hy⟩) (by assumption) ?_
      case hy => (intro w hSw; (try dsimp only at hSw); have c4 := hSw.1.c4; rw [HDL.out] at c4; go_simp; all_goals with_reducible rfl)
      try simp only [Act.put, List.setIfInBounds_toArray, List.set_cons_zero, List.set_cons_succ]
      refine wpAnyH_take (i := 25) (v := ?_) (by simp only [List.getElem?_toArray, List.getElem?_cons_succ, List.getElem?_cons_zero]; first | done | rfl) (by kernel_rfl) (by kernel_rfl) (by kernel_rfl) (fun _ _ _ h => h) (Or.inl ⟨by rfl, ?hy⟩) (by assumption) ?_
      case hy => (intro w hSw; (try dsimp only at hSw); have c4 := hSw.1.c4; rw [HDL.out] at c4; go_simp; all_goals with_reducible rfl)
      try simp only [Act.put, List.setIfInBounds_toArray, List.set_cons_zero, List.set_cons_succ]
      refine wpAnyH_take (i := 26) (v := ?_) (by simp only [List.getElem?_toArray, List.getElem?_cons_succ, List.getElem?_cons_zero]; first | done | rfl) (by kernel_rfl) (by kernel_rfl) (by kernel_rfl) (fun _ _ _ h => h) (Or.inl ⟨by rfl, ?hy⟩) (by assumption) ?_
      case hy => (intro w hSw; (try dsimp only at hSw); have c4 := hSw.1.c4; rw [HDL.out] at c4; go_simp; all_goals with_reducible rfl)
      try simp only [Act.put, List.setIfInBounds_toArray, List.set_cons_zero, List.set_cons_succ]
      refine wpAnyH_take (i := 27) (v := ?_) (by simp only [List.getElem?_toArray, List.getElem?_cons_succ, List.getElem?_cons_zero]; first | done | rfl) (by kernel_rfl) (by kernel_rfl) (by kernel_rfl) (fun _ _ _ h => h) (Or.inl ⟨by rfl, ?hy⟩) (by assumption) ?_
      case hy => (intro w hSw; (try dsimp only at hSw); have c4 := hSw.1.c4; rw [HDL.out] at c4; go_simp; all_goals with_reducible rfl)
      try simp only [Act.put, List.setIfInBounds_toArray, List.set_cons_zero, List.set_cons_succ]
      refine wpAnyH_take (i := 28) (v := ?_) (by simp only [List.getElem?_toArray, List.getElem?_cons_succ, List.getElem?_cons_zero]; first | done | rfl) (by kernel_rfl) (by kernel_rfl) (by kernel_rfl) (fun _ _ _ h => h) (Or.inl ⟨by rfl, ?hy⟩) (by assumption) ?_
      case hy => (intro w hSw; (try dsimp only at hSw); have c4 := hSw.1.c4; rw [HDL.out] at c4; go_simp; all_goals with_reducible rfl)
      try simp only [Act.put, List.setIfInBounds_toArray, List.set_cons_zero, List.set_cons_succ]
      refine wpAnyH_take (i := 29) (v := ?_) (by simp only [List.getElem?_toArray, List.getElem?_cons_succ, List.getElem?_cons_zero]; first | done | rfl) (by kernel_rfl) (by kernel_rfl) (by kernel_rfl) (fun _ _ _ h => h) (Or.inl ⟨by rfl, ?hy⟩) (by assumption) ?_
      case hy => (intro w hSw; (try dsimp only at hSw); have c4 := hSw.1.c4; rw [HDL.out] at c4; go_simp; all_goals with_reducible rfl)
      try simp only [Act.put, List.setIfInBounds_toArray, List.set_cons_zero, List.set_cons_succ]
      refine wpAnyH_take (i := 30) (by simp only [List.getElem?_toArray, List.getElem?_cons_succ, List.getElem?_cons_zero]; first | done | rfl) (by kernel_rfl) (by kernel_rfl) (by kernel_rfl) (fun _ _ _ h => h) (yields_build_pr0 (by rfl) rfl) (by assumption) ?_
      try simp only [Act.put, List.setIfInBounds_toArray, List.set_cons_zero, List.set_cons_succ]
      refine wpAnyH_ready (rs := [31]) (by kernel_rfl) (by simp) ?_
      refine AllReadyH.cons (by simp only [List.getElem?_toArray, List.getElem?_cons_succ, List.getElem?_cons_zero]; first | done | rfl) (fun K hK => ?_) ?_
      · skip
        refine step_call (by rfl) (rightP_any zeroP _) (by go_simp; all_goals first | rfl | (simp only [IntKind.wrap_u64]; rfl)) ?_
        rintro e v2 ⟨rfl, hb2⟩
        refine ⟨_, rfl, ?_⟩
        rw [HZR.out]
        have HA1' := Lib.hid (PA.below (by repeat (first | exact HA1.out | apply PA.drew | apply PA.drewN | apply PA.alloc)) hb2)
        have HA5' := Lib.hid (PA.below (by repeat (first | exact HA5.out | apply PA.drew | apply PA.drewN | apply PA.alloc)) hb2)
        have HB' := Lib.hid (bl_bl (by repeat (first | exact HB.out | apply bl_drew | apply bl_drewN | apply bl_alloc)) hb2)
        clear hb2
        clear HA1 HA5 HB
        have HA1 := HA1'
        have HA5 := HA5'
        have HB := HB'
        clear HA1' HA5' HB'
        refine hK.out _ _ ?_ (fun hHeld => ?_)
        · (try dsimp only); (refine ⟨?_, ?_⟩ <;> repeat (first | exact HA1.out | exact HA5.out | apply PA.drew | apply PA.drewN | apply PA.alloc))
        clear hK K
        try simp only [Act.put, List.setIfInBounds_toArray, List.set_cons_zero, List.set_cons_succ]
        refine wpAnyH_take (i := 32) (v := ?_) (by simp only [List.getElem?_toArray, List.getElem?_cons_succ, List.getElem?_cons_zero]; first | done | rfl) (by kernel_rfl) (by kernel_rfl) (by kernel_rfl) (fun _ _ _ h => h) (Or.inl ⟨by rfl, ?hy⟩) (by assumption) ?_
        case hy => (intro w hSw; (try dsimp only at hSw); have c4 := hSw.1.c4; rw [HDL.out] at c4; go_simp; all_goals with_reducible rfl)
        try simp only [Act.put, List.setIfInBounds_toArray, List.set_cons_zero, List.set_cons_succ]
        refine wpAnyH_take (i := 33) (v := ?_) (by simp only [List.getElem?_toArray, List.getElem?_cons_succ, List.getElem?_cons_zero]; first | done | rfl) (by kernel_rfl) (by kernel_rfl) (by kernel_rfl) (fun _ _ _ h => h) (Or.inl ⟨by rfl, ?hy⟩) (by assumption) ?_
        case hy => (intro w hSw; (try dsimp only at hSw); have c4 := hSw.1.c4; rw [HDL.out] at c4; go_simp; all_goals with_reducible rfl)
        try simp only [Act.put, List.setIfInBounds_toArray, List.set_cons_zero, List.set_cons_succ]
        refine wpAnyH_take (i := 34) (v := ?_) (by simp only [List.getElem?_toArray, List.getElem?_cons_succ, List.getElem?_cons_zero]; first | done | rfl) (by kernel_rfl) (by kernel_rfl) (by kernel_rfl) (fun _ _ _ h => h) (Or.inl ⟨by rfl, ?hy⟩) (by assumption) ?_
        case hy => (intro w hSw; (try dsimp only at hSw); have c4 := hSw.1.c4; rw [HDL.out] at c4; go_simp; all_goals with_reducible rfl)
        try simp only [Act.put, List.setIfInBounds_toArray, List.set_cons_zero, List.set_cons_succ]
        refine wpAnyH_done (by kernel_rfl) ?_ _
        refine NoPanic.normal ?_
        go_wp2_with fail
        go_ret
        exact ⟨rfl, HB.out⟩
      exact AllReadyH.nil
    exact AllReadyH.nil
  exact AllReadyH.nil
end Go.Proofs.Ytbhkcgnlegmjlaa
