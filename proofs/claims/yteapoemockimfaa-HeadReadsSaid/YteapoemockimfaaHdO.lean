/-
  HeadOwn: for every input the law returns true.
-/
import Derived.Test.YteapoemockimfaaHdK
namespace Go.Proofs.Yteapoemockimfaa
set_option linter.unusedVariables false
set_option linter.unusedSimpArgs false
open Go.RowKit

theorem hash_size (l : List UInt8) (h : l.length = 32) : (Try.prog.info? 23).map (·.size) = some (bvs l).toArray.size := by rw [arr32_info, List.size_toArray, bvs_length, h]
theorem check_signed (x : Int) (h : Hd) (hr : rightF h = true) (x0 : 0 ≤ x) : checkH (pubF x) (signH x h) = true := by
  rw [checkH_sign, hr, ← pub_mod x, check_own (x % 2305843009213693950) (msgF h) (Int.emod_nonneg _ (by decide)) (Int.emod_lt_of_pos _ (by decide))]
  rfl
attribute [local irreducible] checkF msgF num8 checkH readH putH rightF pubF

set_option maxRecDepth 100000 in
set_option maxHeartbeats 3200000 in
theorem headOwn_walk (a y ep tk ct : Int) (root log : List UInt8) (w : World) (w0 : (Lit.int .u64 a).wf = true) (w1 : (Lit.int .u64 y).wf = true) (w2 : (Lit.int .u16 ep).wf = true) (w3 : (Lit.int .u32 tk).wf = true) (w4 : (Lit.int .u8 ct).wf = true) (w5 : root.length = 32) (w6 : log.length = 32) :
    Calls Try.prog 5 #[.int .u64 a, .int .u64 y, .int .u16 ep, .int .u32 tk, .int .u8 ct, hashV root, hashV log] w fun e w' => e = .returned (.bool true) ∧ Below w.heap.size w w' := by
  obtain ⟨a0, a1⟩ := bounds_u64 w0
  obtain ⟨y0, y1⟩ := bounds_u64 w1
  obtain ⟨ep0, ep1⟩ := bounds_u16 w2
  obtain ⟨tk0, tk1⟩ := bounds_u32 w3
  obtain ⟨ct0, ct1⟩ := bounds_u8 w4
  show Calls _ _ #[.int .u64 a, .int .u64 y, .int .u16 ep, .int .u32 tk, .int .u8 ct, .agg (bvs root).toArray, .agg (bvs log).toArray] w _
  have HR := Lib.hid w5
  have HL := Lib.hid w6
  obtain ⟨h0, hh0⟩ : ∃ h : Hd, h = ⟨ep + 1, tk, ct % 8 + 1, root, log, 0, 0⟩ := ⟨_, rfl⟩
  have ok0 : h0.ok := by
    rw [hh0]
    refine ⟨?_, ?_, ?_, w5, w6, ?_, ?_⟩ <;> simp only [isI64, isU64] <;> omega
  have hr0 : rightF h0 = true := by
    rw [hh0]; unfold rightF
    rw [decide_eq_true (show 1 ≤ ep + 1 by omega), decide_eq_true (show ep + 1 ≤ 1073741824 by omega), decide_eq_true (show 0 ≤ tk by omega), decide_eq_true (show tk ≤ 1152921504606846976 by omega), decide_eq_true (show 1 ≤ ct % 8 + 1 by omega), decide_eq_true (show ct % 8 + 1 ≤ 8 by omega)]
    rfl
  have hbuilt := built_head (ep + 1) tk (ct % 8 + 1) root log w5 w6
  rw [← hh0] at hbuilt
  have hr := hr0
  rw [← right_sign a h0] at hr
  have ok := signH_ok a h0 ok0
  have HK0 := Lib.hid (signh_any a h0)
  have HBT := Lib.hid hbuilt
  have OK0 := Lib.hid ok0
  have hc5 := check_signed a h0 hr0 a0
  obtain ⟨p50, p51⟩ := pubF_bd a
  obtain ⟨p60, p61⟩ := pubF_bd y
  obtain ⟨p5, hp5⟩ : ∃ p, p = pubF a := ⟨_, rfl⟩
  obtain ⟨p6, hp6⟩ : ∃ p, p = pubF y := ⟨_, rfl⟩
  rw [← hp5] at hc5 p50 p51
  rw [← hp6] at p60 p61
  have HP5 := Lib.hid hp5
  have HP6 := Lib.hid hp6
  have HC5 := Lib.hid hc5
  have HRP := Lib.hid (read_put _ ok hr)
  have HLN := Lib.hid (putH_length _ ok)
  have HPE := Lib.hid (show putErr (signH a h0) = 0 by unfold putErr; rw [hr]; rfl)
  have HPO := Lib.hid (show putOut (signH a h0) = putH (signH a h0) by unfold putOut; rw [hr]; rfl)
  have OK := Lib.hid ok
  clear hr ok hp5 hp6 hc5 hbuilt ok0 hr0 hh0 w0 w1 w2 w3 w4 w5 w6
  generalize signH a h0 = h at *
  obtain ⟨b6, hb6⟩ : ∃ b, checkH p6 h = b := ⟨_, rfl⟩
  have HC6 := Lib.hid hb6
  clear hb6
  go_enter Try.func5, Try.ntmps5
  go_wp2_with fail
  refine (known_any _).mono ?_
  rintro e w0 ⟨rfl, hb0⟩
  have r12 : w0.heap[w.heap.size]? = some (.cells (bvs root).toArray 23 (0, 0)) := by
    rw [hb0.block _ (by simp <;> omega), heap_alloc_old _ _ (by simp <;> omega)]
    exact heap_alloc_new _ _
  have r13 : w0.heap[w.heap.size + 1]? = some (.cells (bvs log).toArray 23 (0, 0)) := by
    rw [hb0.block _ (by simp <;> omega), show w.heap.size + 1 = (w.alloc (.cells (bvs root).toArray 23)).heap.size by simp]
    exact heap_alloc_new _ _
  have HR12 := Lib.hid r12
  have HR13 := Lib.hid r13
  have HB0 := Lib.hid (bl_bl (bl_alloc (bl_alloc (Below.refl w.heap.size w) _) _) hb0)
  clear hb0 r12 r13
  go_wp2_with (first
    | refine wpList_load_row rfl 23 (.tmp 12) rfl w.heap.size rfl 23 _ (0, 0) _ HR12.out Try.underlying23 rfl (hash_size _ HR.out) ?_
    | refine wpList_load_row rfl 23 (.tmp 13) rfl (w.heap.size + 1) rfl 23 _ (0, 0) _ HR13.out Try.underlying23 rfl (hash_size _ HL.out) ?_
    | refine wpList_built rfl 28 #[(0, .tmp 26), (1, .tmp 28), (2, .tmp 32), (3, .tmp 33), (4, .tmp 34)] rfl [(0, .int .i64 (ep + 1)), (1, .int .i64 tk), (2, .int .i64 (ct % 8 + 1)), (3, hashV root), (4, hashV log)] (by simp only [List.map_toArray, List.map_cons, List.map_nil]; rfl) h0.cells.toArray HBT.out ?_)
  refine (HK0.out _ a0 (by omega) OK0.out).mono ?_
  rintro e w1 ⟨rfl, hb1⟩
  have HB1 := Lib.hid (bl_bl HB0.out hb1)
  clear hb1
  go_upto_region 4 with (refine wpList_store_row rfl 28 (.tmp 15) (.tmp 36) rfl w1.heap.size h.cells.toArray rfl rfl 28 _ (heap_alloc_new _ _) (head_size _ OK.out) (by rw [zero_cells, List.size_toArray, List.size_toArray, Hd.cells_length h OK.out, Hd.cells_length zeroH zeroH_ok]) (all_oneCell_toArray h.cells_one) ?_)
  refine wp_world (fun Y => HA w1.heap.size h Y ∧ Below w.heap.size w Y) ⟨⟨setRow_heap _ _ _ _ _ _ (heap_alloc_new _ _)⟩, bl_bl HB1.out (below_fresh _ _ _)⟩ ?_
  rintro Y ⟨h1, h2⟩
  have HA1 := Lib.hid h1
  have HB := Lib.hid h2
  clear h1 h2
  refine wp_region_lit ?_
  refine wpList_load_row rfl 28 (.tmp 15) rfl w1.heap.size rfl 28 _ (0, 0) _ HA1.out.row Try.underlying28 rfl (head_size _ OK.out) ?_
  go_wp2_with fail
  refine (puth_any h _ OK.out).mono ?_
  rintro e w2 ⟨v, rfl, hu, hb2⟩
  rw [HPO.out] at hu
  rw [HPE.out]
  obtain ⟨pa, pc, rfl⟩ := hu.shape
  rw [HLN.out] at hu ⊢
  have HU := Lib.hid hu
  have HA2 := Lib.hid (HA1.out.below hb2)
  have HB2 := Lib.hid (bl_bl HB.out hb2)
  clear hu hb2
  go_wp2_with fail
  refine (readh_any _ (putH h) _ HU.out (by rw [HLN.out]; decide)).mono ?_
  rintro e w3 ⟨rfl, hb3⟩
  rw [HRP.out]
  have HA3 := Lib.hid (HA2.out.below hb3)
  have HB3 := Lib.hid (bl_bl HB2.out hb3)
  clear hb3
  go_upto_region 6 with (refine wpList_store_row rfl 28 (.tmp 18) (.tmp 45) rfl w3.heap.size h.cells.toArray rfl rfl 28 _ (heap_alloc_new _ _) (head_size _ OK.out) (by rw [zero_cells, List.size_toArray, List.size_toArray, Hd.cells_length h OK.out, Hd.cells_length zeroH zeroH_ok]) (all_oneCell_toArray h.cells_one) ?_)
  refine wp_world (fun Y => HA w1.heap.size h Y ∧ HA w3.heap.size h Y ∧ Below w.heap.size w Y) ⟨HA3.out.below (below_fresh _ _ _), ⟨setRow_heap _ _ _ _ _ _ (heap_alloc_new _ _)⟩, bl_bl HB3.out (below_fresh _ _ _)⟩ ?_
  rintro Z ⟨h1, h4, h2⟩
  clear HA1 HB
  have HA1 := Lib.hid h1
  have HA4 := Lib.hid h4
  have HB := Lib.hid h2
  clear h1 h2 h4
  go_wp2_with fail
  refine (rpublic_any y _ y0 (by omega)).mono ?_
  rintro e w6 ⟨rfl, n6, rfl⟩
  rw [← HP6.out]
  go_upto_region 7 with fail
  refine wp_region_noPanic ?_
  refine wp_region_held_drew (S := (fun w' => HA w1.heap.size h w' ∧ HA w3.heap.size h w')) (by kernel_rfl) ?_ (fun hHeld => ?_)
  · (try dsimp only); (refine ⟨?_, ?_⟩ <;> repeat (first | exact HA1.out | exact HA4.out | apply HA.drew | apply HA.drewN | apply HA.alloc))
  refine wpAnyH_take (i := 0) (v := ?_) (by simp only [List.getElem?_toArray, List.getElem?_cons_succ, List.getElem?_cons_zero]; first | done | rfl) (by kernel_rfl) (by kernel_rfl) (by kernel_rfl) (fun _ _ _ h => h) (Or.inl ⟨by rfl, ?hy⟩) (by assumption) ?_
  case hy => (intro w hSw; (try dsimp only at hSw); go_simp; all_goals with_reducible rfl)
  try simp only [Act.put, List.setIfInBounds_toArray, List.set_cons_zero, List.set_cons_succ]
  refine wpAnyH_take (i := 1) (v := ?_) (by simp only [List.getElem?_toArray, List.getElem?_cons_succ, List.getElem?_cons_zero]; first | done | rfl) (by kernel_rfl) (by kernel_rfl) (by kernel_rfl) (fun _ _ _ h => h) (Or.inl ⟨by rfl, ?hy⟩) (by assumption) ?_
  case hy => (intro w hSw; (try dsimp only at hSw); go_simp; all_goals with_reducible rfl)
  try simp only [Act.put, List.setIfInBounds_toArray, List.set_cons_zero, List.set_cons_succ]
  refine wpAnyH_take (i := 2) (v := ?_) (by simp only [List.getElem?_toArray, List.getElem?_cons_succ, List.getElem?_cons_zero]; first | done | rfl) (by kernel_rfl) (by kernel_rfl) (by kernel_rfl) (fun _ _ _ h => h) (Or.inl ⟨by rfl, ?hy⟩) (by assumption) ?_
  case hy => (intro w hSw; (try dsimp only at hSw); go_simp; all_goals with_reducible rfl)
  try simp only [Act.put, List.setIfInBounds_toArray, List.set_cons_zero, List.set_cons_succ]
  refine wpAnyH_take (i := 3) (v := ?_) (by simp only [List.getElem?_toArray, List.getElem?_cons_succ, List.getElem?_cons_zero]; first | done | rfl) (by kernel_rfl) (by kernel_rfl) (by kernel_rfl) (fun _ _ _ h => h) (Or.inl ⟨by rfl, ?hy⟩) (by assumption) ?_
  case hy => (intro w hSw; (try dsimp only at hSw); go_simp; all_goals with_reducible rfl)
  try simp only [Act.put, List.setIfInBounds_toArray, List.set_cons_zero, List.set_cons_succ]
  refine wpAnyH_take (i := 4) (v := ?_) (by simp only [List.getElem?_toArray, List.getElem?_cons_succ, List.getElem?_cons_zero]; first | done | rfl) (by kernel_rfl) (by kernel_rfl) (by kernel_rfl) (fun _ _ _ h => h) (Or.inl ⟨by rfl, ?hy⟩) (by assumption) ?_
  case hy => (intro w hSw; (try dsimp only at hSw); go_simp; all_goals with_reducible rfl)
  try simp only [Act.put, List.setIfInBounds_toArray, List.set_cons_zero, List.set_cons_succ]
  refine wpAnyH_take (i := 5) (v := ?_) (by simp only [List.getElem?_toArray, List.getElem?_cons_succ, List.getElem?_cons_zero]; first | done | rfl) (by kernel_rfl) (by kernel_rfl) (by kernel_rfl) (fun _ _ _ h => h) (Or.inl ⟨by rfl, ?hy⟩) (by assumption) ?_
  case hy => (intro w hSw; (try dsimp only at hSw); go_simp; all_goals with_reducible rfl)
  try simp only [Act.put, List.setIfInBounds_toArray, List.set_cons_zero, List.set_cons_succ]
  refine wpAnyH_take (i := 6) (v := ?_) (by simp only [List.getElem?_toArray, List.getElem?_cons_succ, List.getElem?_cons_zero]; first | done | rfl) (by kernel_rfl) (by kernel_rfl) (by kernel_rfl) (fun _ _ _ h => h) (Or.inl ⟨by rfl, ?hy⟩) (by assumption) ?_
  case hy => (intro w hSw; (try dsimp only at hSw); go_simp; all_goals with_reducible rfl)
  try simp only [Act.put, List.setIfInBounds_toArray, List.set_cons_zero, List.set_cons_succ]
  refine wpAnyH_take (i := 7) (by simp only [List.getElem?_toArray, List.getElem?_cons_succ, List.getElem?_cons_zero]; first | done | rfl) (by kernel_rfl) (by kernel_rfl) (by kernel_rfl) (fun _ _ _ h => h) (yields_head (by rfl) _ rfl w3.heap.size h rfl OK.out (fun w hw => hw.2)) (by assumption) ?_
  try simp only [Act.put, List.setIfInBounds_toArray, List.set_cons_zero, List.set_cons_succ]
  refine wpAnyH_take (i := 8) (by simp only [List.getElem?_toArray, List.getElem?_cons_succ, List.getElem?_cons_zero]; first | done | rfl) (by kernel_rfl) (by kernel_rfl) (by kernel_rfl) (fun _ _ _ h => h) (yields_head (by rfl) _ rfl w1.heap.size h rfl OK.out (fun w hw => hw.1)) (by assumption) ?_
  try simp only [Act.put, List.setIfInBounds_toArray, List.set_cons_zero, List.set_cons_succ]
  refine wpAnyH_take (i := 9) (by simp only [List.getElem?_toArray, List.getElem?_cons_succ, List.getElem?_cons_zero]; first | done | rfl) (by kernel_rfl) (by kernel_rfl) (by kernel_rfl) (fun _ _ _ h => h) (yields_eql_head (by rfl) _ _ _ rfl h rfl rfl OK.out) (by assumption) ?_
  try simp only [Act.put, List.setIfInBounds_toArray, List.set_cons_zero, List.set_cons_succ]
  refine wpAnyH_take (i := 10) (v := ?_) (by simp only [List.getElem?_toArray, List.getElem?_cons_succ, List.getElem?_cons_zero]; first | done | rfl) (by kernel_rfl) (by kernel_rfl) (by kernel_rfl) (fun _ _ _ h => h) (Or.inl ⟨by rfl, ?hy⟩) (by assumption) ?_
  case hy => (intro w hSw; (try dsimp only at hSw); go_simp; all_goals with_reducible rfl)
  try simp only [Act.put, List.setIfInBounds_toArray, List.set_cons_zero, List.set_cons_succ]
  refine wpAnyH_take (i := 11) (v := ?_) (by simp only [List.getElem?_toArray, List.getElem?_cons_succ, List.getElem?_cons_zero]; first | done | rfl) (by kernel_rfl) (by kernel_rfl) (by kernel_rfl) (fun _ _ _ h => h) (Or.inl ⟨by rfl, ?hy⟩) (by assumption) ?_
  case hy => (intro w hSw; (try dsimp only at hSw); go_simp; all_goals with_reducible rfl)
  try simp only [Act.put, List.setIfInBounds_toArray, List.set_cons_zero, List.set_cons_succ]
  refine wpAnyH_take (i := 12) (v := ?_) (by simp only [List.getElem?_toArray, List.getElem?_cons_succ, List.getElem?_cons_zero]; first | done | rfl) (by kernel_rfl) (by kernel_rfl) (by kernel_rfl) (fun _ _ _ h => h) (Or.inl ⟨by rfl, ?hy⟩) (by assumption) ?_
  case hy => (intro w hSw; (try dsimp only at hSw); go_simp; all_goals with_reducible rfl)
  try simp only [Act.put, List.setIfInBounds_toArray, List.set_cons_zero, List.set_cons_succ]
  refine wpAnyH_take (i := 14) (by simp only [List.getElem?_toArray, List.getElem?_cons_succ, List.getElem?_cons_zero]; first | done | rfl) (by kernel_rfl) (by kernel_rfl) (by kernel_rfl) (fun _ _ _ h => h) (yields_head (by rfl) _ rfl w3.heap.size h rfl OK.out (fun w hw => hw.2)) (by assumption) ?_
  try simp only [Act.put, List.setIfInBounds_toArray, List.set_cons_zero, List.set_cons_succ]
  refine wpAnyH_ready (rs := [13]) (by kernel_rfl) (by simp) ?_
  refine AllReadyH.cons (by simp only [List.getElem?_toArray, List.getElem?_cons_succ, List.getElem?_cons_zero]; first | done | rfl) (fun K hK => ?_) ?_
  · go_simp
    go_at_call 17
    refine (rpublic_any a _ a0 (by omega)).mono ?_
    rintro e v2 ⟨rfl, n2, rfl⟩
    rw [← HP5.out]
    refine hK.out _ _ ?_ (fun hHeld => ?_)
    · (try dsimp only); (refine ⟨?_, ?_⟩ <;> repeat (first | exact HA1.out | exact HA4.out | apply HA.drew | apply HA.drewN | apply HA.alloc))
    clear hK K
    try simp only [Act.put, List.setIfInBounds_toArray, List.set_cons_zero, List.set_cons_succ]
    refine wpAnyH_ready (rs := [15]) (by kernel_rfl) (by simp) ?_
    refine AllReadyH.cons (by simp only [List.getElem?_toArray, List.getElem?_cons_succ, List.getElem?_cons_zero]; first | done | rfl) (fun K hK => ?_) ?_
    · go_simp
      go_at_call 18
      refine (checkh_any _ h _ p50 (by omega) OK.out).mono ?_
      rintro e v2 ⟨rfl, hb2⟩
      rw [HC5.out]
      have HA1' := Lib.hid (HA.below (by repeat (first | exact HA1.out | apply HA.drew | apply HA.drewN | apply HA.alloc)) hb2)
      have HA4' := Lib.hid (HA.below (by repeat (first | exact HA4.out | apply HA.drew | apply HA.drewN | apply HA.alloc)) hb2)
      have HB' := Lib.hid (bl_bl (by repeat (first | exact HB.out | apply bl_drew | apply bl_drewN | apply bl_alloc)) hb2)
      clear hb2
      have HA1 := HA1'
      have HA4 := HA4'
      have HB := HB'
      clear HA1' HA4' HB'
      refine hK.out _ _ ?_ (fun hHeld => ?_)
      · (try dsimp only); (refine ⟨?_, ?_⟩ <;> repeat (first | exact HA1.out | exact HA4.out | apply HA.drew | apply HA.drewN | apply HA.alloc))
      clear hK K
      try simp only [Act.put, List.setIfInBounds_toArray, List.set_cons_zero, List.set_cons_succ]
      refine wpAnyH_take (i := 16) (v := ?_) (by simp only [List.getElem?_toArray, List.getElem?_cons_succ, List.getElem?_cons_zero]; first | done | rfl) (by kernel_rfl) (by kernel_rfl) (by kernel_rfl) (fun _ _ _ h => h) (Or.inl ⟨by rfl, ?hy⟩) (by assumption) ?_
      case hy => (intro w hSw; (try dsimp only at hSw); go_simp; all_goals with_reducible rfl)
      try simp only [Act.put, List.setIfInBounds_toArray, List.set_cons_zero, List.set_cons_succ]
      refine wpAnyH_take (i := 17) (v := ?_) (by simp only [List.getElem?_toArray, List.getElem?_cons_succ, List.getElem?_cons_zero]; first | done | rfl) (by kernel_rfl) (by kernel_rfl) (by kernel_rfl) (fun _ _ _ h => h) (Or.inl ⟨by rfl, ?hy⟩) (by assumption) ?_
      case hy => (intro w hSw; (try dsimp only at hSw); go_simp; all_goals with_reducible rfl)
      try simp only [Act.put, List.setIfInBounds_toArray, List.set_cons_zero, List.set_cons_succ]
      refine wpAnyH_take (i := 18) (v := ?_) (by simp only [List.getElem?_toArray, List.getElem?_cons_succ, List.getElem?_cons_zero]; first | done | rfl) (by kernel_rfl) (by kernel_rfl) (by kernel_rfl) (fun _ _ _ h => h) (Or.inl ⟨by rfl, ?hy⟩) (by assumption) ?_
      case hy => (intro w hSw; (try dsimp only at hSw); go_simp; all_goals with_reducible rfl)
      try simp only [Act.put, List.setIfInBounds_toArray, List.set_cons_zero, List.set_cons_succ]
      refine wpAnyH_take (i := 19) (by simp only [List.getElem?_toArray, List.getElem?_cons_succ, List.getElem?_cons_zero]; first | done | rfl) (by kernel_rfl) (by kernel_rfl) (by kernel_rfl) (fun _ _ _ h => h) (yields_head (by rfl) _ rfl w1.heap.size h rfl OK.out (fun w hw => hw.1)) (by assumption) ?_
      try simp only [Act.put, List.setIfInBounds_toArray, List.set_cons_zero, List.set_cons_succ]
      refine wpAnyH_take (i := 21) (v := ?_) (by simp only [List.getElem?_toArray, List.getElem?_cons_succ, List.getElem?_cons_zero]; first | done | rfl) (by kernel_rfl) (by kernel_rfl) (by kernel_rfl) (fun _ _ _ h => h) (Or.inl ⟨by rfl, ?hy⟩) (by assumption) ?_
      case hy => (intro w hSw; (try dsimp only at hSw); go_simp; all_goals with_reducible rfl)
      try simp only [Act.put, List.setIfInBounds_toArray, List.set_cons_zero, List.set_cons_succ]
      refine wpAnyH_take (i := 22) (by simp only [List.getElem?_toArray, List.getElem?_cons_succ, List.getElem?_cons_zero]; first | done | rfl) (by kernel_rfl) (by kernel_rfl) (by kernel_rfl) (fun _ _ _ h => h) (yields_head (by rfl) _ rfl w1.heap.size h rfl OK.out (fun w hw => hw.1)) (by assumption) ?_
      try simp only [Act.put, List.setIfInBounds_toArray, List.set_cons_zero, List.set_cons_succ]
      refine wpAnyH_ready (rs := [20]) (by kernel_rfl) (by simp) ?_
      refine AllReadyH.cons (by simp only [List.getElem?_toArray, List.getElem?_cons_succ, List.getElem?_cons_zero]; first | done | rfl) (fun K hK => ?_) ?_
      · go_simp
        go_at_call 18
        refine (checkh_any _ h _ p60 (by omega) OK.out).mono ?_
        rintro e v2 ⟨rfl, hb2⟩
        rw [HC6.out]
        have HA1' := Lib.hid (HA.below (by repeat (first | exact HA1.out | apply HA.drew | apply HA.drewN | apply HA.alloc)) hb2)
        have HA4' := Lib.hid (HA.below (by repeat (first | exact HA4.out | apply HA.drew | apply HA.drewN | apply HA.alloc)) hb2)
        have HB' := Lib.hid (bl_bl (by repeat (first | exact HB.out | apply bl_drew | apply bl_drewN | apply bl_alloc)) hb2)
        clear hb2
        have HA1 := HA1'
        have HA4 := HA4'
        have HB := HB'
        clear HA1' HA4' HB'
        refine hK.out _ _ ?_ (fun hHeld => ?_)
        · (try dsimp only); (refine ⟨?_, ?_⟩ <;> repeat (first | exact HA1.out | exact HA4.out | apply HA.drew | apply HA.drewN | apply HA.alloc))
        clear hK K
        try simp only [Act.put, List.setIfInBounds_toArray, List.set_cons_zero, List.set_cons_succ]
        refine wpAnyH_ready (rs := [23]) (by kernel_rfl) (by simp) ?_
        refine AllReadyH.cons (by simp only [List.getElem?_toArray, List.getElem?_cons_succ, List.getElem?_cons_zero]; first | done | rfl) (fun K hK => ?_) ?_
        · go_simp
          go_at_call 19
          refine (rcheckh_any _ h _ p60 (by omega) OK.out).mono ?_
          rintro e v2 ⟨rfl, hb2⟩
          rw [HC6.out]
          have HA1' := Lib.hid (HA.below (by repeat (first | exact HA1.out | apply HA.drew | apply HA.drewN | apply HA.alloc)) hb2)
          have HA4' := Lib.hid (HA.below (by repeat (first | exact HA4.out | apply HA.drew | apply HA.drewN | apply HA.alloc)) hb2)
          have HB' := Lib.hid (bl_bl (by repeat (first | exact HB.out | apply bl_drew | apply bl_drewN | apply bl_alloc)) hb2)
          clear hb2
          have HA1 := HA1'
          have HA4 := HA4'
          have HB := HB'
          clear HA1' HA4' HB'
          refine hK.out _ _ ?_ (fun hHeld => ?_)
          · (try dsimp only); (refine ⟨?_, ?_⟩ <;> repeat (first | exact HA1.out | exact HA4.out | apply HA.drew | apply HA.drewN | apply HA.alloc))
          clear hK K
          try simp only [Act.put, List.setIfInBounds_toArray, List.set_cons_zero, List.set_cons_succ]
          refine wpAnyH_take (i := 24) (v := ?_) (by simp only [List.getElem?_toArray, List.getElem?_cons_succ, List.getElem?_cons_zero]; first | done | rfl) (by kernel_rfl) (by kernel_rfl) (by kernel_rfl) (fun _ _ _ h => h) (Or.inl ⟨by rfl, ?hy⟩) (by assumption) ?_
          case hy => (intro w hSw; (try dsimp only at hSw); go_simp; all_goals with_reducible rfl)
          try simp only [Act.put, List.setIfInBounds_toArray, List.set_cons_zero, List.set_cons_succ]
          refine wpAnyH_take (i := 25) (v := ?_) (by simp only [List.getElem?_toArray, List.getElem?_cons_succ, List.getElem?_cons_zero]; first | done | rfl) (by kernel_rfl) (by kernel_rfl) (by kernel_rfl) (fun _ _ _ h => h) (Or.inl ⟨by rfl, ?hy⟩) (by assumption) ?_
          case hy => (intro w hSw; (try dsimp only at hSw); go_simp; all_goals with_reducible rfl)
          try simp only [Act.put, List.setIfInBounds_toArray, List.set_cons_zero, List.set_cons_succ]
          refine wpAnyH_take (i := 26) (v := ?_) (by simp only [List.getElem?_toArray, List.getElem?_cons_succ, List.getElem?_cons_zero]; first | done | rfl) (by kernel_rfl) (by kernel_rfl) (by kernel_rfl) (fun _ _ _ h => h) (Or.inl ⟨by rfl, ?hy⟩) (by assumption) ?_
          case hy => (intro w hSw; (try dsimp only at hSw); go_simp; all_goals with_reducible rfl)
          try simp only [Act.put, List.setIfInBounds_toArray, List.set_cons_zero, List.set_cons_succ]
          refine wpAnyH_done (by kernel_rfl) ?_ _
          refine NoPanic.normal ?_
          go_wp2_with fail
          go_ret
          exact ⟨by simp, HB.out⟩
        exact AllReadyH.nil
      exact AllReadyH.nil
    exact AllReadyH.nil
  exact AllReadyH.nil
end Go.Proofs.Yteapoemockimfaa
