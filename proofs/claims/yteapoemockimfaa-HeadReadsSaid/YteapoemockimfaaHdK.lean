/-
  Heads: known of the laws of heads.
-/
import Derived.Test.YteapoemockimfaaHdD
import Derived.Test.YteapoemockimfaaHdE
import Derived.Test.YteapoemockimfaaPub
namespace Go.Proofs.Yteapoemockimfaa
set_option linter.unusedVariables false
set_option linter.unusedSimpArgs false
open Go.RowKit

def hK : Hd := ⟨1, 3, 2, zeros32, zeros32, 0, 0⟩
theorem hK_ok : hK.ok := by
  refine ⟨?_, ?_, ?_, rfl, rfl, ?_, ?_⟩ <;> simp only [isI64, isU64, hK] <;> omega
theorem fpf (a n v : Nat) (hn : n < 2 ^ 64) (h : Ferm.fast 2305843009213693951 64 a n 1 % 2305843009213693951 = v) : fpow a n 2305843009213693951 = v := by
  rw [fpow_fast a n 2305843009213693951 2305843009213693951 rfl hn, h]
theorem kk : signK 5 (msgF hK) = 2256388873466879314 := by decide +kernel
theorem kr : sigR 5 (msgF hK) = 2252218261899658469 := by
  unfold sigR; rw [kk]
  exact fpf 7 2256388873466879314 2252218261899658469 (by decide) (by decide +kernel)
theorem kp5 : pubF 5 = 16807 := by decide +kernel
theorem kp6 : pubF 6 = 117649 := by decide +kernel
theorem ke5 : chalF 2252218261899658469 16807 (msgF hK) = 1462272069247183120 := by decide +kernel
theorem ke6 : chalF 2252218261899658469 117649 (msgF hK) = 2261443362600740819 := by decide +kernel
theorem ks : sigS 5 (msgF hK) = 344377182848019114 := by
  unfold sigS sigE; rw [kk, kr, kp5, ke5]; decide +kernel
theorem kc6 : checkF (pubF 6) (msgF hK) (sigR 5 (msgF hK)) (sigS 5 (msgF hK)) = false := by
  have h1 : fpow 7 344377182848019114 2305843009213693951 = 1505424515242483122 := fpf 7 344377182848019114 1505424515242483122 (by decide) (by decide +kernel)
  have h2 : fpow 117649 2261443362600740819 2305843009213693951 = 404980096365582192 := fpf 117649 2261443362600740819 404980096365582192 (by decide) (by decide +kernel)
  unfold checkF sameF
  rw [kp6, kr, ks, ke6, h1, h2]
  decide +kernel
theorem checkH_sign (x y : Int) (h : Hd) : checkH y (signH x h) = (rightF h && checkF y (msgF h) (sigR (x % 2305843009213693950) (msgF h)) (sigS (x % 2305843009213693950) (msgF h))) := rfl
theorem right_sign (x : Int) (h : Hd) : rightF (signH x h) = rightF h := rfl
theorem hk_r : rightF hK = true := by decide +kernel
theorem hk_right : rightF (signH 5 hK) = true := by rw [right_sign, hk_r]
theorem five_mod : (5 : Int) % 2305843009213693950 = 5 := by omega
theorem hk5 : checkH (pubF 5) (signH 5 hK) = true := by
  rw [checkH_sign, hk_r, five_mod, check_own 5 (msgF hK) (by omega) (by omega)]
  rfl
theorem hk6 : checkH (pubF 6) (signH 5 hK) = false := by
  rw [checkH_sign, hk_r, five_mod, kc6]
  rfl
attribute [local irreducible] checkF msgF num8 checkH readH putH rightF pubF

set_option maxRecDepth 100000 in
set_option maxHeartbeats 3200000 in
theorem known_any (w : World) :
    Calls Try.prog 6 #[] w fun e w' => e = .returned (.bool true) ∧ Below w.heap.size w w' := by
  have hr := hk_right
  have ok := signH_ok 5 hK hK_ok
  have HK0 := Lib.hid (signh_any 5 hK)
  have hc5 := hk5
  have hc6 := hk6
  obtain ⟨p50, p51⟩ := pubF_bd 5
  obtain ⟨p60, p61⟩ := pubF_bd 6
  obtain ⟨p5, hp5⟩ : ∃ p, p = pubF 5 := ⟨_, rfl⟩
  obtain ⟨p6, hp6⟩ : ∃ p, p = pubF 6 := ⟨_, rfl⟩
  rw [← hp5] at hc5 p50 p51
  rw [← hp6] at hc6 p60 p61
  have HP5 := Lib.hid hp5
  have HP6 := Lib.hid hp6
  have HC5 := Lib.hid hc5
  have HC6 := Lib.hid hc6
  clear hp5 hp6 hc5 hc6
  have HRP := Lib.hid (read_put _ ok hr)
  have HLN := Lib.hid (putH_length _ ok)
  have HPE := Lib.hid (show putErr (signH 5 hK) = 0 by unfold putErr; rw [hr]; rfl)
  have HPO := Lib.hid (show putOut (signH 5 hK) = putH (signH 5 hK) by unfold putOut; rw [hr]; rfl)
  have OK := Lib.hid ok
  clear hr ok
  generalize signH 5 hK = h at *
  go_enter Try.func6, Try.ntmps6
  go_wp2_with (refine wpList_built rfl 28 #[(0, .const (.int .i64 1)), (1, .const (.int .i64 3)), (2, .const (.int .i64 2))] rfl [(0, .int .i64 1), (1, .int .i64 3), (2, .int .i64 2)] (by simp only [List.map_toArray, List.map_cons, List.map_nil]; rfl) hK.cells.toArray (built_head3 1 3 2) ?_)
  refine (HK0.out _ (by omega) (by omega) hK_ok).mono ?_
  rintro e w1 ⟨rfl, hb1⟩
  have HB1 := Lib.hid hb1
  clear hb1
  go_upto_region 2 with (refine wpList_store_row rfl 28 (.tmp 1) (.tmp 9) rfl w1.heap.size h.cells.toArray rfl rfl 28 _ (heap_alloc_new _ _) (head_size _ OK.out) (by rw [zero_cells, List.size_toArray, List.size_toArray, Hd.cells_length h OK.out, Hd.cells_length zeroH zeroH_ok]) (all_oneCell_toArray h.cells_one) ?_)
  refine wp_world (fun Y => HA w1.heap.size h Y ∧ Below w.heap.size w Y) ⟨⟨setRow_heap _ _ _ _ _ _ (heap_alloc_new _ _)⟩, bl_bl HB1.out (below_fresh _ _ _)⟩ ?_
  rintro Y ⟨h1, h2⟩
  have HA1 := Lib.hid h1
  have HB := Lib.hid h2
  clear h1 h2
  refine wp_region_lit ?_
  refine wpList_load_row rfl 28 (.tmp 1) rfl w1.heap.size rfl 28 _ (0, 0) _ HA1.out.row Try.underlying28 rfl (head_size _ OK.out) ?_
  go_wp2_with fail
  refine (puth_any h _ OK.out).mono ?_
  rintro e w2 ⟨v, rfl, hu, hb2⟩
  rw [HPO.out] at hu
  rw [HPE.out]
  obtain ⟨pa, pc, rfl⟩ := hu.shape
  rw [HLN.out] at hu ⊢
  have HU := Lib.hid hu
  have HA2 := Lib.hid (HA1.out.below hb2)
  have HB2 := Lib.hid (bl_bl HB.out hb2)
  clear hu hb2
  go_wp2_with fail
  refine (readh_any _ (putH h) _ HU.out (by rw [HLN.out]; decide)).mono ?_
  rintro e w3 ⟨rfl, hb3⟩
  rw [HRP.out]
  have HA3 := Lib.hid (HA2.out.below hb3)
  have HB3 := Lib.hid (bl_bl HB2.out hb3)
  clear hb3
  go_upto_region 4 with (refine wpList_store_row rfl 28 (.tmp 4) (.tmp 18) rfl w3.heap.size h.cells.toArray rfl rfl 28 _ (heap_alloc_new _ _) (head_size _ OK.out) (by rw [zero_cells, List.size_toArray, List.size_toArray, Hd.cells_length h OK.out, Hd.cells_length zeroH zeroH_ok]) (all_oneCell_toArray h.cells_one) ?_)
  refine wp_world (fun Y => HA w1.heap.size h Y ∧ HA w3.heap.size h Y ∧ Below w.heap.size w Y) ⟨HA3.out.below (below_fresh _ _ _), ⟨setRow_heap _ _ _ _ _ _ (heap_alloc_new _ _)⟩, bl_bl HB3.out (below_fresh _ _ _)⟩ ?_
  rintro Z ⟨h1, h4, h2⟩
  clear HA1 HB
  have HA1 := Lib.hid h1
  have HA4 := Lib.hid h4
  have HB := Lib.hid h2
  clear h1 h2 h4
  refine wp_region_lit ?_
  refine wpList_built rfl 28 #[] rfl [] (by simp) zeroH.cells.toArray built_head0 ?_
  go_wp2_with fail
  refine (puth_any zeroH _ zeroH_ok).mono ?_
  rintro e w4 ⟨v, rfl, hu, hb4⟩
  rw [show putErr zeroH = 23 by decide +kernel]
  have HA1' := Lib.hid (HA1.out.below hb4)
  have HA4' := Lib.hid (HA4.out.below hb4)
  have HB' := Lib.hid (bl_bl HB.out hb4)
  clear HA1 HA4 HB hb4 hu
  have HA1 := HA1'
  have HA4 := HA4'
  have HB := HB'
  clear HA1' HA4' HB'
  go_upto_region 5 with fail
  refine wp_region_noPanic ?_
  refine wp_region_held_drew (S := (fun w' => HA w1.heap.size h w' ∧ HA w3.heap.size h w')) (by kernel_rfl) ?_ (fun hHeld => ?_)
  · (try dsimp only); (refine ⟨?_, ?_⟩ <;> repeat (first | exact HA1.out | exact HA4.out | apply HA.drew | apply HA.drewN | apply HA.alloc))
  refine wpAnyH_take (i := 0) (v := ?_) (by simp only [List.getElem?_toArray, List.getElem?_cons_succ, List.getElem?_cons_zero]; first | done | rfl) (by kernel_rfl) (by kernel_rfl) (by kernel_rfl) (fun _ _ _ h => h) (Or.inl ⟨by rfl, ?hy⟩) (by assumption) ?_
  case hy => (intro w hSw; (try dsimp only at hSw); go_simp; all_goals with_reducible rfl)
  try simp only [Act.put, List.setIfInBounds_toArray, List.set_cons_zero, List.set_cons_succ]
  refine wpAnyH_take (i := 1) (v := ?_) (by simp only [List.getElem?_toArray, List.getElem?_cons_succ, List.getElem?_cons_zero]; first | done | rfl) (by kernel_rfl) (by kernel_rfl) (by kernel_rfl) (fun _ _ _ h => h) (Or.inl ⟨by rfl, ?hy⟩) (by assumption) ?_
  case hy => (intro w hSw; (try dsimp only at hSw); go_simp; all_goals with_reducible rfl)
  try simp only [Act.put, List.setIfInBounds_toArray, List.set_cons_zero, List.set_cons_succ]
  refine wpAnyH_take (i := 2) (v := ?_) (by simp only [List.getElem?_toArray, List.getElem?_cons_succ, List.getElem?_cons_zero]; first | done | rfl) (by kernel_rfl) (by kernel_rfl) (by kernel_rfl) (fun _ _ _ h => h) (Or.inl ⟨by rfl, ?hy⟩) (by assumption) ?_
  case hy => (intro w hSw; (try dsimp only at hSw); go_simp; all_goals with_reducible rfl)
  try simp only [Act.put, List.setIfInBounds_toArray, List.set_cons_zero, List.set_cons_succ]
  refine wpAnyH_take (i := 3) (v := ?_) (by simp only [List.getElem?_toArray, List.getElem?_cons_succ, List.getElem?_cons_zero]; first | done | rfl) (by kernel_rfl) (by kernel_rfl) (by kernel_rfl) (fun _ _ _ h => h) (Or.inl ⟨by rfl, ?hy⟩) (by assumption) ?_
  case hy => (intro w hSw; (try dsimp only at hSw); go_simp; all_goals with_reducible rfl)
  try simp only [Act.put, List.setIfInBounds_toArray, List.set_cons_zero, List.set_cons_succ]
  refine wpAnyH_take (i := 4) (v := ?_) (by simp only [List.getElem?_toArray, List.getElem?_cons_succ, List.getElem?_cons_zero]; first | done | rfl) (by kernel_rfl) (by kernel_rfl) (by kernel_rfl) (fun _ _ _ h => h) (Or.inl ⟨by rfl, ?hy⟩) (by assumption) ?_
  case hy => (intro w hSw; (try dsimp only at hSw); go_simp; all_goals with_reducible rfl)
  try simp only [Act.put, List.setIfInBounds_toArray, List.set_cons_zero, List.set_cons_succ]
  refine wpAnyH_take (i := 5) (v := ?_) (by simp only [List.getElem?_toArray, List.getElem?_cons_succ, List.getElem?_cons_zero]; first | done | rfl) (by kernel_rfl) (by kernel_rfl) (by kernel_rfl) (fun _ _ _ h => h) (Or.inl ⟨by rfl, ?hy⟩) (by assumption) ?_
  case hy => (intro w hSw; (try dsimp only at hSw); go_simp; all_goals with_reducible rfl)
  try simp only [Act.put, List.setIfInBounds_toArray, List.set_cons_zero, List.set_cons_succ]
  refine wpAnyH_take (i := 6) (v := ?_) (by simp only [List.getElem?_toArray, List.getElem?_cons_succ, List.getElem?_cons_zero]; first | done | rfl) (by kernel_rfl) (by kernel_rfl) (by kernel_rfl) (fun _ _ _ h => h) (Or.inl ⟨by rfl, ?hy⟩) (by assumption) ?_
  case hy => (intro w hSw; (try dsimp only at hSw); go_simp; all_goals with_reducible rfl)
  try simp only [Act.put, List.setIfInBounds_toArray, List.set_cons_zero, List.set_cons_succ]
  refine wpAnyH_take (i := 7) (by simp only [List.getElem?_toArray, List.getElem?_cons_succ, List.getElem?_cons_zero]; first | done | rfl) (by kernel_rfl) (by kernel_rfl) (by kernel_rfl) (fun _ _ _ h => h) (yields_head (by rfl) _ rfl w3.heap.size h rfl OK.out (fun w hw => hw.2)) (by assumption) ?_
  try simp only [Act.put, List.setIfInBounds_toArray, List.set_cons_zero, List.set_cons_succ]
  refine wpAnyH_take (i := 8) (by simp only [List.getElem?_toArray, List.getElem?_cons_succ, List.getElem?_cons_zero]; first | done | rfl) (by kernel_rfl) (by kernel_rfl) (by kernel_rfl) (fun _ _ _ h => h) (yields_head (by rfl) _ rfl w1.heap.size h rfl OK.out (fun w hw => hw.1)) (by assumption) ?_
  try simp only [Act.put, List.setIfInBounds_toArray, List.set_cons_zero, List.set_cons_succ]
  refine wpAnyH_take (i := 9) (by simp only [List.getElem?_toArray, List.getElem?_cons_succ, List.getElem?_cons_zero]; first | done | rfl) (by kernel_rfl) (by kernel_rfl) (by kernel_rfl) (fun _ _ _ h => h) (yields_eql_head (by rfl) _ _ _ rfl h rfl rfl OK.out) (by assumption) ?_
  try simp only [Act.put, List.setIfInBounds_toArray, List.set_cons_zero, List.set_cons_succ]
  refine wpAnyH_take (i := 10) (v := ?_) (by simp only [List.getElem?_toArray, List.getElem?_cons_succ, List.getElem?_cons_zero]; first | done | rfl) (by kernel_rfl) (by kernel_rfl) (by kernel_rfl) (fun _ _ _ h => h) (Or.inl ⟨by rfl, ?hy⟩) (by assumption) ?_
  case hy => (intro w hSw; (try dsimp only at hSw); go_simp; all_goals with_reducible rfl)
  try simp only [Act.put, List.setIfInBounds_toArray, List.set_cons_zero, List.set_cons_succ]
  refine wpAnyH_take (i := 11) (v := ?_) (by simp only [List.getElem?_toArray, List.getElem?_cons_succ, List.getElem?_cons_zero]; first | done | rfl) (by kernel_rfl) (by kernel_rfl) (by kernel_rfl) (fun _ _ _ h => h) (Or.inl ⟨by rfl, ?hy⟩) (by assumption) ?_
  case hy => (intro w hSw; (try dsimp only at hSw); go_simp; all_goals with_reducible rfl)
  try simp only [Act.put, List.setIfInBounds_toArray, List.set_cons_zero, List.set_cons_succ]
  refine wpAnyH_take (i := 12) (v := ?_) (by simp only [List.getElem?_toArray, List.getElem?_cons_succ, List.getElem?_cons_zero]; first | done | rfl) (by kernel_rfl) (by kernel_rfl) (by kernel_rfl) (fun _ _ _ h => h) (Or.inl ⟨by rfl, ?hy⟩) (by assumption) ?_
  case hy => (intro w hSw; (try dsimp only at hSw); go_simp; all_goals with_reducible rfl)
  try simp only [Act.put, List.setIfInBounds_toArray, List.set_cons_zero, List.set_cons_succ]
  refine wpAnyH_take (i := 13) (v := ?_) (by simp only [List.getElem?_toArray, List.getElem?_cons_succ, List.getElem?_cons_zero]; first | done | rfl) (by kernel_rfl) (by kernel_rfl) (by kernel_rfl) (fun _ _ _ h => h) (Or.inl ⟨by rfl, ?hy⟩) (by assumption) ?_
  case hy => (intro w hSw; (try dsimp only at hSw); go_simp; all_goals with_reducible rfl)
  try simp only [Act.put, List.setIfInBounds_toArray, List.set_cons_zero, List.set_cons_succ]
  refine wpAnyH_take (i := 14) (v := ?_) (by simp only [List.getElem?_toArray, List.getElem?_cons_succ, List.getElem?_cons_zero]; first | done | rfl) (by kernel_rfl) (by kernel_rfl) (by kernel_rfl) (fun _ _ _ h => h) (Or.inl ⟨by rfl, ?hy⟩) (by assumption) ?_
  case hy => (intro w hSw; (try dsimp only at hSw); go_simp; all_goals with_reducible rfl)
  try simp only [Act.put, List.setIfInBounds_toArray, List.set_cons_zero, List.set_cons_succ]
  refine wpAnyH_take (i := 15) (v := ?_) (by simp only [List.getElem?_toArray, List.getElem?_cons_succ, List.getElem?_cons_zero]; first | done | rfl) (by kernel_rfl) (by kernel_rfl) (by kernel_rfl) (fun _ _ _ h => h) (Or.inl ⟨by rfl, ?hy⟩) (by assumption) ?_
  case hy => (intro w hSw; (try dsimp only at hSw); go_simp; all_goals with_reducible rfl)
  try simp only [Act.put, List.setIfInBounds_toArray, List.set_cons_zero, List.set_cons_succ]
  refine wpAnyH_take (i := 16) (v := ?_) (by simp only [List.getElem?_toArray, List.getElem?_cons_succ, List.getElem?_cons_zero]; first | done | rfl) (by kernel_rfl) (by kernel_rfl) (by kernel_rfl) (fun _ _ _ h => h) (Or.inl ⟨by rfl, ?hy⟩) (by assumption) ?_
  case hy => (intro w hSw; (try dsimp only at hSw); go_simp; all_goals with_reducible rfl)
  try simp only [Act.put, List.setIfInBounds_toArray, List.set_cons_zero, List.set_cons_succ]
  refine wpAnyH_take (i := 18) (by simp only [List.getElem?_toArray, List.getElem?_cons_succ, List.getElem?_cons_zero]; first | done | rfl) (by kernel_rfl) (by kernel_rfl) (by kernel_rfl) (fun _ _ _ h => h) (yields_head (by rfl) _ rfl w1.heap.size h rfl OK.out (fun w hw => hw.1)) (by assumption) ?_
  try simp only [Act.put, List.setIfInBounds_toArray, List.set_cons_zero, List.set_cons_succ]
  refine wpAnyH_ready (rs := [17]) (by kernel_rfl) (by simp) ?_
  refine AllReadyH.cons (by simp only [List.getElem?_toArray, List.getElem?_cons_succ, List.getElem?_cons_zero]; first | done | rfl) (fun K hK => ?_) ?_
  · go_simp
    go_at_call 17
    refine (rpublic_any 5 _ (by omega) (by omega)).mono ?_
    rintro e v2 ⟨rfl, n2, rfl⟩
    rw [← HP5.out]
    refine hK.out _ _ ?_ (fun hHeld => ?_)
    · (try dsimp only); (refine ⟨?_, ?_⟩ <;> repeat (first | exact HA1.out | exact HA4.out | apply HA.drew | apply HA.drewN | apply HA.alloc))
    clear hK K
    try simp only [Act.put, List.setIfInBounds_toArray, List.set_cons_zero, List.set_cons_succ]
    refine wpAnyH_ready (rs := [19]) (by kernel_rfl) (by simp) ?_
    refine AllReadyH.cons (by simp only [List.getElem?_toArray, List.getElem?_cons_succ, List.getElem?_cons_zero]; first | done | rfl) (fun K hK => ?_) ?_
    · go_simp
      go_at_call 18
      refine (checkh_any _ h _ p50 (by omega) OK.out).mono ?_
      rintro e v2 ⟨rfl, hb2⟩
      rw [HC5.out]
      have HA1' := Lib.hid (HA.below (by repeat (first | exact HA1.out | apply HA.drew | apply HA.drewN | apply HA.alloc)) hb2)
      have HA4' := Lib.hid (HA.below (by repeat (first | exact HA4.out | apply HA.drew | apply HA.drewN | apply HA.alloc)) hb2)
      have HB' := Lib.hid (bl_bl (by repeat (first | exact HB.out | apply bl_drew | apply bl_drewN | apply bl_alloc)) hb2)
      clear hb2
      have HA1 := HA1'
      have HA4 := HA4'
      have HB := HB'
      clear HA1' HA4' HB'
      refine hK.out _ _ ?_ (fun hHeld => ?_)
      · (try dsimp only); (refine ⟨?_, ?_⟩ <;> repeat (first | exact HA1.out | exact HA4.out | apply HA.drew | apply HA.drewN | apply HA.alloc))
      clear hK K
      try simp only [Act.put, List.setIfInBounds_toArray, List.set_cons_zero, List.set_cons_succ]
      refine wpAnyH_take (i := 20) (v := ?_) (by simp only [List.getElem?_toArray, List.getElem?_cons_succ, List.getElem?_cons_zero]; first | done | rfl) (by kernel_rfl) (by kernel_rfl) (by kernel_rfl) (fun _ _ _ h => h) (Or.inl ⟨by rfl, ?hy⟩) (by assumption) ?_
      case hy => (intro w hSw; (try dsimp only at hSw); go_simp; all_goals with_reducible rfl)
      try simp only [Act.put, List.setIfInBounds_toArray, List.set_cons_zero, List.set_cons_succ]
      refine wpAnyH_take (i := 21) (v := ?_) (by simp only [List.getElem?_toArray, List.getElem?_cons_succ, List.getElem?_cons_zero]; first | done | rfl) (by kernel_rfl) (by kernel_rfl) (by kernel_rfl) (fun _ _ _ h => h) (Or.inl ⟨by rfl, ?hy⟩) (by assumption) ?_
      case hy => (intro w hSw; (try dsimp only at hSw); go_simp; all_goals with_reducible rfl)
      try simp only [Act.put, List.setIfInBounds_toArray, List.set_cons_zero, List.set_cons_succ]
      refine wpAnyH_take (i := 23) (by simp only [List.getElem?_toArray, List.getElem?_cons_succ, List.getElem?_cons_zero]; first | done | rfl) (by kernel_rfl) (by kernel_rfl) (by kernel_rfl) (fun _ _ _ h => h) (yields_head (by rfl) _ rfl w1.heap.size h rfl OK.out (fun w hw => hw.1)) (by assumption) ?_
      try simp only [Act.put, List.setIfInBounds_toArray, List.set_cons_zero, List.set_cons_succ]
      refine wpAnyH_ready (rs := [22]) (by kernel_rfl) (by simp) ?_
      refine AllReadyH.cons (by simp only [List.getElem?_toArray, List.getElem?_cons_succ, List.getElem?_cons_zero]; first | done | rfl) (fun K hK => ?_) ?_
      · go_simp
        go_at_call 17
        refine (rpublic_any 6 _ (by omega) (by omega)).mono ?_
        rintro e v2 ⟨rfl, n2, rfl⟩
        rw [← HP6.out]
        refine hK.out _ _ ?_ (fun hHeld => ?_)
        · (try dsimp only); (refine ⟨?_, ?_⟩ <;> repeat (first | exact HA1.out | exact HA4.out | apply HA.drew | apply HA.drewN | apply HA.alloc))
        clear hK K
        try simp only [Act.put, List.setIfInBounds_toArray, List.set_cons_zero, List.set_cons_succ]
        refine wpAnyH_ready (rs := [24]) (by kernel_rfl) (by simp) ?_
        refine AllReadyH.cons (by simp only [List.getElem?_toArray, List.getElem?_cons_succ, List.getElem?_cons_zero]; first | done | rfl) (fun K hK => ?_) ?_
        · go_simp
          go_at_call 18
          refine (checkh_any _ h _ p60 (by omega) OK.out).mono ?_
          rintro e v2 ⟨rfl, hb2⟩
          rw [HC6.out]
          have HA1' := Lib.hid (HA.below (by repeat (first | exact HA1.out | apply HA.drew | apply HA.drewN | apply HA.alloc)) hb2)
          have HA4' := Lib.hid (HA.below (by repeat (first | exact HA4.out | apply HA.drew | apply HA.drewN | apply HA.alloc)) hb2)
          have HB' := Lib.hid (bl_bl (by repeat (first | exact HB.out | apply bl_drew | apply bl_drewN | apply bl_alloc)) hb2)
          clear hb2
          have HA1 := HA1'
          have HA4 := HA4'
          have HB := HB'
          clear HA1' HA4' HB'
          refine hK.out _ _ ?_ (fun hHeld => ?_)
          · (try dsimp only); (refine ⟨?_, ?_⟩ <;> repeat (first | exact HA1.out | exact HA4.out | apply HA.drew | apply HA.drewN | apply HA.alloc))
          clear hK K
          try simp only [Act.put, List.setIfInBounds_toArray, List.set_cons_zero, List.set_cons_succ]
          refine wpAnyH_take (i := 25) (v := ?_) (by simp only [List.getElem?_toArray, List.getElem?_cons_succ, List.getElem?_cons_zero]; first | done | rfl) (by kernel_rfl) (by kernel_rfl) (by kernel_rfl) (fun _ _ _ h => h) (Or.inl ⟨by rfl, ?hy⟩) (by assumption) ?_
          case hy => (intro w hSw; (try dsimp only at hSw); go_simp; all_goals with_reducible rfl)
          try simp only [Act.put, List.setIfInBounds_toArray, List.set_cons_zero, List.set_cons_succ]
          refine wpAnyH_take (i := 26) (v := ?_) (by simp only [List.getElem?_toArray, List.getElem?_cons_succ, List.getElem?_cons_zero]; first | done | rfl) (by kernel_rfl) (by kernel_rfl) (by kernel_rfl) (fun _ _ _ h => h) (Or.inl ⟨by rfl, ?hy⟩) (by assumption) ?_
          case hy => (intro w hSw; (try dsimp only at hSw); go_simp; all_goals with_reducible rfl)
          try simp only [Act.put, List.setIfInBounds_toArray, List.set_cons_zero, List.set_cons_succ]
          refine wpAnyH_take (i := 27) (v := ?_) (by simp only [List.getElem?_toArray, List.getElem?_cons_succ, List.getElem?_cons_zero]; first | done | rfl) (by kernel_rfl) (by kernel_rfl) (by kernel_rfl) (fun _ _ _ h => h) (Or.inl ⟨by rfl, ?hy⟩) (by assumption) ?_
          case hy => (intro w hSw; (try dsimp only at hSw); go_simp; all_goals with_reducible rfl)
          try simp only [Act.put, List.setIfInBounds_toArray, List.set_cons_zero, List.set_cons_succ]
          refine wpAnyH_take (i := 28) (v := ?_) (by simp only [List.getElem?_toArray, List.getElem?_cons_succ, List.getElem?_cons_zero]; first | done | rfl) (by kernel_rfl) (by kernel_rfl) (by kernel_rfl) (fun _ _ _ h => h) (Or.inl ⟨by rfl, ?hy⟩) (by assumption) ?_
          case hy => (intro w hSw; (try dsimp only at hSw); go_simp; all_goals with_reducible rfl)
          try simp only [Act.put, List.setIfInBounds_toArray, List.set_cons_zero, List.set_cons_succ]
          refine wpAnyH_take (i := 29) (v := ?_) (by simp only [List.getElem?_toArray, List.getElem?_cons_succ, List.getElem?_cons_zero]; first | done | rfl) (by kernel_rfl) (by kernel_rfl) (by kernel_rfl) (fun _ _ _ h => h) (Or.inl ⟨by rfl, ?hy⟩) (by assumption) ?_
          case hy => (intro w hSw; (try dsimp only at hSw); go_simp; all_goals with_reducible rfl)
          try simp only [Act.put, List.setIfInBounds_toArray, List.set_cons_zero, List.set_cons_succ]
          refine wpAnyH_take (i := 30) (v := ?_) (by simp only [List.getElem?_toArray, List.getElem?_cons_succ, List.getElem?_cons_zero]; first | done | rfl) (by kernel_rfl) (by kernel_rfl) (by kernel_rfl) (fun _ _ _ h => h) (Or.inl ⟨by rfl, ?hy⟩) (by assumption) ?_
          case hy => (intro w hSw; (try dsimp only at hSw); go_simp; all_goals with_reducible rfl)
          try simp only [Act.put, List.setIfInBounds_toArray, List.set_cons_zero, List.set_cons_succ]
          refine wpAnyH_take (i := 31) (v := ?_) (by simp only [List.getElem?_toArray, List.getElem?_cons_succ, List.getElem?_cons_zero]; first | done | rfl) (by kernel_rfl) (by kernel_rfl) (by kernel_rfl) (fun _ _ _ h => h) (Or.inl ⟨by rfl, ?hy⟩) (by assumption) ?_
          case hy => (intro w hSw; (try dsimp only at hSw); go_simp; all_goals with_reducible rfl)
          try simp only [Act.put, List.setIfInBounds_toArray, List.set_cons_zero, List.set_cons_succ]
          refine wpAnyH_done (by kernel_rfl) ?_ _
          refine NoPanic.normal ?_
          go_wp2_with fail
          go_ret
          exact ⟨rfl, HB.out⟩
        exact AllReadyH.nil
      exact AllReadyH.nil
    exact AllReadyH.nil
  exact AllReadyH.nil
end Go.Proofs.Yteapoemockimfaa
