/-
  PromiseClock: for every input the law returns true.
-/
import Derived.Test.YtbhkcgnlegmjlaaPrN
namespace Go.Proofs.Ytbhkcgnlegmjlaa
set_option linter.unusedVariables false
set_option linter.unusedSimpArgs false
open Go.RowKit

theorem yields_ent_pr {ops : Array Oper} {S : World → Prop} {op : Oper} {a : Act} (hw : Region.wanted op (yielded ops a.tmps) = true) (x : Operand) (ho : op.op = .load 27 x) (g : Nat) (p : Pr) (n : List UInt8) (v k : Int)
    (hx : a.eval x = .pointer (some ⟨g, 0, none⟩)) (hS : ∀ w, S w → PA g p w) (he : entCells p.nm p.ver p.key = entCells n v k) : YieldsIf Try.prog ops S op (entV n v k) a :=
  yieldsIf_load_mid hw 27 x ho g 0 hx (entCells n v k) _ (fun w hw' => by rw [← he]; exact (hS w hw').entry) Try.underlying27 rfl (by rw [ent_size n v k, List.size_toArray])
theorem seatK_one (k : Int) (h0 : 0 ≤ k) (h1 : k < 256) : seatK k 1 = 1001 + k := by
  unfold seatK u64
  omega
theorem rightE_seat (k : Int) (h0 : 0 ≤ k) (h1 : k < 256) : rightE (nameL k) 1 (seatK k 1) = true := by
  obtain ⟨n0, n1⟩ := nameL_len k
  rw [seatK_one k h0 h1]
  unfold rightE
  rw [decide_eq_true n0, decide_eq_true n1, decide_eq_true (show (1 : Int) ≤ 1001 + k by omega), decide_eq_true (show 1001 + k < 2305843009213693951 by omega)]
  rfl
theorem clock_err (n : List UInt8) (v k d : Int) (hr : rightE n v k = true) (h0 : -128 ≤ d) (h1 : d ≤ 127) :
    makeErr n v k (1152921504606846936 + d) = if 40 < d then 23 else if 0 < d then 31 else 0 := by
  unfold makeErr
  rw [hr, decide_eq_false (show ¬ (1152921504606846936 + d < 0) by omega)]
  by_cases h : 40 < d
  · rw [decide_eq_true (show 1152921504606846976 < 1152921504606846936 + d by omega), if_pos h]
    rfl
  · rw [decide_eq_false (show ¬ (1152921504606846976 < 1152921504606846936 + d) by omega), if_neg h]
    by_cases h2 : 0 < d
    · rw [if_pos h2, if_neg (by decide), if_pos (by omega)]
    · rw [if_neg h2, if_neg (by decide), if_neg (by omega)]
theorem signP_names (x : Int) (p : Pr) : entCells (signP x p).nm (signP x p).ver (signP x p).key = entCells p.nm p.ver p.key ∧ (signP x p).tk = p.tk ∧ (signP x p).dl = p.dl := ⟨rfl, rfl, rfl⟩
attribute [local irreducible] checkF checkP readP bytesP rightP sigR sigS signP pubF makeP makeErr seatK nameL

set_option maxRecDepth 100000 in
set_option maxHeartbeats 32000000 in
theorem promiseClock_walk (k d x : Int) (w : World) (w0 : (Lit.int .u8 k).wf = true) (w1 : (Lit.int .i8 d).wf = true) (w2 : (Lit.int .u64 x).wf = true) :
    Calls Try.prog 4 #[.int .u8 k, .int .i8 d, .int .u64 x] w fun e w' => e = .returned (.bool true) ∧ Below w.heap.size w w' := by
  obtain ⟨k0, k1⟩ := bounds_u8 w0
  obtain ⟨d0, d1⟩ := bounds_i8 w1
  obtain ⟨x0, x1⟩ := bounds_u64 w2
  have hr := rightE_seat k k0 (by omega)
  have hme := clock_err (nameL k) 1 (seatK k 1) d hr d0 d1
  have hkb : isU64 (seatK k 1) := by rw [seatK_one k k0 (by omega)]; exact ⟨by omega, by omega⟩
  have HEN := Lib.hid (fun w => seatEnt_any k 1 w k0 (by omega))
  obtain ⟨nl0, nl1⟩ := nameL_len k
  have hnm : (nameL k).length ≤ 1048576 := by omega
  obtain ⟨t, ht⟩ : ∃ t : Int, t = 1152921504606846936 + d := ⟨_, rfl⟩
  rw [← ht] at hme
  have HMK := Lib.hid (fun w => makeP_any x (nameL k) 1 (seatK k 1) t w x0 (by omega) hnm ⟨by decide, by decide⟩ hkb ⟨by omega, by omega⟩)
  have hokm := makeP_ok x (nameL k) 1 (seatK k 1) t hnm ⟨by decide, by decide⟩ hkb
  have hcl := fun (h : makeErr (nameL k) 1 (seatK k 1) t = 0) => check_signP x _ (rightP_make (nameL k) 1 (seatK k 1) t h)
  have hwd : IntKind.i64.wrap d = d := by rw [IntKind.wrap_i64]; omega
  have hwt : IntKind.i64.wrap (1152921504606846936 + d) = t := by rw [IntKind.wrap_i64]; omega
  have hwt2 : IntKind.i64.wrap (t + 40) = t + 40 := by rw [IntKind.wrap_i64]; omega
  have HNM1 := Lib.hid hnm
  have HKB := Lib.hid hkb
  generalize nameL k = nm at *
  generalize seatK k 1 = key at *
  clear w0 w1 w2 hr nl0 nl1 hnm hkb ht
  by_cases h40 : 40 < d
  · rw [if_pos h40] at hme
    have HME := Lib.hid hme
    have hmp := make_err (x := x) hme (by decide)
    have HMP := Lib.hid hmp
    obtain ⟨P, hP⟩ : ∃ P, P = zeroP := ⟨_, rfl⟩
    rw [← hP] at HMP
    clear hme hmp hokm hcl hwt2 hP
    go_enter Try.func4, Try.ntmps4
    go_wp2_with fail
    refine (knownP_any _).mono ?_
    rintro e w1 ⟨rfl, hb⟩
    have HB1 := Lib.hid hb
    clear hb
    go_wp2_with fail
    refine (HEN.out _).mono ?_
    rintro e w2 ⟨rfl, hb⟩
    have HB2 := Lib.hid (bl_bl HB1.out hb)
    clear hb HB1
    go_upto_region 4 with (refine wpList_store_row rfl 27 (.tmp 7) (.tmp 14) rfl w2.heap.size (entCells nm 1 key).toArray rfl rfl 27 _ (heap_alloc_new _ _) (ent_size _ _ _) rfl (all_oneCell_toArray (entCells_one _ _ _)) ?_)
    refine wp_world (fun Y => EA w2.heap.size nm 1 key Y ∧ Below w.heap.size w Y) ⟨⟨setRow_heap _ _ _ _ _ _ (heap_alloc_new _ _)⟩, bl_bl HB2.out (below_fresh _ _ _)⟩ ?_
    generalize w2.heap.size = g7
    clear HB2
    rintro Y ⟨h1, h2⟩
    have HE := Lib.hid h1
    have HB := Lib.hid h2
    clear h1 h2
    (try simp only [Act.put, List.setIfInBounds_toArray, List.set_cons_zero, List.set_cons_succ])
    go_wp2_with (refine wpList_load_row rfl 27 (.tmp 7) rfl g7 rfl 27 _ (0, 0) _ HE.out.row Try.underlying27 rfl (ent_size _ _ _) ?_)
    refine (HMK.out _).mono ?_
    rintro e w3 ⟨rfl, hb⟩
    rw [HMP.out, HME.out]
    have HE3 := Lib.hid (HE.out.below hb)
    have HB3 := Lib.hid (bl_bl HB.out hb)
    clear hb HE HB
    go_upto_region 6 with (refine wpList_store_row rfl 31 (.tmp 9) (.tmp 23) rfl w3.heap.size P.cells.toArray rfl rfl 31 _ (heap_alloc_new _ _) (pr_size _) rfl (all_oneCell_toArray (Pr.cells_one _)) ?_)
    refine wp_world (fun Y => PA w3.heap.size P Y ∧ EA g7 nm 1 key Y ∧ Below w.heap.size w Y) ⟨⟨setRow_heap _ _ _ _ _ _ (heap_alloc_new _ _)⟩, HE3.out.below (below_fresh _ _ _), bl_bl HB3.out (below_fresh _ _ _)⟩ ?_
    generalize w3.heap.size = g9
    clear HB3 HE3
    rintro W ⟨h1, h3, h2⟩
    have HP := Lib.hid h1
    have HE := Lib.hid h3
    have HB := Lib.hid h2
    clear h1 h2 h3
    (try simp only [Act.put, List.setIfInBounds_toArray, List.set_cons_zero, List.set_cons_succ])
    go_wp2_with fail
    go_ret
    exact ⟨rfl, HB.out⟩
  rw [if_neg h40] at hme
  by_cases h1 : 0 < d
  · rw [if_pos h1] at hme
    have HME := Lib.hid hme
    have hmp := make_err (x := x) hme (by decide)
    have HMP := Lib.hid hmp
    obtain ⟨P, hP⟩ : ∃ P, P = zeroP := ⟨_, rfl⟩
    rw [← hP] at HMP
    have HPZ := Lib.hid hP
    clear hme hmp hokm hcl hwt2 hP
    go_enter Try.func4, Try.ntmps4
    go_wp2_with fail
    refine (knownP_any _).mono ?_
    rintro e w1 ⟨rfl, hb⟩
    have HB1 := Lib.hid hb
    clear hb
    go_wp2_with fail
    refine (HEN.out _).mono ?_
    rintro e w2 ⟨rfl, hb⟩
    have HB2 := Lib.hid (bl_bl HB1.out hb)
    clear hb HB1
    go_upto_region 4 with (refine wpList_store_row rfl 27 (.tmp 7) (.tmp 14) rfl w2.heap.size (entCells nm 1 key).toArray rfl rfl 27 _ (heap_alloc_new _ _) (ent_size _ _ _) rfl (all_oneCell_toArray (entCells_one _ _ _)) ?_)
    refine wp_world (fun Y => EA w2.heap.size nm 1 key Y ∧ Below w.heap.size w Y) ⟨⟨setRow_heap _ _ _ _ _ _ (heap_alloc_new _ _)⟩, bl_bl HB2.out (below_fresh _ _ _)⟩ ?_
    generalize w2.heap.size = g7
    clear HB2
    rintro Y ⟨h1, h2⟩
    have HE := Lib.hid h1
    have HB := Lib.hid h2
    clear h1 h2
    (try simp only [Act.put, List.setIfInBounds_toArray, List.set_cons_zero, List.set_cons_succ])
    go_wp2_with (refine wpList_load_row rfl 27 (.tmp 7) rfl g7 rfl 27 _ (0, 0) _ HE.out.row Try.underlying27 rfl (ent_size _ _ _) ?_)
    refine (HMK.out _).mono ?_
    rintro e w3 ⟨rfl, hb⟩
    rw [HMP.out, HME.out]
    have HE3 := Lib.hid (HE.out.below hb)
    have HB3 := Lib.hid (bl_bl HB.out hb)
    clear hb HE HB
    go_upto_region 6 with (refine wpList_store_row rfl 31 (.tmp 9) (.tmp 23) rfl w3.heap.size P.cells.toArray rfl rfl 31 _ (heap_alloc_new _ _) (pr_size _) rfl (all_oneCell_toArray (Pr.cells_one _)) ?_)
    refine wp_world (fun Y => PA w3.heap.size P Y ∧ EA g7 nm 1 key Y ∧ Below w.heap.size w Y) ⟨⟨setRow_heap _ _ _ _ _ _ (heap_alloc_new _ _)⟩, HE3.out.below (below_fresh _ _ _), bl_bl HB3.out (below_fresh _ _ _)⟩ ?_
    generalize w3.heap.size = g9
    clear HB3 HE3
    rintro W ⟨h1, h3, h2⟩
    have HP := Lib.hid h1
    have HE := Lib.hid h3
    have HB := Lib.hid h2
    clear h1 h2 h3
    (try simp only [Act.put, List.setIfInBounds_toArray, List.set_cons_zero, List.set_cons_succ])
    rw [HPZ.out] at HP
    go_wp2_with (first
      | refine wpList_load_pr_g (by rfl) (.tmp 9) rfl g9 zeroP rfl HP.out ?_
      | refine wpList_built_g (by rfl) 31 #[] rfl [] (by simp) zeroP.cells.toArray built_pr0 ?_
      | refine wpList_eql_pr_g (by rfl) (.tmp 36) (.tmp 37) _ rfl zeroP rfl rfl zeroP_ok ?_)
    go_ret
    exact ⟨rfl, HB.out⟩
  rw [if_neg h1] at hme
  have HME := Lib.hid hme
  have hmp := make_ok (x := x) hme
  obtain ⟨hn1, hn2, hn3⟩ := signP_names x (freshP nm 1 key t)
  have hcp := hcl hme
  rw [hmp] at hokm
  have HMP := Lib.hid hmp
  obtain ⟨p50, p51⟩ := pubF_bd x
  have HTK := Lib.hid (show (signP x (freshP nm 1 key t)).tk = t from hn2)
  have HDL := Lib.hid (show (signP x (freshP nm 1 key t)).dl = t + 40 from hn3)
  have HPN := Lib.hid (show entCells (signP x (freshP nm 1 key t)).nm (signP x (freshP nm 1 key t)).ver (signP x (freshP nm 1 key t)).key = entCells nm 1 key from hn1)
  generalize signP x (freshP nm 1 key t) = P at *
  obtain ⟨px, hpx⟩ : ∃ p, pubF x = p := ⟨_, rfl⟩
  rw [hpx] at hcp p50 p51
  have HPX := Lib.hid hpx
  have HCP := Lib.hid hcp
  have OKP := Lib.hid hokm
  clear hme hmp hokm hcl hn1 hn2 hn3 hcp hpx
  go_enter Try.func4, Try.ntmps4
  go_wp2_with fail
  refine (knownP_any _).mono ?_
  rintro e w1 ⟨rfl, hb⟩
  have HB1 := Lib.hid hb
  clear hb
  go_wp2_with fail
  refine (HEN.out _).mono ?_
  rintro e w2 ⟨rfl, hb⟩
  have HB2 := Lib.hid (bl_bl HB1.out hb)
  clear hb HB1
  go_upto_region 4 with (refine wpList_store_row rfl 27 (.tmp 7) (.tmp 14) rfl w2.heap.size (entCells nm 1 key).toArray rfl rfl 27 _ (heap_alloc_new _ _) (ent_size _ _ _) rfl (all_oneCell_toArray (entCells_one _ _ _)) ?_)
  refine wp_world (fun Y => EA w2.heap.size nm 1 key Y ∧ Below w.heap.size w Y) ⟨⟨setRow_heap _ _ _ _ _ _ (heap_alloc_new _ _)⟩, bl_bl HB2.out (below_fresh _ _ _)⟩ ?_
  generalize w2.heap.size = g7
  clear HB2
  rintro Y ⟨h1, h2⟩
  have HE := Lib.hid h1
  have HB := Lib.hid h2
  clear h1 h2
  (try simp only [Act.put, List.setIfInBounds_toArray, List.set_cons_zero, List.set_cons_succ])
  go_wp2_with (refine wpList_load_row rfl 27 (.tmp 7) rfl g7 rfl 27 _ (0, 0) _ HE.out.row Try.underlying27 rfl (ent_size _ _ _) ?_)
  refine (HMK.out _).mono ?_
  rintro e w3 ⟨rfl, hb⟩
  rw [HMP.out, HME.out]
  have HE3 := Lib.hid (HE.out.below hb)
  have HB3 := Lib.hid (bl_bl HB.out hb)
  clear hb HE HB
  go_upto_region 6 with (refine wpList_store_row rfl 31 (.tmp 9) (.tmp 23) rfl w3.heap.size P.cells.toArray rfl rfl 31 _ (heap_alloc_new _ _) (pr_size _) rfl (all_oneCell_toArray (Pr.cells_one _)) ?_)
  refine wp_world (fun Y => PA w3.heap.size P Y ∧ EA g7 nm 1 key Y ∧ Below w.heap.size w Y) ⟨⟨setRow_heap _ _ _ _ _ _ (heap_alloc_new _ _)⟩, HE3.out.below (below_fresh _ _ _), bl_bl HB3.out (below_fresh _ _ _)⟩ ?_
  generalize w3.heap.size = g9
  clear HB3 HE3
  rintro W ⟨h1, h3, h2⟩
  have HP := Lib.hid h1
  have HE := Lib.hid h3
  have HB := Lib.hid h2
  clear h1 h2 h3
  (try simp only [Act.put, List.setIfInBounds_toArray, List.set_cons_zero, List.set_cons_succ])
  go_upto_region 10 with fail
  refine wp_region_noPanic ?_
  refine wp_region_held_drew (S := (fun w' => PA g9 P w' ∧ EA g7 nm 1 key w')) (by kernel_rfl) ?_ (fun hHeld => ?_)
  · (try dsimp only); (refine ⟨?_, ?_⟩ <;> repeat (first | exact HP.out | exact HE.out | apply PA.drew | apply PA.drewN | apply PA.alloc | apply EA.drew | apply EA.drewN | apply EA.alloc))
  refine wpAnyH_take (i := 0) (v := ?_) (by simp only [List.getElem?_toArray, List.getElem?_cons_succ, List.getElem?_cons_zero]; first | done | rfl) (by kernel_rfl) (by kernel_rfl) (by kernel_rfl) (fun _ _ _ h => h) (Or.inl ⟨by rfl, ?hy⟩) (by assumption) ?_
  case hy => (intro w hSw; (try dsimp only at hSw); have c3 := hSw.1.c3; have c4 := hSw.1.c4; rw [HTK.out] at c3; rw [HDL.out] at c4; go_simp; all_goals with_reducible rfl)
  try simp only [Act.put, List.setIfInBounds_toArray, List.set_cons_zero, List.set_cons_succ]
  refine wpAnyH_take (i := 1) (v := ?_) (by simp only [List.getElem?_toArray, List.getElem?_cons_succ, List.getElem?_cons_zero]; first | done | rfl) (by kernel_rfl) (by kernel_rfl) (by kernel_rfl) (fun _ _ _ h => h) (Or.inl ⟨by rfl, ?hy⟩) (by assumption) ?_
  case hy => (intro w hSw; (try dsimp only at hSw); have c3 := hSw.1.c3; have c4 := hSw.1.c4; rw [HTK.out] at c3; rw [HDL.out] at c4; go_simp; all_goals with_reducible rfl)
  try simp only [Act.put, List.setIfInBounds_toArray, List.set_cons_zero, List.set_cons_succ]
  refine wpAnyH_take (i := 2) (v := ?_) (by simp only [List.getElem?_toArray, List.getElem?_cons_succ, List.getElem?_cons_zero]; first | done | rfl) (by kernel_rfl) (by kernel_rfl) (by kernel_rfl) (fun _ _ _ h => h) (Or.inl ⟨by rfl, ?hy⟩) (by assumption) ?_
  case hy => (intro w hSw; (try dsimp only at hSw); have c3 := hSw.1.c3; have c4 := hSw.1.c4; rw [HTK.out] at c3; rw [HDL.out] at c4; go_simp; all_goals with_reducible rfl)
  try simp only [Act.put, List.setIfInBounds_toArray, List.set_cons_zero, List.set_cons_succ]
  refine wpAnyH_take (i := 3) (v := ?_) (by simp only [List.getElem?_toArray, List.getElem?_cons_succ, List.getElem?_cons_zero]; first | done | rfl) (by kernel_rfl) (by kernel_rfl) (by kernel_rfl) (fun _ _ _ h => h) (Or.inl ⟨by rfl, ?hy⟩) (by assumption) ?_
  case hy => (intro w hSw; (try dsimp only at hSw); have c3 := hSw.1.c3; have c4 := hSw.1.c4; rw [HTK.out] at c3; rw [HDL.out] at c4; go_simp; all_goals with_reducible rfl)
  try simp only [Act.put, List.setIfInBounds_toArray, List.set_cons_zero, List.set_cons_succ]
  refine wpAnyH_take (i := 4) (v := ?_) (by simp only [List.getElem?_toArray, List.getElem?_cons_succ, List.getElem?_cons_zero]; first | done | rfl) (by kernel_rfl) (by kernel_rfl) (by kernel_rfl) (fun _ _ _ h => h) (Or.inl ⟨by rfl, ?hy⟩) (by assumption) ?_
  case hy => (intro w hSw; (try dsimp only at hSw); have c3 := hSw.1.c3; have c4 := hSw.1.c4; rw [HTK.out] at c3; rw [HDL.out] at c4; go_simp; all_goals with_reducible rfl)
  try simp only [Act.put, List.setIfInBounds_toArray, List.set_cons_zero, List.set_cons_succ]
  refine wpAnyH_take (i := 5) (v := ?_) (by simp only [List.getElem?_toArray, List.getElem?_cons_succ, List.getElem?_cons_zero]; first | done | rfl) (by kernel_rfl) (by kernel_rfl) (by kernel_rfl) (fun _ _ _ h => h) (Or.inl ⟨by rfl, ?hy⟩) (by assumption) ?_
  case hy => (intro w hSw; (try dsimp only at hSw); have c3 := hSw.1.c3; have c4 := hSw.1.c4; rw [HTK.out] at c3; rw [HDL.out] at c4; go_simp; all_goals with_reducible rfl)
  try simp only [Act.put, List.setIfInBounds_toArray, List.set_cons_zero, List.set_cons_succ]
  refine wpAnyH_take (i := 6) (v := ?_) (by simp only [List.getElem?_toArray, List.getElem?_cons_succ, List.getElem?_cons_zero]; first | done | rfl) (by kernel_rfl) (by kernel_rfl) (by kernel_rfl) (fun _ _ _ h => h) (Or.inl ⟨by rfl, ?hy⟩) (by assumption) ?_
  case hy => (intro w hSw; (try dsimp only at hSw); have c3 := hSw.1.c3; have c4 := hSw.1.c4; rw [HTK.out] at c3; rw [HDL.out] at c4; go_simp; all_goals with_reducible rfl)
  try simp only [Act.put, List.setIfInBounds_toArray, List.set_cons_zero, List.set_cons_succ]
  refine wpAnyH_take (i := 7) (v := ?_) (by simp only [List.getElem?_toArray, List.getElem?_cons_succ, List.getElem?_cons_zero]; first | done | rfl) (by kernel_rfl) (by kernel_rfl) (by kernel_rfl) (fun _ _ _ h => h) (Or.inl ⟨by rfl, ?hy⟩) (by assumption) ?_
  case hy => (intro w hSw; (try dsimp only at hSw); have c3 := hSw.1.c3; have c4 := hSw.1.c4; rw [HTK.out] at c3; rw [HDL.out] at c4; go_simp; all_goals with_reducible rfl)
  try simp only [Act.put, List.setIfInBounds_toArray, List.set_cons_zero, List.set_cons_succ]
  refine wpAnyH_take (i := 8) (v := ?_) (by simp only [List.getElem?_toArray, List.getElem?_cons_succ, List.getElem?_cons_zero]; first | done | rfl) (by kernel_rfl) (by kernel_rfl) (by kernel_rfl) (fun _ _ _ h => h) (Or.inl ⟨by rfl, ?hy⟩) (by assumption) ?_
  case hy => (intro w hSw; (try dsimp only at hSw); have c3 := hSw.1.c3; have c4 := hSw.1.c4; rw [HTK.out] at c3; rw [HDL.out] at c4; go_simp; all_goals with_reducible rfl)
  try simp only [Act.put, List.setIfInBounds_toArray, List.set_cons_zero, List.set_cons_succ]
  refine wpAnyH_take (i := 9) (v := ?_) (by simp only [List.getElem?_toArray, List.getElem?_cons_succ, List.getElem?_cons_zero]; first | done | rfl) (by kernel_rfl) (by kernel_rfl) (by kernel_rfl) (fun _ _ _ h => h) (Or.inl ⟨by rfl, ?hy⟩) (by assumption) ?_
  case hy => (intro w hSw; (try dsimp only at hSw); have c3 := hSw.1.c3; have c4 := hSw.1.c4; rw [HTK.out] at c3; rw [HDL.out] at c4; go_simp; all_goals with_reducible rfl)
  try simp only [Act.put, List.setIfInBounds_toArray, List.set_cons_zero, List.set_cons_succ]
  refine wpAnyH_take (i := 10) (v := ?_) (by simp only [List.getElem?_toArray, List.getElem?_cons_succ, List.getElem?_cons_zero]; first | done | rfl) (by kernel_rfl) (by kernel_rfl) (by kernel_rfl) (fun _ _ _ h => h) (Or.inl ⟨by rfl, ?hy⟩) (by assumption) ?_
  case hy => (intro w hSw; (try dsimp only at hSw); have c3 := hSw.1.c3; have c4 := hSw.1.c4; rw [HTK.out] at c3; rw [HDL.out] at c4; go_simp; all_goals with_reducible rfl)
  try simp only [Act.put, List.setIfInBounds_toArray, List.set_cons_zero, List.set_cons_succ]
  refine wpAnyH_take (i := 11) (v := ?_) (by simp only [List.getElem?_toArray, List.getElem?_cons_succ, List.getElem?_cons_zero]; first | done | rfl) (by kernel_rfl) (by kernel_rfl) (by kernel_rfl) (fun _ _ _ h => h) (Or.inl ⟨by rfl, ?hy⟩) (by assumption) ?_
  case hy => (intro w hSw; (try dsimp only at hSw); have c3 := hSw.1.c3; have c4 := hSw.1.c4; rw [HTK.out] at c3; rw [HDL.out] at c4; go_simp; all_goals with_reducible rfl)
  try simp only [Act.put, List.setIfInBounds_toArray, List.set_cons_zero, List.set_cons_succ]
  refine wpAnyH_take (i := 12) (v := ?_) (by simp only [List.getElem?_toArray, List.getElem?_cons_succ, List.getElem?_cons_zero]; first | done | rfl) (by kernel_rfl) (by kernel_rfl) (by kernel_rfl) (fun _ _ _ h => h) (Or.inl ⟨by rfl, ?hy⟩) (by assumption) ?_
  case hy => (intro w hSw; (try dsimp only at hSw); have c3 := hSw.1.c3; have c4 := hSw.1.c4; rw [HTK.out] at c3; rw [HDL.out] at c4; go_simp; all_goals with_reducible rfl)
  try simp only [Act.put, List.setIfInBounds_toArray, List.set_cons_zero, List.set_cons_succ]
  refine wpAnyH_take (i := 13) (v := ?_) (by simp only [List.getElem?_toArray, List.getElem?_cons_succ, List.getElem?_cons_zero]; first | done | rfl) (by kernel_rfl) (by kernel_rfl) (by kernel_rfl) (fun _ _ _ h => h) (Or.inl ⟨by rfl, ?hy⟩) (by assumption) ?_
  case hy => (intro w hSw; (try dsimp only at hSw); have c3 := hSw.1.c3; have c4 := hSw.1.c4; rw [HTK.out] at c3; rw [HDL.out] at c4; go_simp; all_goals with_reducible rfl)
  try simp only [Act.put, List.setIfInBounds_toArray, List.set_cons_zero, List.set_cons_succ]
  refine wpAnyH_take (i := 14) (v := ?_) (by simp only [List.getElem?_toArray, List.getElem?_cons_succ, List.getElem?_cons_zero]; first | done | rfl) (by kernel_rfl) (by kernel_rfl) (by kernel_rfl) (fun _ _ _ h => h) (Or.inl ⟨by rfl, ?hy⟩) (by assumption) ?_
  case hy => (intro w hSw; (try dsimp only at hSw); have c3 := hSw.1.c3; have c4 := hSw.1.c4; rw [HTK.out] at c3; rw [HDL.out] at c4; go_simp; all_goals with_reducible rfl)
  try simp only [Act.put, List.setIfInBounds_toArray, List.set_cons_zero, List.set_cons_succ]
  refine wpAnyH_take (i := 15) (v := ?_) (by simp only [List.getElem?_toArray, List.getElem?_cons_succ, List.getElem?_cons_zero]; first | done | rfl) (by kernel_rfl) (by kernel_rfl) (by kernel_rfl) (fun _ _ _ h => h) (Or.inl ⟨by rfl, ?hy⟩) (by assumption) ?_
  case hy => (intro w hSw; (try dsimp only at hSw); have c3 := hSw.1.c3; have c4 := hSw.1.c4; rw [HTK.out] at c3; rw [HDL.out] at c4; go_simp; all_goals with_reducible rfl)
  try simp only [Act.put, List.setIfInBounds_toArray, List.set_cons_zero, List.set_cons_succ]
  refine wpAnyH_take (i := 16) (v := ?_) (by simp only [List.getElem?_toArray, List.getElem?_cons_succ, List.getElem?_cons_zero]; first | done | rfl) (by kernel_rfl) (by kernel_rfl) (by kernel_rfl) (fun _ _ _ h => h) (Or.inl ⟨by rfl, ?hy⟩) (by assumption) ?_
  case hy => (intro w hSw; (try dsimp only at hSw); have c3 := hSw.1.c3; have c4 := hSw.1.c4; rw [HTK.out] at c3; rw [HDL.out] at c4; go_simp; all_goals with_reducible rfl)
  try simp only [Act.put, List.setIfInBounds_toArray, List.set_cons_zero, List.set_cons_succ]
  refine wpAnyH_take (i := 17) (by simp only [List.getElem?_toArray, List.getElem?_cons_succ, List.getElem?_cons_zero]; first | done | rfl) (by kernel_rfl) (by kernel_rfl) (by kernel_rfl) (fun _ _ _ h => h) (yields_ent_pr (by rfl) _ rfl g9 P nm 1 key rfl (fun w hw => hw.1) HPN.out) (by assumption) ?_
  try simp only [Act.put, List.setIfInBounds_toArray, List.set_cons_zero, List.set_cons_succ]
  refine wpAnyH_take (i := 18) (by simp only [List.getElem?_toArray, List.getElem?_cons_succ, List.getElem?_cons_zero]; first | done | rfl) (by kernel_rfl) (by kernel_rfl) (by kernel_rfl) (fun _ _ _ h => h) (yields_ent' (by rfl) _ rfl g7 nm 1 key rfl (fun w hw => hw.2)) (by assumption) ?_
  try simp only [Act.put, List.setIfInBounds_toArray, List.set_cons_zero, List.set_cons_succ]
  refine wpAnyH_take (i := 19) (by simp only [List.getElem?_toArray, List.getElem?_cons_succ, List.getElem?_cons_zero]; first | done | rfl) (by kernel_rfl) (by kernel_rfl) (by kernel_rfl) (fun _ _ _ h => h) (yields_eql_ent (by rfl) _ _ _ rfl nm 1 key rfl rfl HNM1.out ⟨by decide, by decide⟩ HKB.out) (by assumption) ?_
  try simp only [Act.put, List.setIfInBounds_toArray, List.set_cons_zero, List.set_cons_succ]
  refine wpAnyH_take (i := 20) (v := ?_) (by simp only [List.getElem?_toArray, List.getElem?_cons_succ, List.getElem?_cons_zero]; first | done | rfl) (by kernel_rfl) (by kernel_rfl) (by kernel_rfl) (fun _ _ _ h => h) (Or.inl ⟨by rfl, ?hy⟩) (by assumption) ?_
  case hy => (intro w hSw; (try dsimp only at hSw); have c3 := hSw.1.c3; have c4 := hSw.1.c4; rw [HTK.out] at c3; rw [HDL.out] at c4; go_simp; all_goals with_reducible rfl)
  try simp only [Act.put, List.setIfInBounds_toArray, List.set_cons_zero, List.set_cons_succ]
  refine wpAnyH_take (i := 21) (v := ?_) (by simp only [List.getElem?_toArray, List.getElem?_cons_succ, List.getElem?_cons_zero]; first | done | rfl) (by kernel_rfl) (by kernel_rfl) (by kernel_rfl) (fun _ _ _ h => h) (Or.inl ⟨by rfl, ?hy⟩) (by assumption) ?_
  case hy => (intro w hSw; (try dsimp only at hSw); have c3 := hSw.1.c3; have c4 := hSw.1.c4; rw [HTK.out] at c3; rw [HDL.out] at c4; go_simp; all_goals with_reducible rfl)
  try simp only [Act.put, List.setIfInBounds_toArray, List.set_cons_zero, List.set_cons_succ]
  refine wpAnyH_take (i := 22) (v := ?_) (by simp only [List.getElem?_toArray, List.getElem?_cons_succ, List.getElem?_cons_zero]; first | done | rfl) (by kernel_rfl) (by kernel_rfl) (by kernel_rfl) (fun _ _ _ h => h) (Or.inl ⟨by rfl, ?hy⟩) (by assumption) ?_
  case hy => (intro w hSw; (try dsimp only at hSw); have c3 := hSw.1.c3; have c4 := hSw.1.c4; rw [HTK.out] at c3; rw [HDL.out] at c4; go_simp; all_goals with_reducible rfl)
  try simp only [Act.put, List.setIfInBounds_toArray, List.set_cons_zero, List.set_cons_succ]
  refine wpAnyH_take (i := 24) (by simp only [List.getElem?_toArray, List.getElem?_cons_succ, List.getElem?_cons_zero]; first | done | rfl) (by kernel_rfl) (by kernel_rfl) (by kernel_rfl) (fun _ _ _ h => h) (yields_pr (by rfl) _ rfl g9 P rfl (fun w hw => hw.1)) (by assumption) ?_
  try simp only [Act.put, List.setIfInBounds_toArray, List.set_cons_zero, List.set_cons_succ]
  refine wpAnyH_ready (rs := [23]) (by kernel_rfl) (by simp) ?_
  refine AllReadyH.cons (by simp only [List.getElem?_toArray, List.getElem?_cons_succ, List.getElem?_cons_zero]; first | done | rfl) (fun K hK => ?_) ?_
  · skip
    refine step_call (by rfl) (rpublic_any x _ x0 (by omega)) (by go_simp; all_goals first | rfl | (simp only [IntKind.wrap_u64]; rfl)) ?_
    rintro e v2 ⟨rfl, hd⟩
    refine ⟨_, rfl, ?_⟩
    rw [HPX.out]
    have hb2 := fun B => Dr.below hd B
    clear hd
    have HP' := Lib.hid (PA.below (by repeat (first | exact HP.out | apply PA.drew | apply PA.drewN | apply PA.alloc)) (hb2 _))
    have HE' := Lib.hid (EA.below (by repeat (first | exact HE.out | apply EA.drew | apply EA.drewN | apply EA.alloc)) (hb2 _))
    have HB' := Lib.hid (bl_bl (by repeat (first | exact HB.out | apply bl_drew | apply bl_drewN | apply bl_alloc)) (hb2 _))
    clear hb2
    clear HP HE HB
    have HP := HP'
    have HE := HE'
    have HB := HB'
    clear HP' HE' HB'
    refine hK.out _ _ ?_ (fun hHeld => ?_)
    · (try dsimp only); (refine ⟨?_, ?_⟩ <;> repeat (first | exact HP.out | exact HE.out | apply PA.drew | apply PA.drewN | apply PA.alloc | apply EA.drew | apply EA.drewN | apply EA.alloc))
    clear hK K
    try simp only [Act.put, List.setIfInBounds_toArray, List.set_cons_zero, List.set_cons_succ]
    refine wpAnyH_ready (rs := [25]) (by kernel_rfl) (by simp) ?_
    refine AllReadyH.cons (by simp only [List.getElem?_toArray, List.getElem?_cons_succ, List.getElem?_cons_zero]; first | done | rfl) (fun K hK => ?_) ?_
    · skip
      refine step_call (by rfl) (checkP_any px P _ p50 (by omega) OKP.out) (by go_simp; all_goals first | rfl | (simp only [IntKind.wrap_u64]; rfl)) ?_
      rintro e v2 ⟨rfl, hb2⟩
      refine ⟨_, rfl, ?_⟩
      rw [HCP.out]
      have HP' := Lib.hid (PA.below (by repeat (first | exact HP.out | apply PA.drew | apply PA.drewN | apply PA.alloc)) hb2)
      have HE' := Lib.hid (EA.below (by repeat (first | exact HE.out | apply EA.drew | apply EA.drewN | apply EA.alloc)) hb2)
      have HB' := Lib.hid (bl_bl (by repeat (first | exact HB.out | apply bl_drew | apply bl_drewN | apply bl_alloc)) hb2)
      clear hb2
      clear HP HE HB
      have HP := HP'
      have HE := HE'
      have HB := HB'
      clear HP' HE' HB'
      refine hK.out _ _ ?_ (fun hHeld => ?_)
      · (try dsimp only); (refine ⟨?_, ?_⟩ <;> repeat (first | exact HP.out | exact HE.out | apply PA.drew | apply PA.drewN | apply PA.alloc | apply EA.drew | apply EA.drewN | apply EA.alloc))
      clear hK K
      try simp only [Act.put, List.setIfInBounds_toArray, List.set_cons_zero, List.set_cons_succ]
      refine wpAnyH_take (i := 26) (v := ?_) (by simp only [List.getElem?_toArray, List.getElem?_cons_succ, List.getElem?_cons_zero]; first | done | rfl) (by kernel_rfl) (by kernel_rfl) (by kernel_rfl) (fun _ _ _ h => h) (Or.inl ⟨by rfl, ?hy⟩) (by assumption) ?_
      case hy => (intro w hSw; (try dsimp only at hSw); have c3 := hSw.1.c3; have c4 := hSw.1.c4; rw [HTK.out] at c3; rw [HDL.out] at c4; go_simp; all_goals with_reducible rfl)
      try simp only [Act.put, List.setIfInBounds_toArray, List.set_cons_zero, List.set_cons_succ]
      refine wpAnyH_take (i := 27) (v := ?_) (by simp only [List.getElem?_toArray, List.getElem?_cons_succ, List.getElem?_cons_zero]; first | done | rfl) (by kernel_rfl) (by kernel_rfl) (by kernel_rfl) (fun _ _ _ h => h) (Or.inl ⟨by rfl, ?hy⟩) (by assumption) ?_
      case hy => (intro w hSw; (try dsimp only at hSw); have c3 := hSw.1.c3; have c4 := hSw.1.c4; rw [HTK.out] at c3; rw [HDL.out] at c4; go_simp; all_goals with_reducible rfl)
      try simp only [Act.put, List.setIfInBounds_toArray, List.set_cons_zero, List.set_cons_succ]
      refine wpAnyH_done (by kernel_rfl) ?_ _
      refine NoPanic.normal ?_
      go_wp2_with fail
      go_ret
      exact ⟨rfl, HB.out⟩
    exact AllReadyH.nil
  exact AllReadyH.nil
end Go.Proofs.Ytbhkcgnlegmjlaa
