/-
  UpdateClass: for every input the law returns true.
-/
import Derived.Test.YtjfkkcoapeipbaaUpK
import Derived.Test.YtjfkkcoapeipbaaUpT
namespace Go.Proofs.Ytjfkkcoapeipbaa
set_option linter.unusedVariables false
set_option linter.unusedSimpArgs false
open Go.RowKit

theorem checkU_cls (u : Up) (cls y : Int) : checkU y { u with cls := cls } = checkU y u := rfl
theorem rightU_cls (u : Up) (cls : Int) : rightU { u with cls := cls } = (rightE u.nm u.ver u.key && (decide (cls = 0) || decide (cls = 1))) := rfl
theorem classU (n : List UInt8) (v cls m : Int) (hn : 1 ≤ n.length) (hn2 : n.length ≤ 32) (h0 : 1 ≤ v) (h1 : v ≤ 5) (hm : m = max (v - 1) 1) :
    checkU (keyF n m false) (seatU n v 0 0) = true ∧ checkU (keyF n m false) { seatU n v 0 0 with cls := cls } = true ∧ rightU { seatU n v 0 0 with cls := cls } = (cls == 0 || cls == 1) := by
  have hs : seatU n v 0 0 = signU (secF n m false) ⟨n, v, keyF n v false, 0, 0, 0⟩ := by
    unfold seatU seatBy
    rw [← hm]
    rfl
  have hc : checkU (keyF n m false) (signU (secF n m false) ⟨n, v, keyF n v false, 0, 0, 0⟩) = true := check_signU _ _
  obtain ⟨a1, a2, a3⟩ := signU_names (secF n m false) ⟨n, v, keyF n v false, 0, 0, 0⟩
  rw [hs, checkU_cls, rightU_cls, a1, a2, a3]
  refine ⟨hc, hc, ?_⟩
  have hk0 := pub_pos (secF n v false)
  have hk1 := (pubF_bd (secF n v false)).2
  have hr : rightE n v (keyF n v false) = true := by
    unfold rightE keyF
    rw [decide_eq_true hn, decide_eq_true hn2, decide_eq_true h0, decide_eq_true (show v ≤ 1073741824 by omega), decide_eq_true hk0, decide_eq_true hk1]
    rfl
  show (rightE n v (keyF n v false) && _) = _
  rw [hr, Bool.true_and]
  rfl
attribute [local irreducible] checkF checkU rightU seatU nameL secF

set_option maxRecDepth 100000 in
set_option maxHeartbeats 32000000 in
theorem updateClass_walk (k ver cls : Int) (w : World) (w0 : (Lit.int .u8 k).wf = true) (w1 : (Lit.int .u8 ver).wf = true) (w2 : (Lit.int .i64 cls).wf = true) :
    Calls Try.prog 6 #[.int .u8 k, .int .u8 ver, .int .i64 cls] w fun e w' => e = .returned (.bool true) ∧ Below w.heap.size w w' := by
  obtain ⟨k0, k1⟩ := bounds_u8 w0
  obtain ⟨ve0, ve1⟩ := bounds_u8 w1
  obtain ⟨cl0, cl1⟩ := bounds_i64 w2
  obtain ⟨nl0, nl1⟩ := nameL_len k
  obtain ⟨v, hv⟩ : ∃ v : Int, v = ver % 5 + 1 := ⟨_, rfl⟩
  obtain ⟨m, hm⟩ : ∃ m : Int, m = max (v - 1) 1 := ⟨_, rfl⟩
  have hv1 : 1 ≤ v := by omega
  have hv2 : v ≤ 5 := by omega
  obtain ⟨hc1, hc2, hrw⟩ := classU (nameL k) v cls m nl0 nl1 hv1 hv2 hm
  have HNM := Lib.hid (fun w => name_any k w k0 (by omega))
  have HUP := Lib.hid (fun w => seatUpd_any (nameL k) v 0 0 w (by omega) hv1 (by omega) (by omega) (by omega) (by omega) (by omega))
  have ok := seatU_ok (nameL k) v 0 0 (by omega) hv1 (by omega) (by omega)
  have HKY := Lib.hid (fun w => key_any (nameL k) m false w (by omega))
  obtain ⟨hk0, hk1⟩ := keyF_bd (nameL k) m false
  generalize seatU (nameL k) v 0 0 = u at *
  generalize keyF (nameL k) m false = key at *
  generalize nameL k = nm at *
  have okx : ({ u with cls := cls } : Up).ok := ⟨ok.nm, ok.ver, ok.key, ⟨cl0, by show cls < _; omega⟩, ok.r, ok.s⟩
  have hen : entV ({ u with cls := cls } : Up).nm ({ u with cls := cls } : Up).ver ({ u with cls := cls } : Up).key = entV u.nm u.ver u.key := rfl
  generalize hx : ({ u with cls := cls } : Up) = x at *
  have HX := Lib.hid hx
  have OKU := Lib.hid ok
  have OKX := Lib.hid okx
  have HEN := Lib.hid hen
  have HC1 := Lib.hid hc1
  have HC2 := Lib.hid hc2
  have HRW := Lib.hid hrw
  have hwv : IntKind.i64.wrap (ver % 5 + 1) = v := by rw [IntKind.wrap_i64]; omega
  have HMM := Lib.hid hm
  have HVV := Lib.hid (show 1 ≤ v ∧ v ≤ 5 from ⟨hv1, hv2⟩)
  clear hx ok okx hen hc1 hc2 hrw nl0 nl1 w0 w1 w2 hm hv k0 k1 hv1 hv2
  go_enter Try.func6, Try.ntmps6
  go_wp2_with fail
  refine (knownU_any _).mono ?_
  rintro e w1 ⟨rfl, hb0⟩
  have HB1 := Lib.hid hb0
  clear hb0
  go_wp2_with fail
  refine (HNM.out _).mono ?_
  rintro e w2 ⟨rfl, hb2⟩
  have HB2 := Lib.hid (bl_bl HB1.out hb2)
  clear hb2
  go_wp2_with fail
  clear ve0 ve1
  refine (HUP.out _).mono ?_
  rintro e w3 ⟨rfl, hb2⟩
  have HB3 := Lib.hid (bl_bl HB2.out hb2)
  clear hb2
  go_upto_region 6 with (refine wpList_store_row rfl 30 (.tmp 9) (.tmp 22) rfl w3.heap.size u.cells.toArray rfl rfl 30 _ (heap_alloc_new _ _) (up_size _) rfl (all_oneCell_toArray u.cells_one) ?_)
  refine wp_world (fun Y => UA w3.heap.size u Y ∧ Below w.heap.size w Y) ⟨⟨setRow_heap _ _ _ _ _ _ (heap_alloc_new _ _)⟩, bl_bl HB3.out (below_fresh _ _ _)⟩ ?_
  clear HB1 HB2
  generalize w3.heap.size = g9
  clear HB3
  rintro Y ⟨h1, h2⟩
  have HA9 := Lib.hid h1
  have HB := Lib.hid h2
  have hlt : g9 < Y.heap.size := h1.lt
  clear h1 h2
  (try simp only [Act.put, List.setIfInBounds_toArray, List.set_cons_zero, List.set_cons_succ])
  go_upto_region 7 with (first
    | refine wpList_load_row rfl 30 (.tmp 9) rfl g9 rfl 30 _ (0, 0) _ HA9.out.row Try.underlying30 rfl (up_size _) ?_
    | refine wpList_store_row rfl 30 (.tmp 10) (.tmp 23) rfl Y.heap.size u.cells.toArray rfl rfl 30 _ (heap_alloc_new _ _) (up_size _) rfl (all_oneCell_toArray u.cells_one) ?_)
  refine wp_world (fun Z => UA g9 u Z ∧ UA Y.heap.size u Z ∧ Below w.heap.size w Z) ⟨HA9.out.below (below_fresh _ _ _), ⟨setRow_heap _ _ _ _ _ _ (heap_alloc_new _ _)⟩, bl_bl HB.out (below_fresh _ _ _)⟩ ?_
  have hlw : w.heap.size ≤ Y.heap.size := HB.out.size
  generalize Y.heap.size = g10 at hlt hlw ⊢
  clear HA9 HB
  rintro Z ⟨h1, h3, h2⟩
  have HA9 := Lib.hid h1
  have HA10 := Lib.hid h3
  have HB := Lib.hid h2
  have HLT := Lib.hid hlt
  have HLW := Lib.hid hlw
  clear h1 h2 h3 hlt hlw
  (try simp only [Act.put, List.setIfInBounds_toArray, List.set_cons_zero, List.set_cons_succ])
  have c3 := HA10.out.c3
  have f3 := frozen_of_row _ _ 3 _ _ HA10.out.row
  go_upto_region 8 with fail
  refine wp_world (fun Z => UA g9 u Z ∧ UA g10 x Z ∧ Below w.heap.size w Z) ⟨HA9.out.setOther (by have := HLT.out; omega) _, by have h := HA10.out.set3 cls; rw [HX.out] at h; exact h, below_set HB.out _ _ _ HLW.out⟩ ?_
  clear HA9 HA10 HB c3 f3
  rintro Z2 ⟨h1, h3, h2⟩
  have HA9 := Lib.hid h1
  have HA10 := Lib.hid h3
  have HB := Lib.hid h2
  clear h1 h2 h3
  have hvv := HVV.out
  have hw8 : IntKind.i64.wrap (v - 1) = v - 1 := by rw [IntKind.wrap_i64]; omega
  go_cut [11] (fun s11 wx => s11 = .int .u64 key ∧ UA g9 u wx ∧ UA g10 x wx ∧ Below w.heap.size w wx)
  case first =>
    by_cases hv : v ≤ 2
    · have hm := HMM.out
      obtain rfl : m = 1 := by omega
      clear hm
      rcases (show v = 1 ∨ v = 2 by omega) with rfl | rfl
      · go_wp2_with fail
        refine (HKY.out _).mono ?_
        rintro e w5 ⟨rfl, hd⟩
        have HA9' := Lib.hid (HA9.out.below (hd.below _))
        have HA10' := Lib.hid (HA10.out.below (hd.below _))
        have HB' := Lib.hid (bl_dr HB.out hd)
        clear hd
        go_wp2_with fail
        go_meet
        exact ⟨rfl, HA9'.out, HA10'.out, HB'.out⟩
      · go_wp2_with fail
        refine (HKY.out _).mono ?_
        rintro e w5 ⟨rfl, hd⟩
        have HA9' := Lib.hid (HA9.out.below (hd.below _))
        have HA10' := Lib.hid (HA10.out.below (hd.below _))
        have HB' := Lib.hid (bl_dr HB.out hd)
        clear hd
        go_wp2_with fail
        go_meet
        exact ⟨rfl, HA9'.out, HA10'.out, HB'.out⟩
    · have hm := HMM.out
      obtain rfl : m = v - 1 := by omega
      have hm1 : 1 ≤ v - 1 := by omega
      have hm2 : ¬ (v - 1 ≤ 1) := by omega
      have hm3 : ¬ (v - 1 < 1) := by omega
      have hm4 : 1 < v - 1 := by omega
      clear hm
      go_wp2_with fail
      refine (HKY.out _).mono ?_
      rintro e w5 ⟨rfl, hd⟩
      have HA9' := Lib.hid (HA9.out.below (hd.below _))
      have HA10' := Lib.hid (HA10.out.below (hd.below _))
      have HB' := Lib.hid (bl_dr HB.out hd)
      clear hd
      go_wp2_with fail
      go_meet
      exact ⟨rfl, HA9'.out, HA10'.out, HB'.out⟩
  case rest =>
    obtain ⟨rfl, h1, h3, h2⟩ := hcut
    clear HA9 HA10 HB
    have HA9 := Lib.hid h1
    have HA10 := Lib.hid h3
    have HB := Lib.hid h2
    clear h1 h2 h3 hvv hw8 hwv
    obtain ⟨W, hW⟩ : ∃ W, W = wc := ⟨_, rfl⟩
    rw [← hW] at HA9 HA10 HB ⊢
    clear hW wc
    go_upto_region 9 with fail
    by_cases e0 : cls = 0
    · subst e0
      have hrw := HRW.out
      rw [show (((0 : Int) == 0) || ((0 : Int) == 1)) = true from rfl] at hrw
      clear HRW
      have HRW := Lib.hid hrw
      clear hrw
      refine wp_region_noPanic ?_
      refine wp_region_held_drew (S := (fun w' => UA g9 u w' ∧ UA g10 x w')) (by kernel_rfl) ?_ (fun hHeld => ?_)
      · (try dsimp only); (refine ⟨?_, ?_⟩ <;> repeat (first | exact HA9.out | exact HA10.out | apply UA.drew | apply UA.drewN | apply UA.alloc))
      refine wpAnyH_take (i := 0) (by simp only [List.getElem?_toArray, List.getElem?_cons_succ, List.getElem?_cons_zero]; first | done | rfl) (by kernel_rfl) (by kernel_rfl) (by kernel_rfl) (fun _ _ _ h => h) (yields_up (by rfl) _ rfl g9 u rfl (fun w hw => hw.1)) (by assumption) ?_
      try simp only [Act.put, List.setIfInBounds_toArray, List.set_cons_zero, List.set_cons_succ]
      refine wpAnyH_take (i := 1) (v := ?_) (by simp only [List.getElem?_toArray, List.getElem?_cons_succ, List.getElem?_cons_zero]; first | done | rfl) (by kernel_rfl) (by kernel_rfl) (by kernel_rfl) (fun _ _ _ h => h) (Or.inl ⟨by rfl, ?hy⟩) (by assumption) ?_
      case hy => (intro w hSw; (try dsimp only at hSw); go_simp; all_goals with_reducible rfl)
      try simp only [Act.put, List.setIfInBounds_toArray, List.set_cons_zero, List.set_cons_succ]
      refine wpAnyH_ready (rs := [2]) (by kernel_rfl) (by simp) ?_
      refine AllReadyH.cons (by simp only [List.getElem?_toArray, List.getElem?_cons_succ, List.getElem?_cons_zero]; first | done | rfl) (fun K hK => ?_) ?_
      · skip
        refine step_call (by rfl) (checkU_any key u _ hk0 hk1 OKU.out) (by go_simp) ?_
        rintro e v2 ⟨rfl, hb2⟩
        refine ⟨_, rfl, ?_⟩
        rw [HC1.out]
        have HA9' := Lib.hid (UA.below (by repeat (first | exact HA9.out | apply UA.drew | apply UA.drewN | apply UA.alloc)) hb2)
        have HA10' := Lib.hid (UA.below (by repeat (first | exact HA10.out | apply UA.drew | apply UA.drewN | apply UA.alloc)) hb2)
        have HB' := Lib.hid (bl_bl (by repeat (first | exact HB.out | apply bl_drew | apply bl_drewN | apply bl_alloc)) hb2)
        clear hb2
        have HA9 := HA9'
        have HA10 := HA10'
        have HB := HB'
        clear HA9' HA10' HB'
        refine hK.out _ _ ?_ (fun hHeld => ?_)
        · (try dsimp only); (refine ⟨?_, ?_⟩ <;> repeat (first | exact HA9.out | exact HA10.out | apply UA.drew | apply UA.drewN | apply UA.alloc))
        clear hK K
        try simp only [Act.put, List.setIfInBounds_toArray, List.set_cons_zero, List.set_cons_succ]
        refine wpAnyH_take (i := 3) (v := ?_) (by simp only [List.getElem?_toArray, List.getElem?_cons_succ, List.getElem?_cons_zero]; first | done | rfl) (by kernel_rfl) (by kernel_rfl) (by kernel_rfl) (fun _ _ _ h => h) (Or.inl ⟨by rfl, ?hy⟩) (by assumption) ?_
        case hy => (intro w hSw; (try dsimp only at hSw); go_simp; all_goals with_reducible rfl)
        try simp only [Act.put, List.setIfInBounds_toArray, List.set_cons_zero, List.set_cons_succ]
        refine wpAnyH_take (i := 4) (by simp only [List.getElem?_toArray, List.getElem?_cons_succ, List.getElem?_cons_zero]; first | done | rfl) (by kernel_rfl) (by kernel_rfl) (by kernel_rfl) (fun _ _ _ h => h) (yields_up (by rfl) _ rfl g10 x rfl (fun w hw => hw.2)) (by assumption) ?_
        try simp only [Act.put, List.setIfInBounds_toArray, List.set_cons_zero, List.set_cons_succ]
        refine wpAnyH_take (i := 5) (v := ?_) (by simp only [List.getElem?_toArray, List.getElem?_cons_succ, List.getElem?_cons_zero]; first | done | rfl) (by kernel_rfl) (by kernel_rfl) (by kernel_rfl) (fun _ _ _ h => h) (Or.inl ⟨by rfl, ?hy⟩) (by assumption) ?_
        case hy => (intro w hSw; (try dsimp only at hSw); go_simp; all_goals with_reducible rfl)
        try simp only [Act.put, List.setIfInBounds_toArray, List.set_cons_zero, List.set_cons_succ]
        refine wpAnyH_ready (rs := [6]) (by kernel_rfl) (by simp) ?_
        refine AllReadyH.cons (by simp only [List.getElem?_toArray, List.getElem?_cons_succ, List.getElem?_cons_zero]; first | done | rfl) (fun K hK => ?_) ?_
        · skip
          refine step_call (by rfl) (checkU_any key x _ hk0 hk1 OKX.out) (by go_simp) ?_
          rintro e v2 ⟨rfl, hb2⟩
          refine ⟨_, rfl, ?_⟩
          rw [HC2.out]
          have HA9' := Lib.hid (UA.below (by repeat (first | exact HA9.out | apply UA.drew | apply UA.drewN | apply UA.alloc)) hb2)
          have HA10' := Lib.hid (UA.below (by repeat (first | exact HA10.out | apply UA.drew | apply UA.drewN | apply UA.alloc)) hb2)
          have HB' := Lib.hid (bl_bl (by repeat (first | exact HB.out | apply bl_drew | apply bl_drewN | apply bl_alloc)) hb2)
          clear hb2
          have HA9 := HA9'
          have HA10 := HA10'
          have HB := HB'
          clear HA9' HA10' HB'
          refine hK.out _ _ ?_ (fun hHeld => ?_)
          · (try dsimp only); (refine ⟨?_, ?_⟩ <;> repeat (first | exact HA9.out | exact HA10.out | apply UA.drew | apply UA.drewN | apply UA.alloc))
          clear hK K
          try simp only [Act.put, List.setIfInBounds_toArray, List.set_cons_zero, List.set_cons_succ]
          refine wpAnyH_take (i := 7) (v := ?_) (by simp only [List.getElem?_toArray, List.getElem?_cons_succ, List.getElem?_cons_zero]; first | done | rfl) (by kernel_rfl) (by kernel_rfl) (by kernel_rfl) (fun _ _ _ h => h) (Or.inl ⟨by rfl, ?hy⟩) (by assumption) ?_
          case hy => (intro w hSw; (try dsimp only at hSw); go_simp; all_goals with_reducible rfl)
          try simp only [Act.put, List.setIfInBounds_toArray, List.set_cons_zero, List.set_cons_succ]
          refine wpAnyH_take (i := 8) (v := ?_) (by simp only [List.getElem?_toArray, List.getElem?_cons_succ, List.getElem?_cons_zero]; first | done | rfl) (by kernel_rfl) (by kernel_rfl) (by kernel_rfl) (fun _ _ _ h => h) (Or.inl ⟨by rfl, ?hy⟩) (by assumption) ?_
          case hy => (intro w hSw; (try dsimp only at hSw); go_simp; all_goals with_reducible rfl)
          try simp only [Act.put, List.setIfInBounds_toArray, List.set_cons_zero, List.set_cons_succ]
          refine wpAnyH_take (i := 9) (by simp only [List.getElem?_toArray, List.getElem?_cons_succ, List.getElem?_cons_zero]; first | done | rfl) (by kernel_rfl) (by kernel_rfl) (by kernel_rfl) (fun _ _ _ h => h) (yields_up (by rfl) _ rfl g9 u rfl (fun w hw => hw.1)) (by assumption) ?_
          try simp only [Act.put, List.setIfInBounds_toArray, List.set_cons_zero, List.set_cons_succ]
          refine wpAnyH_take (i := 13) (by simp only [List.getElem?_toArray, List.getElem?_cons_succ, List.getElem?_cons_zero]; first | done | rfl) (by kernel_rfl) (by kernel_rfl) (by kernel_rfl) (fun _ _ _ h => h) (yields_up (by rfl) _ rfl g10 x rfl (fun w hw => hw.2)) (by assumption) ?_
          try simp only [Act.put, List.setIfInBounds_toArray, List.set_cons_zero, List.set_cons_succ]
          refine wpAnyH_ready (rs := [10]) (by kernel_rfl) (by simp) ?_
          refine AllReadyH.cons (by simp only [List.getElem?_toArray, List.getElem?_cons_succ, List.getElem?_cons_zero]; first | done | rfl) (fun K hK => ?_) ?_
          · skip
            refine step_call (by rfl) (entry_any u _) (by go_simp) ?_
            rintro e v2 ⟨rfl, hb2⟩
            refine ⟨_, rfl, ?_⟩
            have HA9' := Lib.hid (UA.below (by repeat (first | exact HA9.out | apply UA.drew | apply UA.drewN | apply UA.alloc)) hb2)
            have HA10' := Lib.hid (UA.below (by repeat (first | exact HA10.out | apply UA.drew | apply UA.drewN | apply UA.alloc)) hb2)
            have HB' := Lib.hid (bl_bl (by repeat (first | exact HB.out | apply bl_drew | apply bl_drewN | apply bl_alloc)) hb2)
            clear hb2
            have HA9 := HA9'
            have HA10 := HA10'
            have HB := HB'
            clear HA9' HA10' HB'
            refine hK.out _ _ ?_ (fun hHeld => ?_)
            · (try dsimp only); (refine ⟨?_, ?_⟩ <;> repeat (first | exact HA9.out | exact HA10.out | apply UA.drew | apply UA.drewN | apply UA.alloc))
            clear hK K
            try simp only [Act.put, List.setIfInBounds_toArray, List.set_cons_zero, List.set_cons_succ]
            refine wpAnyH_ready (rs := [11]) (by kernel_rfl) (by simp) ?_
            refine AllReadyH.cons (by simp only [List.getElem?_toArray, List.getElem?_cons_succ, List.getElem?_cons_zero]; first | done | rfl) (fun K hK => ?_) ?_
            · skip
              refine step_call (by rfl) (msgE_any u.nm u.ver u.key _ OKU.out.nm OKU.out.key) (by go_simp) ?_
              rintro e v2 ⟨u2, rfl, hu2, hb2⟩
              refine ⟨_, rfl, ?_⟩
              obtain ⟨b2, c2, rfl⟩ := hu2.rd.shape
              have HA9' := Lib.hid (UA.below (by repeat (first | exact HA9.out | apply UA.drew | apply UA.drewN | apply UA.alloc)) hb2)
              have HA10' := Lib.hid (UA.below (by repeat (first | exact HA10.out | apply UA.drew | apply UA.drewN | apply UA.alloc)) hb2)
              have HB' := Lib.hid (bl_bl (by repeat (first | exact HB.out | apply bl_drew | apply bl_drewN | apply bl_alloc)) hb2)
              clear hb2
              have HA9 := HA9'
              have HA10 := HA10'
              have HB := HB'
              clear HA9' HA10' HB'
              have HM1 := Lib.hid hu2.rd
              clear hu2
              refine hK.out _ _ ?_ (fun hHeld => ?_)
              · (try dsimp only); (refine ⟨?_, ?_⟩ <;> repeat (first | exact HA9.out | exact HA10.out | apply UA.drew | apply UA.drewN | apply UA.alloc))
              clear hK K
              try simp only [Act.put, List.setIfInBounds_toArray, List.set_cons_zero, List.set_cons_succ]
              refine wpAnyH_ready (rs := [12, 14]) (by kernel_rfl) (by simp) ?_
              refine AllReadyH.cons (by simp only [List.getElem?_toArray, List.getElem?_cons_succ, List.getElem?_cons_zero]; first | done | rfl) (fun K hK => ?_) ?_
              · skip
                refine step_conv_bs (by rfl) (.tmp 42) rfl rfl (by repeat (first | exact HM1.out | apply rd_drew | apply rd_drewN | apply rd_alloc)) ?_
                refine hK.out _ _ ?_ (fun hHeld => ?_)
                · (try dsimp only); (refine ⟨?_, ?_⟩ <;> repeat (first | exact HA9.out | exact HA10.out | apply UA.drew | apply UA.drewN | apply UA.alloc))
                clear hK K
                try simp only [Act.put, List.setIfInBounds_toArray, List.set_cons_zero, List.set_cons_succ]
                refine wpAnyH_ready (rs := [14]) (by kernel_rfl) (by simp) ?_
                refine AllReadyH.cons (by simp only [List.getElem?_toArray, List.getElem?_cons_succ, List.getElem?_cons_zero]; first | done | rfl) (fun K hK => ?_) ?_
                · skip
                  refine step_call (by rfl) (entry_any x _) (by go_simp) ?_
                  rintro e v2 ⟨rfl, hb2⟩
                  refine ⟨_, rfl, ?_⟩
                  rw [HEN.out]
                  have HA9' := Lib.hid (UA.below (by repeat (first | exact HA9.out | apply UA.drew | apply UA.drewN | apply UA.alloc)) hb2)
                  have HA10' := Lib.hid (UA.below (by repeat (first | exact HA10.out | apply UA.drew | apply UA.drewN | apply UA.alloc)) hb2)
                  have HB' := Lib.hid (bl_bl (by repeat (first | exact HB.out | apply bl_drew | apply bl_drewN | apply bl_alloc)) hb2)
                  clear hb2
                  have HA9 := HA9'
                  have HA10 := HA10'
                  have HB := HB'
                  clear HA9' HA10' HB'
                  refine hK.out _ _ ?_ (fun hHeld => ?_)
                  · (try dsimp only); (refine ⟨?_, ?_⟩ <;> repeat (first | exact HA9.out | exact HA10.out | apply UA.drew | apply UA.drewN | apply UA.alloc))
                  clear hK K
                  try simp only [Act.put, List.setIfInBounds_toArray, List.set_cons_zero, List.set_cons_succ]
                  refine wpAnyH_ready (rs := [15]) (by kernel_rfl) (by simp) ?_
                  refine AllReadyH.cons (by simp only [List.getElem?_toArray, List.getElem?_cons_succ, List.getElem?_cons_zero]; first | done | rfl) (fun K hK => ?_) ?_
                  · skip
                    refine step_call (by rfl) (msgE_any u.nm u.ver u.key _ OKU.out.nm OKU.out.key) (by go_simp) ?_
                    rintro e v2 ⟨u2, rfl, hu2, hb2⟩
                    refine ⟨_, rfl, ?_⟩
                    obtain ⟨b2, c2, rfl⟩ := hu2.rd.shape
                    have HA9' := Lib.hid (UA.below (by repeat (first | exact HA9.out | apply UA.drew | apply UA.drewN | apply UA.alloc)) hb2)
                    have HA10' := Lib.hid (UA.below (by repeat (first | exact HA10.out | apply UA.drew | apply UA.drewN | apply UA.alloc)) hb2)
                    have HB' := Lib.hid (bl_bl (by repeat (first | exact HB.out | apply bl_drew | apply bl_drewN | apply bl_alloc)) hb2)
                    clear hb2
                    have HA9 := HA9'
                    have HA10 := HA10'
                    have HB := HB'
                    clear HA9' HA10' HB'
                    have HM2 := Lib.hid hu2.rd
                    clear hu2
                    refine hK.out _ _ ?_ (fun hHeld => ?_)
                    · (try dsimp only); (refine ⟨?_, ?_⟩ <;> repeat (first | exact HA9.out | exact HA10.out | apply UA.drew | apply UA.drewN | apply UA.alloc))
                    clear hK K
                    try simp only [Act.put, List.setIfInBounds_toArray, List.set_cons_zero, List.set_cons_succ]
                    refine wpAnyH_ready (rs := [16]) (by kernel_rfl) (by simp) ?_
                    refine AllReadyH.cons (by simp only [List.getElem?_toArray, List.getElem?_cons_succ, List.getElem?_cons_zero]; first | done | rfl) (fun K hK => ?_) ?_
                    · skip
                      refine step_conv_bs (by rfl) (.tmp 46) rfl rfl (by repeat (first | exact HM2.out | apply rd_drew | apply rd_drewN | apply rd_alloc)) ?_
                      refine hK.out _ _ ?_ (fun hHeld => ?_)
                      · (try dsimp only); (refine ⟨?_, ?_⟩ <;> repeat (first | exact HA9.out | exact HA10.out | apply UA.drew | apply UA.drewN | apply UA.alloc))
                      clear hK K
                      try simp only [Act.put, List.setIfInBounds_toArray, List.set_cons_zero, List.set_cons_succ]
                      refine wpAnyH_take (i := 17) (v := ?_) (by simp only [List.getElem?_toArray, List.getElem?_cons_succ, List.getElem?_cons_zero]; first | done | rfl) (by kernel_rfl) (by kernel_rfl) (by kernel_rfl) (fun _ _ _ h => h) (Or.inl ⟨by rfl, ?hy⟩) (by assumption) ?_
                      case hy => (intro w hSw; (try dsimp only at hSw); go_simp; all_goals with_reducible rfl)
                      try simp only [Act.put, List.setIfInBounds_toArray, List.set_cons_zero, List.set_cons_succ]
                      refine wpAnyH_take (i := 18) (v := ?_) (by simp only [List.getElem?_toArray, List.getElem?_cons_succ, List.getElem?_cons_zero]; first | done | rfl) (by kernel_rfl) (by kernel_rfl) (by kernel_rfl) (fun _ _ _ h => h) (Or.inl ⟨by rfl, ?hy⟩) (by assumption) ?_
                      case hy => (intro w hSw; (try dsimp only at hSw); go_simp; all_goals with_reducible rfl)
                      try simp only [Act.put, List.setIfInBounds_toArray, List.set_cons_zero, List.set_cons_succ]
                      refine wpAnyH_take (i := 19) (v := ?_) (by simp only [List.getElem?_toArray, List.getElem?_cons_succ, List.getElem?_cons_zero]; first | done | rfl) (by kernel_rfl) (by kernel_rfl) (by kernel_rfl) (fun _ _ _ h => h) (Or.inl ⟨by rfl, ?hy⟩) (by assumption) ?_
                      case hy => (intro w hSw; (try dsimp only at hSw); go_simp; all_goals with_reducible rfl)
                      try simp only [Act.put, List.setIfInBounds_toArray, List.set_cons_zero, List.set_cons_succ]
                      refine wpAnyH_take (i := 20) (by simp only [List.getElem?_toArray, List.getElem?_cons_succ, List.getElem?_cons_zero]; first | done | rfl) (by kernel_rfl) (by kernel_rfl) (by kernel_rfl) (fun _ _ _ h => h) (yields_up (by rfl) _ rfl g10 x rfl (fun w hw => hw.2)) (by assumption) ?_
                      try simp only [Act.put, List.setIfInBounds_toArray, List.set_cons_zero, List.set_cons_succ]
                      refine wpAnyH_take (i := 22) (v := ?_) (by simp only [List.getElem?_toArray, List.getElem?_cons_succ, List.getElem?_cons_zero]; first | done | rfl) (by kernel_rfl) (by kernel_rfl) (by kernel_rfl) (fun _ _ _ h => h) (Or.inl ⟨by rfl, ?hy⟩) (by assumption) ?_
                      case hy => (intro w hSw; (try dsimp only at hSw); go_simp; all_goals with_reducible rfl)
                      try simp only [Act.put, List.setIfInBounds_toArray, List.set_cons_zero, List.set_cons_succ]
                      refine wpAnyH_take (i := 23) (v := ?_) (by simp only [List.getElem?_toArray, List.getElem?_cons_succ, List.getElem?_cons_zero]; first | done | rfl) (by kernel_rfl) (by kernel_rfl) (by kernel_rfl) (fun _ _ _ h => h) (Or.inl ⟨by rfl, ?hy⟩) (by assumption) ?_
                      case hy => (intro w hSw; (try dsimp only at hSw); go_simp; all_goals with_reducible rfl)
                      try simp only [Act.put, List.setIfInBounds_toArray, List.set_cons_zero, List.set_cons_succ]
                      refine wpAnyH_ready (rs := [21]) (by kernel_rfl) (by simp) ?_
                      refine AllReadyH.cons (by simp only [List.getElem?_toArray, List.getElem?_cons_succ, List.getElem?_cons_zero]; first | done | rfl) (fun K hK => ?_) ?_
                      · skip
                        refine step_call (by rfl) (rightU_any x _) (by go_simp) ?_
                        rintro e v2 ⟨rfl, hb2⟩
                        refine ⟨_, rfl, ?_⟩
                        rw [HRW.out]
                        have HA9' := Lib.hid (UA.below (by repeat (first | exact HA9.out | apply UA.drew | apply UA.drewN | apply UA.alloc)) hb2)
                        have HA10' := Lib.hid (UA.below (by repeat (first | exact HA10.out | apply UA.drew | apply UA.drewN | apply UA.alloc)) hb2)
                        have HB' := Lib.hid (bl_bl (by repeat (first | exact HB.out | apply bl_drew | apply bl_drewN | apply bl_alloc)) hb2)
                        clear hb2
                        have HA9 := HA9'
                        have HA10 := HA10'
                        have HB := HB'
                        clear HA9' HA10' HB'
                        refine hK.out _ _ ?_ (fun hHeld => ?_)
                        · (try dsimp only); (refine ⟨?_, ?_⟩ <;> repeat (first | exact HA9.out | exact HA10.out | apply UA.drew | apply UA.drewN | apply UA.alloc))
                        clear hK K
                        try simp only [Act.put, List.setIfInBounds_toArray, List.set_cons_zero, List.set_cons_succ]
                        refine wpAnyH_take (i := 24) (v := ?_) (by simp only [List.getElem?_toArray, List.getElem?_cons_succ, List.getElem?_cons_zero]; first | done | rfl) (by kernel_rfl) (by kernel_rfl) (by kernel_rfl) (fun _ _ _ h => h) (Or.inl ⟨by rfl, ?hy⟩) (by assumption) ?_
                        case hy => (intro w hSw; (try dsimp only at hSw); go_simp; all_goals with_reducible rfl)
                        try simp only [Act.put, List.setIfInBounds_toArray, List.set_cons_zero, List.set_cons_succ]
                        refine wpAnyH_take (i := 25) (v := undef) (by simp only [List.getElem?_toArray, List.getElem?_cons_succ, List.getElem?_cons_zero]; first | done | rfl) (by kernel_rfl) (by kernel_rfl) (by kernel_rfl) (fun _ _ _ h => h) (Or.inr ⟨by rfl, rfl⟩) (by assumption) ?_
                        try simp only [Act.put, List.setIfInBounds_toArray, List.set_cons_zero, List.set_cons_succ]
                        refine wpAnyH_take (i := 26) (v := undef) (by simp only [List.getElem?_toArray, List.getElem?_cons_succ, List.getElem?_cons_zero]; first | done | rfl) (by kernel_rfl) (by kernel_rfl) (by kernel_rfl) (fun _ _ _ h => h) (Or.inr ⟨by rfl, rfl⟩) (by assumption) ?_
                        try simp only [Act.put, List.setIfInBounds_toArray, List.set_cons_zero, List.set_cons_succ]
                        refine wpAnyH_take (i := 27) (v := ?_) (by simp only [List.getElem?_toArray, List.getElem?_cons_succ, List.getElem?_cons_zero]; first | done | rfl) (by kernel_rfl) (by kernel_rfl) (by kernel_rfl) (fun _ _ _ h => h) (Or.inl ⟨by rfl, ?hy⟩) (by assumption) ?_
                        case hy => (intro w hSw; (try dsimp only at hSw); go_simp; all_goals with_reducible rfl)
                        try simp only [Act.put, List.setIfInBounds_toArray, List.set_cons_zero, List.set_cons_succ]
                        refine wpAnyH_take (i := 28) (v := ?_) (by simp only [List.getElem?_toArray, List.getElem?_cons_succ, List.getElem?_cons_zero]; first | done | rfl) (by kernel_rfl) (by kernel_rfl) (by kernel_rfl) (fun _ _ _ h => h) (Or.inl ⟨by rfl, ?hy⟩) (by assumption) ?_
                        case hy => (intro w hSw; (try dsimp only at hSw); go_simp; all_goals with_reducible rfl)
                        try simp only [Act.put, List.setIfInBounds_toArray, List.set_cons_zero, List.set_cons_succ]
                        refine wpAnyH_take (i := 29) (v := ?_) (by simp only [List.getElem?_toArray, List.getElem?_cons_succ, List.getElem?_cons_zero]; first | done | rfl) (by kernel_rfl) (by kernel_rfl) (by kernel_rfl) (fun _ _ _ h => h) (Or.inl ⟨by rfl, ?hy⟩) (by assumption) ?_
                        case hy => (intro w hSw; (try dsimp only at hSw); go_simp; all_goals with_reducible rfl)
                        try simp only [Act.put, List.setIfInBounds_toArray, List.set_cons_zero, List.set_cons_succ]
                        refine wpAnyH_take (i := 30) (v := ?_) (by simp only [List.getElem?_toArray, List.getElem?_cons_succ, List.getElem?_cons_zero]; first | done | rfl) (by kernel_rfl) (by kernel_rfl) (by kernel_rfl) (fun _ _ _ h => h) (Or.inl ⟨by rfl, ?hy⟩) (by assumption) ?_
                        case hy => (intro w hSw; (try dsimp only at hSw); go_simp; all_goals with_reducible rfl)
                        try simp only [Act.put, List.setIfInBounds_toArray, List.set_cons_zero, List.set_cons_succ]
                        refine wpAnyH_done (by kernel_rfl) ?_ _
                        refine NoPanic.normal ?_
                        go_wp2_with fail
                        go_ret
                        exact ⟨rfl, HB.out⟩
                      exact AllReadyH.nil
                    exact AllReadyH.nil
                  exact AllReadyH.nil
                exact AllReadyH.nil
              refine AllReadyH.cons (by simp only [List.getElem?_toArray, List.getElem?_cons_succ, List.getElem?_cons_zero]; first | done | rfl) (fun K hK => ?_) ?_
              · skip
                refine step_call (by rfl) (entry_any x _) (by go_simp) ?_
                rintro e v2 ⟨rfl, hb2⟩
                refine ⟨_, rfl, ?_⟩
                rw [HEN.out]
                have HA9' := Lib.hid (UA.below (by repeat (first | exact HA9.out | apply UA.drew | apply UA.drewN | apply UA.alloc)) hb2)
                have HA10' := Lib.hid (UA.below (by repeat (first | exact HA10.out | apply UA.drew | apply UA.drewN | apply UA.alloc)) hb2)
                have HB' := Lib.hid (bl_bl (by repeat (first | exact HB.out | apply bl_drew | apply bl_drewN | apply bl_alloc)) hb2)
                have HM1' := Lib.hid (Rd.below (by repeat (first | exact HM1.out | apply rd_drew | apply rd_drewN | apply rd_alloc)) hb2)
                clear hb2
                have HA9 := HA9'
                have HA10 := HA10'
                have HB := HB'
                have HM1 := HM1'
                clear HA9' HA10' HB' HM1'
                refine hK.out _ _ ?_ (fun hHeld => ?_)
                · (try dsimp only); (refine ⟨?_, ?_⟩ <;> repeat (first | exact HA9.out | exact HA10.out | apply UA.drew | apply UA.drewN | apply UA.alloc))
                clear hK K
                try simp only [Act.put, List.setIfInBounds_toArray, List.set_cons_zero, List.set_cons_succ]
                refine wpAnyH_ready (rs := [12, 15]) (by kernel_rfl) (by simp) ?_
                refine AllReadyH.cons (by simp only [List.getElem?_toArray, List.getElem?_cons_succ, List.getElem?_cons_zero]; first | done | rfl) (fun K hK => ?_) ?_
                · skip
                  refine step_conv_bs (by rfl) (.tmp 42) rfl rfl (by repeat (first | exact HM1.out | apply rd_drew | apply rd_drewN | apply rd_alloc)) ?_
                  refine hK.out _ _ ?_ (fun hHeld => ?_)
                  · (try dsimp only); (refine ⟨?_, ?_⟩ <;> repeat (first | exact HA9.out | exact HA10.out | apply UA.drew | apply UA.drewN | apply UA.alloc))
                  clear hK K
                  try simp only [Act.put, List.setIfInBounds_toArray, List.set_cons_zero, List.set_cons_succ]
                  refine wpAnyH_ready (rs := [15]) (by kernel_rfl) (by simp) ?_
                  refine AllReadyH.cons (by simp only [List.getElem?_toArray, List.getElem?_cons_succ, List.getElem?_cons_zero]; first | done | rfl) (fun K hK => ?_) ?_
                  · skip
                    refine step_call (by rfl) (msgE_any u.nm u.ver u.key _ OKU.out.nm OKU.out.key) (by go_simp) ?_
                    rintro e v2 ⟨u2, rfl, hu2, hb2⟩
                    refine ⟨_, rfl, ?_⟩
                    obtain ⟨b2, c2, rfl⟩ := hu2.rd.shape
                    have HA9' := Lib.hid (UA.below (by repeat (first | exact HA9.out | apply UA.drew | apply UA.drewN | apply UA.alloc)) hb2)
                    have HA10' := Lib.hid (UA.below (by repeat (first | exact HA10.out | apply UA.drew | apply UA.drewN | apply UA.alloc)) hb2)
                    have HB' := Lib.hid (bl_bl (by repeat (first | exact HB.out | apply bl_drew | apply bl_drewN | apply bl_alloc)) hb2)
                    clear hb2
                    have HA9 := HA9'
                    have HA10 := HA10'
                    have HB := HB'
                    clear HA9' HA10' HB'
                    have HM2 := Lib.hid hu2.rd
                    clear hu2
                    refine hK.out _ _ ?_ (fun hHeld => ?_)
                    · (try dsimp only); (refine ⟨?_, ?_⟩ <;> repeat (first | exact HA9.out | exact HA10.out | apply UA.drew | apply UA.drewN | apply UA.alloc))
                    clear hK K
                    try simp only [Act.put, List.setIfInBounds_toArray, List.set_cons_zero, List.set_cons_succ]
                    refine wpAnyH_ready (rs := [16]) (by kernel_rfl) (by simp) ?_
                    refine AllReadyH.cons (by simp only [List.getElem?_toArray, List.getElem?_cons_succ, List.getElem?_cons_zero]; first | done | rfl) (fun K hK => ?_) ?_
                    · skip
                      refine step_conv_bs (by rfl) (.tmp 46) rfl rfl (by repeat (first | exact HM2.out | apply rd_drew | apply rd_drewN | apply rd_alloc)) ?_
                      refine hK.out _ _ ?_ (fun hHeld => ?_)
                      · (try dsimp only); (refine ⟨?_, ?_⟩ <;> repeat (first | exact HA9.out | exact HA10.out | apply UA.drew | apply UA.drewN | apply UA.alloc))
                      clear hK K
                      try simp only [Act.put, List.setIfInBounds_toArray, List.set_cons_zero, List.set_cons_succ]
                      refine wpAnyH_take (i := 17) (v := ?_) (by simp only [List.getElem?_toArray, List.getElem?_cons_succ, List.getElem?_cons_zero]; first | done | rfl) (by kernel_rfl) (by kernel_rfl) (by kernel_rfl) (fun _ _ _ h => h) (Or.inl ⟨by rfl, ?hy⟩) (by assumption) ?_
                      case hy => (intro w hSw; (try dsimp only at hSw); go_simp; all_goals with_reducible rfl)
                      try simp only [Act.put, List.setIfInBounds_toArray, List.set_cons_zero, List.set_cons_succ]
                      refine wpAnyH_take (i := 18) (v := ?_) (by simp only [List.getElem?_toArray, List.getElem?_cons_succ, List.getElem?_cons_zero]; first | done | rfl) (by kernel_rfl) (by kernel_rfl) (by kernel_rfl) (fun _ _ _ h => h) (Or.inl ⟨by rfl, ?hy⟩) (by assumption) ?_
                      case hy => (intro w hSw; (try dsimp only at hSw); go_simp; all_goals with_reducible rfl)
                      try simp only [Act.put, List.setIfInBounds_toArray, List.set_cons_zero, List.set_cons_succ]
                      refine wpAnyH_take (i := 19) (v := ?_) (by simp only [List.getElem?_toArray, List.getElem?_cons_succ, List.getElem?_cons_zero]; first | done | rfl) (by kernel_rfl) (by kernel_rfl) (by kernel_rfl) (fun _ _ _ h => h) (Or.inl ⟨by rfl, ?hy⟩) (by assumption) ?_
                      case hy => (intro w hSw; (try dsimp only at hSw); go_simp; all_goals with_reducible rfl)
                      try simp only [Act.put, List.setIfInBounds_toArray, List.set_cons_zero, List.set_cons_succ]
                      refine wpAnyH_take (i := 20) (by simp only [List.getElem?_toArray, List.getElem?_cons_succ, List.getElem?_cons_zero]; first | done | rfl) (by kernel_rfl) (by kernel_rfl) (by kernel_rfl) (fun _ _ _ h => h) (yields_up (by rfl) _ rfl g10 x rfl (fun w hw => hw.2)) (by assumption) ?_
                      try simp only [Act.put, List.setIfInBounds_toArray, List.set_cons_zero, List.set_cons_succ]
                      refine wpAnyH_take (i := 22) (v := ?_) (by simp only [List.getElem?_toArray, List.getElem?_cons_succ, List.getElem?_cons_zero]; first | done | rfl) (by kernel_rfl) (by kernel_rfl) (by kernel_rfl) (fun _ _ _ h => h) (Or.inl ⟨by rfl, ?hy⟩) (by assumption) ?_
                      case hy => (intro w hSw; (try dsimp only at hSw); go_simp; all_goals with_reducible rfl)
                      try simp only [Act.put, List.setIfInBounds_toArray, List.set_cons_zero, List.set_cons_succ]
                      refine wpAnyH_take (i := 23) (v := ?_) (by simp only [List.getElem?_toArray, List.getElem?_cons_succ, List.getElem?_cons_zero]; first | done | rfl) (by kernel_rfl) (by kernel_rfl) (by kernel_rfl) (fun _ _ _ h => h) (Or.inl ⟨by rfl, ?hy⟩) (by assumption) ?_
                      case hy => (intro w hSw; (try dsimp only at hSw); go_simp; all_goals with_reducible rfl)
                      try simp only [Act.put, List.setIfInBounds_toArray, List.set_cons_zero, List.set_cons_succ]
                      refine wpAnyH_ready (rs := [21]) (by kernel_rfl) (by simp) ?_
                      refine AllReadyH.cons (by simp only [List.getElem?_toArray, List.getElem?_cons_succ, List.getElem?_cons_zero]; first | done | rfl) (fun K hK => ?_) ?_
                      · skip
                        refine step_call (by rfl) (rightU_any x _) (by go_simp) ?_
                        rintro e v2 ⟨rfl, hb2⟩
                        refine ⟨_, rfl, ?_⟩
                        rw [HRW.out]
                        have HA9' := Lib.hid (UA.below (by repeat (first | exact HA9.out | apply UA.drew | apply UA.drewN | apply UA.alloc)) hb2)
                        have HA10' := Lib.hid (UA.below (by repeat (first | exact HA10.out | apply UA.drew | apply UA.drewN | apply UA.alloc)) hb2)
                        have HB' := Lib.hid (bl_bl (by repeat (first | exact HB.out | apply bl_drew | apply bl_drewN | apply bl_alloc)) hb2)
                        clear hb2
                        have HA9 := HA9'
                        have HA10 := HA10'
                        have HB := HB'
                        clear HA9' HA10' HB'
                        refine hK.out _ _ ?_ (fun hHeld => ?_)
                        · (try dsimp only); (refine ⟨?_, ?_⟩ <;> repeat (first | exact HA9.out | exact HA10.out | apply UA.drew | apply UA.drewN | apply UA.alloc))
                        clear hK K
                        try simp only [Act.put, List.setIfInBounds_toArray, List.set_cons_zero, List.set_cons_succ]
                        refine wpAnyH_take (i := 24) (v := ?_) (by simp only [List.getElem?_toArray, List.getElem?_cons_succ, List.getElem?_cons_zero]; first | done | rfl) (by kernel_rfl) (by kernel_rfl) (by kernel_rfl) (fun _ _ _ h => h) (Or.inl ⟨by rfl, ?hy⟩) (by assumption) ?_
                        case hy => (intro w hSw; (try dsimp only at hSw); go_simp; all_goals with_reducible rfl)
                        try simp only [Act.put, List.setIfInBounds_toArray, List.set_cons_zero, List.set_cons_succ]
                        refine wpAnyH_take (i := 25) (v := undef) (by simp only [List.getElem?_toArray, List.getElem?_cons_succ, List.getElem?_cons_zero]; first | done | rfl) (by kernel_rfl) (by kernel_rfl) (by kernel_rfl) (fun _ _ _ h => h) (Or.inr ⟨by rfl, rfl⟩) (by assumption) ?_
                        try simp only [Act.put, List.setIfInBounds_toArray, List.set_cons_zero, List.set_cons_succ]
                        refine wpAnyH_take (i := 26) (v := undef) (by simp only [List.getElem?_toArray, List.getElem?_cons_succ, List.getElem?_cons_zero]; first | done | rfl) (by kernel_rfl) (by kernel_rfl) (by kernel_rfl) (fun _ _ _ h => h) (Or.inr ⟨by rfl, rfl⟩) (by assumption) ?_
                        try simp only [Act.put, List.setIfInBounds_toArray, List.set_cons_zero, List.set_cons_succ]
                        refine wpAnyH_take (i := 27) (v := ?_) (by simp only [List.getElem?_toArray, List.getElem?_cons_succ, List.getElem?_cons_zero]; first | done | rfl) (by kernel_rfl) (by kernel_rfl) (by kernel_rfl) (fun _ _ _ h => h) (Or.inl ⟨by rfl, ?hy⟩) (by assumption) ?_
                        case hy => (intro w hSw; (try dsimp only at hSw); go_simp; all_goals with_reducible rfl)
                        try simp only [Act.put, List.setIfInBounds_toArray, List.set_cons_zero, List.set_cons_succ]
                        refine wpAnyH_take (i := 28) (v := ?_) (by simp only [List.getElem?_toArray, List.getElem?_cons_succ, List.getElem?_cons_zero]; first | done | rfl) (by kernel_rfl) (by kernel_rfl) (by kernel_rfl) (fun _ _ _ h => h) (Or.inl ⟨by rfl, ?hy⟩) (by assumption) ?_
                        case hy => (intro w hSw; (try dsimp only at hSw); go_simp; all_goals with_reducible rfl)
                        try simp only [Act.put, List.setIfInBounds_toArray, List.set_cons_zero, List.set_cons_succ]
                        refine wpAnyH_take (i := 29) (v := ?_) (by simp only [List.getElem?_toArray, List.getElem?_cons_succ, List.getElem?_cons_zero]; first | done | rfl) (by kernel_rfl) (by kernel_rfl) (by kernel_rfl) (fun _ _ _ h => h) (Or.inl ⟨by rfl, ?hy⟩) (by assumption) ?_
                        case hy => (intro w hSw; (try dsimp only at hSw); go_simp; all_goals with_reducible rfl)
                        try simp only [Act.put, List.setIfInBounds_toArray, List.set_cons_zero, List.set_cons_succ]
                        refine wpAnyH_take (i := 30) (v := ?_) (by simp only [List.getElem?_toArray, List.getElem?_cons_succ, List.getElem?_cons_zero]; first | done | rfl) (by kernel_rfl) (by kernel_rfl) (by kernel_rfl) (fun _ _ _ h => h) (Or.inl ⟨by rfl, ?hy⟩) (by assumption) ?_
                        case hy => (intro w hSw; (try dsimp only at hSw); go_simp; all_goals with_reducible rfl)
                        try simp only [Act.put, List.setIfInBounds_toArray, List.set_cons_zero, List.set_cons_succ]
                        refine wpAnyH_done (by kernel_rfl) ?_ _
                        refine NoPanic.normal ?_
                        go_wp2_with fail
                        go_ret
                        exact ⟨rfl, HB.out⟩
                      exact AllReadyH.nil
                    exact AllReadyH.nil
                  exact AllReadyH.nil
                refine AllReadyH.cons (by simp only [List.getElem?_toArray, List.getElem?_cons_succ, List.getElem?_cons_zero]; first | done | rfl) (fun K hK => ?_) ?_
                · skip
                  refine step_call (by rfl) (msgE_any u.nm u.ver u.key _ OKU.out.nm OKU.out.key) (by go_simp) ?_
                  rintro e v2 ⟨u2, rfl, hu2, hb2⟩
                  refine ⟨_, rfl, ?_⟩
                  obtain ⟨b2, c2, rfl⟩ := hu2.rd.shape
                  have HA9' := Lib.hid (UA.below (by repeat (first | exact HA9.out | apply UA.drew | apply UA.drewN | apply UA.alloc)) hb2)
                  have HA10' := Lib.hid (UA.below (by repeat (first | exact HA10.out | apply UA.drew | apply UA.drewN | apply UA.alloc)) hb2)
                  have HB' := Lib.hid (bl_bl (by repeat (first | exact HB.out | apply bl_drew | apply bl_drewN | apply bl_alloc)) hb2)
                  have HM1' := Lib.hid (Rd.below (by repeat (first | exact HM1.out | apply rd_drew | apply rd_drewN | apply rd_alloc)) hb2)
                  clear hb2
                  have HA9 := HA9'
                  have HA10 := HA10'
                  have HB := HB'
                  have HM1 := HM1'
                  clear HA9' HA10' HB' HM1'
                  have HM2 := Lib.hid hu2.rd
                  clear hu2
                  refine hK.out _ _ ?_ (fun hHeld => ?_)
                  · (try dsimp only); (refine ⟨?_, ?_⟩ <;> repeat (first | exact HA9.out | exact HA10.out | apply UA.drew | apply UA.drewN | apply UA.alloc))
                  clear hK K
                  try simp only [Act.put, List.setIfInBounds_toArray, List.set_cons_zero, List.set_cons_succ]
                  refine wpAnyH_ready (rs := [12, 16]) (by kernel_rfl) (by simp) ?_
                  refine AllReadyH.cons (by simp only [List.getElem?_toArray, List.getElem?_cons_succ, List.getElem?_cons_zero]; first | done | rfl) (fun K hK => ?_) ?_
                  · skip
                    refine step_conv_bs (by rfl) (.tmp 42) rfl rfl (by repeat (first | exact HM1.out | apply rd_drew | apply rd_drewN | apply rd_alloc)) ?_
                    refine hK.out _ _ ?_ (fun hHeld => ?_)
                    · (try dsimp only); (refine ⟨?_, ?_⟩ <;> repeat (first | exact HA9.out | exact HA10.out | apply UA.drew | apply UA.drewN | apply UA.alloc))
                    clear hK K
                    try simp only [Act.put, List.setIfInBounds_toArray, List.set_cons_zero, List.set_cons_succ]
                    refine wpAnyH_ready (rs := [16]) (by kernel_rfl) (by simp) ?_
                    refine AllReadyH.cons (by simp only [List.getElem?_toArray, List.getElem?_cons_succ, List.getElem?_cons_zero]; first | done | rfl) (fun K hK => ?_) ?_
                    · skip
                      refine step_conv_bs (by rfl) (.tmp 46) rfl rfl (by repeat (first | exact HM2.out | apply rd_drew | apply rd_drewN | apply rd_alloc)) ?_
                      refine hK.out _ _ ?_ (fun hHeld => ?_)
                      · (try dsimp only); (refine ⟨?_, ?_⟩ <;> repeat (first | exact HA9.out | exact HA10.out | apply UA.drew | apply UA.drewN | apply UA.alloc))
                      clear hK K
                      try simp only [Act.put, List.setIfInBounds_toArray, List.set_cons_zero, List.set_cons_succ]
                      refine wpAnyH_take (i := 17) (v := ?_) (by simp only [List.getElem?_toArray, List.getElem?_cons_succ, List.getElem?_cons_zero]; first | done | rfl) (by kernel_rfl) (by kernel_rfl) (by kernel_rfl) (fun _ _ _ h => h) (Or.inl ⟨by rfl, ?hy⟩) (by assumption) ?_
                      case hy => (intro w hSw; (try dsimp only at hSw); go_simp; all_goals with_reducible rfl)
                      try simp only [Act.put, List.setIfInBounds_toArray, List.set_cons_zero, List.set_cons_succ]
                      refine wpAnyH_take (i := 18) (v := ?_) (by simp only [List.getElem?_toArray, List.getElem?_cons_succ, List.getElem?_cons_zero]; first | done | rfl) (by kernel_rfl) (by kernel_rfl) (by kernel_rfl) (fun _ _ _ h => h) (Or.inl ⟨by rfl, ?hy⟩) (by assumption) ?_
                      case hy => (intro w hSw; (try dsimp only at hSw); go_simp; all_goals with_reducible rfl)
                      try simp only [Act.put, List.setIfInBounds_toArray, List.set_cons_zero, List.set_cons_succ]
                      refine wpAnyH_take (i := 19) (v := ?_) (by simp only [List.getElem?_toArray, List.getElem?_cons_succ, List.getElem?_cons_zero]; first | done | rfl) (by kernel_rfl) (by kernel_rfl) (by kernel_rfl) (fun _ _ _ h => h) (Or.inl ⟨by rfl, ?hy⟩) (by assumption) ?_
                      case hy => (intro w hSw; (try dsimp only at hSw); go_simp; all_goals with_reducible rfl)
                      try simp only [Act.put, List.setIfInBounds_toArray, List.set_cons_zero, List.set_cons_succ]
                      refine wpAnyH_take (i := 20) (by simp only [List.getElem?_toArray, List.getElem?_cons_succ, List.getElem?_cons_zero]; first | done | rfl) (by kernel_rfl) (by kernel_rfl) (by kernel_rfl) (fun _ _ _ h => h) (yields_up (by rfl) _ rfl g10 x rfl (fun w hw => hw.2)) (by assumption) ?_
                      try simp only [Act.put, List.setIfInBounds_toArray, List.set_cons_zero, List.set_cons_succ]
                      refine wpAnyH_take (i := 22) (v := ?_) (by simp only [List.getElem?_toArray, List.getElem?_cons_succ, List.getElem?_cons_zero]; first | done | rfl) (by kernel_rfl) (by kernel_rfl) (by kernel_rfl) (fun _ _ _ h => h) (Or.inl ⟨by rfl, ?hy⟩) (by assumption) ?_
                      case hy => (intro w hSw; (try dsimp only at hSw); go_simp; all_goals with_reducible rfl)
                      try simp only [Act.put, List.setIfInBounds_toArray, List.set_cons_zero, List.set_cons_succ]
                      refine wpAnyH_take (i := 23) (v := ?_) (by simp only [List.getElem?_toArray, List.getElem?_cons_succ, List.getElem?_cons_zero]; first | done | rfl) (by kernel_rfl) (by kernel_rfl) (by kernel_rfl) (fun _ _ _ h => h) (Or.inl ⟨by rfl, ?hy⟩) (by assumption) ?_
                      case hy => (intro w hSw; (try dsimp only at hSw); go_simp; all_goals with_reducible rfl)
                      try simp only [Act.put, List.setIfInBounds_toArray, List.set_cons_zero, List.set_cons_succ]
                      refine wpAnyH_ready (rs := [21]) (by kernel_rfl) (by simp) ?_
                      refine AllReadyH.cons (by simp only [List.getElem?_toArray, List.getElem?_cons_succ, List.getElem?_cons_zero]; first | done | rfl) (fun K hK => ?_) ?_
                      · skip
                        refine step_call (by rfl) (rightU_any x _) (by go_simp) ?_
                        rintro e v2 ⟨rfl, hb2⟩
                        refine ⟨_, rfl, ?_⟩
                        rw [HRW.out]
                        have HA9' := Lib.hid (UA.below (by repeat (first | exact HA9.out | apply UA.drew | apply UA.drewN | apply UA.alloc)) hb2)
                        have HA10' := Lib.hid (UA.below (by repeat (first | exact HA10.out | apply UA.drew | apply UA.drewN | apply UA.alloc)) hb2)
                        have HB' := Lib.hid (bl_bl (by repeat (first | exact HB.out | apply bl_drew | apply bl_drewN | apply bl_alloc)) hb2)
                        clear hb2
                        have HA9 := HA9'
                        have HA10 := HA10'
                        have HB := HB'
                        clear HA9' HA10' HB'
                        refine hK.out _ _ ?_ (fun hHeld => ?_)
                        · (try dsimp only); (refine ⟨?_, ?_⟩ <;> repeat (first | exact HA9.out | exact HA10.out | apply UA.drew | apply UA.drewN | apply UA.alloc))
                        clear hK K
                        try simp only [Act.put, List.setIfInBounds_toArray, List.set_cons_zero, List.set_cons_succ]
                        refine wpAnyH_take (i := 24) (v := ?_) (by simp only [List.getElem?_toArray, List.getElem?_cons_succ, List.getElem?_cons_zero]; first | done | rfl) (by kernel_rfl) (by kernel_rfl) (by kernel_rfl) (fun _ _ _ h => h) (Or.inl ⟨by rfl, ?hy⟩) (by assumption) ?_
                        case hy => (intro w hSw; (try dsimp only at hSw); go_simp; all_goals with_reducible rfl)
                        try simp only [Act.put, List.setIfInBounds_toArray, List.set_cons_zero, List.set_cons_succ]
                        refine wpAnyH_take (i := 25) (v := undef) (by simp only [List.getElem?_toArray, List.getElem?_cons_succ, List.getElem?_cons_zero]; first | done | rfl) (by kernel_rfl) (by kernel_rfl) (by kernel_rfl) (fun _ _ _ h => h) (Or.inr ⟨by rfl, rfl⟩) (by assumption) ?_
                        try simp only [Act.put, List.setIfInBounds_toArray, List.set_cons_zero, List.set_cons_succ]
                        refine wpAnyH_take (i := 26) (v := undef) (by simp only [List.getElem?_toArray, List.getElem?_cons_succ, List.getElem?_cons_zero]; first | done | rfl) (by kernel_rfl) (by kernel_rfl) (by kernel_rfl) (fun _ _ _ h => h) (Or.inr ⟨by rfl, rfl⟩) (by assumption) ?_
                        try simp only [Act.put, List.setIfInBounds_toArray, List.set_cons_zero, List.set_cons_succ]
                        refine wpAnyH_take (i := 27) (v := ?_) (by simp only [List.getElem?_toArray, List.getElem?_cons_succ, List.getElem?_cons_zero]; first | done | rfl) (by kernel_rfl) (by kernel_rfl) (by kernel_rfl) (fun _ _ _ h => h) (Or.inl ⟨by rfl, ?hy⟩) (by assumption) ?_
                        case hy => (intro w hSw; (try dsimp only at hSw); go_simp; all_goals with_reducible rfl)
                        try simp only [Act.put, List.setIfInBounds_toArray, List.set_cons_zero, List.set_cons_succ]
                        refine wpAnyH_take (i := 28) (v := ?_) (by simp only [List.getElem?_toArray, List.getElem?_cons_succ, List.getElem?_cons_zero]; first | done | rfl) (by kernel_rfl) (by kernel_rfl) (by kernel_rfl) (fun _ _ _ h => h) (Or.inl ⟨by rfl, ?hy⟩) (by assumption) ?_
                        case hy => (intro w hSw; (try dsimp only at hSw); go_simp; all_goals with_reducible rfl)
                        try simp only [Act.put, List.setIfInBounds_toArray, List.set_cons_zero, List.set_cons_succ]
                        refine wpAnyH_take (i := 29) (v := ?_) (by simp only [List.getElem?_toArray, List.getElem?_cons_succ, List.getElem?_cons_zero]; first | done | rfl) (by kernel_rfl) (by kernel_rfl) (by kernel_rfl) (fun _ _ _ h => h) (Or.inl ⟨by rfl, ?hy⟩) (by assumption) ?_
                        case hy => (intro w hSw; (try dsimp only at hSw); go_simp; all_goals with_reducible rfl)
                        try simp only [Act.put, List.setIfInBounds_toArray, List.set_cons_zero, List.set_cons_succ]
                        refine wpAnyH_take (i := 30) (v := ?_) (by simp only [List.getElem?_toArray, List.getElem?_cons_succ, List.getElem?_cons_zero]; first | done | rfl) (by kernel_rfl) (by kernel_rfl) (by kernel_rfl) (fun _ _ _ h => h) (Or.inl ⟨by rfl, ?hy⟩) (by assumption) ?_
                        case hy => (intro w hSw; (try dsimp only at hSw); go_simp; all_goals with_reducible rfl)
                        try simp only [Act.put, List.setIfInBounds_toArray, List.set_cons_zero, List.set_cons_succ]
                        refine wpAnyH_done (by kernel_rfl) ?_ _
                        refine NoPanic.normal ?_
                        go_wp2_with fail
                        go_ret
                        exact ⟨rfl, HB.out⟩
                      exact AllReadyH.nil
                    exact AllReadyH.nil
                  refine AllReadyH.cons (by simp only [List.getElem?_toArray, List.getElem?_cons_succ, List.getElem?_cons_zero]; first | done | rfl) (fun K hK => ?_) ?_
                  · skip
                    refine step_conv_bs (by rfl) (.tmp 46) rfl rfl (by repeat (first | exact HM2.out | apply rd_drew | apply rd_drewN | apply rd_alloc)) ?_
                    refine hK.out _ _ ?_ (fun hHeld => ?_)
                    · (try dsimp only); (refine ⟨?_, ?_⟩ <;> repeat (first | exact HA9.out | exact HA10.out | apply UA.drew | apply UA.drewN | apply UA.alloc))
                    clear hK K
                    try simp only [Act.put, List.setIfInBounds_toArray, List.set_cons_zero, List.set_cons_succ]
                    refine wpAnyH_ready (rs := [12]) (by kernel_rfl) (by simp) ?_
                    refine AllReadyH.cons (by simp only [List.getElem?_toArray, List.getElem?_cons_succ, List.getElem?_cons_zero]; first | done | rfl) (fun K hK => ?_) ?_
                    · skip
                      refine step_conv_bs (by rfl) (.tmp 42) rfl rfl (by repeat (first | exact HM1.out | apply rd_drew | apply rd_drewN | apply rd_alloc)) ?_
                      refine hK.out _ _ ?_ (fun hHeld => ?_)
                      · (try dsimp only); (refine ⟨?_, ?_⟩ <;> repeat (first | exact HA9.out | exact HA10.out | apply UA.drew | apply UA.drewN | apply UA.alloc))
                      clear hK K
                      try simp only [Act.put, List.setIfInBounds_toArray, List.set_cons_zero, List.set_cons_succ]
                      refine wpAnyH_take (i := 17) (v := ?_) (by simp only [List.getElem?_toArray, List.getElem?_cons_succ, List.getElem?_cons_zero]; first | done | rfl) (by kernel_rfl) (by kernel_rfl) (by kernel_rfl) (fun _ _ _ h => h) (Or.inl ⟨by rfl, ?hy⟩) (by assumption) ?_
                      case hy => (intro w hSw; (try dsimp only at hSw); go_simp; all_goals with_reducible rfl)
                      try simp only [Act.put, List.setIfInBounds_toArray, List.set_cons_zero, List.set_cons_succ]
                      refine wpAnyH_take (i := 18) (v := ?_) (by simp only [List.getElem?_toArray, List.getElem?_cons_succ, List.getElem?_cons_zero]; first | done | rfl) (by kernel_rfl) (by kernel_rfl) (by kernel_rfl) (fun _ _ _ h => h) (Or.inl ⟨by rfl, ?hy⟩) (by assumption) ?_
                      case hy => (intro w hSw; (try dsimp only at hSw); go_simp; all_goals with_reducible rfl)
                      try simp only [Act.put, List.setIfInBounds_toArray, List.set_cons_zero, List.set_cons_succ]
                      refine wpAnyH_take (i := 19) (v := ?_) (by simp only [List.getElem?_toArray, List.getElem?_cons_succ, List.getElem?_cons_zero]; first | done | rfl) (by kernel_rfl) (by kernel_rfl) (by kernel_rfl) (fun _ _ _ h => h) (Or.inl ⟨by rfl, ?hy⟩) (by assumption) ?_
                      case hy => (intro w hSw; (try dsimp only at hSw); go_simp; all_goals with_reducible rfl)
                      try simp only [Act.put, List.setIfInBounds_toArray, List.set_cons_zero, List.set_cons_succ]
                      refine wpAnyH_take (i := 20) (by simp only [List.getElem?_toArray, List.getElem?_cons_succ, List.getElem?_cons_zero]; first | done | rfl) (by kernel_rfl) (by kernel_rfl) (by kernel_rfl) (fun _ _ _ h => h) (yields_up (by rfl) _ rfl g10 x rfl (fun w hw => hw.2)) (by assumption) ?_
                      try simp only [Act.put, List.setIfInBounds_toArray, List.set_cons_zero, List.set_cons_succ]
                      refine wpAnyH_take (i := 22) (v := ?_) (by simp only [List.getElem?_toArray, List.getElem?_cons_succ, List.getElem?_cons_zero]; first | done | rfl) (by kernel_rfl) (by kernel_rfl) (by kernel_rfl) (fun _ _ _ h => h) (Or.inl ⟨by rfl, ?hy⟩) (by assumption) ?_
                      case hy => (intro w hSw; (try dsimp only at hSw); go_simp; all_goals with_reducible rfl)
                      try simp only [Act.put, List.setIfInBounds_toArray, List.set_cons_zero, List.set_cons_succ]
                      refine wpAnyH_take (i := 23) (v := ?_) (by simp only [List.getElem?_toArray, List.getElem?_cons_succ, List.getElem?_cons_zero]; first | done | rfl) (by kernel_rfl) (by kernel_rfl) (by kernel_rfl) (fun _ _ _ h => h) (Or.inl ⟨by rfl, ?hy⟩) (by assumption) ?_
                      case hy => (intro w hSw; (try dsimp only at hSw); go_simp; all_goals with_reducible rfl)
                      try simp only [Act.put, List.setIfInBounds_toArray, List.set_cons_zero, List.set_cons_succ]
                      refine wpAnyH_ready (rs := [21]) (by kernel_rfl) (by simp) ?_
                      refine AllReadyH.cons (by simp only [List.getElem?_toArray, List.getElem?_cons_succ, List.getElem?_cons_zero]; first | done | rfl) (fun K hK => ?_) ?_
                      · skip
                        refine step_call (by rfl) (rightU_any x _) (by go_simp) ?_
                        rintro e v2 ⟨rfl, hb2⟩
                        refine ⟨_, rfl, ?_⟩
                        rw [HRW.out]
                        have HA9' := Lib.hid (UA.below (by repeat (first | exact HA9.out | apply UA.drew | apply UA.drewN | apply UA.alloc)) hb2)
                        have HA10' := Lib.hid (UA.below (by repeat (first | exact HA10.out | apply UA.drew | apply UA.drewN | apply UA.alloc)) hb2)
                        have HB' := Lib.hid (bl_bl (by repeat (first | exact HB.out | apply bl_drew | apply bl_drewN | apply bl_alloc)) hb2)
                        clear hb2
                        have HA9 := HA9'
                        have HA10 := HA10'
                        have HB := HB'
                        clear HA9' HA10' HB'
                        refine hK.out _ _ ?_ (fun hHeld => ?_)
                        · (try dsimp only); (refine ⟨?_, ?_⟩ <;> repeat (first | exact HA9.out | exact HA10.out | apply UA.drew | apply UA.drewN | apply UA.alloc))
                        clear hK K
                        try simp only [Act.put, List.setIfInBounds_toArray, List.set_cons_zero, List.set_cons_succ]
                        refine wpAnyH_take (i := 24) (v := ?_) (by simp only [List.getElem?_toArray, List.getElem?_cons_succ, List.getElem?_cons_zero]; first | done | rfl) (by kernel_rfl) (by kernel_rfl) (by kernel_rfl) (fun _ _ _ h => h) (Or.inl ⟨by rfl, ?hy⟩) (by assumption) ?_
                        case hy => (intro w hSw; (try dsimp only at hSw); go_simp; all_goals with_reducible rfl)
                        try simp only [Act.put, List.setIfInBounds_toArray, List.set_cons_zero, List.set_cons_succ]
                        refine wpAnyH_take (i := 25) (v := undef) (by simp only [List.getElem?_toArray, List.getElem?_cons_succ, List.getElem?_cons_zero]; first | done | rfl) (by kernel_rfl) (by kernel_rfl) (by kernel_rfl) (fun _ _ _ h => h) (Or.inr ⟨by rfl, rfl⟩) (by assumption) ?_
                        try simp only [Act.put, List.setIfInBounds_toArray, List.set_cons_zero, List.set_cons_succ]
                        refine wpAnyH_take (i := 26) (v := undef) (by simp only [List.getElem?_toArray, List.getElem?_cons_succ, List.getElem?_cons_zero]; first | done | rfl) (by kernel_rfl) (by kernel_rfl) (by kernel_rfl) (fun _ _ _ h => h) (Or.inr ⟨by rfl, rfl⟩) (by assumption) ?_
                        try simp only [Act.put, List.setIfInBounds_toArray, List.set_cons_zero, List.set_cons_succ]
                        refine wpAnyH_take (i := 27) (v := ?_) (by simp only [List.getElem?_toArray, List.getElem?_cons_succ, List.getElem?_cons_zero]; first | done | rfl) (by kernel_rfl) (by kernel_rfl) (by kernel_rfl) (fun _ _ _ h => h) (Or.inl ⟨by rfl, ?hy⟩) (by assumption) ?_
                        case hy => (intro w hSw; (try dsimp only at hSw); go_simp; all_goals with_reducible rfl)
                        try simp only [Act.put, List.setIfInBounds_toArray, List.set_cons_zero, List.set_cons_succ]
                        refine wpAnyH_take (i := 28) (v := ?_) (by simp only [List.getElem?_toArray, List.getElem?_cons_succ, List.getElem?_cons_zero]; first | done | rfl) (by kernel_rfl) (by kernel_rfl) (by kernel_rfl) (fun _ _ _ h => h) (Or.inl ⟨by rfl, ?hy⟩) (by assumption) ?_
                        case hy => (intro w hSw; (try dsimp only at hSw); go_simp; all_goals with_reducible rfl)
                        try simp only [Act.put, List.setIfInBounds_toArray, List.set_cons_zero, List.set_cons_succ]
                        refine wpAnyH_take (i := 29) (v := ?_) (by simp only [List.getElem?_toArray, List.getElem?_cons_succ, List.getElem?_cons_zero]; first | done | rfl) (by kernel_rfl) (by kernel_rfl) (by kernel_rfl) (fun _ _ _ h => h) (Or.inl ⟨by rfl, ?hy⟩) (by assumption) ?_
                        case hy => (intro w hSw; (try dsimp only at hSw); go_simp; all_goals with_reducible rfl)
                        try simp only [Act.put, List.setIfInBounds_toArray, List.set_cons_zero, List.set_cons_succ]
                        refine wpAnyH_take (i := 30) (v := ?_) (by simp only [List.getElem?_toArray, List.getElem?_cons_succ, List.getElem?_cons_zero]; first | done | rfl) (by kernel_rfl) (by kernel_rfl) (by kernel_rfl) (fun _ _ _ h => h) (Or.inl ⟨by rfl, ?hy⟩) (by assumption) ?_
                        case hy => (intro w hSw; (try dsimp only at hSw); go_simp; all_goals with_reducible rfl)
                        try simp only [Act.put, List.setIfInBounds_toArray, List.set_cons_zero, List.set_cons_succ]
                        refine wpAnyH_done (by kernel_rfl) ?_ _
                        refine NoPanic.normal ?_
                        go_wp2_with fail
                        go_ret
                        exact ⟨rfl, HB.out⟩
                      exact AllReadyH.nil
                    exact AllReadyH.nil
                  exact AllReadyH.nil
                exact AllReadyH.nil
              exact AllReadyH.nil
            exact AllReadyH.nil
          exact AllReadyH.nil
        exact AllReadyH.nil
      exact AllReadyH.nil
    by_cases e1 : cls = 1
    · subst e1
      have hrw := HRW.out
      rw [show (((1 : Int) == 0) || ((1 : Int) == 1)) = true from rfl] at hrw
      clear HRW
      have HRW := Lib.hid hrw
      clear hrw
      refine wp_region_noPanic ?_
      refine wp_region_held_drew (S := (fun w' => UA g9 u w' ∧ UA g10 x w')) (by kernel_rfl) ?_ (fun hHeld => ?_)
      · (try dsimp only); (refine ⟨?_, ?_⟩ <;> repeat (first | exact HA9.out | exact HA10.out | apply UA.drew | apply UA.drewN | apply UA.alloc))
      refine wpAnyH_take (i := 0) (by simp only [List.getElem?_toArray, List.getElem?_cons_succ, List.getElem?_cons_zero]; first | done | rfl) (by kernel_rfl) (by kernel_rfl) (by kernel_rfl) (fun _ _ _ h => h) (yields_up (by rfl) _ rfl g9 u rfl (fun w hw => hw.1)) (by assumption) ?_
      try simp only [Act.put, List.setIfInBounds_toArray, List.set_cons_zero, List.set_cons_succ]
      refine wpAnyH_take (i := 1) (v := ?_) (by simp only [List.getElem?_toArray, List.getElem?_cons_succ, List.getElem?_cons_zero]; first | done | rfl) (by kernel_rfl) (by kernel_rfl) (by kernel_rfl) (fun _ _ _ h => h) (Or.inl ⟨by rfl, ?hy⟩) (by assumption) ?_
      case hy => (intro w hSw; (try dsimp only at hSw); go_simp; all_goals with_reducible rfl)
      try simp only [Act.put, List.setIfInBounds_toArray, List.set_cons_zero, List.set_cons_succ]
      refine wpAnyH_ready (rs := [2]) (by kernel_rfl) (by simp) ?_
      refine AllReadyH.cons (by simp only [List.getElem?_toArray, List.getElem?_cons_succ, List.getElem?_cons_zero]; first | done | rfl) (fun K hK => ?_) ?_
      · skip
        refine step_call (by rfl) (checkU_any key u _ hk0 hk1 OKU.out) (by go_simp) ?_
        rintro e v2 ⟨rfl, hb2⟩
        refine ⟨_, rfl, ?_⟩
        rw [HC1.out]
        have HA9' := Lib.hid (UA.below (by repeat (first | exact HA9.out | apply UA.drew | apply UA.drewN | apply UA.alloc)) hb2)
        have HA10' := Lib.hid (UA.below (by repeat (first | exact HA10.out | apply UA.drew | apply UA.drewN | apply UA.alloc)) hb2)
        have HB' := Lib.hid (bl_bl (by repeat (first | exact HB.out | apply bl_drew | apply bl_drewN | apply bl_alloc)) hb2)
        clear hb2
        have HA9 := HA9'
        have HA10 := HA10'
        have HB := HB'
        clear HA9' HA10' HB'
        refine hK.out _ _ ?_ (fun hHeld => ?_)
        · (try dsimp only); (refine ⟨?_, ?_⟩ <;> repeat (first | exact HA9.out | exact HA10.out | apply UA.drew | apply UA.drewN | apply UA.alloc))
        clear hK K
        try simp only [Act.put, List.setIfInBounds_toArray, List.set_cons_zero, List.set_cons_succ]
        refine wpAnyH_take (i := 3) (v := ?_) (by simp only [List.getElem?_toArray, List.getElem?_cons_succ, List.getElem?_cons_zero]; first | done | rfl) (by kernel_rfl) (by kernel_rfl) (by kernel_rfl) (fun _ _ _ h => h) (Or.inl ⟨by rfl, ?hy⟩) (by assumption) ?_
        case hy => (intro w hSw; (try dsimp only at hSw); go_simp; all_goals with_reducible rfl)
        try simp only [Act.put, List.setIfInBounds_toArray, List.set_cons_zero, List.set_cons_succ]
        refine wpAnyH_take (i := 4) (by simp only [List.getElem?_toArray, List.getElem?_cons_succ, List.getElem?_cons_zero]; first | done | rfl) (by kernel_rfl) (by kernel_rfl) (by kernel_rfl) (fun _ _ _ h => h) (yields_up (by rfl) _ rfl g10 x rfl (fun w hw => hw.2)) (by assumption) ?_
        try simp only [Act.put, List.setIfInBounds_toArray, List.set_cons_zero, List.set_cons_succ]
        refine wpAnyH_take (i := 5) (v := ?_) (by simp only [List.getElem?_toArray, List.getElem?_cons_succ, List.getElem?_cons_zero]; first | done | rfl) (by kernel_rfl) (by kernel_rfl) (by kernel_rfl) (fun _ _ _ h => h) (Or.inl ⟨by rfl, ?hy⟩) (by assumption) ?_
        case hy => (intro w hSw; (try dsimp only at hSw); go_simp; all_goals with_reducible rfl)
        try simp only [Act.put, List.setIfInBounds_toArray, List.set_cons_zero, List.set_cons_succ]
        refine wpAnyH_ready (rs := [6]) (by kernel_rfl) (by simp) ?_
        refine AllReadyH.cons (by simp only [List.getElem?_toArray, List.getElem?_cons_succ, List.getElem?_cons_zero]; first | done | rfl) (fun K hK => ?_) ?_
        · skip
          refine step_call (by rfl) (checkU_any key x _ hk0 hk1 OKX.out) (by go_simp) ?_
          rintro e v2 ⟨rfl, hb2⟩
          refine ⟨_, rfl, ?_⟩
          rw [HC2.out]
          have HA9' := Lib.hid (UA.below (by repeat (first | exact HA9.out | apply UA.drew | apply UA.drewN | apply UA.alloc)) hb2)
          have HA10' := Lib.hid (UA.below (by repeat (first | exact HA10.out | apply UA.drew | apply UA.drewN | apply UA.alloc)) hb2)
          have HB' := Lib.hid (bl_bl (by repeat (first | exact HB.out | apply bl_drew | apply bl_drewN | apply bl_alloc)) hb2)
          clear hb2
          have HA9 := HA9'
          have HA10 := HA10'
          have HB := HB'
          clear HA9' HA10' HB'
          refine hK.out _ _ ?_ (fun hHeld => ?_)
          · (try dsimp only); (refine ⟨?_, ?_⟩ <;> repeat (first | exact HA9.out | exact HA10.out | apply UA.drew | apply UA.drewN | apply UA.alloc))
          clear hK K
          try simp only [Act.put, List.setIfInBounds_toArray, List.set_cons_zero, List.set_cons_succ]
          refine wpAnyH_take (i := 7) (v := ?_) (by simp only [List.getElem?_toArray, List.getElem?_cons_succ, List.getElem?_cons_zero]; first | done | rfl) (by kernel_rfl) (by kernel_rfl) (by kernel_rfl) (fun _ _ _ h => h) (Or.inl ⟨by rfl, ?hy⟩) (by assumption) ?_
          case hy => (intro w hSw; (try dsimp only at hSw); go_simp; all_goals with_reducible rfl)
          try simp only [Act.put, List.setIfInBounds_toArray, List.set_cons_zero, List.set_cons_succ]
          refine wpAnyH_take (i := 8) (v := ?_) (by simp only [List.getElem?_toArray, List.getElem?_cons_succ, List.getElem?_cons_zero]; first | done | rfl) (by kernel_rfl) (by kernel_rfl) (by kernel_rfl) (fun _ _ _ h => h) (Or.inl ⟨by rfl, ?hy⟩) (by assumption) ?_
          case hy => (intro w hSw; (try dsimp only at hSw); go_simp; all_goals with_reducible rfl)
          try simp only [Act.put, List.setIfInBounds_toArray, List.set_cons_zero, List.set_cons_succ]
          refine wpAnyH_take (i := 9) (by simp only [List.getElem?_toArray, List.getElem?_cons_succ, List.getElem?_cons_zero]; first | done | rfl) (by kernel_rfl) (by kernel_rfl) (by kernel_rfl) (fun _ _ _ h => h) (yields_up (by rfl) _ rfl g9 u rfl (fun w hw => hw.1)) (by assumption) ?_
          try simp only [Act.put, List.setIfInBounds_toArray, List.set_cons_zero, List.set_cons_succ]
          refine wpAnyH_take (i := 13) (by simp only [List.getElem?_toArray, List.getElem?_cons_succ, List.getElem?_cons_zero]; first | done | rfl) (by kernel_rfl) (by kernel_rfl) (by kernel_rfl) (fun _ _ _ h => h) (yields_up (by rfl) _ rfl g10 x rfl (fun w hw => hw.2)) (by assumption) ?_
          try simp only [Act.put, List.setIfInBounds_toArray, List.set_cons_zero, List.set_cons_succ]
          refine wpAnyH_ready (rs := [10]) (by kernel_rfl) (by simp) ?_
          refine AllReadyH.cons (by simp only [List.getElem?_toArray, List.getElem?_cons_succ, List.getElem?_cons_zero]; first | done | rfl) (fun K hK => ?_) ?_
          · skip
            refine step_call (by rfl) (entry_any u _) (by go_simp) ?_
            rintro e v2 ⟨rfl, hb2⟩
            refine ⟨_, rfl, ?_⟩
            have HA9' := Lib.hid (UA.below (by repeat (first | exact HA9.out | apply UA.drew | apply UA.drewN | apply UA.alloc)) hb2)
            have HA10' := Lib.hid (UA.below (by repeat (first | exact HA10.out | apply UA.drew | apply UA.drewN | apply UA.alloc)) hb2)
            have HB' := Lib.hid (bl_bl (by repeat (first | exact HB.out | apply bl_drew | apply bl_drewN | apply bl_alloc)) hb2)
            clear hb2
            have HA9 := HA9'
            have HA10 := HA10'
            have HB := HB'
            clear HA9' HA10' HB'
            refine hK.out _ _ ?_ (fun hHeld => ?_)
            · (try dsimp only); (refine ⟨?_, ?_⟩ <;> repeat (first | exact HA9.out | exact HA10.out | apply UA.drew | apply UA.drewN | apply UA.alloc))
            clear hK K
            try simp only [Act.put, List.setIfInBounds_toArray, List.set_cons_zero, List.set_cons_succ]
            refine wpAnyH_ready (rs := [11]) (by kernel_rfl) (by simp) ?_
            refine AllReadyH.cons (by simp only [List.getElem?_toArray, List.getElem?_cons_succ, List.getElem?_cons_zero]; first | done | rfl) (fun K hK => ?_) ?_
            · skip
              refine step_call (by rfl) (msgE_any u.nm u.ver u.key _ OKU.out.nm OKU.out.key) (by go_simp) ?_
              rintro e v2 ⟨u2, rfl, hu2, hb2⟩
              refine ⟨_, rfl, ?_⟩
              obtain ⟨b2, c2, rfl⟩ := hu2.rd.shape
              have HA9' := Lib.hid (UA.below (by repeat (first | exact HA9.out | apply UA.drew | apply UA.drewN | apply UA.alloc)) hb2)
              have HA10' := Lib.hid (UA.below (by repeat (first | exact HA10.out | apply UA.drew | apply UA.drewN | apply UA.alloc)) hb2)
              have HB' := Lib.hid (bl_bl (by repeat (first | exact HB.out | apply bl_drew | apply bl_drewN | apply bl_alloc)) hb2)
              clear hb2
              have HA9 := HA9'
              have HA10 := HA10'
              have HB := HB'
              clear HA9' HA10' HB'
              have HM1 := Lib.hid hu2.rd
              clear hu2
              refine hK.out _ _ ?_ (fun hHeld => ?_)
              · (try dsimp only); (refine ⟨?_, ?_⟩ <;> repeat (first | exact HA9.out | exact HA10.out | apply UA.drew | apply UA.drewN | apply UA.alloc))
              clear hK K
              try simp only [Act.put, List.setIfInBounds_toArray, List.set_cons_zero, List.set_cons_succ]
              refine wpAnyH_ready (rs := [12, 14]) (by kernel_rfl) (by simp) ?_
              refine AllReadyH.cons (by simp only [List.getElem?_toArray, List.getElem?_cons_succ, List.getElem?_cons_zero]; first | done | rfl) (fun K hK => ?_) ?_
              · skip
                refine step_conv_bs (by rfl) (.tmp 42) rfl rfl (by repeat (first | exact HM1.out | apply rd_drew | apply rd_drewN | apply rd_alloc)) ?_
                refine hK.out _ _ ?_ (fun hHeld => ?_)
                · (try dsimp only); (refine ⟨?_, ?_⟩ <;> repeat (first | exact HA9.out | exact HA10.out | apply UA.drew | apply UA.drewN | apply UA.alloc))
                clear hK K
                try simp only [Act.put, List.setIfInBounds_toArray, List.set_cons_zero, List.set_cons_succ]
                refine wpAnyH_ready (rs := [14]) (by kernel_rfl) (by simp) ?_
                refine AllReadyH.cons (by simp only [List.getElem?_toArray, List.getElem?_cons_succ, List.getElem?_cons_zero]; first | done | rfl) (fun K hK => ?_) ?_
                · skip
                  refine step_call (by rfl) (entry_any x _) (by go_simp) ?_
                  rintro e v2 ⟨rfl, hb2⟩
                  refine ⟨_, rfl, ?_⟩
                  rw [HEN.out]
                  have HA9' := Lib.hid (UA.below (by repeat (first | exact HA9.out | apply UA.drew | apply UA.drewN | apply UA.alloc)) hb2)
                  have HA10' := Lib.hid (UA.below (by repeat (first | exact HA10.out | apply UA.drew | apply UA.drewN | apply UA.alloc)) hb2)
                  have HB' := Lib.hid (bl_bl (by repeat (first | exact HB.out | apply bl_drew | apply bl_drewN | apply bl_alloc)) hb2)
                  clear hb2
                  have HA9 := HA9'
                  have HA10 := HA10'
                  have HB := HB'
                  clear HA9' HA10' HB'
                  refine hK.out _ _ ?_ (fun hHeld => ?_)
                  · (try dsimp only); (refine ⟨?_, ?_⟩ <;> repeat (first | exact HA9.out | exact HA10.out | apply UA.drew | apply UA.drewN | apply UA.alloc))
                  clear hK K
                  try simp only [Act.put, List.setIfInBounds_toArray, List.set_cons_zero, List.set_cons_succ]
                  refine wpAnyH_ready (rs := [15]) (by kernel_rfl) (by simp) ?_
                  refine AllReadyH.cons (by simp only [List.getElem?_toArray, List.getElem?_cons_succ, List.getElem?_cons_zero]; first | done | rfl) (fun K hK => ?_) ?_
                  · skip
                    refine step_call (by rfl) (msgE_any u.nm u.ver u.key _ OKU.out.nm OKU.out.key) (by go_simp) ?_
                    rintro e v2 ⟨u2, rfl, hu2, hb2⟩
                    refine ⟨_, rfl, ?_⟩
                    obtain ⟨b2, c2, rfl⟩ := hu2.rd.shape
                    have HA9' := Lib.hid (UA.below (by repeat (first | exact HA9.out | apply UA.drew | apply UA.drewN | apply UA.alloc)) hb2)
                    have HA10' := Lib.hid (UA.below (by repeat (first | exact HA10.out | apply UA.drew | apply UA.drewN | apply UA.alloc)) hb2)
                    have HB' := Lib.hid (bl_bl (by repeat (first | exact HB.out | apply bl_drew | apply bl_drewN | apply bl_alloc)) hb2)
                    clear hb2
                    have HA9 := HA9'
                    have HA10 := HA10'
                    have HB := HB'
                    clear HA9' HA10' HB'
                    have HM2 := Lib.hid hu2.rd
                    clear hu2
                    refine hK.out _ _ ?_ (fun hHeld => ?_)
                    · (try dsimp only); (refine ⟨?_, ?_⟩ <;> repeat (first | exact HA9.out | exact HA10.out | apply UA.drew | apply UA.drewN | apply UA.alloc))
                    clear hK K
                    try simp only [Act.put, List.setIfInBounds_toArray, List.set_cons_zero, List.set_cons_succ]
                    refine wpAnyH_ready (rs := [16]) (by kernel_rfl) (by simp) ?_
                    refine AllReadyH.cons (by simp only [List.getElem?_toArray, List.getElem?_cons_succ, List.getElem?_cons_zero]; first | done | rfl) (fun K hK => ?_) ?_
                    · skip
                      refine step_conv_bs (by rfl) (.tmp 46) rfl rfl (by repeat (first | exact HM2.out | apply rd_drew | apply rd_drewN | apply rd_alloc)) ?_
                      refine hK.out _ _ ?_ (fun hHeld => ?_)
                      · (try dsimp only); (refine ⟨?_, ?_⟩ <;> repeat (first | exact HA9.out | exact HA10.out | apply UA.drew | apply UA.drewN | apply UA.alloc))
                      clear hK K
                      try simp only [Act.put, List.setIfInBounds_toArray, List.set_cons_zero, List.set_cons_succ]
                      refine wpAnyH_take (i := 17) (v := ?_) (by simp only [List.getElem?_toArray, List.getElem?_cons_succ, List.getElem?_cons_zero]; first | done | rfl) (by kernel_rfl) (by kernel_rfl) (by kernel_rfl) (fun _ _ _ h => h) (Or.inl ⟨by rfl, ?hy⟩) (by assumption) ?_
                      case hy => (intro w hSw; (try dsimp only at hSw); go_simp; all_goals with_reducible rfl)
                      try simp only [Act.put, List.setIfInBounds_toArray, List.set_cons_zero, List.set_cons_succ]
                      refine wpAnyH_take (i := 18) (v := ?_) (by simp only [List.getElem?_toArray, List.getElem?_cons_succ, List.getElem?_cons_zero]; first | done | rfl) (by kernel_rfl) (by kernel_rfl) (by kernel_rfl) (fun _ _ _ h => h) (Or.inl ⟨by rfl, ?hy⟩) (by assumption) ?_
                      case hy => (intro w hSw; (try dsimp only at hSw); go_simp; all_goals with_reducible rfl)
                      try simp only [Act.put, List.setIfInBounds_toArray, List.set_cons_zero, List.set_cons_succ]
                      refine wpAnyH_take (i := 19) (v := ?_) (by simp only [List.getElem?_toArray, List.getElem?_cons_succ, List.getElem?_cons_zero]; first | done | rfl) (by kernel_rfl) (by kernel_rfl) (by kernel_rfl) (fun _ _ _ h => h) (Or.inl ⟨by rfl, ?hy⟩) (by assumption) ?_
                      case hy => (intro w hSw; (try dsimp only at hSw); go_simp; all_goals with_reducible rfl)
                      try simp only [Act.put, List.setIfInBounds_toArray, List.set_cons_zero, List.set_cons_succ]
                      refine wpAnyH_take (i := 20) (by simp only [List.getElem?_toArray, List.getElem?_cons_succ, List.getElem?_cons_zero]; first | done | rfl) (by kernel_rfl) (by kernel_rfl) (by kernel_rfl) (fun _ _ _ h => h) (yields_up (by rfl) _ rfl g10 x rfl (fun w hw => hw.2)) (by assumption) ?_
                      try simp only [Act.put, List.setIfInBounds_toArray, List.set_cons_zero, List.set_cons_succ]
                      refine wpAnyH_take (i := 22) (v := ?_) (by simp only [List.getElem?_toArray, List.getElem?_cons_succ, List.getElem?_cons_zero]; first | done | rfl) (by kernel_rfl) (by kernel_rfl) (by kernel_rfl) (fun _ _ _ h => h) (Or.inl ⟨by rfl, ?hy⟩) (by assumption) ?_
                      case hy => (intro w hSw; (try dsimp only at hSw); go_simp; all_goals with_reducible rfl)
                      try simp only [Act.put, List.setIfInBounds_toArray, List.set_cons_zero, List.set_cons_succ]
                      refine wpAnyH_take (i := 23) (v := ?_) (by simp only [List.getElem?_toArray, List.getElem?_cons_succ, List.getElem?_cons_zero]; first | done | rfl) (by kernel_rfl) (by kernel_rfl) (by kernel_rfl) (fun _ _ _ h => h) (Or.inl ⟨by rfl, ?hy⟩) (by assumption) ?_
                      case hy => (intro w hSw; (try dsimp only at hSw); go_simp; all_goals with_reducible rfl)
                      try simp only [Act.put, List.setIfInBounds_toArray, List.set_cons_zero, List.set_cons_succ]
                      refine wpAnyH_ready (rs := [21]) (by kernel_rfl) (by simp) ?_
                      refine AllReadyH.cons (by simp only [List.getElem?_toArray, List.getElem?_cons_succ, List.getElem?_cons_zero]; first | done | rfl) (fun K hK => ?_) ?_
                      · skip
                        refine step_call (by rfl) (rightU_any x _) (by go_simp) ?_
                        rintro e v2 ⟨rfl, hb2⟩
                        refine ⟨_, rfl, ?_⟩
                        rw [HRW.out]
                        have HA9' := Lib.hid (UA.below (by repeat (first | exact HA9.out | apply UA.drew | apply UA.drewN | apply UA.alloc)) hb2)
                        have HA10' := Lib.hid (UA.below (by repeat (first | exact HA10.out | apply UA.drew | apply UA.drewN | apply UA.alloc)) hb2)
                        have HB' := Lib.hid (bl_bl (by repeat (first | exact HB.out | apply bl_drew | apply bl_drewN | apply bl_alloc)) hb2)
                        clear hb2
                        have HA9 := HA9'
                        have HA10 := HA10'
                        have HB := HB'
                        clear HA9' HA10' HB'
                        refine hK.out _ _ ?_ (fun hHeld => ?_)
                        · (try dsimp only); (refine ⟨?_, ?_⟩ <;> repeat (first | exact HA9.out | exact HA10.out | apply UA.drew | apply UA.drewN | apply UA.alloc))
                        clear hK K
                        try simp only [Act.put, List.setIfInBounds_toArray, List.set_cons_zero, List.set_cons_succ]
                        refine wpAnyH_take (i := 24) (v := ?_) (by simp only [List.getElem?_toArray, List.getElem?_cons_succ, List.getElem?_cons_zero]; first | done | rfl) (by kernel_rfl) (by kernel_rfl) (by kernel_rfl) (fun _ _ _ h => h) (Or.inl ⟨by rfl, ?hy⟩) (by assumption) ?_
                        case hy => (intro w hSw; (try dsimp only at hSw); go_simp; all_goals with_reducible rfl)
                        try simp only [Act.put, List.setIfInBounds_toArray, List.set_cons_zero, List.set_cons_succ]
                        refine wpAnyH_take (i := 25) (v := ?_) (by simp only [List.getElem?_toArray, List.getElem?_cons_succ, List.getElem?_cons_zero]; first | done | rfl) (by kernel_rfl) (by kernel_rfl) (by kernel_rfl) (fun _ _ _ h => h) (Or.inl ⟨by rfl, ?hy⟩) (by assumption) ?_
                        case hy => (intro w hSw; (try dsimp only at hSw); go_simp; all_goals with_reducible rfl)
                        try simp only [Act.put, List.setIfInBounds_toArray, List.set_cons_zero, List.set_cons_succ]
                        refine wpAnyH_take (i := 26) (v := ?_) (by simp only [List.getElem?_toArray, List.getElem?_cons_succ, List.getElem?_cons_zero]; first | done | rfl) (by kernel_rfl) (by kernel_rfl) (by kernel_rfl) (fun _ _ _ h => h) (Or.inl ⟨by rfl, ?hy⟩) (by assumption) ?_
                        case hy => (intro w hSw; (try dsimp only at hSw); go_simp; all_goals with_reducible rfl)
                        try simp only [Act.put, List.setIfInBounds_toArray, List.set_cons_zero, List.set_cons_succ]
                        refine wpAnyH_take (i := 27) (v := ?_) (by simp only [List.getElem?_toArray, List.getElem?_cons_succ, List.getElem?_cons_zero]; first | done | rfl) (by kernel_rfl) (by kernel_rfl) (by kernel_rfl) (fun _ _ _ h => h) (Or.inl ⟨by rfl, ?hy⟩) (by assumption) ?_
                        case hy => (intro w hSw; (try dsimp only at hSw); go_simp; all_goals with_reducible rfl)
                        try simp only [Act.put, List.setIfInBounds_toArray, List.set_cons_zero, List.set_cons_succ]
                        refine wpAnyH_take (i := 28) (v := ?_) (by simp only [List.getElem?_toArray, List.getElem?_cons_succ, List.getElem?_cons_zero]; first | done | rfl) (by kernel_rfl) (by kernel_rfl) (by kernel_rfl) (fun _ _ _ h => h) (Or.inl ⟨by rfl, ?hy⟩) (by assumption) ?_
                        case hy => (intro w hSw; (try dsimp only at hSw); go_simp; all_goals with_reducible rfl)
                        try simp only [Act.put, List.setIfInBounds_toArray, List.set_cons_zero, List.set_cons_succ]
                        refine wpAnyH_take (i := 29) (v := ?_) (by simp only [List.getElem?_toArray, List.getElem?_cons_succ, List.getElem?_cons_zero]; first | done | rfl) (by kernel_rfl) (by kernel_rfl) (by kernel_rfl) (fun _ _ _ h => h) (Or.inl ⟨by rfl, ?hy⟩) (by assumption) ?_
                        case hy => (intro w hSw; (try dsimp only at hSw); go_simp; all_goals with_reducible rfl)
                        try simp only [Act.put, List.setIfInBounds_toArray, List.set_cons_zero, List.set_cons_succ]
                        refine wpAnyH_take (i := 30) (v := ?_) (by simp only [List.getElem?_toArray, List.getElem?_cons_succ, List.getElem?_cons_zero]; first | done | rfl) (by kernel_rfl) (by kernel_rfl) (by kernel_rfl) (fun _ _ _ h => h) (Or.inl ⟨by rfl, ?hy⟩) (by assumption) ?_
                        case hy => (intro w hSw; (try dsimp only at hSw); go_simp; all_goals with_reducible rfl)
                        try simp only [Act.put, List.setIfInBounds_toArray, List.set_cons_zero, List.set_cons_succ]
                        refine wpAnyH_done (by kernel_rfl) ?_ _
                        refine NoPanic.normal ?_
                        go_wp2_with fail
                        go_ret
                        exact ⟨rfl, HB.out⟩
                      exact AllReadyH.nil
                    exact AllReadyH.nil
                  exact AllReadyH.nil
                exact AllReadyH.nil
              refine AllReadyH.cons (by simp only [List.getElem?_toArray, List.getElem?_cons_succ, List.getElem?_cons_zero]; first | done | rfl) (fun K hK => ?_) ?_
              · skip
                refine step_call (by rfl) (entry_any x _) (by go_simp) ?_
                rintro e v2 ⟨rfl, hb2⟩
                refine ⟨_, rfl, ?_⟩
                rw [HEN.out]
                have HA9' := Lib.hid (UA.below (by repeat (first | exact HA9.out | apply UA.drew | apply UA.drewN | apply UA.alloc)) hb2)
                have HA10' := Lib.hid (UA.below (by repeat (first | exact HA10.out | apply UA.drew | apply UA.drewN | apply UA.alloc)) hb2)
                have HB' := Lib.hid (bl_bl (by repeat (first | exact HB.out | apply bl_drew | apply bl_drewN | apply bl_alloc)) hb2)
                have HM1' := Lib.hid (Rd.below (by repeat (first | exact HM1.out | apply rd_drew | apply rd_drewN | apply rd_alloc)) hb2)
                clear hb2
                have HA9 := HA9'
                have HA10 := HA10'
                have HB := HB'
                have HM1 := HM1'
                clear HA9' HA10' HB' HM1'
                refine hK.out _ _ ?_ (fun hHeld => ?_)
                · (try dsimp only); (refine ⟨?_, ?_⟩ <;> repeat (first | exact HA9.out | exact HA10.out | apply UA.drew | apply UA.drewN | apply UA.alloc))
                clear hK K
                try simp only [Act.put, List.setIfInBounds_toArray, List.set_cons_zero, List.set_cons_succ]
                refine wpAnyH_ready (rs := [12, 15]) (by kernel_rfl) (by simp) ?_
                refine AllReadyH.cons (by simp only [List.getElem?_toArray, List.getElem?_cons_succ, List.getElem?_cons_zero]; first | done | rfl) (fun K hK => ?_) ?_
                · skip
                  refine step_conv_bs (by rfl) (.tmp 42) rfl rfl (by repeat (first | exact HM1.out | apply rd_drew | apply rd_drewN | apply rd_alloc)) ?_
                  refine hK.out _ _ ?_ (fun hHeld => ?_)
                  · (try dsimp only); (refine ⟨?_, ?_⟩ <;> repeat (first | exact HA9.out | exact HA10.out | apply UA.drew | apply UA.drewN | apply UA.alloc))
                  clear hK K
                  try simp only [Act.put, List.setIfInBounds_toArray, List.set_cons_zero, List.set_cons_succ]
                  refine wpAnyH_ready (rs := [15]) (by kernel_rfl) (by simp) ?_
                  refine AllReadyH.cons (by simp only [List.getElem?_toArray, List.getElem?_cons_succ, List.getElem?_cons_zero]; first | done | rfl) (fun K hK => ?_) ?_
                  · skip
                    refine step_call (by rfl) (msgE_any u.nm u.ver u.key _ OKU.out.nm OKU.out.key) (by go_simp) ?_
                    rintro e v2 ⟨u2, rfl, hu2, hb2⟩
                    refine ⟨_, rfl, ?_⟩
                    obtain ⟨b2, c2, rfl⟩ := hu2.rd.shape
                    have HA9' := Lib.hid (UA.below (by repeat (first | exact HA9.out | apply UA.drew | apply UA.drewN | apply UA.alloc)) hb2)
                    have HA10' := Lib.hid (UA.below (by repeat (first | exact HA10.out | apply UA.drew | apply UA.drewN | apply UA.alloc)) hb2)
                    have HB' := Lib.hid (bl_bl (by repeat (first | exact HB.out | apply bl_drew | apply bl_drewN | apply bl_alloc)) hb2)
                    clear hb2
                    have HA9 := HA9'
                    have HA10 := HA10'
                    have HB := HB'
                    clear HA9' HA10' HB'
                    have HM2 := Lib.hid hu2.rd
                    clear hu2
                    refine hK.out _ _ ?_ (fun hHeld => ?_)
                    · (try dsimp only); (refine ⟨?_, ?_⟩ <;> repeat (first | exact HA9.out | exact HA10.out | apply UA.drew | apply UA.drewN | apply UA.alloc))
                    clear hK K
                    try simp only [Act.put, List.setIfInBounds_toArray, List.set_cons_zero, List.set_cons_succ]
                    refine wpAnyH_ready (rs := [16]) (by kernel_rfl) (by simp) ?_
                    refine AllReadyH.cons (by simp only [List.getElem?_toArray, List.getElem?_cons_succ, List.getElem?_cons_zero]; first | done | rfl) (fun K hK => ?_) ?_
                    · skip
                      refine step_conv_bs (by rfl) (.tmp 46) rfl rfl (by repeat (first | exact HM2.out | apply rd_drew | apply rd_drewN | apply rd_alloc)) ?_
                      refine hK.out _ _ ?_ (fun hHeld => ?_)
                      · (try dsimp only); (refine ⟨?_, ?_⟩ <;> repeat (first | exact HA9.out | exact HA10.out | apply UA.drew | apply UA.drewN | apply UA.alloc))
                      clear hK K
                      try simp only [Act.put, List.setIfInBounds_toArray, List.set_cons_zero, List.set_cons_succ]
                      refine wpAnyH_take (i := 17) (v := ?_) (by simp only [List.getElem?_toArray, List.getElem?_cons_succ, List.getElem?_cons_zero]; first | done | rfl) (by kernel_rfl) (by kernel_rfl) (by kernel_rfl) (fun _ _ _ h => h) (Or.inl ⟨by rfl, ?hy⟩) (by assumption) ?_
                      case hy => (intro w hSw; (try dsimp only at hSw); go_simp; all_goals with_reducible rfl)
                      try simp only [Act.put, List.setIfInBounds_toArray, List.set_cons_zero, List.set_cons_succ]
                      refine wpAnyH_take (i := 18) (v := ?_) (by simp only [List.getElem?_toArray, List.getElem?_cons_succ, List.getElem?_cons_zero]; first | done | rfl) (by kernel_rfl) (by kernel_rfl) (by kernel_rfl) (fun _ _ _ h => h) (Or.inl ⟨by rfl, ?hy⟩) (by assumption) ?_
                      case hy => (intro w hSw; (try dsimp only at hSw); go_simp; all_goals with_reducible rfl)
                      try simp only [Act.put, List.setIfInBounds_toArray, List.set_cons_zero, List.set_cons_succ]
                      refine wpAnyH_take (i := 19) (v := ?_) (by simp only [List.getElem?_toArray, List.getElem?_cons_succ, List.getElem?_cons_zero]; first | done | rfl) (by kernel_rfl) (by kernel_rfl) (by kernel_rfl) (fun _ _ _ h => h) (Or.inl ⟨by rfl, ?hy⟩) (by assumption) ?_
                      case hy => (intro w hSw; (try dsimp only at hSw); go_simp; all_goals with_reducible rfl)
                      try simp only [Act.put, List.setIfInBounds_toArray, List.set_cons_zero, List.set_cons_succ]
                      refine wpAnyH_take (i := 20) (by simp only [List.getElem?_toArray, List.getElem?_cons_succ, List.getElem?_cons_zero]; first | done | rfl) (by kernel_rfl) (by kernel_rfl) (by kernel_rfl) (fun _ _ _ h => h) (yields_up (by rfl) _ rfl g10 x rfl (fun w hw => hw.2)) (by assumption) ?_
                      try simp only [Act.put, List.setIfInBounds_toArray, List.set_cons_zero, List.set_cons_succ]
                      refine wpAnyH_take (i := 22) (v := ?_) (by simp only [List.getElem?_toArray, List.getElem?_cons_succ, List.getElem?_cons_zero]; first | done | rfl) (by kernel_rfl) (by kernel_rfl) (by kernel_rfl) (fun _ _ _ h => h) (Or.inl ⟨by rfl, ?hy⟩) (by assumption) ?_
                      case hy => (intro w hSw; (try dsimp only at hSw); go_simp; all_goals with_reducible rfl)
                      try simp only [Act.put, List.setIfInBounds_toArray, List.set_cons_zero, List.set_cons_succ]
                      refine wpAnyH_take (i := 23) (v := ?_) (by simp only [List.getElem?_toArray, List.getElem?_cons_succ, List.getElem?_cons_zero]; first | done | rfl) (by kernel_rfl) (by kernel_rfl) (by kernel_rfl) (fun _ _ _ h => h) (Or.inl ⟨by rfl, ?hy⟩) (by assumption) ?_
                      case hy => (intro w hSw; (try dsimp only at hSw); go_simp; all_goals with_reducible rfl)
                      try simp only [Act.put, List.setIfInBounds_toArray, List.set_cons_zero, List.set_cons_succ]
                      refine wpAnyH_ready (rs := [21]) (by kernel_rfl) (by simp) ?_
                      refine AllReadyH.cons (by simp only [List.getElem?_toArray, List.getElem?_cons_succ, List.getElem?_cons_zero]; first | done | rfl) (fun K hK => ?_) ?_
                      · skip
                        refine step_call (by rfl) (rightU_any x _) (by go_simp) ?_
                        rintro e v2 ⟨rfl, hb2⟩
                        refine ⟨_, rfl, ?_⟩
                        rw [HRW.out]
                        have HA9' := Lib.hid (UA.below (by repeat (first | exact HA9.out | apply UA.drew | apply UA.drewN | apply UA.alloc)) hb2)
                        have HA10' := Lib.hid (UA.below (by repeat (first | exact HA10.out | apply UA.drew | apply UA.drewN | apply UA.alloc)) hb2)
                        have HB' := Lib.hid (bl_bl (by repeat (first | exact HB.out | apply bl_drew | apply bl_drewN | apply bl_alloc)) hb2)
                        clear hb2
                        have HA9 := HA9'
                        have HA10 := HA10'
                        have HB := HB'
                        clear HA9' HA10' HB'
                        refine hK.out _ _ ?_ (fun hHeld => ?_)
                        · (try dsimp only); (refine ⟨?_, ?_⟩ <;> repeat (first | exact HA9.out | exact HA10.out | apply UA.drew | apply UA.drewN | apply UA.alloc))
                        clear hK K
                        try simp only [Act.put, List.setIfInBounds_toArray, List.set_cons_zero, List.set_cons_succ]
                        refine wpAnyH_take (i := 24) (v := ?_) (by simp only [List.getElem?_toArray, List.getElem?_cons_succ, List.getElem?_cons_zero]; first | done | rfl) (by kernel_rfl) (by kernel_rfl) (by kernel_rfl) (fun _ _ _ h => h) (Or.inl ⟨by rfl, ?hy⟩) (by assumption) ?_
                        case hy => (intro w hSw; (try dsimp only at hSw); go_simp; all_goals with_reducible rfl)
                        try simp only [Act.put, List.setIfInBounds_toArray, List.set_cons_zero, List.set_cons_succ]
                        refine wpAnyH_take (i := 25) (v := ?_) (by simp only [List.getElem?_toArray, List.getElem?_cons_succ, List.getElem?_cons_zero]; first | done | rfl) (by kernel_rfl) (by kernel_rfl) (by kernel_rfl) (fun _ _ _ h => h) (Or.inl ⟨by rfl, ?hy⟩) (by assumption) ?_
                        case hy => (intro w hSw; (try dsimp only at hSw); go_simp; all_goals with_reducible rfl)
                        try simp only [Act.put, List.setIfInBounds_toArray, List.set_cons_zero, List.set_cons_succ]
                        refine wpAnyH_take (i := 26) (v := ?_) (by simp only [List.getElem?_toArray, List.getElem?_cons_succ, List.getElem?_cons_zero]; first | done | rfl) (by kernel_rfl) (by kernel_rfl) (by kernel_rfl) (fun _ _ _ h => h) (Or.inl ⟨by rfl, ?hy⟩) (by assumption) ?_
                        case hy => (intro w hSw; (try dsimp only at hSw); go_simp; all_goals with_reducible rfl)
                        try simp only [Act.put, List.setIfInBounds_toArray, List.set_cons_zero, List.set_cons_succ]
                        refine wpAnyH_take (i := 27) (v := ?_) (by simp only [List.getElem?_toArray, List.getElem?_cons_succ, List.getElem?_cons_zero]; first | done | rfl) (by kernel_rfl) (by kernel_rfl) (by kernel_rfl) (fun _ _ _ h => h) (Or.inl ⟨by rfl, ?hy⟩) (by assumption) ?_
                        case hy => (intro w hSw; (try dsimp only at hSw); go_simp; all_goals with_reducible rfl)
                        try simp only [Act.put, List.setIfInBounds_toArray, List.set_cons_zero, List.set_cons_succ]
                        refine wpAnyH_take (i := 28) (v := ?_) (by simp only [List.getElem?_toArray, List.getElem?_cons_succ, List.getElem?_cons_zero]; first | done | rfl) (by kernel_rfl) (by kernel_rfl) (by kernel_rfl) (fun _ _ _ h => h) (Or.inl ⟨by rfl, ?hy⟩) (by assumption) ?_
                        case hy => (intro w hSw; (try dsimp only at hSw); go_simp; all_goals with_reducible rfl)
                        try simp only [Act.put, List.setIfInBounds_toArray, List.set_cons_zero, List.set_cons_succ]
                        refine wpAnyH_take (i := 29) (v := ?_) (by simp only [List.getElem?_toArray, List.getElem?_cons_succ, List.getElem?_cons_zero]; first | done | rfl) (by kernel_rfl) (by kernel_rfl) (by kernel_rfl) (fun _ _ _ h => h) (Or.inl ⟨by rfl, ?hy⟩) (by assumption) ?_
                        case hy => (intro w hSw; (try dsimp only at hSw); go_simp; all_goals with_reducible rfl)
                        try simp only [Act.put, List.setIfInBounds_toArray, List.set_cons_zero, List.set_cons_succ]
                        refine wpAnyH_take (i := 30) (v := ?_) (by simp only [List.getElem?_toArray, List.getElem?_cons_succ, List.getElem?_cons_zero]; first | done | rfl) (by kernel_rfl) (by kernel_rfl) (by kernel_rfl) (fun _ _ _ h => h) (Or.inl ⟨by rfl, ?hy⟩) (by assumption) ?_
                        case hy => (intro w hSw; (try dsimp only at hSw); go_simp; all_goals with_reducible rfl)
                        try simp only [Act.put, List.setIfInBounds_toArray, List.set_cons_zero, List.set_cons_succ]
                        refine wpAnyH_done (by kernel_rfl) ?_ _
                        refine NoPanic.normal ?_
                        go_wp2_with fail
                        go_ret
                        exact ⟨rfl, HB.out⟩
                      exact AllReadyH.nil
                    exact AllReadyH.nil
                  exact AllReadyH.nil
                refine AllReadyH.cons (by simp only [List.getElem?_toArray, List.getElem?_cons_succ, List.getElem?_cons_zero]; first | done | rfl) (fun K hK => ?_) ?_
                · skip
                  refine step_call (by rfl) (msgE_any u.nm u.ver u.key _ OKU.out.nm OKU.out.key) (by go_simp) ?_
                  rintro e v2 ⟨u2, rfl, hu2, hb2⟩
                  refine ⟨_, rfl, ?_⟩
                  obtain ⟨b2, c2, rfl⟩ := hu2.rd.shape
                  have HA9' := Lib.hid (UA.below (by repeat (first | exact HA9.out | apply UA.drew | apply UA.drewN | apply UA.alloc)) hb2)
                  have HA10' := Lib.hid (UA.below (by repeat (first | exact HA10.out | apply UA.drew | apply UA.drewN | apply UA.alloc)) hb2)
                  have HB' := Lib.hid (bl_bl (by repeat (first | exact HB.out | apply bl_drew | apply bl_drewN | apply bl_alloc)) hb2)
                  have HM1' := Lib.hid (Rd.below (by repeat (first | exact HM1.out | apply rd_drew | apply rd_drewN | apply rd_alloc)) hb2)
                  clear hb2
                  have HA9 := HA9'
                  have HA10 := HA10'
                  have HB := HB'
                  have HM1 := HM1'
                  clear HA9' HA10' HB' HM1'
                  have HM2 := Lib.hid hu2.rd
                  clear hu2
                  refine hK.out _ _ ?_ (fun hHeld => ?_)
                  · (try dsimp only); (refine ⟨?_, ?_⟩ <;> repeat (first | exact HA9.out | exact HA10.out | apply UA.drew | apply UA.drewN | apply UA.alloc))
                  clear hK K
                  try simp only [Act.put, List.setIfInBounds_toArray, List.set_cons_zero, List.set_cons_succ]
                  refine wpAnyH_ready (rs := [12, 16]) (by kernel_rfl) (by simp) ?_
                  refine AllReadyH.cons (by simp only [List.getElem?_toArray, List.getElem?_cons_succ, List.getElem?_cons_zero]; first | done | rfl) (fun K hK => ?_) ?_
                  · skip
                    refine step_conv_bs (by rfl) (.tmp 42) rfl rfl (by repeat (first | exact HM1.out | apply rd_drew | apply rd_drewN | apply rd_alloc)) ?_
                    refine hK.out _ _ ?_ (fun hHeld => ?_)
                    · (try dsimp only); (refine ⟨?_, ?_⟩ <;> repeat (first | exact HA9.out | exact HA10.out | apply UA.drew | apply UA.drewN | apply UA.alloc))
                    clear hK K
                    try simp only [Act.put, List.setIfInBounds_toArray, List.set_cons_zero, List.set_cons_succ]
                    refine wpAnyH_ready (rs := [16]) (by kernel_rfl) (by simp) ?_
                    refine AllReadyH.cons (by simp only [List.getElem?_toArray, List.getElem?_cons_succ, List.getElem?_cons_zero]; first | done | rfl) (fun K hK => ?_) ?_
                    · skip
                      refine step_conv_bs (by rfl) (.tmp 46) rfl rfl (by repeat (first | exact HM2.out | apply rd_drew | apply rd_drewN | apply rd_alloc)) ?_
                      refine hK.out _ _ ?_ (fun hHeld => ?_)
                      · (try dsimp only); (refine ⟨?_, ?_⟩ <;> repeat (first | exact HA9.out | exact HA10.out | apply UA.drew | apply UA.drewN | apply UA.alloc))
                      clear hK K
                      try simp only [Act.put, List.setIfInBounds_toArray, List.set_cons_zero, List.set_cons_succ]
                      refine wpAnyH_take (i := 17) (v := ?_) (by simp only [List.getElem?_toArray, List.getElem?_cons_succ, List.getElem?_cons_zero]; first | done | rfl) (by kernel_rfl) (by kernel_rfl) (by kernel_rfl) (fun _ _ _ h => h) (Or.inl ⟨by rfl, ?hy⟩) (by assumption) ?_
                      case hy => (intro w hSw; (try dsimp only at hSw); go_simp; all_goals with_reducible rfl)
                      try simp only [Act.put, List.setIfInBounds_toArray, List.set_cons_zero, List.set_cons_succ]
                      refine wpAnyH_take (i := 18) (v := ?_) (by simp only [List.getElem?_toArray, List.getElem?_cons_succ, List.getElem?_cons_zero]; first | done | rfl) (by kernel_rfl) (by kernel_rfl) (by kernel_rfl) (fun _ _ _ h => h) (Or.inl ⟨by rfl, ?hy⟩) (by assumption) ?_
                      case hy => (intro w hSw; (try dsimp only at hSw); go_simp; all_goals with_reducible rfl)
                      try simp only [Act.put, List.setIfInBounds_toArray, List.set_cons_zero, List.set_cons_succ]
                      refine wpAnyH_take (i := 19) (v := ?_) (by simp only [List.getElem?_toArray, List.getElem?_cons_succ, List.getElem?_cons_zero]; first | done | rfl) (by kernel_rfl) (by kernel_rfl) (by kernel_rfl) (fun _ _ _ h => h) (Or.inl ⟨by rfl, ?hy⟩) (by assumption) ?_
                      case hy => (intro w hSw; (try dsimp only at hSw); go_simp; all_goals with_reducible rfl)
                      try simp only [Act.put, List.setIfInBounds_toArray, List.set_cons_zero, List.set_cons_succ]
                      refine wpAnyH_take (i := 20) (by simp only [List.getElem?_toArray, List.getElem?_cons_succ, List.getElem?_cons_zero]; first | done | rfl) (by kernel_rfl) (by kernel_rfl) (by kernel_rfl) (fun _ _ _ h => h) (yields_up (by rfl) _ rfl g10 x rfl (fun w hw => hw.2)) (by assumption) ?_
                      try simp only [Act.put, List.setIfInBounds_toArray, List.set_cons_zero, List.set_cons_succ]
                      refine wpAnyH_take (i := 22) (v := ?_) (by simp only [List.getElem?_toArray, List.getElem?_cons_succ, List.getElem?_cons_zero]; first | done | rfl) (by kernel_rfl) (by kernel_rfl) (by kernel_rfl) (fun _ _ _ h => h) (Or.inl ⟨by rfl, ?hy⟩) (by assumption) ?_
                      case hy => (intro w hSw; (try dsimp only at hSw); go_simp; all_goals with_reducible rfl)
                      try simp only [Act.put, List.setIfInBounds_toArray, List.set_cons_zero, List.set_cons_succ]
                      refine wpAnyH_take (i := 23) (v := ?_) (by simp only [List.getElem?_toArray, List.getElem?_cons_succ, List.getElem?_cons_zero]; first | done | rfl) (by kernel_rfl) (by kernel_rfl) (by kernel_rfl) (fun _ _ _ h => h) (Or.inl ⟨by rfl, ?hy⟩) (by assumption) ?_
                      case hy => (intro w hSw; (try dsimp only at hSw); go_simp; all_goals with_reducible rfl)
                      try simp only [Act.put, List.setIfInBounds_toArray, List.set_cons_zero, List.set_cons_succ]
                      refine wpAnyH_ready (rs := [21]) (by kernel_rfl) (by simp) ?_
                      refine AllReadyH.cons (by simp only [List.getElem?_toArray, List.getElem?_cons_succ, List.getElem?_cons_zero]; first | done | rfl) (fun K hK => ?_) ?_
                      · skip
                        refine step_call (by rfl) (rightU_any x _) (by go_simp) ?_
                        rintro e v2 ⟨rfl, hb2⟩
                        refine ⟨_, rfl, ?_⟩
                        rw [HRW.out]
                        have HA9' := Lib.hid (UA.below (by repeat (first | exact HA9.out | apply UA.drew | apply UA.drewN | apply UA.alloc)) hb2)
                        have HA10' := Lib.hid (UA.below (by repeat (first | exact HA10.out | apply UA.drew | apply UA.drewN | apply UA.alloc)) hb2)
                        have HB' := Lib.hid (bl_bl (by repeat (first | exact HB.out | apply bl_drew | apply bl_drewN | apply bl_alloc)) hb2)
                        clear hb2
                        have HA9 := HA9'
                        have HA10 := HA10'
                        have HB := HB'
                        clear HA9' HA10' HB'
                        refine hK.out _ _ ?_ (fun hHeld => ?_)
                        · (try dsimp only); (refine ⟨?_, ?_⟩ <;> repeat (first | exact HA9.out | exact HA10.out | apply UA.drew | apply UA.drewN | apply UA.alloc))
                        clear hK K
                        try simp only [Act.put, List.setIfInBounds_toArray, List.set_cons_zero, List.set_cons_succ]
                        refine wpAnyH_take (i := 24) (v := ?_) (by simp only [List.getElem?_toArray, List.getElem?_cons_succ, List.getElem?_cons_zero]; first | done | rfl) (by kernel_rfl) (by kernel_rfl) (by kernel_rfl) (fun _ _ _ h => h) (Or.inl ⟨by rfl, ?hy⟩) (by assumption) ?_
                        case hy => (intro w hSw; (try dsimp only at hSw); go_simp; all_goals with_reducible rfl)
                        try simp only [Act.put, List.setIfInBounds_toArray, List.set_cons_zero, List.set_cons_succ]
                        refine wpAnyH_take (i := 25) (v := ?_) (by simp only [List.getElem?_toArray, List.getElem?_cons_succ, List.getElem?_cons_zero]; first | done | rfl) (by kernel_rfl) (by kernel_rfl) (by kernel_rfl) (fun _ _ _ h => h) (Or.inl ⟨by rfl, ?hy⟩) (by assumption) ?_
                        case hy => (intro w hSw; (try dsimp only at hSw); go_simp; all_goals with_reducible rfl)
                        try simp only [Act.put, List.setIfInBounds_toArray, List.set_cons_zero, List.set_cons_succ]
                        refine wpAnyH_take (i := 26) (v := ?_) (by simp only [List.getElem?_toArray, List.getElem?_cons_succ, List.getElem?_cons_zero]; first | done | rfl) (by kernel_rfl) (by kernel_rfl) (by kernel_rfl) (fun _ _ _ h => h) (Or.inl ⟨by rfl, ?hy⟩) (by assumption) ?_
                        case hy => (intro w hSw; (try dsimp only at hSw); go_simp; all_goals with_reducible rfl)
                        try simp only [Act.put, List.setIfInBounds_toArray, List.set_cons_zero, List.set_cons_succ]
                        refine wpAnyH_take (i := 27) (v := ?_) (by simp only [List.getElem?_toArray, List.getElem?_cons_succ, List.getElem?_cons_zero]; first | done | rfl) (by kernel_rfl) (by kernel_rfl) (by kernel_rfl) (fun _ _ _ h => h) (Or.inl ⟨by rfl, ?hy⟩) (by assumption) ?_
                        case hy => (intro w hSw; (try dsimp only at hSw); go_simp; all_goals with_reducible rfl)
                        try simp only [Act.put, List.setIfInBounds_toArray, List.set_cons_zero, List.set_cons_succ]
                        refine wpAnyH_take (i := 28) (v := ?_) (by simp only [List.getElem?_toArray, List.getElem?_cons_succ, List.getElem?_cons_zero]; first | done | rfl) (by kernel_rfl) (by kernel_rfl) (by kernel_rfl) (fun _ _ _ h => h) (Or.inl ⟨by rfl, ?hy⟩) (by assumption) ?_
                        case hy => (intro w hSw; (try dsimp only at hSw); go_simp; all_goals with_reducible rfl)
                        try simp only [Act.put, List.setIfInBounds_toArray, List.set_cons_zero, List.set_cons_succ]
                        refine wpAnyH_take (i := 29) (v := ?_) (by simp only [List.getElem?_toArray, List.getElem?_cons_succ, List.getElem?_cons_zero]; first | done | rfl) (by kernel_rfl) (by kernel_rfl) (by kernel_rfl) (fun _ _ _ h => h) (Or.inl ⟨by rfl, ?hy⟩) (by assumption) ?_
                        case hy => (intro w hSw; (try dsimp only at hSw); go_simp; all_goals with_reducible rfl)
                        try simp only [Act.put, List.setIfInBounds_toArray, List.set_cons_zero, List.set_cons_succ]
                        refine wpAnyH_take (i := 30) (v := ?_) (by simp only [List.getElem?_toArray, List.getElem?_cons_succ, List.getElem?_cons_zero]; first | done | rfl) (by kernel_rfl) (by kernel_rfl) (by kernel_rfl) (fun _ _ _ h => h) (Or.inl ⟨by rfl, ?hy⟩) (by assumption) ?_
                        case hy => (intro w hSw; (try dsimp only at hSw); go_simp; all_goals with_reducible rfl)
                        try simp only [Act.put, List.setIfInBounds_toArray, List.set_cons_zero, List.set_cons_succ]
                        refine wpAnyH_done (by kernel_rfl) ?_ _
                        refine NoPanic.normal ?_
                        go_wp2_with fail
                        go_ret
                        exact ⟨rfl, HB.out⟩
                      exact AllReadyH.nil
                    exact AllReadyH.nil
                  refine AllReadyH.cons (by simp only [List.getElem?_toArray, List.getElem?_cons_succ, List.getElem?_cons_zero]; first | done | rfl) (fun K hK => ?_) ?_
                  · skip
                    refine step_conv_bs (by rfl) (.tmp 46) rfl rfl (by repeat (first | exact HM2.out | apply rd_drew | apply rd_drewN | apply rd_alloc)) ?_
                    refine hK.out _ _ ?_ (fun hHeld => ?_)
                    · (try dsimp only); (refine ⟨?_, ?_⟩ <;> repeat (first | exact HA9.out | exact HA10.out | apply UA.drew | apply UA.drewN | apply UA.alloc))
                    clear hK K
                    try simp only [Act.put, List.setIfInBounds_toArray, List.set_cons_zero, List.set_cons_succ]
                    refine wpAnyH_ready (rs := [12]) (by kernel_rfl) (by simp) ?_
                    refine AllReadyH.cons (by simp only [List.getElem?_toArray, List.getElem?_cons_succ, List.getElem?_cons_zero]; first | done | rfl) (fun K hK => ?_) ?_
                    · skip
                      refine step_conv_bs (by rfl) (.tmp 42) rfl rfl (by repeat (first | exact HM1.out | apply rd_drew | apply rd_drewN | apply rd_alloc)) ?_
                      refine hK.out _ _ ?_ (fun hHeld => ?_)
                      · (try dsimp only); (refine ⟨?_, ?_⟩ <;> repeat (first | exact HA9.out | exact HA10.out | apply UA.drew | apply UA.drewN | apply UA.alloc))
                      clear hK K
                      try simp only [Act.put, List.setIfInBounds_toArray, List.set_cons_zero, List.set_cons_succ]
                      refine wpAnyH_take (i := 17) (v := ?_) (by simp only [List.getElem?_toArray, List.getElem?_cons_succ, List.getElem?_cons_zero]; first | done | rfl) (by kernel_rfl) (by kernel_rfl) (by kernel_rfl) (fun _ _ _ h => h) (Or.inl ⟨by rfl, ?hy⟩) (by assumption) ?_
                      case hy => (intro w hSw; (try dsimp only at hSw); go_simp; all_goals with_reducible rfl)
                      try simp only [Act.put, List.setIfInBounds_toArray, List.set_cons_zero, List.set_cons_succ]
                      refine wpAnyH_take (i := 18) (v := ?_) (by simp only [List.getElem?_toArray, List.getElem?_cons_succ, List.getElem?_cons_zero]; first | done | rfl) (by kernel_rfl) (by kernel_rfl) (by kernel_rfl) (fun _ _ _ h => h) (Or.inl ⟨by rfl, ?hy⟩) (by assumption) ?_
                      case hy => (intro w hSw; (try dsimp only at hSw); go_simp; all_goals with_reducible rfl)
                      try simp only [Act.put, List.setIfInBounds_toArray, List.set_cons_zero, List.set_cons_succ]
                      refine wpAnyH_take (i := 19) (v := ?_) (by simp only [List.getElem?_toArray, List.getElem?_cons_succ, List.getElem?_cons_zero]; first | done | rfl) (by kernel_rfl) (by kernel_rfl) (by kernel_rfl) (fun _ _ _ h => h) (Or.inl ⟨by rfl, ?hy⟩) (by assumption) ?_
                      case hy => (intro w hSw; (try dsimp only at hSw); go_simp; all_goals with_reducible rfl)
                      try simp only [Act.put, List.setIfInBounds_toArray, List.set_cons_zero, List.set_cons_succ]
                      refine wpAnyH_take (i := 20) (by simp only [List.getElem?_toArray, List.getElem?_cons_succ, List.getElem?_cons_zero]; first | done | rfl) (by kernel_rfl) (by kernel_rfl) (by kernel_rfl) (fun _ _ _ h => h) (yields_up (by rfl) _ rfl g10 x rfl (fun w hw => hw.2)) (by assumption) ?_
                      try simp only [Act.put, List.setIfInBounds_toArray, List.set_cons_zero, List.set_cons_succ]
                      refine wpAnyH_take (i := 22) (v := ?_) (by simp only [List.getElem?_toArray, List.getElem?_cons_succ, List.getElem?_cons_zero]; first | done | rfl) (by kernel_rfl) (by kernel_rfl) (by kernel_rfl) (fun _ _ _ h => h) (Or.inl ⟨by rfl, ?hy⟩) (by assumption) ?_
                      case hy => (intro w hSw; (try dsimp only at hSw); go_simp; all_goals with_reducible rfl)
                      try simp only [Act.put, List.setIfInBounds_toArray, List.set_cons_zero, List.set_cons_succ]
                      refine wpAnyH_take (i := 23) (v := ?_) (by simp only [List.getElem?_toArray, List.getElem?_cons_succ, List.getElem?_cons_zero]; first | done | rfl) (by kernel_rfl) (by kernel_rfl) (by kernel_rfl) (fun _ _ _ h => h) (Or.inl ⟨by rfl, ?hy⟩) (by assumption) ?_
                      case hy => (intro w hSw; (try dsimp only at hSw); go_simp; all_goals with_reducible rfl)
                      try simp only [Act.put, List.setIfInBounds_toArray, List.set_cons_zero, List.set_cons_succ]
                      refine wpAnyH_ready (rs := [21]) (by kernel_rfl) (by simp) ?_
                      refine AllReadyH.cons (by simp only [List.getElem?_toArray, List.getElem?_cons_succ, List.getElem?_cons_zero]; first | done | rfl) (fun K hK => ?_) ?_
                      · skip
                        refine step_call (by rfl) (rightU_any x _) (by go_simp) ?_
                        rintro e v2 ⟨rfl, hb2⟩
                        refine ⟨_, rfl, ?_⟩
                        rw [HRW.out]
                        have HA9' := Lib.hid (UA.below (by repeat (first | exact HA9.out | apply UA.drew | apply UA.drewN | apply UA.alloc)) hb2)
                        have HA10' := Lib.hid (UA.below (by repeat (first | exact HA10.out | apply UA.drew | apply UA.drewN | apply UA.alloc)) hb2)
                        have HB' := Lib.hid (bl_bl (by repeat (first | exact HB.out | apply bl_drew | apply bl_drewN | apply bl_alloc)) hb2)
                        clear hb2
                        have HA9 := HA9'
                        have HA10 := HA10'
                        have HB := HB'
                        clear HA9' HA10' HB'
                        refine hK.out _ _ ?_ (fun hHeld => ?_)
                        · (try dsimp only); (refine ⟨?_, ?_⟩ <;> repeat (first | exact HA9.out | exact HA10.out | apply UA.drew | apply UA.drewN | apply UA.alloc))
                        clear hK K
                        try simp only [Act.put, List.setIfInBounds_toArray, List.set_cons_zero, List.set_cons_succ]
                        refine wpAnyH_take (i := 24) (v := ?_) (by simp only [List.getElem?_toArray, List.getElem?_cons_succ, List.getElem?_cons_zero]; first | done | rfl) (by kernel_rfl) (by kernel_rfl) (by kernel_rfl) (fun _ _ _ h => h) (Or.inl ⟨by rfl, ?hy⟩) (by assumption) ?_
                        case hy => (intro w hSw; (try dsimp only at hSw); go_simp; all_goals with_reducible rfl)
                        try simp only [Act.put, List.setIfInBounds_toArray, List.set_cons_zero, List.set_cons_succ]
                        refine wpAnyH_take (i := 25) (v := ?_) (by simp only [List.getElem?_toArray, List.getElem?_cons_succ, List.getElem?_cons_zero]; first | done | rfl) (by kernel_rfl) (by kernel_rfl) (by kernel_rfl) (fun _ _ _ h => h) (Or.inl ⟨by rfl, ?hy⟩) (by assumption) ?_
                        case hy => (intro w hSw; (try dsimp only at hSw); go_simp; all_goals with_reducible rfl)
                        try simp only [Act.put, List.setIfInBounds_toArray, List.set_cons_zero, List.set_cons_succ]
                        refine wpAnyH_take (i := 26) (v := ?_) (by simp only [List.getElem?_toArray, List.getElem?_cons_succ, List.getElem?_cons_zero]; first | done | rfl) (by kernel_rfl) (by kernel_rfl) (by kernel_rfl) (fun _ _ _ h => h) (Or.inl ⟨by rfl, ?hy⟩) (by assumption) ?_
                        case hy => (intro w hSw; (try dsimp only at hSw); go_simp; all_goals with_reducible rfl)
                        try simp only [Act.put, List.setIfInBounds_toArray, List.set_cons_zero, List.set_cons_succ]
                        refine wpAnyH_take (i := 27) (v := ?_) (by simp only [List.getElem?_toArray, List.getElem?_cons_succ, List.getElem?_cons_zero]; first | done | rfl) (by kernel_rfl) (by kernel_rfl) (by kernel_rfl) (fun _ _ _ h => h) (Or.inl ⟨by rfl, ?hy⟩) (by assumption) ?_
                        case hy => (intro w hSw; (try dsimp only at hSw); go_simp; all_goals with_reducible rfl)
                        try simp only [Act.put, List.setIfInBounds_toArray, List.set_cons_zero, List.set_cons_succ]
                        refine wpAnyH_take (i := 28) (v := ?_) (by simp only [List.getElem?_toArray, List.getElem?_cons_succ, List.getElem?_cons_zero]; first | done | rfl) (by kernel_rfl) (by kernel_rfl) (by kernel_rfl) (fun _ _ _ h => h) (Or.inl ⟨by rfl, ?hy⟩) (by assumption) ?_
                        case hy => (intro w hSw; (try dsimp only at hSw); go_simp; all_goals with_reducible rfl)
                        try simp only [Act.put, List.setIfInBounds_toArray, List.set_cons_zero, List.set_cons_succ]
                        refine wpAnyH_take (i := 29) (v := ?_) (by simp only [List.getElem?_toArray, List.getElem?_cons_succ, List.getElem?_cons_zero]; first | done | rfl) (by kernel_rfl) (by kernel_rfl) (by kernel_rfl) (fun _ _ _ h => h) (Or.inl ⟨by rfl, ?hy⟩) (by assumption) ?_
                        case hy => (intro w hSw; (try dsimp only at hSw); go_simp; all_goals with_reducible rfl)
                        try simp only [Act.put, List.setIfInBounds_toArray, List.set_cons_zero, List.set_cons_succ]
                        refine wpAnyH_take (i := 30) (v := ?_) (by simp only [List.getElem?_toArray, List.getElem?_cons_succ, List.getElem?_cons_zero]; first | done | rfl) (by kernel_rfl) (by kernel_rfl) (by kernel_rfl) (fun _ _ _ h => h) (Or.inl ⟨by rfl, ?hy⟩) (by assumption) ?_
                        case hy => (intro w hSw; (try dsimp only at hSw); go_simp; all_goals with_reducible rfl)
                        try simp only [Act.put, List.setIfInBounds_toArray, List.set_cons_zero, List.set_cons_succ]
                        refine wpAnyH_done (by kernel_rfl) ?_ _
                        refine NoPanic.normal ?_
                        go_wp2_with fail
                        go_ret
                        exact ⟨rfl, HB.out⟩
                      exact AllReadyH.nil
                    exact AllReadyH.nil
                  exact AllReadyH.nil
                exact AllReadyH.nil
              exact AllReadyH.nil
            exact AllReadyH.nil
          exact AllReadyH.nil
        exact AllReadyH.nil
      exact AllReadyH.nil
    have hz0 : (cls == 0) = false := beq_false_of_ne e0
    have hz1 : (cls == 1) = false := beq_false_of_ne e1
    have hrw := HRW.out
    rw [show ((cls == 0) || (cls == 1)) = false by simp [e0, e1]] at hrw
    clear HRW
    have HRW := Lib.hid hrw
    clear hrw
    refine wp_region_noPanic ?_
    refine wp_region_held_drew (S := (fun w' => UA g9 u w' ∧ UA g10 x w')) (by kernel_rfl) ?_ (fun hHeld => ?_)
    · (try dsimp only); (refine ⟨?_, ?_⟩ <;> repeat (first | exact HA9.out | exact HA10.out | apply UA.drew | apply UA.drewN | apply UA.alloc))
    refine wpAnyH_take (i := 0) (by simp only [List.getElem?_toArray, List.getElem?_cons_succ, List.getElem?_cons_zero]; first | done | rfl) (by kernel_rfl) (by kernel_rfl) (by kernel_rfl) (fun _ _ _ h => h) (yields_up (by rfl) _ rfl g9 u rfl (fun w hw => hw.1)) (by assumption) ?_
    try simp only [Act.put, List.setIfInBounds_toArray, List.set_cons_zero, List.set_cons_succ]
    refine wpAnyH_take (i := 1) (v := ?_) (by simp only [List.getElem?_toArray, List.getElem?_cons_succ, List.getElem?_cons_zero]; first | done | rfl) (by kernel_rfl) (by kernel_rfl) (by kernel_rfl) (fun _ _ _ h => h) (Or.inl ⟨by rfl, ?hy⟩) (by assumption) ?_
    case hy => (intro w hSw; (try dsimp only at hSw); go_simp; all_goals with_reducible rfl)
    try simp only [Act.put, List.setIfInBounds_toArray, List.set_cons_zero, List.set_cons_succ]
    refine wpAnyH_ready (rs := [2]) (by kernel_rfl) (by simp) ?_
    refine AllReadyH.cons (by simp only [List.getElem?_toArray, List.getElem?_cons_succ, List.getElem?_cons_zero]; first | done | rfl) (fun K hK => ?_) ?_
    · skip
      refine step_call (by rfl) (checkU_any key u _ hk0 hk1 OKU.out) (by go_simp) ?_
      rintro e v2 ⟨rfl, hb2⟩
      refine ⟨_, rfl, ?_⟩
      rw [HC1.out]
      have HA9' := Lib.hid (UA.below (by repeat (first | exact HA9.out | apply UA.drew | apply UA.drewN | apply UA.alloc)) hb2)
      have HA10' := Lib.hid (UA.below (by repeat (first | exact HA10.out | apply UA.drew | apply UA.drewN | apply UA.alloc)) hb2)
      have HB' := Lib.hid (bl_bl (by repeat (first | exact HB.out | apply bl_drew | apply bl_drewN | apply bl_alloc)) hb2)
      clear hb2
      have HA9 := HA9'
      have HA10 := HA10'
      have HB := HB'
      clear HA9' HA10' HB'
      refine hK.out _ _ ?_ (fun hHeld => ?_)
      · (try dsimp only); (refine ⟨?_, ?_⟩ <;> repeat (first | exact HA9.out | exact HA10.out | apply UA.drew | apply UA.drewN | apply UA.alloc))
      clear hK K
      try simp only [Act.put, List.setIfInBounds_toArray, List.set_cons_zero, List.set_cons_succ]
      refine wpAnyH_take (i := 3) (v := ?_) (by simp only [List.getElem?_toArray, List.getElem?_cons_succ, List.getElem?_cons_zero]; first | done | rfl) (by kernel_rfl) (by kernel_rfl) (by kernel_rfl) (fun _ _ _ h => h) (Or.inl ⟨by rfl, ?hy⟩) (by assumption) ?_
      case hy => (intro w hSw; (try dsimp only at hSw); go_simp; all_goals with_reducible rfl)
      try simp only [Act.put, List.setIfInBounds_toArray, List.set_cons_zero, List.set_cons_succ]
      refine wpAnyH_take (i := 4) (by simp only [List.getElem?_toArray, List.getElem?_cons_succ, List.getElem?_cons_zero]; first | done | rfl) (by kernel_rfl) (by kernel_rfl) (by kernel_rfl) (fun _ _ _ h => h) (yields_up (by rfl) _ rfl g10 x rfl (fun w hw => hw.2)) (by assumption) ?_
      try simp only [Act.put, List.setIfInBounds_toArray, List.set_cons_zero, List.set_cons_succ]
      refine wpAnyH_take (i := 5) (v := ?_) (by simp only [List.getElem?_toArray, List.getElem?_cons_succ, List.getElem?_cons_zero]; first | done | rfl) (by kernel_rfl) (by kernel_rfl) (by kernel_rfl) (fun _ _ _ h => h) (Or.inl ⟨by rfl, ?hy⟩) (by assumption) ?_
      case hy => (intro w hSw; (try dsimp only at hSw); go_simp; all_goals with_reducible rfl)
      try simp only [Act.put, List.setIfInBounds_toArray, List.set_cons_zero, List.set_cons_succ]
      refine wpAnyH_ready (rs := [6]) (by kernel_rfl) (by simp) ?_
      refine AllReadyH.cons (by simp only [List.getElem?_toArray, List.getElem?_cons_succ, List.getElem?_cons_zero]; first | done | rfl) (fun K hK => ?_) ?_
      · skip
        refine step_call (by rfl) (checkU_any key x _ hk0 hk1 OKX.out) (by go_simp) ?_
        rintro e v2 ⟨rfl, hb2⟩
        refine ⟨_, rfl, ?_⟩
        rw [HC2.out]
        have HA9' := Lib.hid (UA.below (by repeat (first | exact HA9.out | apply UA.drew | apply UA.drewN | apply UA.alloc)) hb2)
        have HA10' := Lib.hid (UA.below (by repeat (first | exact HA10.out | apply UA.drew | apply UA.drewN | apply UA.alloc)) hb2)
        have HB' := Lib.hid (bl_bl (by repeat (first | exact HB.out | apply bl_drew | apply bl_drewN | apply bl_alloc)) hb2)
        clear hb2
        have HA9 := HA9'
        have HA10 := HA10'
        have HB := HB'
        clear HA9' HA10' HB'
        refine hK.out _ _ ?_ (fun hHeld => ?_)
        · (try dsimp only); (refine ⟨?_, ?_⟩ <;> repeat (first | exact HA9.out | exact HA10.out | apply UA.drew | apply UA.drewN | apply UA.alloc))
        clear hK K
        try simp only [Act.put, List.setIfInBounds_toArray, List.set_cons_zero, List.set_cons_succ]
        refine wpAnyH_take (i := 7) (v := ?_) (by simp only [List.getElem?_toArray, List.getElem?_cons_succ, List.getElem?_cons_zero]; first | done | rfl) (by kernel_rfl) (by kernel_rfl) (by kernel_rfl) (fun _ _ _ h => h) (Or.inl ⟨by rfl, ?hy⟩) (by assumption) ?_
        case hy => (intro w hSw; (try dsimp only at hSw); go_simp; all_goals with_reducible rfl)
        try simp only [Act.put, List.setIfInBounds_toArray, List.set_cons_zero, List.set_cons_succ]
        refine wpAnyH_take (i := 8) (v := ?_) (by simp only [List.getElem?_toArray, List.getElem?_cons_succ, List.getElem?_cons_zero]; first | done | rfl) (by kernel_rfl) (by kernel_rfl) (by kernel_rfl) (fun _ _ _ h => h) (Or.inl ⟨by rfl, ?hy⟩) (by assumption) ?_
        case hy => (intro w hSw; (try dsimp only at hSw); go_simp; all_goals with_reducible rfl)
        try simp only [Act.put, List.setIfInBounds_toArray, List.set_cons_zero, List.set_cons_succ]
        refine wpAnyH_take (i := 9) (by simp only [List.getElem?_toArray, List.getElem?_cons_succ, List.getElem?_cons_zero]; first | done | rfl) (by kernel_rfl) (by kernel_rfl) (by kernel_rfl) (fun _ _ _ h => h) (yields_up (by rfl) _ rfl g9 u rfl (fun w hw => hw.1)) (by assumption) ?_
        try simp only [Act.put, List.setIfInBounds_toArray, List.set_cons_zero, List.set_cons_succ]
        refine wpAnyH_take (i := 13) (by simp only [List.getElem?_toArray, List.getElem?_cons_succ, List.getElem?_cons_zero]; first | done | rfl) (by kernel_rfl) (by kernel_rfl) (by kernel_rfl) (fun _ _ _ h => h) (yields_up (by rfl) _ rfl g10 x rfl (fun w hw => hw.2)) (by assumption) ?_
        try simp only [Act.put, List.setIfInBounds_toArray, List.set_cons_zero, List.set_cons_succ]
        refine wpAnyH_ready (rs := [10]) (by kernel_rfl) (by simp) ?_
        refine AllReadyH.cons (by simp only [List.getElem?_toArray, List.getElem?_cons_succ, List.getElem?_cons_zero]; first | done | rfl) (fun K hK => ?_) ?_
        · skip
          refine step_call (by rfl) (entry_any u _) (by go_simp) ?_
          rintro e v2 ⟨rfl, hb2⟩
          refine ⟨_, rfl, ?_⟩
          have HA9' := Lib.hid (UA.below (by repeat (first | exact HA9.out | apply UA.drew | apply UA.drewN | apply UA.alloc)) hb2)
          have HA10' := Lib.hid (UA.below (by repeat (first | exact HA10.out | apply UA.drew | apply UA.drewN | apply UA.alloc)) hb2)
          have HB' := Lib.hid (bl_bl (by repeat (first | exact HB.out | apply bl_drew | apply bl_drewN | apply bl_alloc)) hb2)
          clear hb2
          have HA9 := HA9'
          have HA10 := HA10'
          have HB := HB'
          clear HA9' HA10' HB'
          refine hK.out _ _ ?_ (fun hHeld => ?_)
          · (try dsimp only); (refine ⟨?_, ?_⟩ <;> repeat (first | exact HA9.out | exact HA10.out | apply UA.drew | apply UA.drewN | apply UA.alloc))
          clear hK K
          try simp only [Act.put, List.setIfInBounds_toArray, List.set_cons_zero, List.set_cons_succ]
          refine wpAnyH_ready (rs := [11]) (by kernel_rfl) (by simp) ?_
          refine AllReadyH.cons (by simp only [List.getElem?_toArray, List.getElem?_cons_succ, List.getElem?_cons_zero]; first | done | rfl) (fun K hK => ?_) ?_
          · skip
            refine step_call (by rfl) (msgE_any u.nm u.ver u.key _ OKU.out.nm OKU.out.key) (by go_simp) ?_
            rintro e v2 ⟨u2, rfl, hu2, hb2⟩
            refine ⟨_, rfl, ?_⟩
            obtain ⟨b2, c2, rfl⟩ := hu2.rd.shape
            have HA9' := Lib.hid (UA.below (by repeat (first | exact HA9.out | apply UA.drew | apply UA.drewN | apply UA.alloc)) hb2)
            have HA10' := Lib.hid (UA.below (by repeat (first | exact HA10.out | apply UA.drew | apply UA.drewN | apply UA.alloc)) hb2)
            have HB' := Lib.hid (bl_bl (by repeat (first | exact HB.out | apply bl_drew | apply bl_drewN | apply bl_alloc)) hb2)
            clear hb2
            have HA9 := HA9'
            have HA10 := HA10'
            have HB := HB'
            clear HA9' HA10' HB'
            have HM1 := Lib.hid hu2.rd
            clear hu2
            refine hK.out _ _ ?_ (fun hHeld => ?_)
            · (try dsimp only); (refine ⟨?_, ?_⟩ <;> repeat (first | exact HA9.out | exact HA10.out | apply UA.drew | apply UA.drewN | apply UA.alloc))
            clear hK K
            try simp only [Act.put, List.setIfInBounds_toArray, List.set_cons_zero, List.set_cons_succ]
            refine wpAnyH_ready (rs := [12, 14]) (by kernel_rfl) (by simp) ?_
            refine AllReadyH.cons (by simp only [List.getElem?_toArray, List.getElem?_cons_succ, List.getElem?_cons_zero]; first | done | rfl) (fun K hK => ?_) ?_
            · skip
              refine step_conv_bs (by rfl) (.tmp 42) rfl rfl (by repeat (first | exact HM1.out | apply rd_drew | apply rd_drewN | apply rd_alloc)) ?_
              refine hK.out _ _ ?_ (fun hHeld => ?_)
              · (try dsimp only); (refine ⟨?_, ?_⟩ <;> repeat (first | exact HA9.out | exact HA10.out | apply UA.drew | apply UA.drewN | apply UA.alloc))
              clear hK K
              try simp only [Act.put, List.setIfInBounds_toArray, List.set_cons_zero, List.set_cons_succ]
              refine wpAnyH_ready (rs := [14]) (by kernel_rfl) (by simp) ?_
              refine AllReadyH.cons (by simp only [List.getElem?_toArray, List.getElem?_cons_succ, List.getElem?_cons_zero]; first | done | rfl) (fun K hK => ?_) ?_
              · skip
                refine step_call (by rfl) (entry_any x _) (by go_simp) ?_
                rintro e v2 ⟨rfl, hb2⟩
                refine ⟨_, rfl, ?_⟩
                rw [HEN.out]
                have HA9' := Lib.hid (UA.below (by repeat (first | exact HA9.out | apply UA.drew | apply UA.drewN | apply UA.alloc)) hb2)
                have HA10' := Lib.hid (UA.below (by repeat (first | exact HA10.out | apply UA.drew | apply UA.drewN | apply UA.alloc)) hb2)
                have HB' := Lib.hid (bl_bl (by repeat (first | exact HB.out | apply bl_drew | apply bl_drewN | apply bl_alloc)) hb2)
                clear hb2
                have HA9 := HA9'
                have HA10 := HA10'
                have HB := HB'
                clear HA9' HA10' HB'
                refine hK.out _ _ ?_ (fun hHeld => ?_)
                · (try dsimp only); (refine ⟨?_, ?_⟩ <;> repeat (first | exact HA9.out | exact HA10.out | apply UA.drew | apply UA.drewN | apply UA.alloc))
                clear hK K
                try simp only [Act.put, List.setIfInBounds_toArray, List.set_cons_zero, List.set_cons_succ]
                refine wpAnyH_ready (rs := [15]) (by kernel_rfl) (by simp) ?_
                refine AllReadyH.cons (by simp only [List.getElem?_toArray, List.getElem?_cons_succ, List.getElem?_cons_zero]; first | done | rfl) (fun K hK => ?_) ?_
                · skip
                  refine step_call (by rfl) (msgE_any u.nm u.ver u.key _ OKU.out.nm OKU.out.key) (by go_simp) ?_
                  rintro e v2 ⟨u2, rfl, hu2, hb2⟩
                  refine ⟨_, rfl, ?_⟩
                  obtain ⟨b2, c2, rfl⟩ := hu2.rd.shape
                  have HA9' := Lib.hid (UA.below (by repeat (first | exact HA9.out | apply UA.drew | apply UA.drewN | apply UA.alloc)) hb2)
                  have HA10' := Lib.hid (UA.below (by repeat (first | exact HA10.out | apply UA.drew | apply UA.drewN | apply UA.alloc)) hb2)
                  have HB' := Lib.hid (bl_bl (by repeat (first | exact HB.out | apply bl_drew | apply bl_drewN | apply bl_alloc)) hb2)
                  clear hb2
                  have HA9 := HA9'
                  have HA10 := HA10'
                  have HB := HB'
                  clear HA9' HA10' HB'
                  have HM2 := Lib.hid hu2.rd
                  clear hu2
                  refine hK.out _ _ ?_ (fun hHeld => ?_)
                  · (try dsimp only); (refine ⟨?_, ?_⟩ <;> repeat (first | exact HA9.out | exact HA10.out | apply UA.drew | apply UA.drewN | apply UA.alloc))
                  clear hK K
                  try simp only [Act.put, List.setIfInBounds_toArray, List.set_cons_zero, List.set_cons_succ]
                  refine wpAnyH_ready (rs := [16]) (by kernel_rfl) (by simp) ?_
                  refine AllReadyH.cons (by simp only [List.getElem?_toArray, List.getElem?_cons_succ, List.getElem?_cons_zero]; first | done | rfl) (fun K hK => ?_) ?_
                  · skip
                    refine step_conv_bs (by rfl) (.tmp 46) rfl rfl (by repeat (first | exact HM2.out | apply rd_drew | apply rd_drewN | apply rd_alloc)) ?_
                    refine hK.out _ _ ?_ (fun hHeld => ?_)
                    · (try dsimp only); (refine ⟨?_, ?_⟩ <;> repeat (first | exact HA9.out | exact HA10.out | apply UA.drew | apply UA.drewN | apply UA.alloc))
                    clear hK K
                    try simp only [Act.put, List.setIfInBounds_toArray, List.set_cons_zero, List.set_cons_succ]
                    refine wpAnyH_take (i := 17) (v := ?_) (by simp only [List.getElem?_toArray, List.getElem?_cons_succ, List.getElem?_cons_zero]; first | done | rfl) (by kernel_rfl) (by kernel_rfl) (by kernel_rfl) (fun _ _ _ h => h) (Or.inl ⟨by rfl, ?hy⟩) (by assumption) ?_
                    case hy => (intro w hSw; (try dsimp only at hSw); go_simp; all_goals with_reducible rfl)
                    try simp only [Act.put, List.setIfInBounds_toArray, List.set_cons_zero, List.set_cons_succ]
                    refine wpAnyH_take (i := 18) (v := ?_) (by simp only [List.getElem?_toArray, List.getElem?_cons_succ, List.getElem?_cons_zero]; first | done | rfl) (by kernel_rfl) (by kernel_rfl) (by kernel_rfl) (fun _ _ _ h => h) (Or.inl ⟨by rfl, ?hy⟩) (by assumption) ?_
                    case hy => (intro w hSw; (try dsimp only at hSw); go_simp; all_goals with_reducible rfl)
                    try simp only [Act.put, List.setIfInBounds_toArray, List.set_cons_zero, List.set_cons_succ]
                    refine wpAnyH_take (i := 19) (v := ?_) (by simp only [List.getElem?_toArray, List.getElem?_cons_succ, List.getElem?_cons_zero]; first | done | rfl) (by kernel_rfl) (by kernel_rfl) (by kernel_rfl) (fun _ _ _ h => h) (Or.inl ⟨by rfl, ?hy⟩) (by assumption) ?_
                    case hy => (intro w hSw; (try dsimp only at hSw); go_simp; all_goals with_reducible rfl)
                    try simp only [Act.put, List.setIfInBounds_toArray, List.set_cons_zero, List.set_cons_succ]
                    refine wpAnyH_take (i := 20) (by simp only [List.getElem?_toArray, List.getElem?_cons_succ, List.getElem?_cons_zero]; first | done | rfl) (by kernel_rfl) (by kernel_rfl) (by kernel_rfl) (fun _ _ _ h => h) (yields_up (by rfl) _ rfl g10 x rfl (fun w hw => hw.2)) (by assumption) ?_
                    try simp only [Act.put, List.setIfInBounds_toArray, List.set_cons_zero, List.set_cons_succ]
                    refine wpAnyH_take (i := 22) (v := ?_) (by simp only [List.getElem?_toArray, List.getElem?_cons_succ, List.getElem?_cons_zero]; first | done | rfl) (by kernel_rfl) (by kernel_rfl) (by kernel_rfl) (fun _ _ _ h => h) (Or.inl ⟨by rfl, ?hy⟩) (by assumption) ?_
                    case hy => (intro w hSw; (try dsimp only at hSw); go_simp; all_goals with_reducible rfl)
                    try simp only [Act.put, List.setIfInBounds_toArray, List.set_cons_zero, List.set_cons_succ]
                    refine wpAnyH_take (i := 23) (v := ?_) (by simp only [List.getElem?_toArray, List.getElem?_cons_succ, List.getElem?_cons_zero]; first | done | rfl) (by kernel_rfl) (by kernel_rfl) (by kernel_rfl) (fun _ _ _ h => h) (Or.inl ⟨by rfl, ?hy⟩) (by assumption) ?_
                    case hy => (intro w hSw; (try dsimp only at hSw); go_simp; all_goals with_reducible rfl)
                    try simp only [Act.put, List.setIfInBounds_toArray, List.set_cons_zero, List.set_cons_succ]
                    refine wpAnyH_ready (rs := [21]) (by kernel_rfl) (by simp) ?_
                    refine AllReadyH.cons (by simp only [List.getElem?_toArray, List.getElem?_cons_succ, List.getElem?_cons_zero]; first | done | rfl) (fun K hK => ?_) ?_
                    · skip
                      refine step_call (by rfl) (rightU_any x _) (by go_simp) ?_
                      rintro e v2 ⟨rfl, hb2⟩
                      refine ⟨_, rfl, ?_⟩
                      rw [HRW.out]
                      have HA9' := Lib.hid (UA.below (by repeat (first | exact HA9.out | apply UA.drew | apply UA.drewN | apply UA.alloc)) hb2)
                      have HA10' := Lib.hid (UA.below (by repeat (first | exact HA10.out | apply UA.drew | apply UA.drewN | apply UA.alloc)) hb2)
                      have HB' := Lib.hid (bl_bl (by repeat (first | exact HB.out | apply bl_drew | apply bl_drewN | apply bl_alloc)) hb2)
                      clear hb2
                      have HA9 := HA9'
                      have HA10 := HA10'
                      have HB := HB'
                      clear HA9' HA10' HB'
                      refine hK.out _ _ ?_ (fun hHeld => ?_)
                      · (try dsimp only); (refine ⟨?_, ?_⟩ <;> repeat (first | exact HA9.out | exact HA10.out | apply UA.drew | apply UA.drewN | apply UA.alloc))
                      clear hK K
                      try simp only [Act.put, List.setIfInBounds_toArray, List.set_cons_zero, List.set_cons_succ]
                      refine wpAnyH_take (i := 24) (v := ?_) (by simp only [List.getElem?_toArray, List.getElem?_cons_succ, List.getElem?_cons_zero]; first | done | rfl) (by kernel_rfl) (by kernel_rfl) (by kernel_rfl) (fun _ _ _ h => h) (Or.inl ⟨by rfl, ?hy⟩) (by assumption) ?_
                      case hy => (intro w hSw; (try dsimp only at hSw); go_simp; all_goals with_reducible rfl)
                      try simp only [Act.put, List.setIfInBounds_toArray, List.set_cons_zero, List.set_cons_succ]
                      refine wpAnyH_take (i := 25) (v := ?_) (by simp only [List.getElem?_toArray, List.getElem?_cons_succ, List.getElem?_cons_zero]; first | done | rfl) (by kernel_rfl) (by kernel_rfl) (by kernel_rfl) (fun _ _ _ h => h) (Or.inl ⟨by rfl, ?hy⟩) (by assumption) ?_
                      case hy => (intro w hSw; (try dsimp only at hSw); go_simp; all_goals with_reducible rfl)
                      try simp only [Act.put, List.setIfInBounds_toArray, List.set_cons_zero, List.set_cons_succ]
                      refine wpAnyH_take (i := 26) (v := ?_) (by simp only [List.getElem?_toArray, List.getElem?_cons_succ, List.getElem?_cons_zero]; first | done | rfl) (by kernel_rfl) (by kernel_rfl) (by kernel_rfl) (fun _ _ _ h => h) (Or.inl ⟨by rfl, ?hy⟩) (by assumption) ?_
                      case hy => (intro w hSw; (try dsimp only at hSw); go_simp; all_goals with_reducible rfl)
                      try simp only [Act.put, List.setIfInBounds_toArray, List.set_cons_zero, List.set_cons_succ]
                      refine wpAnyH_take (i := 27) (v := ?_) (by simp only [List.getElem?_toArray, List.getElem?_cons_succ, List.getElem?_cons_zero]; first | done | rfl) (by kernel_rfl) (by kernel_rfl) (by kernel_rfl) (fun _ _ _ h => h) (Or.inl ⟨by rfl, ?hy⟩) (by assumption) ?_
                      case hy => (intro w hSw; (try dsimp only at hSw); go_simp; all_goals with_reducible rfl)
                      try simp only [Act.put, List.setIfInBounds_toArray, List.set_cons_zero, List.set_cons_succ]
                      refine wpAnyH_take (i := 28) (v := ?_) (by simp only [List.getElem?_toArray, List.getElem?_cons_succ, List.getElem?_cons_zero]; first | done | rfl) (by kernel_rfl) (by kernel_rfl) (by kernel_rfl) (fun _ _ _ h => h) (Or.inl ⟨by rfl, ?hy⟩) (by assumption) ?_
                      case hy => (intro w hSw; (try dsimp only at hSw); go_simp; all_goals with_reducible rfl)
                      try simp only [Act.put, List.setIfInBounds_toArray, List.set_cons_zero, List.set_cons_succ]
                      refine wpAnyH_take (i := 29) (v := ?_) (by simp only [List.getElem?_toArray, List.getElem?_cons_succ, List.getElem?_cons_zero]; first | done | rfl) (by kernel_rfl) (by kernel_rfl) (by kernel_rfl) (fun _ _ _ h => h) (Or.inl ⟨by rfl, ?hy⟩) (by assumption) ?_
                      case hy => (intro w hSw; (try dsimp only at hSw); go_simp; all_goals with_reducible rfl)
                      try simp only [Act.put, List.setIfInBounds_toArray, List.set_cons_zero, List.set_cons_succ]
                      refine wpAnyH_take (i := 30) (v := ?_) (by simp only [List.getElem?_toArray, List.getElem?_cons_succ, List.getElem?_cons_zero]; first | done | rfl) (by kernel_rfl) (by kernel_rfl) (by kernel_rfl) (fun _ _ _ h => h) (Or.inl ⟨by rfl, ?hy⟩) (by assumption) ?_
                      case hy => (intro w hSw; (try dsimp only at hSw); go_simp; all_goals with_reducible rfl)
                      try simp only [Act.put, List.setIfInBounds_toArray, List.set_cons_zero, List.set_cons_succ]
                      refine wpAnyH_done (by kernel_rfl) ?_ _
                      refine NoPanic.normal ?_
                      go_wp2_with fail
                      go_ret
                      exact ⟨rfl, HB.out⟩
                    exact AllReadyH.nil
                  exact AllReadyH.nil
                exact AllReadyH.nil
              exact AllReadyH.nil
            refine AllReadyH.cons (by simp only [List.getElem?_toArray, List.getElem?_cons_succ, List.getElem?_cons_zero]; first | done | rfl) (fun K hK => ?_) ?_
            · skip
              refine step_call (by rfl) (entry_any x _) (by go_simp) ?_
              rintro e v2 ⟨rfl, hb2⟩
              refine ⟨_, rfl, ?_⟩
              rw [HEN.out]
              have HA9' := Lib.hid (UA.below (by repeat (first | exact HA9.out | apply UA.drew | apply UA.drewN | apply UA.alloc)) hb2)
              have HA10' := Lib.hid (UA.below (by repeat (first | exact HA10.out | apply UA.drew | apply UA.drewN | apply UA.alloc)) hb2)
              have HB' := Lib.hid (bl_bl (by repeat (first | exact HB.out | apply bl_drew | apply bl_drewN | apply bl_alloc)) hb2)
              have HM1' := Lib.hid (Rd.below (by repeat (first | exact HM1.out | apply rd_drew | apply rd_drewN | apply rd_alloc)) hb2)
              clear hb2
              have HA9 := HA9'
              have HA10 := HA10'
              have HB := HB'
              have HM1 := HM1'
              clear HA9' HA10' HB' HM1'
              refine hK.out _ _ ?_ (fun hHeld => ?_)
              · (try dsimp only); (refine ⟨?_, ?_⟩ <;> repeat (first | exact HA9.out | exact HA10.out | apply UA.drew | apply UA.drewN | apply UA.alloc))
              clear hK K
              try simp only [Act.put, List.setIfInBounds_toArray, List.set_cons_zero, List.set_cons_succ]
              refine wpAnyH_ready (rs := [12, 15]) (by kernel_rfl) (by simp) ?_
              refine AllReadyH.cons (by simp only [List.getElem?_toArray, List.getElem?_cons_succ, List.getElem?_cons_zero]; first | done | rfl) (fun K hK => ?_) ?_
              · skip
                refine step_conv_bs (by rfl) (.tmp 42) rfl rfl (by repeat (first | exact HM1.out | apply rd_drew | apply rd_drewN | apply rd_alloc)) ?_
                refine hK.out _ _ ?_ (fun hHeld => ?_)
                · (try dsimp only); (refine ⟨?_, ?_⟩ <;> repeat (first | exact HA9.out | exact HA10.out | apply UA.drew | apply UA.drewN | apply UA.alloc))
                clear hK K
                try simp only [Act.put, List.setIfInBounds_toArray, List.set_cons_zero, List.set_cons_succ]
                refine wpAnyH_ready (rs := [15]) (by kernel_rfl) (by simp) ?_
                refine AllReadyH.cons (by simp only [List.getElem?_toArray, List.getElem?_cons_succ, List.getElem?_cons_zero]; first | done | rfl) (fun K hK => ?_) ?_
                · skip
                  refine step_call (by rfl) (msgE_any u.nm u.ver u.key _ OKU.out.nm OKU.out.key) (by go_simp) ?_
                  rintro e v2 ⟨u2, rfl, hu2, hb2⟩
                  refine ⟨_, rfl, ?_⟩
                  obtain ⟨b2, c2, rfl⟩ := hu2.rd.shape
                  have HA9' := Lib.hid (UA.below (by repeat (first | exact HA9.out | apply UA.drew | apply UA.drewN | apply UA.alloc)) hb2)
                  have HA10' := Lib.hid (UA.below (by repeat (first | exact HA10.out | apply UA.drew | apply UA.drewN | apply UA.alloc)) hb2)
                  have HB' := Lib.hid (bl_bl (by repeat (first | exact HB.out | apply bl_drew | apply bl_drewN | apply bl_alloc)) hb2)
                  clear hb2
                  have HA9 := HA9'
                  have HA10 := HA10'
                  have HB := HB'
                  clear HA9' HA10' HB'
                  have HM2 := Lib.hid hu2.rd
                  clear hu2
                  refine hK.out _ _ ?_ (fun hHeld => ?_)
                  · (try dsimp only); (refine ⟨?_, ?_⟩ <;> repeat (first | exact HA9.out | exact HA10.out | apply UA.drew | apply UA.drewN | apply UA.alloc))
                  clear hK K
                  try simp only [Act.put, List.setIfInBounds_toArray, List.set_cons_zero, List.set_cons_succ]
                  refine wpAnyH_ready (rs := [16]) (by kernel_rfl) (by simp) ?_
                  refine AllReadyH.cons (by simp only [List.getElem?_toArray, List.getElem?_cons_succ, List.getElem?_cons_zero]; first | done | rfl) (fun K hK => ?_) ?_
                  · skip
                    refine step_conv_bs (by rfl) (.tmp 46) rfl rfl (by repeat (first | exact HM2.out | apply rd_drew | apply rd_drewN | apply rd_alloc)) ?_
                    refine hK.out _ _ ?_ (fun hHeld => ?_)
                    · (try dsimp only); (refine ⟨?_, ?_⟩ <;> repeat (first | exact HA9.out | exact HA10.out | apply UA.drew | apply UA.drewN | apply UA.alloc))
                    clear hK K
                    try simp only [Act.put, List.setIfInBounds_toArray, List.set_cons_zero, List.set_cons_succ]
                    refine wpAnyH_take (i := 17) (v := ?_) (by simp only [List.getElem?_toArray, List.getElem?_cons_succ, List.getElem?_cons_zero]; first | done | rfl) (by kernel_rfl) (by kernel_rfl) (by kernel_rfl) (fun _ _ _ h => h) (Or.inl ⟨by rfl, ?hy⟩) (by assumption) ?_
                    case hy => (intro w hSw; (try dsimp only at hSw); go_simp; all_goals with_reducible rfl)
                    try simp only [Act.put, List.setIfInBounds_toArray, List.set_cons_zero, List.set_cons_succ]
                    refine wpAnyH_take (i := 18) (v := ?_) (by simp only [List.getElem?_toArray, List.getElem?_cons_succ, List.getElem?_cons_zero]; first | done | rfl) (by kernel_rfl) (by kernel_rfl) (by kernel_rfl) (fun _ _ _ h => h) (Or.inl ⟨by rfl, ?hy⟩) (by assumption) ?_
                    case hy => (intro w hSw; (try dsimp only at hSw); go_simp; all_goals with_reducible rfl)
                    try simp only [Act.put, List.setIfInBounds_toArray, List.set_cons_zero, List.set_cons_succ]
                    refine wpAnyH_take (i := 19) (v := ?_) (by simp only [List.getElem?_toArray, List.getElem?_cons_succ, List.getElem?_cons_zero]; first | done | rfl) (by kernel_rfl) (by kernel_rfl) (by kernel_rfl) (fun _ _ _ h => h) (Or.inl ⟨by rfl, ?hy⟩) (by assumption) ?_
                    case hy => (intro w hSw; (try dsimp only at hSw); go_simp; all_goals with_reducible rfl)
                    try simp only [Act.put, List.setIfInBounds_toArray, List.set_cons_zero, List.set_cons_succ]
                    refine wpAnyH_take (i := 20) (by simp only [List.getElem?_toArray, List.getElem?_cons_succ, List.getElem?_cons_zero]; first | done | rfl) (by kernel_rfl) (by kernel_rfl) (by kernel_rfl) (fun _ _ _ h => h) (yields_up (by rfl) _ rfl g10 x rfl (fun w hw => hw.2)) (by assumption) ?_
                    try simp only [Act.put, List.setIfInBounds_toArray, List.set_cons_zero, List.set_cons_succ]
                    refine wpAnyH_take (i := 22) (v := ?_) (by simp only [List.getElem?_toArray, List.getElem?_cons_succ, List.getElem?_cons_zero]; first | done | rfl) (by kernel_rfl) (by kernel_rfl) (by kernel_rfl) (fun _ _ _ h => h) (Or.inl ⟨by rfl, ?hy⟩) (by assumption) ?_
                    case hy => (intro w hSw; (try dsimp only at hSw); go_simp; all_goals with_reducible rfl)
                    try simp only [Act.put, List.setIfInBounds_toArray, List.set_cons_zero, List.set_cons_succ]
                    refine wpAnyH_take (i := 23) (v := ?_) (by simp only [List.getElem?_toArray, List.getElem?_cons_succ, List.getElem?_cons_zero]; first | done | rfl) (by kernel_rfl) (by kernel_rfl) (by kernel_rfl) (fun _ _ _ h => h) (Or.inl ⟨by rfl, ?hy⟩) (by assumption) ?_
                    case hy => (intro w hSw; (try dsimp only at hSw); go_simp; all_goals with_reducible rfl)
                    try simp only [Act.put, List.setIfInBounds_toArray, List.set_cons_zero, List.set_cons_succ]
                    refine wpAnyH_ready (rs := [21]) (by kernel_rfl) (by simp) ?_
                    refine AllReadyH.cons (by simp only [List.getElem?_toArray, List.getElem?_cons_succ, List.getElem?_cons_zero]; first | done | rfl) (fun K hK => ?_) ?_
                    · skip
                      refine step_call (by rfl) (rightU_any x _) (by go_simp) ?_
                      rintro e v2 ⟨rfl, hb2⟩
                      refine ⟨_, rfl, ?_⟩
                      rw [HRW.out]
                      have HA9' := Lib.hid (UA.below (by repeat (first | exact HA9.out | apply UA.drew | apply UA.drewN | apply UA.alloc)) hb2)
                      have HA10' := Lib.hid (UA.below (by repeat (first | exact HA10.out | apply UA.drew | apply UA.drewN | apply UA.alloc)) hb2)
                      have HB' := Lib.hid (bl_bl (by repeat (first | exact HB.out | apply bl_drew | apply bl_drewN | apply bl_alloc)) hb2)
                      clear hb2
                      have HA9 := HA9'
                      have HA10 := HA10'
                      have HB := HB'
                      clear HA9' HA10' HB'
                      refine hK.out _ _ ?_ (fun hHeld => ?_)
                      · (try dsimp only); (refine ⟨?_, ?_⟩ <;> repeat (first | exact HA9.out | exact HA10.out | apply UA.drew | apply UA.drewN | apply UA.alloc))
                      clear hK K
                      try simp only [Act.put, List.setIfInBounds_toArray, List.set_cons_zero, List.set_cons_succ]
                      refine wpAnyH_take (i := 24) (v := ?_) (by simp only [List.getElem?_toArray, List.getElem?_cons_succ, List.getElem?_cons_zero]; first | done | rfl) (by kernel_rfl) (by kernel_rfl) (by kernel_rfl) (fun _ _ _ h => h) (Or.inl ⟨by rfl, ?hy⟩) (by assumption) ?_
                      case hy => (intro w hSw; (try dsimp only at hSw); go_simp; all_goals with_reducible rfl)
                      try simp only [Act.put, List.setIfInBounds_toArray, List.set_cons_zero, List.set_cons_succ]
                      refine wpAnyH_take (i := 25) (v := ?_) (by simp only [List.getElem?_toArray, List.getElem?_cons_succ, List.getElem?_cons_zero]; first | done | rfl) (by kernel_rfl) (by kernel_rfl) (by kernel_rfl) (fun _ _ _ h => h) (Or.inl ⟨by rfl, ?hy⟩) (by assumption) ?_
                      case hy => (intro w hSw; (try dsimp only at hSw); go_simp; all_goals with_reducible rfl)
                      try simp only [Act.put, List.setIfInBounds_toArray, List.set_cons_zero, List.set_cons_succ]
                      refine wpAnyH_take (i := 26) (v := ?_) (by simp only [List.getElem?_toArray, List.getElem?_cons_succ, List.getElem?_cons_zero]; first | done | rfl) (by kernel_rfl) (by kernel_rfl) (by kernel_rfl) (fun _ _ _ h => h) (Or.inl ⟨by rfl, ?hy⟩) (by assumption) ?_
                      case hy => (intro w hSw; (try dsimp only at hSw); go_simp; all_goals with_reducible rfl)
                      try simp only [Act.put, List.setIfInBounds_toArray, List.set_cons_zero, List.set_cons_succ]
                      refine wpAnyH_take (i := 27) (v := ?_) (by simp only [List.getElem?_toArray, List.getElem?_cons_succ, List.getElem?_cons_zero]; first | done | rfl) (by kernel_rfl) (by kernel_rfl) (by kernel_rfl) (fun _ _ _ h => h) (Or.inl ⟨by rfl, ?hy⟩) (by assumption) ?_
                      case hy => (intro w hSw; (try dsimp only at hSw); go_simp; all_goals with_reducible rfl)
                      try simp only [Act.put, List.setIfInBounds_toArray, List.set_cons_zero, List.set_cons_succ]
                      refine wpAnyH_take (i := 28) (v := ?_) (by simp only [List.getElem?_toArray, List.getElem?_cons_succ, List.getElem?_cons_zero]; first | done | rfl) (by kernel_rfl) (by kernel_rfl) (by kernel_rfl) (fun _ _ _ h => h) (Or.inl ⟨by rfl, ?hy⟩) (by assumption) ?_
                      case hy => (intro w hSw; (try dsimp only at hSw); go_simp; all_goals with_reducible rfl)
                      try simp only [Act.put, List.setIfInBounds_toArray, List.set_cons_zero, List.set_cons_succ]
                      refine wpAnyH_take (i := 29) (v := ?_) (by simp only [List.getElem?_toArray, List.getElem?_cons_succ, List.getElem?_cons_zero]; first | done | rfl) (by kernel_rfl) (by kernel_rfl) (by kernel_rfl) (fun _ _ _ h => h) (Or.inl ⟨by rfl, ?hy⟩) (by assumption) ?_
                      case hy => (intro w hSw; (try dsimp only at hSw); go_simp; all_goals with_reducible rfl)
                      try simp only [Act.put, List.setIfInBounds_toArray, List.set_cons_zero, List.set_cons_succ]
                      refine wpAnyH_take (i := 30) (v := ?_) (by simp only [List.getElem?_toArray, List.getElem?_cons_succ, List.getElem?_cons_zero]; first | done | rfl) (by kernel_rfl) (by kernel_rfl) (by kernel_rfl) (fun _ _ _ h => h) (Or.inl ⟨by rfl, ?hy⟩) (by assumption) ?_
                      case hy => (intro w hSw; (try dsimp only at hSw); go_simp; all_goals with_reducible rfl)
                      try simp only [Act.put, List.setIfInBounds_toArray, List.set_cons_zero, List.set_cons_succ]
                      refine wpAnyH_done (by kernel_rfl) ?_ _
                      refine NoPanic.normal ?_
                      go_wp2_with fail
                      go_ret
                      exact ⟨rfl, HB.out⟩
                    exact AllReadyH.nil
                  exact AllReadyH.nil
                exact AllReadyH.nil
              refine AllReadyH.cons (by simp only [List.getElem?_toArray, List.getElem?_cons_succ, List.getElem?_cons_zero]; first | done | rfl) (fun K hK => ?_) ?_
              · skip
                refine step_call (by rfl) (msgE_any u.nm u.ver u.key _ OKU.out.nm OKU.out.key) (by go_simp) ?_
                rintro e v2 ⟨u2, rfl, hu2, hb2⟩
                refine ⟨_, rfl, ?_⟩
                obtain ⟨b2, c2, rfl⟩ := hu2.rd.shape
                have HA9' := Lib.hid (UA.below (by repeat (first | exact HA9.out | apply UA.drew | apply UA.drewN | apply UA.alloc)) hb2)
                have HA10' := Lib.hid (UA.below (by repeat (first | exact HA10.out | apply UA.drew | apply UA.drewN | apply UA.alloc)) hb2)
                have HB' := Lib.hid (bl_bl (by repeat (first | exact HB.out | apply bl_drew | apply bl_drewN | apply bl_alloc)) hb2)
                have HM1' := Lib.hid (Rd.below (by repeat (first | exact HM1.out | apply rd_drew | apply rd_drewN | apply rd_alloc)) hb2)
                clear hb2
                have HA9 := HA9'
                have HA10 := HA10'
                have HB := HB'
                have HM1 := HM1'
                clear HA9' HA10' HB' HM1'
                have HM2 := Lib.hid hu2.rd
                clear hu2
                refine hK.out _ _ ?_ (fun hHeld => ?_)
                · (try dsimp only); (refine ⟨?_, ?_⟩ <;> repeat (first | exact HA9.out | exact HA10.out | apply UA.drew | apply UA.drewN | apply UA.alloc))
                clear hK K
                try simp only [Act.put, List.setIfInBounds_toArray, List.set_cons_zero, List.set_cons_succ]
                refine wpAnyH_ready (rs := [12, 16]) (by kernel_rfl) (by simp) ?_
                refine AllReadyH.cons (by simp only [List.getElem?_toArray, List.getElem?_cons_succ, List.getElem?_cons_zero]; first | done | rfl) (fun K hK => ?_) ?_
                · skip
                  refine step_conv_bs (by rfl) (.tmp 42) rfl rfl (by repeat (first | exact HM1.out | apply rd_drew | apply rd_drewN | apply rd_alloc)) ?_
                  refine hK.out _ _ ?_ (fun hHeld => ?_)
                  · (try dsimp only); (refine ⟨?_, ?_⟩ <;> repeat (first | exact HA9.out | exact HA10.out | apply UA.drew | apply UA.drewN | apply UA.alloc))
                  clear hK K
                  try simp only [Act.put, List.setIfInBounds_toArray, List.set_cons_zero, List.set_cons_succ]
                  refine wpAnyH_ready (rs := [16]) (by kernel_rfl) (by simp) ?_
                  refine AllReadyH.cons (by simp only [List.getElem?_toArray, List.getElem?_cons_succ, List.getElem?_cons_zero]; first | done | rfl) (fun K hK => ?_) ?_
                  · skip
                    refine step_conv_bs (by rfl) (.tmp 46) rfl rfl (by repeat (first | exact HM2.out | apply rd_drew | apply rd_drewN | apply rd_alloc)) ?_
                    refine hK.out _ _ ?_ (fun hHeld => ?_)
                    · (try dsimp only); (refine ⟨?_, ?_⟩ <;> repeat (first | exact HA9.out | exact HA10.out | apply UA.drew | apply UA.drewN | apply UA.alloc))
                    clear hK K
                    try simp only [Act.put, List.setIfInBounds_toArray, List.set_cons_zero, List.set_cons_succ]
                    refine wpAnyH_take (i := 17) (v := ?_) (by simp only [List.getElem?_toArray, List.getElem?_cons_succ, List.getElem?_cons_zero]; first | done | rfl) (by kernel_rfl) (by kernel_rfl) (by kernel_rfl) (fun _ _ _ h => h) (Or.inl ⟨by rfl, ?hy⟩) (by assumption) ?_
                    case hy => (intro w hSw; (try dsimp only at hSw); go_simp; all_goals with_reducible rfl)
                    try simp only [Act.put, List.setIfInBounds_toArray, List.set_cons_zero, List.set_cons_succ]
                    refine wpAnyH_take (i := 18) (v := ?_) (by simp only [List.getElem?_toArray, List.getElem?_cons_succ, List.getElem?_cons_zero]; first | done | rfl) (by kernel_rfl) (by kernel_rfl) (by kernel_rfl) (fun _ _ _ h => h) (Or.inl ⟨by rfl, ?hy⟩) (by assumption) ?_
                    case hy => (intro w hSw; (try dsimp only at hSw); go_simp; all_goals with_reducible rfl)
                    try simp only [Act.put, List.setIfInBounds_toArray, List.set_cons_zero, List.set_cons_succ]
                    refine wpAnyH_take (i := 19) (v := ?_) (by simp only [List.getElem?_toArray, List.getElem?_cons_succ, List.getElem?_cons_zero]; first | done | rfl) (by kernel_rfl) (by kernel_rfl) (by kernel_rfl) (fun _ _ _ h => h) (Or.inl ⟨by rfl, ?hy⟩) (by assumption) ?_
                    case hy => (intro w hSw; (try dsimp only at hSw); go_simp; all_goals with_reducible rfl)
                    try simp only [Act.put, List.setIfInBounds_toArray, List.set_cons_zero, List.set_cons_succ]
                    refine wpAnyH_take (i := 20) (by simp only [List.getElem?_toArray, List.getElem?_cons_succ, List.getElem?_cons_zero]; first | done | rfl) (by kernel_rfl) (by kernel_rfl) (by kernel_rfl) (fun _ _ _ h => h) (yields_up (by rfl) _ rfl g10 x rfl (fun w hw => hw.2)) (by assumption) ?_
                    try simp only [Act.put, List.setIfInBounds_toArray, List.set_cons_zero, List.set_cons_succ]
                    refine wpAnyH_take (i := 22) (v := ?_) (by simp only [List.getElem?_toArray, List.getElem?_cons_succ, List.getElem?_cons_zero]; first | done | rfl) (by kernel_rfl) (by kernel_rfl) (by kernel_rfl) (fun _ _ _ h => h) (Or.inl ⟨by rfl, ?hy⟩) (by assumption) ?_
                    case hy => (intro w hSw; (try dsimp only at hSw); go_simp; all_goals with_reducible rfl)
                    try simp only [Act.put, List.setIfInBounds_toArray, List.set_cons_zero, List.set_cons_succ]
                    refine wpAnyH_take (i := 23) (v := ?_) (by simp only [List.getElem?_toArray, List.getElem?_cons_succ, List.getElem?_cons_zero]; first | done | rfl) (by kernel_rfl) (by kernel_rfl) (by kernel_rfl) (fun _ _ _ h => h) (Or.inl ⟨by rfl, ?hy⟩) (by assumption) ?_
                    case hy => (intro w hSw; (try dsimp only at hSw); go_simp; all_goals with_reducible rfl)
                    try simp only [Act.put, List.setIfInBounds_toArray, List.set_cons_zero, List.set_cons_succ]
                    refine wpAnyH_ready (rs := [21]) (by kernel_rfl) (by simp) ?_
                    refine AllReadyH.cons (by simp only [List.getElem?_toArray, List.getElem?_cons_succ, List.getElem?_cons_zero]; first | done | rfl) (fun K hK => ?_) ?_
                    · skip
                      refine step_call (by rfl) (rightU_any x _) (by go_simp) ?_
                      rintro e v2 ⟨rfl, hb2⟩
                      refine ⟨_, rfl, ?_⟩
                      rw [HRW.out]
                      have HA9' := Lib.hid (UA.below (by repeat (first | exact HA9.out | apply UA.drew | apply UA.drewN | apply UA.alloc)) hb2)
                      have HA10' := Lib.hid (UA.below (by repeat (first | exact HA10.out | apply UA.drew | apply UA.drewN | apply UA.alloc)) hb2)
                      have HB' := Lib.hid (bl_bl (by repeat (first | exact HB.out | apply bl_drew | apply bl_drewN | apply bl_alloc)) hb2)
                      clear hb2
                      have HA9 := HA9'
                      have HA10 := HA10'
                      have HB := HB'
                      clear HA9' HA10' HB'
                      refine hK.out _ _ ?_ (fun hHeld => ?_)
                      · (try dsimp only); (refine ⟨?_, ?_⟩ <;> repeat (first | exact HA9.out | exact HA10.out | apply UA.drew | apply UA.drewN | apply UA.alloc))
                      clear hK K
                      try simp only [Act.put, List.setIfInBounds_toArray, List.set_cons_zero, List.set_cons_succ]
                      refine wpAnyH_take (i := 24) (v := ?_) (by simp only [List.getElem?_toArray, List.getElem?_cons_succ, List.getElem?_cons_zero]; first | done | rfl) (by kernel_rfl) (by kernel_rfl) (by kernel_rfl) (fun _ _ _ h => h) (Or.inl ⟨by rfl, ?hy⟩) (by assumption) ?_
                      case hy => (intro w hSw; (try dsimp only at hSw); go_simp; all_goals with_reducible rfl)
                      try simp only [Act.put, List.setIfInBounds_toArray, List.set_cons_zero, List.set_cons_succ]
                      refine wpAnyH_take (i := 25) (v := ?_) (by simp only [List.getElem?_toArray, List.getElem?_cons_succ, List.getElem?_cons_zero]; first | done | rfl) (by kernel_rfl) (by kernel_rfl) (by kernel_rfl) (fun _ _ _ h => h) (Or.inl ⟨by rfl, ?hy⟩) (by assumption) ?_
                      case hy => (intro w hSw; (try dsimp only at hSw); go_simp; all_goals with_reducible rfl)
                      try simp only [Act.put, List.setIfInBounds_toArray, List.set_cons_zero, List.set_cons_succ]
                      refine wpAnyH_take (i := 26) (v := ?_) (by simp only [List.getElem?_toArray, List.getElem?_cons_succ, List.getElem?_cons_zero]; first | done | rfl) (by kernel_rfl) (by kernel_rfl) (by kernel_rfl) (fun _ _ _ h => h) (Or.inl ⟨by rfl, ?hy⟩) (by assumption) ?_
                      case hy => (intro w hSw; (try dsimp only at hSw); go_simp; all_goals with_reducible rfl)
                      try simp only [Act.put, List.setIfInBounds_toArray, List.set_cons_zero, List.set_cons_succ]
                      refine wpAnyH_take (i := 27) (v := ?_) (by simp only [List.getElem?_toArray, List.getElem?_cons_succ, List.getElem?_cons_zero]; first | done | rfl) (by kernel_rfl) (by kernel_rfl) (by kernel_rfl) (fun _ _ _ h => h) (Or.inl ⟨by rfl, ?hy⟩) (by assumption) ?_
                      case hy => (intro w hSw; (try dsimp only at hSw); go_simp; all_goals with_reducible rfl)
                      try simp only [Act.put, List.setIfInBounds_toArray, List.set_cons_zero, List.set_cons_succ]
                      refine wpAnyH_take (i := 28) (v := ?_) (by simp only [List.getElem?_toArray, List.getElem?_cons_succ, List.getElem?_cons_zero]; first | done | rfl) (by kernel_rfl) (by kernel_rfl) (by kernel_rfl) (fun _ _ _ h => h) (Or.inl ⟨by rfl, ?hy⟩) (by assumption) ?_
                      case hy => (intro w hSw; (try dsimp only at hSw); go_simp; all_goals with_reducible rfl)
                      try simp only [Act.put, List.setIfInBounds_toArray, List.set_cons_zero, List.set_cons_succ]
                      refine wpAnyH_take (i := 29) (v := ?_) (by simp only [List.getElem?_toArray, List.getElem?_cons_succ, List.getElem?_cons_zero]; first | done | rfl) (by kernel_rfl) (by kernel_rfl) (by kernel_rfl) (fun _ _ _ h => h) (Or.inl ⟨by rfl, ?hy⟩) (by assumption) ?_
                      case hy => (intro w hSw; (try dsimp only at hSw); go_simp; all_goals with_reducible rfl)
                      try simp only [Act.put, List.setIfInBounds_toArray, List.set_cons_zero, List.set_cons_succ]
                      refine wpAnyH_take (i := 30) (v := ?_) (by simp only [List.getElem?_toArray, List.getElem?_cons_succ, List.getElem?_cons_zero]; first | done | rfl) (by kernel_rfl) (by kernel_rfl) (by kernel_rfl) (fun _ _ _ h => h) (Or.inl ⟨by rfl, ?hy⟩) (by assumption) ?_
                      case hy => (intro w hSw; (try dsimp only at hSw); go_simp; all_goals with_reducible rfl)
                      try simp only [Act.put, List.setIfInBounds_toArray, List.set_cons_zero, List.set_cons_succ]
                      refine wpAnyH_done (by kernel_rfl) ?_ _
                      refine NoPanic.normal ?_
                      go_wp2_with fail
                      go_ret
                      exact ⟨rfl, HB.out⟩
                    exact AllReadyH.nil
                  exact AllReadyH.nil
                refine AllReadyH.cons (by simp only [List.getElem?_toArray, List.getElem?_cons_succ, List.getElem?_cons_zero]; first | done | rfl) (fun K hK => ?_) ?_
                · skip
                  refine step_conv_bs (by rfl) (.tmp 46) rfl rfl (by repeat (first | exact HM2.out | apply rd_drew | apply rd_drewN | apply rd_alloc)) ?_
                  refine hK.out _ _ ?_ (fun hHeld => ?_)
                  · (try dsimp only); (refine ⟨?_, ?_⟩ <;> repeat (first | exact HA9.out | exact HA10.out | apply UA.drew | apply UA.drewN | apply UA.alloc))
                  clear hK K
                  try simp only [Act.put, List.setIfInBounds_toArray, List.set_cons_zero, List.set_cons_succ]
                  refine wpAnyH_ready (rs := [12]) (by kernel_rfl) (by simp) ?_
                  refine AllReadyH.cons (by simp only [List.getElem?_toArray, List.getElem?_cons_succ, List.getElem?_cons_zero]; first | done | rfl) (fun K hK => ?_) ?_
                  · skip
                    refine step_conv_bs (by rfl) (.tmp 42) rfl rfl (by repeat (first | exact HM1.out | apply rd_drew | apply rd_drewN | apply rd_alloc)) ?_
                    refine hK.out _ _ ?_ (fun hHeld => ?_)
                    · (try dsimp only); (refine ⟨?_, ?_⟩ <;> repeat (first | exact HA9.out | exact HA10.out | apply UA.drew | apply UA.drewN | apply UA.alloc))
                    clear hK K
                    try simp only [Act.put, List.setIfInBounds_toArray, List.set_cons_zero, List.set_cons_succ]
                    refine wpAnyH_take (i := 17) (v := ?_) (by simp only [List.getElem?_toArray, List.getElem?_cons_succ, List.getElem?_cons_zero]; first | done | rfl) (by kernel_rfl) (by kernel_rfl) (by kernel_rfl) (fun _ _ _ h => h) (Or.inl ⟨by rfl, ?hy⟩) (by assumption) ?_
                    case hy => (intro w hSw; (try dsimp only at hSw); go_simp; all_goals with_reducible rfl)
                    try simp only [Act.put, List.setIfInBounds_toArray, List.set_cons_zero, List.set_cons_succ]
                    refine wpAnyH_take (i := 18) (v := ?_) (by simp only [List.getElem?_toArray, List.getElem?_cons_succ, List.getElem?_cons_zero]; first | done | rfl) (by kernel_rfl) (by kernel_rfl) (by kernel_rfl) (fun _ _ _ h => h) (Or.inl ⟨by rfl, ?hy⟩) (by assumption) ?_
                    case hy => (intro w hSw; (try dsimp only at hSw); go_simp; all_goals with_reducible rfl)
                    try simp only [Act.put, List.setIfInBounds_toArray, List.set_cons_zero, List.set_cons_succ]
                    refine wpAnyH_take (i := 19) (v := ?_) (by simp only [List.getElem?_toArray, List.getElem?_cons_succ, List.getElem?_cons_zero]; first | done | rfl) (by kernel_rfl) (by kernel_rfl) (by kernel_rfl) (fun _ _ _ h => h) (Or.inl ⟨by rfl, ?hy⟩) (by assumption) ?_
                    case hy => (intro w hSw; (try dsimp only at hSw); go_simp; all_goals with_reducible rfl)
                    try simp only [Act.put, List.setIfInBounds_toArray, List.set_cons_zero, List.set_cons_succ]
                    refine wpAnyH_take (i := 20) (by simp only [List.getElem?_toArray, List.getElem?_cons_succ, List.getElem?_cons_zero]; first | done | rfl) (by kernel_rfl) (by kernel_rfl) (by kernel_rfl) (fun _ _ _ h => h) (yields_up (by rfl) _ rfl g10 x rfl (fun w hw => hw.2)) (by assumption) ?_
                    try simp only [Act.put, List.setIfInBounds_toArray, List.set_cons_zero, List.set_cons_succ]
                    refine wpAnyH_take (i := 22) (v := ?_) (by simp only [List.getElem?_toArray, List.getElem?_cons_succ, List.getElem?_cons_zero]; first | done | rfl) (by kernel_rfl) (by kernel_rfl) (by kernel_rfl) (fun _ _ _ h => h) (Or.inl ⟨by rfl, ?hy⟩) (by assumption) ?_
                    case hy => (intro w hSw; (try dsimp only at hSw); go_simp; all_goals with_reducible rfl)
                    try simp only [Act.put, List.setIfInBounds_toArray, List.set_cons_zero, List.set_cons_succ]
                    refine wpAnyH_take (i := 23) (v := ?_) (by simp only [List.getElem?_toArray, List.getElem?_cons_succ, List.getElem?_cons_zero]; first | done | rfl) (by kernel_rfl) (by kernel_rfl) (by kernel_rfl) (fun _ _ _ h => h) (Or.inl ⟨by rfl, ?hy⟩) (by assumption) ?_
                    case hy => (intro w hSw; (try dsimp only at hSw); go_simp; all_goals with_reducible rfl)
                    try simp only [Act.put, List.setIfInBounds_toArray, List.set_cons_zero, List.set_cons_succ]
                    refine wpAnyH_ready (rs := [21]) (by kernel_rfl) (by simp) ?_
                    refine AllReadyH.cons (by simp only [List.getElem?_toArray, List.getElem?_cons_succ, List.getElem?_cons_zero]; first | done | rfl) (fun K hK => ?_) ?_
                    · skip
                      refine step_call (by rfl) (rightU_any x _) (by go_simp) ?_
                      rintro e v2 ⟨rfl, hb2⟩
                      refine ⟨_, rfl, ?_⟩
                      rw [HRW.out]
                      have HA9' := Lib.hid (UA.below (by repeat (first | exact HA9.out | apply UA.drew | apply UA.drewN | apply UA.alloc)) hb2)
                      have HA10' := Lib.hid (UA.below (by repeat (first | exact HA10.out | apply UA.drew | apply UA.drewN | apply UA.alloc)) hb2)
                      have HB' := Lib.hid (bl_bl (by repeat (first | exact HB.out | apply bl_drew | apply bl_drewN | apply bl_alloc)) hb2)
                      clear hb2
                      have HA9 := HA9'
                      have HA10 := HA10'
                      have HB := HB'
                      clear HA9' HA10' HB'
                      refine hK.out _ _ ?_ (fun hHeld => ?_)
                      · (try dsimp only); (refine ⟨?_, ?_⟩ <;> repeat (first | exact HA9.out | exact HA10.out | apply UA.drew | apply UA.drewN | apply UA.alloc))
                      clear hK K
                      try simp only [Act.put, List.setIfInBounds_toArray, List.set_cons_zero, List.set_cons_succ]
                      refine wpAnyH_take (i := 24) (v := ?_) (by simp only [List.getElem?_toArray, List.getElem?_cons_succ, List.getElem?_cons_zero]; first | done | rfl) (by kernel_rfl) (by kernel_rfl) (by kernel_rfl) (fun _ _ _ h => h) (Or.inl ⟨by rfl, ?hy⟩) (by assumption) ?_
                      case hy => (intro w hSw; (try dsimp only at hSw); go_simp; all_goals with_reducible rfl)
                      try simp only [Act.put, List.setIfInBounds_toArray, List.set_cons_zero, List.set_cons_succ]
                      refine wpAnyH_take (i := 25) (v := ?_) (by simp only [List.getElem?_toArray, List.getElem?_cons_succ, List.getElem?_cons_zero]; first | done | rfl) (by kernel_rfl) (by kernel_rfl) (by kernel_rfl) (fun _ _ _ h => h) (Or.inl ⟨by rfl, ?hy⟩) (by assumption) ?_
                      case hy => (intro w hSw; (try dsimp only at hSw); go_simp; all_goals with_reducible rfl)
                      try simp only [Act.put, List.setIfInBounds_toArray, List.set_cons_zero, List.set_cons_succ]
                      refine wpAnyH_take (i := 26) (v := ?_) (by simp only [List.getElem?_toArray, List.getElem?_cons_succ, List.getElem?_cons_zero]; first | done | rfl) (by kernel_rfl) (by kernel_rfl) (by kernel_rfl) (fun _ _ _ h => h) (Or.inl ⟨by rfl, ?hy⟩) (by assumption) ?_
                      case hy => (intro w hSw; (try dsimp only at hSw); go_simp; all_goals with_reducible rfl)
                      try simp only [Act.put, List.setIfInBounds_toArray, List.set_cons_zero, List.set_cons_succ]
                      refine wpAnyH_take (i := 27) (v := ?_) (by simp only [List.getElem?_toArray, List.getElem?_cons_succ, List.getElem?_cons_zero]; first | done | rfl) (by kernel_rfl) (by kernel_rfl) (by kernel_rfl) (fun _ _ _ h => h) (Or.inl ⟨by rfl, ?hy⟩) (by assumption) ?_
                      case hy => (intro w hSw; (try dsimp only at hSw); go_simp; all_goals with_reducible rfl)
                      try simp only [Act.put, List.setIfInBounds_toArray, List.set_cons_zero, List.set_cons_succ]
                      refine wpAnyH_take (i := 28) (v := ?_) (by simp only [List.getElem?_toArray, List.getElem?_cons_succ, List.getElem?_cons_zero]; first | done | rfl) (by kernel_rfl) (by kernel_rfl) (by kernel_rfl) (fun _ _ _ h => h) (Or.inl ⟨by rfl, ?hy⟩) (by assumption) ?_
                      case hy => (intro w hSw; (try dsimp only at hSw); go_simp; all_goals with_reducible rfl)
                      try simp only [Act.put, List.setIfInBounds_toArray, List.set_cons_zero, List.set_cons_succ]
                      refine wpAnyH_take (i := 29) (v := ?_) (by simp only [List.getElem?_toArray, List.getElem?_cons_succ, List.getElem?_cons_zero]; first | done | rfl) (by kernel_rfl) (by kernel_rfl) (by kernel_rfl) (fun _ _ _ h => h) (Or.inl ⟨by rfl, ?hy⟩) (by assumption) ?_
                      case hy => (intro w hSw; (try dsimp only at hSw); go_simp; all_goals with_reducible rfl)
                      try simp only [Act.put, List.setIfInBounds_toArray, List.set_cons_zero, List.set_cons_succ]
                      refine wpAnyH_take (i := 30) (v := ?_) (by simp only [List.getElem?_toArray, List.getElem?_cons_succ, List.getElem?_cons_zero]; first | done | rfl) (by kernel_rfl) (by kernel_rfl) (by kernel_rfl) (fun _ _ _ h => h) (Or.inl ⟨by rfl, ?hy⟩) (by assumption) ?_
                      case hy => (intro w hSw; (try dsimp only at hSw); go_simp; all_goals with_reducible rfl)
                      try simp only [Act.put, List.setIfInBounds_toArray, List.set_cons_zero, List.set_cons_succ]
                      refine wpAnyH_done (by kernel_rfl) ?_ _
                      refine NoPanic.normal ?_
                      go_wp2_with fail
                      go_ret
                      exact ⟨rfl, HB.out⟩
                    exact AllReadyH.nil
                  exact AllReadyH.nil
                exact AllReadyH.nil
              exact AllReadyH.nil
            exact AllReadyH.nil
          exact AllReadyH.nil
        exact AllReadyH.nil
      exact AllReadyH.nil
    exact AllReadyH.nil
end Go.Proofs.Ytjfkkcoapeipbaa
