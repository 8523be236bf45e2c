/-
  Promises: PromiseRight, PromiseMessage, Make of the reference.
-/
import Derived.Test.YtbhkcgnlegmjlaaPrK
namespace Go.Proofs.Ytbhkcgnlegmjlaa
set_option linter.unusedVariables false
set_option linter.unusedSimpArgs false
open Go.RowKit

set_option maxRecDepth 100000 in
set_option maxHeartbeats 32000000 in
theorem rrightP_any (p : Pr) (w : World) :
    Calls Try.prog 20 #[prV p] w fun e w' => e = .returned (.bool (rightP p)) ∧ Below w.heap.size w w' := by
  show Calls _ _ #[.agg p.cells.toArray] w _
  cases hr : rightE p.nm p.ver p.key with
  | false =>
    have HR := Lib.hid hr
    rw [show rightP p = false by unfold rightP; rw [hr]; rfl]
    clear hr
    go_enter Try.func20, Try.ntmps20
    go_upto_region 1 with fail
    refine wp_world (fun W => PA w.heap.size p W ∧ Below w.heap.size w W) ⟨PA.new _ _, bl_alloc (Below.refl _ _) _⟩ ?_
    rintro W ⟨hA, hB⟩
    have HB := Lib.hid hB
    have HH := Lib.hid hA
    clear hA hB
    go_wp2_with (refine wpList_load_mid rfl 27 (.tmp 3) rfl w.heap.size 0 rfl (entCells p.nm p.ver p.key) _ HH.out.entry Try.underlying27 rfl (by rw [ent_size p.nm p.ver p.key, List.size_toArray]) ?_)
    refine (rmay_any p.nm p.ver p.key _).mono ?_
    rintro e w1 ⟨rfl, hb⟩
    rw [HR.out]
    have HB1 := Lib.hid (bl_bl HB.out hb)
    have c3 := (HH.out.below hb).c3
    have c4 := (HH.out.below hb).c4
    clear hb
    go_wp2_with fail
    go_ret
    exact ⟨rfl, HB1.out⟩
  | true =>
    have HR := Lib.hid hr
    by_cases h0 : 0 ≤ p.tk
    case neg =>
      rw [show rightP p = false by unfold rightP; rw [hr, decide_eq_false h0]; rfl]
      clear hr
      go_enter Try.func20, Try.ntmps20
      go_upto_region 1 with fail
      refine wp_world (fun W => PA w.heap.size p W ∧ Below w.heap.size w W) ⟨PA.new _ _, bl_alloc (Below.refl _ _) _⟩ ?_
      rintro W ⟨hA, hB⟩
      have HB := Lib.hid hB
      have HH := Lib.hid hA
      clear hA hB
      go_wp2_with (refine wpList_load_mid rfl 27 (.tmp 3) rfl w.heap.size 0 rfl (entCells p.nm p.ver p.key) _ HH.out.entry Try.underlying27 rfl (by rw [ent_size p.nm p.ver p.key, List.size_toArray]) ?_)
      refine (rmay_any p.nm p.ver p.key _).mono ?_
      rintro e w1 ⟨rfl, hb⟩
      rw [HR.out]
      have HB1 := Lib.hid (bl_bl HB.out hb)
      have c3 := (HH.out.below hb).c3
      have c4 := (HH.out.below hb).c4
      clear hb
      go_wp2_with fail
      go_ret
      exact ⟨rfl, HB1.out⟩
    by_cases h1 : p.tk ≤ 1152921504606846936
    case neg =>
      rw [show rightP p = false by unfold rightP; rw [hr, decide_eq_true h0, decide_eq_false h1]; rfl]
      clear hr
      go_enter Try.func20, Try.ntmps20
      go_upto_region 1 with fail
      refine wp_world (fun W => PA w.heap.size p W ∧ Below w.heap.size w W) ⟨PA.new _ _, bl_alloc (Below.refl _ _) _⟩ ?_
      rintro W ⟨hA, hB⟩
      have HB := Lib.hid hB
      have HH := Lib.hid hA
      clear hA hB
      go_wp2_with (refine wpList_load_mid rfl 27 (.tmp 3) rfl w.heap.size 0 rfl (entCells p.nm p.ver p.key) _ HH.out.entry Try.underlying27 rfl (by rw [ent_size p.nm p.ver p.key, List.size_toArray]) ?_)
      refine (rmay_any p.nm p.ver p.key _).mono ?_
      rintro e w1 ⟨rfl, hb⟩
      rw [HR.out]
      have HB1 := Lib.hid (bl_bl HB.out hb)
      have c3 := (HH.out.below hb).c3
      have c4 := (HH.out.below hb).c4
      clear hb
      go_wp2_with fail
      go_ret
      exact ⟨rfl, HB1.out⟩
    have hw : IntKind.i64.wrap (p.tk + 40) = p.tk + 40 := by rw [IntKind.wrap_i64]; omega
    by_cases h2 : p.dl = p.tk + 40
    · rw [show rightP p = true by unfold rightP; rw [hr, decide_eq_true h0, decide_eq_true h1, decide_eq_true h2]; rfl]
      have h2' : (p.dl == p.tk + 40) = true := by rw [h2]; exact beq_self_eq_true _
      clear hr h2
      go_enter Try.func20, Try.ntmps20
      go_upto_region 1 with fail
      refine wp_world (fun W => PA w.heap.size p W ∧ Below w.heap.size w W) ⟨PA.new _ _, bl_alloc (Below.refl _ _) _⟩ ?_
      rintro W ⟨hA, hB⟩
      have HB := Lib.hid hB
      have HH := Lib.hid hA
      clear hA hB
      go_wp2_with (refine wpList_load_mid rfl 27 (.tmp 3) rfl w.heap.size 0 rfl (entCells p.nm p.ver p.key) _ HH.out.entry Try.underlying27 rfl (by rw [ent_size p.nm p.ver p.key, List.size_toArray]) ?_)
      refine (rmay_any p.nm p.ver p.key _).mono ?_
      rintro e w1 ⟨rfl, hb⟩
      rw [HR.out]
      have HB1 := Lib.hid (bl_bl HB.out hb)
      have c3 := (HH.out.below hb).c3
      have c4 := (HH.out.below hb).c4
      clear hb
      go_wp2_with fail
      go_ret
      exact ⟨rfl, HB1.out⟩
    · rw [show rightP p = false by unfold rightP; rw [hr, decide_eq_true h0, decide_eq_true h1, decide_eq_false h2]; rfl]
      have h2' : (p.dl == p.tk + 40) = false := beq_false_of_ne h2
      clear hr h2
      go_enter Try.func20, Try.ntmps20
      go_upto_region 1 with fail
      refine wp_world (fun W => PA w.heap.size p W ∧ Below w.heap.size w W) ⟨PA.new _ _, bl_alloc (Below.refl _ _) _⟩ ?_
      rintro W ⟨hA, hB⟩
      have HB := Lib.hid hB
      have HH := Lib.hid hA
      clear hA hB
      go_wp2_with (refine wpList_load_mid rfl 27 (.tmp 3) rfl w.heap.size 0 rfl (entCells p.nm p.ver p.key) _ HH.out.entry Try.underlying27 rfl (by rw [ent_size p.nm p.ver p.key, List.size_toArray]) ?_)
      refine (rmay_any p.nm p.ver p.key _).mono ?_
      rintro e w1 ⟨rfl, hb⟩
      rw [HR.out]
      have HB1 := Lib.hid (bl_bl HB.out hb)
      have c3 := (HH.out.below hb).c3
      have c4 := (HH.out.below hb).c4
      clear hb
      go_wp2_with fail
      go_ret
      exact ⟨rfl, HB1.out⟩
set_option maxRecDepth 100000 in
set_option maxHeartbeats 32000000 in
theorem rmsgP_any (p : Pr) (w : World) (ok : p.ok) : Calls Try.prog 18 #[prV p] w (GivesOwn w (msgP p)) := by
  show Calls _ _ #[.agg p.cells.toArray] w _
  have OK := Lib.hid ok
  clear ok
  go_enter Try.func18, Try.ntmps18
  go_upto_region 1 with fail
  refine wp_world (fun W => PA w.heap.size p W ∧ Below w.heap.size w W) ⟨PA.new _ _, bl_alloc (Below.refl _ _) _⟩ ?_
  rintro W ⟨hA, hB⟩
  have HH := Lib.hid hA
  have HB := Lib.hid hB
  have hlt := hA.lt
  clear hA hB
  go_wp2_with (refine wpList_load_mid rfl 27 (.tmp 5) rfl w.heap.size 0 rfl (entCells p.nm p.ver p.key) _ (HH.out.alloc _).entry Try.underlying27 rfl (by rw [ent_size p.nm p.ver p.key, List.size_toArray]) ?_)
  refine calls_world (fun Y => PA w.heap.size p Y ∧ Below w.heap.size w Y ∧ Own Y (w.heap.size + 1) (.slice (some ⟨W.heap.size, 0, none⟩) 1 1) [byt 80]) ⟨HH.out.alloc _, bl_alloc HB.out _, own_letter _ _ 80 (by omega) (by omega) (by omega)⟩ ?_
  clear HH HB
  rintro Y ⟨hA, hB, hO⟩
  have HH := Lib.hid hA
  have HB := Lib.hid hB
  have HO := Lib.hid hO
  clear hA hB hO hlt
  refine (rfields_any p.nm p.ver p.key _ OK.out.nm OK.out.key).mono ?_
  rintro e w1 ⟨u1, rfl, hu1, hb1⟩
  obtain ⟨b1, d1, rfl⟩ := hu1.rd.shape
  have HU1 := Lib.hid hu1.rd
  have HH1 := Lib.hid (HH.out.below hb1)
  have HO1 := Lib.hid (HO.out.below hb1)
  have HB1 := Lib.hid (bl_bl HB.out hb1)
  clear hu1 hb1 HH HB HO
  have hf : msgP p = (([byt 80] ++ fieldsE p.nm p.ver p.key) ++ numB (u64 p.tk)) ++ numB (u64 p.dl) := by simp [msgP]
  have hq0 : ([byt 80] ++ fieldsE p.nm p.ver p.key).length + 8 + 8 ≤ 1099511627776 := by have := OK.out.nm; simp [fieldsE_length]; omega
  go_upto_region 2 with (at_builtin; refine wpList_append_bytes rfl (.tmp 4) (.tmp 7) rfl (w.heap.size + 1) rfl rfl HO1.out HU1.out (by have := OK.out.nm; simp [fieldsE_length]; omega) HH1.out.lt ?_; intro u6 w6 ho hg; generalize [byt 80] ++ fieldsE p.nm p.ver p.key = q at ho hf hq0; obtain ⟨b6, d6, rfl⟩ := ho.rd.shape; have HO := Lib.hid ho; have HF := Lib.hid hf; have HQ00 := Lib.hid hq0; have HQ0 := Lib.hid (show q.length ≤ 1099511627768 by omega); have HH := Lib.hid (HH1.out.grown hg (fun e => by have := Own.row HO1.out _ e; omega)); have HB := Lib.hid (below_grown HB1.out hg (fun k hk => by have := Own.row HO1.out k hk; omega)); clear ho hg hf hq0 HH1 HO1 HB1 HU1)
  refine wp_region_noPanic ?_
  refine wp_region_held_drew (S := (fun w' => PA w.heap.size p w')) (by kernel_rfl) ?_ (fun hHeld => ?_)
  · (try dsimp only); (repeat (first | exact HH.out | apply PA.drew | apply PA.drewN | apply PA.alloc))
  refine wpAnyH_take (i := 0) (v := ?_) (by simp only [List.getElem?_toArray, List.getElem?_cons_succ, List.getElem?_cons_zero]; first | done | rfl) (by kernel_rfl) (by kernel_rfl) (by kernel_rfl) (fun _ _ _ h => h) (Or.inl ⟨by rfl, ?hy⟩) (by assumption) ?_
  case hy => (intro w hSw; (try dsimp only at hSw); have c3 := hSw.c3; have c4 := hSw.c4; go_simp; all_goals with_reducible rfl)
  try simp only [Act.put, List.setIfInBounds_toArray, List.set_cons_zero, List.set_cons_succ]
  refine wpAnyH_take (i := 1) (v := ?_) (by simp only [List.getElem?_toArray, List.getElem?_cons_succ, List.getElem?_cons_zero]; first | done | rfl) (by kernel_rfl) (by kernel_rfl) (by kernel_rfl) (fun _ _ _ h => h) (Or.inl ⟨by rfl, ?hy⟩) (by assumption) ?_
  case hy => (intro w hSw; (try dsimp only at hSw); have c3 := hSw.c3; have c4 := hSw.c4; go_simp; all_goals with_reducible rfl)
  try simp only [Act.put, List.setIfInBounds_toArray, List.set_cons_zero, List.set_cons_succ]
  refine wpAnyH_take (i := 2) (v := ?_) (by simp only [List.getElem?_toArray, List.getElem?_cons_succ, List.getElem?_cons_zero]; first | done | rfl) (by kernel_rfl) (by kernel_rfl) (by kernel_rfl) (fun _ _ _ h => h) (Or.inl ⟨by rfl, ?hy⟩) (by assumption) ?_
  case hy => (intro w hSw; (try dsimp only at hSw); have c3 := hSw.c3; have c4 := hSw.c4; go_simp; all_goals with_reducible rfl)
  try simp only [Act.put, List.setIfInBounds_toArray, List.set_cons_zero, List.set_cons_succ]
  refine wpAnyH_take (i := 3) (v := ?_) (by simp only [List.getElem?_toArray, List.getElem?_cons_succ, List.getElem?_cons_zero]; first | done | rfl) (by kernel_rfl) (by kernel_rfl) (by kernel_rfl) (fun _ _ _ h => h) (Or.inl ⟨by rfl, ?hy⟩) (by assumption) ?_
  case hy => (intro w hSw; (try dsimp only at hSw); have c3 := hSw.c3; have c4 := hSw.c4; go_simp; all_goals with_reducible rfl)
  try simp only [Act.put, List.setIfInBounds_toArray, List.set_cons_zero, List.set_cons_succ]
  refine wpAnyH_take (i := 6) (v := ?_) (by simp only [List.getElem?_toArray, List.getElem?_cons_succ, List.getElem?_cons_zero]; first | done | rfl) (by kernel_rfl) (by kernel_rfl) (by kernel_rfl) (fun _ _ _ h => h) (Or.inl ⟨by rfl, ?hy⟩) (by assumption) ?_
  case hy => (intro w hSw; (try dsimp only at hSw); have c3 := hSw.c3; have c4 := hSw.c4; go_simp; all_goals with_reducible rfl)
  try simp only [Act.put, List.setIfInBounds_toArray, List.set_cons_zero, List.set_cons_succ]
  refine wpAnyH_take (i := 7) (v := ?_) (by simp only [List.getElem?_toArray, List.getElem?_cons_succ, List.getElem?_cons_zero]; first | done | rfl) (by kernel_rfl) (by kernel_rfl) (by kernel_rfl) (fun _ _ _ h => h) (Or.inl ⟨by rfl, ?hy⟩) (by assumption) ?_
  case hy => (intro w hSw; (try dsimp only at hSw); have c3 := hSw.c3; have c4 := hSw.c4; go_simp; all_goals with_reducible rfl)
  try simp only [Act.put, List.setIfInBounds_toArray, List.set_cons_zero, List.set_cons_succ]
  refine wpAnyH_take (i := 8) (v := ?_) (by simp only [List.getElem?_toArray, List.getElem?_cons_succ, List.getElem?_cons_zero]; first | done | rfl) (by kernel_rfl) (by kernel_rfl) (by kernel_rfl) (fun _ _ _ h => h) (Or.inl ⟨by rfl, ?hy⟩) (by assumption) ?_
  case hy => (intro w hSw; (try dsimp only at hSw); have c3 := hSw.c3; have c4 := hSw.c4; go_simp; all_goals with_reducible rfl)
  try simp only [Act.put, List.setIfInBounds_toArray, List.set_cons_zero, List.set_cons_succ]
  refine wpAnyH_ready (rs := [4]) (by kernel_rfl) (by simp) ?_
  refine AllReadyH.cons (by simp only [List.getElem?_toArray, List.getElem?_cons_succ, List.getElem?_cons_zero]; first | done | rfl) (fun K hK => ?_) ?_
  · skip
    refine step_call (by rfl) (rnum_any (u64 p.tk) _ (u64_bd _).1 (u64_bd _).2) (by go_simp; all_goals first | rfl | (simp only [IntKind.wrap_u64]; rfl)) ?_
    rintro e v2 ⟨u2, rfl, hu2, hb2⟩
    refine ⟨_, rfl, ?_⟩
    obtain ⟨b2, c2, rfl⟩ := hu2.rd.shape
    have HH' := Lib.hid (PA.below (by repeat (first | exact HH.out | apply PA.drew | apply PA.drewN | apply PA.alloc)) hb2)
    have HB' := Lib.hid (bl_bl (by repeat (first | exact HB.out | apply bl_drew | apply bl_drewN | apply bl_alloc)) hb2)
    have HO' := Lib.hid (Own.below (by repeat (first | exact HO.out | apply own_drew | apply own_drewN' | apply Own.alloc)) hb2)
    clear hb2
    clear HH HB HO
    have HH := HH'
    have HB := HB'
    have HO := HO'
    clear HH' HB' HO'
    have HU1 := Lib.hid hu2.rd
    clear hu2
    refine hK.out _ _ ?_ (fun hHeld => ?_)
    · (try dsimp only); (repeat (first | exact HH.out | apply PA.drew | apply PA.drewN | apply PA.alloc))
    clear hK K
    try simp only [Act.put, List.setIfInBounds_toArray, List.set_cons_zero, List.set_cons_succ]
    refine wpAnyH_ready (rs := [5]) (by kernel_rfl) (by simp) ?_
    refine AllReadyH.cons (by simp only [List.getElem?_toArray, List.getElem?_cons_succ, List.getElem?_cons_zero]; first | done | rfl) (fun K hK => ?_) ?_
    · skip
      refine step_append_bytes rfl (.tmp 9) (.tmp 13) rfl (w.heap.size + 1) rfl rfl (by repeat (first | exact HO.out | apply own_drew | apply own_drewN' | apply Own.alloc)) (by repeat (first | exact HU1.out | apply rd_drew | apply rd_drewN | apply rd_alloc)) (by have := HQ0.out; rw [numB_length]; omega) (PA.lt (by repeat (first | exact HH.out | apply PA.drew | apply PA.drewN | apply PA.alloc))) ?_
      intro v2 w2 ho hg
      have HG := Lib.hid (show PA _ p w2 ∧ Below w.heap.size w w2 from ⟨PA.grown (by repeat (first | exact HH.out | apply PA.drew | apply PA.drewN | apply PA.alloc)) hg (fun e => by have := Own.row (by repeat (first | exact HO.out | apply own_drew | apply own_drewN' | apply Own.alloc)) _ e; omega), below_grown (by repeat (first | exact HB.out | apply bl_drew | apply bl_drewN | apply bl_alloc)) hg (fun k hk => by have := Own.row (by repeat (first | exact HO.out | apply own_drew | apply own_drewN' | apply Own.alloc)) k hk; omega)⟩)
      have hq1 : q.length + 8 + 8 ≤ 1099511627776 := HQ00.out
      generalize hq : q ++ numB (u64 p.tk) = q1 at ho
      have HQ1 := Lib.hid (show q1.length ≤ 1099511627768 by rw [← hq, List.length_append, numB_length]; omega)
      have HQQ := Lib.hid hq
      clear hq1 hq
      obtain ⟨b2, c2, rfl⟩ := ho.rd.shape
      clear HO HH HB
      have HO := Lib.hid ho
      have HH := Lib.hid HG.out.1
      have HB := Lib.hid HG.out.2
      clear ho hg HG
      refine hK.out _ _ ?_ (fun hHeld => ?_)
      · (try dsimp only); (repeat (first | exact HH.out | apply PA.drew | apply PA.drewN | apply PA.alloc))
      clear hK K
      try simp only [Act.put, List.setIfInBounds_toArray, List.set_cons_zero, List.set_cons_succ]
      refine wpAnyH_ready (rs := [9]) (by kernel_rfl) (by simp) ?_
      refine AllReadyH.cons (by simp only [List.getElem?_toArray, List.getElem?_cons_succ, List.getElem?_cons_zero]; first | done | rfl) (fun K hK => ?_) ?_
      · skip
        refine step_call (by rfl) (rnum_any (u64 p.dl) _ (u64_bd _).1 (u64_bd _).2) (by go_simp; all_goals first | rfl | (simp only [IntKind.wrap_u64]; rfl)) ?_
        rintro e v2 ⟨u2, rfl, hu2, hb2⟩
        refine ⟨_, rfl, ?_⟩
        obtain ⟨b2, c2, rfl⟩ := hu2.rd.shape
        have HH' := Lib.hid (PA.below (by repeat (first | exact HH.out | apply PA.drew | apply PA.drewN | apply PA.alloc)) hb2)
        have HB' := Lib.hid (bl_bl (by repeat (first | exact HB.out | apply bl_drew | apply bl_drewN | apply bl_alloc)) hb2)
        have HO' := Lib.hid (Own.below (by repeat (first | exact HO.out | apply own_drew | apply own_drewN' | apply Own.alloc)) hb2)
        clear hb2
        clear HH HB HO
        have HH := HH'
        have HB := HB'
        have HO := HO'
        clear HH' HB' HO'
        have HU2 := Lib.hid hu2.rd
        clear hu2
        refine hK.out _ _ ?_ (fun hHeld => ?_)
        · (try dsimp only); (repeat (first | exact HH.out | apply PA.drew | apply PA.drewN | apply PA.alloc))
        clear hK K
        try simp only [Act.put, List.setIfInBounds_toArray, List.set_cons_zero, List.set_cons_succ]
        refine wpAnyH_ready (rs := [10]) (by kernel_rfl) (by simp) ?_
        refine AllReadyH.cons (by simp only [List.getElem?_toArray, List.getElem?_cons_succ, List.getElem?_cons_zero]; first | done | rfl) (fun K hK => ?_) ?_
        · skip
          refine step_append_bytes rfl (.tmp 14) (.tmp 18) rfl (w.heap.size + 1) rfl rfl (by repeat (first | exact HO.out | apply own_drew | apply own_drewN' | apply Own.alloc)) (by repeat (first | exact HU2.out | apply rd_drew | apply rd_drewN | apply rd_alloc)) (by have := HQ1.out; rw [numB_length]; omega) (PA.lt (by repeat (first | exact HH.out | apply PA.drew | apply PA.drewN | apply PA.alloc))) ?_
          intro v2 w2 ho hg
          have HG := Lib.hid (show PA _ p w2 ∧ Below w.heap.size w w2 from ⟨PA.grown (by repeat (first | exact HH.out | apply PA.drew | apply PA.drewN | apply PA.alloc)) hg (fun e => by have := Own.row (by repeat (first | exact HO.out | apply own_drew | apply own_drewN' | apply Own.alloc)) _ e; omega), below_grown (by repeat (first | exact HB.out | apply bl_drew | apply bl_drewN | apply bl_alloc)) hg (fun k hk => by have := Own.row (by repeat (first | exact HO.out | apply own_drew | apply own_drewN' | apply Own.alloc)) k hk; omega)⟩)
          rw [← HQQ.out, ← HF.out] at ho
          obtain ⟨b2, c2, rfl⟩ := ho.rd.shape
          clear HO HH HB
          have HO := Lib.hid ho
          have HH := Lib.hid HG.out.1
          have HB := Lib.hid HG.out.2
          clear ho hg HG
          refine hK.out _ _ ?_ (fun hHeld => ?_)
          · (try dsimp only); (repeat (first | exact HH.out | apply PA.drew | apply PA.drewN | apply PA.alloc))
          clear hK K
          try simp only [Act.put, List.setIfInBounds_toArray, List.set_cons_zero, List.set_cons_succ]
          refine wpAnyH_take (i := 11) (v := ?_) (by simp only [List.getElem?_toArray, List.getElem?_cons_succ, List.getElem?_cons_zero]; first | done | rfl) (by kernel_rfl) (by kernel_rfl) (by kernel_rfl) (fun _ _ _ h => h) (Or.inl ⟨by rfl, ?hy⟩) (by assumption) ?_
          case hy => (intro w hSw; (try dsimp only at hSw); have c3 := hSw.c3; have c4 := hSw.c4; go_simp; all_goals with_reducible rfl)
          try simp only [Act.put, List.setIfInBounds_toArray, List.set_cons_zero, List.set_cons_succ]
          refine wpAnyH_done (by kernel_rfl) ?_ _
          refine NoPanic.normal ?_
          go_wp2_with fail
          go_ret
          exact ⟨_, rfl, HO.out.mono (Nat.le_succ _), HB.out⟩
        exact AllReadyH.nil
      exact AllReadyH.nil
    exact AllReadyH.nil
  exact AllReadyH.nil

attribute [local irreducible] checkF putF sigR sigS msgP

set_option maxRecDepth 100000 in
set_option maxHeartbeats 32000000 in
theorem rmakeP_any (x : Int) (n : List UInt8) (v k t : Int) (w : World) (x0 : 0 ≤ x) (x1 : x < 18446744073709551616) (hn : n.length ≤ 1048576) (hv : isI64 v) (hk : isU64 k) (ht : isI64 t) :
    Calls Try.prog 6 #[.int .u64 x, entV n v k, .int .i64 t] w fun e w' => e = .returned (.tuple #[prV (makeP x n v k t), .int .i64 (makeErr n v k t)]) ∧ Below w.heap.size w w' := by
  show Calls _ _ #[.int .u64 x, .agg (entCells n v k).toArray, .int .i64 t] w _
  obtain ⟨t0, t1⟩ := ht
  cases hr : rightE n v k with
  | false =>
    have he : makeErr n v k t = 23 := by unfold makeErr; rw [hr]; rfl
    rw [make_err he (by decide), he]
    have HR := Lib.hid hr
    clear hr he
    go_enter Try.func6, Try.ntmps6
    go_upto_region 1 with fail
    rw [pr_zero]
    refine wp_world (fun W => EA w.heap.size n v k W ∧ PA (w.heap.size + 1) zeroP W ∧ Below w.heap.size w W) ⟨(EA.new n v k w).alloc _, by rw [show w.heap.size + 1 = (w.alloc (.cells (entCells n v k).toArray 27)).heap.size by simp]; exact PA.new zeroP _, bl_alloc (bl_alloc (Below.refl _ _) _) _⟩ ?_
    rintro W ⟨hE, hA, hB⟩
    have HE := Lib.hid hE
    have HA := Lib.hid hA
    have HB := Lib.hid hB
    clear hE hA hB
    go_wp2_with (refine wpList_load_row rfl 27 (.tmp 4) rfl w.heap.size rfl 27 _ (0, 0) _ HE.out.row Try.underlying27 rfl (ent_size _ _ _) ?_)
    refine (rmay_any n v k _).mono ?_
    rintro e w1 ⟨rfl, hb⟩
    rw [HR.out]
    have HE1 := Lib.hid (HE.out.below hb)
    have HA1 := Lib.hid (HA.out.below hb)
    have HB1 := Lib.hid (bl_bl HB.out hb)
    clear hb HE HA HB
    go_upto_region 2 with fail
    refine wp_region_lit ?_
    refine wpList_built rfl 31 #[] rfl [] (by simp) zeroP.cells.toArray built_pr0 ?_
    refine wpList_store_row rfl 31 (.tmp 6) (.tmp 20) rfl (w.heap.size + 1) zeroP.cells.toArray rfl rfl 31 _ HA1.out.row (pr_size _) rfl (all_oneCell_toArray zeroP.cells_one) ?_
    go_wp2_with fail
    exact bodyPost_ret (v := .tuple #[prV zeroP, .int .i64 23]) (results_row_tmp (p := 6) (u := 7) rfl _ _ (w.heap.size + 1) zeroP.cells.toArray rfl (pr_loads ⟨setRow_heap _ _ _ _ _ _ HA1.out.row⟩)) rfl ⟨rfl, below_setRow HB1.out (by omega)⟩
  | true =>
    have HR := Lib.hid hr
    by_cases h0 : t < 0
    · have he : makeErr n v k t = 23 := by unfold makeErr; rw [hr, decide_eq_true h0]; rfl
      rw [make_err he (by decide), he]
      have h0' : decide (t < 0) = true := decide_eq_true h0
      clear hr he
      go_enter Try.func6, Try.ntmps6
      go_upto_region 1 with fail
      rw [pr_zero]
      refine wp_world (fun W => EA w.heap.size n v k W ∧ PA (w.heap.size + 1) zeroP W ∧ Below w.heap.size w W) ⟨(EA.new n v k w).alloc _, by rw [show w.heap.size + 1 = (w.alloc (.cells (entCells n v k).toArray 27)).heap.size by simp]; exact PA.new zeroP _, bl_alloc (bl_alloc (Below.refl _ _) _) _⟩ ?_
      rintro W ⟨hE, hA, hB⟩
      have HE := Lib.hid hE
      have HA := Lib.hid hA
      have HB := Lib.hid hB
      clear hE hA hB
      go_wp2_with (refine wpList_load_row rfl 27 (.tmp 4) rfl w.heap.size rfl 27 _ (0, 0) _ HE.out.row Try.underlying27 rfl (ent_size _ _ _) ?_)
      refine (rmay_any n v k _).mono ?_
      rintro e w1 ⟨rfl, hb⟩
      rw [HR.out]
      have HE1 := Lib.hid (HE.out.below hb)
      have HA1 := Lib.hid (HA.out.below hb)
      have HB1 := Lib.hid (bl_bl HB.out hb)
      clear hb HE HA HB
      go_upto_region 2 with fail
      refine wp_region_lit ?_
      refine wpList_built rfl 31 #[] rfl [] (by simp) zeroP.cells.toArray built_pr0 ?_
      refine wpList_store_row rfl 31 (.tmp 6) (.tmp 20) rfl (w.heap.size + 1) zeroP.cells.toArray rfl rfl 31 _ HA1.out.row (pr_size _) rfl (all_oneCell_toArray zeroP.cells_one) ?_
      go_wp2_with fail
      exact bodyPost_ret (v := .tuple #[prV zeroP, .int .i64 23]) (results_row_tmp (p := 6) (u := 7) rfl _ _ (w.heap.size + 1) zeroP.cells.toArray rfl (pr_loads ⟨setRow_heap _ _ _ _ _ _ HA1.out.row⟩)) rfl ⟨rfl, below_setRow HB1.out (by omega)⟩
    have h0' : decide (t < 0) = false := decide_eq_false h0
    by_cases h1 : 1152921504606846976 < t
    · have he : makeErr n v k t = 23 := by unfold makeErr; rw [hr, h0', decide_eq_true h1]; rfl
      rw [make_err he (by decide), he]
      have h1' : decide (1152921504606846976 < t) = true := decide_eq_true h1
      clear hr he
      go_enter Try.func6, Try.ntmps6
      go_upto_region 1 with fail
      rw [pr_zero]
      refine wp_world (fun W => EA w.heap.size n v k W ∧ PA (w.heap.size + 1) zeroP W ∧ Below w.heap.size w W) ⟨(EA.new n v k w).alloc _, by rw [show w.heap.size + 1 = (w.alloc (.cells (entCells n v k).toArray 27)).heap.size by simp]; exact PA.new zeroP _, bl_alloc (bl_alloc (Below.refl _ _) _) _⟩ ?_
      rintro W ⟨hE, hA, hB⟩
      have HE := Lib.hid hE
      have HA := Lib.hid hA
      have HB := Lib.hid hB
      clear hE hA hB
      go_wp2_with (refine wpList_load_row rfl 27 (.tmp 4) rfl w.heap.size rfl 27 _ (0, 0) _ HE.out.row Try.underlying27 rfl (ent_size _ _ _) ?_)
      refine (rmay_any n v k _).mono ?_
      rintro e w1 ⟨rfl, hb⟩
      rw [HR.out]
      have HE1 := Lib.hid (HE.out.below hb)
      have HA1 := Lib.hid (HA.out.below hb)
      have HB1 := Lib.hid (bl_bl HB.out hb)
      clear hb HE HA HB
      go_upto_region 2 with fail
      refine wp_region_lit ?_
      refine wpList_built rfl 31 #[] rfl [] (by simp) zeroP.cells.toArray built_pr0 ?_
      refine wpList_store_row rfl 31 (.tmp 6) (.tmp 20) rfl (w.heap.size + 1) zeroP.cells.toArray rfl rfl 31 _ HA1.out.row (pr_size _) rfl (all_oneCell_toArray zeroP.cells_one) ?_
      go_wp2_with fail
      exact bodyPost_ret (v := .tuple #[prV zeroP, .int .i64 23]) (results_row_tmp (p := 6) (u := 7) rfl _ _ (w.heap.size + 1) zeroP.cells.toArray rfl (pr_loads ⟨setRow_heap _ _ _ _ _ _ HA1.out.row⟩)) rfl ⟨rfl, below_setRow HB1.out (by omega)⟩
    have h1' : decide (1152921504606846976 < t) = false := decide_eq_false h1
    by_cases h2 : 1152921504606846936 < t
    · have he : makeErr n v k t = 31 := by unfold makeErr; rw [hr, h0', h1', if_pos h2]; rfl
      rw [make_err he (by decide), he]
      have h2' : decide (1152921504606846936 < t) = true := decide_eq_true h2
      clear hr he
      go_enter Try.func6, Try.ntmps6
      go_upto_region 1 with fail
      rw [pr_zero]
      refine wp_world (fun W => EA w.heap.size n v k W ∧ PA (w.heap.size + 1) zeroP W ∧ Below w.heap.size w W) ⟨(EA.new n v k w).alloc _, by rw [show w.heap.size + 1 = (w.alloc (.cells (entCells n v k).toArray 27)).heap.size by simp]; exact PA.new zeroP _, bl_alloc (bl_alloc (Below.refl _ _) _) _⟩ ?_
      rintro W ⟨hE, hA, hB⟩
      have HE := Lib.hid hE
      have HA := Lib.hid hA
      have HB := Lib.hid hB
      clear hE hA hB
      go_wp2_with (refine wpList_load_row rfl 27 (.tmp 4) rfl w.heap.size rfl 27 _ (0, 0) _ HE.out.row Try.underlying27 rfl (ent_size _ _ _) ?_)
      refine (rmay_any n v k _).mono ?_
      rintro e w1 ⟨rfl, hb⟩
      rw [HR.out]
      have HE1 := Lib.hid (HE.out.below hb)
      have HA1 := Lib.hid (HA.out.below hb)
      have HB1 := Lib.hid (bl_bl HB.out hb)
      clear hb HE HA HB
      go_upto_region 4 with fail
      refine wp_region_lit ?_
      refine wpList_built rfl 31 #[] rfl [] (by simp) zeroP.cells.toArray built_pr0 ?_
      refine wpList_store_row rfl 31 (.tmp 6) (.tmp 23) rfl (w.heap.size + 1) zeroP.cells.toArray rfl rfl 31 _ HA1.out.row (pr_size _) rfl (all_oneCell_toArray zeroP.cells_one) ?_
      go_wp2_with fail
      exact bodyPost_ret (v := .tuple #[prV zeroP, .int .i64 31]) (results_row_tmp (p := 6) (u := 7) rfl _ _ (w.heap.size + 1) zeroP.cells.toArray rfl (pr_loads ⟨setRow_heap _ _ _ _ _ _ HA1.out.row⟩)) rfl ⟨rfl, below_setRow HB1.out (by omega)⟩
    have he : makeErr n v k t = 0 := by unfold makeErr; rw [hr, h0', h1', if_neg h2]; rfl
    rw [make_ok he, he]
    have h2' : decide (1152921504606846936 < t) = false := decide_eq_false h2
    have hwt : IntKind.i64.wrap (t + 40) = t + 40 := by rw [IntKind.wrap_i64]; omega
    have ok : (freshP n v k t).ok := ⟨hn, hv, hk, ⟨by show _ ≤ t; omega, by show t < _; omega⟩, ⟨by show _ ≤ t + 40; omega, by show t + 40 < _; omega⟩, ⟨by show (0 : Int) ≤ 0; omega, by show (0 : Int) < _; omega⟩, ⟨by show (0 : Int) ≤ 0; omega, by show (0 : Int) < _; omega⟩⟩
    have OK := Lib.hid ok
    have hS := signV_val' x (msgP (freshP n v k t))
    have hsg : signP x (freshP n v k t) = { freshP n v k t with r := sigR (x % 2305843009213693950) (msgP (freshP n v k t)), s := sigS (x % 2305843009213693950) (msgP (freshP n v k t)) } := rfl
    generalize sigR (x % 2305843009213693950) (msgP (freshP n v k t)) = r at *
    generalize sigS (x % 2305843009213693950) (msgP (freshP n v k t)) = s at *
    have HS1 := Lib.hid hS
    have HSG := Lib.hid hsg
    clear hr he ok hS hsg
    go_enter Try.func6, Try.ntmps6
    go_upto_region 1 with fail
    rw [pr_zero]
    refine wp_world (fun W => EA w.heap.size n v k W ∧ PA (w.heap.size + 1) zeroP W ∧ Below w.heap.size w W) ⟨(EA.new n v k w).alloc _, by rw [show w.heap.size + 1 = (w.alloc (.cells (entCells n v k).toArray 27)).heap.size by simp]; exact PA.new zeroP _, bl_alloc (bl_alloc (Below.refl _ _) _) _⟩ ?_
    rintro W ⟨hE, hA, hB⟩
    have HE := Lib.hid hE
    have HA := Lib.hid hA
    have HB := Lib.hid hB
    clear hE hA hB
    go_wp2_with (refine wpList_load_row rfl 27 (.tmp 4) rfl w.heap.size rfl 27 _ (0, 0) _ HE.out.row Try.underlying27 rfl (ent_size _ _ _) ?_)
    refine (rmay_any n v k _).mono ?_
    rintro e w1 ⟨rfl, hb⟩
    rw [HR.out]
    have HE1 := Lib.hid (HE.out.below hb)
    have HA1 := Lib.hid (HA.out.below hb)
    have HB1 := Lib.hid (bl_bl HB.out hb)
    clear hb HE HA HB
    go_upto_region 6 with (first
      | refine wpList_load_row rfl 27 (.tmp 4) rfl w.heap.size rfl 27 _ (0, 0) _ HE1.out.row Try.underlying27 rfl (ent_size _ _ _) ?_
      | refine wpList_built rfl 31 #[(0, .tmp 24), (1, .tmp 25), (2, .tmp 27)] rfl [(0, entV n v k), (1, .int .i64 t), (2, .int .i64 (t + 40))] (by simp only [List.map_toArray, List.map_cons, List.map_nil]; rfl) (freshP n v k t).cells.toArray (built_pr3 _ _ _ _ _) ?_
      | refine wpList_store_row rfl 31 (.tmp 8) (.tmp 28) rfl w1.heap.size (freshP n v k t).cells.toArray rfl rfl 31 _ (heap_alloc_new _ _) (pr_size _) rfl (all_oneCell_toArray (Pr.cells_one _)) ?_)
    refine wp_world (fun Y => PA (w.heap.size + 1) zeroP Y ∧ PA w1.heap.size (freshP n v k t) Y ∧ Below w.heap.size w Y ∧ w.heap.size + 1 < w1.heap.size) ⟨HA1.out.below (below_fresh _ _ _), ⟨setRow_heap _ _ _ _ _ _ (heap_alloc_new _ _)⟩, bl_bl HB1.out (below_fresh _ _ _), HA1.out.lt⟩ ?_
    generalize w1.heap.size = g8
    clear HE1 HA1 HB1 w1 W
    rintro W ⟨hA, hP, hB, hlt⟩
    have HA1 := Lib.hid hA
    have HP1 := Lib.hid hP
    have HB1 := Lib.hid hB
    have HLT := Lib.hid hlt
    clear hA hP hB hlt
    generalize hq : freshP n v k t = q at *
    have HQ := Lib.hid hq
    clear hq
    (try simp only [Act.put, List.setIfInBounds_toArray, List.set_cons_zero, List.set_cons_succ])
    go_wp2_with (refine wpList_load_row rfl 31 (.tmp 8) rfl g8 rfl 31 _ (0, 0) _ HP1.out.row Try.underlying31 rfl (pr_size _) ?_)
    refine (rmsgP_any q _ OK.out).mono ?_
    rintro e w2 ⟨u2, rfl, hu, hb⟩
    obtain ⟨a2, d2, rfl⟩ := hu.rd.shape
    have HU := Lib.hid hu.rd
    have HA2 := Lib.hid (HA1.out.below hb)
    have HP2 := Lib.hid (HP1.out.below hb)
    have HB2 := Lib.hid (bl_bl HB1.out hb)
    clear hu hb HA1 HP1 HB1
    go_wp2_with fail
    refine (rsign_any x _ (msgP q) _ x0 x1 HU.out (by have := OK.out.nm; rw [msgP_length]; omega)).mono ?_
    rintro e w3 ⟨rfl, hb⟩
    rw [HS1.out]
    have HA3 := Lib.hid (HA2.out.below hb)
    have HP3 := Lib.hid (HP2.out.below hb)
    have HB3 := Lib.hid (bl_bl HB2.out hb)
    clear hb HA2 HP2 HB2
    have c5 := HP3.out.c5
    have c6 := HP3.out.c6
    have f5 := frozen_of_row _ _ 5 _ _ HP3.out.row
    have f6 := frozen_of_row _ _ 6 _ _ HP3.out.row
    go_upto_region 7 with fail
    refine wp_world (fun Y => PA (w.heap.size + 1) zeroP Y ∧ PA g8 { q with r := r, s := s } Y ∧ Below w.heap.size w Y) ⟨(HA3.out.setOther (by have := HLT.out; omega) _).setOther (by have := HLT.out; omega) _, HP3.out.setSig r s, below_set (below_set HB3.out _ _ _ (by have := HLT.out; omega)) _ _ _ (by have := HLT.out; omega)⟩ ?_
    clear HA3 HP3 HB3 c5 c6 f5 f6
    rintro Y ⟨hA, hP, hB⟩
    have HA4 := Lib.hid hA
    have HP4 := Lib.hid hP
    have HB4 := Lib.hid hB
    clear hA hP hB
    generalize hV : ({ q with r := r, s := s } : Pr) = V at *
    have HVV := Lib.hid hV
    clear hV
    refine wp_region_lit ?_
    refine wpList_load_row rfl 31 (.tmp 8) rfl g8 rfl 31 _ (0, 0) _ HP4.out.row Try.underlying31 rfl (pr_size _) ?_
    refine wpList_store_row rfl 31 (.tmp 6) (.tmp 34) rfl (w.heap.size + 1) V.cells.toArray rfl rfl 31 _ HA4.out.row (pr_size _) rfl (all_oneCell_toArray V.cells_one) ?_
    go_wp2_with fail
    exact bodyPost_ret (v := .tuple #[prV V, .int .i64 0]) (results_row_tmp (p := 6) (u := 7) rfl _ _ (w.heap.size + 1) V.cells.toArray rfl (pr_loads ⟨setRow_heap _ _ _ _ _ _ HA4.out.row⟩)) rfl ⟨by rw [HQ.out, HSG.out], below_setRow HB4.out (by omega)⟩
end Go.Proofs.Ytbhkcgnlegmjlaa
