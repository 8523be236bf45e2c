/-
  Promises: PromisePut of the reference.
-/
import Derived.Test.YtbhkcgnlegmjlaaPrQ
namespace Go.Proofs.Ytbhkcgnlegmjlaa
set_option linter.unusedVariables false
set_option linter.unusedSimpArgs false
open Go.RowKit
attribute [local irreducible] checkF putF

set_option maxRecDepth 100000 in
set_option maxHeartbeats 32000000 in
theorem rputP_any (p : Pr) (w : World) (ok : p.ok) : Calls Try.prog 8 #[prV p] w (GivesPutP w p) := by
  show Calls _ _ #[.agg p.cells.toArray] w _
  have OK := Lib.hid ok
  clear ok
  unfold GivesPutP putPErr putPOut
  cases hr : rightP p with
  | false =>
    have HR := Lib.hid hr
    clear hr
    simp only [Bool.false_eq_true, if_false]
    go_enter Try.func8, Try.ntmps8
    go_upto_region 1 with fail
    refine wp_world (fun W => PA w.heap.size p W ∧ Below w.heap.size w W) ⟨PA.new _ _, bl_alloc (Below.refl _ _) _⟩ ?_
    rintro W ⟨hA, hB⟩
    have HH := Lib.hid hA
    have HB := Lib.hid hB
    clear hA hB
    go_wp2_with (refine wpList_load_row rfl 31 (.tmp 1) rfl w.heap.size rfl 31 _ (0, 0) _ HH.out.row Try.underlying31 rfl (pr_size _) ?_)
    refine (rrightP_any p _).mono ?_
    rintro e v2 ⟨rfl, hb2⟩
    rw [HR.out]
    have HH2 := Lib.hid (HH.out.below hb2)
    have HB2 := Lib.hid (bl_bl HB.out hb2)
    clear hb2 HH HB
    have HH := HH2
    have HB := HB2
    clear HH2 HB2
    go_wp2_with fail
    go_ret2
    exact ⟨_, rfl, Rd.nil _, HB.out⟩
  | true =>
    have HR := Lib.hid hr
    have HF := Lib.hid (show msgP p ++ putF p.r p.s = bytesP p from rfl)
    clear hr
    simp only [if_true]
    go_enter Try.func8, Try.ntmps8
    go_upto_region 1 with fail
    refine wp_world (fun W => PA w.heap.size p W ∧ Below w.heap.size w W) ⟨PA.new _ _, bl_alloc (Below.refl _ _) _⟩ ?_
    rintro W ⟨hA, hB⟩
    have HH := Lib.hid hA
    have HB := Lib.hid hB
    clear hA hB
    go_wp2_with (refine wpList_load_row rfl 31 (.tmp 1) rfl w.heap.size rfl 31 _ (0, 0) _ HH.out.row Try.underlying31 rfl (pr_size _) ?_)
    refine (rrightP_any p _).mono ?_
    rintro e v2 ⟨rfl, hb2⟩
    rw [HR.out]
    have HH2 := Lib.hid (HH.out.below hb2)
    have HB2 := Lib.hid (bl_bl HB.out hb2)
    clear hb2 HH HB
    have HH := HH2
    have HB := HB2
    clear HH2 HB2
    go_upto_region 3 with fail
    refine wp_region_noPanic ?_
    refine wp_region_held_drew (S := (fun w' => PA w.heap.size p w')) (by kernel_rfl) ?_ (fun hHeld => ?_)
    · (try dsimp only); (repeat (first | exact HH.out | apply PA.drew | apply PA.drewN | apply PA.alloc))
    refine wpAnyH_take (i := 0) (by simp only [List.getElem?_toArray, List.getElem?_cons_succ, List.getElem?_cons_zero]; first | done | rfl) (by kernel_rfl) (by kernel_rfl) (by kernel_rfl) (fun _ _ _ h => h) (yields_pr (by rfl) _ rfl w.heap.size p rfl (fun w hw => hw)) (by assumption) ?_
    try simp only [Act.put, List.setIfInBounds_toArray, List.set_cons_zero, List.set_cons_succ]
    refine wpAnyH_take (i := 2) (v := ?_) (by simp only [List.getElem?_toArray, List.getElem?_cons_succ, List.getElem?_cons_zero]; first | done | rfl) (by kernel_rfl) (by kernel_rfl) (by kernel_rfl) (fun _ _ _ h => h) (Or.inl ⟨by rfl, ?hy⟩) (by assumption) ?_
    case hy => (intro w hSw; (try dsimp only at hSw); have c5 := hSw.c5; have c6 := hSw.c6; go_simp; all_goals with_reducible rfl)
    try simp only [Act.put, List.setIfInBounds_toArray, List.set_cons_zero, List.set_cons_succ]
    refine wpAnyH_take (i := 3) (v := ?_) (by simp only [List.getElem?_toArray, List.getElem?_cons_succ, List.getElem?_cons_zero]; first | done | rfl) (by kernel_rfl) (by kernel_rfl) (by kernel_rfl) (fun _ _ _ h => h) (Or.inl ⟨by rfl, ?hy⟩) (by assumption) ?_
    case hy => (intro w hSw; (try dsimp only at hSw); have c5 := hSw.c5; have c6 := hSw.c6; go_simp; all_goals with_reducible rfl)
    try simp only [Act.put, List.setIfInBounds_toArray, List.set_cons_zero, List.set_cons_succ]
    refine wpAnyH_ready (rs := [1]) (by kernel_rfl) (by simp) ?_
    refine AllReadyH.cons (by simp only [List.getElem?_toArray, List.getElem?_cons_succ, List.getElem?_cons_zero]; first | done | rfl) (fun K hK => ?_) ?_
    · skip
      refine step_call (by rfl) (rmsgP_any p _ OK.out) (by go_simp; all_goals first | rfl | (simp only [IntKind.wrap_u64]; rfl)) ?_
      rintro e v2 ⟨u2, rfl, hu2, hb2⟩
      refine ⟨_, rfl, ?_⟩
      obtain ⟨b2, c2, rfl⟩ := hu2.rd.shape
      have HO := Lib.hid (hu2.mono (B' := w.heap.size + 1) (PA.lt (by repeat (first | exact HH.out | apply PA.drew | apply PA.drewN | apply PA.alloc))))
      clear hu2
      have HH' := Lib.hid (PA.below (by repeat (first | exact HH.out | apply PA.drew | apply PA.drewN | apply PA.alloc)) hb2)
      have HB' := Lib.hid (bl_bl (by repeat (first | exact HB.out | apply bl_drew | apply bl_drewN | apply bl_alloc)) hb2)
      clear hb2
      clear HH HB
      have HH := HH'
      have HB := HB'
      clear HH' HB'
      refine hK.out _ _ ?_ (fun hHeld => ?_)
      · (try dsimp only); (repeat (first | exact HH.out | apply PA.drew | apply PA.drewN | apply PA.alloc))
      clear hK K
      try simp only [Act.put, List.setIfInBounds_toArray, List.set_cons_zero, List.set_cons_succ]
      refine wpAnyH_ready (rs := [4]) (by kernel_rfl) (by simp) ?_
      refine AllReadyH.cons (by simp only [List.getElem?_toArray, List.getElem?_cons_succ, List.getElem?_cons_zero]; first | done | rfl) (fun K hK => ?_) ?_
      · skip
        refine step_call (by rfl) (rput_any p.r p.s _ OK.out.r.1 OK.out.r.2 OK.out.s.1 OK.out.s.2) (by go_simp; all_goals first | rfl | (simp only [IntKind.wrap_u64]; rfl)) ?_
        rintro e v2 ⟨u2, rfl, hu2, hb2⟩
        refine ⟨_, rfl, ?_⟩
        obtain ⟨b2, c2, rfl⟩ := hu2.rd.shape
        have HH' := Lib.hid (PA.below (by repeat (first | exact HH.out | apply PA.drew | apply PA.drewN | apply PA.alloc)) hb2)
        have HB' := Lib.hid (bl_bl (by repeat (first | exact HB.out | apply bl_drew | apply bl_drewN | apply bl_alloc)) hb2)
        have HO' := Lib.hid (Own.below (by repeat (first | exact HO.out | apply own_drew | apply own_drewN' | apply Own.alloc)) hb2)
        clear hb2
        clear HH HB HO
        have HH := HH'
        have HB := HB'
        have HO := HO'
        clear HH' HB' HO'
        have HV := Lib.hid hu2.rd
        clear hu2
        refine hK.out _ _ ?_ (fun hHeld => ?_)
        · (try dsimp only); (repeat (first | exact HH.out | apply PA.drew | apply PA.drewN | apply PA.alloc))
        clear hK K
        try simp only [Act.put, List.setIfInBounds_toArray, List.set_cons_zero, List.set_cons_succ]
        refine wpAnyH_ready (rs := [5]) (by kernel_rfl) (by simp) ?_
        refine AllReadyH.cons (by simp only [List.getElem?_toArray, List.getElem?_cons_succ, List.getElem?_cons_zero]; first | done | rfl) (fun K hK => ?_) ?_
        · skip
          refine step_append_bytes rfl (.tmp 8) (.tmp 11) rfl (w.heap.size + 1) rfl rfl (by repeat (first | exact HO.out | apply own_drew | apply own_drewN' | apply Own.alloc)) (by repeat (first | exact HV.out | apply rd_drew | apply rd_drewN | apply rd_alloc)) (by have := OK.out.nm; rw [msgP_length, putF_len]; omega) (PA.lt (by repeat (first | exact HH.out | apply PA.drew | apply PA.drewN | apply PA.alloc))) ?_
          intro v2 w2 ho hg
          have HG := Lib.hid (show PA _ p w2 ∧ Below w.heap.size w w2 from ⟨PA.grown (by repeat (first | exact HH.out | apply PA.drew | apply PA.drewN | apply PA.alloc)) hg (fun e => by have := Own.row (by repeat (first | exact HO.out | apply own_drew | apply own_drewN' | apply Own.alloc)) _ e; omega), below_grown (by repeat (first | exact HB.out | apply bl_drew | apply bl_drewN | apply bl_alloc)) hg (fun k hk => by have := Own.row (by repeat (first | exact HO.out | apply own_drew | apply own_drewN' | apply Own.alloc)) k hk; omega)⟩)
          rw [HF.out] at ho
          obtain ⟨b2, c2, rfl⟩ := ho.rd.shape
          clear HO HH HB
          have HO := Lib.hid ho
          have HH := Lib.hid HG.out.1
          have HB := Lib.hid HG.out.2
          clear ho hg HG
          refine hK.out _ _ ?_ (fun hHeld => ?_)
          · (try dsimp only); (repeat (first | exact HH.out | apply PA.drew | apply PA.drewN | apply PA.alloc))
          clear hK K
          try simp only [Act.put, List.setIfInBounds_toArray, List.set_cons_zero, List.set_cons_succ]
          refine wpAnyH_take (i := 6) (v := ?_) (by simp only [List.getElem?_toArray, List.getElem?_cons_succ, List.getElem?_cons_zero]; first | done | rfl) (by kernel_rfl) (by kernel_rfl) (by kernel_rfl) (fun _ _ _ h => h) (Or.inl ⟨by rfl, ?hy⟩) (by assumption) ?_
          case hy => (intro w hSw; (try dsimp only at hSw); have c5 := hSw.c5; have c6 := hSw.c6; go_simp; all_goals with_reducible rfl)
          try simp only [Act.put, List.setIfInBounds_toArray, List.set_cons_zero, List.set_cons_succ]
          refine wpAnyH_take (i := 7) (v := ?_) (by simp only [List.getElem?_toArray, List.getElem?_cons_succ, List.getElem?_cons_zero]; first | done | rfl) (by kernel_rfl) (by kernel_rfl) (by kernel_rfl) (fun _ _ _ h => h) (Or.inl ⟨by rfl, ?hy⟩) (by assumption) ?_
          case hy => (intro w hSw; (try dsimp only at hSw); have c5 := hSw.c5; have c6 := hSw.c6; go_simp; all_goals with_reducible rfl)
          try simp only [Act.put, List.setIfInBounds_toArray, List.set_cons_zero, List.set_cons_succ]
          refine wpAnyH_done (by kernel_rfl) ?_ _
          refine NoPanic.normal ?_
          go_wp2_with fail
          go_ret2
          exact ⟨_, rfl, HO.out.rd, HB.out⟩
        exact AllReadyH.nil
      exact AllReadyH.nil
    exact AllReadyH.nil
end Go.Proofs.Ytbhkcgnlegmjlaa
